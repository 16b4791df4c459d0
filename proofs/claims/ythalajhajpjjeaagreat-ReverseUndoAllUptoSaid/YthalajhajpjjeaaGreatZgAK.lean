/- Layer 24: rules, continued. · Layer 12: complements; layer 1 -/
import Derived.Test.YthalajhajpjjeaaGreatZgAF
import Derived.Test.YthalajhajpjjeaaGreatZgAA
import Derived.Test.YthalajhajpjjeaaGreatZgAJ
set_option linter.unusedVariables false
set_option linter.unusedSimpArgs false
section
set_option maxRecDepth 100000
set_option maxHeartbeats 4000000
open Go Go.Proofs
namespace Go.Abs
def iV (t:Types)(r:Rule):Int :=
 if graphF r.right.graph≠0 then graphF r.right.graph
 else if iB t r.right.graph=false then 13
 else if r.right.vars≠r.left.vars\/0<r.right.tests.length then 1
 else if 10<r.right.slots.length then 3
 else bQ (v7 t r.right) 0 r.right.slots.length
theorem Oe (t:Types)(ht:t.ok)(r:Rule):Pure Tryz.prog 223 [t.d,r.d] (dI (iV t r)):=by
 refine Tz.pK ⟨λ_=>false,λ_=>[]⟩ Tryz.func223 rfl (λQ hQ=>?_)
 have Y:=trivial
 refine wv (h:=aB (mO r.right.graph) wl ?_)
 refine dP (λh2=>?_) λh2=>?_
 .exact wv (h:=hQ _ _ (.inl (by simp [go_sem,iV,h2])))
 .have hg:=bS h2
  refine wo (h:=aB (Oc t r.right.graph) wl ?_)
  refine fA (λh4=>?_) λh4=>?_
  .exact wv (h:=hQ _ _ (.inl (by simp [go_sem,iV,h2,h4])))
  .refine fA (λh6=>?_) λh6=>?_
   .have hR:iV t r=1:=by unfold iV;rw [if_neg aD,if_neg (by simp [h4]),if_pos aD]
    exact wv (h:=hQ _ _ (.inl (by simp [go_sem,hR])))
   .have h6':¬ (r.right.vars≠r.left.vars\/0<r.right.tests.length):=by
     rintro (h|h)
     .exact h h6.1
     .have:=h6.2;simp [this] at h
    refine fA (λh8=>?_) λh8=>?_
    .have hR:iV t r=3:=by unfold iV;rw [if_neg aD,if_neg (by simp [h4]),if_neg h6',if_pos aD]
     exact wv (h:=hQ _ _ (.inl (by simp [go_sem,hR])))
    .have hR:iV t r=bQ (v7 t r.right) 0 r.right.slots.length:=by unfold iV;rw [if_neg aD,if_neg (by simp [h4]),if_neg h6',if_neg aD]
     refine wo (h:=bD (λi e H=>(e 2=.adr t.c/\e 3=.adr r.c/\e 46=dI r.right.slots.length/\e 47=dI i)/\(i<=r.right.slots.length)/\(bQ (v7 t r.right) i (r.right.slots.length - i)=iV t r)) (λi=>r.right.slots.length - i) 0 ⟨wg,wi,(by exact hR.symm)⟩ λI1 hI1 i e H hi1=>?_)
     obtain ⟨E1,hi,hF⟩:=hi1
     have Y:=wa Y E1
     refine dP (λh11=>?_) λh11=>?_
     .have hst:=hF
      rw [eI _ h11] at hst
      have Y:=wa Y h11
      refine wv (h:=aB (Qw t ht r aD i h11) wl ?_)
      refine dP (λh14=>?_) λh14=>?_
      .rw [if_pos aD] at hst
       exact wv (h:=hQ _ _ (.inl (by simp [go_sem,hst])))
      .rw [if_neg aD] at hst
       exact wo (h:=wx hI1 (i+1) ⟨wg,wj,(by exact hst)⟩)
     .exact wv (h:=hQ _ _ (.inl (by rw [<- hF,(aD:r.right.slots.length - i=0)];rfl)))
def bJ (l:List Int)(n:Nat):List Int:=((List.range n).filter λ(i:Nat)=>!mem l i).map λ(b:Nat)=>(b:Int)
theorem lR {l:List Int}{n:Nat}{x:Int}(h:x∈bJ l n):0<=x/\x<n:=by
 simp only [bJ,bB,g6,bK] at h
 obtain ⟨a,⟨h1,_⟩,rfl⟩:=h
 omega
theorem lS (l:List Int)(n:Nat):(bJ l n).length<=n:=by
 unfold bJ;rw [aV];exact fC (mH _ _) bW
theorem DM (l:List Int)(n:Nat)(hn:n<=1000000):Pure Tryz.prog 280 [dLI l,dI n] (dLI (bJ l n)):=by
 refine Tz.pK ⟨λt=>t==5,λ_=>[]⟩ Tryz.func280 rfl (λQ hQ=>?_)
 have Y:=trivial
 refine wv (h:=bD (λi e H=>∃ xs:List Int,(e 0=dLI l/\e 7=dI n/\e 5=.own 0 xs.length/\e 8=dI i)/\(H.get 0=some ⟨3,1,xs.map cI,false⟩)/\(0<H.next)/\(i<=n)/\(xs.length<=i)/\(xs=((List.range i).filter λ(b:Nat)=>!mem l b).map (λ(b:Nat)=>(b:Int)))) (λi=>n - i) 0 ⟨([]),wg,wn,wn,wi,bW,(by rfl)⟩ λI0 hI0 i e H hi0=>?_)
 obtain ⟨xs,E0,g0_0,n0_0,hi,hl,hx⟩:=hi0
 have Y:=wa Y (wa E0 (wa g0_0 (b8 n0_0)))
 refine dP (λh3=>?_) λh3=>?_
 .have Y:=wa Y h3
  refine wo (h:=aB (fR l i) wl ?_)
  refine fA (λh5=>?_) λh5=>?_
  .have Y:=wa Y h5
   exact wo (h:=wx hI0 (i+1) ⟨(xs++(if (!mem l i)=true then [(i:Int)] else [])),wg,wn,wn,wj,(by rw [aL];split<;>simp<;>omega),(by rw [dG,<- hx])⟩)
  .have Y:=wa Y h5
   exact wo (h:=wx hI0 (i+1) ⟨(xs++(if (!mem l i)=true then [(i:Int)] else [])),wg,wn,wn,wj,(by rw [aL];split<;>simp<;>omega),(by rw [dG,<- hx])⟩)
 .exact wv (h:=hQ _ _ (by simp [go_sem,Y,bJ];rw [hx,(aD:i=n)];simp))
def keptF (r:Rule):Int :=
 if subF r.left.graph r.keep≠0 then subF r.left.graph r.keep
 else if eV (cY r.left.graph r.keep) r.right.graph r.into≠0 then eV (cY r.left.graph r.keep) r.right.graph r.into
 else if Gy (cY r.left.graph r.keep) r.right.graph r.into=false then 11 else 0
structure Rule.ok (r:Rule):Prop where
 name:r.name.size<=100000
 k1:r.keep.nodes.length<=1000000
 k2:r.keep.edges.length<=1000000
 i1:r.into.nodes.length<=1000000
 i2:r.into.edges.length<=1000000
 cond:r.cond.ok
 size:r.cond.size<=1000000
theorem Qx (r:Rule)(k:r.ok):Pure Tryz.prog 224 [r.d] (dI (keptF r)):=by
 obtain ⟨_,f,e,i,g,_,_⟩:=k
 refine Tz.pK ⟨λt=>t==3||t==4,λ_=>[]⟩ Tryz.func224 rfl (λQ b=>?_)
 have Y:=trivial
 refine wv (h:=aB (CW r.left.graph r.keep f e) wl ?_)
 refine dP (λa=>?_) λa=>?_
 .have Y:=wa Y (wa a @keptF.eq_1)
  exact wv (h:=b _ _ wy)
 .refine wv (h:=aB (pA (cY r.left.graph r.keep) r.right.graph r.into) wl ?_)
  refine dP (λc=>?_) λc=>?_
  .have Y:=wa Y (wa a (wa c @keptF.eq_1))
   exact wv (h:=b _ _ wy)
  .refine wo (h:=aB (sH (cY r.left.graph r.keep) r.right.graph r.into i g) wl ?_)
   refine fA (λj=>?_) λj=>?_
   .have Y:=wa Y (wa a (wa c (wa j @keptF.eq_1)))
    exact wv (h:=b _ _ wy)
   .have Y:=wa Y (wa a (wa c (wa j @keptF.eq_1)))
    exact wv (h:=b _ _ wy)
def absB (t:Types)(g:Graph)(i:Int):Bool:=((t.nodes[(gN g i).toNat]?).map (·.abs)).getD false
def unfitB (t:Types)(g:Graph)(k:Int):Bool:=!oF t (g.edges[k.toNat]?.getD cF).type (gN g (g.edges[k.toNat]?.getD cF).from_) (gN g (g.edges[k.toNat]?.getD cF).to_)
def yU (t:Types)(g:Graph)(nodes edges:List Int):Bool:=(!(nodes.any (absB t g)))&&!(edges.any (unfitB t g))
theorem n8 {t:Types}{g:Graph}(f:graphF g=0)(h:iB t g=true):(∀ a∈g.nodes,0<=a/\a<t.nodes.length)/\∀ x∈g.edges,(0<=x.type/\x.type<t.edges.length)/\(0<=x.from_/\x.from_<g.nodes.length)/\(0<=x.to_/\x.to_<g.nodes.length):=by
 obtain ⟨e,d⟩:=eK f
 simp [iB] at h
 exact ⟨λa c=>⟨(e a c).1,h.1 a c⟩,λx b=>⟨⟨(d x b).1.1,h.2 x b⟩,(d x b).2⟩⟩
theorem HI (t:Types)(g:Graph)(l:graphF g=0)(j:iB t g=true)(i:Int)(f:0<=i)(e:i<g.nodes.length):Pure Tryz.prog 282 [dI i,.adr t.c,.adr g.c] (.bool (absB t g i)):=by
 have a:i.toNat<g.nodes.length:=aD
 have d:=(n8 l j).1 _ (aC a)
 have b:g.nodes[i.toNat].toNat<t.nodes.length:=aD
 refine Tz.pK ⟨λ_=>false,λ_=>[]⟩ Tryz.func282 rfl (λQ k=>?_)
 have Y:=wa (aA a) (aA b)
 have Y:=wa Y (wa @absB.eq_1 @gN.eq_1)
 exact wo (h:=k _ _ wy)
theorem HG (t:Types)(d:t.ok)(g:Graph)(n:graphF g=0)(l:iB t g=true)(k:Int)(i:0<=k)(f:k<g.edges.length):Pure Tryz.prog 283 [dI k,.adr g.c,.adr t.c] (.bool (unfitB t g k)):=by
 have b:k.toNat<g.edges.length:=aD
 have e:=(n8 n l).2 _ (aC b)
 have j:g.edges[k.toNat].from_.toNat<g.nodes.length:=aD
 have a:g.edges[k.toNat].to_.toNat<g.nodes.length:=aD
 refine Tz.pK ⟨λt=>t==5,λ_=>[]⟩ Tryz.func283 rfl (λQ m=>?_)
 have Y:=wa (aA b) (wa (aA j) (aA a))
 refine wo (h:=aI (Fj t d _ _ _) wl ?_)
 have Y:=wa Y (wa @unfitB.eq_1 @gN.eq_1)
 exact wo (h:=m _ _ wy)
theorem J6 (t:Types)(o:t.ok)(g:Graph)(n:graphF g=0)(m:iB t g=true)(a b:List Int)(e:∀ i∈a,0<=i/\i<g.nodes.length)(l:∀ k∈b,0<=k/\k<g.edges.length):Pure Tryz.prog 201 [t.d,g.d,dLI a,dLI b] (.bool (yU t g a b)):=by
 have w:=gC a 282 [.adr t.c,.adr g.c] (absB t g) (by simp [go_sem]) (by simp [go_sem]) (λi j=>HI t g n m i (e i j).1 (e i j).2)
 have s:=gC b 283 [.adr g.c,.adr t.c] (unfitB t g) (by simp [go_sem]) (by simp [go_sem]) (λk f=>HG t o g n m k (l k f).1 (l k f).2)
 have r:yU t g a b=((!(a.any (absB t g)))&&!(b.any (unfitB t g))):=rfl
 generalize a.any (absB t g)=u at *
 generalize b.any (unfitB t g)=v at *
 rw [r]
 refine Tz.pK ⟨λ_=>false,λ_=>[]⟩ Tryz.func201 rfl (λQ q=>?_)
 have Y:=trivial
 refine wo (h:=aB (w) wl ?_)
 refine wo (h:=aH (λp=>s) (λp=>wl) ?_)
 exact wo (h:=q _ _ wy)
def Rule.freshN (r:Rule):List Int:=bJ r.into.nodes r.right.graph.nodes.length
def Rule.freshE (r:Rule):List Int:=bJ r.into.edges r.right.graph.edges.length
theorem J7 (r:Rule)(c:r.right.graph.nodes.length<=1000000)(b:r.right.graph.edges.length<=1000000):Pure Tryz.prog 225 [r.d] (.tup [dLI r.freshN,dLI r.freshE]):=by
 refine Tz.pK ⟨λ_=>false,λ_=>[]⟩ Tryz.func225 rfl (λQ a=>?_)
 have Y:=trivial
 refine wo (h:=aI (DM r.into.nodes _ c) wl ?_)
 refine wo (h:=aI (DM r.into.edges _ b) wl ?_)
 have Y:=wa Y (wa @Rule.freshN.eq_1 @Rule.freshE.eq_1)
 exact wo (h:=a _ _ wy)
def ruleF (t:Types)(r:Rule):Int :=
 if (b9 t).2≠0 then (b9 t).2
 else if mA r.name=false then 2
 else if c6 t r.left≠0 then c6 t r.left
 else if iV t r≠0 then iV t r
 else if keptF r≠0 then keptF r
 else if yU t r.right.graph r.freshN r.freshE=false then 13
 else condF t r.left r.cond
theorem C3 {t:Types}{r:Rule}(h:iV t r=0):graphF r.right.graph=0/\iB t r.right.graph=true:=by
 unfold iV at h
 split at h
 .rename_i h1;exact absurd h h1
 .rename_i h1
  split at h
  .cases h
  .rename_i h2;exact ⟨aD,by simpa using h2⟩
theorem Of (t:Types)(k:t.ok)(r:Rule)(m:r.ok):Pure Tryz.prog 136 [t.d,r.d] (dI (ruleF t r)):=by
 have l:=w9 t k r.left r.cond m.cond m.size
 rw [Cond.c_eq] at l
 refine Tz.pK ⟨λ_=>false,λ_=>[]⟩ Tryz.func136 rfl (λQ e=>?_)
 have Y:=trivial
 refine wv (h:=aB (mI t k) wl ?_)
 refine dP (λc=>?_) λc=>?_
 .have Y:=wa Y (wa c @ruleF.eq_1)
  exact wv (h:=e _ _ wy)
 .refine wo (h:=aB (oU r.name m.name) wl ?_)
  refine fA (λf=>?_) λf=>?_
  .have Y:=wa Y (wa c (wa f @ruleF.eq_1))
   exact wv (h:=e _ _ wy)
  .refine wv (h:=aB (nW t k r.left) wl ?_)
   refine dP (λj=>?_) λj=>?_
   .have Y:=wa Y (wa c (wa f (wa j @ruleF.eq_1)))
    exact wv (h:=e _ _ wy)
   .refine wv (h:=aB (Oe t k r) wl ?_)
    refine dP (λa=>?_) λa=>?_
    .have Y:=wa Y (wa c (wa f (wa j (wa a @ruleF.eq_1))))
     exact wv (h:=e _ _ wy)
    .have hg:=C3 a
     have o:=bS hg.1
     refine wv (h:=aB (Qx r m) wl ?_)
     refine dP (λb=>?_) λb=>?_
     .have Y:=wa Y (wa c (wa f (wa j (wa a (wa b @ruleF.eq_1)))))
      exact wv (h:=e _ _ wy)
     .refine wv (h:=aB (J7 r aD aD) wl ?_)
      refine wo (h:=aB (J6 t k r.right.graph hg.1 hg.2 r.freshN r.freshE (λi n=>lR n) (λi n=>lR n)) wl ?_)
      refine fA (λg=>?_) λg=>?_
      .have Y:=wa Y (wa c (wa f (wa j (wa a (wa b (wa g @ruleF.eq_1))))))
       exact wv (h:=e _ _ wy)
      .refine wv (h:=aB (l) wl ?_)
       have Y:=wa Y (wa c (wa f (wa j (wa a (wa b (wa g @ruleF.eq_1))))))
       exact wv (h:=e _ _ wy)
def jX (im keep:List Int):List Int:=((List.range im.length).filter λ(i:Nat)=>!mem keep i).map λi=>im[i]?.getD 0
def zG (g:Graph)(me gone:List Int)(k:Nat):Bool:=!mem me k&&(mem gone (g.edges[k]?.getD cF).from_||mem gone (g.edges[k]?.getD cF).to_)
def AN (g:Graph)(me gone:List Int):List Int:=((List.range g.edges.length).filter (zG g me gone)).map λ(b:Nat)=>(b:Int)
def uL (im keep:List Int)(i k:Nat):Bool:=decide (im[i]?.getD 0=im[k]?.getD 0)&&(!mem keep i||!mem keep k)
def mB (im keep:List Int)(i j:Nat):List (Nat × Nat):=((List.range j).filter λb=>uL im keep i (i+1+b)).map λb=>(i,i+1+b)
def GV (im keep:List Int)(n:Nat):List (Nat × Nat):=(List.range n).flatMap λi=>mB im keep i (im.length - (i+1))
def rP (im keep:List Int):List (Nat × Nat):=GV im keep im.length
def cPr (p:Nat × Nat):List D:=[dI p.1,dI p.2]
@[go_sem] theorem VL (p:Nat × Nat):D.clL (cPr p)=true:=rfl
@[go_sem] theorem aaN (l:List (Nat × Nat)):D.clLL (l.map cPr)=true:=dK _ VL l
theorem Nc (a keep:List Int)(i j:Nat):mB a keep i (j+1)=mB a keep i j++(if uL a keep i (i+1+j)=true then [(i,i+1+j)] else []):=by
 unfold mB
 rw [c7,k6,List.map_append]
 congr 1
 by_cases h:uL a keep i (i+1+j)=true<;>simp [h]
theorem Dn (a keep:List Int)(n:Nat):GV a keep (n+1)=GV a keep n++mB a keep n (a.length - (n+1)):=by
 unfold GV;rw [c7,List.flatMap_append];simp
theorem Bf (a keep:List Int)(i j:Nat):(mB a keep i j).length<=j:=by
 unfold mB;rw [aV];exact fC (mH _ _) bW
theorem vM (im keep:List Int):∀ n,(GV im keep n).length<=n * im.length
 | 0=>by simp [GV]
 | n+1=>by
  have h1:=vM im keep n
  have h2:=Bf im keep n (im.length - (n+1))
  rw [Dn,aL,Nat.add_mul]
  omega
theorem pY (b keep:List Int){i:Nat}(h:i<b.length):((List.range (i+1)).filter λ(i:Nat)=>!mem keep i).map (λi=>b[i]?.getD 0)=((List.range i).filter λ(i:Nat)=>!mem keep i).map (λi=>b[i]?.getD 0)++(if (!mem keep i)=true then [b[i]] else []):=by
 rw [c7,k6,List.map_append]
 congr 1
 by_cases a:(!mem keep i)=true
 .rw [if_pos a];simp at a;simp [a,h]
 .rw [if_neg a];simp at a;simp [a]
theorem vI {c keep:List Int}{x:Int}:x∈jX c keep↔∃ i:Nat,i<c.length/\mem keep i=false/\c[i]?=some x:=by
 unfold jX
 simp only [bB,g6,bK,c9]
 constructor
 .rintro ⟨i,⟨a,d⟩,b⟩
  rw [aA a] at b
  exact ⟨i,a,d,by rw [aA a];exact congrArg some b⟩
 .rintro ⟨i,a,d,b⟩
  exact ⟨i,⟨a,d⟩,by rw [b];rfl⟩
def compG (l g:Graph)(keep m:Part):Int:=if eV l g m≠0 then eV l g m else subF l keep
def rG (l g:Graph)(keep m:Part):Int :=
 if compG l g keep m≠0 then compG l g keep m
 else if 0<(rP m.nodes keep.nodes).length+(rP m.edges keep.edges).length then 15
 else if 0<(AN g m.edges (jX m.nodes keep.nodes)).length then 14 else 0
def sP (l g:Graph)(keep m:Part):Part:=if rG l g keep m=0 then ⟨bJ (jX m.nodes keep.nodes) g.nodes.length,bJ (jX m.edges keep.edges) g.edges.length⟩ else ⟨[],[]⟩
theorem pT (l:List Int)(v:Int):Pure Tryz.prog 340 [dLI l,dI v] (.bool (mem l v)):=by
 refine Tz.pK ⟨λ_=>false,λ_=>[]⟩ Tryz.func340 rfl (λQ hQ=>?_)
 have Y:=trivial
 refine wv (h:=bD (λi e H=>(e 0=dLI l/\e 1=dI v/\e 5=dI i)/\(i<=l.length)/\(∀ j,j<i->l[j]?≠some v)) (λi=>l.length - i) 0 ⟨wg,wi,(by intro j hj;omega)⟩ λI0 hI0 i e H hi0=>?_)
 obtain ⟨E0,hi,hne⟩:=hi0
 have Y:=wa Y E0
 refine wv (h:=?_)
 repeat first|intro _|refine ⟨eO,?_⟩
 refine wq (λh2=>?_) λh2=>?_
 .have Y:=wa Y h2
  refine wv (h:=?_)
  repeat first|intro _|refine ⟨eO,?_⟩
  refine wq (λh4=>?_) λh4=>?_
  .refine wv (h:=?_)
   have hm:mem l v=true:=(mem_iff l v).2 (h4 ▸ aC h2)
   exact hQ _ _ (by simp [go_sem,hm])
  .exact wo (h:=wx hI0 (i+1) ⟨wg,wj,(by exact iQ hne (by rw [aA h2];simpa using h4))⟩)
 .refine wv (h:=?_)
  have hm:mem l v=false:=by rw [bH];intro h;obtain ⟨j,hj,he⟩:=aO ((mem_iff l v).1 h);exact hne j aD (by rw [aA hj,he])
  exact hQ _ _ (by simp [go_sem,hm])
theorem F3 (l:List Int)(n:Nat)(hn:n<=1000000):Pure Tryz.prog 253 [dI n,dLI l] (dLI (bJ l n)):=by
 refine Tz.pK ⟨λt=>t==5,λ_=>[]⟩ Tryz.func253 rfl (λQ hQ=>?_)
 have Y:=trivial
 refine wv (h:=bD (λi e H=>∃ xs:List Int,(e 1=dLI l/\e 0=dI n/\e 5=.own 0 xs.length/\e 6=dI i)/\(H.get 0=some ⟨3,1,xs.map cI,false⟩)/\(0<H.next)/\(i<=n)/\(xs.length<=i)/\(xs=((List.range i).filter λ(b:Nat)=>!mem l b).map (λ(b:Nat)=>(b:Int)))) (λi=>n - i) 0 ⟨([]),wg,wn,wn,wi,bW,(by rfl)⟩ λI0 hI0 i e H hi0=>?_)
 obtain ⟨xs,E0,g0_0,n0_0,hi,hl,hx⟩:=hi0
 have Y:=wa Y (wa E0 (wa g0_0 (b8 n0_0)))
 refine dP (λh3=>?_) λh3=>?_
 .have Y:=wa Y h3
  refine wo (h:=aB (pT l i) wl ?_)
  refine fA (λh5=>?_) λh5=>?_
  .have Y:=wa Y h5
   exact wo (h:=wx hI0 (i+1) ⟨(xs++(if (!mem l i)=true then [(i:Int)] else [])),wg,wn,wn,wj,(by rw [aL];split<;>simp<;>omega),(by rw [dG,<- hx])⟩)
  .have Y:=wa Y h5
   exact wo (h:=wx hI0 (i+1) ⟨(xs++(if (!mem l i)=true then [(i:Int)] else [])),wg,wn,wn,wj,(by rw [aL];split<;>simp<;>omega),(by rw [dG,<- hx])⟩)
 .exact wv (h:=hQ _ _ (by simp [go_sem,Y,bJ];rw [hx,(aD:i=n)];simp))
theorem AZ (im keep:List Int)(hn:im.length<=1000000):Pure Tryz.prog 254 [dLI im,dLI keep] (dLI (jX im keep)):=by
 refine Tz.pK ⟨λt=>t==5,λ_=>[]⟩ Tryz.func254 rfl (λQ hQ=>?_)
 have Y:=trivial
 refine wv (h:=bD (λi e H=>∃ xs:List Int,(e 0=dLI im/\e 1=dLI keep/\e 5=.own 0 xs.length/\e 6=dI i)/\(H.get 0=some ⟨3,1,xs.map cI,false⟩)/\(0<H.next)/\(i<=im.length)/\(xs.length<=i)/\(xs=((List.range i).filter λ(b:Nat)=>!mem keep b).map (λi=>im[i]?.getD 0))) (λi=>im.length - i) 0 ⟨([]),wg,wn,wn,wi,bW,(by rfl)⟩ λI0 hI0 i e H hi0=>?_)
 obtain ⟨xs,E0,g0_0,n0_0,hi,hl,hx⟩:=hi0
 have Y:=wa Y (wa E0 (wa g0_0 (b8 n0_0)))
 refine fA (λh3=>?_) λh3=>?_
 .have Y:=wa Y (wa h3 (aA h3))
  refine wo (h:=aB (pT keep i) wl ?_)
  refine fA (λh5=>?_) λh5=>?_
  .have Y:=wa Y h5
   exact wo (h:=wx hI0 (i+1) ⟨(xs++(if (!mem keep i)=true then [im[i]] else [])),wg,wn,wn,wj,(by rw [aL];split<;>simp<;>omega),(by rw [pY _ _ h3,<- hx])⟩)
  .have Y:=wa Y h5
   exact wo (h:=wx hI0 (i+1) ⟨(xs++(if (!mem keep i)=true then [im[i]] else [])),wg,wn,wn,wj,(by rw [aL];split<;>simp<;>omega),(by rw [pY _ _ h3,<- hx])⟩)
 .refine wv (h:=?_)
  have hX:jX im keep=xs:=by rw [hx,(aD:i=im.length)];rfl
  exact hQ _ _ (by simp [go_sem,Y,hX])
theorem Ng {g:Graph}{me gone:List Int}{k:Nat}(h:k<g.edges.length):zG g me gone k=(!mem me k&&(mem gone g.edges[k].from_||mem gone g.edges[k].to_)):=by
 unfold zG;rw [aA h];rfl
theorem F5 (l g:Graph)(keep m:Part)(hn:m.nodes.length<=1000000)(hg:g.edges.length<=1000000):Pure Tryz.prog 252 [l.d,g.d,keep.d,m.d] (dLI (AN g m.edges (jX m.nodes keep.nodes))):=by
 obtain ⟨go,hgo⟩:=dR (jX m.nodes keep.nodes)
 refine Tz.pK ⟨λt=>t==9,λ_=>[]⟩ Tryz.func252 rfl (λQ hQ=>?_)
 have Y:=hgo
 refine wv (h:=aB (AZ m.nodes keep.nodes hn) wl ?_)
 refine wv (h:=bD (λk e H=>∃ xs:List Int,(e 5=.adr g.c/\e 7=.adr m.c/\e 10=dLI go/\e 9=.own 0 xs.length/\e 11=dI k)/\(H.get 0=some ⟨3,1,xs.map cI,false⟩)/\(0<H.next)/\(k<=g.edges.length)/\(xs.length<=k)/\(xs=((List.range k).filter (zG g m.edges go)).map (λ(b:Nat)=>(b:Int)))) (λk=>g.edges.length - k) 0 ⟨([]),wg,wn,wn,wi,bW,(by rfl)⟩ λI0 hI0 k e H hi0=>?_)
 obtain ⟨xs,E0,g0_0,n0_0,hi,hl,hx⟩:=hi0
 have Y:=wa Y (wa E0 (wa g0_0 (b8 n0_0)))
 refine fA (λh4=>?_) λh4=>?_
 .have hdb:=Ng (me:=m.edges) (gone:=go) h4
  have c1:=pT go g.edges[k].from_
  have c2:=pT go g.edges[k].to_
  have Y:=wa Y (wa h4 (wa (aA h4) hdb))
  refine wo (h:=aB (pT m.edges k) wl ?_)
  refine wo (h:=aH (λhg=>c1) (λhg=>wl) ?_)
  refine wo (h:=aH (λhg=>c2) (λhg=>wl) ?_)
  refine fA (λh6=>?_) λh6=>?_
  .have Y:=wa Y h6
   exact wo (h:=wx hI0 (k+1) ⟨(xs++(if zG g m.edges go k=true then [(k:Int)] else [])),wg,wn,wn,wj,(by rw [aL];split<;>simp<;>omega),(by rw [dG,<- hx])⟩)
  .have Y:=wa Y h6
   exact wo (h:=wx hI0 (k+1) ⟨(xs++(if zG g m.edges go k=true then [(k:Int)] else [])),wg,wn,wn,wj,(by rw [aL];split<;>simp<;>omega),(by rw [dG,<- hx])⟩)
 .refine wv (h:=?_)
  have hX:AN g m.edges go=xs:=by rw [hx,(aD:k=g.edges.length)];rfl
  exact hQ _ _ (by simp [go_sem,Y,hX])
theorem Mf (l g:Graph)(keep m:Part)(c:keep.nodes.length<=1000000):Pure Tryz.prog 250 [l.d,g.d,keep.d,m.d] (dI (compG l g keep m)):=by
 refine Tz.pK ⟨λ_=>false,λ_=>[]⟩ Tryz.func250 rfl (λQ b=>?_)
 have Y:=trivial
 refine wv (h:=aB (tK l g m) wl ?_)
 refine dP (λa=>?_) λa=>?_
 .have Y:=wa Y (wa a @compG.eq_1)
  exact wv (h:=b _ _ wy)
 .refine wv (h:=aB (yN l keep) wl ?_)
  have Y:=wa Y (wa a @compG.eq_1)
  exact wv (h:=b _ _ wy)
theorem SE {a keep:List Int}{i k:Nat}(c:i<a.length)(b:k<a.length):uL a keep i k=(decide (a[i]=a[k])&&(!mem keep i||!mem keep k)):=by
 unfold uL;rw [aA c,aA b];rfl
theorem r3 (a keep:List Int){i k:Nat}(h:i+1<=k):mB a keep i (k+1 - (i+1))=mB a keep i (k - (i+1))++(if uL a keep i k=true then [(i,k)] else []):=by
 rw [show k+1 - (i+1)=(k - (i+1))+1 by omega,Nc,show i+1+(k - (i+1))=k by omega]
theorem u4 (im keep:List Int)(hn:im.length<=1000):Pure Tryz.prog 251 [dLI im,dLI keep] (.list ((rP im keep).map cPr)):=by
 refine Tz.pK ⟨λt=>t==5,λ_=>[]⟩ Tryz.func251 rfl (λQ hQ=>?_)
 have Y:=trivial
 refine wv (h:=bD (λi e H=>∃ xs:List (Nat × Nat),(e 0=dLI im/\e 1=dLI keep/\e 5=.own 0 xs.length/\e 6=dI i)/\(H.get 0=some ⟨354,2,xs.map cPr,false⟩)/\(0<H.next)/\(i<=im.length)/\(xs=GV im keep i)) (λi=>im.length - i) 0 ⟨([]),wg,wn,wn,wi,(by rfl)⟩ λI0 hI0 i e H hi0=>?_)
 obtain ⟨xs,E0,g0_0,n0_0,hi,hx⟩:=hi0
 have Y:=wa Y (wa E0 (wa g0_0 (b8 n0_0)))
 refine fA (λh3=>?_) λh3=>?_
 .have Y:=wa Y (wa h3 (aA h3))
  refine wo (h:=bD (λk e H=>∃ ys:List (Nat × Nat),(e 0=dLI im/\e 1=dLI keep/\e 5=.own 0 ys.length/\e 6=dI i/\e 7=dI k)/\(H.get 0=some ⟨354,2,ys.map cPr,false⟩)/\(0<H.next)/\(i+1<=k)/\(k<=im.length)/\(ys=xs++mB im keep i (k - (i+1)))/\(ys.length<=1000000)) (λk=>im.length - k) (i+1) ⟨xs,wg,wn,wn,wi,wi,(by simp [mB]),(by have:=vM im keep i;have:i * im.length<=1000 * 1000:=j4 aD hn;rw [hx];omega)⟩ λI2 hI2 k e H hi2=>?_)
  obtain ⟨ys,E2,g0_2,n0_2,hk1,hk2,hy,hyl⟩:=hi2
  have Y:=wa Y (wa E2 (wa g0_2 (b8 n0_2)))
  refine fA (λh6=>?_) λh6=>?_
  .have hd:=SE (keep:=keep) h3 h6
   have hyl2:(ys++(if uL im keep i k=true then [(i,k)] else [])).length<=1000000:=by
    have e1:ys++(if uL im keep i k=true then [(i,k)] else [])=GV im keep i++mB im keep i (k+1 - (i+1)):=by rw [r3 _ _ aD,<- List.append_assoc,hy,hx]
    rw [e1,aL]
    have h1:=vM im keep i
    have h2:=Bf im keep i (k+1 - (i+1))
    have h3:i * im.length+im.length<=1000 * 1000:=by
     have:=j4 (aD:i+1<=1000) hn
     rw [Nat.add_mul] at this;omega
    omega
   have Y:=wa Y (wa h3 (wa (aA h3) (wa h6 (aA h6))))
   refine wo (h:=dL (λhg=>pT keep i) (λhg=>wl) ?_)
   refine wo (h:=dL (λhg=>pT keep k) (λhg=>wl) ?_)
   refine fA (λh8=>?_) λh8=>?_
   .have hdt:uL im keep i k=true:=by rw [hd];simpa using h8
    have Y:=wa Y (wa hdt @cPr.eq_1)
    exact wo (h:=wx hI2 (k+1) ⟨(ys++(if uL im keep i k=true then [(i,k)] else [])),wg,wn,wn,wj,wj,(by rw [r3 _ _ aD,<- List.append_assoc,<- hy]),(by exact hyl2)⟩)
   .have hdf:uL im keep i k=false:=by rw [hd,bH];intro hb;simp at hb;simp_all
    have Y:=wa Y hdf
    exact wo (h:=wx hI2 (k+1) ⟨(ys++(if uL im keep i k=true then [(i,k)] else [])),wg,wn,wn,wj,wj,(by rw [r3 _ _ aD,<- List.append_assoc,<- hy]),(by exact hyl2)⟩)
  .have hJ:k=im.length:=aD
   subst hJ
   subst hy
   exact wo (h:=wx hI0 (i+1) ⟨(xs++mB im keep i (im.length - (i+1))),wg,wn,wn,wj,(by rw [Dn,<- hx])⟩)
 .have hX:rP im keep=xs:=by rw [hx,(aD:i=im.length)];rfl
  exact wv (h:=hQ _ _ (by simp [go_sem,Y,hX]))
theorem Cr {a keep:List Int}(h:a.length<=1000):(rP a keep).length<=1000000:=by
 have c:=vM a keep a.length
 have b:a.length * a.length<=1000 * 1000:=j4 h h
 unfold rP;omega
theorem R2 (l g:Graph)(keep m:Part)(p:keep.nodes.length<=1000000)(e:m.nodes.length<=1000)(c:m.edges.length<=1000)(k:g.nodes.length<=1000000)(f:g.edges.length<=1000000):Pure Tryz.prog 151 [l.d,g.d,keep.d,m.d] (.tup [(sP l g keep m).d,dI (rG l g keep m)]):=by
 have r:=Cr (keep:=keep.nodes) e
 have q:=Cr (keep:=keep.edges) c
 refine Tz.pK ⟨λt=>t==8,λ_=>[]⟩ Tryz.func151 rfl (λQ i=>?_)
 have Y:=trivial
 refine wv (h:=aB (Mf l g keep m p) wl ?_)
 refine dP (λj=>?_) λj=>?_
 .have a:rG l g keep m=compG l g keep m:=if_pos j
  have b:sP l g keep m=⟨[],[]⟩:=if_neg (by rw [a];exact j)
  exact wv (h:=i _ _ (by simp [go_sem,a,b]))
 .have a:rG l g keep m=if 0<(rP m.nodes keep.nodes).length+(rP m.edges keep.edges).length then 15 else if 0<(AN g m.edges (jX m.nodes keep.nodes)).length then 14 else 0:=if_neg (by rw [j];simp)
  refine wo (h:=aI (u4 m.nodes keep.nodes e) wl ?_)
  refine wo (h:=aI (u4 m.edges keep.edges c) wl ?_)
  refine fA (λo=>?_) λo=>?_
  .rw [if_pos aD] at a
   have b:sP l g keep m=⟨[],[]⟩:=if_neg (by rw [a];simp)
   exact wv (h:=i _ _ (by simp [go_sem,a,b]))
  .rw [if_neg (by first|omega|simp [o])] at a
   refine wo (h:=aB (F5 l g keep m aD f) wl ?_)
   refine fA (λn=>?_) λn=>?_
   .rw [if_pos aD] at a
    have b:sP l g keep m=⟨[],[]⟩:=if_neg (by rw [a];simp)
    exact wv (h:=i _ _ (by simp [go_sem,a,b]))
   .rw [if_neg (by first|omega|simp [n])] at a
    have b:sP l g keep m=⟨bJ (jX m.nodes keep.nodes) g.nodes.length,bJ (jX m.edges keep.edges) g.edges.length⟩:=if_pos a
    refine wo (h:=aI (AZ m.nodes keep.nodes aD) wl ?_)
    refine wo (h:=aI (F3 (jX m.nodes keep.nodes) g.nodes.length k) wl ?_)
    refine wo (h:=aI (AZ m.edges keep.edges aD) wl ?_)
    refine wo (h:=aI (F3 (jX m.edges keep.edges) g.edges.length f) wl ?_)
    exact wo (h:=i _ _ (by simp [go_sem,a,b]))
theorem vQ (im keep:List Int)(hn:im.length<=1000):Pure Tryz.prog 329 [dLI im,dLI keep] (.list ((rP im keep).map cPr)):=by
 refine Tz.pK ⟨λt=>t==5,λ_=>[]⟩ Tryz.func329 rfl (λQ hQ=>?_)
 have Y:=trivial
 refine wo (h:=bD (λi e H=>∃ xs:List (Nat × Nat),(e 0=dLI im/\e 1=dLI keep/\e 9=dI im.length/\e 5=.own 0 xs.length/\e 10=dI i)/\(H.get 0=some ⟨354,2,xs.map cPr,false⟩)/\(0<H.next)/\(i<=im.length)/\(xs=GV im keep i)) (λi=>im.length - i) 0 ⟨([]),wg,wn,wn,wi,(by rfl)⟩ λI0 hI0 i e H hi0=>?_)
 obtain ⟨xs,E0,g0_0,n0_0,hi,hx⟩:=hi0
 have Y:=wa Y (wa E0 (wa g0_0 (b8 n0_0)))
 refine dP (λh3=>?_) λh3=>?_
 .have Y:=wa Y (wa h3 (aA h3))
  refine wo (h:=bD (λk e H=>∃ ys:List (Nat × Nat),(e 0=dLI im/\e 1=dLI keep/\e 9=dI im.length/\e 5=.own 0 ys.length/\e 6=dI i/\e 10=dI i/\e 7=dI k)/\(H.get 0=some ⟨354,2,ys.map cPr,false⟩)/\(0<H.next)/\(i+1<=k)/\(k<=im.length)/\(ys=xs++mB im keep i (k - (i+1)))/\(ys.length<=1000000)) (λk=>im.length - k) (i+1) ⟨xs,wg,wn,wn,wi,wi,(by simp [mB]),(by have:=vM im keep i;have:i * im.length<=1000 * 1000:=j4 aD hn;rw [hx];omega)⟩ λI2 hI2 k e H hi2=>?_)
  obtain ⟨ys,E2,g0_2,n0_2,hk1,hk2,hy,hyl⟩:=hi2
  have Y:=wa Y (wa E2 (wa g0_2 (b8 n0_2)))
  refine fA (λh6=>?_) λh6=>?_
  .have hd:=SE (keep:=keep) h3 h6
   have hyl2:(ys++(if uL im keep i k=true then [(i,k)] else [])).length<=1000000:=by
    have e1:ys++(if uL im keep i k=true then [(i,k)] else [])=GV im keep i++mB im keep i (k+1 - (i+1)):=by rw [r3 _ _ aD,<- List.append_assoc,hy,hx]
    rw [e1,aL]
    have h1:=vM im keep i
    have h2:=Bf im keep i (k+1 - (i+1))
    have h3:i * im.length+im.length<=1000 * 1000:=by
     have:=j4 (aD:i+1<=1000) hn
     rw [Nat.add_mul] at this;omega
    omega
   have Y:=wa Y (wa h3 (wa (aA h3) (wa h6 (aA h6))))
   refine wo (h:=dL (λhg=>fR keep i) (λhg=>wl) ?_)
   refine wo (h:=dL (λhg=>fR keep k) (λhg=>wl) ?_)
   refine fA (λh8=>?_) λh8=>?_
   .have hdt:uL im keep i k=true:=by rw [hd];simpa using h8
    have Y:=wa Y (wa hdt @cPr.eq_1)
    exact wo (h:=wx hI2 (k+1) ⟨(ys++(if uL im keep i k=true then [(i,k)] else [])),wg,wn,wn,wj,wj,(by rw [r3 _ _ aD,<- List.append_assoc,<- hy]),(by exact hyl2)⟩)
   .have hdf:uL im keep i k=false:=by rw [hd,bH];intro hb;simp at hb;simp_all
    have Y:=wa Y hdf
    exact wo (h:=wx hI2 (k+1) ⟨(ys++(if uL im keep i k=true then [(i,k)] else [])),wg,wn,wn,wj,wj,(by rw [r3 _ _ aD,<- List.append_assoc,<- hy]),(by exact hyl2)⟩)
  .have hJ:k=im.length:=aD
   subst hJ
   subst hy
   exact wo (h:=wx hI0 (i+1) ⟨(xs++mB im keep i (im.length - (i+1))),wg,wn,wn,wj,(by rw [Dn,<- hx])⟩)
 .have hX:rP im keep=xs:=by rw [hx,(aD:i=im.length)];rfl
  exact wv (h:=hQ _ _ (by simp [go_sem,Y,hX]))
def tP (n:Nat)(l:List Int):List Bool:=l.foldl (λacc x=>acc.set x.toNat true) (List.replicate n false)
theorem Gn (n:Nat)(l:List Int)(x:Int):tP n (l++[x])=(tP n l).set x.toNat true:=by unfold tP;rw [Fe];rfl
theorem Df (n:Nat)(l:List Int):(tP n l).length=n:=by
 unfold tP
 have:∀ (l:List Int) (a:List Bool),a.length=n->(l.foldl (λb x=>b.set x.toNat true) a).length=n:=by
  intro l
  induction l with
  | nil=>intro a h;exact h
  | cons x l ih=>intro a h;exact ih _ (bX h)
 exact this l _ bW
theorem Q8 (n:Nat):∀ (l:List Int),(∀ x∈l,0<=x/\x<n)->∀ i:Nat,i<n->(tP n l)[i]?=some (mem l i):=by
 have:∀ (l:List Int) (a:List Bool),a.length=n->(∀ x∈l,0<=x/\x<n)->∀ i:Nat,i<n->(l.foldl (λacc x=>acc.set x.toNat true) a)[i]?=some (a[i]?.getD false||mem l i):=by
  intro l
  induction l with
  | nil=>intro a ha _ i hi;rw [List.foldl_nil,aA aD,zX];simp
  | cons x l ih =>
   intro a ha hl i hi
   have hx:=hl x bW
   rw [List.foldl_cons,ih _ (bX ha) (λy hy=>hl y (by simp [hy])) i hi]
   congr 1
   have hm:mem (x :: l) (i:Int)=(decide ((i:Int)=x)||mem l i):=by
    rw [aR,mem_iff,c4,mem_iff,decide_eq_true_eq,aU]
   rw [hm]
   by_cases he:x.toNat=i
   .subst he
    rw [List.getElem?_set_self aD]
    have:((x.toNat:Nat):Int)=x:=aD
    simp [this]
   .rw [List.getElem?_set_ne he]
    have:¬ ((i:Int)=x):=aD
    simp [this]
 intro l hl i hi
 unfold tP
 rw [this l _ bW hl i hi]
 simp [hi]
theorem xB (n:Nat)(hn:n<=1000000)(im keep:List Int)(hi1:im.length<=1000000)(him:∀ x∈im,0<=x/\x<n):Pure Tryz.prog 238 [dI n,dLI im,dLI keep] (dLI (bJ (jX im keep) n)):=by
 refine Tz.pK ⟨λt=>t==14||t==10,λ_=>[]⟩ Tryz.func238 rfl (λQ hQ=>?_)
 have Y:=trivial
 refine wo (h:=bD (λi e H=>∃ go:List Int,(e 0=dI n/\e 2=dLI keep/\e 15=dLI im/\e 16=dI im.length/\e 7=.own 0 n/\e 17=dI i)/\(H.get 0=some ⟨4,1,(tP n go).map cB,false⟩)/\(0<H.next)/\(i<=im.length)/\((tP n go).length=n)/\(go=((List.range i).filter λ(b:Nat)=>!mem keep b).map (λi=>im[i]?.getD 0))) (λi=>im.length - i) 0 ⟨([]),wg,(by simp [go_sem,tP,cB]),wn,wi,(by exact Df _ _),(by rfl)⟩ λI0 hI0 i e H hi0=>?_)
 obtain ⟨go,E0,g0_0,n0_0,hi,hgl,hx⟩:=hi0
 have Y:=wa Y (wa E0 (wa g0_0 (b8 n0_0)))
 refine dP (λh3=>?_) λh3=>?_
 .have hb:=him _ (aC h3)
  have hbl:im[i].toNat<(tP n go).length:=aD
  have Y:=wa Y (wa h3 (wa (aA h3) (aA hbl)))
  refine wo (h:=aB (fR keep i) wl ?_)
  refine fA (λh5=>?_) λh5=>?_
  .have Y:=wa Y h5
   exact wo (h:=wx hI0 (i+1) ⟨(go++(if (!mem keep i)=true then [im[i]] else [])),wg,(by simp [go_sem,Y,Gn,bY,cB]),wn,wj,(by exact Df _ _),(by rw [pY _ _ h3,<- hx])⟩)
  .have Y:=wa Y h5
   exact wo (h:=wx hI0 (i+1) ⟨(go++(if (!mem keep i)=true then [im[i]] else [])),wg,(by simp [go_sem,Y,Gn,bY,cB]),wn,wj,(by exact Df _ _),(by rw [pY _ _ h3,<- hx])⟩)
 .have hgo:jX im keep=go:=by rw [hx,(aD:i=im.length)];rfl
  have hgi:∀ x∈go,0<=x/\x<n:=λx hxm=>by
   rw [<- hgo,vI] at hxm
   obtain ⟨j,_,_,h⟩:=hxm
   exact him x (aK h)
  refine wo (h:=bD (λk e H=>∃ xs:List Int,∃ b10:Nat,(e 0=dI n/\e 2=dLI keep/\e 15=dLI im/\e 16=dI im.length/\e 30=.own 0 n/\e 31=dI n/\e 32=dI k/\e 10=.own b10 xs.length)/\(H.get 0=some ⟨4,1,(tP n go).map cB,false⟩)/\(0<H.next)/\(H.get b10=some ⟨3,1,xs.map cI,false⟩)/\(b10<H.next)/\(b10≠0)/\(k<=n)/\(xs.length<=k)/\(xs=((List.range k).filter λ(b:Nat)=>!mem go b).map (λ(b:Nat)=>(b:Int)))) (λk=>n - k) 0 ⟨([]),H.next,wg,wn,wn,wn,wn,aD,wi,bW,(by rfl)⟩ λI2 hI2 k e H hi2=>?_)
  obtain ⟨xs,b10,E2,g0_2,n0_2,gb10_2,nb10_2,hb0,hk,hl,hxx⟩:=hi2
  have di1:=dF (aD:0≠b10)
  have Y:=wa Y (wa E2 (wa g0_2 (wa (b8 n0_2) (wa gb10_2 (wa (b8 nb10_2) (wa hgl di1))))))
  refine dP (λh10=>?_) λh10=>?_
  .have hkm:k<(tP n go).length:=aD
   have hg:(tP n go)[k]=mem go k:=by have:=Q8 n go hgi k h10;rw [aA hkm] at this;exact Option.some.inj this
   have Y:=wa Y (wa h10 (wa (aA hkm) hg))
   refine fA (λh12=>?_) λh12=>?_
   .have Y:=wa Y h12
    exact wo (h:=wx hI2 (k+1) ⟨(xs++(if (!mem go k)=true then [(k:Int)] else [])),b10,wg,wn,wn,wn,wn,aD,wj,(by rw [aL];split<;>simp<;>omega),(by rw [dG,<- hxx])⟩)
   .have Y:=wa Y h12
    exact wo (h:=wx hI2 (k+1) ⟨(xs++(if (!mem go k)=true then [(k:Int)] else [])),b10,wg,wn,wn,wn,wn,aD,wj,(by rw [aL];split<;>simp<;>omega),(by rw [dG,<- hxx])⟩)
  .exact wv (h:=hQ _ _ (by simp [go_sem,Y,hgo,bJ];rw [hxx,(aD:k=n)];simp))
def gluC (l g:Graph)(keep m:Part):List D:=[dLI l.nodes,.list (l.edges.map Edge.c),dLI g.nodes,.list (g.edges.map Edge.c),dLI keep.nodes,dLI keep.edges,dLI m.nodes,dLI m.edges]
theorem Dq (l g:Graph)(keep m:Part)(c:keep.nodes.length<=1000000):Pure Tryz.prog 235 [.agg (gluC l g keep m)] (dI (compG l g keep m)):=by
 refine Tz.pK ⟨λ_=>false,λ_=>[]⟩ Tryz.func235 rfl (λQ b=>?_)
 have Y:=@gluC.eq_1
 refine wv (h:=aB (pA l g m) wl ?_)
 refine dP (λa=>?_) λa=>?_
 .have Y:=wa Y (wa a @compG.eq_1)
  exact wv (h:=b _ _ wy)
 .refine wv (h:=aB (x8 l keep c) wl ?_)
  have Y:=wa Y (wa a @compG.eq_1)
  exact wv (h:=b _ _ wy)
theorem Bh (l g:Graph)(keep m:Part)(hn:m.nodes.length<=1000000):Pure Tryz.prog 330 [.agg (gluC l g keep m)] (dLI (jX m.nodes keep.nodes)):=by
 refine Tz.pK ⟨λt=>t==3,λ_=>[]⟩ Tryz.func330 rfl (λQ hQ=>?_)
 have Y:=@gluC.eq_1
 refine wo (h:=bD (λi e H=>∃ xs:List Int,(e 1=.adr (gluC l g keep m)/\e 8=dLI m.nodes/\e 9=dI m.nodes.length/\e 3=.own 0 xs.length/\e 10=dI i)/\(H.get 0=some ⟨3,1,xs.map cI,false⟩)/\(0<H.next)/\(i<=m.nodes.length)/\(xs.length<=i)/\(xs=((List.range i).filter λ(b:Nat)=>!mem keep.nodes b).map (λi=>m.nodes[i]?.getD 0))) (λi=>m.nodes.length - i) 0 ⟨([]),wg,wn,wn,wi,bW,(by rfl)⟩ λI0 hI0 i e H hi0=>?_)
 obtain ⟨xs,E0,g0_0,n0_0,hi,hl,hx⟩:=hi0
 have Y:=wa Y (wa E0 (wa g0_0 (b8 n0_0)))
 refine dP (λh3=>?_) λh3=>?_
 .have Y:=wa Y (wa h3 (aA h3))
  refine wo (h:=aB (fR keep.nodes i) wl ?_)
  refine fA (λh5=>?_) λh5=>?_
  .have Y:=wa Y h5
   exact wo (h:=wx hI0 (i+1) ⟨(xs++(if (!mem keep.nodes i)=true then [m.nodes[i]] else [])),wg,wn,wn,wj,(by rw [aL];split<;>simp<;>omega),(by rw [pY _ _ h3,<- hx])⟩)
  .have Y:=wa Y h5
   exact wo (h:=wx hI0 (i+1) ⟨(xs++(if (!mem keep.nodes i)=true then [m.nodes[i]] else [])),wg,wn,wn,wj,(by rw [aL];split<;>simp<;>omega),(by rw [pY _ _ h3,<- hx])⟩)
 .refine wv (h:=?_)
  have hX:jX m.nodes keep.nodes=xs:=by rw [hx,(aD:i=m.nodes.length)];rfl
  exact hQ _ _ (by simp [go_sem,Y,hX])
theorem Ap (l g:Graph)(keep m:Part)(hn:m.nodes.length<=1000000)(hg:g.edges.length<=1000000):Pure Tryz.prog 237 [.agg (gluC l g keep m)] (dLI (AN g m.edges (jX m.nodes keep.nodes))):=by
 obtain ⟨go,hgo⟩:=dR (jX m.nodes keep.nodes)
 refine Tz.pK ⟨λt=>t==6||t==4,λ_=>[]⟩ Tryz.func237 rfl (λQ hQ=>?_)
 have Y:=wa hgo @gluC.eq_1
 refine wv (h:=aB ((by have:=Bh l g keep m hn;simp only [gluC] at this;exact this)) wl ?_)
 refine wo (h:=bD (λk e H=>∃ xs:List Int,(e 1=.adr (gluC l g keep m)/\e 3=dLI go/\e 11=.list (g.edges.map Edge.c)/\e 12=dI g.edges.length/\e 4=.own 0 xs.length/\e 13=dI k)/\(H.get 0=some ⟨3,1,xs.map cI,false⟩)/\(0<H.next)/\(k<=g.edges.length)/\(xs.length<=k)/\(xs=((List.range k).filter (zG g m.edges go)).map (λ(b:Nat)=>(b:Int)))) (λk=>g.edges.length - k) 0 ⟨([]),wg,wn,wn,wi,bW,(by rfl)⟩ λI0 hI0 k e H hi0=>?_)
 obtain ⟨xs,E0,g0_0,n0_0,hi,hl,hx⟩:=hi0
 have Y:=wa Y (wa E0 (wa g0_0 (b8 n0_0)))
 refine dP (λh4=>?_) λh4=>?_
 .have hdb:=Ng (me:=m.edges) (gone:=go) h4
  have c1:=fR go g.edges[k].from_
  have c2:=fR go g.edges[k].to_
  have Y:=wa Y (wa h4 (wa (aA h4) (wa hdb @Edge.c.eq_1)))
  refine wo (h:=aB (fR m.edges k) wl ?_)
  refine wo (h:=aH (λhg=>c1) (λhg=>wl) ?_)
  refine wo (h:=aH (λhg=>c2) (λhg=>wl) ?_)
  refine fA (λh6=>?_) λh6=>?_
  .have Y:=wa Y h6
   exact wo (h:=wx hI0 (k+1) ⟨(xs++(if zG g m.edges go k=true then [(k:Int)] else [])),wg,wn,wn,wj,(by rw [aL];split<;>simp<;>omega),(by rw [dG,<- hx])⟩)
  .have Y:=wa Y h6
   exact wo (h:=wx hI0 (k+1) ⟨(xs++(if zG g m.edges go k=true then [(k:Int)] else [])),wg,wn,wn,wj,(by rw [aL];split<;>simp<;>omega),(by rw [dG,<- hx])⟩)
 .refine wv (h:=?_)
  have hX:AN g m.edges go=xs:=by rw [hx,(aD:k=g.edges.length)];rfl
  exact hQ _ _ (by simp [go_sem,Y,hX])
theorem xM (l g:Graph)(keep m:Part)(c:m.nodes.length<=1000)(b:m.edges.length<=1000):Pure Tryz.prog 236 [.agg (gluC l g keep m)] (.tup [.list ((rP m.nodes keep.nodes).map cPr),.list ((rP m.edges keep.edges).map cPr)]):=by
 refine Tz.pK ⟨λ_=>false,λ_=>[]⟩ Tryz.func236 rfl (λQ a=>?_)
 have Y:=@gluC.eq_1
 refine wv (h:=aI (vQ m.nodes keep.nodes c) wl ?_)
 refine wv (h:=aI (vQ m.edges keep.edges b) wl ?_)
 exact wv (h:=a _ _ wy)
theorem zW {a b:Graph}{m:Part}(h:eV a b m=0):(∀ x∈m.nodes,0<=x/\x<b.nodes.length)/\∀ x∈m.edges,0<=x/\x<b.edges.length:=by
 obtain ⟨_,_,j,g⟩:=n4 h
 have d:eV a b m=(if bQ (lJ a b m) 0 a.nodes.length≠0 then bQ (lJ a b m) 0 a.nodes.length else bQ (iP a b m) 0 a.edges.length):=by
  obtain ⟨f,e,_,_⟩:=n4 h
  unfold eV;rw [if_neg (by simp [f]),if_neg (by simp [e]),if_neg aD]
 rw [d] at h
 split at h
 .rename_i h5;exact absurd h h5
 .rename_i h5
  constructor
  .intro x hx
   obtain ⟨i,c,rfl⟩:=aO hx
   have:=eP _ _ (aD:bQ (lJ a b m) 0 a.nodes.length=0) i aD aD
   unfold lJ at this
   rw [aA c] at this
   simp only [Option.getD_some] at this
   split at this<;>omega
  .intro x hx
   obtain ⟨i,c,rfl⟩:=aO hx
   have:=eP _ _ h i aD aD
   unfold iP at this
   rw [aA c] at this
   simp only [Option.getD_some] at this
   split at this<;>omega
theorem Ie (l g:Graph)(keep m:Part)(s:keep.nodes.length<=1000000)(i:m.nodes.length<=1000)(f:m.edges.length<=1000)(o:g.nodes.length<=1000000)(k:g.edges.length<=1000000):Pure Tryz.prog 140 [l.d,g.d,keep.d,m.d] (.tup [(sP l g keep m).d,dI (rG l g keep m)]):=by
 have v:=Cr (keep:=keep.nodes) i
 have u:=Cr (keep:=keep.edges) f
 refine Tz.pK ⟨λt=>t==8||t==10,λ_=>[]⟩ Tryz.func140 rfl (λQ n=>?_)
 have Y:=trivial
 refine wv (h:=aB ((by have:=Dq l g keep m s;simp only [gluC] at this;exact this)) wl ?_)
 refine dP (λe=>?_) λe=>?_
 .have b:rG l g keep m=compG l g keep m:=if_pos e
  have c:sP l g keep m=⟨[],[]⟩:=if_neg (by rw [b];exact e)
  exact wv (h:=n _ _ (by simp [go_sem,b,c]))
 .have b:rG l g keep m=if 0<(rP m.nodes keep.nodes).length+(rP m.edges keep.edges).length then 15 else if 0<(AN g m.edges (jX m.nodes keep.nodes)).length then 14 else 0:=if_neg (by rw [e];simp)
  have j:(∀ x∈m.nodes,0<=x/\x<g.nodes.length)/\∀ x∈m.edges,0<=x/\x<g.edges.length:=zW (a:=l) (by unfold compG at e;by_cases p:eV l g m=0;exact p;rw [if_pos p] at e;exact e)
  refine wv (h:=aB ((by have:=xM l g keep m i f;simp only [gluC] at this;exact this)) wl ?_)
  refine fA (λr=>?_) λr=>?_
  .rw [if_pos aD] at b
   have c:sP l g keep m=⟨[],[]⟩:=if_neg (by rw [b];simp)
   exact wv (h:=n _ _ (by simp [go_sem,b,c]))
  .rw [if_neg (by first|omega|simp [r])] at b
   refine wo (h:=aB ((by have:=Ap l g keep m aD k;simp only [gluC] at this;exact this)) wl ?_)
   refine fA (λq=>?_) λq=>?_
   .rw [if_pos aD] at b
    have c:sP l g keep m=⟨[],[]⟩:=if_neg (by rw [b];simp)
    exact wv (h:=n _ _ (by simp [go_sem,b,c]))
   .rw [if_neg (by first|omega|simp [q])] at b
    have c:sP l g keep m=⟨bJ (jX m.nodes keep.nodes) g.nodes.length,bJ (jX m.edges keep.edges) g.edges.length⟩:=if_pos b
    refine wo (h:=aI (xB g.nodes.length o m.nodes keep.nodes aD j.1) wl ?_)
    refine wo (h:=aI (xB g.edges.length k m.edges keep.edges aD j.2) wl ?_)
    exact wo (h:=n _ _ (by simp [go_sem,b,c]))
def jT (s:ByteArray):Bool:=decide (40<(s.size:Int))
def t8 (x:Attr):Bool:=jT x.name||decide (25<(x.names.length:Int))||x.names.any jT
def qM (n:NodeTy):Bool:=jT n.name||n.attrs.any t8
def Ae (x:EdgeTy):Bool:=jT x.name
def iT (l:List NodeTy):Nat:=(l.map λn=>n.attrs.length).sum
def uK (t:Types):Bool:=decide ((t.nodes.length:Int)<=20)&&decide ((t.edges.length:Int)<=30)&&decide (iT t.nodes<=30)&&!(t.nodes.any qM)&&!(t.edges.any Ae)
@[go_sem,simp] theorem UC:iT []=0:=rfl
theorem KX (l:List NodeTy){i:Nat}(h:i<l.length):iT (l.take (i+1))=iT (l.take i)+l[i].attrs.length:=by
 unfold iT
 rw [aE h,List.map_append,List.sum_append];simp
theorem Pm (l:List NodeTy)(i:Nat):iT (l.take i)<=iT l:=by
 have:iT l=iT (l.take i)+iT (l.drop i):=by
  unfold iT
  rw [<- List.sum_append,<- List.map_append,List.take_append_drop]
 omega
theorem Rw {l:List NodeTy}{n:NodeTy}(h:n∈l):n.attrs.length<=iT l:=by
 induction l with
 | nil=>cases h
 | cons a l ih =>
  have e:iT (a :: l)=a.attrs.length+iT l:=by simp [iT]
  rcases aU.1 h with rfl|h
  .omega
  .have:=ih h;omega
theorem Cn {t:Types}(h:uK t=true):t.ok:=by
 simp [uK] at h
 obtain ⟨⟨⟨⟨j,i⟩,g⟩,f⟩,e⟩:=h
 refine ⟨λn b=>?_,λx a=>⟨?_⟩,aD,aD⟩
 .have hl:=Rw b
  have:=f n b
  simp [qM,jT] at this
  refine ⟨aD,λx a=>?_,aD⟩
  have c:=this.2 x a
  simp [t8,jT] at c
  refine ⟨aD,λs d=>?_,aD⟩
  have:=c.2 s d
  omega
 .have:=e x a
  simp [Ae,jT] at this
  omega
theorem C8 (t:Types)(ht:∀ n∈t.nodes,n.attrs.length<=1000000000000000):Pure Tryz.prog 36 [t.d] (.bool (uK t)):=by
 refine Tz.pK ⟨λt=>t==6,λ_=>[]⟩ Tryz.func36 rfl (λQ hQ=>?_)
 have Y:=trivial
 refine fA (λh1=>?_) λh1=>?_
 .refine wv (h:=?_)
  have hb:uK t=false:=by simp [uK];omega
  exact hQ _ _ (by simp [go_sem,hb])
 .refine wv (h:=bD (λi e H=>(e 1=.adr t.c/\e 3=dI (iT (t.nodes.take i))/\e 4=dI i)/\(i<=t.nodes.length)/\(iT (t.nodes.take i)<=30)/\((t.nodes.take i).any qM=false)) (λi=>t.nodes.length - i) 0 ⟨wg,wi,(by simp [iT]),(by rfl)⟩ λI0 hI0 i e H hi0=>?_)
  obtain ⟨E0,hi,hs,ha⟩:=hi0
  have Y:=wa Y E0
  refine fA (λh5=>?_) λh5=>?_
  .have hst:=KX t.nodes h5
   have hle:=Pm t.nodes (i+1)
   have hn:=ht _ (aC h5)
   have Y:=wa Y (wa h5 hst)
   refine fA (λh8=>?_) λh8=>?_
   .refine wv (h:=?_)
    have hb:uK t=false:=by
     rcases h8 with h8|h8
     .simp [uK];omega
     .have:t.nodes.any qM=true:=aX.2 ⟨_,aC h5,by simp [qM,jT];omega⟩
      simp [uK,this]
    exact hQ _ _ (by simp [go_sem,hb])
   .have hN:jT t.nodes[i].name=false:=by simp [jT];omega
    refine wv (h:=bD (λk e H=>(e 1=.adr t.c/\e 3=dI (iT (t.nodes.take (i+1)))/\e 4=dI i/\e 5=dI k)/\(k<=t.nodes[i].attrs.length)/\((t.nodes[i].attrs.take k).any t8=false)) (λk=>t.nodes[i].attrs.length - k) 0 ⟨wg,wi,(by rfl)⟩ λI2 hI2 k e H hi2=>?_)
    obtain ⟨E2,hk,hb⟩:=hi2
    have Y:=wa Y E2
    refine fA (λh11=>?_) λh11=>?_
    .have Y:=wa Y h11
     refine fA (λh14=>?_) λh14=>?_
     .refine wv (h:=?_)
      have hbad:t8 t.nodes[i].attrs[k]=true:=by simp [t8,jT];omega
      have hb2:t.nodes.any qM=true:=aX.2 ⟨_,aC h5,by unfold qM;rw [c4];right;exact aX.2 ⟨_,aC h11,hbad⟩⟩
      have hb3:uK t=false:=by simp [uK,hb2]
      exact hQ _ _ (by simp [go_sem,hb3])
     .have hM:jT t.nodes[i].attrs[k].name=false:=by simp [jT];omega
      refine wv (h:=bD (λm e H=>∃ j:Nat,(e 1=.adr t.c/\e 3=dI (iT (t.nodes.take (i+1)))/\e 4=dI i/\e 5=dI k/\e 6=.ptr j 1 0 0/\e 7=dI m)/\(H.get j=some ⟨118,4,[t.nodes[i].attrs[k].c],false⟩)/\(j<H.next)/\(m<=t.nodes[i].attrs[k].names.length)/\((t.nodes[i].attrs[k].names.take m).any jT=false)) (λm=>t.nodes[i].attrs[k].names.length - m) 0 ⟨H.next,wg,wn,wn,wi,(by rfl)⟩ λI4 hI4 m e H hi4=>?_)
      obtain ⟨j,E4,gj_4,nj_4,hm,hc⟩:=hi4
      have Y:=wa Y (wa E4 (wa gj_4 (b8 nj_4)))
      refine fA (λh17=>?_) λh17=>?_
      .have Y:=wa Y h17
       refine fA (λh19=>?_) λh19=>?_
       .refine wv (h:=?_)
        have hbad:t8 t.nodes[i].attrs[k]=true:=by unfold t8;rw [c4];right;exact aX.2 ⟨_,aC h17,by simp [jT];omega⟩
        have hb2:t.nodes.any qM=true:=aX.2 ⟨_,aC h5,by unfold qM;rw [c4];right;exact aX.2 ⟨_,aC h11,hbad⟩⟩
        have hb3:uK t=false:=by simp [uK,hb2]
        exact hQ _ _ (by simp [go_sem,hb3])
       .exact wo (h:=wx hI4 (m+1) ⟨j,wg,wn,wn,wj,(by rw [dU _ _ _ h17,hc];simp [jT];omega)⟩)
      .have hZ:=nX hc h17
       exact wo (h:=wx hI2 (k+1) ⟨wg,wj,(by rw [dU _ _ _ h11,hb];simp [t8,hM,hZ];omega)⟩)
    .have hA:=nX hb h11
     exact wo (h:=wx hI0 (i+1) ⟨wg,wj,aD,(by rw [dU _ _ _ h5,ha];simp [qM,hN,hA])⟩)
  .have hNn:=nX ha h5
   rw [aG aD] at hs
   refine wv (h:=bD (λq e H=>(e 1=.adr t.c/\e 8=dI q)/\(q<=t.edges.length)/\((t.edges.take q).any Ae=false)) (λq=>t.edges.length - q) 0 ⟨wg,wi,(by rfl)⟩ λI6 hI6 q e H hi6=>?_)
   obtain ⟨E6,hj,hd⟩:=hi6
   have Y:=wa Y E6
   refine fA (λh22=>?_) λh22=>?_
   .have Y:=wa Y h22
    refine fA (λh24=>?_) λh24=>?_
    .refine wv (h:=?_)
     have hb2:t.edges.any Ae=true:=aX.2 ⟨_,aC h22,by simp [Ae,jT];omega⟩
     have hb3:uK t=false:=by simp [uK,hb2]
     exact hQ _ _ (by simp [go_sem,hb3])
    .exact wo (h:=wx hI6 (q+1) ⟨wg,wj,(by rw [dU _ _ _ h22,hd];simp [Ae,jT];omega)⟩)
   .have hEe:=nX hd h22
    refine wv (h:=?_)
    have hb3:uK t=true:=by simp only [uK,hNn,hEe];simp;omega
    exact hQ _ _ (by simp [go_sem,hb3])
def fewG (g:Graph):Bool:=decide ((g.nodes.length:Int)<=45)&&decide ((g.edges.length:Int)<=90)
def fewP (p:Pattern):Bool:=fewG p.graph&&decide ((p.slots.length:Int)<=15)&&decide ((p.tests.length:Int)<=15)
def fewPart (p:Part)(n:Int):Bool:=decide ((p.nodes.length:Int)+p.edges.length<=n)
structure Part.le (p:Part):Prop where
 n:p.nodes.length<=1000000000000000
 e:p.edges.length<=1000000000000000
theorem zU (g:Graph):Pure Tryz.prog 159 [g.d] (.bool (fewG g)):=by
 refine Tz.pK ⟨λ_=>false,λ_=>[]⟩ Tryz.func159 rfl (λQ a=>?_)
 have Y:=trivial
 have Y:=wa Y @fewG.eq_1
 exact wo (h:=a _ _ wy)
theorem u3 (p:Pattern):Pure Tryz.prog 128 [p.d] (.bool (fewP p)):=by
 refine Tz.pK ⟨λ_=>false,λ_=>[]⟩ Tryz.func128 rfl (λQ a=>?_)
 have Y:=trivial
 refine wo (h:=aB (zU p.graph) wl ?_)
 have Y:=wa Y @fewP.eq_1
 exact wo (h:=a _ _ wy)
theorem u5 (p:Part)(a:p.le)(n:Int):Pure Tryz.prog 56 [p.d,dI n] (.bool (fewPart p n)):=by
 obtain ⟨e,c⟩:=a
 refine Tz.pK ⟨λ_=>false,λ_=>[]⟩ Tryz.func56 rfl (λQ b=>?_)
 have Y:=trivial
 have Y:=wa Y @fewPart.eq_1
 exact wo (h:=b _ _ wy)
theorem QM (p:Part)(a:p.le)(n:Int):Pure Tryz.prog 129 [p.d,dI n] (.bool (fewPart p n)):=by
 obtain ⟨e,c⟩:=a
 refine Tz.pK ⟨λ_=>false,λ_=>[]⟩ Tryz.func129 rfl (λQ b=>?_)
 have Y:=trivial
 have Y:=wa Y @fewPart.eq_1
 exact wo (h:=b _ _ wy)
mutual
def pR:Cond→Int→Int
 | .mk k l m p,b=>if (!fewP p||!fewPart m 140)=true then -1 else pQ l (b - 1)
def pQ:List Cond→Int→Int
 | [],b=>b
 | c :: l,b=>if 0≤b then pQ l (pR c b) else b
end
theorem Sj (c:Cond)(b:Int):pR c b=if (!fewP c.pattern||!fewPart c.map 140)=true then -1 else pQ c.kids (b - 1):=by cases c;rw [pR];rfl
mutual
theorem Gv:∀ (c:Cond) (b:Int),0≤b→-1≤pR c b∧pR c b≤b - 1
 | .mk k l m p,b,h=>by
  rw [pR];split
  ·omega
  ·exact Gt l (b - 1) (by omega)
theorem Gt:∀ (l:List Cond) (b:Int),-1≤b→-1≤pQ l b∧pQ l b≤b
 | [],b,h=>by rw [pQ];omega
 | c :: l,b,h=>by
  rw [pQ];split
  ·rename_i h0
   have h1:=Gv c b h0
   have h2:=Gt l (pR c b) h1.1
   omega
  ·omega
end
mutual
def Cond.le:Cond→Prop
 | .mk k l m p=>m.le∧Cond.les l
def Cond.les:List Cond→Prop
 | []=>True
 | c :: l=>c.le∧Cond.les l
end
theorem Lh (l:List Cond):Cond.les l↔∀ c∈l,c.le:=by
 induction l with
 | nil=>simp [Cond.les]
 | cons a l ih=>simp [Cond.les,ih]
theorem En (c:Cond):c.le↔c.map.le/\∀ k∈c.kids,k.le:=by cases c;simp [Cond.le,Lh,Cond.kids,Cond.map]
mutual
theorem Gu:∀ (c:Cond) (b:Int),0≤b→0≤pR c b→c.ok∧(c.size:Int)≤b - pR c b
 | .mk k l m p,b,h,h0=>by
  rw [pR] at h0 ⊢
  split at h0
  ·omega
  ·rename_i h1
   rw [if_neg h1]
   have h2:=MN l (b - 1) (by omega) h0
   simp [fewP,fewG,fewPart] at h1
   refine ⟨⟨⟨?_,?_,?_,?_,?_,?_⟩,h2.1⟩,?_⟩<;>simp only [Cond.map,Cond.pattern,Cond.size]<;>omega
theorem MN:∀ (l:List Cond) (b:Int),-1≤b→0≤pQ l b→Cond.oks l∧(Cond.sizes l:Int)≤b - pQ l b
 | [],b,h,h0=>by simp [Cond.oks,Cond.sizes,pQ]
 | c :: l,b,h,h0=>by
  rw [pQ] at h0 ⊢
  split at h0
  ·rename_i hb
   rw [if_pos hb]
   have h1:=Gv c b hb
   have h2:=Gt l (pR c b) h1.1
   have h3:=Gu c b hb (by omega)
   have h4:=MN l (pR c b) h1.1 h0
   refine ⟨⟨h3.1,h4.1⟩,?_⟩
   simp only [Cond.sizes];omega
  ·omega
end
theorem OM {l:List Cond}{i:Nat}(h:i<l.length){b:Int}(a:0<=b):pQ (l.drop i) b=pQ (l.drop (i+1)) (pR l[i] b):=by
 rw [eE h,pQ,if_pos a]
theorem Rc {l:List Cond}{i:Nat}{b:Int}(h:¬ (i<l.length/\0<=b)):pQ (l.drop i) b=b:=by
 by_cases a:i<l.length
 .rw [eE a,pQ,if_neg aD]
 .rw [gY aD,pQ]
theorem Oq:∀ c:Cond,c.le->∀ b:Int,0<=b->b<=1000->Pure Tryz.prog 215 [.agg c.c,dI b] (dI (pR c b)):=by
 refine i9 λc ih hc b0 hb0 hb1=>?_
 obtain ⟨hs,hk⟩:=(En c).1 hc
 have hL0:=Sj c b0
 refine Tz.pK ⟨λ_=>false,λ_=>[]⟩ Tryz.func215 rfl (λQ hQ=>?_)
 have Y:=@Cond.c_eq
 refine wo (h:=aB (u3 c.pattern) wl ?_)
 refine wo (h:=aH (λhg=>u5 c.map hs 140) (λhg=>wl) ?_)
 refine wv (h:=?_)
 repeat first|intro _|refine ⟨eO,?_⟩
 refine wq (λh2=>?_) λh2=>?_
 .rw [if_pos (bX h2)] at hL0
  exact wv (h:=hQ _ _ (by simp [go_sem,hL0]))
 .rw [if_neg (bX h2)] at hL0
  refine wv (h:=bD (λi e H=>∃ b:Int,(e 2=.adr c.c/\e 1=dI b/\e 5=dI i)/\(i<=c.kids.length)/\(-1<=b/\b<b0)/\(pQ (c.kids.drop i) b=pR c b0)) (λi=>c.kids.length - i) 0 ⟨((b0 - 1)),wg,wi,aD,(by exact hL0.symm)⟩ λI0 hI0 i e H hi0=>?_)
  obtain ⟨b,E0,hi,hb,hL⟩:=hi0
  have Y:=wa Y E0
  refine wv (h:=?_)
  repeat first|intro _|refine ⟨eO,?_⟩
  refine wq (λh5=>?_) λh5=>?_
  .have h5':i<c.kids.length/\0<=b:=aD
   have Y:=wa Y (wa h5 h5'.1)
   refine wo (h:=aB ((by have:=ih _ (aC h5'.1) (hk _ (aC h5'.1)) b h5'.2 aD;rwa [Cond.c_eq] at this)) wl ?_)
   exact wo (h:=wx hI0 (i+1) ⟨(pR c.kids[i] b),wg,wj,(by have:=Gv c.kids[i] b h5'.2;omega),(by rw [<- hL,OM h5'.1 h5'.2])⟩)
  .have h5':¬ (i<c.kids.length/\0<=b):=aD
   refine wv (h:=?_)
   have hE:pR c b0=b:=by rw [<- hL,Rc h5']
   exact hQ _ _ (by simp [go_sem,hE])
def fewC (c:Cond):Bool:=decide (0<=pR c 40)
theorem IH (c:Cond)(a:c.le):Pure Tryz.prog 130 [.agg c.c] (.bool (fewC c)):=by
 refine Tz.pK ⟨λ_=>false,λ_=>[]⟩ Tryz.func130 rfl (λQ b=>?_)
 have Y:=@Cond.c_eq
 refine wv (h:=aB ((by have:=Oq c a 40 aD aD;rwa [Cond.c_eq] at this)) wl ?_)
 have Y:=wa Y @fewC.eq_1
 exact wv (h:=b _ _ wy)
def fewR (r:Rule):Bool:=decide ((r.name.size:Int)<=60)&&fewP r.left&&fewP r.right&&fewPart r.keep 140&&fewPart r.into 140&&fewC r.cond
structure Rule.le (r:Rule):Prop where
 keep:r.keep.le
 into:r.into.le
 cond:r.cond.le
theorem QK (r:Rule)(b:r.le):Pure Tryz.prog 54 [r.d] (.bool (fewR r)):=by
 refine Tz.pK ⟨λ_=>false,λ_=>[]⟩ Tryz.func54 rfl (λQ c=>?_)
 have Y:=trivial
 refine wo (h:=aH (λa=>u3 r.left) (λa=>wl) ?_)
 refine wo (h:=aH (λa=>u3 r.right) (λa=>wl) ?_)
 refine wo (h:=aH (λa=>QM r.keep b.keep 140) (λa=>wl) ?_)
 refine wo (h:=aH (λa=>u5 r.into b.into 140) (λa=>wl) ?_)
 refine wo (h:=aH (λa=>(by have:=IH r.cond b.cond;rwa [Cond.c_eq] at this)) (λa=>wl) ?_)
 have Y:=wa Y @fewR.eq_1
 exact wo (h:=c _ _ wy)
structure Ovl where
 graph:Graph
 left:Part
 right:Part
def Ovl.c (o:Ovl):List D:=[dLI o.graph.nodes,.list (o.graph.edges.map Edge.c),dLI o.left.nodes,dLI o.left.edges,dLI o.right.nodes,dLI o.right.edges]
def Ovl.d (o:Ovl):D:=.agg o.c
@[go_sem] theorem Ovl.cl (o:Ovl):D.clL o.c=true:=by simp [Ovl.c,D.clL,D.cl,pD,vL]
@[go_sem] theorem Zy (o:Ovl):o.d.cl=true:=by simp only [Ovl.d,D.cl];exact Ovl.cl o
@[go_sem] theorem YU (l:List Ovl):D.clLL (l.map Ovl.c)=true:=dK _ Ovl.cl l
def iW (n:Nat):List Int:=(List.range n).map λ(k:Nat)=>(k:Int)
theorem Dc (i:Nat):iW (i+1)=iW i++[(i:Int)]:=by simp [iW,c7]
theorem vC (n:Nat):(iW n).length=n:=by simp [iW]
theorem BV (n:Nat)(hn:n<=100000):Pure Tryz.prog 127 [dI n] (dLI (iW n)):=by
 refine Tz.pK ⟨λt=>t==3,λ_=>[]⟩ Tryz.func127 rfl (λQ hQ=>?_)
 have Y:=trivial
 refine wv (h:=bD (λi e H=>(e 0=dI n/\e 3=.own 0 i/\e 4=dI i)/\(H.get 0=some ⟨3,1,(iW i).map cI,false⟩)/\(0<H.next)/\(i<=n)/\((iW i).length=i)) (λi=>n - i) 0 ⟨wg,(by rfl),wn,wi,(by exact vC _)⟩ λI0 hI0 i e H hi0=>?_)
 obtain ⟨E0,g0_0,n0_0,hi,hl⟩:=hi0
 have Y:=wa Y (wa E0 (wa g0_0 (wa (b8 n0_0) hl)))
 refine dP (λh3=>?_) λh3=>?_
 .have Y:=wa Y h3
  exact wo (h:=wx hI0 (i+1) ⟨wg,(by simp [go_sem,Y,Dc]),wn,wj,(by exact vC _)⟩)
 .have hie:i=n:=aD
  subst hie
  have Y:=wa Y h3
  exact wv (h:=hQ _ _ wy)
theorem R3 (g:Graph)(a:g.nodes.length<=100000)(b:g.edges.length<=100000):Pure Tryz.prog 53 [g.d] (Part.d ⟨iW g.nodes.length,iW g.edges.length⟩):=by
 refine Tz.pK ⟨λt=>t==2,λ_=>[]⟩ Tryz.func53 rfl (λQ c=>?_)
 have Y:=trivial
 refine wo (h:=aI (BV g.nodes.length a) wl ?_)
 refine wo (h:=aI (BV g.edges.length b) wl ?_)
 exact wo (h:=c _ _ wy)
theorem Nv:Own Tryz.prog 234 [.nil] 122 3 []:=by
 refine Tz.oK ⟨λt=>t==2||t==5,λ_=>[]⟩ Tryz.func234 rfl (λQ a=>?_)
 have Y:=trivial
 refine wv (h:=?_)
 exact a _ _ _ (by simp [go_sem]<;>first|omega|(rw [aR];simp<;>omega)|(simp_all<;>omega)) (by simp [go_sem]<;>first|omega|(rw [aR];simp<;>omega)|(simp_all<;>omega))
theorem Nt:Own Tryz.prog 234 [.ne] 122 3 []:=by
 refine Tz.oK ⟨λt=>t==2||t==5,λ_=>[]⟩ Tryz.func234 rfl (λQ a=>?_)
 have Y:=trivial
 refine wo (h:=?_)
 exact a _ _ _ (by simp [go_sem]<;>first|omega|(rw [aR];simp<;>omega)|(simp_all<;>omega)) (by simp [go_sem]<;>first|omega|(rw [aR];simp<;>omega)|(simp_all<;>omega))
theorem Nu (l:List Edge)(d:l.length<=1000000)(a:l≠[]):Own Tryz.prog 234 [.list (l.map Edge.c)] 122 3 (l.map Edge.c):=by
 refine Tz.oK ⟨λt=>t==2||t==5,λ_=>[]⟩ Tryz.func234 rfl (λQ b=>?_)
 have Y:=a
 refine wo (h:=?_)
 exact b _ _ _ (by simp [go_sem,a]<;>first|omega|(rw [aR];simp<;>omega)|(simp_all<;>omega)) (by simp [go_sem,a]<;>first|omega|(rw [aR];simp<;>omega)|(simp_all<;>omega))
theorem Bk (l:List Edge)(b:l.length<=1000000):Own Tryz.prog 234 [.list (l.map Edge.c)] 122 3 (l.map Edge.c):=by
 by_cases a:l=[]
 .subst a;exact zV Nv Nt
 .exact Nu l b a
theorem Ep {P:Program}{H:AHeap}{f:FuncId}{args:List D}{ty:TypeId}{sz:Nat}{es:List (List D)}{Q:D->AHeap->Prop}(A:Own P f (args.map (iM H)) ty sz es)(x:D.clL (args.map (iM H))=true)(K:∀ d∈es.flatten,d.flat=true)(N:Q (.list es) H):ACalls P f args H Q:=by
 refine ⟨A.1,λE σ w k o M=>?_⟩
 obtain ⟨V,f2,Z,Y⟩:=fX (args.flatMap dV) o
 refine (A.2 (dA E (fJ (args.flatMap dV) H) σ) w k (uH V) (gU (λ_ h=>h) (BN o M _ λi h=>h) x)).mono λe G ⟨v,F,L,b,O,c,C,r,m⟩=>?_
 obtain ⟨U,T,S⟩:=o.grow m.os m.tape m.output m.size m.block
 have I:RepV (dA E H σ) iN rJ G v (.list es):=by
  rcases b.2 with ⟨l,R⟩|⟨g,y,W,a,X,n,s,t,z,q⟩
  .rw [l,bP R];exact .listN
  .rw [a]
   refine .list ⟨g,0,none⟩ y sz F es s t r c.len O (λj u p=>⟨λJ=>?_,b.cells (g:=g) (by simp [a,Value.ownBlock]) j u p⟩) (λj u d p B=>zD (c.rep j u d p B) (K d (aK B)))
   have:=uH o g J
   omega
 exact ⟨v,.list es,H,σ,L,U,I.keep y0,T,S,N⟩
theorem mQ {P:Program}{md:Nat->Bool}{ops:Array Oper}{g:List (Nat × Nat)}{l i:Nat}{a:List Oper}{b:List (Nat × List Nat)}{e:dJ}{c:Option Tmp}{K:dJ->AHeap->Prop}{f:FuncId}{args args':List D}{H:AHeap}{ty:TypeId}{sz:Nat}{es:List (List D)}
  (o:Own P f args' ty sz es) (r:args.map (iM H)=args') (j:D.clL args'=true) (p:∀ d∈es.flatten,d.flat=true) {S:List Nat} (s:args.flatMap dV=S) (q:chk g i S b)
  (h:jZ P md ops g l (i+1) a ((i,S) :: b) (oP e c (.list es)) H K):p6 P md ops g l i a b e c K f args H:=by
 subst r s
 unfold p6
 refine .inl ⟨.list es,_,λt k=>?_,q,h⟩
 have m:=Bp k λx n=>n
 exact Ep (by rw [m];exact o) (by rw [m];exact j) p ⟨rfl,rfl⟩
theorem eD {β:Type}(f:β->Nat->β)(b:β)(n:Nat):(List.range (n+1)).foldl f b=f ((List.range n).foldl f b) n:=by
 rw [c7,Fe];rfl
theorem Q9 {t:Types}(b:t.valid){a:Nat}(c:a<t.nodes.length):mem (t.line a) a=true:=by
 rw [yX t a c (b.parentsOK a),vE];simp
def cL (l:List Int):List D:=[dLI l]
@[go_sem] theorem XW (l:List (List Int)):D.clLL (l.map cL)=true:=dK cL (λx=>by simp [cL,go_sem]) l
attribute [go_sem] cL
@[go_sem] theorem Zi (o:Option Rule)(A z y x w v u t s r q p n m l k j i h g f e d b a:D):((Option.map Rule.c o).getD [A,z,y,x,w,v,u,t,s,r,q,p,n,m,l,k,j,i,h,g,f,e,d,b,a]).length=25:=by cases o<;>rfl
def Xn (mask:List Bool):List Nat:=(List.range mask.length).filter λi=>mask[i]?.getD false
theorem lK (a b:List Int):Pure Tryz.prog 161 [dLI a,dLI b] (.bool (decide (a=b))):=by
 refine Tz.pK ⟨λ_=>false,λ_=>[]⟩ Tryz.func161 rfl (λQ hQ=>?_)
 have Y:=trivial
 refine wv (h:=?_)
 repeat first|intro _|refine ⟨eO,?_⟩
 refine wq (λh1=>?_) λh1=>?_
 .refine wv (h:=?_)
  have hne:a≠b:=by intro h;subst h;omega
  exact hQ _ _ (by simp [go_sem,hne])
 .refine wo (h:=bD (λi e H=>(e 0=dLI a/\e 1=dLI b/\e 12=dI a.length/\e 13=dI i)/\(i<=a.length)/\(a.take i=b.take i)) (λi=>a.length - i) 0 ⟨wg,wi,(by rfl)⟩ λI0 hI0 i e H hi0=>?_)
  obtain ⟨E0,hi,he⟩:=hi0
  have Y:=wa Y E0
  refine dP (λh4=>?_) λh4=>?_
  .have hib:i<b.length:=aD
   have Y:=wa Y (wa h4 hib)
   refine wv (h:=?_)
   repeat first|intro _|refine ⟨eO,?_⟩
   refine wq (λh6=>?_) λh6=>?_
   .refine wv (h:=?_)
    have hne:a≠b:=by intro h;subst h;exact h6 rfl
    exact hQ _ _ (by simp [go_sem,hne])
   .exact wo (h:=wx hI0 (i+1) ⟨wg,wj,(by rw [aE h4,aE hib,he,h6])⟩)
  .rw [aG aD,aG aD] at he
   exact wv (h:=hQ _ _ (by simp [go_sem,he]))
theorem KP {r:Rule}(h:fewR r=true):r.ok:=by
 simp only [fewR,aQ,decide_eq_true_eq] at h
 obtain ⟨⟨⟨⟨⟨g,f⟩,e⟩,d⟩,c⟩,a⟩:=h
 simp [fewPart] at d c
 simp [fewC] at a
 have b:=Gu r.cond 40 aD a
 exact ⟨aD,aD,aD,aD,aD,b.1,aD⟩
theorem Hb {P:Program}{md:Nat->Bool}{ops:Array Oper}{a:List Oper}{e:dJ}{b:Option Tmp}{K:dJ->AHeap->Prop}{f:FuncId}{args args':List D}{H:AHeap}{ty:TypeId}{sz:Nat}{es:List (List D)}
  (g:Own P f args' ty sz es) (j:args.map (iM H)=args') (c:D.clL args'=true) (i:∀ d∈es.flatten,d.flat=true) (h:nC P md ops a (oP e b (.list es)) H K):fL P md ops a e b K f args H:=by
 subst j;unfold fL;exact Ep g c i h
theorem Jl (zs:List Int):∀ d∈(zs.map cI).flatten,d.flat=true:=by
 intro d a;rw [z6,bB] at a;obtain ⟨x,_,rfl⟩:=a;rfl
def Ta:List Int->Int
 | []=>0
 | a :: l=>if a≠0 then a else Ta l
theorem R6 {l:List Int}{i:Nat}(h:i<l.length):Ta (l.drop i)=if l[i]≠0 then l[i] else Ta (l.drop (i+1)):=by
 rw [eE h];rfl
theorem VJ (l:List Int):Pure Tryz.prog 349 [dLI l] (dI (Ta l)):=by
 refine Tz.pK ⟨λ_=>false,λ_=>[]⟩ Tryz.func349 rfl (λQ hQ=>?_)
 have Y:=trivial
 refine wv (h:=?_)
 repeat first|intro _|refine ⟨eO,?_⟩
 refine bD (λi e H=>(e 6=dLI l/\e 7=dI l.length/\e 3=dI 0/\e 8=dI i)/\(i<=l.length)/\(Ta (l.drop i)=Ta l)) (λi=>l.length - i) 0 ⟨wg,wi,(by rfl)⟩ λI0 hI0 i e H hi0=>?_
 obtain ⟨E0,hi,hO⟩:=hi0
 have Y:=wa Y E0
 refine dP (λh3=>?_) λh3=>?_
 .have hst:=hO
  rw [R6 h3] at hst
  have Y:=wa Y h3
  refine wv (h:=?_)
  repeat first|intro _|refine ⟨eO,?_⟩
  refine wq (λh5=>?_) λh5=>?_
  .rw [if_pos aD] at hst
   exact wv (h:=hQ _ _ (by simp [go_sem,Y,<- hst]))
  .rw [if_neg aD] at hst
   refine wv (h:=?_)
   repeat first|intro _|refine ⟨eO,?_⟩
   exact wx hI0 (i+1) ⟨wg,wj,(by exact hst)⟩
 .rw [gY aD] at hO
  exact wv (h:=hQ _ _ (by simp [go_sem,<- hO,Ta]))
theorem HF {P:Program}(w:World)(dT sT ty elem:TypeId)(sz:Nat)(g o dLen dCap:Nat)(a:Addr)(sLen sCap n:Nat)(cur:Array Value)(t:TypeId)(cs:List Value)
  (hu:P.underlying dT=some (.slice elem)) (hs:(P.info? elem).map (·.size)=some sz)
  (hg:w.heap[g]?=some (.cells cur t (0,0))) (hn:n=Nat.min sLen dLen) (hcl:cs.length=n * sz)
  (hsrc:∀ j v,cs[j]?=some v->w.cell? (a.add j)=some v) (hfit:o+cs.length<=cur.size) (h1:∀ v∈cs,v.oneCell'=true) :
  (Builtin.copy_ #[dT,sT] ty #[.slice (some ⟨g,o,none⟩) dLen dCap,.slice (some a) sLen sCap]).run P w =
   .ok (goInt n) (w.setRow g (cur.toList.take o++cs++cur.toList.drop (o+cs.length)).toArray):=by
 have hl:=run_loadCells_list (P:=P) w a cs hsrc
 have hst:=run_storeCells_at P g o t cs 0 cur w hg (bX hfit) h1
 cases hq:P.info? elem with
 | none=>simp [hq] at hs
 | some i =>
  have hi:i.size=sz:=by simpa [hq] using hs
  rw [hcl] at hl
  simp [Builtin.copy_,run_underlying hu,Builtin.lenOf,Builtin.firstCells,sizeOf,typeInfo,hq,hi,<- hn,hl,hst]
def cmp1 (a b:Int):Int:=if a<b then -1 else if b<a then 1 else 0
theorem Nn (a b:Int):Pure Tryz.prog 350 [dI a,dI b] (dI (cmp1 a b)):=by
 refine Tz.pK ⟨λ_=>false,λ_=>[]⟩ Tryz.func350 rfl (λQ e=>?_)
 have Y:=trivial
 refine wv (h:=aB (Ab a) wl ?_)
 refine wv (h:=aB (Ab b) wl ?_)
 refine dP (λd=>?_) λd=>?_
 .have Y:=wa Y (wa d @cmp1.eq_1)
  exact wv (h:=e _ _ wy)
 .refine dP (λc=>?_) λc=>?_
  .have Y:=wa Y (wa d (wa c @cmp1.eq_1))
   exact wv (h:=e _ _ wy)
  .have Y:=wa Y (wa d (wa c @cmp1.eq_1))
   exact wv (h:=e _ _ wy)
def xD (t:Types)(i:Nat):Bool:=match t.nodes[i]? with|some n=>n.abs|none=>false
def CA (t:Types):List Int:=((List.range t.nodes.length).filter λi=>!xD t i).map λ(i:Nat)=>(i:Int)
def Um (b:List Bool):List Int:=(Xn b).map λ(i:Nat)=>(i:Int)
def aaD (xs:List Int)(i j:Nat):List Int:=(xs.set i (xs[j]?.getD 0)).set j (xs[i]?.getD 0)
abbrev B2:=UInt8 × UInt8
def cP (x:B2):List D:=[.int .u8 (x.1.toNat:Int),.int .u8 (x.2.toNat:Int)]
@[go_sem] theorem SR (l:List B2):D.clLL (l.map cP)=true:=dK _ (λ_=>rfl) l
def tyA:ByteArray:=⟨#[65,66,67,68,69,70]⟩
def tyU:ByteArray:=⟨#[117,118,119,120,121,122]⟩
def tyE:ByteArray:=⟨#[101,102,103,104,105]⟩
def XR (i:Nat)(x:B2):NodeTy :=
 ⟨tyA.extract i (i+1),(x.1.toNat:Int).tmod ((i:Int)+1) - 1,((x.1.toNat:Int) / 16).tmod 4==3,
  if (x.2.toNat:Int).tmod 4=1 then [⟨tyU.extract i (i+1),-3,3+((x.2.toNat:Int) / 4).tmod 9,[]⟩]
  else if (x.2.toNat:Int).tmod 4=2 then [⟨tyU.extract i (i+1),0,1,[⟨#[111,102,102]⟩,⟨#[111,110]⟩]⟩] else []⟩
def TE (ns:List B2)(i:Nat):B2:=ns[i]?.getD (0,0)
def U9 (ns:List B2)(n:Nat):List NodeTy:=(List.range n).map λi=>XR i (TE ns i)
def XS (n:Int)(i:Nat)(x:B2):EdgeTy:=⟨tyE.extract i (i+1),(x.1.toNat:Int).tmod n,(x.2.toNat:Int).tmod n,0,-1,0,-1⟩
def Va (n:Int)(es:List B2)(k:Nat):List EdgeTy:=(List.range k).map λi=>XS n i (TE es i)
def Un (ns:List B2):Nat:=max 1 (min ns.length 6)
def XQ (ns es:List B2):Types:=⟨U9 ns (Un ns),Va (Un ns) es (min es.length 5)⟩
theorem lI {l:List (List D)}(h:∀ c∈l,i6 c=c):eQ l=l:=by
 rw [Db];conv=>rhs;rw [<- List.map_id l]
 exact bU h
def cU (x:UInt8):List D:=[.int .u8 (x.toNat:Int)]
@[go_sem] theorem Pg (l:List UInt8):D.clLL (l.map cU)=true:=dK _ (λ_=>rfl) l
def WT (n:Nat)(l:List UInt8)(i:Nat):Nat:=((i:Int)+((l[i]?.getD 0).toNat:Int).tmod ((n:Int) - i)).toNat
def WS (n:Nat)(l:List UInt8)(xs:List Int)(i:Nat):List Int:=aaD xs i (WT n l i)
def Pw (n:Nat)(l:List UInt8):List Int:=(List.range (min n l.length)).foldl (WS n l) (iW n)
def aaK (p xs:List Int)(k:Nat):List Int:=(List.range k).foldl (λacc i=>acc.set (p[i]?.getD 0).toNat (xs[i]?.getD 0)) xs
def aaJ (p:List Int)(x:Edge):Edge:=⟨x.type,p[x.from_.toNat]?.getD 0,p[x.to_.toNat]?.getD 0⟩
def aaM (p q:List Int)(es:List Edge)(k:Nat):List Edge:=(List.range k).foldl (λacc i=>acc.set (q[i]?.getD 0).toNat (aaJ p (es[i]?.getD ⟨0,0,0⟩))) es
def aaL (g:Graph)(p q:List Int):Graph:=if graphF g=0 then ⟨aaK p g.nodes g.nodes.length,aaM p q g.edges g.edges.length⟩ else ⟨[],[]⟩
theorem uD (g:Graph)(k:g.nodes.length<=100000)(l:g.edges.length<=100000)(G:AHeap)(Q:D->AHeap->Prop)
  (i:∀ a b H',G.next<=a->G.next<=b->a≠b->a<H'.next->b<H'.next->H'.get a=some ⟨3,1,g.nodes.map cI,false⟩->H'.get b=some ⟨122,3,g.edges.map Edge.c,false⟩->(∀ j,j<G.next->H'.get j=G.get j)->G.next<=H'.next->Q (.agg [.own a g.nodes.length,.own b g.edges.length]) H'):ACalls Tryz.prog 157 [g.d] G Q:=by
 refine (aJ (cfg:=⟨λt=>t==2||t==3||t==7,λr=>match r with|1=>[(0,1),(0,2),(0,4),(1,4),(2,4),(3,4),(0,5),(3,5),(4,5),(0,6),(3,6),(4,6)]|_=>[]⟩) Tz.mixed Tryz.func157 rfl rfl (aF rfl) (by kernel_rfl) ?_)
 have e:=Wp G.next
 have Y:=e
 refine wo (h:=?_)
 exact i _ _ _ (by first|omega|(simp [go_sem]<;>omega)|(simp [go_sem,e]<;>omega)) (by first|omega|(simp [go_sem]<;>omega)|(simp [go_sem,e]<;>omega)) (by first|omega|(simp [go_sem]<;>omega)|(simp [go_sem,e]<;>omega)) (by first|omega|(simp [go_sem]<;>omega)|(simp [go_sem,e]<;>omega)) (by first|omega|(simp [go_sem]<;>omega)|(simp [go_sem,e]<;>omega)) (by simp [go_sem,e]<;>omega) (by simp [go_sem,e]<;>omega) (λj f=>by simp [go_sem,b8 f]) (by first|omega|(simp [go_sem]<;>omega)|(simp [go_sem,e]<;>omega))
end Go.Abs
end
