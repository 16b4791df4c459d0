/- Layer 24: rules, continued. · Layer 12: complements; layer 1 -/
import Derived.Test.YthalajhajpjjeaaGreatZfAF
import Derived.Test.YthalajhajpjjeaaGreatZfAA
import Derived.Test.YthalajhajpjjeaaGreatZfAJ
set_option linter.unusedVariables false
set_option linter.unusedSimpArgs false
section
set_option maxRecDepth 100000
set_option maxHeartbeats 4000000
open Go Go.Proofs
namespace Go.Abs
def iW (t:Types)(r:Rule):Int :=
 if graphF r.right.graph≠0 then graphF r.right.graph
 else if g7 t r.right.graph=false then 13
 else if r.right.vars≠r.left.vars\/0<r.right.tests.length then 1
 else if 10<r.right.slots.length then 3
 else bT (vE t r.right) 0 r.right.slots.length
theorem NG (t:Types)(ht:t.ok)(r:Rule):Pure Tryz.prog 223 [t.d,r.d] (dI (iW t r)):=by
 refine Tz.pK ⟨λ_=>false,λ_=>[]⟩ Tryz.func223 rfl (λQ hQ=>?_)
 have Y:=trivial
 refine wv (h:=aB (mC r.right.graph) wl ?_)
 refine dP (λh2=>?_) λh2=>?_
 .exact wv (h:=hQ _ _ (.inl (by simp [go_sem,iW,h2])))
 .have hg:=bR h2
  refine wo (h:=aB (NE t r.right.graph) wl ?_)
  refine fA (λh4=>?_) λh4=>?_
  .exact wv (h:=hQ _ _ (.inl (by simp [go_sem,iW,h2,h4])))
  .refine fA (λh6=>?_) λh6=>?_
   .have hR:iW t r=1:=by unfold iW;rw [if_neg aD,if_neg (by simp [h4]),if_pos aD]
    exact wv (h:=hQ _ _ (.inl (by simp [go_sem,hR])))
   .have h6':¬ (r.right.vars≠r.left.vars\/0<r.right.tests.length):=by
     rintro (h|h)
     .exact h h6.1
     .have:=h6.2;simp [this] at h
    refine fA (λh8=>?_) λh8=>?_
    .have hR:iW t r=3:=by unfold iW;rw [if_neg aD,if_neg (by simp [h4]),if_neg h6',if_pos aD]
     exact wv (h:=hQ _ _ (.inl (by simp [go_sem,hR])))
    .have hR:iW t r=bT (vE t r.right) 0 r.right.slots.length:=by unfold iW;rw [if_neg aD,if_neg (by simp [h4]),if_neg h6',if_neg aD]
     refine wo (h:=bF (λi e H=>(e 2=.adr t.c/\e 3=.adr r.c/\e 46=dI r.right.slots.length/\e 47=dI i)/\(i<=r.right.slots.length)/\(bT (vE t r.right) i (r.right.slots.length - i)=iW t r)) (λi=>r.right.slots.length - i) 0 ⟨wg,wi,(by exact hR.symm)⟩ λI1 hI1 i e H hi1=>?_)
     obtain ⟨E1,hi,hF⟩:=hi1
     have Y:=wa Y E1
     refine dP (λh11=>?_) λh11=>?_
     .have hst:=hF
      rw [eZ _ h11] at hst
      have Y:=wa Y h11
      refine wv (h:=aB (PZ t ht r aD i h11) wl ?_)
      refine dP (λh14=>?_) λh14=>?_
      .rw [if_pos aD] at hst
       exact wv (h:=hQ _ _ (.inl (by simp [go_sem,hst])))
      .rw [if_neg aD] at hst
       exact wo (h:=wx hI1 (i+1) ⟨wg,wj,(by exact hst)⟩)
     .exact wv (h:=hQ _ _ (.inl (by rw [<- hF,(aD:r.right.slots.length - i=0)];rfl)))
def bJ (l:List Int)(n:Nat):List Int:=((List.range n).filter λ(i:Nat)=>!mem l i).map λ(b:Nat)=>(b:Int)
theorem lF {l:List Int}{n:Nat}{x:Int}(h:x∈bJ l n):0<=x/\x<n:=by
 simp only [bJ,bA,gZ,bP] at h
 obtain ⟨a,⟨h1,_⟩,rfl⟩:=h
 omega
theorem lG (l:List Int)(n:Nat):(bJ l n).length<=n:=by
 unfold bJ;rw [aW];exact fD (l6 _ _) bV
theorem Dn (l:List Int)(n:Nat)(hn:n<=1000000):Pure Tryz.prog 280 [dLI l,dI n] (dLI (bJ l n)):=by
 refine Tz.pK ⟨λt=>t==5,λ_=>[]⟩ Tryz.func280 rfl (λQ hQ=>?_)
 have Y:=trivial
 refine wv (h:=bF (λi e H=>∃ xs:List Int,(e 0=dLI l/\e 7=dI n/\e 5=.own 0 xs.length/\e 8=dI i)/\(H.get 0=some ⟨3,1,xs.map cI,false⟩)/\(0<H.next)/\(i<=n)/\(xs.length<=i)/\(xs=((List.range i).filter λ(b:Nat)=>!mem l b).map (λ(b:Nat)=>(b:Int)))) (λi=>n - i) 0 ⟨([]),wg,wn,wn,wi,bV,(by rfl)⟩ λI0 hI0 i e H hi0=>?_)
 obtain ⟨xs,E0,g0_0,n0_0,hi,hl,hx⟩:=hi0
 have Y:=wa Y (wa E0 (wa g0_0 (cD n0_0)))
 refine dP (λh3=>?_) λh3=>?_
 .have Y:=wa Y h3
  refine wo (h:=aB (fT l i) wl ?_)
  refine fA (λh5=>?_) λh5=>?_
  .have Y:=wa Y h5
   exact wo (h:=wx hI0 (i+1) ⟨(xs++(if (!mem l i)=true then [(i:Int)] else [])),wg,wn,wn,wj,(by rw [aL];split<;>simp<;>omega),(by rw [dJ,<- hx])⟩)
  .have Y:=wa Y h5
   exact wo (h:=wx hI0 (i+1) ⟨(xs++(if (!mem l i)=true then [(i:Int)] else [])),wg,wn,wn,wj,(by rw [aL];split<;>simp<;>omega),(by rw [dJ,<- hx])⟩)
 .exact wv (h:=hQ _ _ (by simp [go_sem,Y,bJ];rw [hx,(aD:i=n)];simp))
def keptF (r:Rule):Int :=
 if subF r.left.graph r.keep≠0 then subF r.left.graph r.keep
 else if eJ (cY r.left.graph r.keep) r.right.graph r.into≠0 then eJ (cY r.left.graph r.keep) r.right.graph r.into
 else if CQ (cY r.left.graph r.keep) r.right.graph r.into=false then 11 else 0
structure Rule.ok (r:Rule):Prop where
 name:r.name.size<=100000
 k1:r.keep.nodes.length<=1000000
 k2:r.keep.edges.length<=1000000
 i1:r.into.nodes.length<=1000000
 i2:r.into.edges.length<=1000000
 cond:r.cond.ok
 size:r.cond.size<=1000000
theorem P0 (r:Rule)(hr:r.ok):Pure Tryz.prog 224 [r.d] (dI (keptF r)):=by
 obtain ⟨_,hk1,hk2,hi1,hi2,_,_⟩:=hr
 refine Tz.pK ⟨λt=>t==3||t==4,λ_=>[]⟩ Tryz.func224 rfl (λQ hQ=>?_)
 have Y:=trivial
 refine wv (h:=aB (Cu r.left.graph r.keep hk1 hk2) wl ?_)
 refine dP (λh2=>?_) λh2=>?_
 .have Y:=wa Y (wa h2 @keptF.eq_1)
  exact wv (h:=hQ _ _ wy)
 .refine wv (h:=aB (oR (cY r.left.graph r.keep) r.right.graph r.into) wl ?_)
  refine dP (λh5=>?_) λh5=>?_
  .have Y:=wa Y (wa h2 (wa h5 @keptF.eq_1))
   exact wv (h:=hQ _ _ wy)
  .refine wo (h:=aB (rW (cY r.left.graph r.keep) r.right.graph r.into hi1 hi2) wl ?_)
   refine fA (λh7=>?_) λh7=>?_
   .have Y:=wa Y (wa h2 (wa h5 (wa h7 @keptF.eq_1)))
    exact wv (h:=hQ _ _ wy)
   .have Y:=wa Y (wa h2 (wa h5 (wa h7 @keptF.eq_1)))
    exact wv (h:=hQ _ _ wy)
def absB (t:Types)(g:Graph)(i:Int):Bool:=((t.nodes[(gN g i).toNat]?).map (·.abs)).getD false
def unfitB (t:Types)(g:Graph)(k:Int):Bool:=!n3 t (g.edges[k.toNat]?.getD cC).type (gN g (g.edges[k.toNat]?.getD cC).from_) (gN g (g.edges[k.toNat]?.getD cC).to_)
def x9 (t:Types)(g:Graph)(nodes edges:List Int):Bool:=(!(nodes.any (absB t g)))&&!(edges.any (unfitB t g))
theorem nT {t:Types}{g:Graph}(h0:graphF g=0)(h:g7 t g=true):(∀ a∈g.nodes,0<=a/\a<t.nodes.length)/\∀ x∈g.edges,(0<=x.type/\x.type<t.edges.length)/\(0<=x.from_/\x.from_<g.nodes.length)/\(0<=x.to_/\x.to_<g.nodes.length):=by
 obtain ⟨h1,h2⟩:=eL h0
 simp [g7] at h
 exact ⟨λa ha=>⟨(h1 a ha).1,h.1 a ha⟩,λx hx=>⟨⟨(h2 x hx).1.1,h.2 x hx⟩,(h2 x hx).2⟩⟩
theorem Hm (t:Types)(g:Graph)(h0:graphF g=0)(hT:g7 t g=true)(i:Int)(hi0:0<=i)(hi1:i<g.nodes.length):Pure Tryz.prog 282 [dI i,.adr t.c,.adr g.c] (.bool (absB t g i)):=by
 have hk:i.toNat<g.nodes.length:=aD
 have hin:=(nT h0 hT).1 _ (aC hk)
 have hn:g.nodes[i.toNat].toNat<t.nodes.length:=aD
 refine Tz.pK ⟨λ_=>false,λ_=>[]⟩ Tryz.func282 rfl (λQ hQ=>?_)
 have Y:=wa (aA hk) (aA hn)
 have Y:=wa Y (wa @absB.eq_1 @gN.eq_1)
 exact wo (h:=hQ _ _ wy)
theorem Hl (t:Types)(ht:t.ok)(g:Graph)(h0:graphF g=0)(hT:g7 t g=true)(k:Int)(hi0:0<=k)(hi1:k<g.edges.length):Pure Tryz.prog 283 [dI k,.adr g.c,.adr t.c] (.bool (unfitB t g k)):=by
 have hk:k.toNat<g.edges.length:=aD
 have hin:=(nT h0 hT).2 _ (aC hk)
 have hf:g.edges[k.toNat].from_.toNat<g.nodes.length:=aD
 have hto:g.edges[k.toNat].to_.toNat<g.nodes.length:=aD
 refine Tz.pK ⟨λt=>t==5,λ_=>[]⟩ Tryz.func283 rfl (λQ hQ=>?_)
 have Y:=wa (aA hk) (wa (aA hf) (aA hto))
 refine wo (h:=aJ (ES t ht _ _ _) wl ?_)
 have Y:=wa Y (wa @unfitB.eq_1 @gN.eq_1)
 exact wo (h:=hQ _ _ wy)
theorem JI (t:Types)(ht:t.ok)(g:Graph)(h0:graphF g=0)(hT:g7 t g=true)(nodes edges:List Int)(hn:∀ i∈nodes,0<=i/\i<g.nodes.length)(he:∀ k∈edges,0<=k/\k<g.edges.length):Pure Tryz.prog 201 [t.d,g.d,dLI nodes,dLI edges] (.bool (x9 t g nodes edges)):=by
 have h1:=gC nodes 282 [.adr t.c,.adr g.c] (absB t g) (by simp [go_sem]) (by simp [go_sem]) (λi hi=>Hm t g h0 hT i (hn i hi).1 (hn i hi).2)
 have h2:=gC edges 283 [.adr g.c,.adr t.c] (unfitB t g) (by simp [go_sem]) (by simp [go_sem]) (λk hk=>Hl t ht g h0 hT k (he k hk).1 (he k hk).2)
 have hM:x9 t g nodes edges=((!(nodes.any (absB t g)))&&!(edges.any (unfitB t g))):=rfl
 generalize nodes.any (absB t g)=u at *
 generalize edges.any (unfitB t g)=v at *
 rw [hM]
 refine Tz.pK ⟨λ_=>false,λ_=>[]⟩ Tryz.func201 rfl (λQ hQ=>?_)
 have Y:=trivial
 refine wo (h:=aB (h1) wl ?_)
 refine wo (h:=aG (λhg=>h2) (λhg=>wl) ?_)
 exact wo (h:=hQ _ _ wy)
def Rule.freshN (r:Rule):List Int:=bJ r.into.nodes r.right.graph.nodes.length
def Rule.freshE (r:Rule):List Int:=bJ r.into.edges r.right.graph.edges.length
theorem JJ (r:Rule)(h1:r.right.graph.nodes.length<=1000000)(h2:r.right.graph.edges.length<=1000000):Pure Tryz.prog 225 [r.d] (.tup [dLI r.freshN,dLI r.freshE]):=by
 refine Tz.pK ⟨λ_=>false,λ_=>[]⟩ Tryz.func225 rfl (λQ hQ=>?_)
 have Y:=trivial
 refine wo (h:=aJ (Dn r.into.nodes _ h1) wl ?_)
 refine wo (h:=aJ (Dn r.into.edges _ h2) wl ?_)
 have Y:=wa Y (wa @Rule.freshN.eq_1 @Rule.freshE.eq_1)
 exact wo (h:=hQ _ _ wy)
def ruleF (t:Types)(r:Rule):Int :=
 if (cZ t).2≠0 then (cZ t).2
 else if lW r.name=false then 2
 else if c5 t r.left≠0 then c5 t r.left
 else if iW t r≠0 then iW t r
 else if keptF r≠0 then keptF r
 else if x9 t r.right.graph r.freshN r.freshE=false then 13
 else condF t r.left r.cond
theorem CB {t:Types}{r:Rule}(h:iW t r=0):graphF r.right.graph=0/\g7 t r.right.graph=true:=by
 unfold iW at h
 split at h
 .rename_i h1;exact absurd h h1
 .rename_i h1
  split at h
  .cases h
  .rename_i h2;exact ⟨aD,by simpa using h2⟩
theorem NH (t:Types)(ht:t.ok)(r:Rule)(hr:r.ok):Pure Tryz.prog 136 [t.d,r.d] (dI (ruleF t r)):=by
 have hcv:=wL t ht r.left r.cond hr.cond hr.size
 rw [Cond.c_eq] at hcv
 refine Tz.pK ⟨λ_=>false,λ_=>[]⟩ Tryz.func136 rfl (λQ hQ=>?_)
 have Y:=trivial
 refine wv (h:=aB (l7 t ht) wl ?_)
 refine dP (λh2=>?_) λh2=>?_
 .have Y:=wa Y (wa h2 @ruleF.eq_1)
  exact wv (h:=hQ _ _ wy)
 .refine wo (h:=aB (oI r.name hr.name) wl ?_)
  refine fA (λh4=>?_) λh4=>?_
  .have Y:=wa Y (wa h2 (wa h4 @ruleF.eq_1))
   exact wv (h:=hQ _ _ wy)
  .refine wv (h:=aB (nI t ht r.left) wl ?_)
   refine dP (λh7=>?_) λh7=>?_
   .have Y:=wa Y (wa h2 (wa h4 (wa h7 @ruleF.eq_1)))
    exact wv (h:=hQ _ _ wy)
   .refine wv (h:=aB (NG t ht r) wl ?_)
    refine dP (λh10=>?_) λh10=>?_
    .have Y:=wa Y (wa h2 (wa h4 (wa h7 (wa h10 @ruleF.eq_1))))
     exact wv (h:=hQ _ _ wy)
    .have hg:=CB h10
     have hgl:=bR hg.1
     refine wv (h:=aB (P0 r hr) wl ?_)
     refine dP (λh13=>?_) λh13=>?_
     .have Y:=wa Y (wa h2 (wa h4 (wa h7 (wa h10 (wa h13 @ruleF.eq_1)))))
      exact wv (h:=hQ _ _ wy)
     .refine wv (h:=aB (JJ r aD aD) wl ?_)
      refine wo (h:=aB (JI t ht r.right.graph hg.1 hg.2 r.freshN r.freshE (λi hi=>lF hi) (λi hi=>lF hi)) wl ?_)
      refine fA (λh16=>?_) λh16=>?_
      .have Y:=wa Y (wa h2 (wa h4 (wa h7 (wa h10 (wa h13 (wa h16 @ruleF.eq_1))))))
       exact wv (h:=hQ _ _ wy)
      .refine wv (h:=aB (hcv) wl ?_)
       have Y:=wa Y (wa h2 (wa h4 (wa h7 (wa h10 (wa h13 (wa h16 @ruleF.eq_1))))))
       exact wv (h:=hQ _ _ wy)
def jU (im keep:List Int):List Int:=((List.range im.length).filter λ(i:Nat)=>!mem keep i).map λi=>im[i]?.getD 0
def yN (g:Graph)(me gone:List Int)(k:Nat):Bool:=!mem me k&&(mem gone (g.edges[k]?.getD cC).from_||mem gone (g.edges[k]?.getD cC).to_)
def Ak (g:Graph)(me gone:List Int):List Int:=((List.range g.edges.length).filter (yN g me gone)).map λ(b:Nat)=>(b:Int)
def tP (im keep:List Int)(i k:Nat):Bool:=decide (im[i]?.getD 0=im[k]?.getD 0)&&(!mem keep i||!mem keep k)
def lX (im keep:List Int)(i j:Nat):List (Nat × Nat):=((List.range j).filter λb=>tP im keep i (i+1+b)).map λb=>(i,i+1+b)
def GA (im keep:List Int)(n:Nat):List (Nat × Nat):=(List.range n).flatMap λi=>lX im keep i (im.length - (i+1))
def q9 (im keep:List Int):List (Nat × Nat):=GA im keep im.length
def cPr (p:Nat × Nat):List D:=[dI p.1,dI p.2]
@[go_sem] theorem U8 (p:Nat × Nat):D.clL (cPr p)=true:=rfl
@[go_sem] theorem ZK (l:List (Nat × Nat)):D.clLL (l.map cPr)=true:=dL _ U8 l
theorem MG (im keep:List Int)(i j:Nat):lX im keep i (j+1)=lX im keep i j++(if tP im keep i (i+1+j)=true then [(i,i+1+j)] else []):=by
 unfold lX
 rw [dF,kL,List.map_append]
 congr 1
 by_cases h:tP im keep i (i+1+j)=true<;>simp [h]
theorem CX (im keep:List Int)(n:Nat):GA im keep (n+1)=GA im keep n++lX im keep n (im.length - (n+1)):=by
 unfold GA;rw [dF,List.flatMap_append];simp
theorem AL (im keep:List Int)(i j:Nat):(lX im keep i j).length<=j:=by
 unfold lX;rw [aW];exact fD (l6 _ _) bV
theorem uV (im keep:List Int):∀ n,(GA im keep n).length<=n * im.length
 | 0=>by simp [GA]
 | n+1=>by
  have h1:=uV im keep n
  have h2:=AL im keep n (im.length - (n+1))
  rw [CX,aL,Nat.add_mul]
  omega
theorem pL (im keep:List Int){i:Nat}(h:i<im.length):((List.range (i+1)).filter λ(i:Nat)=>!mem keep i).map (λi=>im[i]?.getD 0)=((List.range i).filter λ(i:Nat)=>!mem keep i).map (λi=>im[i]?.getD 0)++(if (!mem keep i)=true then [im[i]] else []):=by
 rw [dF,kL,List.map_append]
 congr 1
 by_cases hm:(!mem keep i)=true
 .rw [if_pos hm];simp at hm;simp [hm,h]
 .rw [if_neg hm];simp at hm;simp [hm]
theorem uQ {im keep:List Int}{x:Int}:x∈jU im keep↔∃ i:Nat,i<im.length/\mem keep i=false/\im[i]?=some x:=by
 unfold jU
 simp only [bA,gZ,bP,c9]
 constructor
 .rintro ⟨i,⟨h1,h2⟩,h3⟩
  rw [aA h1] at h3
  exact ⟨i,h1,h2,by rw [aA h1];exact congrArg some h3⟩
 .rintro ⟨i,h1,h2,h3⟩
  exact ⟨i,⟨h1,h2⟩,by rw [h3];rfl⟩
def compG (l g:Graph)(keep m:Part):Int:=if eJ l g m≠0 then eJ l g m else subF l keep
def qV (l g:Graph)(keep m:Part):Int :=
 if compG l g keep m≠0 then compG l g keep m
 else if 0<(q9 m.nodes keep.nodes).length+(q9 m.edges keep.edges).length then 15
 else if 0<(Ak g m.edges (jU m.nodes keep.nodes)).length then 14 else 0
def r7 (l g:Graph)(keep m:Part):Part:=if qV l g keep m=0 then ⟨bJ (jU m.nodes keep.nodes) g.nodes.length,bJ (jU m.edges keep.edges) g.edges.length⟩ else ⟨[],[]⟩
theorem pF (l:List Int)(v:Int):Pure Tryz.prog 340 [dLI l,dI v] (.bool (mem l v)):=by
 refine Tz.pK ⟨λ_=>false,λ_=>[]⟩ Tryz.func340 rfl (λQ hQ=>?_)
 have Y:=trivial
 refine wv (h:=bF (λi e H=>(e 0=dLI l/\e 1=dI v/\e 5=dI i)/\(i<=l.length)/\(∀ j,j<i->l[j]?≠some v)) (λi=>l.length - i) 0 ⟨wg,wi,(by intro j hj;omega)⟩ λI0 hI0 i e H hi0=>?_)
 obtain ⟨E0,hi,hne⟩:=hi0
 have Y:=wa Y E0
 refine wv (h:=?_)
 repeat first|intro _|refine ⟨eO,?_⟩
 refine wq (λh2=>?_) λh2=>?_
 .have Y:=wa Y h2
  refine wv (h:=?_)
  repeat first|intro _|refine ⟨eO,?_⟩
  refine wq (λh4=>?_) λh4=>?_
  .refine wv (h:=?_)
   have hm:mem l v=true:=(mem_iff l v).2 (h4 ▸ aC h2)
   exact hQ _ _ (by simp [go_sem,hm])
  .exact wo (h:=wx hI0 (i+1) ⟨wg,wj,(by exact iP hne (by rw [aA h2];simpa using h4))⟩)
 .refine wv (h:=?_)
  have hm:mem l v=false:=by rw [bH];intro h;obtain ⟨j,hj,he⟩:=aO ((mem_iff l v).1 h);exact hne j aD (by rw [aA hj,he])
  exact hQ _ _ (by simp [go_sem,hm])
theorem FE (l:List Int)(n:Nat)(hn:n<=1000000):Pure Tryz.prog 253 [dI n,dLI l] (dLI (bJ l n)):=by
 refine Tz.pK ⟨λt=>t==5,λ_=>[]⟩ Tryz.func253 rfl (λQ hQ=>?_)
 have Y:=trivial
 refine wv (h:=bF (λi e H=>∃ xs:List Int,(e 1=dLI l/\e 0=dI n/\e 5=.own 0 xs.length/\e 6=dI i)/\(H.get 0=some ⟨3,1,xs.map cI,false⟩)/\(0<H.next)/\(i<=n)/\(xs.length<=i)/\(xs=((List.range i).filter λ(b:Nat)=>!mem l b).map (λ(b:Nat)=>(b:Int)))) (λi=>n - i) 0 ⟨([]),wg,wn,wn,wi,bV,(by rfl)⟩ λI0 hI0 i e H hi0=>?_)
 obtain ⟨xs,E0,g0_0,n0_0,hi,hl,hx⟩:=hi0
 have Y:=wa Y (wa E0 (wa g0_0 (cD n0_0)))
 refine dP (λh3=>?_) λh3=>?_
 .have Y:=wa Y h3
  refine wo (h:=aB (pF l i) wl ?_)
  refine fA (λh5=>?_) λh5=>?_
  .have Y:=wa Y h5
   exact wo (h:=wx hI0 (i+1) ⟨(xs++(if (!mem l i)=true then [(i:Int)] else [])),wg,wn,wn,wj,(by rw [aL];split<;>simp<;>omega),(by rw [dJ,<- hx])⟩)
  .have Y:=wa Y h5
   exact wo (h:=wx hI0 (i+1) ⟨(xs++(if (!mem l i)=true then [(i:Int)] else [])),wg,wn,wn,wj,(by rw [aL];split<;>simp<;>omega),(by rw [dJ,<- hx])⟩)
 .exact wv (h:=hQ _ _ (by simp [go_sem,Y,bJ];rw [hx,(aD:i=n)];simp))
theorem Aw (im keep:List Int)(hn:im.length<=1000000):Pure Tryz.prog 254 [dLI im,dLI keep] (dLI (jU im keep)):=by
 refine Tz.pK ⟨λt=>t==5,λ_=>[]⟩ Tryz.func254 rfl (λQ hQ=>?_)
 have Y:=trivial
 refine wv (h:=bF (λi e H=>∃ xs:List Int,(e 0=dLI im/\e 1=dLI keep/\e 5=.own 0 xs.length/\e 6=dI i)/\(H.get 0=some ⟨3,1,xs.map cI,false⟩)/\(0<H.next)/\(i<=im.length)/\(xs.length<=i)/\(xs=((List.range i).filter λ(b:Nat)=>!mem keep b).map (λi=>im[i]?.getD 0))) (λi=>im.length - i) 0 ⟨([]),wg,wn,wn,wi,bV,(by rfl)⟩ λI0 hI0 i e H hi0=>?_)
 obtain ⟨xs,E0,g0_0,n0_0,hi,hl,hx⟩:=hi0
 have Y:=wa Y (wa E0 (wa g0_0 (cD n0_0)))
 refine fA (λh3=>?_) λh3=>?_
 .have Y:=wa Y (wa h3 (aA h3))
  refine wo (h:=aB (pF keep i) wl ?_)
  refine fA (λh5=>?_) λh5=>?_
  .have Y:=wa Y h5
   exact wo (h:=wx hI0 (i+1) ⟨(xs++(if (!mem keep i)=true then [im[i]] else [])),wg,wn,wn,wj,(by rw [aL];split<;>simp<;>omega),(by rw [pL _ _ h3,<- hx])⟩)
  .have Y:=wa Y h5
   exact wo (h:=wx hI0 (i+1) ⟨(xs++(if (!mem keep i)=true then [im[i]] else [])),wg,wn,wn,wj,(by rw [aL];split<;>simp<;>omega),(by rw [pL _ _ h3,<- hx])⟩)
 .refine wv (h:=?_)
  have hX:jU im keep=xs:=by rw [hx,(aD:i=im.length)];rfl
  exact hQ _ _ (by simp [go_sem,Y,hX])
theorem MJ {g:Graph}{me gone:List Int}{k:Nat}(h:k<g.edges.length):yN g me gone k=(!mem me k&&(mem gone g.edges[k].from_||mem gone g.edges[k].to_)):=by
 unfold yN;rw [aA h];rfl
theorem FF (l g:Graph)(keep m:Part)(hn:m.nodes.length<=1000000)(hg:g.edges.length<=1000000):Pure Tryz.prog 252 [l.d,g.d,keep.d,m.d] (dLI (Ak g m.edges (jU m.nodes keep.nodes))):=by
 obtain ⟨go,hgo⟩:=dZ (jU m.nodes keep.nodes)
 refine Tz.pK ⟨λt=>t==9,λ_=>[]⟩ Tryz.func252 rfl (λQ hQ=>?_)
 have Y:=hgo
 refine wv (h:=aB (Aw m.nodes keep.nodes hn) wl ?_)
 refine wv (h:=bF (λk e H=>∃ xs:List Int,(e 5=.adr g.c/\e 7=.adr m.c/\e 10=dLI go/\e 9=.own 0 xs.length/\e 11=dI k)/\(H.get 0=some ⟨3,1,xs.map cI,false⟩)/\(0<H.next)/\(k<=g.edges.length)/\(xs.length<=k)/\(xs=((List.range k).filter (yN g m.edges go)).map (λ(b:Nat)=>(b:Int)))) (λk=>g.edges.length - k) 0 ⟨([]),wg,wn,wn,wi,bV,(by rfl)⟩ λI0 hI0 k e H hi0=>?_)
 obtain ⟨xs,E0,g0_0,n0_0,hi,hl,hx⟩:=hi0
 have Y:=wa Y (wa E0 (wa g0_0 (cD n0_0)))
 refine fA (λh4=>?_) λh4=>?_
 .have hdb:=MJ (me:=m.edges) (gone:=go) h4
  have c1:=pF go g.edges[k].from_
  have c2:=pF go g.edges[k].to_
  have Y:=wa Y (wa h4 (wa (aA h4) hdb))
  refine wo (h:=aB (pF m.edges k) wl ?_)
  refine wo (h:=aG (λhg=>c1) (λhg=>wl) ?_)
  refine wo (h:=aG (λhg=>c2) (λhg=>wl) ?_)
  refine fA (λh6=>?_) λh6=>?_
  .have Y:=wa Y h6
   exact wo (h:=wx hI0 (k+1) ⟨(xs++(if yN g m.edges go k=true then [(k:Int)] else [])),wg,wn,wn,wj,(by rw [aL];split<;>simp<;>omega),(by rw [dJ,<- hx])⟩)
  .have Y:=wa Y h6
   exact wo (h:=wx hI0 (k+1) ⟨(xs++(if yN g m.edges go k=true then [(k:Int)] else [])),wg,wn,wn,wj,(by rw [aL];split<;>simp<;>omega),(by rw [dJ,<- hx])⟩)
 .refine wv (h:=?_)
  have hX:Ak g m.edges go=xs:=by rw [hx,(aD:k=g.edges.length)];rfl
  exact hQ _ _ (by simp [go_sem,Y,hX])
theorem LO (l g:Graph)(keep m:Part)(hk:keep.nodes.length<=1000000):Pure Tryz.prog 250 [l.d,g.d,keep.d,m.d] (dI (compG l g keep m)):=by
 refine Tz.pK ⟨λ_=>false,λ_=>[]⟩ Tryz.func250 rfl (λQ hQ=>?_)
 have Y:=trivial
 refine wv (h:=aB (qB l g m) wl ?_)
 refine dP (λh2=>?_) λh2=>?_
 .have Y:=wa Y (wa h2 @compG.eq_1)
  exact wv (h:=hQ _ _ wy)
 .refine wv (h:=aB (xQ l keep) wl ?_)
  have Y:=wa Y (wa h2 @compG.eq_1)
  exact wv (h:=hQ _ _ wy)
theorem R0 {im keep:List Int}{i k:Nat}(hi:i<im.length)(hk:k<im.length):tP im keep i k=(decide (im[i]=im[k])&&(!mem keep i||!mem keep k)):=by
 unfold tP;rw [aA hi,aA hk];rfl
theorem rI (im keep:List Int){i k:Nat}(h:i+1<=k):lX im keep i (k+1 - (i+1))=lX im keep i (k - (i+1))++(if tP im keep i k=true then [(i,k)] else []):=by
 rw [show k+1 - (i+1)=(k - (i+1))+1 by omega,MG,show i+1+(k - (i+1))=k by omega]
theorem uD (im keep:List Int)(hn:im.length<=1000):Pure Tryz.prog 251 [dLI im,dLI keep] (.list ((q9 im keep).map cPr)):=by
 refine Tz.pK ⟨λt=>t==5,λ_=>[]⟩ Tryz.func251 rfl (λQ hQ=>?_)
 have Y:=trivial
 refine wv (h:=bF (λi e H=>∃ xs:List (Nat × Nat),(e 0=dLI im/\e 1=dLI keep/\e 5=.own 0 xs.length/\e 6=dI i)/\(H.get 0=some ⟨354,2,xs.map cPr,false⟩)/\(0<H.next)/\(i<=im.length)/\(xs=GA im keep i)) (λi=>im.length - i) 0 ⟨([]),wg,wn,wn,wi,(by rfl)⟩ λI0 hI0 i e H hi0=>?_)
 obtain ⟨xs,E0,g0_0,n0_0,hi,hx⟩:=hi0
 have Y:=wa Y (wa E0 (wa g0_0 (cD n0_0)))
 refine fA (λh3=>?_) λh3=>?_
 .have Y:=wa Y (wa h3 (aA h3))
  refine wo (h:=bF (λk e H=>∃ ys:List (Nat × Nat),(e 0=dLI im/\e 1=dLI keep/\e 5=.own 0 ys.length/\e 6=dI i/\e 7=dI k)/\(H.get 0=some ⟨354,2,ys.map cPr,false⟩)/\(0<H.next)/\(i+1<=k)/\(k<=im.length)/\(ys=xs++lX im keep i (k - (i+1)))/\(ys.length<=1000000)) (λk=>im.length - k) (i+1) ⟨xs,wg,wn,wn,wi,wi,(by simp [lX]),(by have:=uV im keep i;have:i * im.length<=1000 * 1000:=jY aD hn;rw [hx];omega)⟩ λI2 hI2 k e H hi2=>?_)
  obtain ⟨ys,E2,g0_2,n0_2,hk1,hk2,hy,hyl⟩:=hi2
  have Y:=wa Y (wa E2 (wa g0_2 (cD n0_2)))
  refine fA (λh6=>?_) λh6=>?_
  .have hd:=R0 (keep:=keep) h3 h6
   have hyl2:(ys++(if tP im keep i k=true then [(i,k)] else [])).length<=1000000:=by
    have e1:ys++(if tP im keep i k=true then [(i,k)] else [])=GA im keep i++lX im keep i (k+1 - (i+1)):=by rw [rI _ _ aD,<- List.append_assoc,hy,hx]
    rw [e1,aL]
    have h1:=uV im keep i
    have h2:=AL im keep i (k+1 - (i+1))
    have h3:i * im.length+im.length<=1000 * 1000:=by
     have:=jY (aD:i+1<=1000) hn
     rw [Nat.add_mul] at this;omega
    omega
   have Y:=wa Y (wa h3 (wa (aA h3) (wa h6 (aA h6))))
   refine wo (h:=d8 (λhg=>pF keep i) (λhg=>wl) ?_)
   refine wo (h:=d8 (λhg=>pF keep k) (λhg=>wl) ?_)
   refine fA (λh8=>?_) λh8=>?_
   .have hdt:tP im keep i k=true:=by rw [hd];simpa using h8
    have Y:=wa Y (wa hdt @cPr.eq_1)
    exact wo (h:=wx hI2 (k+1) ⟨(ys++(if tP im keep i k=true then [(i,k)] else [])),wg,wn,wn,wj,wj,(by rw [rI _ _ aD,<- List.append_assoc,<- hy]),(by exact hyl2)⟩)
   .have hdf:tP im keep i k=false:=by rw [hd,bH];intro hb;simp at hb;simp_all
    have Y:=wa Y hdf
    exact wo (h:=wx hI2 (k+1) ⟨(ys++(if tP im keep i k=true then [(i,k)] else [])),wg,wn,wn,wj,wj,(by rw [rI _ _ aD,<- List.append_assoc,<- hy]),(by exact hyl2)⟩)
  .have hJ:k=im.length:=aD
   subst hJ
   subst hy
   exact wo (h:=wx hI0 (i+1) ⟨(xs++lX im keep i (im.length - (i+1))),wg,wn,wn,wj,(by rw [CX,<- hx])⟩)
 .have hX:q9 im keep=xs:=by rw [hx,(aD:i=im.length)];rfl
  exact wv (h:=hQ _ _ (by simp [go_sem,Y,hX]))
theorem BW {im keep:List Int}(h:im.length<=1000):(q9 im keep).length<=1000000:=by
 have h1:=uV im keep im.length
 have h2:im.length * im.length<=1000 * 1000:=jY h h
 unfold q9;omega
theorem Rr (l g:Graph)(keep m:Part)(hk:keep.nodes.length<=1000000)(hm1:m.nodes.length<=1000)(hm2:m.edges.length<=1000)(hg1:g.nodes.length<=1000000)(hg2:g.edges.length<=1000000):Pure Tryz.prog 151 [l.d,g.d,keep.d,m.d] (.tup [(r7 l g keep m).d,dI (qV l g keep m)]):=by
 have hd1:=BW (keep:=keep.nodes) hm1
 have hd2:=BW (keep:=keep.edges) hm2
 refine Tz.pK ⟨λt=>t==8,λ_=>[]⟩ Tryz.func151 rfl (λQ hQ=>?_)
 have Y:=trivial
 refine wv (h:=aB (LO l g keep m hk) wl ?_)
 refine dP (λh2=>?_) λh2=>?_
 .have hC:qV l g keep m=compG l g keep m:=if_pos h2
  have hZ:r7 l g keep m=⟨[],[]⟩:=if_neg (by rw [hC];exact h2)
  exact wv (h:=hQ _ _ (by simp [go_sem,hC,hZ]))
 .have hC:qV l g keep m=if 0<(q9 m.nodes keep.nodes).length+(q9 m.edges keep.edges).length then 15 else if 0<(Ak g m.edges (jU m.nodes keep.nodes)).length then 14 else 0:=if_neg (by rw [h2];simp)
  refine wo (h:=aJ (uD m.nodes keep.nodes hm1) wl ?_)
  refine wo (h:=aJ (uD m.edges keep.edges hm2) wl ?_)
  refine fA (λh4=>?_) λh4=>?_
  .rw [if_pos aD] at hC
   have hZ:r7 l g keep m=⟨[],[]⟩:=if_neg (by rw [hC];simp)
   exact wv (h:=hQ _ _ (by simp [go_sem,hC,hZ]))
  .rw [if_neg (by first|omega|simp [h4])] at hC
   refine wo (h:=aB (FF l g keep m aD hg2) wl ?_)
   refine fA (λh6=>?_) λh6=>?_
   .rw [if_pos aD] at hC
    have hZ:r7 l g keep m=⟨[],[]⟩:=if_neg (by rw [hC];simp)
    exact wv (h:=hQ _ _ (by simp [go_sem,hC,hZ]))
   .rw [if_neg (by first|omega|simp [h6])] at hC
    have hZ:r7 l g keep m=⟨bJ (jU m.nodes keep.nodes) g.nodes.length,bJ (jU m.edges keep.edges) g.edges.length⟩:=if_pos hC
    refine wo (h:=aJ (Aw m.nodes keep.nodes aD) wl ?_)
    refine wo (h:=aJ (FE (jU m.nodes keep.nodes) g.nodes.length hg1) wl ?_)
    refine wo (h:=aJ (Aw m.edges keep.edges aD) wl ?_)
    refine wo (h:=aJ (FE (jU m.edges keep.edges) g.edges.length hg2) wl ?_)
    exact wo (h:=hQ _ _ (by simp [go_sem,hC,hZ]))
theorem uZ (im keep:List Int)(hn:im.length<=1000):Pure Tryz.prog 329 [dLI im,dLI keep] (.list ((q9 im keep).map cPr)):=by
 refine Tz.pK ⟨λt=>t==5,λ_=>[]⟩ Tryz.func329 rfl (λQ hQ=>?_)
 have Y:=trivial
 refine wo (h:=bF (λi e H=>∃ xs:List (Nat × Nat),(e 0=dLI im/\e 1=dLI keep/\e 9=dI im.length/\e 5=.own 0 xs.length/\e 10=dI i)/\(H.get 0=some ⟨354,2,xs.map cPr,false⟩)/\(0<H.next)/\(i<=im.length)/\(xs=GA im keep i)) (λi=>im.length - i) 0 ⟨([]),wg,wn,wn,wi,(by rfl)⟩ λI0 hI0 i e H hi0=>?_)
 obtain ⟨xs,E0,g0_0,n0_0,hi,hx⟩:=hi0
 have Y:=wa Y (wa E0 (wa g0_0 (cD n0_0)))
 refine dP (λh3=>?_) λh3=>?_
 .have Y:=wa Y (wa h3 (aA h3))
  refine wo (h:=bF (λk e H=>∃ ys:List (Nat × Nat),(e 0=dLI im/\e 1=dLI keep/\e 9=dI im.length/\e 5=.own 0 ys.length/\e 6=dI i/\e 10=dI i/\e 7=dI k)/\(H.get 0=some ⟨354,2,ys.map cPr,false⟩)/\(0<H.next)/\(i+1<=k)/\(k<=im.length)/\(ys=xs++lX im keep i (k - (i+1)))/\(ys.length<=1000000)) (λk=>im.length - k) (i+1) ⟨xs,wg,wn,wn,wi,wi,(by simp [lX]),(by have:=uV im keep i;have:i * im.length<=1000 * 1000:=jY aD hn;rw [hx];omega)⟩ λI2 hI2 k e H hi2=>?_)
  obtain ⟨ys,E2,g0_2,n0_2,hk1,hk2,hy,hyl⟩:=hi2
  have Y:=wa Y (wa E2 (wa g0_2 (cD n0_2)))
  refine fA (λh6=>?_) λh6=>?_
  .have hd:=R0 (keep:=keep) h3 h6
   have hyl2:(ys++(if tP im keep i k=true then [(i,k)] else [])).length<=1000000:=by
    have e1:ys++(if tP im keep i k=true then [(i,k)] else [])=GA im keep i++lX im keep i (k+1 - (i+1)):=by rw [rI _ _ aD,<- List.append_assoc,hy,hx]
    rw [e1,aL]
    have h1:=uV im keep i
    have h2:=AL im keep i (k+1 - (i+1))
    have h3:i * im.length+im.length<=1000 * 1000:=by
     have:=jY (aD:i+1<=1000) hn
     rw [Nat.add_mul] at this;omega
    omega
   have Y:=wa Y (wa h3 (wa (aA h3) (wa h6 (aA h6))))
   refine wo (h:=d8 (λhg=>fT keep i) (λhg=>wl) ?_)
   refine wo (h:=d8 (λhg=>fT keep k) (λhg=>wl) ?_)
   refine fA (λh8=>?_) λh8=>?_
   .have hdt:tP im keep i k=true:=by rw [hd];simpa using h8
    have Y:=wa Y (wa hdt @cPr.eq_1)
    exact wo (h:=wx hI2 (k+1) ⟨(ys++(if tP im keep i k=true then [(i,k)] else [])),wg,wn,wn,wj,wj,(by rw [rI _ _ aD,<- List.append_assoc,<- hy]),(by exact hyl2)⟩)
   .have hdf:tP im keep i k=false:=by rw [hd,bH];intro hb;simp at hb;simp_all
    have Y:=wa Y hdf
    exact wo (h:=wx hI2 (k+1) ⟨(ys++(if tP im keep i k=true then [(i,k)] else [])),wg,wn,wn,wj,wj,(by rw [rI _ _ aD,<- List.append_assoc,<- hy]),(by exact hyl2)⟩)
  .have hJ:k=im.length:=aD
   subst hJ
   subst hy
   exact wo (h:=wx hI0 (i+1) ⟨(xs++lX im keep i (im.length - (i+1))),wg,wn,wn,wj,(by rw [CX,<- hx])⟩)
 .have hX:q9 im keep=xs:=by rw [hx,(aD:i=im.length)];rfl
  exact wv (h:=hQ _ _ (by simp [go_sem,Y,hX]))
def sZ (n:Nat)(l:List Int):List Bool:=l.foldl (λacc x=>acc.set x.toNat true) (List.replicate n false)
theorem FX (n:Nat)(l:List Int)(x:Int):sZ n (l++[x])=(sZ n l).set x.toNat true:=by unfold sZ;rw [EM];rfl
theorem CO (n:Nat)(l:List Int):(sZ n l).length=n:=by
 unfold sZ
 have:∀ (l:List Int) (a:List Bool),a.length=n->(l.foldl (λacc x=>acc.set x.toNat true) a).length=n:=by
  intro l
  induction l with
  | nil=>intro a h;exact h
  | cons x l ih=>intro a h;exact ih _ (bW h)
 exact this l _ bV
theorem QA (n:Nat):∀ (l:List Int),(∀ x∈l,0<=x/\x<n)->∀ i:Nat,i<n->(sZ n l)[i]?=some (mem l i):=by
 have:∀ (l:List Int) (a:List Bool),a.length=n->(∀ x∈l,0<=x/\x<n)->∀ i:Nat,i<n->(l.foldl (λacc x=>acc.set x.toNat true) a)[i]?=some (a[i]?.getD false||mem l i):=by
  intro l
  induction l with
  | nil=>intro a ha _ i hi;rw [List.foldl_nil,aA aD,vT];simp
  | cons x l ih =>
   intro a ha hl i hi
   have hx:=hl x bV
   rw [List.foldl_cons,ih _ (bW ha) (λy hy=>hl y (by simp [hy])) i hi]
   congr 1
   have hm:mem (x :: l) (i:Int)=(decide ((i:Int)=x)||mem l i):=by
    rw [aT,mem_iff,c4,mem_iff,decide_eq_true_eq,aU]
   rw [hm]
   by_cases he:x.toNat=i
   .subst he
    rw [List.getElem?_set_self aD]
    have:((x.toNat:Nat):Int)=x:=aD
    simp [this]
   .rw [List.getElem?_set_ne he]
    have:¬ ((i:Int)=x):=aD
    simp [this]
 intro l hl i hi
 unfold sZ
 rw [this l _ bV hl i hi]
 simp [hi]
theorem wN (n:Nat)(hn:n<=1000000)(im keep:List Int)(hi1:im.length<=1000000)(him:∀ x∈im,0<=x/\x<n):Pure Tryz.prog 238 [dI n,dLI im,dLI keep] (dLI (bJ (jU im keep) n)):=by
 refine Tz.pK ⟨λt=>t==14||t==10,λ_=>[]⟩ Tryz.func238 rfl (λQ hQ=>?_)
 have Y:=trivial
 refine wo (h:=bF (λi e H=>∃ go:List Int,(e 0=dI n/\e 2=dLI keep/\e 15=dLI im/\e 16=dI im.length/\e 7=.own 0 n/\e 17=dI i)/\(H.get 0=some ⟨4,1,(sZ n go).map cB,false⟩)/\(0<H.next)/\(i<=im.length)/\((sZ n go).length=n)/\(go=((List.range i).filter λ(b:Nat)=>!mem keep b).map (λi=>im[i]?.getD 0))) (λi=>im.length - i) 0 ⟨([]),wg,(by simp [go_sem,sZ,cB]),wn,wi,(by exact CO _ _),(by rfl)⟩ λI0 hI0 i e H hi0=>?_)
 obtain ⟨go,E0,g0_0,n0_0,hi,hgl,hx⟩:=hi0
 have Y:=wa Y (wa E0 (wa g0_0 (cD n0_0)))
 refine dP (λh3=>?_) λh3=>?_
 .have hb:=him _ (aC h3)
  have hbl:im[i].toNat<(sZ n go).length:=aD
  have Y:=wa Y (wa h3 (wa (aA h3) (aA hbl)))
  refine wo (h:=aB (fT keep i) wl ?_)
  refine fA (λh5=>?_) λh5=>?_
  .have Y:=wa Y h5
   exact wo (h:=wx hI0 (i+1) ⟨(go++(if (!mem keep i)=true then [im[i]] else [])),wg,(by simp [go_sem,Y,FX,bX,cB]),wn,wj,(by exact CO _ _),(by rw [pL _ _ h3,<- hx])⟩)
  .have Y:=wa Y h5
   exact wo (h:=wx hI0 (i+1) ⟨(go++(if (!mem keep i)=true then [im[i]] else [])),wg,(by simp [go_sem,Y,FX,bX,cB]),wn,wj,(by exact CO _ _),(by rw [pL _ _ h3,<- hx])⟩)
 .have hgo:jU im keep=go:=by rw [hx,(aD:i=im.length)];rfl
  have hgi:∀ x∈go,0<=x/\x<n:=λx hxm=>by
   rw [<- hgo,uQ] at hxm
   obtain ⟨j,_,_,h⟩:=hxm
   exact him x (aK h)
  refine wo (h:=bF (λk e H=>∃ xs:List Int,∃ b10:Nat,(e 0=dI n/\e 2=dLI keep/\e 15=dLI im/\e 16=dI im.length/\e 30=.own 0 n/\e 31=dI n/\e 32=dI k/\e 10=.own b10 xs.length)/\(H.get 0=some ⟨4,1,(sZ n go).map cB,false⟩)/\(0<H.next)/\(H.get b10=some ⟨3,1,xs.map cI,false⟩)/\(b10<H.next)/\(b10≠0)/\(k<=n)/\(xs.length<=k)/\(xs=((List.range k).filter λ(b:Nat)=>!mem go b).map (λ(b:Nat)=>(b:Int)))) (λk=>n - k) 0 ⟨([]),H.next,wg,wn,wn,wn,wn,aD,wi,bV,(by rfl)⟩ λI2 hI2 k e H hi2=>?_)
  obtain ⟨xs,b10,E2,g0_2,n0_2,gb10_2,nb10_2,hb0,hk,hl,hxx⟩:=hi2
  have di1:=dH (aD:0≠b10)
  have Y:=wa Y (wa E2 (wa g0_2 (wa (cD n0_2) (wa gb10_2 (wa (cD nb10_2) (wa hgl di1))))))
  refine dP (λh10=>?_) λh10=>?_
  .have hkm:k<(sZ n go).length:=aD
   have hg:(sZ n go)[k]=mem go k:=by have:=QA n go hgi k h10;rw [aA hkm] at this;exact Option.some.inj this
   have Y:=wa Y (wa h10 (wa (aA hkm) hg))
   refine fA (λh12=>?_) λh12=>?_
   .have Y:=wa Y h12
    exact wo (h:=wx hI2 (k+1) ⟨(xs++(if (!mem go k)=true then [(k:Int)] else [])),b10,wg,wn,wn,wn,wn,aD,wj,(by rw [aL];split<;>simp<;>omega),(by rw [dJ,<- hxx])⟩)
   .have Y:=wa Y h12
    exact wo (h:=wx hI2 (k+1) ⟨(xs++(if (!mem go k)=true then [(k:Int)] else [])),b10,wg,wn,wn,wn,wn,aD,wj,(by rw [aL];split<;>simp<;>omega),(by rw [dJ,<- hxx])⟩)
  .exact wv (h:=hQ _ _ (by simp [go_sem,Y,hgo,bJ];rw [hxx,(aD:k=n)];simp))
def gluC (l g:Graph)(keep m:Part):List D:=[dLI l.nodes,.list (l.edges.map Edge.c),dLI g.nodes,.list (g.edges.map Edge.c),dLI keep.nodes,dLI keep.edges,dLI m.nodes,dLI m.edges]
theorem C0 (l g:Graph)(keep m:Part)(hk:keep.nodes.length<=1000000):Pure Tryz.prog 235 [.agg (gluC l g keep m)] (dI (compG l g keep m)):=by
 refine Tz.pK ⟨λ_=>false,λ_=>[]⟩ Tryz.func235 rfl (λQ hQ=>?_)
 have Y:=@gluC.eq_1
 refine wv (h:=aB (oR l g m) wl ?_)
 refine dP (λh2=>?_) λh2=>?_
 .have Y:=wa Y (wa h2 @compG.eq_1)
  exact wv (h:=hQ _ _ wy)
 .refine wv (h:=aB (xB l keep hk) wl ?_)
  have Y:=wa Y (wa h2 @compG.eq_1)
  exact wv (h:=hQ _ _ wy)
theorem AN (l g:Graph)(keep m:Part)(hn:m.nodes.length<=1000000):Pure Tryz.prog 330 [.agg (gluC l g keep m)] (dLI (jU m.nodes keep.nodes)):=by
 refine Tz.pK ⟨λt=>t==3,λ_=>[]⟩ Tryz.func330 rfl (λQ hQ=>?_)
 have Y:=@gluC.eq_1
 refine wo (h:=bF (λi e H=>∃ xs:List Int,(e 1=.adr (gluC l g keep m)/\e 8=dLI m.nodes/\e 9=dI m.nodes.length/\e 3=.own 0 xs.length/\e 10=dI i)/\(H.get 0=some ⟨3,1,xs.map cI,false⟩)/\(0<H.next)/\(i<=m.nodes.length)/\(xs.length<=i)/\(xs=((List.range i).filter λ(b:Nat)=>!mem keep.nodes b).map (λi=>m.nodes[i]?.getD 0))) (λi=>m.nodes.length - i) 0 ⟨([]),wg,wn,wn,wi,bV,(by rfl)⟩ λI0 hI0 i e H hi0=>?_)
 obtain ⟨xs,E0,g0_0,n0_0,hi,hl,hx⟩:=hi0
 have Y:=wa Y (wa E0 (wa g0_0 (cD n0_0)))
 refine dP (λh3=>?_) λh3=>?_
 .have Y:=wa Y (wa h3 (aA h3))
  refine wo (h:=aB (fT keep.nodes i) wl ?_)
  refine fA (λh5=>?_) λh5=>?_
  .have Y:=wa Y h5
   exact wo (h:=wx hI0 (i+1) ⟨(xs++(if (!mem keep.nodes i)=true then [m.nodes[i]] else [])),wg,wn,wn,wj,(by rw [aL];split<;>simp<;>omega),(by rw [pL _ _ h3,<- hx])⟩)
  .have Y:=wa Y h5
   exact wo (h:=wx hI0 (i+1) ⟨(xs++(if (!mem keep.nodes i)=true then [m.nodes[i]] else [])),wg,wn,wn,wj,(by rw [aL];split<;>simp<;>omega),(by rw [pL _ _ h3,<- hx])⟩)
 .refine wv (h:=?_)
  have hX:jU m.nodes keep.nodes=xs:=by rw [hx,(aD:i=m.nodes.length)];rfl
  exact hQ _ _ (by simp [go_sem,Y,hX])
theorem zQ (l g:Graph)(keep m:Part)(hn:m.nodes.length<=1000000)(hg:g.edges.length<=1000000):Pure Tryz.prog 237 [.agg (gluC l g keep m)] (dLI (Ak g m.edges (jU m.nodes keep.nodes))):=by
 obtain ⟨go,hgo⟩:=dZ (jU m.nodes keep.nodes)
 refine Tz.pK ⟨λt=>t==6||t==4,λ_=>[]⟩ Tryz.func237 rfl (λQ hQ=>?_)
 have Y:=wa hgo @gluC.eq_1
 refine wv (h:=aB ((by have:=AN l g keep m hn;simp only [gluC] at this;exact this)) wl ?_)
 refine wo (h:=bF (λk e H=>∃ xs:List Int,(e 1=.adr (gluC l g keep m)/\e 3=dLI go/\e 11=.list (g.edges.map Edge.c)/\e 12=dI g.edges.length/\e 4=.own 0 xs.length/\e 13=dI k)/\(H.get 0=some ⟨3,1,xs.map cI,false⟩)/\(0<H.next)/\(k<=g.edges.length)/\(xs.length<=k)/\(xs=((List.range k).filter (yN g m.edges go)).map (λ(b:Nat)=>(b:Int)))) (λk=>g.edges.length - k) 0 ⟨([]),wg,wn,wn,wi,bV,(by rfl)⟩ λI0 hI0 k e H hi0=>?_)
 obtain ⟨xs,E0,g0_0,n0_0,hi,hl,hx⟩:=hi0
 have Y:=wa Y (wa E0 (wa g0_0 (cD n0_0)))
 refine dP (λh4=>?_) λh4=>?_
 .have hdb:=MJ (me:=m.edges) (gone:=go) h4
  have c1:=fT go g.edges[k].from_
  have c2:=fT go g.edges[k].to_
  have Y:=wa Y (wa h4 (wa (aA h4) (wa hdb @Edge.c.eq_1)))
  refine wo (h:=aB (fT m.edges k) wl ?_)
  refine wo (h:=aG (λhg=>c1) (λhg=>wl) ?_)
  refine wo (h:=aG (λhg=>c2) (λhg=>wl) ?_)
  refine fA (λh6=>?_) λh6=>?_
  .have Y:=wa Y h6
   exact wo (h:=wx hI0 (k+1) ⟨(xs++(if yN g m.edges go k=true then [(k:Int)] else [])),wg,wn,wn,wj,(by rw [aL];split<;>simp<;>omega),(by rw [dJ,<- hx])⟩)
  .have Y:=wa Y h6
   exact wo (h:=wx hI0 (k+1) ⟨(xs++(if yN g m.edges go k=true then [(k:Int)] else [])),wg,wn,wn,wj,(by rw [aL];split<;>simp<;>omega),(by rw [dJ,<- hx])⟩)
 .refine wv (h:=?_)
  have hX:Ak g m.edges go=xs:=by rw [hx,(aD:k=g.edges.length)];rfl
  exact hQ _ _ (by simp [go_sem,Y,hX])
theorem wY (l g:Graph)(keep m:Part)(h1:m.nodes.length<=1000)(h2:m.edges.length<=1000):Pure Tryz.prog 236 [.agg (gluC l g keep m)] (.tup [.list ((q9 m.nodes keep.nodes).map cPr),.list ((q9 m.edges keep.edges).map cPr)]):=by
 refine Tz.pK ⟨λ_=>false,λ_=>[]⟩ Tryz.func236 rfl (λQ hQ=>?_)
 have Y:=@gluC.eq_1
 refine wv (h:=aJ (uZ m.nodes keep.nodes h1) wl ?_)
 refine wv (h:=aJ (uZ m.edges keep.edges h2) wl ?_)
 exact wv (h:=hQ _ _ wy)
theorem y3 {a b:Graph}{m:Part}(h:eJ a b m=0):(∀ x∈m.nodes,0<=x/\x<b.nodes.length)/\∀ x∈m.edges,0<=x/\x<b.edges.length:=by
 obtain ⟨_,_,h3,h4⟩:=nO h
 have hM:eJ a b m=(if bT (j9 a b m) 0 a.nodes.length≠0 then bT (j9 a b m) 0 a.nodes.length else bT (iE a b m) 0 a.edges.length):=by
  obtain ⟨g1,g2,_,_⟩:=nO h
  unfold eJ;rw [if_neg (by simp [g1]),if_neg (by simp [g2]),if_neg aD]
 rw [hM] at h
 split at h
 .rename_i h5;exact absurd h h5
 .rename_i h5
  constructor
  .intro x hx
   obtain ⟨i,hi,rfl⟩:=aO hx
   have:=eY _ _ (aD:bT (j9 a b m) 0 a.nodes.length=0) i aD aD
   unfold j9 at this
   rw [aA hi] at this
   simp only [Option.getD_some] at this
   split at this<;>omega
  .intro x hx
   obtain ⟨i,hi,rfl⟩:=aO hx
   have:=eY _ _ h i aD aD
   unfold iE at this
   rw [aA hi] at this
   simp only [Option.getD_some] at this
   split at this<;>omega
theorem HM (l g:Graph)(keep m:Part)(hk:keep.nodes.length<=1000000)(hm1:m.nodes.length<=1000)(hm2:m.edges.length<=1000)(hg1:g.nodes.length<=1000000)(hg2:g.edges.length<=1000000):Pure Tryz.prog 140 [l.d,g.d,keep.d,m.d] (.tup [(r7 l g keep m).d,dI (qV l g keep m)]):=by
 have hd1:=BW (keep:=keep.nodes) hm1
 have hd2:=BW (keep:=keep.edges) hm2
 refine Tz.pK ⟨λt=>t==8||t==10,λ_=>[]⟩ Tryz.func140 rfl (λQ hQ=>?_)
 have Y:=trivial
 refine wv (h:=aB ((by have:=C0 l g keep m hk;simp only [gluC] at this;exact this)) wl ?_)
 refine dP (λh3=>?_) λh3=>?_
 .have hC:qV l g keep m=compG l g keep m:=if_pos h3
  have hZ:r7 l g keep m=⟨[],[]⟩:=if_neg (by rw [hC];exact h3)
  exact wv (h:=hQ _ _ (by simp [go_sem,hC,hZ]))
 .have hC:qV l g keep m=if 0<(q9 m.nodes keep.nodes).length+(q9 m.edges keep.edges).length then 15 else if 0<(Ak g m.edges (jU m.nodes keep.nodes)).length then 14 else 0:=if_neg (by rw [h3];simp)
  have hin:(∀ x∈m.nodes,0<=x/\x<g.nodes.length)/\∀ x∈m.edges,0<=x/\x<g.edges.length:=y3 (a:=l) (by unfold compG at h3;by_cases hz:eJ l g m=0;exact hz;rw [if_pos hz] at h3;exact h3)
  refine wv (h:=aB ((by have:=wY l g keep m hm1 hm2;simp only [gluC] at this;exact this)) wl ?_)
  refine fA (λh6=>?_) λh6=>?_
  .rw [if_pos aD] at hC
   have hZ:r7 l g keep m=⟨[],[]⟩:=if_neg (by rw [hC];simp)
   exact wv (h:=hQ _ _ (by simp [go_sem,hC,hZ]))
  .rw [if_neg (by first|omega|simp [h6])] at hC
   refine wo (h:=aB ((by have:=zQ l g keep m aD hg2;simp only [gluC] at this;exact this)) wl ?_)
   refine fA (λh8=>?_) λh8=>?_
   .rw [if_pos aD] at hC
    have hZ:r7 l g keep m=⟨[],[]⟩:=if_neg (by rw [hC];simp)
    exact wv (h:=hQ _ _ (by simp [go_sem,hC,hZ]))
   .rw [if_neg (by first|omega|simp [h8])] at hC
    have hZ:r7 l g keep m=⟨bJ (jU m.nodes keep.nodes) g.nodes.length,bJ (jU m.edges keep.edges) g.edges.length⟩:=if_pos hC
    refine wo (h:=aJ (wN g.nodes.length hg1 m.nodes keep.nodes aD hin.1) wl ?_)
    refine wo (h:=aJ (wN g.edges.length hg2 m.edges keep.edges aD hin.2) wl ?_)
    exact wo (h:=hQ _ _ (by simp [go_sem,hC,hZ]))
def jR (s:ByteArray):Bool:=decide (40<(s.size:Int))
def tE (x:Attr):Bool:=jR x.name||decide (25<(x.names.length:Int))||x.names.any jR
def p6 (n:NodeTy):Bool:=jR n.name||n.attrs.any tE
def zF (x:EdgeTy):Bool:=jR x.name
def iT (l:List NodeTy):Nat:=(l.map λn=>n.attrs.length).sum
def uS (t:Types):Bool:=decide ((t.nodes.length:Int)<=20)&&decide ((t.edges.length:Int)<=30)&&decide (iT t.nodes<=30)&&!(t.nodes.any p6)&&!(t.edges.any zF)
@[go_sem,simp] theorem TX:iT []=0:=rfl
theorem Kw (l:List NodeTy){i:Nat}(h:i<l.length):iT (l.take (i+1))=iT (l.take i)+l[i].attrs.length:=by
 unfold iT
 rw [aE h,List.map_append,List.sum_append];simp
theorem OP (l:List NodeTy)(i:Nat):iT (l.take i)<=iT l:=by
 have:iT l=iT (l.take i)+iT (l.drop i):=by
  unfold iT
  rw [<- List.sum_append,<- List.map_append,List.take_append_drop]
 omega
theorem QY {l:List NodeTy}{n:NodeTy}(h:n∈l):n.attrs.length<=iT l:=by
 induction l with
 | nil=>cases h
 | cons a l ih =>
  have e:iT (a :: l)=a.attrs.length+iT l:=by simp [iT]
  rcases aU.1 h with rfl|h
  .omega
  .have:=ih h;omega
theorem EI {t:Types}(h:uS t=true):t.ok:=by
 simp [uS] at h
 obtain ⟨⟨⟨⟨h1,h2⟩,h3⟩,h4⟩,h5⟩:=h
 refine ⟨λn hn=>?_,λx hx=>⟨?_⟩,aD,aD⟩
 .have hl:=QY hn
  have:=h4 n hn
  simp [p6,jR] at this
  refine ⟨aD,λx hx=>?_,aD⟩
  have hb:=this.2 x hx
  simp [tE,jR] at hb
  refine ⟨aD,λs hs=>?_,aD⟩
  have:=hb.2 s hs
  omega
 .have:=h5 x hx
  simp [zF,jR] at this
  omega
theorem Il (t:Types)(ht:∀ n∈t.nodes,n.attrs.length<=1000000000000000):Pure Tryz.prog 36 [t.d] (.bool (uS t)):=by
 refine Tz.pK ⟨λt=>t==6,λ_=>[]⟩ Tryz.func36 rfl (λQ hQ=>?_)
 have Y:=trivial
 refine fA (λh1=>?_) λh1=>?_
 .refine wv (h:=?_)
  have hb:uS t=false:=by simp [uS];omega
  exact hQ _ _ (by simp [go_sem,hb])
 .refine wv (h:=bF (λi e H=>(e 1=.adr t.c/\e 3=dI (iT (t.nodes.take i))/\e 4=dI i)/\(i<=t.nodes.length)/\(iT (t.nodes.take i)<=30)/\((t.nodes.take i).any p6=false)) (λi=>t.nodes.length - i) 0 ⟨wg,wi,(by simp [iT]),(by rfl)⟩ λI0 hI0 i e H hi0=>?_)
  obtain ⟨E0,hi,hs,ha⟩:=hi0
  have Y:=wa Y E0
  refine fA (λh5=>?_) λh5=>?_
  .have hst:=Kw t.nodes h5
   have hle:=OP t.nodes (i+1)
   have hn:=ht _ (aC h5)
   have Y:=wa Y (wa h5 hst)
   refine fA (λh8=>?_) λh8=>?_
   .refine wv (h:=?_)
    have hb:uS t=false:=by
     rcases h8 with h8|h8
     .simp [uS];omega
     .have:t.nodes.any p6=true:=aX.2 ⟨_,aC h5,by simp [p6,jR];omega⟩
      simp [uS,this]
    exact hQ _ _ (by simp [go_sem,hb])
   .have hN:jR t.nodes[i].name=false:=by simp [jR];omega
    refine wv (h:=bF (λk e H=>(e 1=.adr t.c/\e 3=dI (iT (t.nodes.take (i+1)))/\e 4=dI i/\e 5=dI k)/\(k<=t.nodes[i].attrs.length)/\((t.nodes[i].attrs.take k).any tE=false)) (λk=>t.nodes[i].attrs.length - k) 0 ⟨wg,wi,(by rfl)⟩ λI2 hI2 k e H hi2=>?_)
    obtain ⟨E2,hk,hb⟩:=hi2
    have Y:=wa Y E2
    refine fA (λh11=>?_) λh11=>?_
    .have Y:=wa Y h11
     refine fA (λh14=>?_) λh14=>?_
     .refine wv (h:=?_)
      have hbad:tE t.nodes[i].attrs[k]=true:=by simp [tE,jR];omega
      have hb2:t.nodes.any p6=true:=aX.2 ⟨_,aC h5,by unfold p6;rw [c4];right;exact aX.2 ⟨_,aC h11,hbad⟩⟩
      have hb3:uS t=false:=by simp [uS,hb2]
      exact hQ _ _ (by simp [go_sem,hb3])
     .have hM:jR t.nodes[i].attrs[k].name=false:=by simp [jR];omega
      refine wv (h:=bF (λm e H=>∃ j:Nat,(e 1=.adr t.c/\e 3=dI (iT (t.nodes.take (i+1)))/\e 4=dI i/\e 5=dI k/\e 6=.ptr j 1 0 0/\e 7=dI m)/\(H.get j=some ⟨118,4,[t.nodes[i].attrs[k].c],false⟩)/\(j<H.next)/\(m<=t.nodes[i].attrs[k].names.length)/\((t.nodes[i].attrs[k].names.take m).any jR=false)) (λm=>t.nodes[i].attrs[k].names.length - m) 0 ⟨H.next,wg,wn,wn,wi,(by rfl)⟩ λI4 hI4 m e H hi4=>?_)
      obtain ⟨j,E4,gj_4,nj_4,hm,hc⟩:=hi4
      have Y:=wa Y (wa E4 (wa gj_4 (cD nj_4)))
      refine fA (λh17=>?_) λh17=>?_
      .have Y:=wa Y h17
       refine fA (λh19=>?_) λh19=>?_
       .refine wv (h:=?_)
        have hbad:tE t.nodes[i].attrs[k]=true:=by unfold tE;rw [c4];right;exact aX.2 ⟨_,aC h17,by simp [jR];omega⟩
        have hb2:t.nodes.any p6=true:=aX.2 ⟨_,aC h5,by unfold p6;rw [c4];right;exact aX.2 ⟨_,aC h11,hbad⟩⟩
        have hb3:uS t=false:=by simp [uS,hb2]
        exact hQ _ _ (by simp [go_sem,hb3])
       .exact wo (h:=wx hI4 (m+1) ⟨j,wg,wn,wn,wj,(by rw [dS _ _ _ h17,hc];simp [jR];omega)⟩)
      .have hZ:=nJ hc h17
       exact wo (h:=wx hI2 (k+1) ⟨wg,wj,(by rw [dS _ _ _ h11,hb];simp [tE,hM,hZ];omega)⟩)
    .have hA:=nJ hb h11
     exact wo (h:=wx hI0 (i+1) ⟨wg,wj,aD,(by rw [dS _ _ _ h5,ha];simp [p6,hN,hA])⟩)
  .have hNn:=nJ ha h5
   rw [aH aD] at hs
   refine wv (h:=bF (λq e H=>(e 1=.adr t.c/\e 8=dI q)/\(q<=t.edges.length)/\((t.edges.take q).any zF=false)) (λq=>t.edges.length - q) 0 ⟨wg,wi,(by rfl)⟩ λI6 hI6 q e H hi6=>?_)
   obtain ⟨E6,hj,hd⟩:=hi6
   have Y:=wa Y E6
   refine fA (λh22=>?_) λh22=>?_
   .have Y:=wa Y h22
    refine fA (λh24=>?_) λh24=>?_
    .refine wv (h:=?_)
     have hb2:t.edges.any zF=true:=aX.2 ⟨_,aC h22,by simp [zF,jR];omega⟩
     have hb3:uS t=false:=by simp [uS,hb2]
     exact hQ _ _ (by simp [go_sem,hb3])
    .exact wo (h:=wx hI6 (q+1) ⟨wg,wj,(by rw [dS _ _ _ h22,hd];simp [zF,jR];omega)⟩)
   .have hEe:=nJ hd h22
    refine wv (h:=?_)
    have hb3:uS t=true:=by simp only [uS,hNn,hEe];simp;omega
    exact hQ _ _ (by simp [go_sem,hb3])
def fewG (g:Graph):Bool:=decide ((g.nodes.length:Int)<=45)&&decide ((g.edges.length:Int)<=90)
def fewP (p:Pattern):Bool:=fewG p.graph&&decide ((p.slots.length:Int)<=15)&&decide ((p.tests.length:Int)<=15)
def fewPart (p:Part)(n:Int):Bool:=decide ((p.nodes.length:Int)+p.edges.length<=n)
structure Part.le (p:Part):Prop where
 n:p.nodes.length<=1000000000000000
 e:p.edges.length<=1000000000000000
theorem y0 (g:Graph):Pure Tryz.prog 159 [g.d] (.bool (fewG g)):=by
 refine Tz.pK ⟨λ_=>false,λ_=>[]⟩ Tryz.func159 rfl (λQ hQ=>?_)
 have Y:=trivial
 have Y:=wa Y @fewG.eq_1
 exact wo (h:=hQ _ _ wy)
theorem uC (p:Pattern):Pure Tryz.prog 128 [p.d] (.bool (fewP p)):=by
 refine Tz.pK ⟨λ_=>false,λ_=>[]⟩ Tryz.func128 rfl (λQ hQ=>?_)
 have Y:=trivial
 refine wo (h:=aB (y0 p.graph) wl ?_)
 have Y:=wa Y @fewP.eq_1
 exact wo (h:=hQ _ _ wy)
theorem uE (p:Part)(hp:p.le)(n:Int):Pure Tryz.prog 56 [p.d,dI n] (.bool (fewPart p n)):=by
 obtain ⟨h1,h2⟩:=hp
 refine Tz.pK ⟨λ_=>false,λ_=>[]⟩ Tryz.func56 rfl (λQ hQ=>?_)
 have Y:=trivial
 have Y:=wa Y @fewPart.eq_1
 exact wo (h:=hQ _ _ wy)
theorem Qd (p:Part)(hp:p.le)(n:Int):Pure Tryz.prog 129 [p.d,dI n] (.bool (fewPart p n)):=by
 obtain ⟨h1,h2⟩:=hp
 refine Tz.pK ⟨λ_=>false,λ_=>[]⟩ Tryz.func129 rfl (λQ hQ=>?_)
 have Y:=trivial
 have Y:=wa Y @fewPart.eq_1
 exact wo (h:=hQ _ _ wy)
mutual
def pD:Cond→Int→Int
 | .mk k l m p,b=>if (!fewP p||!fewPart m 140)=true then -1 else pC l (b - 1)
def pC:List Cond→Int→Int
 | [],b=>b
 | c :: l,b=>if 0≤b then pC l (pD c b) else b
end
theorem RH (c:Cond)(b:Int):pD c b=if (!fewP c.pattern||!fewPart c.map 140)=true then -1 else pC c.kids (b - 1):=by cases c;rw [pD];rfl
mutual
theorem F9:∀ (c:Cond) (b:Int),0≤b→-1≤pD c b∧pD c b≤b - 1
 | .mk k l m p,b,h=>by
  rw [pD];split
  ·omega
  ·exact F7 l (b - 1) (by omega)
theorem F7:∀ (l:List Cond) (b:Int),-1≤b→-1≤pC l b∧pC l b≤b
 | [],b,h=>by rw [pC];omega
 | c :: l,b,h=>by
  rw [pC];split
  ·rename_i h0
   have h1:=F9 c b h0
   have h2:=F7 l (pD c b) h1.1
   omega
  ·omega
end
mutual
def Cond.le:Cond→Prop
 | .mk k l m p=>m.le∧Cond.les l
def Cond.les:List Cond→Prop
 | []=>True
 | c :: l=>c.le∧Cond.les l
end
theorem KK (l:List Cond):Cond.les l↔∀ c∈l,c.le:=by
 induction l with
 | nil=>simp [Cond.les]
 | cons a l ih=>simp [Cond.les,ih]
theorem D0 (c:Cond):c.le↔c.map.le/\∀ k∈c.kids,k.le:=by cases c;simp [Cond.le,KK,Cond.kids,Cond.map]
mutual
theorem F8:∀ (c:Cond) (b:Int),0≤b→0≤pD c b→c.ok∧(c.size:Int)≤b - pD c b
 | .mk k l m p,b,h,h0=>by
  rw [pD] at h0 ⊢
  split at h0
  ·omega
  ·rename_i h1
   rw [if_neg h1]
   have h2:=Mn l (b - 1) (by omega) h0
   simp [fewP,fewG,fewPart] at h1
   refine ⟨⟨⟨?_,?_,?_,?_,?_,?_⟩,h2.1⟩,?_⟩<;>simp only [Cond.map,Cond.pattern,Cond.size]<;>omega
theorem Mn:∀ (l:List Cond) (b:Int),-1≤b→0≤pC l b→Cond.oks l∧(Cond.sizes l:Int)≤b - pC l b
 | [],b,h,h0=>by simp [Cond.oks,Cond.sizes,pC]
 | c :: l,b,h,h0=>by
  rw [pC] at h0 ⊢
  split at h0
  ·rename_i hb
   rw [if_pos hb]
   have h1:=F9 c b hb
   have h2:=F7 l (pD c b) h1.1
   have h3:=F8 c b hb (by omega)
   have h4:=Mn l (pD c b) h1.1 h0
   refine ⟨⟨h3.1,h4.1⟩,?_⟩
   simp only [Cond.sizes];omega
  ·omega
end
theorem Od {l:List Cond}{i:Nat}(h:i<l.length){b:Int}(hb:0<=b):pC (l.drop i) b=pC (l.drop (i+1)) (pD l[i] b):=by
 rw [eF h,pC,if_pos hb]
theorem QE {l:List Cond}{i:Nat}{b:Int}(h:¬ (i<l.length/\0<=b)):pC (l.drop i) b=b:=by
 by_cases hi:i<l.length
 .rw [eF hi,pC,if_neg aD]
 .rw [gX aD,pC]
theorem NT:∀ c:Cond,c.le->∀ b:Int,0<=b->b<=1000->Pure Tryz.prog 215 [.agg c.c,dI b] (dI (pD c b)):=by
 refine i9 λc ih hc b0 hb0 hb1=>?_
 obtain ⟨hs,hk⟩:=(D0 c).1 hc
 have hL0:=RH c b0
 refine Tz.pK ⟨λ_=>false,λ_=>[]⟩ Tryz.func215 rfl (λQ hQ=>?_)
 have Y:=@Cond.c_eq
 refine wo (h:=aB (uC c.pattern) wl ?_)
 refine wo (h:=aG (λhg=>uE c.map hs 140) (λhg=>wl) ?_)
 refine wv (h:=?_)
 repeat first|intro _|refine ⟨eO,?_⟩
 refine wq (λh2=>?_) λh2=>?_
 .rw [if_pos (bW h2)] at hL0
  exact wv (h:=hQ _ _ (by simp [go_sem,hL0]))
 .rw [if_neg (bW h2)] at hL0
  refine wv (h:=bF (λi e H=>∃ b:Int,(e 2=.adr c.c/\e 1=dI b/\e 5=dI i)/\(i<=c.kids.length)/\(-1<=b/\b<b0)/\(pC (c.kids.drop i) b=pD c b0)) (λi=>c.kids.length - i) 0 ⟨((b0 - 1)),wg,wi,aD,(by exact hL0.symm)⟩ λI0 hI0 i e H hi0=>?_)
  obtain ⟨b,E0,hi,hb,hL⟩:=hi0
  have Y:=wa Y E0
  refine wv (h:=?_)
  repeat first|intro _|refine ⟨eO,?_⟩
  refine wq (λh5=>?_) λh5=>?_
  .have h5':i<c.kids.length/\0<=b:=aD
   have Y:=wa Y (wa h5 h5'.1)
   refine wo (h:=aB ((by have:=ih _ (aC h5'.1) (hk _ (aC h5'.1)) b h5'.2 aD;rwa [Cond.c_eq] at this)) wl ?_)
   exact wo (h:=wx hI0 (i+1) ⟨(pD c.kids[i] b),wg,wj,(by have:=F9 c.kids[i] b h5'.2;omega),(by rw [<- hL,Od h5'.1 h5'.2])⟩)
  .have h5':¬ (i<c.kids.length/\0<=b):=aD
   refine wv (h:=?_)
   have hE:pD c b0=b:=by rw [<- hL,QE h5']
   exact hQ _ _ (by simp [go_sem,hE])
def fewC (c:Cond):Bool:=decide (0<=pD c 40)
theorem Ij (c:Cond)(hc:c.le):Pure Tryz.prog 130 [.agg c.c] (.bool (fewC c)):=by
 refine Tz.pK ⟨λ_=>false,λ_=>[]⟩ Tryz.func130 rfl (λQ hQ=>?_)
 have Y:=@Cond.c_eq
 refine wv (h:=aB ((by have:=NT c hc 40 aD aD;rwa [Cond.c_eq] at this)) wl ?_)
 have Y:=wa Y @fewC.eq_1
 exact wv (h:=hQ _ _ wy)
def fewR (r:Rule):Bool:=decide ((r.name.size:Int)<=60)&&fewP r.left&&fewP r.right&&fewPart r.keep 140&&fewPart r.into 140&&fewC r.cond
structure Rule.le (r:Rule):Prop where
 keep:r.keep.le
 into:r.into.le
 cond:r.cond.le
theorem Qb (r:Rule)(hr:r.le):Pure Tryz.prog 54 [r.d] (.bool (fewR r)):=by
 refine Tz.pK ⟨λ_=>false,λ_=>[]⟩ Tryz.func54 rfl (λQ hQ=>?_)
 have Y:=trivial
 refine wo (h:=aG (λhg=>uC r.left) (λhg=>wl) ?_)
 refine wo (h:=aG (λhg=>uC r.right) (λhg=>wl) ?_)
 refine wo (h:=aG (λhg=>Qd r.keep hr.keep 140) (λhg=>wl) ?_)
 refine wo (h:=aG (λhg=>uE r.into hr.into 140) (λhg=>wl) ?_)
 refine wo (h:=aG (λhg=>(by have:=Ij r.cond hr.cond;rwa [Cond.c_eq] at this)) (λhg=>wl) ?_)
 have Y:=wa Y @fewR.eq_1
 exact wo (h:=hQ _ _ wy)
structure Ovl where
 graph:Graph
 left:Part
 right:Part
def Ovl.c (o:Ovl):List D:=[dLI o.graph.nodes,.list (o.graph.edges.map Edge.c),dLI o.left.nodes,dLI o.left.edges,dLI o.right.nodes,dLI o.right.edges]
def Ovl.d (o:Ovl):D:=.agg o.c
@[go_sem] theorem Ovl.cl (o:Ovl):D.clL o.c=true:=by simp [Ovl.c,D.clL,D.cl,oV,uU]
@[go_sem] theorem YV (o:Ovl):o.d.cl=true:=by simp only [Ovl.d,D.cl];exact Ovl.cl o
@[go_sem] theorem Yh (l:List Ovl):D.clLL (l.map Ovl.c)=true:=dL _ Ovl.cl l
def kT (n:Nat):List Int:=(List.range n).map λ(k:Nat)=>(k:Int)
theorem Ix (i:Nat):kT (i+1)=kT i++[(i:Int)]:=by simp [kT,dF]
theorem BB (n:Nat):(kT n).length=n:=by simp [kT]
theorem MU:Own Tryz.prog 234 [.nil] 122 3 []:=by
 refine Tz.oK ⟨λt=>t==2||t==5,λ_=>[]⟩ Tryz.func234 rfl (λQ hQ=>?_)
 have Y:=trivial
 refine wv (h:=?_)
 exact hQ _ _ _ (by simp [go_sem]<;>first|omega|(rw [aT];simp<;>omega)|(simp_all<;>omega)) (by simp [go_sem]<;>first|omega|(rw [aT];simp<;>omega)|(simp_all<;>omega))
theorem MR:Own Tryz.prog 234 [.ne] 122 3 []:=by
 refine Tz.oK ⟨λt=>t==2||t==5,λ_=>[]⟩ Tryz.func234 rfl (λQ hQ=>?_)
 have Y:=trivial
 refine wo (h:=?_)
 exact hQ _ _ _ (by simp [go_sem]<;>first|omega|(rw [aT];simp<;>omega)|(simp_all<;>omega)) (by simp [go_sem]<;>first|omega|(rw [aT];simp<;>omega)|(simp_all<;>omega))
theorem MT (l:List Edge)(hl:l.length<=1000000)(hne:l≠[]):Own Tryz.prog 234 [.list (l.map Edge.c)] 122 3 (l.map Edge.c):=by
 refine Tz.oK ⟨λt=>t==2||t==5,λ_=>[]⟩ Tryz.func234 rfl (λQ hQ=>?_)
 have Y:=hne
 refine wo (h:=?_)
 exact hQ _ _ _ (by simp [go_sem,hne]<;>first|omega|(rw [aT];simp<;>omega)|(simp_all<;>omega)) (by simp [go_sem,hne]<;>first|omega|(rw [aT];simp<;>omega)|(simp_all<;>omega))
theorem AQ (l:List Edge)(hl:l.length<=1000000):Own Tryz.prog 234 [.list (l.map Edge.c)] 122 3 (l.map Edge.c):=by
 by_cases hne:l=[]
 .subst hne;exact CI MU MR
 .exact MT l hl hne
theorem D2 {P:Program}{H:AHeap}{f:FuncId}{args:List D}{ty:TypeId}{sz:Nat}{es:List (List D)}{Q:D->AHeap->Prop}(hp:Own P f (args.map (iN H)) ty sz es)(hcl:D.clL (args.map (iN H))=true)(hf:∀ d∈es.flatten,d.flat=true)(hQ:Q (.list es) H):ACalls P f args H Q:=by
 refine ⟨hp.1,λM0 σ w vals hR ha=>?_⟩
 obtain ⟨f1,f2,f3,f4⟩:=fY (args.flatMap dU) hR
 refine (hp.2 (dB M0 (fK (args.flatMap dU) H) σ) w vals (tM f1) (gU (λ_ h=>h) (Bk hR ha _ λi h=>h) hcl)).mono λe w' ⟨v,xs,he,hrow,h1,hrep,hcll,hsz,hb⟩=>?_
 obtain ⟨g1,g2,g3⟩:=hR.grow hb.os hb.tape hb.output hb.size hb.block
 have hv:RepV (dB M0 H σ) iS rU w' v (.list es):=by
  rcases hrow.2 with ⟨hnil,h0⟩|⟨g,cap,cur,hval,hg,hcells,hnc,hcm,hsz',htake⟩
  .rw [hnil,bM h0];exact .listN
  .rw [hval]
   refine .list ⟨g,0,none⟩ cap sz xs es hnc hcm hsz hrep.len h1 (λj u hu=>⟨λhm=>?_,hrow.cells (g:=g) (by simp [hval,Value.ownBlock]) j u hu⟩) (λj u d hu hd=>yK (hrep.rep j u d hu hd) (hf d (aK hd)))
   have:=tM hR g hm
   omega
 exact ⟨v,.list es,H,σ,he,g1,hv.keep yC,g2,g3,hQ⟩
theorem mE {P:Program}{md:Nat->Bool}{ops:Array Oper}{sp:List (Nat × Nat)}{n0 i:Nat}{rest:List Oper}{acc:List (Nat × List Nat)}{e:dM}{dst:Option Tmp}{K:dM->AHeap->Prop}{f:FuncId}{args args':List D}{H:AHeap}{ty:TypeId}{sz:Nat}{es:List (List D)}
  (hp:Own P f args' ty sz es) (ha:args.map (iN H)=args') (hcl:D.clL args'=true) (hf:∀ d∈es.flatten,d.flat=true) {S:List Nat} (hS:args.flatMap dU=S) (hc:G4 sp i S acc)
  (h:jX P md ops sp n0 (i+1) rest ((i,S) :: acc) (oD e dst (.list es)) H K):pN P md ops sp n0 i rest acc e dst K f args H:=by
 subst ha hS
 unfold pN
 refine .inl ⟨.list es,_,λH' hag=>?_,hc,h⟩
 have he:=AV hag λx hx=>hx
 exact D2 (by rw [he];exact hp) (by rw [he];exact hcl) hf ⟨rfl,rfl⟩
theorem eE {β:Type}(f:β->Nat->β)(b:β)(n:Nat):(List.range (n+1)).foldl f b=f ((List.range n).foldl f b) n:=by
 rw [dF,EM];rfl
theorem QB {t:Types}(hv:t.valid){a:Nat}(ha:a<t.nodes.length):mem (t.line a) a=true:=by
 rw [yB t a ha (hv.parentsOK a),uM];simp
def cL (l:List Int):List D:=[dLI l]
@[go_sem] theorem Xj (l:List (List Int)):D.clLL (l.map cL)=true:=dL cL (λx=>by simp [cL,go_sem]) l
attribute [go_sem] cL
@[go_sem] theorem YF (o:Option Rule)(a1 a2 a3 a4 a5 a6 a7 a8 a9 a10 a11 a12 a13 a14 a15 a16 a17 a18 a19 a20 a21 a22 a23 a24 a25:D):((Option.map Rule.c o).getD [a1,a2,a3,a4,a5,a6,a7,a8,a9,a10,a11,a12,a13,a14,a15,a16,a17,a18,a19,a20,a21,a22,a23,a24,a25]).length=25:=by cases o<;>rfl
def WI (mask:List Bool):List Nat:=(List.range mask.length).filter λi=>mask[i]?.getD false
theorem k7 (a b:List Int):Pure Tryz.prog 161 [dLI a,dLI b] (.bool (decide (a=b))):=by
 refine Tz.pK ⟨λ_=>false,λ_=>[]⟩ Tryz.func161 rfl (λQ hQ=>?_)
 have Y:=trivial
 refine wv (h:=?_)
 repeat first|intro _|refine ⟨eO,?_⟩
 refine wq (λh1=>?_) λh1=>?_
 .refine wv (h:=?_)
  have hne:a≠b:=by intro h;subst h;omega
  exact hQ _ _ (by simp [go_sem,hne])
 .refine wo (h:=bF (λi e H=>(e 0=dLI a/\e 1=dLI b/\e 12=dI a.length/\e 13=dI i)/\(i<=a.length)/\(a.take i=b.take i)) (λi=>a.length - i) 0 ⟨wg,wi,(by rfl)⟩ λI0 hI0 i e H hi0=>?_)
  obtain ⟨E0,hi,he⟩:=hi0
  have Y:=wa Y E0
  refine dP (λh4=>?_) λh4=>?_
  .have hib:i<b.length:=aD
   have Y:=wa Y (wa h4 hib)
   refine wv (h:=?_)
   repeat first|intro _|refine ⟨eO,?_⟩
   refine wq (λh6=>?_) λh6=>?_
   .refine wv (h:=?_)
    have hne:a≠b:=by intro h;subst h;exact h6 rfl
    exact hQ _ _ (by simp [go_sem,hne])
   .exact wo (h:=wx hI0 (i+1) ⟨wg,wj,(by rw [aE h4,aE hib,he,h6])⟩)
  .rw [aH aD,aH aD] at he
   exact wv (h:=hQ _ _ (by simp [go_sem,he]))
theorem Ko {r:Rule}(h:fewR r=true):r.ok:=by
 simp only [fewR,aR,decide_eq_true_eq] at h
 obtain ⟨⟨⟨⟨⟨h1,h2⟩,h3⟩,h4⟩,h5⟩,h6⟩:=h
 simp [fewPart] at h4 h5
 simp [fewC] at h6
 have h7:=F8 r.cond 40 aD h6
 exact ⟨aD,aD,aD,aD,aD,h7.1,aD⟩
theorem GR {P:Program}{md:Nat->Bool}{ops:Array Oper}{rest:List Oper}{e:dM}{dst:Option Tmp}{K:dM->AHeap->Prop}{f:FuncId}{args args':List D}{H:AHeap}{ty:TypeId}{sz:Nat}{es:List (List D)}
  (hp:Own P f args' ty sz es) (ha:args.map (iN H)=args') (hcl:D.clL args'=true) (hf:∀ d∈es.flatten,d.flat=true) (h:mS P md ops rest (oD e dst (.list es)) H K):fM P md ops rest e dst K f args H:=by
 subst ha;unfold fM;exact D2 hp hcl hf h
theorem IQ (zs:List Int):∀ d∈(zs.map cI).flatten,d.flat=true:=by
 intro d hd;rw [y6,bA] at hd;obtain ⟨x,_,rfl⟩:=hd;rfl
def Sx:List Int->Int
 | []=>0
 | a :: l=>if a≠0 then a else Sx l
theorem Ru {l:List Int}{i:Nat}(h:i<l.length):Sx (l.drop i)=if l[i]≠0 then l[i] else Sx (l.drop (i+1)):=by
 rw [eF h];rfl
theorem U6 (l:List Int):Pure Tryz.prog 349 [dLI l] (dI (Sx l)):=by
 refine Tz.pK ⟨λ_=>false,λ_=>[]⟩ Tryz.func349 rfl (λQ hQ=>?_)
 have Y:=trivial
 refine wv (h:=?_)
 repeat first|intro _|refine ⟨eO,?_⟩
 refine bF (λi e H=>(e 6=dLI l/\e 7=dI l.length/\e 3=dI 0/\e 8=dI i)/\(i<=l.length)/\(Sx (l.drop i)=Sx l)) (λi=>l.length - i) 0 ⟨wg,wi,(by rfl)⟩ λI0 hI0 i e H hi0=>?_
 obtain ⟨E0,hi,hO⟩:=hi0
 have Y:=wa Y E0
 refine dP (λh3=>?_) λh3=>?_
 .have hst:=hO
  rw [Ru h3] at hst
  have Y:=wa Y h3
  refine wv (h:=?_)
  repeat first|intro _|refine ⟨eO,?_⟩
  refine wq (λh5=>?_) λh5=>?_
  .rw [if_pos aD] at hst
   exact wv (h:=hQ _ _ (by simp [go_sem,Y,<- hst]))
  .rw [if_neg aD] at hst
   refine wv (h:=?_)
   repeat first|intro _|refine ⟨eO,?_⟩
   exact wx hI0 (i+1) ⟨wg,wj,(by exact hst)⟩
 .rw [gX aD] at hO
  exact wv (h:=hQ _ _ (by simp [go_sem,<- hO,Sx]))
theorem Hk {P:Program}(w:World)(dT sT ty elem:TypeId)(sz:Nat)(g o dLen dCap:Nat)(a:Addr)(sLen sCap n:Nat)(cur:Array Value)(t:TypeId)(cs:List Value)
  (hu:P.underlying dT=some (.slice elem)) (hs:(P.info? elem).map (·.size)=some sz)
  (hg:w.heap[g]?=some (.cells cur t (0,0))) (hn:n=Nat.min sLen dLen) (hcl:cs.length=n * sz)
  (hsrc:∀ j v,cs[j]?=some v->w.cell? (a.add j)=some v) (hfit:o+cs.length<=cur.size) (h1:∀ v∈cs,v.oneCell'=true) :
  (Builtin.copy_ #[dT,sT] ty #[.slice (some ⟨g,o,none⟩) dLen dCap,.slice (some a) sLen sCap]).run P w =
   .ok (goInt n) (w.setRow g (cur.toList.take o++cs++cur.toList.drop (o+cs.length)).toArray):=by
 have hl:=run_loadCells_list (P:=P) w a cs hsrc
 have hst:=run_storeCells_at P g o t cs 0 cur w hg (bW hfit) h1
 cases hq:P.info? elem with
 | none=>simp [hq] at hs
 | some i =>
  have hi:i.size=sz:=by simpa [hq] using hs
  rw [hcl] at hl
  simp [Builtin.copy_,run_underlying hu,Builtin.lenOf,Builtin.firstCells,sizeOf,typeInfo,hq,hi,<- hn,hl,hst]
def cmp1 (a b:Int):Int:=if a<b then -1 else if b<a then 1 else 0
theorem MQ (a b:Int):Pure Tryz.prog 350 [dI a,dI b] (dI (cmp1 a b)):=by
 refine Tz.pK ⟨λ_=>false,λ_=>[]⟩ Tryz.func350 rfl (λQ hQ=>?_)
 have Y:=trivial
 refine wv (h:=aB (zC a) wl ?_)
 refine wv (h:=aB (zC b) wl ?_)
 refine dP (λh9=>?_) λh9=>?_
 .have Y:=wa Y (wa h9 @cmp1.eq_1)
  exact wv (h:=hQ _ _ wy)
 .refine dP (λh11=>?_) λh11=>?_
  .have Y:=wa Y (wa h9 (wa h11 @cmp1.eq_1))
   exact wv (h:=hQ _ _ wy)
  .have Y:=wa Y (wa h9 (wa h11 @cmp1.eq_1))
   exact wv (h:=hQ _ _ wy)
def wP (t:Types)(i:Nat):Bool:=match t.nodes[i]? with|some n=>n.abs|none=>false
def B8 (t:Types):List Int:=((List.range t.nodes.length).filter λi=>!wP t i).map λ(i:Nat)=>(i:Int)
def TG (b:List Bool):List Int:=(WI b).map λ(i:Nat)=>(i:Int)
def ZA (xs:List Int)(i j:Nat):List Int:=(xs.set i (xs[j]?.getD 0)).set j (xs[i]?.getD 0)
abbrev B2:=UInt8 × UInt8
def cP (x:B2):List D:=[.int .u8 (x.1.toNat:Int),.int .u8 (x.2.toNat:Int)]
@[go_sem] theorem Sd (l:List B2):D.clLL (l.map cP)=true:=dL _ (λ_=>rfl) l
def tyA:ByteArray:=⟨#[65,66,67,68,69,70]⟩
def tyU:ByteArray:=⟨#[117,118,119,120,121,122]⟩
def tyE:ByteArray:=⟨#[101,102,103,104,105]⟩
def Xe (i:Nat)(x:B2):NodeTy :=
 ⟨tyA.extract i (i+1),(x.1.toNat:Int).tmod ((i:Int)+1) - 1,((x.1.toNat:Int) / 16).tmod 4==3,
  if (x.2.toNat:Int).tmod 4=1 then [⟨tyU.extract i (i+1),-3,3+((x.2.toNat:Int) / 4).tmod 9,[]⟩]
  else if (x.2.toNat:Int).tmod 4=2 then [⟨tyU.extract i (i+1),0,1,[⟨#[111,102,102]⟩,⟨#[111,110]⟩]⟩] else []⟩
def S0 (ns:List B2)(i:Nat):B2:=ns[i]?.getD (0,0)
def Uv (ns:List B2)(n:Nat):List NodeTy:=(List.range n).map λi=>Xe i (S0 ns i)
def Xf (n:Int)(i:Nat)(x:B2):EdgeTy:=⟨tyE.extract i (i+1),(x.1.toNat:Int).tmod n,(x.2.toNat:Int).tmod n,0,-1,0,-1⟩
def Uw (n:Int)(es:List B2)(k:Nat):List EdgeTy:=(List.range k).map λi=>Xf n i (S0 es i)
def TH (ns:List B2):Nat:=max 1 (min ns.length 6)
def Xd (ns es:List B2):Types:=⟨Uv ns (TH ns),Uw (TH ns) es (min es.length 5)⟩
theorem k6 {l:List (List D)}(h:∀ c∈l,i6 c=c):eR l=l:=by
 rw [CL];conv=>rhs;rw [<- List.map_id l]
 exact b6 h
def cU (x:UInt8):List D:=[.int .u8 (x.toNat:Int)]
@[go_sem] theorem OJ (l:List UInt8):D.clLL (l.map cU)=true:=dL _ (λ_=>rfl) l
def We (n:Nat)(l:List UInt8)(i:Nat):Nat:=((i:Int)+((l[i]?.getD 0).toNat:Int).tmod ((n:Int) - i)).toNat
def Wd (n:Nat)(l:List UInt8)(xs:List Int)(i:Nat):List Int:=ZA xs i (We n l i)
def OZ (n:Nat)(l:List UInt8):List Int:=(List.range (min n l.length)).foldl (Wd n l) (kT n)
def ZH (p xs:List Int)(k:Nat):List Int:=(List.range k).foldl (λacc i=>acc.set (p[i]?.getD 0).toNat (xs[i]?.getD 0)) xs
def ZG (p:List Int)(x:Edge):Edge:=⟨x.type,p[x.from_.toNat]?.getD 0,p[x.to_.toNat]?.getD 0⟩
def ZJ (p q:List Int)(es:List Edge)(k:Nat):List Edge:=(List.range k).foldl (λacc i=>acc.set (q[i]?.getD 0).toNat (ZG p (es[i]?.getD ⟨0,0,0⟩))) es
def ZI (g:Graph)(p q:List Int):Graph:=if graphF g=0 then ⟨ZH p g.nodes g.nodes.length,ZJ p q g.edges g.edges.length⟩ else ⟨[],[]⟩
theorem tI (g:Graph)(hn:g.nodes.length<=100000)(he:g.edges.length<=100000)(G:AHeap)(Q:D->AHeap->Prop)
  (hQ:∀ a b H',G.next<=a->G.next<=b->a≠b->a<H'.next->b<H'.next->H'.get a=some ⟨3,1,g.nodes.map cI,false⟩->H'.get b=some ⟨122,3,g.edges.map Edge.c,false⟩->(∀ j,j<G.next->H'.get j=G.get j)->G.next<=H'.next->Q (.agg [.own a g.nodes.length,.own b g.edges.length]) H'):ACalls Tryz.prog 157 [g.d] G Q:=by
 refine (aI (cfg:=⟨λt=>t==2||t==3||t==7,λr=>match r with|1=>[(0,1),(0,2),(0,4),(1,4),(2,4),(3,4),(0,5),(3,5),(4,5),(0,6),(3,6),(4,6)]|_=>[]⟩) Tz.mixed Tryz.func157 rfl rfl (aF rfl) (by kernel_rfl) ?_)
 have nx:=W6 G.next
 have Y:=nx
 refine wo (h:=?_)
 exact hQ _ _ _ (by first|omega|(simp [go_sem]<;>omega)|(simp [go_sem,nx]<;>omega)) (by first|omega|(simp [go_sem]<;>omega)|(simp [go_sem,nx]<;>omega)) (by first|omega|(simp [go_sem]<;>omega)|(simp [go_sem,nx]<;>omega)) (by first|omega|(simp [go_sem]<;>omega)|(simp [go_sem,nx]<;>omega)) (by first|omega|(simp [go_sem]<;>omega)|(simp [go_sem,nx]<;>omega)) (by simp [go_sem,nx]<;>omega) (by simp [go_sem,nx]<;>omega) (λj hj=>by simp [go_sem,cD hj]) (by first|omega|(simp [go_sem]<;>omega)|(simp [go_sem,nx]<;>omega))
def Ug (a b:Int):Int:=(a.tmod b+b).tmod b
abbrev T4:=Int8 × Int8 × Int8 × Int8
def cT4 (x:T4):List D:=[.int .i8 x.1.toInt,.int .i8 x.2.1.toInt,.int .i8 x.2.2.1.toInt,.int .i8 x.2.2.2.toInt]
@[go_sem] theorem PF (l:List T4):D.clLL (l.map cT4)=true:=dL _ (λ_=>rfl) l
def Xh (v:Int)(x:T4):Test:=⟨1+(Ug x.1.toInt 4).tdiv 3,⟨Ug x.2.1.toInt (v+1) - 1,0⟩,⟨Ug x.2.2.1.toInt (v+1) - 1,x.2.2.2.toInt.tmod 12⟩⟩
def Z5 (g:Graph)(nb eb:List Bool)(k:Nat):List Bool:=(List.range k).foldl (λacc i=>if eb[i]?.getD false=true then (acc.set (g.edges[i]?.getD ⟨0,0,0⟩).from_.toNat true).set (g.edges[i]?.getD ⟨0,0,0⟩).to_.toNat true else acc) nb
def Graph.ends (g:Graph):Prop:=∀ x∈g.edges,(0<=x.from_/\x.from_<g.nodes.length)/\0<=x.to_/\x.to_<g.nodes.length
def aaF (k:UInt64)(i:Nat):Bool:=(k.toNat:Int).fdiv (2 ^ (min ((i:Int).tmod 64).toNat 64)) % 2==1
def Vc (k:UInt64)(off n:Nat):List Bool:=(List.range n).map λj=>aaF k (off+j)
def Xg (g:Graph)(k:UInt64):Part:=⟨TG (Z5 g (Vc k 0 g.nodes.length) (Vc k g.nodes.length g.edges.length) g.edges.length),TG (Vc k g.nodes.length g.edges.length)⟩
def Vd (t:Types)(ns:List Int)(k:Int)(i:Nat):Bool:=mem (t.line (ns[i]?.getD 0).toNat) k
def KA (t:Types)(ns:List Int)(k:Int):List Int:=((List.range ns.length).filter (Vd t ns k)).map λ(i:Nat)=>(i:Int)
end Go.Abs
end
