/- Layer 4: types. · Layer 4: types, continued. · Layer 4: type -/
import Derived.Test.YthalajhajpjjeaaGreatZfAG
import Derived.Test.YthalajhajpjjeaaGreatZfAF
import Derived.Test.YthalajhajpjjeaaGreatZfAA
set_option linter.unusedVariables false
set_option linter.unusedSimpArgs false
section
set_option maxRecDepth 100000
set_option maxHeartbeats 4000000
open Go Go.Proofs
namespace Go.Abs
def CS {α:Type}(xs:List α)(p:α->Bool):Int:=match xs.findIdx? p with|some i=>i|none=>-1
theorem pI {α:Type}{xs:List α}{p:α->Bool}{i:Nat}(h:∀ j x,j<i->xs[j]?=some x->p x=false)(hi:i<xs.length)(hp:p xs[i]=true):CS xs p=i:=by
 have:xs.findIdx? p=some i:=by
  rw [i4]
  exact ⟨hi,hp,λj hj=>by simp [h j _ hj (aA aD)]⟩
 simp [CS,this]
theorem pJ {α:Type}{xs:List α}{p:α->Bool}(h:∀ j x,j<xs.length->xs[j]?=some x->p x=false):CS xs p = -1:=by
 have:xs.findIdx? p=none:=by
  rw [rL]
  intro x hx
  obtain ⟨j,hj,rfl⟩:=aO hx
  exact h j _ hj (aA hj)
 simp [CS,this]
theorem r3 {α:Type}(xs:List α)(p:α->Bool):decide (0<=CS xs p)=xs.any p:=by
 unfold CS
 cases h:xs.findIdx? p with
 | none =>
  rw [rL] at h
  have:xs.any p=false:=by simpa using h
  simp [this]
 | some i =>
  rw [i4] at h
  obtain ⟨hi,hv,_⟩:=h
  have:xs.any p=true:=aX.2 ⟨xs[i],aC hi,hv⟩
  simp [this]
theorem Gg (xs:List Attr)(g:FuncId)(caps:List D)(p:Attr->Bool)(hc:D.clL caps=true)(hg:∀ x∈xs,Pure Tryz.prog g (.agg x.c :: caps) (.bool (p x))) :
  Pure Tryz.prog 419 [.list (xs.map Attr.c),.fn g caps] (dI (CS xs p)):=by
 refine aS (aI (cfg:=⟨λ_=>false,λ_=>[]⟩) Tz.mixed Tryz.func419 rfl rfl (aF rfl) (by kernel_rfl) ?_)
 simp [go_sem,seval,dI,dLI]
 intro hlen
 refine fS (ι:=Nat) (λi e H=>H=.emp/\i<=xs.length/\e 0=.list (xs.map Attr.c)/\e 1=.fn g caps/\e 7=dI xs.length/\e 8=dI i/\(∀ j x,j<i->xs[j]?=some x->p x=false)) (λi=>xs.length - i) 0 (by simp [go_sem,seval,dI,dLI]) ?_
 intro i e H ⟨hH,hi,h0,h1,h7,h8,hn⟩
 subst hH
 simp [go_sem,seval,h0,h1,h7,h8,dI,dLI]
 refine f9 (λhlt=>?_) (λhge=>?_)
 .have hgx:=hg xs[i] (aC hlt)
  simp [go_sem,seval,h0,h1,h7,h8,dI,dLI,hlt,Attr.c] at hgx ⊢
  refine aB hgx (by simp [go_sem,hc]) ?_
  simp [go_sem,seval,h0,h1,h7,h8,dI,dLI]
  refine aP (λh=>?_) (λh=>?_)
  .simp [go_sem,seval,h0,h1,h7,h8,dI,dLI]
   rw [pI hn hlt h]
  .simp [go_sem,seval,h0,h1,h7,h8,dI,dLI]
   refine ⟨dE aD aD,i+1,aD,aD,aD,λj x hj hx=>?_⟩
   rcases bZ j i with hj'|hj'
   .exact hn j x hj' hx
   .have:j=i:=aD
    subst this
    rw [aA hlt] at hx
    cases hx;exact h
 .simp [go_sem,seval,h0,h1,h7,h8,dI,dLI]
  rw [pJ λj x hj=>hn j x aD]
theorem B1 (xs:List Attr)(g:FuncId)(caps:List D)(p:Attr->Bool)(hc:D.clL caps=true)(hl:D.cl (.list (xs.map Attr.c))=true)(hg:∀ x∈xs,Pure Tryz.prog g (.agg x.c :: caps) (.bool (p x))) :
  Pure Tryz.prog 364 [.list (xs.map Attr.c),.fn g caps] (.bool (xs.any p)):=by
 refine aS (aI (cfg:=⟨λ_=>false,λ_=>[]⟩) Tz.mixed Tryz.func364 rfl rfl (aF rfl) (by kernel_rfl) ?_)
 simp [go_sem,seval]
 refine aB (Gg xs g caps p hc hg) (by simp only [D.clL,hl,gM];simp [D.cl,hc]) ?_
 simp [go_sem,seval,dI,r3]
theorem r9 (l:List Attr):D.clLL (l.map Attr.c)=true:=dL _ Attr.cl l
def mX (l:List ByteArray):List ByteArray->Int
 | []=>0
 | s :: r=>if lW s=false then 2 else if mem l s=true then 5 else mX (l++[s]) r
def nM (l:List ByteArray):Int:=if 20<l.length then 3 else mX [] l
theorem KX (l:List ByteArray)(hs:∀ s∈l,s.size<=100000):Pure Tryz.prog 366 [sL l] (dI (nM l)):=by
 refine aS (aI (cfg:=⟨λ_=>false,λ_=>[]⟩) Tz.mixed Tryz.func366 rfl rfl (aF rfl) (by kernel_rfl) ?_)
 simp [go_sem,seval,dI,sL]
 intro hlen
 refine aP (λh=>?_) (λh=>?_)
 .simp at h
  simp [go_sem,seval,nM,(aD:20<l.length)]
 .simp at h
  simp [go_sem,seval,nM,(aD:¬ 20<l.length)]
  intro hlen2
  refine fS (ι:=Nat) (λi e H=>H=.emp/\i<=l.length/\e 0=sL l/\e 8=sL l/\e 9=dI l.length/\e 10=dI i/\mX (l.take i) (l.drop i)=mX [] l) (λi=>l.length - i) 0 (by simp [go_sem,seval,dI,sL]) ?_
  intro i e H ⟨hH,hi,h0,h8,h9,h10,hn⟩
  subst hH
  simp [go_sem,seval,h0,h8,h9,h10,dI,sL]
  refine f9 (λhlt=>?_) (λhge=>?_)
  .rw [eF hlt] at hn
   have hsz:=hs _ (aC hlt)
   simp [go_sem,seval,h0,h8,h9,h10,dI,sL,hlt,cS]
   refine aB (oI _ hsz) rfl ?_
   simp [go_sem,seval]
   refine aP (λhc=>?_) (λhc=>?_)
   .simp at hc
    simp [go_sem,seval]
    rw [<- hn];simp [mX,hc]
   .simp at hc
    simp [go_sem,seval,h0,h8,h9,h10,dI,sL]
    have hcs:=BX (l.take i) l[i]
    simp only [sL,List.map_take] at hcs
    have hcl:D.clLL (List.take i (List.map cS l))=true:=by rw [<- List.map_take];exact dL cS (λ_=>rfl) _
    refine ⟨⟨hi,by cases l<;>simp [cS]⟩,aB hcs (by simp [D.clL,D.cl,hcl]) ?_⟩
    simp [go_sem,seval,h0,h8,h9,h10,dI,sL]
    refine aP (λhm=>?_) (λhm=>?_)
    .simp [go_sem,seval]
     rw [<- hn];simp [mX,hc,hm]
    .simp [go_sem,seval,h0,h8,h9,h10,dI,sL]
     refine ⟨dE aD aD,i+1,aD,aD,aD,?_⟩
     rw [<- hn,mX,if_neg (by simp [hc]),if_neg (by simp [hm]),aE hlt]
  .simp [go_sem,seval,h0,h8,h9,h10,dI,sL]
   rw [<- hn,(aD:i=l.length)];simp [mX]
theorem Cq (x y:Attr):Pure Tryz.prog 365 [.agg y.c,.adr x.c] (.bool (decide (y.name=x.name))):=by
 refine aS (aI (cfg:=⟨λ_=>false,λ_=>[]⟩) Tz.mixed Tryz.func365 rfl rfl (aF rfl) (by kernel_rfl) ?_)
 simp [go_sem,seval,Attr.c,dI,sL]
structure Attr.ok (x:Attr):Prop where
 name:x.name.size<=100000
 names:∀ s∈x.names,s.size<=100000
 few:x.names.length<=1000
def dN (x:Attr)(before:List Attr):Int :=
 if lW x.name=false then 2
 else if (before.any λy=>decide (y.name=x.name))=true then 5
 else if nM x.names≠0 then nM x.names
 else if (if 0<x.names.length then decide (x.low=0)&&decide (x.high=x.names.length - 1) else decide (-1000000<=x.low)&&decide (x.low<=x.high)&&decide (x.high<=1000000))=true then 0 else 6
theorem D4 (x:Attr)(before:List Attr)(hx:x.ok):Pure Tryz.prog 299 [.agg x.c,.list (before.map Attr.c)] (dI (dN x before)):=by
 refine aS (aI (cfg:=⟨λ_=>false,λ_=>[]⟩) Tz.mixed Tryz.func299 rfl rfl (aF rfl) (by kernel_rfl) ?_)
 simp [go_sem,seval,dI,sL,Attr.c]
 refine aB (oI _ hx.name) rfl ?_
 simp [go_sem,seval]
 refine aP (λhn=>?_) (λhn=>?_)
 .simp at hn
  simp [go_sem,seval,dN,hn]
 .simp at hn
  simp [go_sem,seval]
  have hc:=B1 before 365 [.adr x.c] (λy=>decide (y.name=x.name)) (by simp [D.clL,D.cl,Attr.cl]) (by simp [D.cl,r9]) (λy _=>Cq x y)
  simp only [Attr.c,dI,sL] at hc
  have hcS:D.clLL (List.map cS x.names)=true:=dL cS (λ_=>rfl) _
  refine aB hc (by simp [D.clL,D.cl,r9,hcS]) ?_
  simp [go_sem,seval]
  refine aP (λhb=>?_) (λhb=>?_)
  .simp [go_sem,seval,dN,hn,hb]
  .simp [go_sem,seval]
   have hnm:=KX x.names hx.names
   simp only [sL,dI] at hnm
   refine aB hnm (by simp [D.clL,D.cl,hcS]) ?_
   simp [go_sem,seval]
   have hfew:=hx.few
   refine aP (λhz=>?_) (λhz=>?_)
   .simp at hz
    simp [go_sem,seval,dN,hn,hb,hz]
   .simp at hz
    simp [go_sem,seval]
    intro hlen
    refine aP (λhp=>?_) (λhp=>?_)
    .have hp':0<x.names.length:=by simp at hp;omega
     simp [go_sem,seval]
     refine λ_=>⟨λ_=>dE aD aD,aP (λho=>?_) (λho=>?_)⟩
     .have e:dN x before=6:=by unfold dN;rw [if_neg (by simp [hn]),if_neg (by simp [hb]),if_neg (by simp [hz]),if_pos hp',if_neg (by simp at ho ⊢;omega)]
      simp [go_sem,seval,e]
     .have e:dN x before=0:=by unfold dN;rw [if_neg (by simp [hn]),if_neg (by simp [hb]),if_neg (by simp [hz]),if_pos hp',if_pos (by simp at ho ⊢;omega)]
      simp [go_sem,seval,e]
    .have hp':¬ 0<x.names.length:=by simp at hp;simp [hp]
     simp [go_sem,seval]
     refine aP (λho=>?_) (λho=>?_)
     .have e:dN x before=6:=by unfold dN;rw [if_neg (by simp [hn]),if_neg (by simp [hb]),if_neg (by simp [hz]),if_neg hp',if_neg (by simp at ho ⊢;omega)]
      simp [go_sem,seval,e]
     .have e:dN x before=0:=by unfold dN;rw [if_neg (by simp [hn]),if_neg (by simp [hb]),if_neg (by simp [hz]),if_neg hp',if_pos (by simp at ho ⊢;omega)]
      simp [go_sem,seval,e]
structure NodeTy.ok (n:NodeTy):Prop where
 name:n.name.size<=100000
 attrs:∀ x∈n.attrs,x.ok
 few:n.attrs.length<=1000
structure EdgeTy.ok (x:EdgeTy):Prop where
 name:x.name.size<=100000
structure Types.ok (t:Types):Prop where
 nodes:∀ n∈t.nodes,n.ok
 edges:∀ x∈t.edges,x.ok
 fewN:t.nodes.length<=1000
 fewE:t.edges.length<=1000
def mG (nodes:List NodeTy):Nat->Nat->List Attr
 | 0,_=>[]
 | f+1,a=>match nodes[a]? with
  | none=>[]
  | some n=>(if 0<=n.parent then mG nodes f n.parent.toNat else [])++n.attrs
def Types.attrs (t:Types)(a:Nat):List Attr:=mG t.nodes (a+1) a
theorem sA (nodes:List NodeTy)(h:∀ n∈nodes,n.attrs.length<=1000):∀ f a,(mG nodes f a).length<=1000 * f
 | 0,a=>by simp [mG]
 | f+1,a=>by
  unfold mG
  split
  .simp
  .rename_i n hn
   have:=h n (aK hn)
   have h2:=sA nodes h f n.parent.toNat
   simp only [aL]
   split<;>simp<;>omega
@[go_sem] theorem Attr.len (a:Attr):a.c.length=4:=rfl
theorem Attr.cells (a:Attr):∀ x∈a.c,x.cell=true:=by simp [Attr.c,D.cell,dI,sL]
def parentsOK (nodes:List NodeTy)(a:Nat):Prop:=∀ j n,j<=a->nodes[j]?=some n->n.parent<j
theorem DT (nodes:List NodeTy):∀ a f g,parentsOK nodes a->a<f->a<g->mG nodes f a=mG nodes g a:=by
 intro a
 induction a using Nat.strongRecOn with
 | _ a ih =>
  intro f g hp hf hg
  obtain ⟨f,rfl⟩:∃ f',f=f'+1:=⟨f - 1,aD⟩
  obtain ⟨g,rfl⟩:∃ g',g=g'+1:=⟨g - 1,aD⟩
  unfold mG
  split
  .rfl
  .rename_i n hn
   have:=hp a n (bC _) hn
   congr 1
   split
   .exact ih n.parent.toNat aD f g (λj m hj hm=>hp j m aD hm) aD aD
   .rfl
theorem Dh (t:Types)(ht:t.ok):∀ a,a<t.nodes.length->parentsOK t.nodes a->Own Tryz.prog 298 [t.d,dI a] 118 4 ((t.attrs a).map Attr.c):=by
 intro a
 induction a using Nat.strongRecOn with
 | _ a ih =>
  intro ha hp
  have hpa:=hp a _ (bC _) (aA ha)
  have hlen:=sA t.nodes (λn hn=>(ht.nodes n hn).few) (a+1) a
  have hfew:=ht.fewN
  have hna:=(ht.nodes _ (aC ha)).few
  refine Bw (aI (cfg:=⟨λt=>t==5,λ_=>[]⟩) Tz.mixed Tryz.func298 rfl rfl (aF rfl) (by kernel_rfl) ?_)
  simp [go_sem,seval,dI,Types.d,Types.c,NodeTy.c,aA ha,ha]
  refine aP (λh=>?_) (λh=>?_)
  .have h':0<=t.nodes[a].parent:=by simpa using h
   have hlt:t.nodes[a].parent.toNat<a:=aD
   have hc:=ih _ hlt aD (λj m hj hm=>hp j m aD hm)
   rw [Int.toNat_of_nonneg h'] at hc
   have e:t.attrs a=t.attrs t.nodes[a].parent.toNat++t.nodes[a].attrs:=by
    have:=DT t.nodes t.nodes[a].parent.toNat a (t.nodes[a].parent.toNat+1) (λj m hj hm=>hp j m aD hm) hlt aD
    simp [Types.attrs,mG,aA ha,h',this]
   have hlen2:=sA t.nodes (λn hn=>(ht.nodes n hn).few) (t.nodes[a].parent.toNat+1) t.nodes[a].parent.toNat
   have hl3:(t.attrs t.nodes[a].parent.toNat).length<=2000000:=by
    have:(t.attrs t.nodes[a].parent.toNat).length<=1000 * (t.nodes[a].parent.toNat+1):=hlen2
    omega
   simp [go_sem,seval,dI,Types.d,Types.c,NodeTy.c,aA ha,ha] at hc ⊢
   refine lN hc (by simp [D.clL,D.cl,dL _ NodeTy.cl,dL _ EdgeTy.cl]) ?_
   simp [go_sem,seval,dI,Types.d,Types.c,NodeTy.c,aA ha,ha,e,r9]
   exact ⟨⟨aD,λx _ y hy=>Attr.cells x y hy⟩,by rw [<- List.map_append];exact r9 _⟩
  .have h':¬ 0<=t.nodes[a].parent:=by simpa using h
   have e:t.attrs a=t.nodes[a].attrs:=by simp [Types.attrs,mG,aA ha,h']
   simp [go_sem,seval,dI,Types.d,Types.c,NodeTy.c,aA ha,ha,e,r9]
   exact ⟨aD,λx _ y hy=>Attr.cells x y hy⟩
attribute [go_sem] r9
@[go_sem] theorem X2 (l:List ByteArray):D.clLL (l.map cS)=true:=dL cS (λ_=>rfl) l
theorem Gd (xs:List NodeTy)(g:FuncId)(caps:List D)(p:NodeTy->Bool)(hc:D.clL caps=true)(hg:∀ x∈xs,Pure Tryz.prog g (.agg x.c :: caps) (.bool (p x))) :
  Pure Tryz.prog 363 [.list (xs.map NodeTy.c),.fn g caps] (dI (CS xs p)):=by
 refine aS (aI (cfg:=⟨λ_=>false,λ_=>[]⟩) Tz.mixed Tryz.func363 rfl rfl (aF rfl) (by kernel_rfl) ?_)
 simp [go_sem,seval,dI,dLI]
 intro hlen
 refine fS (ι:=Nat) (λi e H=>H=.emp/\i<=xs.length/\e 0=.list (xs.map NodeTy.c)/\e 1=.fn g caps/\e 7=dI xs.length/\e 8=dI i/\(∀ j x,j<i->xs[j]?=some x->p x=false)) (λi=>xs.length - i) 0 (by simp [go_sem,seval,dI,dLI]) ?_
 intro i e H ⟨hH,hi,h0,h1,h7,h8,hn⟩
 subst hH
 simp [go_sem,seval,h0,h1,h7,h8,dI,dLI]
 refine f9 (λhlt=>?_) (λhge=>?_)
 .have hgx:=hg xs[i] (aC hlt)
  simp [go_sem,seval,h0,h1,h7,h8,dI,dLI,hlt,NodeTy.c] at hgx ⊢
  refine aB hgx (by simp [go_sem,hc]) ?_
  simp [go_sem,seval,h0,h1,h7,h8,dI,dLI]
  refine aP (λh=>?_) (λh=>?_)
  .simp [go_sem,seval,h0,h1,h7,h8,dI,dLI]
   rw [pI hn hlt h]
  .simp [go_sem,seval,h0,h1,h7,h8,dI,dLI]
   refine ⟨dE aD aD,i+1,aD,aD,aD,λj x hj hx=>?_⟩
   rcases bZ j i with hj'|hj'
   .exact hn j x hj' hx
   .have:j=i:=aD
    subst this
    rw [aA hlt] at hx
    cases hx;exact h
 .simp [go_sem,seval,h0,h1,h7,h8,dI,dLI]
  rw [pJ λj x hj=>hn j x aD]
theorem BY (xs:List NodeTy)(g:FuncId)(caps:List D)(p:NodeTy->Bool)(hc:D.clL caps=true)(hl:D.cl (.list (xs.map NodeTy.c))=true)(hg:∀ x∈xs,Pure Tryz.prog g (.agg x.c :: caps) (.bool (p x))) :
  Pure Tryz.prog 296 [.list (xs.map NodeTy.c),.fn g caps] (.bool (xs.any p)):=by
 refine aS (aI (cfg:=⟨λ_=>false,λ_=>[]⟩) Tz.mixed Tryz.func296 rfl rfl (aF rfl) (by kernel_rfl) ?_)
 simp [go_sem,seval]
 refine aB (Gd xs g caps p hc hg) (by simp only [D.clL,hl,gM];simp [D.cl,hc]) ?_
 simp [go_sem,seval,dI,r3]
theorem Ge (xs:List EdgeTy)(g:FuncId)(caps:List D)(p:EdgeTy->Bool)(hc:D.clL caps=true)(hg:∀ x∈xs,Pure Tryz.prog g (.agg x.c :: caps) (.bool (p x))) :
  Pure Tryz.prog 367 [.list (xs.map EdgeTy.c),.fn g caps] (dI (CS xs p)):=by
 refine aS (aI (cfg:=⟨λ_=>false,λ_=>[]⟩) Tz.mixed Tryz.func367 rfl rfl (aF rfl) (by kernel_rfl) ?_)
 simp [go_sem,seval,dI,dLI]
 intro hlen
 refine fS (ι:=Nat) (λi e H=>H=.emp/\i<=xs.length/\e 0=.list (xs.map EdgeTy.c)/\e 1=.fn g caps/\e 7=dI xs.length/\e 8=dI i/\(∀ j x,j<i->xs[j]?=some x->p x=false)) (λi=>xs.length - i) 0 (by simp [go_sem,seval,dI,dLI]) ?_
 intro i e H ⟨hH,hi,h0,h1,h7,h8,hn⟩
 subst hH
 simp [go_sem,seval,h0,h1,h7,h8,dI,dLI]
 refine f9 (λhlt=>?_) (λhge=>?_)
 .have hgx:=hg xs[i] (aC hlt)
  simp [go_sem,seval,h0,h1,h7,h8,dI,dLI,hlt,EdgeTy.c] at hgx ⊢
  refine aB hgx (by simp [go_sem,hc]) ?_
  simp [go_sem,seval,h0,h1,h7,h8,dI,dLI]
  refine aP (λh=>?_) (λh=>?_)
  .simp [go_sem,seval,h0,h1,h7,h8,dI,dLI]
   rw [pI hn hlt h]
  .simp [go_sem,seval,h0,h1,h7,h8,dI,dLI]
   refine ⟨dE aD aD,i+1,aD,aD,aD,λj x hj hx=>?_⟩
   rcases bZ j i with hj'|hj'
   .exact hn j x hj' hx
   .have:j=i:=aD
    subst this
    rw [aA hlt] at hx
    cases hx;exact h
 .simp [go_sem,seval,h0,h1,h7,h8,dI,dLI]
  rw [pJ λj x hj=>hn j x aD]
theorem BZ (xs:List EdgeTy)(g:FuncId)(caps:List D)(p:EdgeTy->Bool)(hc:D.clL caps=true)(hl:D.cl (.list (xs.map EdgeTy.c))=true)(hg:∀ x∈xs,Pure Tryz.prog g (.agg x.c :: caps) (.bool (p x))) :
  Pure Tryz.prog 301 [.list (xs.map EdgeTy.c),.fn g caps] (.bool (xs.any p)):=by
 refine aS (aI (cfg:=⟨λ_=>false,λ_=>[]⟩) Tz.mixed Tryz.func301 rfl rfl (aF rfl) (by kernel_rfl) ?_)
 simp [go_sem,seval]
 refine aB (Ge xs g caps p hc hg) (by simp only [D.clL,hl,gM];simp [D.cl,hc]) ?_
 simp [go_sem,seval,dI,r3]
@[go_sem] theorem uL (l:List NodeTy):D.clLL (l.map NodeTy.c)=true:=dL _ NodeTy.cl l
@[go_sem] theorem uT (l:List EdgeTy):D.clLL (l.map EdgeTy.c)=true:=dL _ EdgeTy.cl l
theorem KW (x y:NodeTy):Pure Tryz.prog 297 [.agg y.c,.adr x.c] (.bool (decide (y.name=x.name))):=by
 refine aS (aI (cfg:=⟨λ_=>false,λ_=>[]⟩) Tz.mixed Tryz.func297 rfl rfl (aF rfl) (by kernel_rfl) ?_)
 simp [go_sem,seval,NodeTy.c,dI,sL]
theorem u4 (nodes:List NodeTy)(h:∀ n∈nodes,n.ok):∀ f a,∀ x∈mG nodes f a,x.ok
 | 0,a,x,hx=>by simp [mG] at hx
 | f+1,a,x,hx=>by
  unfold mG at hx
  split at hx
  .simp at hx
  .rename_i n hn
   rcases aV.1 hx with hx|hx
   .split at hx
    .exact u4 nodes h f _ x hx
    .simp at hx
   .exact (h n (aK hn)).attrs x hx
def bT (f:Nat->Int):Nat->Nat->Int
 | _,0=>0
 | k,n+1=>if f k≠0 then f k else bT f (k+1) n
def g5 (t:Types)(i:Nat):Int :=
 match t.nodes[i]? with
 | none=>0
 | some n =>
  if lW n.name=false then 2
  else if ((t.nodes.take i).any λm=>decide (m.name=n.name))=true then 5
  else if (decide (n.parent < -1)||decide ((i:Int)<=n.parent))=true then 6
  else if 4<n.attrs.length then 3
  else if 8<(t.attrs i).length then 3
  else bT (λk=>match (t.attrs i)[k]? with|some x=>dN x ((t.attrs i).take k)|none=>0) ((t.attrs i).length - n.attrs.length) n.attrs.length
theorem Nm (t:Types)(ht:t.ok)(i:Nat)(hi:i<t.nodes.length)(hp:∀ j n,j<i->t.nodes[j]?=some n->n.parent<j):Pure Tryz.prog 219 [t.d,dI i] (dI (g5 t i)):=by
 have hno:=ht.nodes _ (aC hi)
 refine aS (aI (cfg:=⟨λt=>t==5,λ_=>[]⟩) Tz.mixed Tryz.func219 rfl rfl (aF rfl) (by kernel_rfl) ?_)
 simp [go_sem,seval,dI,Types.d,Types.c,NodeTy.c,aA hi,hi]
 refine aB (oI _ hno.name) rfl ?_
 simp [go_sem,seval]
 refine aP (λhn=>?_) (λhn=>?_)
 .simp at hn
  simp [go_sem,seval,g5,aA hi,hn]
 .simp at hn
  simp [go_sem,seval]
  have hc:=BY (t.nodes.take i) 297 [.adr t.nodes[i].c] (λy=>decide (y.name=t.nodes[i].name)) (by simp [D.clL,D.cl,NodeTy.cl]) (by rw [D.cl];exact uL _) (λy _=>KW t.nodes[i] y)
  refine ⟨⟨aD,by cases t.nodes<;>simp [NodeTy.c]⟩,tC hc (by simp [Fm,CA,fL,go_sem,NodeTy.c,dI,List.map_take]) (by simp only [D.clL,D.cl,uL,NodeTy.cl];rfl) rfl ?_⟩
  simp [go_sem,seval]
  refine aP (λhb=>?_) (λhb=>?_)
  .simp [go_sem,seval,g5,aA hi,hn,hb]
  .simp [go_sem,seval,NodeTy.c,dI]
   refine aP (λhr=>?_) (λhr=>?_)
   .have hr':(decide (t.nodes[i].parent < -1)||decide ((i:Int)<=t.nodes[i].parent))=true:=by simpa using hr
    simp [go_sem,seval]
    have e:g5 t i=6:=by simp only [g5,aA hi];rw [if_neg (by simp [hn]),if_neg (by simp [hb]),if_pos hr']
    simp [e]
   .simp at hr
    simp [go_sem,seval]
    have hr':¬ (decide (t.nodes[i].parent < -1)||decide ((i:Int)<=t.nodes[i].parent))=true:=by simp;omega
    intro hlen
    refine aP (λh4=>?_) (λh4=>?_)
    .have h4':4<t.nodes[i].attrs.length:=by simp at h4;omega
     simp [go_sem,seval]
     have e:g5 t i=3:=by simp only [g5,aA hi];rw [if_neg (by simp [hn]),if_neg (by simp [hb]),if_neg hr',if_pos h4']
     simp [e]
    .have h4':¬ 4<t.nodes[i].attrs.length:=by simp at h4;omega
     simp [go_sem,seval]
     have hpo:parentsOK t.nodes i:=λj n hj hn'=>by
      rcases bZ j i with h|h
      .exact hp j n h hn'
      .have:j=i:=aD
       subst this
       rw [aA hi] at hn'
       cases hn';omega
     have hat:=Dh t ht i hi hpo
     simp only [Types.d,Types.c,dI] at hat
     refine aB hat.pure (by simp [D.clL,D.cl,uL,uT]) ?_
     simp [go_sem,seval,NodeTy.c,dI]
     intro hlen2
     refine aP (λh8=>?_) (λh8=>?_)
     .have h8':8<(t.attrs i).length:=by simp at h8;omega
      simp [go_sem,seval]
      have e:g5 t i=3:=by simp only [g5,aA hi];rw [if_neg (by simp [hn]),if_neg (by simp [hb]),if_neg hr',if_neg h4',if_pos h8']
      simp [e]
     .have h8':¬ 8<(t.attrs i).length:=by simp at h8;omega
      have e:g5 t i=bT (λk=>match (t.attrs i)[k]? with|some x=>dN x ((t.attrs i).take k)|none=>0) ((t.attrs i).length - t.nodes[i].attrs.length) t.nodes[i].attrs.length:=by
       simp only [g5,aA hi];rw [if_neg (by simp [hn]),if_neg (by simp [hb]),if_neg hr',if_neg h4',if_neg h8']
      have hle:t.nodes[i].attrs.length<=(t.attrs i).length:=by simp [Types.attrs,mG,aA hi]
      have hok:∀ x∈t.attrs i,x.ok:=u4 t.nodes ht.nodes _ _
      simp [go_sem,seval,NodeTy.c,dI]
      refine λ_ _=>⟨dE aD aD,?_⟩
      refine fS (ι:=Nat) (λk e H=>k<=(t.attrs i).length/\e 6=.list ((t.attrs i).map Attr.c)/\e 7=dI k /\
       bT (λk=>match (t.attrs i)[k]? with|some x=>dN x ((t.attrs i).take k)|none=>0) k ((t.attrs i).length - k)=g5 t i) (λk=>(t.attrs i).length - k) ((t.attrs i).length - t.nodes[i].attrs.length) ?_ ?_
      .simp [go_sem,seval,dI]
       refine ⟨aD,?_⟩
       rw [e];congr 1;omega
      .intro k e' H ⟨hk,h6,h7,hF⟩
       simp [go_sem,seval,h6,h7,dI]
       intro hlen3
       refine f9 (λhlt=>?_) (λhge=>?_)
       .simp [go_sem,seval,h6,h7,dI,hlt,Attr.c]
        have hta:=D4 (t.attrs i)[k] ((t.attrs i).take k) (hok _ (aC hlt))
        simp only [Attr.c,dI,List.map_take] at hta
        have hcl:D.clLL (List.take k (List.map Attr.c (t.attrs i)))=true:=by rw [<- List.map_take];exact r9 _
        refine ⟨⟨hk,by cases t.attrs i<;>simp [Attr.c]⟩,aJ hta (by simp [D.clL,D.cl,hcl,R2]) ?_⟩
        have hstep:bT (λk=>match (t.attrs i)[k]? with|some x=>dN x ((t.attrs i).take k)|none=>0) k ((t.attrs i).length - k) =
          if dN (t.attrs i)[k] ((t.attrs i).take k)≠0 then dN (t.attrs i)[k] ((t.attrs i).take k) else bT (λk=>match (t.attrs i)[k]? with|some x=>dN x ((t.attrs i).take k)|none=>0) (k+1) ((t.attrs i).length - (k+1)):=by
         rw [(aD:(t.attrs i).length - k=(t.attrs i).length - (k+1)+1),bT,aA hlt]
        rw [hstep] at hF
        simp [go_sem,seval]
        refine aP (λhz=>?_) (λhz=>?_)
        .have hz':dN (t.attrs i)[k] ((t.attrs i).take k)≠0:=by simpa using hz
         rw [if_pos hz'] at hF
         simp [go_sem,seval,hF]
        .have hz':¬ dN (t.attrs i)[k] ((t.attrs i).take k)≠0:=by simpa using hz
         rw [if_neg hz'] at hF
         simp [go_sem,seval,h6,h7,dI]
         exact ⟨dE aD aD,k+1,aD,aD,aD,hF⟩
       .simp [go_sem,seval]
        rw [<- hF,(aD:(t.attrs i).length - k=0)];rfl
def boundedF (low high:Int):Bool:=(decide (0<=low)&&decide (low<=40))&&(decide (high = -1)||(decide (low<=high)&&decide (high<=40)))
theorem G8 (low high:Int):Pure Tryz.prog 303 [dI low,dI high] (.bool (boundedF low high)):=by
 refine aS (aI (cfg:=⟨λ_=>false,λ_=>[]⟩) Tz.mixed Tryz.func303 rfl rfl (aF rfl) (by kernel_rfl) ?_)
 simp [go_sem,seval,dI,boundedF]
 try omega
theorem KZ (t:Types)(a:Int):Pure Tryz.prog 300 [dI a,.adr t.c] (.bool (decide (0<=a)&&decide (a<t.nodes.length))):=by
 refine aS (aI (cfg:=⟨λ_=>false,λ_=>[]⟩) Tz.mixed Tryz.func300 rfl rfl (aF rfl) (by kernel_rfl) ?_)
 simp [go_sem,seval,dI,Types.c]
theorem KY (x y:EdgeTy):Pure Tryz.prog 302 [.agg y.c,.adr x.c] (.bool (decide (y.name=x.name))):=by
 refine aS (aI (cfg:=⟨λ_=>false,λ_=>[]⟩) Tz.mixed Tryz.func302 rfl rfl (aF rfl) (by kernel_rfl) ?_)
 simp [go_sem,seval,EdgeTy.c,dI]
def insideF (t:Types)(a:Int):Bool:=decide (0<=a)&&decide (a<t.nodes.length)
def jW (t:Types)(i:Nat):Int :=
 match t.edges[i]? with
 | none=>0
 | some x =>
  if lW x.name=false then 2
  else if ((t.edges.take i).any λy=>decide (y.name=x.name))=true then 5
  else if (insideF t x.from_&&insideF t x.to_&&boundedF x.outLow x.outHigh&&boundedF x.inLow x.inHigh)=true then 0 else 6
theorem No (t:Types)(ht:t.ok)(i:Nat)(hi:i<t.edges.length):Pure Tryz.prog 220 [t.d,dI i] (dI (jW t i)):=by
 have hno:=ht.edges _ (aC hi)
 have hcN:D.clLL (List.map NodeTy.c t.nodes)=true:=uL _
 have hcE:D.clLL (List.map EdgeTy.c t.edges)=true:=uT _
 have hin:∀ a:Int,Pure Tryz.prog 300 [.int .i64 a,.adr [.list (t.nodes.map NodeTy.c),.list (t.edges.map EdgeTy.c)]] (.bool (insideF t a)):=KZ t
 have hbd:∀ a b:Int,Pure Tryz.prog 303 [.int .i64 a,.int .i64 b] (.bool (boundedF a b)):=G8
 refine aS (aI (cfg:=⟨λt=>t==5,λ_=>[]⟩) Tz.mixed Tryz.func220 rfl rfl (aF rfl) (by kernel_rfl) ?_)
 simp [go_sem,seval,dI,Types.d,Types.c,EdgeTy.c,aA hi,hi]
 refine aB (oI _ hno.name) rfl ?_
 simp [go_sem,seval]
 refine aP (λhn=>?_) (λhn=>?_)
 .simp at hn
  simp [go_sem,seval,jW,aA hi,hn]
 .simp at hn
  simp [go_sem,seval]
  have hc:=BZ (t.edges.take i) 302 [.adr t.edges[i].c] (λy=>decide (y.name=t.edges[i].name)) (by simp [D.clL,D.cl,EdgeTy.cl]) (by rw [D.cl];exact uT _) (λy _=>KY t.edges[i] y)
  refine ⟨⟨aD,by cases t.edges<;>simp [EdgeTy.c]⟩,tC hc (by simp [Fm,CA,fL,go_sem,EdgeTy.c,dI,List.map_take]) (by simp only [D.clL,D.cl,uT,EdgeTy.cl];rfl) rfl ?_⟩
  simp [go_sem,seval]
  refine aP (λhb=>?_) (λhb=>?_)
  .simp [go_sem,seval,jW,aA hi,hn,hb]
  .simp [go_sem,seval,EdgeTy.c,dI]
   refine aB (hin _) (by simp [D.clL,D.cl,hcN,hcE]) ?_
   simp [go_sem,seval,EdgeTy.c,dI]
   refine aG (λ_=>hin _) (λ_=>by simp [D.clL,D.cl,hcN,hcE]) ?_
   simp [go_sem,seval,EdgeTy.c,dI]
   refine aP (λh1=>?_) (λh1=>?_)
   .have e:jW t i=6:=by
     simp only [jW,aA hi];rw [if_neg (by simp [hn]),if_neg (by simp [hb]),if_neg (by intro h;simp at h;simp [h] at h1)]
    simp [go_sem,seval]
    refine aP (λ_=>?_) (λh=>?_)
    .simp [go_sem,seval,e]
    .rw [h1] at h;cases h
   .simp [go_sem,seval,EdgeTy.c,dI]
    refine aB (hbd _ _) rfl ?_
    simp [go_sem,seval,EdgeTy.c,dI]
    refine aG (λ_=>hbd _ _) (λ_=>rfl) ?_
    simp [go_sem,seval,EdgeTy.c,dI]
    refine aP (λh2=>?_) (λh2=>?_)
    .have e:jW t i=6:=by
      simp only [jW,aA hi];rw [if_neg (by simp [hn]),if_neg (by simp [hb]),if_neg (by intro h;simp at h;simp [h] at h2)]
     simp [go_sem,seval,e]
    .have e:jW t i=0:=by
      simp only [jW,aA hi];rw [if_neg (by simp [hn]),if_neg (by simp [hb]),if_pos (by simp at h1 h2 ⊢;simp [h1,h2])]
     simp [go_sem,seval,e]
theorem vS (t:Types)(j:Nat)(n:NodeTy)(h:g5 t j=0)(hn:t.nodes[j]?=some n):n.parent<j:=by
 simp only [g5,hn] at h
 split at h
 .cases h
 .split at h
  .cases h
  .split at h
   .cases h
   .rename_i hr;simp at hr;omega
def eU (f:Nat->Int)(nm:Nat->ByteArray)(last:ByteArray × Int):Nat->Nat->ByteArray × Int
 | _,0=>last
 | k,n+1=>if f k≠0 then (nm k,f k) else eU f nm last (k+1) n
def Types.nodeName (t:Types)(i:Nat):ByteArray:=match t.nodes[i]? with|some n=>n.name|none=>⟨#[]⟩
def Types.edgeName (t:Types)(i:Nat):ByteArray:=match t.edges[i]? with|some n=>n.name|none=>⟨#[]⟩
def cZ (t:Types):ByteArray × Int :=
 if t.nodes.length=0 then (⟨#[]⟩,7)
 else if 12<t.nodes.length\/20<t.edges.length then (⟨#[]⟩,3)
 else eU (g5 t) t.nodeName (eU (jW t) t.edgeName (⟨#[]⟩,0) 0 t.edges.length) 0 t.nodes.length
theorem l7 (t:Types)(ht:t.ok):Pure Tryz.prog 135 [t.d] (.tup [.str (cZ t).1,dI (cZ t).2]):=by
 refine aS (aI (cfg:=⟨λt=>t==5||t==8,λ_=>[]⟩) Tz.mixed Tryz.func135 rfl rfl (aF rfl) (by kernel_rfl) ?_)
 simp [go_sem,seval,dI,Types.d,Types.c]
 intro hlen
 refine aP (λh0=>?_) (λh0=>?_)
 .simp at h0
  simp [go_sem,seval,cZ,h0]
 .simp at h0
  simp [go_sem,seval]
  intro _ _
  refine aP (λhb=>?_) (λhb=>?_)
  .have hb':12<t.nodes.length\/20<t.edges.length:=by simp at hb;omega
   simp [go_sem,seval,cZ,h0,hb']
  .have hb':¬ (12<t.nodes.length\/20<t.edges.length):=by simp at hb;omega
   have e:cZ t=eU (g5 t) t.nodeName (eU (jW t) t.edgeName (⟨#[]⟩,0) 0 t.edges.length) 0 t.nodes.length:=by simp [cZ,h0,hb']
   simp [go_sem,seval]
   intro _
   refine fS (ι:=Nat) (λi e H=>i<=t.nodes.length/\e 1=.adr t.c/\e 27=.list (t.nodes.map NodeTy.c)/\e 28=dI t.nodes.length/\e 29=dI i/\(∀ j,j<i->g5 t j=0) /\
    eU (g5 t) t.nodeName (eU (jW t) t.edgeName (⟨#[]⟩,0) 0 t.edges.length) i (t.nodes.length - i)=cZ t) (λi=>t.nodes.length - i) 0 (by simp [go_sem,seval,dI,Types.c,e]) ?_
   intro i e' H ⟨hi,h1,h27,h28,h29,hz,hF⟩
   simp [go_sem,seval,h1,h27,h28,h29,dI,Types.c]
   refine f9 (λhlt=>?_) (λhge=>?_)
   .simp [go_sem,seval,h1,h27,h28,h29,dI,Types.c,NodeTy.c,hlt]
    have hnd:=Nm t ht i hlt (λj n hj hn=>vS t j n (hz j hj) hn)
    simp only [Types.d,Types.c,dI] at hnd
    have hstep:eU (g5 t) t.nodeName (eU (jW t) t.edgeName (⟨#[]⟩,0) 0 t.edges.length) i (t.nodes.length - i) =
      if g5 t i≠0 then (t.nodeName i,g5 t i) else eU (g5 t) t.nodeName (eU (jW t) t.edgeName (⟨#[]⟩,0) 0 t.edges.length) (i+1) (t.nodes.length - (i+1)):=by
     rw [(aD:t.nodes.length - i=t.nodes.length - (i+1)+1),eU]
    rw [hstep] at hF
    refine aB hnd (by simp [D.clL,D.cl,uL,uT]) ?_
    simp [go_sem,seval]
    refine aP (λhc=>?_) (λhc=>?_)
    .have hc':g5 t i≠0:=by simpa using hc
     rw [if_pos hc'] at hF
     simp [go_sem,seval,<- hF,Types.nodeName,aA hlt]
    .have hc':¬ g5 t i≠0:=by simpa using hc
     rw [if_neg hc'] at hF
     simp [go_sem,seval,h1,h27,h28,h29,dI,Types.c]
     refine ⟨dE aD aD,i+1,aD,aD,aD,λj hj=>?_,hF⟩
     rcases bZ j i with hj'|hj'
     .exact hz j hj'
     .have:j=i:=aD
      subst this;simpa using hc'
   .simp [go_sem,seval,h1,h27,h28,h29,dI,Types.c]
    intro _
    rw [(aD:t.nodes.length - i=0)] at hF
    simp only [eU] at hF
    refine fS (ι:=Nat) (λi e H=>i<=t.edges.length/\e 1=.adr t.c/\e 44=.list (t.edges.map EdgeTy.c)/\e 45=dI t.edges.length/\e 46=dI i /\
     eU (jW t) t.edgeName (⟨#[]⟩,0) i (t.edges.length - i)=cZ t) (λi=>t.edges.length - i) 0 (by simp [go_sem,seval,h1,dI,Types.c,hF]) ?_
    intro i e' H ⟨hi,h1,h44,h45,h46,hF⟩
    simp [go_sem,seval,h1,h44,h45,h46,dI,Types.c]
    refine f9 (λhlt=>?_) (λhge=>?_)
    .simp [go_sem,seval,h1,h44,h45,h46,dI,Types.c,EdgeTy.c,hlt]
     have hnd:=No t ht i hlt
     simp only [Types.d,Types.c,dI] at hnd
     have hstep:eU (jW t) t.edgeName (⟨#[]⟩,0) i (t.edges.length - i) =
       if jW t i≠0 then (t.edgeName i,jW t i) else eU (jW t) t.edgeName (⟨#[]⟩,0) (i+1) (t.edges.length - (i+1)):=by
      rw [(aD:t.edges.length - i=t.edges.length - (i+1)+1),eU]
     rw [hstep] at hF
     refine aB hnd (by simp [D.clL,D.cl,uL,uT]) ?_
     simp [go_sem,seval]
     refine aP (λhc=>?_) (λhc=>?_)
     .have hc':jW t i≠0:=by simpa using hc
      rw [if_pos hc'] at hF
      simp [go_sem,seval,<- hF,Types.edgeName,aA hlt]
     .have hc':¬ jW t i≠0:=by simpa using hc
      rw [if_neg hc'] at hF
      simp [go_sem,seval,h1,h44,h45,h46,dI,Types.c]
      exact ⟨dE aD aD,i+1,aD,aD,aD,hF⟩
    .rw [(aD:t.edges.length - i=0)] at hF
     simp only [eU] at hF
     simp [go_sem,seval,<- hF]
theorem Bs (c:Int):Pure Tryz.prog 412 [.int .u8 c] (.bool (i7 c)):=by
 refine aS (aI (cfg:=⟨λ_=>false,λ_=>[]⟩) Tz.mixed Tryz.func412 rfl rfl (aF rfl) (by kernel_rfl) ?_)
 simp [go_sem,seval,i7,D.cl]
 try omega
theorem sW (c:Int):Pure Tryz.prog 413 [.int .u8 c] (.bool (kB c)):=by
 refine aS (aI (cfg:=⟨λ_=>false,λ_=>[]⟩) Tz.mixed Tryz.func413 rfl rfl (aF rfl) (by kernel_rfl) ?_)
 simp [go_sem,seval,kB,D.cl]
def t8 (digits:Bool)(c:Int):Bool:=kB c||(!digits&&(i7 c||c==95))
theorem Qf (s:ByteArray)(dg:Bool)(hs:s.size<=1000000):Pure Tryz.prog 414 [.str s,dI 0,.bool dg] (dI (gH (t8 dg) s)):=by
 refine aS (aI (cfg:=⟨λ_=>false,λ_=>[]⟩) Tz.mixed Tryz.func414 rfl rfl (aF rfl) (by kernel_rfl) ?_)
 simp [go_sem,seval,dI]
 refine fS (ι:=Nat) (λn e H=>H=.emp/\n<=s.size/\e 0=.str s/\e 1=dI 0/\e 2=.bool dg/\e 7=dI n/\(∀ j,j<n->t8 dg (v8 s j)=true)) (λn=>s.size - n) 0 (by simp [go_sem,seval,dI]) ?_
 intro n e H ⟨hH,hn,h0,h1,h2,h7,hp⟩
 subst hH
 have hb:((s.data[n]?.getD 0).toNat:Int)=v8 s n:=rfl
 simp [go_sem,seval,h0,h1,h2,h7,dI,hb]
 refine ⟨dE aD aD,λ_=>dE aD aD,aG (λ_=>sW _) (λ_=>rfl) ?_⟩
 simp [go_sem,seval,h0,h1,h2,h7,dI,hb]
 refine ⟨λ_ _ _=>dE aD aD,λh _ _=>h,aG (λ_=>Bs _) (λ_=>rfl) ?_⟩
 simp [go_sem,seval,h0,h1,h2,h7,dI,hb]
 refine ⟨λ_ _ _ _=>dE aD aD,λh _ _ _=>h,λa b c d=>⟨⟨⟨a,b⟩,c⟩,d⟩,λa b c=>⟨⟨a,b⟩,c⟩,λa b=>⟨a,b⟩,aP (λh=>?_) (λh=>?_)⟩
 .have hr:n<s.size/\t8 dg (v8 s n)=true:=by simpa [t8] using h
  simp [go_sem,seval,h0,h1,h2,h7,dI]
  refine ⟨dE aD aD,n+1,aD,aD,aD,λj hj=>?_⟩
  rcases bZ j n with hj'|hj'
  .exact hp j hj'
  .have:j=n:=aD
   subst this;exact hr.2
 .have hr:n<s.size->t8 dg (v8 s n)=false:=by
   intro hlt
   simp [hlt] at h
   simp [t8]
   exact h
  simp [go_sem,seval,h0,h1,h2,h7,dI]
  rw [Ig _ s n hp hn hr]
theorem IS (p:Nat->Bool)(n:Nat):∀ d k,k+d=n->(∀ j,1<=j->j<k->p j=true)->1<=k->∃ k,1<=k/\k<=n/\(∀ j,1<=j->j<k->p j=true)/\(k<n->p k=false)
 | 0,k,h,hp,h1=>⟨k,h1,aD,hp,λh=>by omega⟩
 | d+1,k,h,hp,h1=>by
  cases hk:p k with
  | false=>exact ⟨k,h1,aD,hp,λ_=>hk⟩
  | true =>
   refine IS p n d (k+1) aD (λj hj hlt=>?_) aD
   rcases bZ j k with h|h
   .exact hp j hj h
   .have:j=k:=aD
    subst this;exact hk
theorem JZ (s:ByteArray)(h1:1<=s.size)(hs:s.size<=1000000):∃ n:Int,0<=n/\n≠1/\n<=s.size/\Pure Tryz.prog 415 [.str s,dI 0] (dI n):=by
 obtain ⟨k,hk1,hk2,hk3,hk4⟩:=IS (λj=>oQ (v8 s j)) s.size (s.size - 1) 1 aD (λj h h'=>by omega) aD
 refine ⟨if k<s.size/\v8 s k=34 then k+1 else 0,by split<;>omega,by split<;>omega,by split<;>omega,aS (aI (cfg:=⟨λ_=>false,λ_=>[]⟩) Tz.mixed Tryz.func415 rfl rfl (aF rfl) (by kernel_rfl) ?_)⟩
 simp [go_sem,seval,dI]
 refine fS (ι:=Nat) (λn e H=>H=.emp/\1<=n/\n<=k/\e 0=.str s/\e 1=dI 0/\e 5=dI n) (λn=>s.size - n) 1 (by simp [go_sem,seval,dI];omega) ?_
 intro n e H ⟨hH,hn1,hn,h0,h1,h5⟩
 subst hH
 have hb:((s.data[n]?.getD 0).toNat:Int)=v8 s n:=rfl
 simp [go_sem,seval,h0,h1,h5,dI,hb]
 refine ⟨dE aD aD,aP (λhlt=>?_) (λhge=>?_)⟩
 .simp at hlt
  simp [go_sem,seval,h0,h1,h5,dI,hb]
  refine ⟨dE aD aD,hlt,aP (λhq=>?_) (λhq=>?_)⟩
  .simp at hq
   have hnk:n=k:=by
    rcases bZ n k with h|h
    .have:=hk3 n hn1 h;simp [oQ,hq] at this
    .omega
   subst hnk
   simp [go_sem,seval,h0,h1,h5,dI]
   exact ⟨dE aD aD,λh=>absurd hq (h hlt)⟩
  .simp at hq
   simp [go_sem,seval,h0,h1,h5,dI]
   refine aP (λhc=>?_) (λhc=>?_)
   .simp at hc
    have hnk:n=k:=by
     rcases bZ n k with h|h
     .have:=hk3 n hn1 h;simp [oQ] at this;omega
     .omega
    subst hnk
    simp [go_sem,seval,h0,h1,h5,dI]
    omega
   .simp at hc
    have hnk:n<k:=by
     rcases bZ n k with h|h
     .exact h
     .have hh:n=k:=aD
      subst hh
      have:=hk4 hlt;simp [oQ] at this;omega
    simp [go_sem,seval,h0,h1,h5,dI]
    exact ⟨dE aD aD,n+1,aD,aD,aD,aD⟩
 .simp at hge
  simp [go_sem,seval,h0,h1,h5,dI]
  omega
def signs:List ByteArray:=Ip++[⟨#[123]⟩,⟨#[125]⟩,⟨#[40]⟩,⟨#[41]⟩,⟨#[91]⟩,⟨#[93]⟩,⟨#[44]⟩,⟨#[59]⟩,⟨#[58]⟩,⟨#[61]⟩,⟨#[43]⟩,⟨#[45]⟩,⟨#[42]⟩,⟨#[60]⟩,⟨#[62]⟩,⟨#[33]⟩,⟨#[38]⟩,⟨#[124]⟩,⟨#[46]⟩,⟨#[63]⟩]
theorem LW:Pure Tryz.prog 416 [] (sL signs):=by
 refine aS (aI (cfg:=⟨λ_=>false,λ_=>[]⟩) Tz.mixed Tryz.func416 rfl rfl (aF rfl) (by kernel_rfl) ?_)
 simp [go_sem,seval,sL,cS,Ip,signs]
theorem FJ (s:ByteArray):Pure Tryz.prog 358 [.agg [dI 1,.str s,dI 0]] (.str s):=by
 refine aS (aI (cfg:=⟨λ_=>false,λ_=>[]⟩) Tz.mixed Tryz.func358 rfl rfl (aF rfl) (by kernel_rfl) ?_)
 simp [go_sem,seval,dI]
theorem ND:t8 false=oT:=by
 funext c
 simp [t8,oT,Bool.or_assoc,Bool.or_comm,Bool.or_left_comm]
def vG (s l:ByteArray):Bool:=decide ((l.size:Int)<=s.size)&&decide (s.extract 0 l.size=l)
def zL (q:Int)(s:ByteArray):Int × ByteArray × Int × Int :=
  if (i7 (v8 s 0)||kB (v8 s 0))=true then
    (if kB (v8 s 0)=true then (if 9<gH (t8 true) s then (0,⟨#[]⟩,0,3) else (2,s.extract 0 (gH (t8 true) s),gH (t8 true) s,0))
     else (if 20<gH (t8 false) s then (0,⟨#[]⟩,0,3) else (1,s.extract 0 (gH (t8 false) s),gH (t8 false) s,0)))
  else if v8 s 0=34 then
    (if q=0 then (0,⟨#[]⟩,0,2) else if 60<q - 2 then (0,⟨#[]⟩,0,3) else (3,s.extract 1 (q - 1).toNat,q,0))
  else match signs.find? (vG s) with
    | some l=>(4,l,l.size,0)
    | none=>(0,⟨#[]⟩,0,2)
theorem Qg (s:ByteArray)(h1:1<=s.size)(hs:s.size<=100000)(q:Int)(hq0:0<=q)(hq1:q≠1)(hq2:q<=s.size)(hq:Pure Tryz.prog 415 [.str s,dI 0] (dI q)) :
  Pure Tryz.prog 359 [.str s,dI 0] (.tup [.agg [dI (zL q s).1,.str (zL q s).2.1,dI 0],dI (zL q s).2.2.1,dI (zL q s).2.2.2]):=by
 have hb:((s.data[0]?.getD 0).toNat:Int)=v8 s 0:=rfl
 refine aS (aI (cfg:=⟨λt=>t==4,λr=>match r with|22=>[(7,10),(8,10),(9,10)]|_=>[]⟩) Tz.mixed Tryz.func359 rfl rfl (aF rfl) (by kernel_rfl) ?_)
 simp [go_sem,seval,dI,hb]
 refine ⟨aD,aB (Bs _) rfl ?_⟩
 simp [go_sem,seval,dI]
 refine aG (λ_=>sW _) (λ_=>rfl) ?_
 simp [go_sem,seval,dI]
 refine aP (λhld=>?_) (λhld=>?_)
 .simp [go_sem,seval]
  refine aB (sW _) rfl ?_
  simp [go_sem,seval]
  refine aB (Qf s _ aD) rfl ?_
  simp [go_sem,seval,dI]
  refine aB (sW _) rfl ?_
  simp [go_sem,seval]
  refine aP (λhd=>?_) (λhd=>?_)
  .simp [go_sem,seval]
   rw [hd]
   have hr:=Cz (t8 true) s
   refine aP (λh=>?_) (λh=>?_)
   .simp at h
    simp [go_sem,seval,zL,hd,(aD:9<gH (t8 true) s)]
   .simp at h
    simp [go_sem,seval,zL,hd,(aD:¬ 9<gH (t8 true) s)]
    exact ⟨dE aD aD,aD⟩
  .have hd':kB (v8 s 0)=false:=by simpa using hd
   simp [go_sem,seval]
   rw [hd']
   have hr:=Cz (t8 false) s
   have hl:i7 (v8 s 0)=true:=by simpa [hd'] using hld
   refine aP (λh=>?_) (λh=>?_)
   .simp at h
    simp [go_sem,seval,zL,hd',hl,(aD:20<gH (t8 false) s)]
   .simp at h
    simp [go_sem,seval,zL,hd',hl,(aD:¬ 20<gH (t8 false) s)]
    exact ⟨dE aD aD,aD⟩
 .have hld':¬ (i7 (v8 s 0)||kB (v8 s 0))=true:=by simp at hld;simp [hld]
  simp [go_sem,seval]
  refine aP (λh34=>?_) (λh34=>?_)
  .simp at h34
   simp [go_sem,seval]
   refine aB hq rfl ?_
   simp [go_sem,seval,dI]
   have e:zL q s=(if q=0 then (0,⟨#[]⟩,0,2) else if 60<q - 2 then (0,⟨#[]⟩,0,3) else (3,s.extract 1 (q - 1).toNat,q,0)):=by
    unfold zL;rw [if_neg hld',if_pos h34]
   rw [e]
   refine aP (λhz=>?_) (λhz=>?_)
   .simp at hz
    simp [go_sem,seval,hz]
   .simp at hz
    simp [go_sem,seval,hz]
    refine ⟨dE aD aD,f9 (λh6=>?_) (λh6=>?_)⟩
    .simp [go_sem,seval,h6]
    .simp [go_sem,seval,h6]
     exact ⟨dE aD aD,dE aD aD,dE aD aD,aD,aD⟩
  .simp at h34
   simp [go_sem,seval]
   refine aB LW rfl ?_
   simp [go_sem,seval,dI]
   have e:zL q s=(match signs.find? (vG s) with|some l=>(4,l,l.size,0)|none=>(0,⟨#[]⟩,0,2)):=by
    unfold zL;rw [if_neg hld',if_neg h34]
   rw [e]
   refine fS (ι:=Nat) (λn e H=>(∃ ty,H.get 0=some ⟨ty,3,[[dI 0,.str ⟨#[]⟩,dI 0]],false⟩)/\n<=signs.length/\e 0=.str s/\e 1=dI 0/\e 4=.ptr 0 1 0 0/\e 12=sL signs/\e 13=dI n/\(∀ j l,j<n->signs[j]?=some l->vG s l=false)) (λn=>signs.length - n) 0 (by simp [go_sem,seval,dI]) ?_
   intro n e H ⟨⟨ty,hH⟩,hn,h0,h1',h4,h12,h13,hp⟩
   simp [go_sem,seval,h0,h1',h4,h12,h13,dI,hH,sL]
   intro hlen
   refine f9 (λhlt=>?_) (λhge=>?_)
   .simp [go_sem,seval,h0,h1',h4,h12,h13,dI,hH,sL,hlt,cS]
    have hz2:signs[n].size<=2:=(show ∀ l∈signs,l.size<=2 by decide) _ (aC hlt)
    refine ⟨dE aD aD,λ_=>dE aD aD,aP (λhc=>?_) (λhc=>?_)⟩
    .have hs1:vG s signs[n]=true:=by simpa [vG] using hc
     have hf:signs.find? (vG s)=some signs[n]:=by
      rw [List.find?_eq_some_iff_getElem]
      refine ⟨hs1,n,hlt,rfl,λj hj=>?_⟩
      simpa using hp j _ hj (aA aD)
     simp [go_sem,seval,h0,h1',h4,h12,h13,dI,hH,sL,hlt,cS,hf]
    .have hs1:vG s signs[n]=false:=by simpa [vG] using hc
     simp [go_sem,seval,h0,h1',h4,h12,h13,dI,hH,sL]
     have hsl:signs.length=25:=rfl
     refine ⟨dE aD aD,n+1,aD,aD,aD,λj l hj hl=>?_⟩
     rcases bZ j n with hj'|hj'
     .exact hp j l hj' hl
     .have:j=n:=aD
      subst this
      rw [aA hlt] at hl
      cases hl;exact hs1
   .simp [go_sem,seval,h0,h1',h4,h12,h13,dI,hH,sL]
    have:signs.find? (vG s)=none:=by
     rw [List.find?_eq_none]
     intro x hx
     obtain ⟨j,hj,rfl⟩:=aO hx
     simpa using hp j _ aD (aA hj)
    simp [this]
theorem Rx (s:ByteArray)(hz:¬ s.size=0)(q:Int):(decide ((zL q s).2.2.2=0)&&(zL q s).2.2.1==(s.size:Int)&&(zL q s).1==1)=lW s:=by
 unfold zL lW
 by_cases hl:i7 (v8 s 0)=true
 .have hdg:kB (v8 s 0)=false:=by simp [i7,kB] at *;omega
  rw [if_pos (by simp [hl])]
  simp only [hdg,hl,ND]
  by_cases h:20<gH oT s
  .simp [h];intros;omega
  .simp [h,hz,(aD:gH oT s<=20)]
   rw [aT];simp;omega
 .have hl':i7 (v8 s 0)=false:=by simpa using hl
  simp only [hl']
  repeat' split
  all_goals first|(simp;done)|(simp_all;done)
theorem LX (s:ByteArray)(hs:s.size<=100000):Pure Tryz.prog 286 [.agg [dI 1,.str s,dI 0]] (.bool (lW s)):=by
 by_cases hz:s.size=0
 .refine aS (aI (cfg:=⟨λt=>t==4,λ_=>[]⟩) Tz.mixed Tryz.func286 rfl rfl (aF rfl) (by kernel_rfl) ?_)
  simp [go_sem,seval,dI]
  refine aB (FJ s) rfl ?_
  simp [go_sem,seval,dI]
  refine aP (λh=>?_) (λh=>?_)
  .simp [go_sem,seval,lW,hz]
  .simp [pX,hz] at h
 .obtain ⟨q,hq0,hq1,hq2,hq⟩:=JZ s aD aD
  refine aS (aI (cfg:=⟨λt=>t==4,λ_=>[]⟩) Tz.mixed Tryz.func286 rfl rfl (aF rfl) (by kernel_rfl) ?_)
  simp [go_sem,seval,dI]
  refine aB (FJ s) rfl ?_
  simp [go_sem,seval,dI]
  refine aP (λh=>?_) (λh=>?_)
  .simp [pX,hz] at h
  .simp [go_sem,seval]
   refine aB (Qg s aD hs q hq0 hq1 hq2 hq) rfl ?_
   simp [go_sem,seval,dI]
   exact Rx s hz q
theorem oM (s:ByteArray)(hs:s.size<=100000):Pure Tryz.prog 210 [.str s] (.bool (lW s)):=by
 refine aS (aI (cfg:=⟨λ_=>false,λ_=>[]⟩) Tz.mixed Tryz.func210 rfl rfl (aF rfl) (by kernel_rfl) ?_)
 simp [go_sem,seval,dI]
 refine aB (LX s hs) rfl ?_
 simp [go_sem,seval,dI]
@[go_sem] theorem pZ (l:List Int):D.clLL (l.map cI)=true:=dL cI (λ_=>rfl) l
@[go_sem] theorem CV (l:List Edge):D.clLL (l.map Edge.c)=true:=dL _ Edge.cl l
theorem HD (xs:List Int)(g:FuncId)(caps:List D)(p:Int->Bool)(hc:D.clL caps=true)(hg:∀ x∈xs,Pure Tryz.prog g (.int .i64 x :: caps) (.bool (p x))) :
  Pure Tryz.prog 355 [.list (xs.map cI),.fn g caps] (dI (CS xs p)):=by
 refine aS (aI (cfg:=⟨λ_=>false,λ_=>[]⟩) Tz.mixed Tryz.func355 rfl rfl (aF rfl) (by kernel_rfl) ?_)
 simp [go_sem,seval,dI,dLI]
 intro hlen
 refine fS (ι:=Nat) (λi e H=>H=.emp/\i<=xs.length/\e 0=.list (xs.map cI)/\e 1=.fn g caps/\e 7=dI xs.length/\e 8=dI i/\(∀ j x,j<i->xs[j]?=some x->p x=false)) (λi=>xs.length - i) 0 (by simp [go_sem,seval,dI,dLI]) ?_
 intro i e H ⟨hH,hi,h0,h1,h7,h8,hn⟩
 subst hH
 simp [go_sem,seval,h0,h1,h7,h8,dI,dLI]
 refine f9 (λhlt=>?_) (λhge=>?_)
 .have hgx:=hg xs[i] (aC hlt)
  simp [go_sem,seval,h0,h1,h7,h8,dI,dLI,hlt,cI] at hgx ⊢
  refine aB hgx (by simp [go_sem,hc]) ?_
  simp [go_sem,seval,h0,h1,h7,h8,dI,dLI]
  refine aP (λh=>?_) (λh=>?_)
  .simp [go_sem,seval,h0,h1,h7,h8,dI,dLI]
   rw [pI hn hlt h]
  .simp [go_sem,seval,h0,h1,h7,h8,dI,dLI]
   refine ⟨dE aD aD,i+1,aD,aD,aD,λj x hj hx=>?_⟩
   rcases bZ j i with hj'|hj'
   .exact hn j x hj' hx
   .have:j=i:=aD
    subst this
    rw [aA hlt] at hx
    cases hx;exact h
 .simp [go_sem,seval,h0,h1,h7,h8,dI,dLI]
  rw [pJ λj x hj=>hn j x aD]
theorem gC (xs:List Int)(g:FuncId)(caps:List D)(p:Int->Bool)(hc:D.clL caps=true)(hl:D.cl (.list (xs.map cI))=true)(hg:∀ x∈xs,Pure Tryz.prog g (.int .i64 x :: caps) (.bool (p x))) :
  Pure Tryz.prog 281 [.list (xs.map cI),.fn g caps] (.bool (xs.any p)):=by
 refine aS (aI (cfg:=⟨λ_=>false,λ_=>[]⟩) Tz.mixed Tryz.func281 rfl rfl (aF rfl) (by kernel_rfl) ?_)
 simp [go_sem,seval]
 refine aB (HD xs g caps p hc hg) (by simp only [D.clL,hl,gM];simp [D.cl,hc]) ?_
 simp [go_sem,seval,dI,r3]
theorem Ee (xs:List Edge)(g:FuncId)(caps:List D)(p:Edge->Bool)(hc:D.clL caps=true)(hg:∀ x∈xs,Pure Tryz.prog g (.agg x.c :: caps) (.bool (p x))) :
  Pure Tryz.prog 369 [.list (xs.map Edge.c),.fn g caps] (dI (CS xs p)):=by
 refine aS (aI (cfg:=⟨λ_=>false,λ_=>[]⟩) Tz.mixed Tryz.func369 rfl rfl (aF rfl) (by kernel_rfl) ?_)
 simp [go_sem,seval,dI,dLI]
 intro hlen
 refine fS (ι:=Nat) (λi e H=>H=.emp/\i<=xs.length/\e 0=.list (xs.map Edge.c)/\e 1=.fn g caps/\e 7=dI xs.length/\e 8=dI i/\(∀ j x,j<i->xs[j]?=some x->p x=false)) (λi=>xs.length - i) 0 (by simp [go_sem,seval,dI,dLI]) ?_
 intro i e H ⟨hH,hi,h0,h1,h7,h8,hn⟩
 subst hH
 simp [go_sem,seval,h0,h1,h7,h8,dI,dLI]
 refine f9 (λhlt=>?_) (λhge=>?_)
 .have hgx:=hg xs[i] (aC hlt)
  simp [go_sem,seval,h0,h1,h7,h8,dI,dLI,hlt,Edge.c] at hgx ⊢
  refine aB hgx (by simp [go_sem,hc]) ?_
  simp [go_sem,seval,h0,h1,h7,h8,dI,dLI]
  refine aP (λh=>?_) (λh=>?_)
  .simp [go_sem,seval,h0,h1,h7,h8,dI,dLI]
   rw [pI hn hlt h]
  .simp [go_sem,seval,h0,h1,h7,h8,dI,dLI]
   refine ⟨dE aD aD,i+1,aD,aD,aD,λj x hj hx=>?_⟩
   rcases bZ j i with hj'|hj'
   .exact hn j x hj' hx
   .have:j=i:=aD
    subst this
    rw [aA hlt] at hx
    cases hx;exact h
 .simp [go_sem,seval,h0,h1,h7,h8,dI,dLI]
  rw [pJ λj x hj=>hn j x aD]
theorem lM (xs:List Edge)(g:FuncId)(caps:List D)(p:Edge->Bool)(hc:D.clL caps=true)(hl:D.cl (.list (xs.map Edge.c))=true)(hg:∀ x∈xs,Pure Tryz.prog g (.agg x.c :: caps) (.bool (p x))) :
  Pure Tryz.prog 306 [.list (xs.map Edge.c),.fn g caps] (.bool (xs.any p)):=by
 refine aS (aI (cfg:=⟨λ_=>false,λ_=>[]⟩) Tz.mixed Tryz.func306 rfl rfl (aF rfl) (by kernel_rfl) ?_)
 simp [go_sem,seval]
 refine aB (Ee xs g caps p hc hg) (by simp only [D.clL,hl,gM];simp [D.cl,hc]) ?_
 simp [go_sem,seval,dI,r3]
def iG (n m:Int):Bool:=decide (0<=n)&&decide (n<=m)
theorem BQ (n m:Int):Pure Tryz.prog 320 [dI n,dI m] (.bool (iG n m)):=by
 refine aS (aI (cfg:=⟨λ_=>false,λ_=>[]⟩) Tz.mixed Tryz.func320 rfl rfl (aF rfl) (by kernel_rfl) ?_)
 simp [go_sem,seval,dI,iG]
def s7 (x:Edge)(n:Int):Bool:=iG x.type 99&&iG x.from_ (n - 1)&&iG x.to_ (n - 1)
theorem Ok (x:Edge)(n:Int)(h0:0<=n)(h1:n<=1000000):Pure Tryz.prog 322 [.agg x.c,dI n] (.bool (s7 x n)):=by
 have hw:∀ a b:Int,Pure Tryz.prog 320 [.int .i64 a,.int .i64 b] (.bool (iG a b)):=BQ
 refine aS (aI (cfg:=⟨λ_=>false,λ_=>[]⟩) Tz.mixed Tryz.func322 rfl rfl (aF rfl) (by kernel_rfl) ?_)
 simp [go_sem,seval,dI,Edge.c]
 refine aB (hw _ _) rfl ?_
 simp [go_sem,seval,dI,Edge.c]
 refine ⟨λ_=>dE aD aD,aG (λ_=>hw _ _) (λ_=>rfl) ?_⟩
 simp [go_sem,seval,dI,Edge.c]
 refine ⟨λ_ _=>dE aD aD,aG (λ_=>hw _ _) (λ_=>rfl) ?_⟩
 simp [go_sem,seval,s7]
theorem Kk (n:Int):Pure Tryz.prog 319 [.int .i64 n] (.bool (!iG n 99)):=by
 have hw:∀ a b:Int,Pure Tryz.prog 320 [.int .i64 a,.int .i64 b] (.bool (iG a b)):=BQ
 refine aS (aI (cfg:=⟨λ_=>false,λ_=>[]⟩) Tz.mixed Tryz.func319 rfl rfl (aF rfl) (by kernel_rfl) ?_)
 simp [go_sem,seval,dI]
 refine aB (hw _ _) rfl ?_
 simp [go_sem,seval]
theorem Kj (g:Graph)(hg:g.nodes.length<=1000000)(x:Edge):Pure Tryz.prog 321 [.agg x.c,.adr g.c] (.bool (!s7 x g.nodes.length)):=by
 have hf:=Ok x g.nodes.length aD aD
 simp only [Edge.c,dI] at hf
 refine aS (aI (cfg:=⟨λ_=>false,λ_=>[]⟩) Tz.mixed Tryz.func321 rfl rfl (aF rfl) (by kernel_rfl) ?_)
 simp [go_sem,seval,dI,Edge.c,Graph.c,dLI]
 intro _
 refine aB hf rfl ?_
 simp [go_sem,seval]
def graphF (g:Graph):Int :=
 if 40<g.nodes.length\/80<g.edges.length then 3
 else if (g.nodes.any λn=>!iG n 99)=true then 6
 else if (g.edges.any λx=>!s7 x g.nodes.length)=true then 6
 else 0
theorem mC (g:Graph):Pure Tryz.prog 227 [g.d] (dI (graphF g)):=by
 refine aS (aI (cfg:=⟨λ_=>false,λ_=>[]⟩) Tz.mixed Tryz.func227 rfl rfl (aF rfl) (by kernel_rfl) ?_)
 simp [go_sem,seval,dI,Graph.d,Graph.c,dLI]
 intro _ _
 refine aP (λh=>?_) (λh=>?_)
 .have h':40<g.nodes.length\/80<g.edges.length:=by simp at h;omega
  simp [go_sem,seval,graphF,h']
 .have h':¬ (40<g.nodes.length\/80<g.edges.length):=by simp at h;omega
  have h1:=gC g.nodes 319 [] (λn=>!iG n 99) rfl (by simp [D.cl,pZ]) (λn _=>Kk n)
  have h2:=lM g.edges 321 [.adr g.c] (λx=>!s7 x g.nodes.length) (by simp [D.clL,D.cl,Graph.c,pZ,CV,dLI]) (by simp [D.cl,CV]) (λx _=>Kj g aD x)
  simp only [Graph.c,dLI] at h2
  simp [go_sem,seval]
  refine aB h1 (by simp [D.clL,D.cl,pZ]) ?_
  simp [go_sem,seval]
  refine aP (λha=>?_) (λha=>?_)
  .have e:graphF g=6:=by unfold graphF;rw [if_neg h',if_pos ha]
   simp [go_sem,seval,e]
  .simp [go_sem,seval]
   refine aB h2 (by simp [D.clL,D.cl,pZ,CV]) ?_
   simp [go_sem,seval]
   refine aP (λhb=>?_) (λhb=>?_)
   .have e:graphF g=6:=by unfold graphF;rw [if_neg h',if_neg (by rw [ha];simp),if_pos hb]
    simp [go_sem,seval,e]
   .have e:graphF g=0:=by unfold graphF;rw [if_neg h',if_neg (by rw [ha];simp),if_neg (by rw [hb];simp)]
    simp [go_sem,seval,e]
theorem FH (n:Int):Pure Tryz.prog 267 [.int .i64 n] (.bool (iG n 99)):=by
 refine aS (aI (cfg:=⟨λ_=>false,λ_=>[]⟩) Tz.mixed Tryz.func267 rfl rfl (aF rfl) (by kernel_rfl) ?_)
 simp [go_sem,seval,iG]
theorem LS (x:Edge)(n:Int):Pure Tryz.prog 268 [.agg x.c,.int .i64 n] (.bool (s7 x n)):=by
 refine aS (aI (cfg:=⟨λ_=>false,λ_=>[]⟩) Tz.mixed Tryz.func268 rfl rfl (aF rfl) (by kernel_rfl) ?_)
 simp [go_sem,seval,Edge.c,dI]
 refine aB (FH _) rfl ?_
 simp [go_sem,seval,Edge.c,dI,s7,iG]
 rw [aT];simp;omega
theorem dS {α:Type}(l:List α)(p:α->Bool)(i:Nat)(hi:i<l.length):(l.take (i+1)).any p=((l.take i).any p||p l[i]):=by
 rw [aE hi,AZ];simp
theorem lD (g:Graph):Pure Tryz.prog 174 [g.d] (dI (graphF g)):=by
 refine aS (aI (cfg:=⟨λ_=>false,λ_=>[]⟩) Tz.mixed Tryz.func174 rfl rfl (aF rfl) (by kernel_rfl) ?_)
 simp [go_sem,seval,dI,Graph.d,Graph.c,dLI]
 intro _ _
 refine aP (λh=>?_) (λh=>?_)
 .have h':40<g.nodes.length\/80<g.edges.length:=by simp at h;omega
  simp [go_sem,seval,graphF,h']
 .have h':¬ (40<g.nodes.length\/80<g.edges.length):=by simp at h;omega
  simp [go_sem,seval]
  refine fS (ι:=Nat) (λi e H=>i<=g.nodes.length/\e 1=.adr g.c/\e 3=dI i/\((g.nodes.take i).any λn=>!iG n 99)=false) (λi=>g.nodes.length - i) 0 (by simp [go_sem,seval,dI,Graph.c,dLI]) ?_
  intro i e H ⟨hi,h1,h3,ha⟩
  simp [go_sem,seval,h1,h3,dI,Graph.c,dLI]
  intro _
  refine f9 (λhlt=>?_) (λhge=>?_)
  .simp [go_sem,seval,h1,h3,dI,Graph.c,dLI,hlt,cI]
   refine aB (FH _) rfl ?_
   simp [go_sem,seval]
   refine aP (λhc=>?_) (λhc=>?_)
   .have hany:(g.nodes.any λn=>!iG n 99)=true:=aX.2 ⟨_,aC hlt,hc⟩
    have e:graphF g=6:=by unfold graphF;rw [if_neg h',if_pos hany]
    simp [go_sem,seval,e]
   .simp [go_sem,seval,h1,h3,dI,Graph.c,dLI]
    refine ⟨dE aD aD,i+1,aD,aD,aD,?_⟩
    have:=dS g.nodes (λn=>!iG n 99) i hlt
    rw [ha,hc] at this
    simpa using this
  .simp [go_sem,seval,h1,h3,dI,Graph.c,dLI]
   have ha':(g.nodes.any λn=>!iG n 99)=false:=by rw [(aD:i=g.nodes.length),zG] at ha;exact ha
   refine fS (ι:=Nat) (λk e H=>k<=g.edges.length/\e 1=.adr g.c/\e 4=dI k/\((g.edges.take k).any λx=>!s7 x g.nodes.length)=false) (λk=>g.edges.length - k) 0 (by simp [go_sem,seval,h1,dI,Graph.c,dLI]) ?_
   intro k e H ⟨hk,h1,h4,hb⟩
   simp [go_sem,seval,h1,h4,dI,Graph.c,dLI]
   intro _
   refine f9 (λhlt=>?_) (λhge=>?_)
   .have hr:=LS g.edges[k] g.nodes.length
    simp only [Edge.c,dI] at hr
    simp [go_sem,seval,h1,h4,dI,Graph.c,dLI,hlt,Edge.c]
    refine aJ hr rfl ?_
    simp [go_sem,seval]
    refine aP (λhc=>?_) (λhc=>?_)
    .have hany:(g.edges.any λx=>!s7 x g.nodes.length)=true:=aX.2 ⟨_,aC hlt,hc⟩
     have e:graphF g=6:=by unfold graphF;rw [if_neg h',if_neg (by rw [ha'];simp),if_pos hany]
     simp [go_sem,seval,e]
    .simp [go_sem,seval,h1,h4,dI,Graph.c,dLI]
     refine ⟨dE aD aD,k+1,aD,aD,aD,?_⟩
     have:=dS g.edges (λx=>!s7 x g.nodes.length) k hlt
     rw [hb,hc] at this
     simpa using this
   .have hb':(g.edges.any λx=>!s7 x g.nodes.length)=false:=by rw [(aD:k=g.edges.length),zG] at hb;exact hb
    have e:graphF g=0:=by unfold graphF;rw [if_neg h',if_neg (by rw [ha'];simp),if_neg (by rw [hb'];simp)]
    simp [go_sem,seval,e]
attribute [go_sem] dI dLI sL cI cS Attr.c NodeTy.c EdgeTy.c Types.c Types.d Edge.c Graph.c Graph.d
theorem AR (a b:List D):D.clL (a++b)=(D.clL a&&D.clL b):=by
 induction a with
 | nil=>simp [D.clL]
 | cons x a ih=>simp [D.clL,ih,lB]
@[go_sem] theorem TV (a b:List (List D)):D.clLL (a++b)=(D.clLL a&&D.clLL b):=by
 induction a with
 | nil=>simp [D.clLL]
 | cons x a ih=>simp [D.clLL,ih,lB]
attribute [go_sem] AR
def inF (n low high:Int):Bool:=decide (low<=n)&&decide (n<=high)
theorem nD (n low high:Int):Pure Tryz.prog 214 [dI n,dI low,dI high] (.bool (inF n low high)):=by
 refine Tz.pK ⟨λ_=>false,λ_=>[]⟩ Tryz.func214 rfl (λQ hQ=>?_)
 have Y:=trivial
 have Y:=wa Y @inF.eq_1
 exact wo (h:=hQ _ _ wy)
theorem Me {l:List ByteArray}{i:Nat}(hi:i<l.length):mem (l.take i) l[i]=true↔∃ j,j<i/\l[j]?=some l[i]:=by
 rw [mem_iff,DZ]
 constructor
 .rintro ⟨j,hj,he⟩
  have hj':j<l.length:=aD
  exact ⟨j,aD,by rw [aA hj',he]⟩
 .rintro ⟨j,hj,he⟩
  have hj':j<l.length:=aD
  rw [aA hj'] at he
  exact ⟨j,aD,by simpa using he⟩
theorem iP {p:Nat->Prop}{k:Nat}(h:∀ j,j<k->p j)(hk:p k):∀ j,j<k+1->p j:=λj hj=>by
 rcases bZ j k with h'|h'
 .exact h j h'
 .have:j=k:=aD
  subst this;exact hk
theorem LT (l:List ByteArray)(hs:∀ s∈l,s.size<=100000):Pure Tryz.prog 354 [sL l] (dI (nM l)):=by
 refine Tz.pK ⟨λ_=>false,λ_=>[]⟩ Tryz.func354 rfl (λQ hQ=>?_)
 have Y:=trivial
 refine fA (λh1=>?_) λh1=>?_
 .exact wv (h:=hQ _ _ (by simp [go_sem,nM,(aD:20<l.length)]))
 .refine wv (h:=bF (λi e H=>(e 0=sL l/\e 3=dI i)/\(i<=l.length)/\(mX (l.take i) (l.drop i)=nM l)) (λi=>l.length - i) 0 ⟨wg,wi,(by simp [nM,(aD:¬ 20<l.length)])⟩ λI0 hI0 i e H hi0=>?_)
  obtain ⟨E0,hi,hn⟩:=hi0
  have Y:=wa Y E0
  refine fA (λh4=>?_) λh4=>?_
  .rw [eF h4] at hn
   have hsz:=hs _ (aC h4)
   have Y:=wa Y h4
   refine wo (h:=aB (oM _ (by assumption)) wl ?_)
   refine fA (λh6=>?_) λh6=>?_
   .exact wv (h:=hQ _ _ (by rw [<- hn];simp [go_sem,mX,h6]))
   .refine wv (h:=bF (λk e H=>(e 0=sL l/\e 3=dI i/\e 4=dI k)/\(k<=i)/\(∀ j,j<k->l[j]?≠some l[i])) (λk=>i - k) 0 ⟨wg,wi,(by intro j hj;omega)⟩ λI2 hI2 k e H hi2=>?_)
    obtain ⟨E2,hk,hne⟩:=hi2
    have Y:=wa Y E2
    refine dP (λh9=>?_) λh9=>?_
    .have hkl:k<l.length:=aD
     have Y:=wa Y (wa h9 hkl)
     refine fA (λh11=>?_) λh11=>?_
     .exact wv (h:=hQ _ _ (by have hm:mem (l.take i) l[i]=true:=(Me h4).2 ⟨k,h9,by rw [aA hkl,h11]⟩;rw [<- hn];simp [go_sem,mX,h6,hm]))
     .exact wo (h:=wx hI2 (k+1) ⟨wg,wj,(by exact iP hne (by rw [aA hkl];simpa using h11))⟩)
    .have hm:¬ mem (l.take i) l[i]=true:=λhm=>by
      obtain ⟨j,hj,he⟩:=(Me h4).1 hm
      exact hne j aD he
     exact wo (h:=wx hI0 (i+1) ⟨wg,wj,(by rw [<- hn,mX,if_neg (by simp [h6]),if_neg hm,aE h4])⟩)
  .exact wv (h:=hQ _ _ (by rw [<- hn,(aD:i=l.length)];simp [go_sem,mX]))
def DV (x:Attr):Int :=
 if nM x.names≠0 then nM x.names
 else if (if 0<x.names.length then decide (x.low=0)&&decide (x.high=x.names.length - 1) else decide (-1000000<=x.low)&&decide (x.low<=x.high)&&decide (x.high<=1000000))=true then 0 else 6
theorem Ec (x:Attr)(hx:x.ok):Pure Tryz.prog 277 [.agg x.c] (dI (DV x)):=by
 have hfew:=hx.few
 have hz:x.names=[]->nM x.names=0:=λh=>by rw [h];rfl
 refine Tz.pK ⟨λ_=>false,λ_=>[]⟩ Tryz.func277 rfl (λQ hQ=>?_)
 have Y:=trivial
 refine fA (λh1=>?_) λh1=>?_
 .have hp:¬ 0<x.names.length:=by simp [h1]
  refine wo (h:=aB (nD _ _ _) wl ?_)
  refine wo (h:=aG (λhg=>nD _ _ _) (λhg=>wl) ?_)
  refine fA (λh2=>?_) λh2=>?_
  .exact wv (h:=hQ _ _ (by simp [go_sem,DV,hz h1,hp];simp [inF] at h2;omega))
  .exact wv (h:=hQ _ _ (by simp [go_sem,DV,hz h1,hp];simp [inF] at h2;omega))
 .have hp:0<x.names.length:=by cases hh:x.names<;>simp_all
  refine wv (h:=aB (LT x.names hx.names) wl ?_)
  refine dP (λh6=>?_) λh6=>?_
  .exact wv (h:=hQ _ _ (by simp [go_sem,DV,h6]))
  .refine fA (λh8=>?_) λh8=>?_
   .exact wv (h:=hQ _ _ (by simp [go_sem,DV,h6,hp];omega))
   .exact wv (h:=hQ _ _ (by simp [go_sem,DV,h6,hp];omega))
theorem C5 (t:Types)(a:Nat)(ha:a<t.nodes.length)(hp:parentsOK t.nodes a) :
  t.attrs a=(if 0<=t.nodes[a].parent then t.attrs t.nodes[a].parent.toNat else [])++t.nodes[a].attrs:=by
 have hpa:=hp a _ (bC _) (aA ha)
 by_cases h':0<=t.nodes[a].parent
 .have hlt:t.nodes[a].parent.toNat<a:=aD
  have:=DT t.nodes t.nodes[a].parent.toNat a (t.nodes[a].parent.toNat+1) (λj m hj hm=>hp j m aD hm) hlt aD
  simp [Types.attrs,mG,aA ha,h',this]
 .simp [Types.attrs,mG,aA ha,h']
theorem JY (t:Types)(a:Int)(ha:a<0):Pure Tryz.prog 125 [t.d,dI a] (.list []):=by
 refine Tz.pK ⟨λt=>t==7,λr=>match r with|3=>[(0,1),(0,2),(0,3),(0,5),(0,6),(0,7),(0,8),(0,10),(9,10),(0,11),(9,11),(0,13),(9,13),(0,14),(9,14),(0,15),(9,15)]|_=>[]⟩ Tryz.func125 rfl (λQ hQ=>?_)
 have Y:=ha
 exact wv (h:=hQ _ _ wy)
theorem DA (t:Types)(ht:t.ok):∀ a:Nat,a<t.nodes.length->parentsOK t.nodes a->Pure Tryz.prog 125 [t.d,dI a] (.list ((t.attrs a).map Attr.c)):=by
 intro a
 induction a using Nat.strongRecOn with
 | _ a ih =>
 intro ha hp
 have hpa:=hp a _ (bC _) (aA ha)
 have hlen:=sA t.nodes (λn hn=>(ht.nodes n hn).few) (a+1) a
 have hfew:=ht.fewN
 have e:=C5 t a ha hp
 have hc:Pure Tryz.prog 125 [t.d,dI t.nodes[a].parent] (.list (((if 0<=t.nodes[a].parent then t.attrs t.nodes[a].parent.toNat else [])).map Attr.c)):=by
  by_cases h':0<=t.nodes[a].parent
  .rw [if_pos h']
   have:=ih t.nodes[a].parent.toNat aD aD (λj m hj hm=>hp j m aD hm)
   rwa [Int.toNat_of_nonneg h'] at this
  .rw [if_neg h']
   exact JY t _ aD
 have hl2:(if 0<=t.nodes[a].parent then t.attrs t.nodes[a].parent.toNat else []).length+t.nodes[a].attrs.length<=2000000:=by
  have h1:(t.attrs a).length<=1000 * (a+1):=hlen
  rw [e,aL] at h1
  omega
 rw [e]
 generalize (if 0<=t.nodes[a].parent then t.attrs t.nodes[a].parent.toNat else [])=u at *
 refine Tz.pK ⟨λt=>t==7,λr=>match r with|3=>[(0,1),(0,2),(0,3),(0,5),(0,6),(0,7),(0,8),(0,10),(9,10),(0,11),(9,11),(0,13),(9,13),(0,14),(9,14),(0,15),(9,15)]|_=>[]⟩ Tryz.func125 rfl (λQ hQ=>?_)
 have Y:=wa (aA ha) (wa ha ((show ¬ ((a:Int)<0) by omega)))
 refine wo (h:=aJ (hc) wl ?_)
 exact wo (h:=hQ _ _ wy)
theorem Dz (low high:Int):Pure Tryz.prog 278 [dI low,dI high] (.bool (boundedF low high)):=by
 refine Tz.pK ⟨λ_=>false,λ_=>[]⟩ Tryz.func278 rfl (λQ hQ=>?_)
 have Y:=trivial
 refine wo (h:=aB (nD _ _ _) wl ?_)
 refine wo (h:=aG (λhg=>nD _ _ _) (λhg=>wl) ?_)
 have Y:=wa Y (wa @boundedF.eq_1 @inF.eq_1)
 exact wo (h:=hQ _ _ wy)
theorem tF {α:Type}{l:List α}{p:α->Bool}{k i:Nat}(hk:k<i)(hl:k<l.length)(h:p l[k]=true):(l.take i).any p=true :=
 aX.2 ⟨l[k],DZ.2 ⟨k,aD,rfl⟩,h⟩
theorem rA {α:Type}{l:List α}{p:α->Bool}{k i:Nat}(h:(l.take k).any p=false)(he:k=i):(l.take i).any p=false:=by rw [<- he];exact h
def Al (l:List Attr)(k:Nat):Int:=match l[k]? with|some x=>dN x (l.take k)|none=>0
theorem Sg {l:List Attr}{k:Nat}(h:k<l.length):Al l k=if lW l[k].name=false then 2 else if ((l.take k).any λy=>decide (y.name=l[k].name))=true then 5 else DV l[k]:=by
 unfold Al;rw [aA h];rfl
theorem eZ (f:Nat->Int){k n:Nat}(h:k<n):bT f k (n - k)=if f k≠0 then f k else bT f (k+1) (n - (k+1)):=by
 rw [(aD:n - k=n - (k+1)+1),bT]
theorem BC (t:Types)(i:Nat)(hi:i<t.nodes.length):g5 t i =
  if lW t.nodes[i].name=false then 2
  else if ((t.nodes.take i).any λm=>decide (m.name=t.nodes[i].name))=true then 5
  else if (decide (t.nodes[i].parent < -1)||decide ((i:Int)<=t.nodes[i].parent))=true then 6
  else if 4<t.nodes[i].attrs.length then 3
  else if 8<(t.attrs i).length then 3
  else bT (Al (t.attrs i)) ((t.attrs i).length - t.nodes[i].attrs.length) t.nodes[i].attrs.length:=by
 unfold g5;rw [aA hi];rfl
theorem NX (t:Types)(ht:t.ok)(i:Nat)(hi:i<t.nodes.length)(hp:∀ j n,j<i->t.nodes[j]?=some n->n.parent<j):Pure Tryz.prog 195 [t.d,dI i] (dI (g5 t i)):=by
 have hno:=ht.nodes _ (aC hi)
 have hfew:=ht.fewN
 have hF:=BC t i hi
 have hok:∀ x∈t.attrs i,x.ok:=u4 t.nodes ht.nodes _ _
 have hal:=sA t.nodes (λn hn=>(ht.nodes n hn).few) (i+1) i
 have hle:t.nodes[i].attrs.length<=(t.attrs i).length:=by simp [Types.attrs,mG,aA hi]
 refine Tz.pK ⟨λt=>t==5,λ_=>[]⟩ Tryz.func195 rfl (λQ hQ=>?_)
 have Y:=wa (aA hi) hi
 refine wo (h:=aB (oM _ hno.name) wl ?_)
 refine fA (λh2=>?_) λh2=>?_
 .exact wv (h:=hQ _ _ (.inl (by simp [go_sem,hF,h2])))
 .refine wv (h:=bF (λk e H=>(e 1=dI i/\e 2=.adr t.c/\e 5=.ptr 0 1 0 0/\e 6=dI k)/\(H.get 0=some ⟨172,4,[t.nodes[i].c],false⟩)/\(0<H.next)/\(k<=i)/\(((t.nodes.take k).any λm=>decide (m.name=t.nodes[i].name))=false)) (λk=>i - k) 0 ⟨wg,wn,wn,wi,bV⟩ λI0 hI0 k e H hi0=>?_)
  obtain ⟨E0,g0_0,n0_0,hk,hne⟩:=hi0
  have Y:=wa Y (wa E0 (wa g0_0 (cD n0_0)))
  refine dP (λh5=>?_) λh5=>?_
  .have hkl:k<t.nodes.length:=aD
   have Y:=wa Y (wa h5 hkl)
   refine fA (λh7=>?_) λh7=>?_
   .exact wv (h:=hQ _ _ (.inl (by have hb:=tF (p:=λm:NodeTy=>decide (m.name=t.nodes[i].name)) h5 hkl (bW h7);rw [hF,if_neg (by simp [h2]),if_pos hb];simp [go_sem])))
   .exact wo (h:=wx hI0 (k+1) ⟨wg,wn,wn,wj,(by rw [dS _ _ _ hkl,hne];simpa using h7)⟩)
  .have hb:=rA hne (aD:k=i)
   refine wo (h:=aB (nD _ _ _) wl ?_)
   refine fA (λh9=>?_) λh9=>?_
   .exact wv (h:=hQ _ _ (.inl (by rw [hF,if_neg (by simp [h2]),if_neg (by simp [hb]),if_pos (by simp [inF] at h9;simp;omega)];simp [go_sem])))
   .have hr:¬ (decide (t.nodes[i].parent < -1)||decide ((i:Int)<=t.nodes[i].parent))=true:=by simp [inF] at h9;simp;omega
    have hpo:parentsOK t.nodes i:=λj n hj hn=>by
     rcases bZ j i with h|h
     .exact hp j n h hn
     .have:j=i:=aD
      subst this
      rw [aA hi] at hn
      cases hn;simp at hr;omega
    refine wv (h:=aB (DA t ht i hi hpo) wl ?_)
    refine fA (λh12=>?_) λh12=>?_
    .exact wv (h:=hQ _ _ (.inl (by rw [hF,if_neg (by simp [h2]),if_neg (by simp [hb]),if_neg hr];simp [go_sem];omega)))
    .have hF2:g5 t i=bT (Al (t.attrs i)) ((t.attrs i).length - t.nodes[i].attrs.length) t.nodes[i].attrs.length:=by rw [hF,if_neg (by simp [h2]),if_neg (by simp [hb]),if_neg hr,if_neg aD,if_neg aD]
     refine wo (h:=bF (λk e H=>(e 1=dI i/\e 2=.adr t.c/\e 7=.list ((t.attrs i).map Attr.c)/\e 8=dI k)/\(k<=(t.attrs i).length)/\(bT (Al (t.attrs i)) k ((t.attrs i).length - k)=g5 t i)) (λk=>(t.attrs i).length - k) ((t.attrs i).length - t.nodes[i].attrs.length) ⟨wg,aD,(by rw [hF2];congr 1;omega)⟩ λI2 hI2 k e H hi2=>?_)
     obtain ⟨E2,hk,hFk⟩:=hi2
     have Y:=wa Y E2
     refine fA (λh15=>?_) λh15=>?_
     .have hst:=eZ (Al (t.attrs i)) h15
      rw [hFk] at hst
      have hE:=Sg h15
      have Y:=wa Y h15
      refine wo (h:=aB (oM _ (hok _ (aC h15)).name) wl ?_)
      refine fA (λh17=>?_) λh17=>?_
      .refine wv (h:=?_)
       have hE2:Al (t.attrs i) k=2:=by rw [hE,if_pos (by simp [h17])]
       exact hQ _ _ (.inl (by rw [hst,hE2];simp [go_sem]))
      .refine wv (h:=bF (λj e H=>(e 1=dI i/\e 2=.adr t.c/\e 7=.list ((t.attrs i).map Attr.c)/\e 8=dI k/\e 9=dI j)/\(j<=k)/\((((t.attrs i).take j).any λy=>decide (y.name=(t.attrs i)[k].name))=false)) (λj=>k - j) 0 ⟨wg,wi,bV⟩ λI4 hI4 j e H hi4=>?_)
       obtain ⟨E4,hj,hne⟩:=hi4
       have Y:=wa Y E4
       refine dP (λh20=>?_) λh20=>?_
       .have hjl:j<(t.attrs i).length:=aD
        have Y:=wa Y (wa h20 hjl)
        refine fA (λh22=>?_) λh22=>?_
        .refine wv (h:=?_)
         have hb:=tF (p:=λy:Attr=>decide (y.name=(t.attrs i)[k].name)) h20 hjl (bW h22)
         have hE2:Al (t.attrs i) k=5:=by rw [hE,if_neg (by simp [h17]),if_pos hb]
         exact hQ _ _ (.inl (by rw [hst,hE2];simp [go_sem]))
        .exact wo (h:=wx hI4 (j+1) ⟨wg,wj,(by rw [dS _ _ _ hjl,hne];simpa using h22)⟩)
       .have hb2:=rA hne (aD:j=k)
        have hE2:Al (t.attrs i) k=DV (t.attrs i)[k]:=by rw [hE,if_neg (by simp [h17]),if_neg (by simp [hb2])]
        rw [hE2] at hst
        refine wo (h:=aB (Ec _ (hok _ (aC h15))) wl ?_)
        refine fA (λh25=>?_) λh25=>?_
        .exact wv (h:=hQ _ _ (.inl (by rw [hst,if_pos (bW h25)];simp [go_sem])))
        .exact wo (h:=wx hI2 (k+1) ⟨wg,wj,(by rw [if_neg (by simp [h25])] at hst;rw [<- hst])⟩)
     .exact wv (h:=hQ _ _ (.inl (by rw [<- hFk,(aD:(t.attrs i).length - k=0)];rfl)))
end Go.Abs
end
