/- Layer 4: types. · Layer 4: types, continued. · Layer 4: type -/
import Derived.Test.YthalajhajpjjeaaGreatZgAG
import Derived.Test.YthalajhajpjjeaaGreatZgAF
import Derived.Test.YthalajhajpjjeaaGreatZgAA
set_option linter.unusedVariables false
set_option linter.unusedSimpArgs false
section
set_option maxRecDepth 100000
set_option maxHeartbeats 4000000
open Go Go.Proofs
namespace Go.Abs
def Di {α:Type}(xs:List α)(p:α->Bool):Int:=match xs.findIdx? p with|some i=>i|none=>-1
theorem pW {α:Type}{xs:List α}{p:α->Bool}{i:Nat}(h:∀ j x,j<i->xs[j]?=some x->p x=false)(c:i<xs.length)(a:p xs[i]=true):Di xs p=i:=by
 have:xs.findIdx? p=some i:=by
  rw [i4]
  exact ⟨c,a,λj b=>by simp [h j _ b (aA aD)]⟩
 simp [Di,this]
theorem pX {α:Type}{xs:List α}{p:α->Bool}(h:∀ j x,j<xs.length->xs[j]?=some x->p x=false):Di xs p = -1:=by
 have:xs.findIdx? p=none:=by
  rw [r6]
  intro x b
  obtain ⟨j,a,rfl⟩:=aO b
  exact h j _ a (aA a)
 simp [Di,this]
theorem sL {α:Type}(xs:List α)(p:α->Bool):decide (0<=Di xs p)=xs.any p:=by
 unfold Di
 cases h:xs.findIdx? p with
 | none =>
  rw [r6] at h
  have:xs.any p=false:=by simpa using h
  simp [this]
 | some i =>
  rw [i4] at h
  obtain ⟨b,a,_⟩:=h
  have:xs.any p=true:=aX.2 ⟨xs[i],aC b,a⟩
  simp [this]
theorem GD (xs:List Attr)(g:FuncId)(caps:List D)(p:Attr->Bool)(hc:D.clL caps=true)(hg:∀ x∈xs,Pure Tryz.prog g (.agg x.c :: caps) (.bool (p x))) :
  Pure Tryz.prog 419 [.list (xs.map Attr.c),.fn g caps] (dI (Di xs p)):=by
 refine aT (aJ (cfg:=⟨λ_=>false,λ_=>[]⟩) Tz.mixed Tryz.func419 rfl rfl (aF rfl) (by kernel_rfl) ?_)
 simp [go_sem,seval,dI,dLI]
 intro hlen
 refine fQ (ι:=Nat) (λi e H=>H=.emp/\i<=xs.length/\e 0=.list (xs.map Attr.c)/\e 1=.fn g caps/\e 7=dI xs.length/\e 8=dI i/\(∀ j x,j<i->xs[j]?=some x->p x=false)) (λi=>xs.length - i) 0 (by simp [go_sem,seval,dI,dLI]) ?_
 intro i e H ⟨hH,hi,h0,h1,h7,h8,hn⟩
 subst hH
 simp [go_sem,seval,h0,h1,h7,h8,dI,dLI]
 refine f7 (λhlt=>?_) (λhge=>?_)
 .have hgx:=hg xs[i] (aC hlt)
  simp [go_sem,seval,h0,h1,h7,h8,dI,dLI,hlt,Attr.c] at hgx ⊢
  refine aB hgx (by simp [go_sem,hc]) ?_
  simp [go_sem,seval,h0,h1,h7,h8,dI,dLI]
  refine aP (λh=>?_) (λh=>?_)
  .simp [go_sem,seval,h0,h1,h7,h8,dI,dLI]
   rw [pW hn hlt h]
  .simp [go_sem,seval,h0,h1,h7,h8,dI,dLI]
   refine ⟨dD aD aD,i+1,aD,aD,aD,λj x hj hx=>?_⟩
   rcases b6 j i with hj'|hj'
   .exact hn j x hj' hx
   .have:j=i:=aD
    subst this
    rw [aA hlt] at hx
    cases hx;exact h
 .simp [go_sem,seval,h0,h1,h7,h8,dI,dLI]
  rw [pX λj x hj=>hn j x aD]
theorem Cw (xs:List Attr)(g:FuncId)(caps:List D)(p:Attr->Bool)(hc:D.clL caps=true)(hl:D.cl (.list (xs.map Attr.c))=true)(hg:∀ x∈xs,Pure Tryz.prog g (.agg x.c :: caps) (.bool (p x))) :
  Pure Tryz.prog 364 [.list (xs.map Attr.c),.fn g caps] (.bool (xs.any p)):=by
 refine aT (aJ (cfg:=⟨λ_=>false,λ_=>[]⟩) Tz.mixed Tryz.func364 rfl rfl (aF rfl) (by kernel_rfl) ?_)
 simp [go_sem,seval]
 refine aB (GD xs g caps p hc hg) (by simp only [D.clL,hl,gM];simp [D.cl,hc]) ?_
 simp [go_sem,seval,dI,sL]
theorem sS (l:List Attr):D.clLL (l.map Attr.c)=true:=dK _ Attr.cl l
def nI (l:List ByteArray):List ByteArray->Int
 | []=>0
 | s :: r=>if mA s=false then 2 else if mem l s=true then 5 else nI (l++[s]) r
def n3 (l:List ByteArray):Int:=if 20<l.length then 3 else nI [] l
theorem Lu (l:List ByteArray)(hs:∀ s∈l,s.size<=100000):Pure Tryz.prog 366 [s9 l] (dI (n3 l)):=by
 refine aT (aJ (cfg:=⟨λ_=>false,λ_=>[]⟩) Tz.mixed Tryz.func366 rfl rfl (aF rfl) (by kernel_rfl) ?_)
 simp [go_sem,seval,dI,s9]
 intro hlen
 refine aP (λh=>?_) (λh=>?_)
 .simp at h
  simp [go_sem,seval,n3,(aD:20<l.length)]
 .simp at h
  simp [go_sem,seval,n3,(aD:¬ 20<l.length)]
  intro hlen2
  refine fQ (ι:=Nat) (λi e H=>H=.emp/\i<=l.length/\e 0=s9 l/\e 8=s9 l/\e 9=dI l.length/\e 10=dI i/\nI (l.take i) (l.drop i)=nI [] l) (λi=>l.length - i) 0 (by simp [go_sem,seval,dI,s9]) ?_
  intro i e H ⟨hH,hi,h0,h8,h9,h10,hn⟩
  subst hH
  simp [go_sem,seval,h0,h8,h9,h10,dI,s9]
  refine f7 (λhlt=>?_) (λhge=>?_)
  .rw [eE hlt] at hn
   have hsz:=hs _ (aC hlt)
   simp [go_sem,seval,h0,h8,h9,h10,dI,s9,hlt,cS]
   refine aB (oU _ hsz) rfl ?_
   simp [go_sem,seval]
   refine aP (λhc=>?_) (λhc=>?_)
   .simp at hc
    simp [go_sem,seval]
    rw [<- hn];simp [nI,hc]
   .simp at hc
    simp [go_sem,seval,h0,h8,h9,h10,dI,s9]
    have hcs:=Cs (l.take i) l[i]
    simp only [s9,List.map_take] at hcs
    have hcl:D.clLL (List.take i (List.map cS l))=true:=by rw [<- List.map_take];exact dK cS (λ_=>rfl) _
    refine ⟨⟨hi,by cases l<;>simp [cS]⟩,aB hcs (by simp [D.clL,D.cl,hcl]) ?_⟩
    simp [go_sem,seval,h0,h8,h9,h10,dI,s9]
    refine aP (λhm=>?_) (λhm=>?_)
    .simp [go_sem,seval]
     rw [<- hn];simp [nI,hc,hm]
    .simp [go_sem,seval,h0,h8,h9,h10,dI,s9]
     refine ⟨dD aD aD,i+1,aD,aD,aD,?_⟩
     rw [<- hn,nI,if_neg (by simp [hc]),if_neg (by simp [hm]),aE hlt]
  .simp [go_sem,seval,h0,h8,h9,h10,dI,s9]
   rw [<- hn,(aD:i=l.length)];simp [nI]
theorem CS (x y:Attr):Pure Tryz.prog 365 [.agg y.c,.adr x.c] (.bool (decide (y.name=x.name))):=by
 refine aT (aJ (cfg:=⟨λ_=>false,λ_=>[]⟩) Tz.mixed Tryz.func365 rfl rfl (aF rfl) (by kernel_rfl) ?_)
 simp [go_sem,seval,Attr.c,dI,s9]
structure Attr.ok (x:Attr):Prop where
 name:x.name.size<=100000
 names:∀ s∈x.names,s.size<=100000
 few:x.names.length<=1000
def dN (x:Attr)(before:List Attr):Int :=
 if mA x.name=false then 2
 else if (before.any λy=>decide (y.name=x.name))=true then 5
 else if n3 x.names≠0 then n3 x.names
 else if (if 0<x.names.length then decide (x.low=0)&&decide (x.high=x.names.length - 1) else decide (-1000000<=x.low)&&decide (x.low<=x.high)&&decide (x.high<=1000000))=true then 0 else 6
theorem Es (x:Attr)(before:List Attr)(hx:x.ok):Pure Tryz.prog 299 [.agg x.c,.list (before.map Attr.c)] (dI (dN x before)):=by
 refine aT (aJ (cfg:=⟨λ_=>false,λ_=>[]⟩) Tz.mixed Tryz.func299 rfl rfl (aF rfl) (by kernel_rfl) ?_)
 simp [go_sem,seval,dI,s9,Attr.c]
 refine aB (oU _ hx.name) rfl ?_
 simp [go_sem,seval]
 refine aP (λhn=>?_) (λhn=>?_)
 .simp at hn
  simp [go_sem,seval,dN,hn]
 .simp at hn
  simp [go_sem,seval]
  have hc:=Cw before 365 [.adr x.c] (λy=>decide (y.name=x.name)) (by simp [D.clL,D.cl,Attr.cl]) (by simp [D.cl,sS]) (λy _=>CS x y)
  simp only [Attr.c,dI,s9] at hc
  have hcS:D.clLL (List.map cS x.names)=true:=dK cS (λ_=>rfl) _
  refine aB hc (by simp [D.clL,D.cl,sS,hcS]) ?_
  simp [go_sem,seval]
  refine aP (λhb=>?_) (λhb=>?_)
  .simp [go_sem,seval,dN,hn,hb]
  .simp [go_sem,seval]
   have hnm:=Lu x.names hx.names
   simp only [s9,dI] at hnm
   refine aB hnm (by simp [D.clL,D.cl,hcS]) ?_
   simp [go_sem,seval]
   have hfew:=hx.few
   refine aP (λhz=>?_) (λhz=>?_)
   .simp at hz
    simp [go_sem,seval,dN,hn,hb,hz]
   .simp at hz
    simp [go_sem,seval]
    intro hlen
    refine aP (λhp=>?_) (λhp=>?_)
    .have hp':0<x.names.length:=by simp at hp;omega
     simp [go_sem,seval]
     refine λ_=>⟨λ_=>dD aD aD,aP (λho=>?_) (λho=>?_)⟩
     .have e:dN x before=6:=by unfold dN;rw [if_neg (by simp [hn]),if_neg (by simp [hb]),if_neg (by simp [hz]),if_pos hp',if_neg (by simp at ho ⊢;omega)]
      simp [go_sem,seval,e]
     .have e:dN x before=0:=by unfold dN;rw [if_neg (by simp [hn]),if_neg (by simp [hb]),if_neg (by simp [hz]),if_pos hp',if_pos (by simp at ho ⊢;omega)]
      simp [go_sem,seval,e]
    .have hp':¬ 0<x.names.length:=by simp at hp;simp [hp]
     simp [go_sem,seval]
     refine aP (λho=>?_) (λho=>?_)
     .have e:dN x before=6:=by unfold dN;rw [if_neg (by simp [hn]),if_neg (by simp [hb]),if_neg (by simp [hz]),if_neg hp',if_neg (by simp at ho ⊢;omega)]
      simp [go_sem,seval,e]
     .have e:dN x before=0:=by unfold dN;rw [if_neg (by simp [hn]),if_neg (by simp [hb]),if_neg (by simp [hz]),if_neg hp',if_pos (by simp at ho ⊢;omega)]
      simp [go_sem,seval,e]
structure NodeTy.ok (n:NodeTy):Prop where
 name:n.name.size<=100000
 attrs:∀ x∈n.attrs,x.ok
 few:n.attrs.length<=1000
structure EdgeTy.ok (x:EdgeTy):Prop where
 name:x.name.size<=100000
structure Types.ok (t:Types):Prop where
 nodes:∀ n∈t.nodes,n.ok
 edges:∀ x∈t.edges,x.ok
 fewN:t.nodes.length<=1000
 fewE:t.edges.length<=1000
def mS (nodes:List NodeTy):Nat->Nat->List Attr
 | 0,_=>[]
 | f+1,a=>match nodes[a]? with
  | none=>[]
  | some n=>(if 0<=n.parent then mS nodes f n.parent.toNat else [])++n.attrs
def Types.attrs (t:Types)(a:Nat):List Attr:=mS t.nodes (a+1) a
theorem sU (nodes:List NodeTy)(h:∀ n∈nodes,n.attrs.length<=1000):∀ f a,(mS nodes f a).length<=1000 * f
 | 0,a=>by simp [mS]
 | f+1,a=>by
  unfold mS
  split
  .simp
  .rename_i n hn
   have:=h n (aK hn)
   have h2:=sU nodes h f n.parent.toNat
   simp only [aL]
   split<;>simp<;>omega
@[go_sem] theorem Attr.len (a:Attr):a.c.length=4:=rfl
theorem Attr.cells (a:Attr):∀ x∈a.c,x.cell=true:=by simp [Attr.c,D.cell,dI,s9]
def parentsOK (nodes:List NodeTy)(a:Nat):Prop:=∀ j n,j<=a->nodes[j]?=some n->n.parent<j
theorem Eg (nodes:List NodeTy):∀ a f g,parentsOK nodes a->a<f->a<g->mS nodes f a=mS nodes g a:=by
 intro a
 induction a using Nat.strongRecOn with
 | _ a ih =>
  intro f g hp hf hg
  obtain ⟨f,rfl⟩:∃ f',f=f'+1:=⟨f - 1,aD⟩
  obtain ⟨g,rfl⟩:∃ g',g=g'+1:=⟨g - 1,aD⟩
  unfold mS
  split
  .rfl
  .rename_i n hn
   have:=hp a n (bC _) hn
   congr 1
   split
   .exact ih n.parent.toNat aD f g (λj m hj hm=>hp j m aD hm) aD aD
   .rfl
theorem DG (t:Types)(ht:t.ok):∀ a,a<t.nodes.length->parentsOK t.nodes a->Own Tryz.prog 298 [t.d,dI a] 118 4 ((t.attrs a).map Attr.c):=by
 intro a
 induction a using Nat.strongRecOn with
 | _ a ih =>
  intro ha hp
  have hpa:=hp a _ (bC _) (aA ha)
  have hlen:=sU t.nodes (λn hn=>(ht.nodes n hn).few) (a+1) a
  have hfew:=ht.fewN
  have hna:=(ht.nodes _ (aC ha)).few
  refine B0 (aJ (cfg:=⟨λt=>t==5,λ_=>[]⟩) Tz.mixed Tryz.func298 rfl rfl (aF rfl) (by kernel_rfl) ?_)
  simp [go_sem,seval,dI,Types.d,Types.c,NodeTy.c,aA ha,ha]
  refine aP (λh=>?_) (λh=>?_)
  .have h':0<=t.nodes[a].parent:=by simpa using h
   have hlt:t.nodes[a].parent.toNat<a:=aD
   have hc:=ih _ hlt aD (λj m hj hm=>hp j m aD hm)
   rw [Int.toNat_of_nonneg h'] at hc
   have e:t.attrs a=t.attrs t.nodes[a].parent.toNat++t.nodes[a].attrs:=by
    have:=Eg t.nodes t.nodes[a].parent.toNat a (t.nodes[a].parent.toNat+1) (λj m hj hm=>hp j m aD hm) hlt aD
    simp [Types.attrs,mS,aA ha,h',this]
   have hlen2:=sU t.nodes (λn hn=>(ht.nodes n hn).few) (t.nodes[a].parent.toNat+1) t.nodes[a].parent.toNat
   have hl3:(t.attrs t.nodes[a].parent.toNat).length<=2000000:=by
    have:(t.attrs t.nodes[a].parent.toNat).length<=1000 * (t.nodes[a].parent.toNat+1):=hlen2
    omega
   simp [go_sem,seval,dI,Types.d,Types.c,NodeTy.c,aA ha,ha] at hc ⊢
   refine lY hc (by simp [D.clL,D.cl,dK _ NodeTy.cl,dK _ EdgeTy.cl]) ?_
   simp [go_sem,seval,dI,Types.d,Types.c,NodeTy.c,aA ha,ha,e,sS]
   exact ⟨⟨aD,λx _ y hy=>Attr.cells x y hy⟩,by rw [<- List.map_append];exact sS _⟩
  .have h':¬ 0<=t.nodes[a].parent:=by simpa using h
   have e:t.attrs a=t.nodes[a].attrs:=by simp [Types.attrs,mS,aA ha,h']
   simp [go_sem,seval,dI,Types.d,Types.c,NodeTy.c,aA ha,ha,e,sS]
   exact ⟨aD,λx _ y hy=>Attr.cells x y hy⟩
attribute [go_sem] sS
@[go_sem] theorem YF (l:List ByteArray):D.clLL (l.map cS)=true:=dK cS (λ_=>rfl) l
theorem GA (xs:List NodeTy)(g:FuncId)(caps:List D)(p:NodeTy->Bool)(hc:D.clL caps=true)(hg:∀ x∈xs,Pure Tryz.prog g (.agg x.c :: caps) (.bool (p x))) :
  Pure Tryz.prog 363 [.list (xs.map NodeTy.c),.fn g caps] (dI (Di xs p)):=by
 refine aT (aJ (cfg:=⟨λ_=>false,λ_=>[]⟩) Tz.mixed Tryz.func363 rfl rfl (aF rfl) (by kernel_rfl) ?_)
 simp [go_sem,seval,dI,dLI]
 intro hlen
 refine fQ (ι:=Nat) (λi e H=>H=.emp/\i<=xs.length/\e 0=.list (xs.map NodeTy.c)/\e 1=.fn g caps/\e 7=dI xs.length/\e 8=dI i/\(∀ j x,j<i->xs[j]?=some x->p x=false)) (λi=>xs.length - i) 0 (by simp [go_sem,seval,dI,dLI]) ?_
 intro i e H ⟨hH,hi,h0,h1,h7,h8,hn⟩
 subst hH
 simp [go_sem,seval,h0,h1,h7,h8,dI,dLI]
 refine f7 (λhlt=>?_) (λhge=>?_)
 .have hgx:=hg xs[i] (aC hlt)
  simp [go_sem,seval,h0,h1,h7,h8,dI,dLI,hlt,NodeTy.c] at hgx ⊢
  refine aB hgx (by simp [go_sem,hc]) ?_
  simp [go_sem,seval,h0,h1,h7,h8,dI,dLI]
  refine aP (λh=>?_) (λh=>?_)
  .simp [go_sem,seval,h0,h1,h7,h8,dI,dLI]
   rw [pW hn hlt h]
  .simp [go_sem,seval,h0,h1,h7,h8,dI,dLI]
   refine ⟨dD aD aD,i+1,aD,aD,aD,λj x hj hx=>?_⟩
   rcases b6 j i with hj'|hj'
   .exact hn j x hj' hx
   .have:j=i:=aD
    subst this
    rw [aA hlt] at hx
    cases hx;exact h
 .simp [go_sem,seval,h0,h1,h7,h8,dI,dLI]
  rw [pX λj x hj=>hn j x aD]
theorem Ct (xs:List NodeTy)(g:FuncId)(caps:List D)(p:NodeTy->Bool)(hc:D.clL caps=true)(hl:D.cl (.list (xs.map NodeTy.c))=true)(hg:∀ x∈xs,Pure Tryz.prog g (.agg x.c :: caps) (.bool (p x))) :
  Pure Tryz.prog 296 [.list (xs.map NodeTy.c),.fn g caps] (.bool (xs.any p)):=by
 refine aT (aJ (cfg:=⟨λ_=>false,λ_=>[]⟩) Tz.mixed Tryz.func296 rfl rfl (aF rfl) (by kernel_rfl) ?_)
 simp [go_sem,seval]
 refine aB (GA xs g caps p hc hg) (by simp only [D.clL,hl,gM];simp [D.cl,hc]) ?_
 simp [go_sem,seval,dI,sL]
theorem GB (xs:List EdgeTy)(g:FuncId)(caps:List D)(p:EdgeTy->Bool)(hc:D.clL caps=true)(hg:∀ x∈xs,Pure Tryz.prog g (.agg x.c :: caps) (.bool (p x))) :
  Pure Tryz.prog 367 [.list (xs.map EdgeTy.c),.fn g caps] (dI (Di xs p)):=by
 refine aT (aJ (cfg:=⟨λ_=>false,λ_=>[]⟩) Tz.mixed Tryz.func367 rfl rfl (aF rfl) (by kernel_rfl) ?_)
 simp [go_sem,seval,dI,dLI]
 intro hlen
 refine fQ (ι:=Nat) (λi e H=>H=.emp/\i<=xs.length/\e 0=.list (xs.map EdgeTy.c)/\e 1=.fn g caps/\e 7=dI xs.length/\e 8=dI i/\(∀ j x,j<i->xs[j]?=some x->p x=false)) (λi=>xs.length - i) 0 (by simp [go_sem,seval,dI,dLI]) ?_
 intro i e H ⟨hH,hi,h0,h1,h7,h8,hn⟩
 subst hH
 simp [go_sem,seval,h0,h1,h7,h8,dI,dLI]
 refine f7 (λhlt=>?_) (λhge=>?_)
 .have hgx:=hg xs[i] (aC hlt)
  simp [go_sem,seval,h0,h1,h7,h8,dI,dLI,hlt,EdgeTy.c] at hgx ⊢
  refine aB hgx (by simp [go_sem,hc]) ?_
  simp [go_sem,seval,h0,h1,h7,h8,dI,dLI]
  refine aP (λh=>?_) (λh=>?_)
  .simp [go_sem,seval,h0,h1,h7,h8,dI,dLI]
   rw [pW hn hlt h]
  .simp [go_sem,seval,h0,h1,h7,h8,dI,dLI]
   refine ⟨dD aD aD,i+1,aD,aD,aD,λj x hj hx=>?_⟩
   rcases b6 j i with hj'|hj'
   .exact hn j x hj' hx
   .have:j=i:=aD
    subst this
    rw [aA hlt] at hx
    cases hx;exact h
 .simp [go_sem,seval,h0,h1,h7,h8,dI,dLI]
  rw [pX λj x hj=>hn j x aD]
theorem Cu (xs:List EdgeTy)(g:FuncId)(caps:List D)(p:EdgeTy->Bool)(hc:D.clL caps=true)(hl:D.cl (.list (xs.map EdgeTy.c))=true)(hg:∀ x∈xs,Pure Tryz.prog g (.agg x.c :: caps) (.bool (p x))) :
  Pure Tryz.prog 301 [.list (xs.map EdgeTy.c),.fn g caps] (.bool (xs.any p)):=by
 refine aT (aJ (cfg:=⟨λ_=>false,λ_=>[]⟩) Tz.mixed Tryz.func301 rfl rfl (aF rfl) (by kernel_rfl) ?_)
 simp [go_sem,seval]
 refine aB (GB xs g caps p hc hg) (by simp only [D.clL,hl,gM];simp [D.cl,hc]) ?_
 simp [go_sem,seval,dI,sL]
@[go_sem] theorem vD (l:List NodeTy):D.clLL (l.map NodeTy.c)=true:=dK _ NodeTy.cl l
@[go_sem] theorem vK (l:List EdgeTy):D.clLL (l.map EdgeTy.c)=true:=dK _ EdgeTy.cl l
theorem Lt (x y:NodeTy):Pure Tryz.prog 297 [.agg y.c,.adr x.c] (.bool (decide (y.name=x.name))):=by
 refine aT (aJ (cfg:=⟨λ_=>false,λ_=>[]⟩) Tz.mixed Tryz.func297 rfl rfl (aF rfl) (by kernel_rfl) ?_)
 simp [go_sem,seval,NodeTy.c,dI,s9]
theorem vT (nodes:List NodeTy)(h:∀ n∈nodes,n.ok):∀ f a,∀ x∈mS nodes f a,x.ok
 | 0,a,x,hx=>by simp [mS] at hx
 | f+1,a,x,hx=>by
  unfold mS at hx
  split at hx
  .simp at hx
  .rename_i n hn
   rcases aW.1 hx with hx|hx
   .split at hx
    .exact vT nodes h f _ x hx
    .simp at hx
   .exact (h n (aK hn)).attrs x hx
def bQ (f:Nat->Int):Nat->Nat->Int
 | _,0=>0
 | k,n+1=>if f k≠0 then f k else bQ f (k+1) n
def g8 (t:Types)(i:Nat):Int :=
 match t.nodes[i]? with
 | none=>0
 | some n =>
  if mA n.name=false then 2
  else if ((t.nodes.take i).any λm=>decide (m.name=n.name))=true then 5
  else if (decide (n.parent < -1)||decide ((i:Int)<=n.parent))=true then 6
  else if 4<n.attrs.length then 3
  else if 8<(t.attrs i).length then 3
  else bQ (λk=>match (t.attrs i)[k]? with|some x=>dN x ((t.attrs i).take k)|none=>0) ((t.attrs i).length - n.attrs.length) n.attrs.length
theorem NU (t:Types)(ht:t.ok)(i:Nat)(hi:i<t.nodes.length)(hp:∀ j n,j<i->t.nodes[j]?=some n->n.parent<j):Pure Tryz.prog 219 [t.d,dI i] (dI (g8 t i)):=by
 have hno:=ht.nodes _ (aC hi)
 refine aT (aJ (cfg:=⟨λt=>t==5,λ_=>[]⟩) Tz.mixed Tryz.func219 rfl rfl (aF rfl) (by kernel_rfl) ?_)
 simp [go_sem,seval,dI,Types.d,Types.c,NodeTy.c,aA hi,hi]
 refine aB (oU _ hno.name) rfl ?_
 simp [go_sem,seval]
 refine aP (λhn=>?_) (λhn=>?_)
 .simp at hn
  simp [go_sem,seval,g8,aA hi,hn]
 .simp at hn
  simp [go_sem,seval]
  have hc:=Ct (t.nodes.take i) 297 [.adr t.nodes[i].c] (λy=>decide (y.name=t.nodes[i].name)) (by simp [D.clL,D.cl,NodeTy.cl]) (by rw [D.cl];exact vD _) (λy _=>Lt t.nodes[i] y)
  refine ⟨⟨aD,by cases t.nodes<;>simp [NodeTy.c]⟩,t6 hc (by simp [FI,C2,fK,go_sem,NodeTy.c,dI,List.map_take]) (by simp only [D.clL,D.cl,vD,NodeTy.cl];rfl) rfl ?_⟩
  simp [go_sem,seval]
  refine aP (λhb=>?_) (λhb=>?_)
  .simp [go_sem,seval,g8,aA hi,hn,hb]
  .simp [go_sem,seval,NodeTy.c,dI]
   refine aP (λhr=>?_) (λhr=>?_)
   .have hr':(decide (t.nodes[i].parent < -1)||decide ((i:Int)<=t.nodes[i].parent))=true:=by simpa using hr
    simp [go_sem,seval]
    have e:g8 t i=6:=by simp only [g8,aA hi];rw [if_neg (by simp [hn]),if_neg (by simp [hb]),if_pos hr']
    simp [e]
   .simp at hr
    simp [go_sem,seval]
    have hr':¬ (decide (t.nodes[i].parent < -1)||decide ((i:Int)<=t.nodes[i].parent))=true:=by simp;omega
    intro hlen
    refine aP (λh4=>?_) (λh4=>?_)
    .have h4':4<t.nodes[i].attrs.length:=by simp at h4;omega
     simp [go_sem,seval]
     have e:g8 t i=3:=by simp only [g8,aA hi];rw [if_neg (by simp [hn]),if_neg (by simp [hb]),if_neg hr',if_pos h4']
     simp [e]
    .have h4':¬ 4<t.nodes[i].attrs.length:=by simp at h4;omega
     simp [go_sem,seval]
     have hpo:parentsOK t.nodes i:=λj n hj hn'=>by
      rcases b6 j i with h|h
      .exact hp j n h hn'
      .have:j=i:=aD
       subst this
       rw [aA hi] at hn'
       cases hn';omega
     have hat:=DG t ht i hi hpo
     simp only [Types.d,Types.c,dI] at hat
     refine aB hat.pure (by simp [D.clL,D.cl,vD,vK]) ?_
     simp [go_sem,seval,NodeTy.c,dI]
     intro hlen2
     refine aP (λh8=>?_) (λh8=>?_)
     .have h8':8<(t.attrs i).length:=by simp at h8;omega
      simp [go_sem,seval]
      have e:g8 t i=3:=by simp only [g8,aA hi];rw [if_neg (by simp [hn]),if_neg (by simp [hb]),if_neg hr',if_neg h4',if_pos h8']
      simp [e]
     .have h8':¬ 8<(t.attrs i).length:=by simp at h8;omega
      have e:g8 t i=bQ (λk=>match (t.attrs i)[k]? with|some x=>dN x ((t.attrs i).take k)|none=>0) ((t.attrs i).length - t.nodes[i].attrs.length) t.nodes[i].attrs.length:=by
       simp only [g8,aA hi];rw [if_neg (by simp [hn]),if_neg (by simp [hb]),if_neg hr',if_neg h4',if_neg h8']
      have hle:t.nodes[i].attrs.length<=(t.attrs i).length:=by simp [Types.attrs,mS,aA hi]
      have hok:∀ x∈t.attrs i,x.ok:=vT t.nodes ht.nodes _ _
      simp [go_sem,seval,NodeTy.c,dI]
      refine λ_ _=>⟨dD aD aD,?_⟩
      refine fQ (ι:=Nat) (λk e H=>k<=(t.attrs i).length/\e 6=.list ((t.attrs i).map Attr.c)/\e 7=dI k /\
       bQ (λk=>match (t.attrs i)[k]? with|some x=>dN x ((t.attrs i).take k)|none=>0) k ((t.attrs i).length - k)=g8 t i) (λk=>(t.attrs i).length - k) ((t.attrs i).length - t.nodes[i].attrs.length) ?_ ?_
      .simp [go_sem,seval,dI]
       refine ⟨aD,?_⟩
       rw [e];congr 1;omega
      .intro k e' H ⟨hk,h6,h7,hF⟩
       simp [go_sem,seval,h6,h7,dI]
       intro hlen3
       refine f7 (λhlt=>?_) (λhge=>?_)
       .simp [go_sem,seval,h6,h7,dI,hlt,Attr.c]
        have hta:=Es (t.attrs i)[k] ((t.attrs i).take k) (hok _ (aC hlt))
        simp only [Attr.c,dI,List.map_take] at hta
        have hcl:D.clLL (List.take k (List.map Attr.c (t.attrs i)))=true:=by rw [<- List.map_take];exact sS _
        refine ⟨⟨hk,by cases t.attrs i<;>simp [Attr.c]⟩,aI hta (by simp [D.clL,D.cl,hcl,SH]) ?_⟩
        have hstep:bQ (λk=>match (t.attrs i)[k]? with|some x=>dN x ((t.attrs i).take k)|none=>0) k ((t.attrs i).length - k) =
          if dN (t.attrs i)[k] ((t.attrs i).take k)≠0 then dN (t.attrs i)[k] ((t.attrs i).take k) else bQ (λk=>match (t.attrs i)[k]? with|some x=>dN x ((t.attrs i).take k)|none=>0) (k+1) ((t.attrs i).length - (k+1)):=by
         rw [(aD:(t.attrs i).length - k=(t.attrs i).length - (k+1)+1),bQ,aA hlt]
        rw [hstep] at hF
        simp [go_sem,seval]
        refine aP (λhz=>?_) (λhz=>?_)
        .have hz':dN (t.attrs i)[k] ((t.attrs i).take k)≠0:=by simpa using hz
         rw [if_pos hz'] at hF
         simp [go_sem,seval,hF]
        .have hz':¬ dN (t.attrs i)[k] ((t.attrs i).take k)≠0:=by simpa using hz
         rw [if_neg hz'] at hF
         simp [go_sem,seval,h6,h7,dI]
         exact ⟨dD aD aD,k+1,aD,aD,aD,hF⟩
       .simp [go_sem,seval]
        rw [<- hF,(aD:(t.attrs i).length - k=0)];rfl
def boundedF (low high:Int):Bool:=(decide (0<=low)&&decide (low<=40))&&(decide (high = -1)||(decide (low<=high)&&decide (high<=40)))
theorem Ht (low high:Int):Pure Tryz.prog 303 [dI low,dI high] (.bool (boundedF low high)):=by
 refine aT (aJ (cfg:=⟨λ_=>false,λ_=>[]⟩) Tz.mixed Tryz.func303 rfl rfl (aF rfl) (by kernel_rfl) ?_)
 simp [go_sem,seval,dI,boundedF]
 try omega
theorem Lw (t:Types)(a:Int):Pure Tryz.prog 300 [dI a,.adr t.c] (.bool (decide (0<=a)&&decide (a<t.nodes.length))):=by
 refine aT (aJ (cfg:=⟨λ_=>false,λ_=>[]⟩) Tz.mixed Tryz.func300 rfl rfl (aF rfl) (by kernel_rfl) ?_)
 simp [go_sem,seval,dI,Types.c]
theorem Lv (x y:EdgeTy):Pure Tryz.prog 302 [.agg y.c,.adr x.c] (.bool (decide (y.name=x.name))):=by
 refine aT (aJ (cfg:=⟨λ_=>false,λ_=>[]⟩) Tz.mixed Tryz.func302 rfl rfl (aF rfl) (by kernel_rfl) ?_)
 simp [go_sem,seval,EdgeTy.c,dI]
def insideF (t:Types)(a:Int):Bool:=decide (0<=a)&&decide (a<t.nodes.length)
def jY (t:Types)(i:Nat):Int :=
 match t.edges[i]? with
 | none=>0
 | some x =>
  if mA x.name=false then 2
  else if ((t.edges.take i).any λy=>decide (y.name=x.name))=true then 5
  else if (insideF t x.from_&&insideF t x.to_&&boundedF x.outLow x.outHigh&&boundedF x.inLow x.inHigh)=true then 0 else 6
theorem NW (t:Types)(ht:t.ok)(i:Nat)(hi:i<t.edges.length):Pure Tryz.prog 220 [t.d,dI i] (dI (jY t i)):=by
 have hno:=ht.edges _ (aC hi)
 have hcN:D.clLL (List.map NodeTy.c t.nodes)=true:=vD _
 have hcE:D.clLL (List.map EdgeTy.c t.edges)=true:=vK _
 have hin:∀ a:Int,Pure Tryz.prog 300 [.int .i64 a,.adr [.list (t.nodes.map NodeTy.c),.list (t.edges.map EdgeTy.c)]] (.bool (insideF t a)):=Lw t
 have hbd:∀ a b:Int,Pure Tryz.prog 303 [.int .i64 a,.int .i64 b] (.bool (boundedF a b)):=Ht
 refine aT (aJ (cfg:=⟨λt=>t==5,λ_=>[]⟩) Tz.mixed Tryz.func220 rfl rfl (aF rfl) (by kernel_rfl) ?_)
 simp [go_sem,seval,dI,Types.d,Types.c,EdgeTy.c,aA hi,hi]
 refine aB (oU _ hno.name) rfl ?_
 simp [go_sem,seval]
 refine aP (λhn=>?_) (λhn=>?_)
 .simp at hn
  simp [go_sem,seval,jY,aA hi,hn]
 .simp at hn
  simp [go_sem,seval]
  have hc:=Cu (t.edges.take i) 302 [.adr t.edges[i].c] (λy=>decide (y.name=t.edges[i].name)) (by simp [D.clL,D.cl,EdgeTy.cl]) (by rw [D.cl];exact vK _) (λy _=>Lv t.edges[i] y)
  refine ⟨⟨aD,by cases t.edges<;>simp [EdgeTy.c]⟩,t6 hc (by simp [FI,C2,fK,go_sem,EdgeTy.c,dI,List.map_take]) (by simp only [D.clL,D.cl,vK,EdgeTy.cl];rfl) rfl ?_⟩
  simp [go_sem,seval]
  refine aP (λhb=>?_) (λhb=>?_)
  .simp [go_sem,seval,jY,aA hi,hn,hb]
  .simp [go_sem,seval,EdgeTy.c,dI]
   refine aB (hin _) (by simp [D.clL,D.cl,hcN,hcE]) ?_
   simp [go_sem,seval,EdgeTy.c,dI]
   refine aH (λ_=>hin _) (λ_=>by simp [D.clL,D.cl,hcN,hcE]) ?_
   simp [go_sem,seval,EdgeTy.c,dI]
   refine aP (λh1=>?_) (λh1=>?_)
   .have e:jY t i=6:=by
     simp only [jY,aA hi];rw [if_neg (by simp [hn]),if_neg (by simp [hb]),if_neg (by intro h;simp at h;simp [h] at h1)]
    simp [go_sem,seval]
    refine aP (λ_=>?_) (λh=>?_)
    .simp [go_sem,seval,e]
    .rw [h1] at h;cases h
   .simp [go_sem,seval,EdgeTy.c,dI]
    refine aB (hbd _ _) rfl ?_
    simp [go_sem,seval,EdgeTy.c,dI]
    refine aH (λ_=>hbd _ _) (λ_=>rfl) ?_
    simp [go_sem,seval,EdgeTy.c,dI]
    refine aP (λh2=>?_) (λh2=>?_)
    .have e:jY t i=6:=by
      simp only [jY,aA hi];rw [if_neg (by simp [hn]),if_neg (by simp [hb]),if_neg (by intro h;simp at h;simp [h] at h2)]
     simp [go_sem,seval,e]
    .have e:jY t i=0:=by
      simp only [jY,aA hi];rw [if_neg (by simp [hn]),if_neg (by simp [hb]),if_pos (by simp at h1 h2 ⊢;simp [h1,h2])]
     simp [go_sem,seval,e]
theorem wL (t:Types)(j:Nat)(n:NodeTy)(h:g8 t j=0)(a:t.nodes[j]?=some n):n.parent<j:=by
 simp only [g8,a] at h
 split at h
 .cases h
 .split at h
  .cases h
  .split at h
   .cases h
   .rename_i hr;simp at hr;omega
def eR (f:Nat->Int)(nm:Nat->ByteArray)(last:ByteArray × Int):Nat->Nat->ByteArray × Int
 | _,0=>last
 | k,n+1=>if f k≠0 then (nm k,f k) else eR f nm last (k+1) n
def Types.nodeName (t:Types)(i:Nat):ByteArray:=match t.nodes[i]? with|some n=>n.name|none=>⟨#[]⟩
def Types.edgeName (t:Types)(i:Nat):ByteArray:=match t.edges[i]? with|some n=>n.name|none=>⟨#[]⟩
def b9 (t:Types):ByteArray × Int :=
 if t.nodes.length=0 then (⟨#[]⟩,7)
 else if 12<t.nodes.length\/20<t.edges.length then (⟨#[]⟩,3)
 else eR (g8 t) t.nodeName (eR (jY t) t.edgeName (⟨#[]⟩,0) 0 t.edges.length) 0 t.nodes.length
theorem mI (t:Types)(ht:t.ok):Pure Tryz.prog 135 [t.d] (.tup [.str (b9 t).1,dI (b9 t).2]):=by
 refine aT (aJ (cfg:=⟨λt=>t==5||t==8,λ_=>[]⟩) Tz.mixed Tryz.func135 rfl rfl (aF rfl) (by kernel_rfl) ?_)
 simp [go_sem,seval,dI,Types.d,Types.c]
 intro hlen
 refine aP (λh0=>?_) (λh0=>?_)
 .simp at h0
  simp [go_sem,seval,b9,h0]
 .simp at h0
  simp [go_sem,seval]
  intro _ _
  refine aP (λhb=>?_) (λhb=>?_)
  .have hb':12<t.nodes.length\/20<t.edges.length:=by simp at hb;omega
   simp [go_sem,seval,b9,h0,hb']
  .have hb':¬ (12<t.nodes.length\/20<t.edges.length):=by simp at hb;omega
   have e:b9 t=eR (g8 t) t.nodeName (eR (jY t) t.edgeName (⟨#[]⟩,0) 0 t.edges.length) 0 t.nodes.length:=by simp [b9,h0,hb']
   simp [go_sem,seval]
   intro _
   refine fQ (ι:=Nat) (λi e H=>i<=t.nodes.length/\e 1=.adr t.c/\e 27=.list (t.nodes.map NodeTy.c)/\e 28=dI t.nodes.length/\e 29=dI i/\(∀ j,j<i->g8 t j=0) /\
    eR (g8 t) t.nodeName (eR (jY t) t.edgeName (⟨#[]⟩,0) 0 t.edges.length) i (t.nodes.length - i)=b9 t) (λi=>t.nodes.length - i) 0 (by simp [go_sem,seval,dI,Types.c,e]) ?_
   intro i e' H ⟨hi,h1,h27,h28,h29,hz,hF⟩
   simp [go_sem,seval,h1,h27,h28,h29,dI,Types.c]
   refine f7 (λhlt=>?_) (λhge=>?_)
   .simp [go_sem,seval,h1,h27,h28,h29,dI,Types.c,NodeTy.c,hlt]
    have hnd:=NU t ht i hlt (λj n hj hn=>wL t j n (hz j hj) hn)
    simp only [Types.d,Types.c,dI] at hnd
    have hstep:eR (g8 t) t.nodeName (eR (jY t) t.edgeName (⟨#[]⟩,0) 0 t.edges.length) i (t.nodes.length - i) =
      if g8 t i≠0 then (t.nodeName i,g8 t i) else eR (g8 t) t.nodeName (eR (jY t) t.edgeName (⟨#[]⟩,0) 0 t.edges.length) (i+1) (t.nodes.length - (i+1)):=by
     rw [(aD:t.nodes.length - i=t.nodes.length - (i+1)+1),eR]
    rw [hstep] at hF
    refine aB hnd (by simp [D.clL,D.cl,vD,vK]) ?_
    simp [go_sem,seval]
    refine aP (λhc=>?_) (λhc=>?_)
    .have hc':g8 t i≠0:=by simpa using hc
     rw [if_pos hc'] at hF
     simp [go_sem,seval,<- hF,Types.nodeName,aA hlt]
    .have hc':¬ g8 t i≠0:=by simpa using hc
     rw [if_neg hc'] at hF
     simp [go_sem,seval,h1,h27,h28,h29,dI,Types.c]
     refine ⟨dD aD aD,i+1,aD,aD,aD,λj hj=>?_,hF⟩
     rcases b6 j i with hj'|hj'
     .exact hz j hj'
     .have:j=i:=aD
      subst this;simpa using hc'
   .simp [go_sem,seval,h1,h27,h28,h29,dI,Types.c]
    intro _
    rw [(aD:t.nodes.length - i=0)] at hF
    simp only [eR] at hF
    refine fQ (ι:=Nat) (λi e H=>i<=t.edges.length/\e 1=.adr t.c/\e 44=.list (t.edges.map EdgeTy.c)/\e 45=dI t.edges.length/\e 46=dI i /\
     eR (jY t) t.edgeName (⟨#[]⟩,0) i (t.edges.length - i)=b9 t) (λi=>t.edges.length - i) 0 (by simp [go_sem,seval,h1,dI,Types.c,hF]) ?_
    intro i e' H ⟨hi,h1,h44,h45,h46,hF⟩
    simp [go_sem,seval,h1,h44,h45,h46,dI,Types.c]
    refine f7 (λhlt=>?_) (λhge=>?_)
    .simp [go_sem,seval,h1,h44,h45,h46,dI,Types.c,EdgeTy.c,hlt]
     have hnd:=NW t ht i hlt
     simp only [Types.d,Types.c,dI] at hnd
     have hstep:eR (jY t) t.edgeName (⟨#[]⟩,0) i (t.edges.length - i) =
       if jY t i≠0 then (t.edgeName i,jY t i) else eR (jY t) t.edgeName (⟨#[]⟩,0) (i+1) (t.edges.length - (i+1)):=by
      rw [(aD:t.edges.length - i=t.edges.length - (i+1)+1),eR]
     rw [hstep] at hF
     refine aB hnd (by simp [D.clL,D.cl,vD,vK]) ?_
     simp [go_sem,seval]
     refine aP (λhc=>?_) (λhc=>?_)
     .have hc':jY t i≠0:=by simpa using hc
      rw [if_pos hc'] at hF
      simp [go_sem,seval,<- hF,Types.edgeName,aA hlt]
     .have hc':¬ jY t i≠0:=by simpa using hc
      rw [if_neg hc'] at hF
      simp [go_sem,seval,h1,h44,h45,h46,dI,Types.c]
      exact ⟨dD aD aD,i+1,aD,aD,aD,hF⟩
    .rw [(aD:t.edges.length - i=0)] at hF
     simp only [eR] at hF
     simp [go_sem,seval,<- hF]
theorem BW (c:Int):Pure Tryz.prog 412 [.int .u8 c] (.bool (i7 c)):=by
 refine aT (aJ (cfg:=⟨λ_=>false,λ_=>[]⟩) Tz.mixed Tryz.func412 rfl rfl (aF rfl) (by kernel_rfl) ?_)
 simp [go_sem,seval,i7,D.cl]
 try omega
theorem tM (c:Int):Pure Tryz.prog 413 [.int .u8 c] (.bool (kG c)):=by
 refine aT (aJ (cfg:=⟨λ_=>false,λ_=>[]⟩) Tz.mixed Tryz.func413 rfl rfl (aF rfl) (by kernel_rfl) ?_)
 simp [go_sem,seval,kG,D.cl]
def uX (digits:Bool)(c:Int):Bool:=kG c||(!digits&&(i7 c||c==95))
theorem QO (s:ByteArray)(dg:Bool)(hs:s.size<=1000000):Pure Tryz.prog 414 [.str s,dI 0,.bool dg] (dI (gH (uX dg) s)):=by
 refine aT (aJ (cfg:=⟨λ_=>false,λ_=>[]⟩) Tz.mixed Tryz.func414 rfl rfl (aF rfl) (by kernel_rfl) ?_)
 simp [go_sem,seval,dI]
 refine fQ (ι:=Nat) (λn e H=>H=.emp/\n<=s.size/\e 0=.str s/\e 1=dI 0/\e 2=.bool dg/\e 7=dI n/\(∀ j,j<n->uX dg (wU s j)=true)) (λn=>s.size - n) 0 (by simp [go_sem,seval,dI]) ?_
 intro n e H ⟨hH,hn,h0,h1,h2,h7,hp⟩
 subst hH
 have hb:((s.data[n]?.getD 0).toNat:Int)=wU s n:=rfl
 simp [go_sem,seval,h0,h1,h2,h7,dI,hb]
 refine ⟨dD aD aD,λ_=>dD aD aD,aH (λ_=>tM _) (λ_=>rfl) ?_⟩
 simp [go_sem,seval,h0,h1,h2,h7,dI,hb]
 refine ⟨λ_ _ _=>dD aD aD,λh _ _=>h,aH (λ_=>BW _) (λ_=>rfl) ?_⟩
 simp [go_sem,seval,h0,h1,h2,h7,dI,hb]
 refine ⟨λ_ _ _ _=>dD aD aD,λh _ _ _=>h,λa b c d=>⟨⟨⟨a,b⟩,c⟩,d⟩,λa b c=>⟨⟨a,b⟩,c⟩,λa b=>⟨a,b⟩,aP (λh=>?_) (λh=>?_)⟩
 .have hr:n<s.size/\uX dg (wU s n)=true:=by simpa [uX] using h
  simp [go_sem,seval,h0,h1,h2,h7,dI]
  refine ⟨dD aD aD,n+1,aD,aD,aD,λj hj=>?_⟩
  rcases b6 j n with hj'|hj'
  .exact hp j hj'
  .have:j=n:=aD
   subst this;exact hr.2
 .have hr:n<s.size->uX dg (wU s n)=false:=by
   intro hlt
   simp [hlt] at h
   simp [uX]
   exact h
  simp [go_sem,seval,h0,h1,h2,h7,dI]
  rw [ID _ s n hp hn hr]
theorem Jn (p:Nat->Bool)(n:Nat):∀ d k,k+d=n->(∀ j,1<=j->j<k->p j=true)->1<=k->∃ k,1<=k/\k<=n/\(∀ j,1<=j->j<k->p j=true)/\(k<n->p k=false)
 | 0,k,h,hp,h1=>⟨k,h1,aD,hp,λh=>by omega⟩
 | d+1,k,h,hp,h1=>by
  cases hk:p k with
  | false=>exact ⟨k,h1,aD,hp,λ_=>hk⟩
  | true =>
   refine Jn p n d (k+1) aD (λj hj hlt=>?_) aD
   rcases b6 j k with h|h
   .exact hp j hj h
   .have:j=k:=aD
    subst this;exact hk
theorem Kq (s:ByteArray)(h1:1<=s.size)(hs:s.size<=1000000):∃ n:Int,0<=n/\n≠1/\n<=s.size/\Pure Tryz.prog 415 [.str s,dI 0] (dI n):=by
 obtain ⟨k,hk1,hk2,hk3,hk4⟩:=Jn (λj=>o9 (wU s j)) s.size (s.size - 1) 1 aD (λj h h'=>by omega) aD
 refine ⟨if k<s.size/\wU s k=34 then k+1 else 0,by split<;>omega,by split<;>omega,by split<;>omega,aT (aJ (cfg:=⟨λ_=>false,λ_=>[]⟩) Tz.mixed Tryz.func415 rfl rfl (aF rfl) (by kernel_rfl) ?_)⟩
 simp [go_sem,seval,dI]
 refine fQ (ι:=Nat) (λn e H=>H=.emp/\1<=n/\n<=k/\e 0=.str s/\e 1=dI 0/\e 5=dI n) (λn=>s.size - n) 1 (by simp [go_sem,seval,dI];omega) ?_
 intro n e H ⟨hH,hn1,hn,h0,h1,h5⟩
 subst hH
 have hb:((s.data[n]?.getD 0).toNat:Int)=wU s n:=rfl
 simp [go_sem,seval,h0,h1,h5,dI,hb]
 refine ⟨dD aD aD,aP (λhlt=>?_) (λhge=>?_)⟩
 .simp at hlt
  simp [go_sem,seval,h0,h1,h5,dI,hb]
  refine ⟨dD aD aD,hlt,aP (λhq=>?_) (λhq=>?_)⟩
  .simp at hq
   have hnk:n=k:=by
    rcases b6 n k with h|h
    .have:=hk3 n hn1 h;simp [o9,hq] at this
    .omega
   subst hnk
   simp [go_sem,seval,h0,h1,h5,dI]
   exact ⟨dD aD aD,λh=>absurd hq (h hlt)⟩
  .simp at hq
   simp [go_sem,seval,h0,h1,h5,dI]
   refine aP (λhc=>?_) (λhc=>?_)
   .simp at hc
    have hnk:n=k:=by
     rcases b6 n k with h|h
     .have:=hk3 n hn1 h;simp [o9] at this;omega
     .omega
    subst hnk
    simp [go_sem,seval,h0,h1,h5,dI]
    omega
   .simp at hc
    have hnk:n<k:=by
     rcases b6 n k with h|h
     .exact h
     .have hh:n=k:=aD
      subst hh
      have:=hk4 hlt;simp [o9] at this;omega
    simp [go_sem,seval,h0,h1,h5,dI]
    exact ⟨dD aD aD,n+1,aD,aD,aD,aD⟩
 .simp at hge
  simp [go_sem,seval,h0,h1,h5,dI]
  omega
def signs:List ByteArray:=IM++[⟨#[123]⟩,⟨#[125]⟩,⟨#[40]⟩,⟨#[41]⟩,⟨#[91]⟩,⟨#[93]⟩,⟨#[44]⟩,⟨#[59]⟩,⟨#[58]⟩,⟨#[61]⟩,⟨#[43]⟩,⟨#[45]⟩,⟨#[42]⟩,⟨#[60]⟩,⟨#[62]⟩,⟨#[33]⟩,⟨#[38]⟩,⟨#[124]⟩,⟨#[46]⟩,⟨#[63]⟩]
theorem Mm:Pure Tryz.prog 416 [] (s9 signs):=by
 refine aT (aJ (cfg:=⟨λ_=>false,λ_=>[]⟩) Tz.mixed Tryz.func416 rfl rfl (aF rfl) (by kernel_rfl) ?_)
 simp [go_sem,seval,s9,cS,IM,signs]
theorem Ga (s:ByteArray):Pure Tryz.prog 358 [.agg [dI 1,.str s,dI 0]] (.str s):=by
 refine aT (aJ (cfg:=⟨λ_=>false,λ_=>[]⟩) Tz.mixed Tryz.func358 rfl rfl (aF rfl) (by kernel_rfl) ?_)
 simp [go_sem,seval,dI]
theorem Ob:uX false=pB:=by
 funext c
 simp [uX,pB,Bool.or_assoc,Bool.or_comm,Bool.or_left_comm]
def wA (s l:ByteArray):Bool:=decide ((l.size:Int)<=s.size)&&decide (s.extract 0 l.size=l)
def Ak (q:Int)(s:ByteArray):Int × ByteArray × Int × Int :=
  if (i7 (wU s 0)||kG (wU s 0))=true then
    (if kG (wU s 0)=true then (if 9<gH (uX true) s then (0,⟨#[]⟩,0,3) else (2,s.extract 0 (gH (uX true) s),gH (uX true) s,0))
     else (if 20<gH (uX false) s then (0,⟨#[]⟩,0,3) else (1,s.extract 0 (gH (uX false) s),gH (uX false) s,0)))
  else if wU s 0=34 then
    (if q=0 then (0,⟨#[]⟩,0,2) else if 60<q - 2 then (0,⟨#[]⟩,0,3) else (3,s.extract 1 (q - 1).toNat,q,0))
  else match signs.find? (wA s) with
    | some l=>(4,l,l.size,0)
    | none=>(0,⟨#[]⟩,0,2)
theorem QP (s:ByteArray)(h1:1<=s.size)(hs:s.size<=100000)(q:Int)(hq0:0<=q)(hq1:q≠1)(hq2:q<=s.size)(hq:Pure Tryz.prog 415 [.str s,dI 0] (dI q)) :
  Pure Tryz.prog 359 [.str s,dI 0] (.tup [.agg [dI (Ak q s).1,.str (Ak q s).2.1,dI 0],dI (Ak q s).2.2.1,dI (Ak q s).2.2.2]):=by
 have hb:((s.data[0]?.getD 0).toNat:Int)=wU s 0:=rfl
 refine aT (aJ (cfg:=⟨λt=>t==4,λr=>match r with|22=>[(7,10),(8,10),(9,10)]|_=>[]⟩) Tz.mixed Tryz.func359 rfl rfl (aF rfl) (by kernel_rfl) ?_)
 simp [go_sem,seval,dI,hb]
 refine ⟨aD,aB (BW _) rfl ?_⟩
 simp [go_sem,seval,dI]
 refine aH (λ_=>tM _) (λ_=>rfl) ?_
 simp [go_sem,seval,dI]
 refine aP (λhld=>?_) (λhld=>?_)
 .simp [go_sem,seval]
  refine aB (tM _) rfl ?_
  simp [go_sem,seval]
  refine aB (QO s _ aD) rfl ?_
  simp [go_sem,seval,dI]
  refine aB (tM _) rfl ?_
  simp [go_sem,seval]
  refine aP (λhd=>?_) (λhd=>?_)
  .simp [go_sem,seval]
   rw [hd]
   have hr:=C1 (uX true) s
   refine aP (λh=>?_) (λh=>?_)
   .simp at h
    simp [go_sem,seval,Ak,hd,(aD:9<gH (uX true) s)]
   .simp at h
    simp [go_sem,seval,Ak,hd,(aD:¬ 9<gH (uX true) s)]
    exact ⟨dD aD aD,aD⟩
  .have hd':kG (wU s 0)=false:=by simpa using hd
   simp [go_sem,seval]
   rw [hd']
   have hr:=C1 (uX false) s
   have hl:i7 (wU s 0)=true:=by simpa [hd'] using hld
   refine aP (λh=>?_) (λh=>?_)
   .simp at h
    simp [go_sem,seval,Ak,hd',hl,(aD:20<gH (uX false) s)]
   .simp at h
    simp [go_sem,seval,Ak,hd',hl,(aD:¬ 20<gH (uX false) s)]
    exact ⟨dD aD aD,aD⟩
 .have hld':¬ (i7 (wU s 0)||kG (wU s 0))=true:=by simp at hld;simp [hld]
  simp [go_sem,seval]
  refine aP (λh34=>?_) (λh34=>?_)
  .simp at h34
   simp [go_sem,seval]
   refine aB hq rfl ?_
   simp [go_sem,seval,dI]
   have e:Ak q s=(if q=0 then (0,⟨#[]⟩,0,2) else if 60<q - 2 then (0,⟨#[]⟩,0,3) else (3,s.extract 1 (q - 1).toNat,q,0)):=by
    unfold Ak;rw [if_neg hld',if_pos h34]
   rw [e]
   refine aP (λhz=>?_) (λhz=>?_)
   .simp at hz
    simp [go_sem,seval,hz]
   .simp at hz
    simp [go_sem,seval,hz]
    refine ⟨dD aD aD,f7 (λh6=>?_) (λh6=>?_)⟩
    .simp [go_sem,seval,h6]
    .simp [go_sem,seval,h6]
     exact ⟨dD aD aD,dD aD aD,dD aD aD,aD,aD⟩
  .simp at h34
   simp [go_sem,seval]
   refine aB Mm rfl ?_
   simp [go_sem,seval,dI]
   have e:Ak q s=(match signs.find? (wA s) with|some l=>(4,l,l.size,0)|none=>(0,⟨#[]⟩,0,2)):=by
    unfold Ak;rw [if_neg hld',if_neg h34]
   rw [e]
   refine fQ (ι:=Nat) (λn e H=>(∃ ty,H.get 0=some ⟨ty,3,[[dI 0,.str ⟨#[]⟩,dI 0]],false⟩)/\n<=signs.length/\e 0=.str s/\e 1=dI 0/\e 4=.ptr 0 1 0 0/\e 12=s9 signs/\e 13=dI n/\(∀ j l,j<n->signs[j]?=some l->wA s l=false)) (λn=>signs.length - n) 0 (by simp [go_sem,seval,dI]) ?_
   intro n e H ⟨⟨ty,hH⟩,hn,h0,h1',h4,h12,h13,hp⟩
   simp [go_sem,seval,h0,h1',h4,h12,h13,dI,hH,s9]
   intro hlen
   refine f7 (λhlt=>?_) (λhge=>?_)
   .simp [go_sem,seval,h0,h1',h4,h12,h13,dI,hH,s9,hlt,cS]
    have hz2:signs[n].size<=2:=(show ∀ l∈signs,l.size<=2 by decide) _ (aC hlt)
    refine ⟨dD aD aD,λ_=>dD aD aD,aP (λhc=>?_) (λhc=>?_)⟩
    .have hs1:wA s signs[n]=true:=by simpa [wA] using hc
     have hf:signs.find? (wA s)=some signs[n]:=by
      rw [List.find?_eq_some_iff_getElem]
      refine ⟨hs1,n,hlt,rfl,λj hj=>?_⟩
      simpa using hp j _ hj (aA aD)
     simp [go_sem,seval,h0,h1',h4,h12,h13,dI,hH,s9,hlt,cS,hf]
    .have hs1:wA s signs[n]=false:=by simpa [wA] using hc
     simp [go_sem,seval,h0,h1',h4,h12,h13,dI,hH,s9]
     have hsl:signs.length=25:=rfl
     refine ⟨dD aD aD,n+1,aD,aD,aD,λj l hj hl=>?_⟩
     rcases b6 j n with hj'|hj'
     .exact hp j l hj' hl
     .have:j=n:=aD
      subst this
      rw [aA hlt] at hl
      cases hl;exact hs1
   .simp [go_sem,seval,h0,h1',h4,h12,h13,dI,hH,s9]
    have:signs.find? (wA s)=none:=by
     rw [List.find?_eq_none]
     intro x hx
     obtain ⟨j,hj,rfl⟩:=aO hx
     simpa using hp j _ aD (aA hj)
    simp [this]
theorem R9 (s:ByteArray)(b:¬ s.size=0)(q:Int):(decide ((Ak q s).2.2.2=0)&&(Ak q s).2.2.1==(s.size:Int)&&(Ak q s).1==1)=mA s:=by
 unfold Ak mA
 by_cases a:i7 (wU s 0)=true
 .have hdg:kG (wU s 0)=false:=by simp [i7,kG] at *;omega
  rw [if_pos (by simp [a])]
  simp only [hdg,a,Ob]
  by_cases h:20<gH pB s
  .simp [h];intros;omega
  .simp [h,b,(aD:gH pB s<=20)]
   rw [aR];simp;omega
 .have hl':i7 (wU s 0)=false:=by simpa using a
  simp only [hl']
  repeat' split
  all_goals first|(simp;done)|(simp_all;done)
theorem Mn (s:ByteArray)(hs:s.size<=100000):Pure Tryz.prog 286 [.agg [dI 1,.str s,dI 0]] (.bool (mA s)):=by
 by_cases hz:s.size=0
 .refine aT (aJ (cfg:=⟨λt=>t==4,λ_=>[]⟩) Tz.mixed Tryz.func286 rfl rfl (aF rfl) (by kernel_rfl) ?_)
  simp [go_sem,seval,dI]
  refine aB (Ga s) rfl ?_
  simp [go_sem,seval,dI]
  refine aP (λh=>?_) (λh=>?_)
  .simp [go_sem,seval,mA,hz]
  .simp [qH,hz] at h
 .obtain ⟨q,hq0,hq1,hq2,hq⟩:=Kq s aD aD
  refine aT (aJ (cfg:=⟨λt=>t==4,λ_=>[]⟩) Tz.mixed Tryz.func286 rfl rfl (aF rfl) (by kernel_rfl) ?_)
  simp [go_sem,seval,dI]
  refine aB (Ga s) rfl ?_
  simp [go_sem,seval,dI]
  refine aP (λh=>?_) (λh=>?_)
  .simp [qH,hz] at h
  .simp [go_sem,seval]
   refine aB (QP s aD hs q hq0 hq1 hq2 hq) rfl ?_
   simp [go_sem,seval,dI]
   exact R9 s hz q
theorem oY (s:ByteArray)(hs:s.size<=100000):Pure Tryz.prog 210 [.str s] (.bool (mA s)):=by
 refine aT (aJ (cfg:=⟨λ_=>false,λ_=>[]⟩) Tz.mixed Tryz.func210 rfl rfl (aF rfl) (by kernel_rfl) ?_)
 simp [go_sem,seval,dI]
 refine aB (Mn s hs) rfl ?_
 simp [go_sem,seval,dI]
@[go_sem] theorem qK (l:List Int):D.clLL (l.map cI)=true:=dK cI (λ_=>rfl) l
@[go_sem] theorem Dl (l:List Edge):D.clLL (l.map Edge.c)=true:=dK _ Edge.cl l
theorem H6 (xs:List Int)(g:FuncId)(caps:List D)(p:Int->Bool)(hc:D.clL caps=true)(hg:∀ x∈xs,Pure Tryz.prog g (.int .i64 x :: caps) (.bool (p x))) :
  Pure Tryz.prog 355 [.list (xs.map cI),.fn g caps] (dI (Di xs p)):=by
 refine aT (aJ (cfg:=⟨λ_=>false,λ_=>[]⟩) Tz.mixed Tryz.func355 rfl rfl (aF rfl) (by kernel_rfl) ?_)
 simp [go_sem,seval,dI,dLI]
 intro hlen
 refine fQ (ι:=Nat) (λi e H=>H=.emp/\i<=xs.length/\e 0=.list (xs.map cI)/\e 1=.fn g caps/\e 7=dI xs.length/\e 8=dI i/\(∀ j x,j<i->xs[j]?=some x->p x=false)) (λi=>xs.length - i) 0 (by simp [go_sem,seval,dI,dLI]) ?_
 intro i e H ⟨hH,hi,h0,h1,h7,h8,hn⟩
 subst hH
 simp [go_sem,seval,h0,h1,h7,h8,dI,dLI]
 refine f7 (λhlt=>?_) (λhge=>?_)
 .have hgx:=hg xs[i] (aC hlt)
  simp [go_sem,seval,h0,h1,h7,h8,dI,dLI,hlt,cI] at hgx ⊢
  refine aB hgx (by simp [go_sem,hc]) ?_
  simp [go_sem,seval,h0,h1,h7,h8,dI,dLI]
  refine aP (λh=>?_) (λh=>?_)
  .simp [go_sem,seval,h0,h1,h7,h8,dI,dLI]
   rw [pW hn hlt h]
  .simp [go_sem,seval,h0,h1,h7,h8,dI,dLI]
   refine ⟨dD aD aD,i+1,aD,aD,aD,λj x hj hx=>?_⟩
   rcases b6 j i with hj'|hj'
   .exact hn j x hj' hx
   .have:j=i:=aD
    subst this
    rw [aA hlt] at hx
    cases hx;exact h
 .simp [go_sem,seval,h0,h1,h7,h8,dI,dLI]
  rw [pX λj x hj=>hn j x aD]
theorem gC (xs:List Int)(g:FuncId)(caps:List D)(p:Int->Bool)(hc:D.clL caps=true)(hl:D.cl (.list (xs.map cI))=true)(hg:∀ x∈xs,Pure Tryz.prog g (.int .i64 x :: caps) (.bool (p x))) :
  Pure Tryz.prog 281 [.list (xs.map cI),.fn g caps] (.bool (xs.any p)):=by
 refine aT (aJ (cfg:=⟨λ_=>false,λ_=>[]⟩) Tz.mixed Tryz.func281 rfl rfl (aF rfl) (by kernel_rfl) ?_)
 simp [go_sem,seval]
 refine aB (H6 xs g caps p hc hg) (by simp only [D.clL,hl,gM];simp [D.cl,hc]) ?_
 simp [go_sem,seval,dI,sL]
theorem EC (xs:List Edge)(g:FuncId)(caps:List D)(p:Edge->Bool)(hc:D.clL caps=true)(hg:∀ x∈xs,Pure Tryz.prog g (.agg x.c :: caps) (.bool (p x))) :
  Pure Tryz.prog 369 [.list (xs.map Edge.c),.fn g caps] (dI (Di xs p)):=by
 refine aT (aJ (cfg:=⟨λ_=>false,λ_=>[]⟩) Tz.mixed Tryz.func369 rfl rfl (aF rfl) (by kernel_rfl) ?_)
 simp [go_sem,seval,dI,dLI]
 intro hlen
 refine fQ (ι:=Nat) (λi e H=>H=.emp/\i<=xs.length/\e 0=.list (xs.map Edge.c)/\e 1=.fn g caps/\e 7=dI xs.length/\e 8=dI i/\(∀ j x,j<i->xs[j]?=some x->p x=false)) (λi=>xs.length - i) 0 (by simp [go_sem,seval,dI,dLI]) ?_
 intro i e H ⟨hH,hi,h0,h1,h7,h8,hn⟩
 subst hH
 simp [go_sem,seval,h0,h1,h7,h8,dI,dLI]
 refine f7 (λhlt=>?_) (λhge=>?_)
 .have hgx:=hg xs[i] (aC hlt)
  simp [go_sem,seval,h0,h1,h7,h8,dI,dLI,hlt,Edge.c] at hgx ⊢
  refine aB hgx (by simp [go_sem,hc]) ?_
  simp [go_sem,seval,h0,h1,h7,h8,dI,dLI]
  refine aP (λh=>?_) (λh=>?_)
  .simp [go_sem,seval,h0,h1,h7,h8,dI,dLI]
   rw [pW hn hlt h]
  .simp [go_sem,seval,h0,h1,h7,h8,dI,dLI]
   refine ⟨dD aD aD,i+1,aD,aD,aD,λj x hj hx=>?_⟩
   rcases b6 j i with hj'|hj'
   .exact hn j x hj' hx
   .have:j=i:=aD
    subst this
    rw [aA hlt] at hx
    cases hx;exact h
 .simp [go_sem,seval,h0,h1,h7,h8,dI,dLI]
  rw [pX λj x hj=>hn j x aD]
theorem lX (xs:List Edge)(g:FuncId)(caps:List D)(p:Edge->Bool)(hc:D.clL caps=true)(hl:D.cl (.list (xs.map Edge.c))=true)(hg:∀ x∈xs,Pure Tryz.prog g (.agg x.c :: caps) (.bool (p x))) :
  Pure Tryz.prog 306 [.list (xs.map Edge.c),.fn g caps] (.bool (xs.any p)):=by
 refine aT (aJ (cfg:=⟨λ_=>false,λ_=>[]⟩) Tz.mixed Tryz.func306 rfl rfl (aF rfl) (by kernel_rfl) ?_)
 simp [go_sem,seval]
 refine aB (EC xs g caps p hc hg) (by simp only [D.clL,hl,gM];simp [D.cl,hc]) ?_
 simp [go_sem,seval,dI,sL]
def iH (n m:Int):Bool:=decide (0<=n)&&decide (n<=m)
theorem Ck (n m:Int):Pure Tryz.prog 320 [dI n,dI m] (.bool (iH n m)):=by
 refine aT (aJ (cfg:=⟨λ_=>false,λ_=>[]⟩) Tz.mixed Tryz.func320 rfl rfl (aF rfl) (by kernel_rfl) ?_)
 simp [go_sem,seval,dI,iH]
def tV (x:Edge)(n:Int):Bool:=iH x.type 99&&iH x.from_ (n - 1)&&iH x.to_ (n - 1)
theorem OU (x:Edge)(n:Int)(h0:0<=n)(h1:n<=1000000):Pure Tryz.prog 322 [.agg x.c,dI n] (.bool (tV x n)):=by
 have hw:∀ a b:Int,Pure Tryz.prog 320 [.int .i64 a,.int .i64 b] (.bool (iH a b)):=Ck
 refine aT (aJ (cfg:=⟨λ_=>false,λ_=>[]⟩) Tz.mixed Tryz.func322 rfl rfl (aF rfl) (by kernel_rfl) ?_)
 simp [go_sem,seval,dI,Edge.c]
 refine aB (hw _ _) rfl ?_
 simp [go_sem,seval,dI,Edge.c]
 refine ⟨λ_=>dD aD aD,aH (λ_=>hw _ _) (λ_=>rfl) ?_⟩
 simp [go_sem,seval,dI,Edge.c]
 refine ⟨λ_ _=>dD aD aD,aH (λ_=>hw _ _) (λ_=>rfl) ?_⟩
 simp [go_sem,seval,tV]
theorem KL (n:Int):Pure Tryz.prog 319 [.int .i64 n] (.bool (!iH n 99)):=by
 have hw:∀ a b:Int,Pure Tryz.prog 320 [.int .i64 a,.int .i64 b] (.bool (iH a b)):=Ck
 refine aT (aJ (cfg:=⟨λ_=>false,λ_=>[]⟩) Tz.mixed Tryz.func319 rfl rfl (aF rfl) (by kernel_rfl) ?_)
 simp [go_sem,seval,dI]
 refine aB (hw _ _) rfl ?_
 simp [go_sem,seval]
theorem KK (g:Graph)(hg:g.nodes.length<=1000000)(x:Edge):Pure Tryz.prog 321 [.agg x.c,.adr g.c] (.bool (!tV x g.nodes.length)):=by
 have hf:=OU x g.nodes.length aD aD
 simp only [Edge.c,dI] at hf
 refine aT (aJ (cfg:=⟨λ_=>false,λ_=>[]⟩) Tz.mixed Tryz.func321 rfl rfl (aF rfl) (by kernel_rfl) ?_)
 simp [go_sem,seval,dI,Edge.c,Graph.c,dLI]
 intro _
 refine aB hf rfl ?_
 simp [go_sem,seval]
def graphF (g:Graph):Int :=
 if 40<g.nodes.length\/80<g.edges.length then 3
 else if (g.nodes.any λn=>!iH n 99)=true then 6
 else if (g.edges.any λx=>!tV x g.nodes.length)=true then 6
 else 0
theorem mO (g:Graph):Pure Tryz.prog 227 [g.d] (dI (graphF g)):=by
 refine aT (aJ (cfg:=⟨λ_=>false,λ_=>[]⟩) Tz.mixed Tryz.func227 rfl rfl (aF rfl) (by kernel_rfl) ?_)
 simp [go_sem,seval,dI,Graph.d,Graph.c,dLI]
 intro _ _
 refine aP (λh=>?_) (λh=>?_)
 .have h':40<g.nodes.length\/80<g.edges.length:=by simp at h;omega
  simp [go_sem,seval,graphF,h']
 .have h':¬ (40<g.nodes.length\/80<g.edges.length):=by simp at h;omega
  have h1:=gC g.nodes 319 [] (λn=>!iH n 99) rfl (by simp [D.cl,qK]) (λn _=>KL n)
  have h2:=lX g.edges 321 [.adr g.c] (λx=>!tV x g.nodes.length) (by simp [D.clL,D.cl,Graph.c,qK,Dl,dLI]) (by simp [D.cl,Dl]) (λx _=>KK g aD x)
  simp only [Graph.c,dLI] at h2
  simp [go_sem,seval]
  refine aB h1 (by simp [D.clL,D.cl,qK]) ?_
  simp [go_sem,seval]
  refine aP (λha=>?_) (λha=>?_)
  .have e:graphF g=6:=by unfold graphF;rw [if_neg h',if_pos ha]
   simp [go_sem,seval,e]
  .simp [go_sem,seval]
   refine aB h2 (by simp [D.clL,D.cl,qK,Dl]) ?_
   simp [go_sem,seval]
   refine aP (λhb=>?_) (λhb=>?_)
   .have e:graphF g=6:=by unfold graphF;rw [if_neg h',if_neg (by rw [ha];simp),if_pos hb]
    simp [go_sem,seval,e]
   .have e:graphF g=0:=by unfold graphF;rw [if_neg h',if_neg (by rw [ha];simp),if_neg (by rw [hb];simp)]
    simp [go_sem,seval,e]
theorem F8 (n:Int):Pure Tryz.prog 267 [.int .i64 n] (.bool (iH n 99)):=by
 refine aT (aJ (cfg:=⟨λ_=>false,λ_=>[]⟩) Tz.mixed Tryz.func267 rfl rfl (aF rfl) (by kernel_rfl) ?_)
 simp [go_sem,seval,iH]
theorem Mi (x:Edge)(n:Int):Pure Tryz.prog 268 [.agg x.c,.int .i64 n] (.bool (tV x n)):=by
 refine aT (aJ (cfg:=⟨λ_=>false,λ_=>[]⟩) Tz.mixed Tryz.func268 rfl rfl (aF rfl) (by kernel_rfl) ?_)
 simp [go_sem,seval,Edge.c,dI]
 refine aB (F8 _) rfl ?_
 simp [go_sem,seval,Edge.c,dI,tV,iH]
 rw [aR];simp;omega
theorem dU {α:Type}(l:List α)(p:α->Bool)(i:Nat)(a:i<l.length):(l.take (i+1)).any p=((l.take i).any p||p l[i]):=by
 rw [aE a,Bs];simp
theorem lP (g:Graph):Pure Tryz.prog 174 [g.d] (dI (graphF g)):=by
 refine aT (aJ (cfg:=⟨λ_=>false,λ_=>[]⟩) Tz.mixed Tryz.func174 rfl rfl (aF rfl) (by kernel_rfl) ?_)
 simp [go_sem,seval,dI,Graph.d,Graph.c,dLI]
 intro _ _
 refine aP (λh=>?_) (λh=>?_)
 .have h':40<g.nodes.length\/80<g.edges.length:=by simp at h;omega
  simp [go_sem,seval,graphF,h']
 .have h':¬ (40<g.nodes.length\/80<g.edges.length):=by simp at h;omega
  simp [go_sem,seval]
  refine fQ (ι:=Nat) (λi e H=>i<=g.nodes.length/\e 1=.adr g.c/\e 3=dI i/\((g.nodes.take i).any λn=>!iH n 99)=false) (λi=>g.nodes.length - i) 0 (by simp [go_sem,seval,dI,Graph.c,dLI]) ?_
  intro i e H ⟨hi,h1,h3,ha⟩
  simp [go_sem,seval,h1,h3,dI,Graph.c,dLI]
  intro _
  refine f7 (λhlt=>?_) (λhge=>?_)
  .simp [go_sem,seval,h1,h3,dI,Graph.c,dLI,hlt,cI]
   refine aB (F8 _) rfl ?_
   simp [go_sem,seval]
   refine aP (λhc=>?_) (λhc=>?_)
   .have hany:(g.nodes.any λn=>!iH n 99)=true:=aX.2 ⟨_,aC hlt,hc⟩
    have e:graphF g=6:=by unfold graphF;rw [if_neg h',if_pos hany]
    simp [go_sem,seval,e]
   .simp [go_sem,seval,h1,h3,dI,Graph.c,dLI]
    refine ⟨dD aD aD,i+1,aD,aD,aD,?_⟩
    have:=dU g.nodes (λn=>!iH n 99) i hlt
    rw [ha,hc] at this
    simpa using this
  .simp [go_sem,seval,h1,h3,dI,Graph.c,dLI]
   have ha':(g.nodes.any λn=>!iH n 99)=false:=by rw [(aD:i=g.nodes.length),Af] at ha;exact ha
   refine fQ (ι:=Nat) (λk e H=>k<=g.edges.length/\e 1=.adr g.c/\e 4=dI k/\((g.edges.take k).any λx=>!tV x g.nodes.length)=false) (λk=>g.edges.length - k) 0 (by simp [go_sem,seval,h1,dI,Graph.c,dLI]) ?_
   intro k e H ⟨hk,h1,h4,hb⟩
   simp [go_sem,seval,h1,h4,dI,Graph.c,dLI]
   intro _
   refine f7 (λhlt=>?_) (λhge=>?_)
   .have hr:=Mi g.edges[k] g.nodes.length
    simp only [Edge.c,dI] at hr
    simp [go_sem,seval,h1,h4,dI,Graph.c,dLI,hlt,Edge.c]
    refine aI hr rfl ?_
    simp [go_sem,seval]
    refine aP (λhc=>?_) (λhc=>?_)
    .have hany:(g.edges.any λx=>!tV x g.nodes.length)=true:=aX.2 ⟨_,aC hlt,hc⟩
     have e:graphF g=6:=by unfold graphF;rw [if_neg h',if_neg (by rw [ha'];simp),if_pos hany]
     simp [go_sem,seval,e]
    .simp [go_sem,seval,h1,h4,dI,Graph.c,dLI]
     refine ⟨dD aD aD,k+1,aD,aD,aD,?_⟩
     have:=dU g.edges (λx=>!tV x g.nodes.length) k hlt
     rw [hb,hc] at this
     simpa using this
   .have hb':(g.edges.any λx=>!tV x g.nodes.length)=false:=by rw [(aD:k=g.edges.length),Af] at hb;exact hb
    have e:graphF g=0:=by unfold graphF;rw [if_neg h',if_neg (by rw [ha'];simp),if_neg (by rw [hb'];simp)]
    simp [go_sem,seval,e]
attribute [go_sem] dI dLI s9 cI cS Attr.c NodeTy.c EdgeTy.c Types.c Types.d Edge.c Graph.c Graph.d
theorem Bl (a b:List D):D.clL (a++b)=(D.clL a&&D.clL b):=by
 induction a with
 | nil=>simp [D.clL]
 | cons x a c=>simp [D.clL,c,lO]
@[go_sem] theorem UA (a b:List (List D)):D.clLL (a++b)=(D.clLL a&&D.clLL b):=by
 induction a with
 | nil=>simp [D.clLL]
 | cons x a c=>simp [D.clLL,c,lO]
attribute [go_sem] Bl
def inF (n low high:Int):Bool:=decide (low<=n)&&decide (n<=high)
theorem nQ (n b a:Int):Pure Tryz.prog 214 [dI n,dI b,dI a] (.bool (inF n b a)):=by
 refine Tz.pK ⟨λ_=>false,λ_=>[]⟩ Tryz.func214 rfl (λQ c=>?_)
 have Y:=trivial
 have Y:=wa Y @inF.eq_1
 exact wo (h:=c _ _ wy)
theorem ME {l:List ByteArray}{i:Nat}(d:i<l.length):mem (l.take i) l[i]=true↔∃ j,j<i/\l[j]?=some l[i]:=by
 rw [mem_iff,Em]
 constructor
 .rintro ⟨j,c,b⟩
  have a:j<l.length:=aD
  exact ⟨j,aD,by rw [aA a,b]⟩
 .rintro ⟨j,c,b⟩
  have a:j<l.length:=aD
  rw [aA a] at b
  exact ⟨j,aD,by simpa using b⟩
theorem iQ {p:Nat->Prop}{k:Nat}(h:∀ j,j<k->p j)(hk:p k):∀ j,j<k+1->p j:=λj hj=>by
 rcases b6 j k with h'|h'
 .exact h j h'
 .have:j=k:=aD
  subst this;exact hk
theorem Mj (l:List ByteArray)(hs:∀ s∈l,s.size<=100000):Pure Tryz.prog 354 [s9 l] (dI (n3 l)):=by
 refine Tz.pK ⟨λ_=>false,λ_=>[]⟩ Tryz.func354 rfl (λQ hQ=>?_)
 have Y:=trivial
 refine fA (λh1=>?_) λh1=>?_
 .exact wv (h:=hQ _ _ (by simp [go_sem,n3,(aD:20<l.length)]))
 .refine wv (h:=bD (λi e H=>(e 0=s9 l/\e 3=dI i)/\(i<=l.length)/\(nI (l.take i) (l.drop i)=n3 l)) (λi=>l.length - i) 0 ⟨wg,wi,(by simp [n3,(aD:¬ 20<l.length)])⟩ λI0 hI0 i e H hi0=>?_)
  obtain ⟨E0,hi,hn⟩:=hi0
  have Y:=wa Y E0
  refine fA (λh4=>?_) λh4=>?_
  .rw [eE h4] at hn
   have hsz:=hs _ (aC h4)
   have Y:=wa Y h4
   refine wo (h:=aB (oY _ (by assumption)) wl ?_)
   refine fA (λh6=>?_) λh6=>?_
   .exact wv (h:=hQ _ _ (by rw [<- hn];simp [go_sem,nI,h6]))
   .refine wv (h:=bD (λk e H=>(e 0=s9 l/\e 3=dI i/\e 4=dI k)/\(k<=i)/\(∀ j,j<k->l[j]?≠some l[i])) (λk=>i - k) 0 ⟨wg,wi,(by intro j hj;omega)⟩ λI2 hI2 k e H hi2=>?_)
    obtain ⟨E2,hk,hne⟩:=hi2
    have Y:=wa Y E2
    refine dP (λh9=>?_) λh9=>?_
    .have hkl:k<l.length:=aD
     have Y:=wa Y (wa h9 hkl)
     refine fA (λh11=>?_) λh11=>?_
     .exact wv (h:=hQ _ _ (by have hm:mem (l.take i) l[i]=true:=(ME h4).2 ⟨k,h9,by rw [aA hkl,h11]⟩;rw [<- hn];simp [go_sem,nI,h6,hm]))
     .exact wo (h:=wx hI2 (k+1) ⟨wg,wj,(by exact iQ hne (by rw [aA hkl];simpa using h11))⟩)
    .have hm:¬ mem (l.take i) l[i]=true:=λhm=>by
      obtain ⟨j,hj,he⟩:=(ME h4).1 hm
      exact hne j aD he
     exact wo (h:=wx hI0 (i+1) ⟨wg,wj,(by rw [<- hn,nI,if_neg (by simp [h6]),if_neg hm,aE h4])⟩)
  .exact wv (h:=hQ _ _ (by rw [<- hn,(aD:i=l.length)];simp [go_sem,nI]))
def Ei (x:Attr):Int :=
 if n3 x.names≠0 then n3 x.names
 else if (if 0<x.names.length then decide (x.low=0)&&decide (x.high=x.names.length - 1) else decide (-1000000<=x.low)&&decide (x.low<=x.high)&&decide (x.high<=1000000))=true then 0 else 6
theorem EA (x:Attr)(g:x.ok):Pure Tryz.prog 277 [.agg x.c] (dI (Ei x)):=by
 have i:=g.few
 have f:x.names=[]->n3 x.names=0:=λh=>by rw [h];rfl
 refine Tz.pK ⟨λ_=>false,λ_=>[]⟩ Tryz.func277 rfl (λQ a=>?_)
 have Y:=trivial
 refine fA (λd=>?_) λd=>?_
 .have hp:¬ 0<x.names.length:=by simp [d]
  refine wo (h:=aB (nQ _ _ _) wl ?_)
  refine wo (h:=aH (λj=>nQ _ _ _) (λj=>wl) ?_)
  refine fA (λe=>?_) λe=>?_
  .exact wv (h:=a _ _ (by simp [go_sem,Ei,f d,hp];simp [inF] at e;omega))
  .exact wv (h:=a _ _ (by simp [go_sem,Ei,f d,hp];simp [inF] at e;omega))
 .have hp:0<x.names.length:=by cases l:x.names<;>simp_all
  refine wv (h:=aB (Mj x.names g.names) wl ?_)
  refine dP (λb=>?_) λb=>?_
  .exact wv (h:=a _ _ (by simp [go_sem,Ei,b]))
  .refine fA (λk=>?_) λk=>?_
   .exact wv (h:=a _ _ (by simp [go_sem,Ei,b,hp];omega))
   .exact wv (h:=a _ _ (by simp [go_sem,Ei,b,hp];omega))
theorem Dv (t:Types)(a:Nat)(b:a<t.nodes.length)(c:parentsOK t.nodes a) :
  t.attrs a=(if 0<=t.nodes[a].parent then t.attrs t.nodes[a].parent.toNat else [])++t.nodes[a].attrs:=by
 have e:=c a _ (bC _) (aA b)
 by_cases d:0<=t.nodes[a].parent
 .have hlt:t.nodes[a].parent.toNat<a:=aD
  have:=Eg t.nodes t.nodes[a].parent.toNat a (t.nodes[a].parent.toNat+1) (λj m g f=>c j m aD f) hlt aD
  simp [Types.attrs,mS,aA b,d,this]
 .simp [Types.attrs,mS,aA b,d]
theorem Kp (t:Types)(a:Int)(b:a<0):Pure Tryz.prog 125 [t.d,dI a] (.list []):=by
 refine Tz.pK ⟨λt=>t==7,λr=>match r with|3=>[(0,1),(0,2),(0,3),(0,5),(0,6),(0,7),(0,8),(0,10),(9,10),(0,11),(9,11),(0,13),(9,13),(0,14),(9,14),(0,15),(9,15)]|_=>[]⟩ Tryz.func125 rfl (λQ c=>?_)
 have Y:=b
 exact wv (h:=c _ _ wy)
theorem DY (t:Types)(k:t.ok):∀ a:Nat,a<t.nodes.length->parentsOK t.nodes a->Pure Tryz.prog 125 [t.d,dI a] (.list ((t.attrs a).map Attr.c)):=by
 intro a
 induction a using Nat.strongRecOn with
 | _ a ih =>
 intro f g
 have o:=g a _ (bC _) (aA f)
 have b:=sU t.nodes (λn p=>(k.nodes n p).few) (a+1) a
 have l:=k.fewN
 have e:=Dv t a f g
 have v:Pure Tryz.prog 125 [t.d,dI t.nodes[a].parent] (.list (((if 0<=t.nodes[a].parent then t.attrs t.nodes[a].parent.toNat else [])).map Attr.c)):=by
  by_cases i:0<=t.nodes[a].parent
  .rw [if_pos i]
   have:=ih t.nodes[a].parent.toNat aD aD (λj m y q=>g j m aD q)
   rwa [Int.toNat_of_nonneg i] at this
  .rw [if_neg i]
   exact Kp t _ aD
 have s:(if 0<=t.nodes[a].parent then t.attrs t.nodes[a].parent.toNat else []).length+t.nodes[a].attrs.length<=2000000:=by
  have x:(t.attrs a).length<=1000 * (a+1):=b
  rw [e,aL] at x
  omega
 rw [e]
 generalize (if 0<=t.nodes[a].parent then t.attrs t.nodes[a].parent.toNat else [])=u at *
 refine Tz.pK ⟨λt=>t==7,λr=>match r with|3=>[(0,1),(0,2),(0,3),(0,5),(0,6),(0,7),(0,8),(0,10),(9,10),(0,11),(9,11),(0,13),(9,13),(0,14),(9,14),(0,15),(9,15)]|_=>[]⟩ Tryz.func125 rfl (λQ w=>?_)
 have Y:=wa (aA f) (wa f ((show ¬ ((a:Int)<0) by omega)))
 refine wo (h:=aI (v) wl ?_)
 exact wo (h:=w _ _ wy)
theorem DX (b a:Int):Pure Tryz.prog 278 [dI b,dI a] (.bool (boundedF b a)):=by
 refine Tz.pK ⟨λ_=>false,λ_=>[]⟩ Tryz.func278 rfl (λQ d=>?_)
 have Y:=trivial
 refine wo (h:=aB (nQ _ _ _) wl ?_)
 refine wo (h:=aH (λc=>nQ _ _ _) (λc=>wl) ?_)
 have Y:=wa Y (wa @boundedF.eq_1 @inF.eq_1)
 exact wo (h:=d _ _ wy)
theorem uA {α:Type}{l:List α}{p:α->Bool}{k i:Nat}(hk:k<i)(hl:k<l.length)(h:p l[k]=true):(l.take i).any p=true :=
 aX.2 ⟨l[k],Em.2 ⟨k,aD,rfl⟩,h⟩
theorem rQ {α:Type}{l:List α}{p:α->Bool}{k i:Nat}(h:(l.take k).any p=false)(a:k=i):(l.take i).any p=false:=by rw [<- a];exact h
def AO (l:List Attr)(k:Nat):Int:=match l[k]? with|some x=>dN x (l.take k)|none=>0
theorem SU {l:List Attr}{k:Nat}(h:k<l.length):AO l k=if mA l[k].name=false then 2 else if ((l.take k).any λy=>decide (y.name=l[k].name))=true then 5 else Ei l[k]:=by
 unfold AO;rw [aA h];rfl
theorem eI (f:Nat->Int){k n:Nat}(h:k<n):bQ f k (n - k)=if f k≠0 then f k else bQ f (k+1) (n - (k+1)):=by
 rw [(aD:n - k=n - (k+1)+1),bQ]
theorem B8 (t:Types)(i:Nat)(a:i<t.nodes.length):g8 t i =
  if mA t.nodes[i].name=false then 2
  else if ((t.nodes.take i).any λm=>decide (m.name=t.nodes[i].name))=true then 5
  else if (decide (t.nodes[i].parent < -1)||decide ((i:Int)<=t.nodes[i].parent))=true then 6
  else if 4<t.nodes[i].attrs.length then 3
  else if 8<(t.attrs i).length then 3
  else bQ (AO (t.attrs i)) ((t.attrs i).length - t.nodes[i].attrs.length) t.nodes[i].attrs.length:=by
 unfold g8;rw [aA a];rfl
theorem Ox (t:Types)(ht:t.ok)(i:Nat)(hi:i<t.nodes.length)(hp:∀ j n,j<i->t.nodes[j]?=some n->n.parent<j):Pure Tryz.prog 195 [t.d,dI i] (dI (g8 t i)):=by
 have hno:=ht.nodes _ (aC hi)
 have hfew:=ht.fewN
 have hF:=B8 t i hi
 have hok:∀ x∈t.attrs i,x.ok:=vT t.nodes ht.nodes _ _
 have hal:=sU t.nodes (λn hn=>(ht.nodes n hn).few) (i+1) i
 have hle:t.nodes[i].attrs.length<=(t.attrs i).length:=by simp [Types.attrs,mS,aA hi]
 refine Tz.pK ⟨λt=>t==5,λ_=>[]⟩ Tryz.func195 rfl (λQ hQ=>?_)
 have Y:=wa (aA hi) hi
 refine wo (h:=aB (oY _ hno.name) wl ?_)
 refine fA (λh2=>?_) λh2=>?_
 .exact wv (h:=hQ _ _ (.inl (by simp [go_sem,hF,h2])))
 .refine wv (h:=bD (λk e H=>(e 1=dI i/\e 2=.adr t.c/\e 5=.ptr 0 1 0 0/\e 6=dI k)/\(H.get 0=some ⟨172,4,[t.nodes[i].c],false⟩)/\(0<H.next)/\(k<=i)/\(((t.nodes.take k).any λm=>decide (m.name=t.nodes[i].name))=false)) (λk=>i - k) 0 ⟨wg,wn,wn,wi,bW⟩ λI0 hI0 k e H hi0=>?_)
  obtain ⟨E0,g0_0,n0_0,hk,hne⟩:=hi0
  have Y:=wa Y (wa E0 (wa g0_0 (b8 n0_0)))
  refine dP (λh5=>?_) λh5=>?_
  .have hkl:k<t.nodes.length:=aD
   have Y:=wa Y (wa h5 hkl)
   refine fA (λh7=>?_) λh7=>?_
   .exact wv (h:=hQ _ _ (.inl (by have hb:=uA (p:=λm:NodeTy=>decide (m.name=t.nodes[i].name)) h5 hkl (bX h7);rw [hF,if_neg (by simp [h2]),if_pos hb];simp [go_sem])))
   .exact wo (h:=wx hI0 (k+1) ⟨wg,wn,wn,wj,(by rw [dU _ _ _ hkl,hne];simpa using h7)⟩)
  .have hb:=rQ hne (aD:k=i)
   refine wo (h:=aB (nQ _ _ _) wl ?_)
   refine fA (λh9=>?_) λh9=>?_
   .exact wv (h:=hQ _ _ (.inl (by rw [hF,if_neg (by simp [h2]),if_neg (by simp [hb]),if_pos (by simp [inF] at h9;simp;omega)];simp [go_sem])))
   .have hr:¬ (decide (t.nodes[i].parent < -1)||decide ((i:Int)<=t.nodes[i].parent))=true:=by simp [inF] at h9;simp;omega
    have hpo:parentsOK t.nodes i:=λj n hj hn=>by
     rcases b6 j i with h|h
     .exact hp j n h hn
     .have:j=i:=aD
      subst this
      rw [aA hi] at hn
      cases hn;simp at hr;omega
    refine wv (h:=aB (DY t ht i hi hpo) wl ?_)
    refine fA (λh12=>?_) λh12=>?_
    .exact wv (h:=hQ _ _ (.inl (by rw [hF,if_neg (by simp [h2]),if_neg (by simp [hb]),if_neg hr];simp [go_sem];omega)))
    .have hF2:g8 t i=bQ (AO (t.attrs i)) ((t.attrs i).length - t.nodes[i].attrs.length) t.nodes[i].attrs.length:=by rw [hF,if_neg (by simp [h2]),if_neg (by simp [hb]),if_neg hr,if_neg aD,if_neg aD]
     refine wo (h:=bD (λk e H=>(e 1=dI i/\e 2=.adr t.c/\e 7=.list ((t.attrs i).map Attr.c)/\e 8=dI k)/\(k<=(t.attrs i).length)/\(bQ (AO (t.attrs i)) k ((t.attrs i).length - k)=g8 t i)) (λk=>(t.attrs i).length - k) ((t.attrs i).length - t.nodes[i].attrs.length) ⟨wg,aD,(by rw [hF2];congr 1;omega)⟩ λI2 hI2 k e H hi2=>?_)
     obtain ⟨E2,hk,hFk⟩:=hi2
     have Y:=wa Y E2
     refine fA (λh15=>?_) λh15=>?_
     .have hst:=eI (AO (t.attrs i)) h15
      rw [hFk] at hst
      have hE:=SU h15
      have Y:=wa Y h15
      refine wo (h:=aB (oY _ (hok _ (aC h15)).name) wl ?_)
      refine fA (λh17=>?_) λh17=>?_
      .refine wv (h:=?_)
       have hE2:AO (t.attrs i) k=2:=by rw [hE,if_pos (by simp [h17])]
       exact hQ _ _ (.inl (by rw [hst,hE2];simp [go_sem]))
      .refine wv (h:=bD (λj e H=>(e 1=dI i/\e 2=.adr t.c/\e 7=.list ((t.attrs i).map Attr.c)/\e 8=dI k/\e 9=dI j)/\(j<=k)/\((((t.attrs i).take j).any λy=>decide (y.name=(t.attrs i)[k].name))=false)) (λj=>k - j) 0 ⟨wg,wi,bW⟩ λI4 hI4 j e H hi4=>?_)
       obtain ⟨E4,hj,hne⟩:=hi4
       have Y:=wa Y E4
       refine dP (λh20=>?_) λh20=>?_
       .have hjl:j<(t.attrs i).length:=aD
        have Y:=wa Y (wa h20 hjl)
        refine fA (λh22=>?_) λh22=>?_
        .refine wv (h:=?_)
         have hb:=uA (p:=λy:Attr=>decide (y.name=(t.attrs i)[k].name)) h20 hjl (bX h22)
         have hE2:AO (t.attrs i) k=5:=by rw [hE,if_neg (by simp [h17]),if_pos hb]
         exact hQ _ _ (.inl (by rw [hst,hE2];simp [go_sem]))
        .exact wo (h:=wx hI4 (j+1) ⟨wg,wj,(by rw [dU _ _ _ hjl,hne];simpa using h22)⟩)
       .have hb2:=rQ hne (aD:j=k)
        have hE2:AO (t.attrs i) k=Ei (t.attrs i)[k]:=by rw [hE,if_neg (by simp [h17]),if_neg (by simp [hb2])]
        rw [hE2] at hst
        refine wo (h:=aB (EA _ (hok _ (aC h15))) wl ?_)
        refine fA (λh25=>?_) λh25=>?_
        .exact wv (h:=hQ _ _ (.inl (by rw [hst,if_pos (bX h25)];simp [go_sem])))
        .exact wo (h:=wx hI2 (k+1) ⟨wg,wj,(by rw [if_neg (by simp [h25])] at hst;rw [<- hst])⟩)
     .exact wv (h:=hQ _ _ (.inl (by rw [<- hFk,(aD:(t.attrs i).length - k=0)];rfl)))
end Go.Abs
end
