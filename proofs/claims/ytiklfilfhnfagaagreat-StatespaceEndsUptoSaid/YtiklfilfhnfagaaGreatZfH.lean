/- Layer 4: types. · Layer 4: types, continued. · Layer 4: type -/
import Derived.Test.YtiklfilfhnfagaaGreatZfG
import Derived.Test.YtiklfilfhnfagaaGreatZfF
import Derived.Test.YtiklfilfhnfagaaGreatZfA
set_option linter.unusedVariables false
set_option linter.unusedSimpArgs false
section
set_option maxRecDepth 100000
set_option maxHeartbeats 4000000
open Go Go.Proofs
namespace Go.Abs
def xF {α:Type}(xs:List α)(p:α→Bool):Int:=match xs.findIdx? p with|some i=>i|none=>-1
theorem lX {α:Type}{xs:List α}{p:α→Bool}{i:Nat}(h:∀ j x,j<i→xs[j]?=some x→p x=false)(hi:i<xs.length)(hp:p xs[i]=true):xF xs p=i:=by
 have:xs.findIdx? p=some i:=by
  rw [fC]
  exact ⟨hi,hp,fun j hj=>by simp [h j _ hj (aA (by omega))]⟩
 simp [xF,this]
theorem lY {α:Type}{xs:List α}{p:α→Bool}(h:∀ j x,j<xs.length→xs[j]?=some x→p x=false):xF xs p = -1:=by
 have:xs.findIdx? p=none:=by
  rw [qG]
  intro x hx
  obtain ⟨j,hj,rfl⟩:=aM hx
  exact h j _ hj (aA hj)
 simp [xF,this]
theorem pC {α:Type}(xs:List α)(p:α→Bool):decide (0≤xF xs p)=xs.any p:=by
 unfold xF
 cases h:xs.findIdx? p with
 | none =>
  rw [qG] at h
  have:xs.any p=false:=by simpa using h
  simp [this]
 | some i =>
  rw [fC] at h
  obtain ⟨hi,hv,_⟩:=h
  have:xs.any p=true:=bX.2 ⟨xs[i],aC hi,hv⟩
  simp [this]
theorem Ff (xs:List Attr)(g:FuncId)(caps:List D)(p:Attr→Bool)(hc:D.clL caps=true)(hg:∀ x∈xs,Pure Tryz.prog g (.agg x.c :: caps) (.bool (p x))) :
  Pure Tryz.prog 172 [.list (xs.map Attr.c),.fn g caps] (dI (xF xs p)):=by
 refine aU (aH (cfg:=⟨fun _=>false,fun _=>[]⟩) Tz.mixed Tryz.func172 rfl rfl (aD rfl) (by kernel_rfl) ?_)
 simp [go_sem,seval,dI,dLI]
 intro hlen
 refine f9 (ι:=Nat) (fun i e H=>H=.emp∧i≤xs.length∧e 0=.list (xs.map Attr.c)∧e 1=.fn g caps∧e 7=dI xs.length∧e 8=dI i∧(∀ j x,j<i→xs[j]?=some x→p x=false)) (fun i=>xs.length - i) 0 (by simp [go_sem,seval,dI,dLI]) ?_
 intro i e H ⟨hH,hi,h0,h1,h7,h8,hn⟩
 subst hH
 simp [go_sem,seval,h0,h1,h7,h8,dI,dLI]
 refine gB (fun hlt=>?_) (fun hge=>?_)
 ·have hgx:=hg xs[i] (aC hlt)
  simp [go_sem,seval,h0,h1,h7,h8,dI,dLI,hlt,Attr.c] at hgx ⊢
  refine aB hgx (by simp [go_sem,hc]) ?_
  simp [go_sem,seval,h0,h1,h7,h8,dI,dLI]
  refine aP (fun h=>?_) (fun h=>?_)
  ·simp [go_sem,seval,h0,h1,h7,h8,dI,dLI]
   rw [lX hn hlt h]
  ·simp [go_sem,seval,h0,h1,h7,h8,dI,dLI]
   refine ⟨eO (by omega) (by omega),i+1,by omega,by omega,by omega,fun j x hj hx=>?_⟩
   rcases bQ j i with hj'|hj'
   ·exact hn j x hj' hx
   ·have:j=i:=by omega
    subst this
    rw [aA hlt] at hx
    cases hx;exact h
 ·simp [go_sem,seval,h0,h1,h7,h8,dI,dLI]
  rw [lY fun j x hj=>hn j x (by omega)]
theorem Bd (xs:List Attr)(g:FuncId)(caps:List D)(p:Attr→Bool)(hc:D.clL caps=true)(hl:D.cl (.list (xs.map Attr.c))=true)(hg:∀ x∈xs,Pure Tryz.prog g (.agg x.c :: caps) (.bool (p x))) :
  Pure Tryz.prog 130 [.list (xs.map Attr.c),.fn g caps] (.bool (xs.any p)):=by
 refine aU (aH (cfg:=⟨fun _=>false,fun _=>[]⟩) Tz.mixed Tryz.func130 rfl rfl (aD rfl) (by kernel_rfl) ?_)
 simp [go_sem,seval]
 refine aB (Ff xs g caps p hc hg) (by simp only [D.clL,hl,gL];simp [D.cl,hc]) ?_
 simp [go_sem,seval,dI,pC]
theorem rF (l:List Attr):D.clLL (l.map Attr.c)=true:=cE _ Attr.cl l
def qT (l:List ByteArray):List ByteArray→Int
 | []=>0
 | s :: r=>if pM s=false then 2 else if mem l s=true then 5 else qT (l++[s]) r
def wX (l:List ByteArray):Int:=if 20<l.length then 3 else qT [] l
theorem Jy (l:List ByteArray)(hs:∀ s∈l,s.size≤100000):Pure Tryz.prog 132 [yV l] (dI (wX l)):=by
 refine aU (aH (cfg:=⟨fun _=>false,fun _=>[]⟩) Tz.mixed Tryz.func132 rfl rfl (aD rfl) (by kernel_rfl) ?_)
 simp [go_sem,seval,dI,yV]
 intro hlen
 refine aP (fun h=>?_) (fun h=>?_)
 ·simp at h
  simp [go_sem,seval,wX,show 20<l.length by omega]
 ·simp at h
  simp [go_sem,seval,wX,show ¬ 20<l.length by omega]
  intro hlen2
  refine f9 (ι:=Nat) (fun i e H=>H=.emp∧i≤l.length∧e 0=yV l∧e 8=yV l∧e 9=dI l.length∧e 10=dI i∧qT (l.take i) (l.drop i)=qT [] l) (fun i=>l.length - i) 0 (by simp [go_sem,seval,dI,yV]) ?_
  intro i e H ⟨hH,hi,h0,h8,h9,h10,hn⟩
  subst hH
  simp [go_sem,seval,h0,h8,h9,h10,dI,yV]
  refine gB (fun hlt=>?_) (fun hge=>?_)
  ·rw [List.drop_eq_getElem_cons hlt] at hn
   have hsz:=hs _ (aC hlt)
   simp [go_sem,seval,h0,h8,h9,h10,dI,yV,hlt,cS]
   refine aB (nJ _ hsz) rfl ?_
   simp [go_sem,seval]
   refine aP (fun hc=>?_) (fun hc=>?_)
   ·simp at hc
    simp [go_sem,seval]
    rw [← hn];simp [qT,hc]
   ·simp at hc
    simp [go_sem,seval,h0,h8,h9,h10,dI,yV]
    have hcs:=A9 (l.take i) l[i]
    simp only [yV,List.map_take] at hcs
    have hcl:D.clLL (List.take i (List.map cS l))=true:=by rw [← List.map_take];exact cE cS (fun _=>rfl) _
    refine ⟨⟨hi,by cases l<;>simp [cS]⟩,aB hcs (by simp [D.clL,D.cl,hcl]) ?_⟩
    simp [go_sem,seval,h0,h8,h9,h10,dI,yV]
    refine aP (fun hm=>?_) (fun hm=>?_)
    ·simp [go_sem,seval]
     rw [← hn];simp [qT,hc,hm]
    ·simp [go_sem,seval,h0,h8,h9,h10,dI,yV]
     refine ⟨eO (by omega) (by omega),i+1,by omega,by omega,by omega,?_⟩
     rw [← hn,qT,if_neg (by simp [hc]),if_neg (by simp [hm]),aG hlt]
  ·simp [go_sem,seval,h0,h8,h9,h10,dI,yV]
   rw [← hn,show i=l.length by omega];simp [qT]
theorem BD (x y:Attr):Pure Tryz.prog 131 [.agg y.c,.adr x.c] (.bool (decide (y.name=x.name))):=by
 refine aU (aH (cfg:=⟨fun _=>false,fun _=>[]⟩) Tz.mixed Tryz.func131 rfl rfl (aD rfl) (by kernel_rfl) ?_)
 simp [go_sem,seval,Attr.c,dI,yV]
structure Attr.ok (x:Attr):Prop where
 name:x.name.size≤100000
 names:∀ s∈x.names,s.size≤100000
 few:x.names.length≤1000
def cZ (x:Attr)(before:List Attr):Int :=
 if pM x.name=false then 2
 else if (before.any fun y=>decide (y.name=x.name))=true then 5
 else if wX x.names≠0 then wX x.names
 else if (if 0<x.names.length then decide (x.low=0)&&decide (x.high=x.names.length - 1) else decide (-1000000≤x.low)&&decide (x.low≤x.high)&&decide (x.high≤1000000))=true then 0 else 6
theorem Db (x:Attr)(before:List Attr)(hx:x.ok):Pure Tryz.prog 90 [.agg x.c,.list (before.map Attr.c)] (dI (cZ x before)):=by
 refine aU (aH (cfg:=⟨fun _=>false,fun _=>[]⟩) Tz.mixed Tryz.func90 rfl rfl (aD rfl) (by kernel_rfl) ?_)
 simp [go_sem,seval,dI,yV,Attr.c]
 refine aB (nJ _ hx.name) rfl ?_
 simp [go_sem,seval]
 refine aP (fun hn=>?_) (fun hn=>?_)
 ·simp at hn
  simp [go_sem,seval,cZ,hn]
 ·simp at hn
  simp [go_sem,seval]
  have hc:=Bd before 131 [.adr x.c] (fun y=>decide (y.name=x.name)) (by simp [D.clL,D.cl,Attr.cl]) (by simp [D.cl,rF]) (fun y _=>BD x y)
  simp only [Attr.c,dI,yV] at hc
  have hcS:D.clLL (List.map cS x.names)=true:=cE cS (fun _=>rfl) _
  refine aB hc (by simp [D.clL,D.cl,rF,hcS]) ?_
  simp [go_sem,seval]
  refine aP (fun hb=>?_) (fun hb=>?_)
  ·simp [go_sem,seval,cZ,hn,hb]
  ·simp [go_sem,seval]
   have hnm:=Jy x.names hx.names
   simp only [yV,dI] at hnm
   refine aB hnm (by simp [D.clL,D.cl,hcS]) ?_
   simp [go_sem,seval]
   have hfew:=hx.few
   refine aP (fun hz=>?_) (fun hz=>?_)
   ·simp at hz
    simp [go_sem,seval,cZ,hn,hb,hz]
   ·simp at hz
    simp [go_sem,seval]
    intro hlen
    refine aP (fun hp=>?_) (fun hp=>?_)
    ·have hp':0<x.names.length:=by simp at hp;omega
     simp [go_sem,seval]
     refine fun _=>⟨fun _=>eO (by omega) (by omega),aP (fun ho=>?_) (fun ho=>?_)⟩
     ·have e:cZ x before=6:=by unfold cZ;rw [if_neg (by simp [hn]),if_neg (by simp [hb]),if_neg (by simp [hz]),if_pos hp',if_neg (by simp at ho ⊢;omega)]
      simp [go_sem,seval,e]
     ·have e:cZ x before=0:=by unfold cZ;rw [if_neg (by simp [hn]),if_neg (by simp [hb]),if_neg (by simp [hz]),if_pos hp',if_pos (by simp at ho ⊢;omega)]
      simp [go_sem,seval,e]
    ·have hp':¬ 0<x.names.length:=by simp at hp;simp [hp]
     simp [go_sem,seval]
     refine aP (fun ho=>?_) (fun ho=>?_)
     ·have e:cZ x before=6:=by unfold cZ;rw [if_neg (by simp [hn]),if_neg (by simp [hb]),if_neg (by simp [hz]),if_neg hp',if_neg (by simp at ho ⊢;omega)]
      simp [go_sem,seval,e]
     ·have e:cZ x before=0:=by unfold cZ;rw [if_neg (by simp [hn]),if_neg (by simp [hb]),if_neg (by simp [hz]),if_neg hp',if_pos (by simp at ho ⊢;omega)]
      simp [go_sem,seval,e]
structure NodeTy.ok (n:NodeTy):Prop where
 name:n.name.size≤100000
 attrs:∀ x∈n.attrs,x.ok
 few:n.attrs.length≤1000
structure EdgeTy.ok (x:EdgeTy):Prop where
 name:x.name.size≤100000
structure Types.ok (t:Types):Prop where
 nodes:∀ n∈t.nodes,n.ok
 edges:∀ x∈t.edges,x.ok
 fewN:t.nodes.length≤1000
 fewE:t.edges.length≤1000
def mE (nodes:List NodeTy):Nat→Nat→List Attr
 | 0,_=>[]
 | f+1,a=>match nodes[a]? with
  | none=>[]
  | some n=>(if 0≤n.parent then mE nodes f n.parent.toNat else [])++n.attrs
def Types.attrs (t:Types)(a:Nat):List Attr:=mE t.nodes (a+1) a
theorem Am (nodes:List NodeTy)(h:∀ n∈nodes,n.attrs.length≤1000):∀ f a,(mE nodes f a).length≤1000 * f
 | 0,a=>by simp [mE]
 | f+1,a=>by
  unfold mE
  split
  ·simp
  ·rename_i n hn
   have:=h n (aJ hn)
   have h2:=Am nodes h f n.parent.toNat
   simp only [aT]
   split<;>simp<;>omega
@[go_sem] theorem Attr.len (a:Attr):a.c.length=4:=rfl
theorem Attr.cells (a:Attr):∀ x∈a.c,x.cell=true:=by simp [Attr.c,D.cell,dI,yV]
def parentsOK (nodes:List NodeTy)(a:Nat):Prop:=∀ j n,j≤a→nodes[j]?=some n→n.parent<j
theorem C7 (nodes:List NodeTy):∀ a f g,parentsOK nodes a→a<f→a<g→mE nodes f a=mE nodes g a:=by
 intro a
 induction a using Nat.strongRecOn with
 | _ a ih =>
  intro f g hp hf hg
  obtain ⟨f,rfl⟩:∃ f',f=f'+1:=⟨f - 1,by omega⟩
  obtain ⟨g,rfl⟩:∃ g',g=g'+1:=⟨g - 1,by omega⟩
  unfold mE
  split
  ·rfl
  ·rename_i n hn
   have:=hp a n (aL _) hn
   congr 1
   split
   ·exact ih n.parent.toNat (by omega) f g (fun j m hj hm=>hp j m (by omega) hm) (by omega) (by omega)
   ·rfl
theorem CD (t:Types)(ht:t.ok):∀ a,a<t.nodes.length→parentsOK t.nodes a→Own Tryz.prog 89 [t.d,dI a] 149 4 ((t.attrs a).map Attr.c):=by
 intro a
 induction a using Nat.strongRecOn with
 | _ a ih =>
  intro ha hp
  have hpa:=hp a _ (aL _) (aA ha)
  have hlen:=Am t.nodes (fun n hn=>(ht.nodes n hn).few) (a+1) a
  have hfew:=ht.fewN
  have hna:=(ht.nodes _ (aC ha)).few
  refine AP (aH (cfg:=⟨fun t=>t==5,fun _=>[]⟩) Tz.mixed Tryz.func89 rfl rfl (aD rfl) (by kernel_rfl) ?_)
  simp [go_sem,seval,dI,Types.d,Types.c,NodeTy.c,aA ha,ha]
  refine aP (fun h=>?_) (fun h=>?_)
  ·have h':0≤t.nodes[a].parent:=by simpa using h
   have hlt:t.nodes[a].parent.toNat<a:=by omega
   have hc:=ih _ hlt (by omega) (fun j m hj hm=>hp j m (by omega) hm)
   rw [Int.toNat_of_nonneg h'] at hc
   have e:t.attrs a=t.attrs t.nodes[a].parent.toNat++t.nodes[a].attrs:=by
    have:=C7 t.nodes t.nodes[a].parent.toNat a (t.nodes[a].parent.toNat+1) (fun j m hj hm=>hp j m (by omega) hm) hlt (by omega)
    simp [Types.attrs,mE,aA ha,h',this]
   have hlen2:=Am t.nodes (fun n hn=>(ht.nodes n hn).few) (t.nodes[a].parent.toNat+1) t.nodes[a].parent.toNat
   have hl3:(t.attrs t.nodes[a].parent.toNat).length≤2000000:=by
    have:(t.attrs t.nodes[a].parent.toNat).length≤1000 * (t.nodes[a].parent.toNat+1):=hlen2
    omega
   simp [go_sem,seval,dI,Types.d,Types.c,NodeTy.c,aA ha,ha] at hc ⊢
   refine kC hc (by simp [D.clL,D.cl,cE _ NodeTy.cl,cE _ EdgeTy.cl]) ?_
   simp [go_sem,seval,dI,Types.d,Types.c,NodeTy.c,aA ha,ha,e,rF]
   exact ⟨⟨by omega,fun x _ y hy=>Attr.cells x y hy⟩,by rw [← List.map_append];exact rF _⟩
  ·have h':¬ 0≤t.nodes[a].parent:=by simpa using h
   have e:t.attrs a=t.nodes[a].attrs:=by simp [Types.attrs,mE,aA ha,h']
   simp [go_sem,seval,dI,Types.d,Types.c,NodeTy.c,aA ha,ha,e,rF]
   exact ⟨by omega,fun x _ y hy=>Attr.cells x y hy⟩
attribute [go_sem] rF
@[go_sem] theorem XM (l:List ByteArray):D.clLL (l.map cS)=true:=cE cS (fun _=>rfl) l
theorem Fb (xs:List NodeTy)(g:FuncId)(caps:List D)(p:NodeTy→Bool)(hc:D.clL caps=true)(hg:∀ x∈xs,Pure Tryz.prog g (.agg x.c :: caps) (.bool (p x))) :
  Pure Tryz.prog 129 [.list (xs.map NodeTy.c),.fn g caps] (dI (xF xs p)):=by
 refine aU (aH (cfg:=⟨fun _=>false,fun _=>[]⟩) Tz.mixed Tryz.func129 rfl rfl (aD rfl) (by kernel_rfl) ?_)
 simp [go_sem,seval,dI,dLI]
 intro hlen
 refine f9 (ι:=Nat) (fun i e H=>H=.emp∧i≤xs.length∧e 0=.list (xs.map NodeTy.c)∧e 1=.fn g caps∧e 7=dI xs.length∧e 8=dI i∧(∀ j x,j<i→xs[j]?=some x→p x=false)) (fun i=>xs.length - i) 0 (by simp [go_sem,seval,dI,dLI]) ?_
 intro i e H ⟨hH,hi,h0,h1,h7,h8,hn⟩
 subst hH
 simp [go_sem,seval,h0,h1,h7,h8,dI,dLI]
 refine gB (fun hlt=>?_) (fun hge=>?_)
 ·have hgx:=hg xs[i] (aC hlt)
  simp [go_sem,seval,h0,h1,h7,h8,dI,dLI,hlt,NodeTy.c] at hgx ⊢
  refine aB hgx (by simp [go_sem,hc]) ?_
  simp [go_sem,seval,h0,h1,h7,h8,dI,dLI]
  refine aP (fun h=>?_) (fun h=>?_)
  ·simp [go_sem,seval,h0,h1,h7,h8,dI,dLI]
   rw [lX hn hlt h]
  ·simp [go_sem,seval,h0,h1,h7,h8,dI,dLI]
   refine ⟨eO (by omega) (by omega),i+1,by omega,by omega,by omega,fun j x hj hx=>?_⟩
   rcases bQ j i with hj'|hj'
   ·exact hn j x hj' hx
   ·have:j=i:=by omega
    subst this
    rw [aA hlt] at hx
    cases hx;exact h
 ·simp [go_sem,seval,h0,h1,h7,h8,dI,dLI]
  rw [lY fun j x hj=>hn j x (by omega)]
theorem Ba (xs:List NodeTy)(g:FuncId)(caps:List D)(p:NodeTy→Bool)(hc:D.clL caps=true)(hl:D.cl (.list (xs.map NodeTy.c))=true)(hg:∀ x∈xs,Pure Tryz.prog g (.agg x.c :: caps) (.bool (p x))) :
  Pure Tryz.prog 87 [.list (xs.map NodeTy.c),.fn g caps] (.bool (xs.any p)):=by
 refine aU (aH (cfg:=⟨fun _=>false,fun _=>[]⟩) Tz.mixed Tryz.func87 rfl rfl (aD rfl) (by kernel_rfl) ?_)
 simp [go_sem,seval]
 refine aB (Fb xs g caps p hc hg) (by simp only [D.clL,hl,gL];simp [D.cl,hc]) ?_
 simp [go_sem,seval,dI,pC]
theorem Fd (xs:List EdgeTy)(g:FuncId)(caps:List D)(p:EdgeTy→Bool)(hc:D.clL caps=true)(hg:∀ x∈xs,Pure Tryz.prog g (.agg x.c :: caps) (.bool (p x))) :
  Pure Tryz.prog 133 [.list (xs.map EdgeTy.c),.fn g caps] (dI (xF xs p)):=by
 refine aU (aH (cfg:=⟨fun _=>false,fun _=>[]⟩) Tz.mixed Tryz.func133 rfl rfl (aD rfl) (by kernel_rfl) ?_)
 simp [go_sem,seval,dI,dLI]
 intro hlen
 refine f9 (ι:=Nat) (fun i e H=>H=.emp∧i≤xs.length∧e 0=.list (xs.map EdgeTy.c)∧e 1=.fn g caps∧e 7=dI xs.length∧e 8=dI i∧(∀ j x,j<i→xs[j]?=some x→p x=false)) (fun i=>xs.length - i) 0 (by simp [go_sem,seval,dI,dLI]) ?_
 intro i e H ⟨hH,hi,h0,h1,h7,h8,hn⟩
 subst hH
 simp [go_sem,seval,h0,h1,h7,h8,dI,dLI]
 refine gB (fun hlt=>?_) (fun hge=>?_)
 ·have hgx:=hg xs[i] (aC hlt)
  simp [go_sem,seval,h0,h1,h7,h8,dI,dLI,hlt,EdgeTy.c] at hgx ⊢
  refine aB hgx (by simp [go_sem,hc]) ?_
  simp [go_sem,seval,h0,h1,h7,h8,dI,dLI]
  refine aP (fun h=>?_) (fun h=>?_)
  ·simp [go_sem,seval,h0,h1,h7,h8,dI,dLI]
   rw [lX hn hlt h]
  ·simp [go_sem,seval,h0,h1,h7,h8,dI,dLI]
   refine ⟨eO (by omega) (by omega),i+1,by omega,by omega,by omega,fun j x hj hx=>?_⟩
   rcases bQ j i with hj'|hj'
   ·exact hn j x hj' hx
   ·have:j=i:=by omega
    subst this
    rw [aA hlt] at hx
    cases hx;exact h
 ·simp [go_sem,seval,h0,h1,h7,h8,dI,dLI]
  rw [lY fun j x hj=>hn j x (by omega)]
theorem Bb (xs:List EdgeTy)(g:FuncId)(caps:List D)(p:EdgeTy→Bool)(hc:D.clL caps=true)(hl:D.cl (.list (xs.map EdgeTy.c))=true)(hg:∀ x∈xs,Pure Tryz.prog g (.agg x.c :: caps) (.bool (p x))) :
  Pure Tryz.prog 92 [.list (xs.map EdgeTy.c),.fn g caps] (.bool (xs.any p)):=by
 refine aU (aH (cfg:=⟨fun _=>false,fun _=>[]⟩) Tz.mixed Tryz.func92 rfl rfl (aD rfl) (by kernel_rfl) ?_)
 simp [go_sem,seval]
 refine aB (Fd xs g caps p hc hg) (by simp only [D.clL,hl,gL];simp [D.cl,hc]) ?_
 simp [go_sem,seval,dI,pC]
@[go_sem] theorem tM (l:List NodeTy):D.clLL (l.map NodeTy.c)=true:=cE _ NodeTy.cl l
@[go_sem] theorem tV (l:List EdgeTy):D.clLL (l.map EdgeTy.c)=true:=cE _ EdgeTy.cl l
theorem Jw (x y:NodeTy):Pure Tryz.prog 88 [.agg y.c,.adr x.c] (.bool (decide (y.name=x.name))):=by
 refine aU (aH (cfg:=⟨fun _=>false,fun _=>[]⟩) Tz.mixed Tryz.func88 rfl rfl (aD rfl) (by kernel_rfl) ?_)
 simp [go_sem,seval,NodeTy.c,dI,yV]
theorem Cr (nodes:List NodeTy)(h:∀ n∈nodes,n.ok):∀ f a,∀ x∈mE nodes f a,x.ok
 | 0,a,x,hx=>by simp [mE] at hx
 | f+1,a,x,hx=>by
  unfold mE at hx
  split at hx
  ·simp at hx
  ·rename_i n hn
   rcases aW.1 hx with hx|hx
   ·split at hx
    ·exact Cr nodes h f _ x hx
    ·simp at hx
   ·exact (h n (aJ hn)).attrs x hx
def bY (f:Nat→Int):Nat→Nat→Int
 | _,0=>0
 | k,n+1=>if f k≠0 then f k else bY f (k+1) n
def iT (t:Types)(i:Nat):Int :=
 match t.nodes[i]? with
 | none=>0
 | some n =>
  if pM n.name=false then 2
  else if ((t.nodes.take i).any fun m=>decide (m.name=n.name))=true then 5
  else if (decide (n.parent < -1)||decide ((i:Int)≤n.parent))=true then 6
  else if 4<n.attrs.length then 3
  else if 8<(t.attrs i).length then 3
  else bY (fun k=>match (t.attrs i)[k]? with|some x=>cZ x ((t.attrs i).take k)|none=>0) ((t.attrs i).length - n.attrs.length) n.attrs.length
theorem LF (t:Types)(ht:t.ok)(i:Nat)(hi:i<t.nodes.length)(hp:∀ j n,j<i→t.nodes[j]?=some n→n.parent<j):Pure Tryz.prog 52 [t.d,dI i] (dI (iT t i)):=by
 have hno:=ht.nodes _ (aC hi)
 refine aU (aH (cfg:=⟨fun t=>t==5,fun _=>[]⟩) Tz.mixed Tryz.func52 rfl rfl (aD rfl) (by kernel_rfl) ?_)
 simp [go_sem,seval,dI,Types.d,Types.c,NodeTy.c,aA hi,hi]
 refine aB (nJ _ hno.name) rfl ?_
 simp [go_sem,seval]
 refine aP (fun hn=>?_) (fun hn=>?_)
 ·simp at hn
  simp [go_sem,seval,iT,aA hi,hn]
 ·simp at hn
  simp [go_sem,seval]
  have hc:=Ba (t.nodes.take i) 88 [.adr t.nodes[i].c] (fun y=>decide (y.name=t.nodes[i].name)) (by simp [D.clL,D.cl,NodeTy.cl]) (by rw [D.cl];exact tM _) (fun y _=>Jw t.nodes[i] y)
  refine ⟨⟨by omega,by cases t.nodes<;>simp [NodeTy.c]⟩,lO hc (by simp [Dg,BQ,fU,go_sem,NodeTy.c,dI,List.map_take]) (by simp only [D.clL,D.cl,tM,NodeTy.cl];rfl) rfl ?_⟩
  simp [go_sem,seval]
  refine aP (fun hb=>?_) (fun hb=>?_)
  ·simp [go_sem,seval,iT,aA hi,hn,hb]
  ·simp [go_sem,seval,NodeTy.c,dI]
   refine aP (fun hr=>?_) (fun hr=>?_)
   ·have hr':(decide (t.nodes[i].parent < -1)||decide ((i:Int)≤t.nodes[i].parent))=true:=by simpa using hr
    simp [go_sem,seval]
    have e:iT t i=6:=by simp only [iT,aA hi];rw [if_neg (by simp [hn]),if_neg (by simp [hb]),if_pos hr']
    simp [e]
   ·simp at hr
    simp [go_sem,seval]
    have hr':¬ (decide (t.nodes[i].parent < -1)||decide ((i:Int)≤t.nodes[i].parent))=true:=by simp;omega
    intro hlen
    refine aP (fun h4=>?_) (fun h4=>?_)
    ·have h4':4<t.nodes[i].attrs.length:=by simp at h4;omega
     simp [go_sem,seval]
     have e:iT t i=3:=by simp only [iT,aA hi];rw [if_neg (by simp [hn]),if_neg (by simp [hb]),if_neg hr',if_pos h4']
     simp [e]
    ·have h4':¬ 4<t.nodes[i].attrs.length:=by simp at h4;omega
     simp [go_sem,seval]
     have hpo:parentsOK t.nodes i:=fun j n hj hn'=>by
      rcases bQ j i with h|h
      ·exact hp j n h hn'
      ·have:j=i:=by omega
       subst this
       rw [aA hi] at hn'
       cases hn';omega
     have hat:=CD t ht i hi hpo
     simp only [Types.d,Types.c,dI] at hat
     refine aB hat.pure (by simp [D.clL,D.cl,tM,tV]) ?_
     simp [go_sem,seval,NodeTy.c,dI]
     intro hlen2
     refine aP (fun h8=>?_) (fun h8=>?_)
     ·have h8':8<(t.attrs i).length:=by simp at h8;omega
      simp [go_sem,seval]
      have e:iT t i=3:=by simp only [iT,aA hi];rw [if_neg (by simp [hn]),if_neg (by simp [hb]),if_neg hr',if_neg h4',if_pos h8']
      simp [e]
     ·have h8':¬ 8<(t.attrs i).length:=by simp at h8;omega
      have e:iT t i=bY (fun k=>match (t.attrs i)[k]? with|some x=>cZ x ((t.attrs i).take k)|none=>0) ((t.attrs i).length - t.nodes[i].attrs.length) t.nodes[i].attrs.length:=by
       simp only [iT,aA hi];rw [if_neg (by simp [hn]),if_neg (by simp [hb]),if_neg hr',if_neg h4',if_neg h8']
      have hle:t.nodes[i].attrs.length≤(t.attrs i).length:=by simp [Types.attrs,mE,aA hi]
      have hok:∀ x∈t.attrs i,x.ok:=Cr t.nodes ht.nodes _ _
      simp [go_sem,seval,NodeTy.c,dI]
      refine fun _ _=>⟨eO (by omega) (by omega),?_⟩
      refine f9 (ι:=Nat) (fun k e H=>k≤(t.attrs i).length∧e 6=.list ((t.attrs i).map Attr.c)∧e 7=dI k ∧
       bY (fun k=>match (t.attrs i)[k]? with|some x=>cZ x ((t.attrs i).take k)|none=>0) k ((t.attrs i).length - k)=iT t i) (fun k=>(t.attrs i).length - k) ((t.attrs i).length - t.nodes[i].attrs.length) ?_ ?_
      ·simp [go_sem,seval,dI]
       refine ⟨by omega,?_⟩
       rw [e];congr 1;omega
      ·intro k e' H ⟨hk,h6,h7,hF⟩
       simp [go_sem,seval,h6,h7,dI]
       intro hlen3
       refine gB (fun hlt=>?_) (fun hge=>?_)
       ·simp [go_sem,seval,h6,h7,dI,hlt,Attr.c]
        have hta:=Db (t.attrs i)[k] ((t.attrs i).take k) (hok _ (aC hlt))
        simp only [Attr.c,dI,List.map_take] at hta
        have hcl:D.clLL (List.take k (List.map Attr.c (t.attrs i)))=true:=by rw [← List.map_take];exact rF _
        refine ⟨⟨hk,by cases t.attrs i<;>simp [Attr.c]⟩,bB hta (by simp [D.clL,D.cl,hcl,Rc]) ?_⟩
        have hstep:bY (fun k=>match (t.attrs i)[k]? with|some x=>cZ x ((t.attrs i).take k)|none=>0) k ((t.attrs i).length - k) =
          if cZ (t.attrs i)[k] ((t.attrs i).take k)≠0 then cZ (t.attrs i)[k] ((t.attrs i).take k) else bY (fun k=>match (t.attrs i)[k]? with|some x=>cZ x ((t.attrs i).take k)|none=>0) (k+1) ((t.attrs i).length - (k+1)):=by
         rw [show (t.attrs i).length - k=(t.attrs i).length - (k+1)+1 by omega,bY,aA hlt]
        rw [hstep] at hF
        simp [go_sem,seval]
        refine aP (fun hz=>?_) (fun hz=>?_)
        ·have hz':cZ (t.attrs i)[k] ((t.attrs i).take k)≠0:=by simpa using hz
         rw [if_pos hz'] at hF
         simp [go_sem,seval,hF]
        ·have hz':¬ cZ (t.attrs i)[k] ((t.attrs i).take k)≠0:=by simpa using hz
         rw [if_neg hz'] at hF
         simp [go_sem,seval,h6,h7,dI]
         exact ⟨eO (by omega) (by omega),k+1,by omega,by omega,by omega,hF⟩
       ·simp [go_sem,seval]
        rw [← hF,show (t.attrs i).length - k=0 by omega];rfl
def rE (low high:Int):Bool:=(decide (0≤low)&&decide (low≤40))&&(decide (high = -1)||(decide (low≤high)&&decide (high≤40)))
theorem Gc (low high:Int):Pure Tryz.prog 94 [dI low,dI high] (.bool (rE low high)):=by
 refine aU (aH (cfg:=⟨fun _=>false,fun _=>[]⟩) Tz.mixed Tryz.func94 rfl rfl (aD rfl) (by kernel_rfl) ?_)
 simp [go_sem,seval,dI,rE]
 try omega
theorem JA (t:Types)(a:Int):Pure Tryz.prog 91 [dI a,.adr t.c] (.bool (decide (0≤a)&&decide (a<t.nodes.length))):=by
 refine aU (aH (cfg:=⟨fun _=>false,fun _=>[]⟩) Tz.mixed Tryz.func91 rfl rfl (aD rfl) (by kernel_rfl) ?_)
 simp [go_sem,seval,dI,Types.c]
theorem Jz (x y:EdgeTy):Pure Tryz.prog 93 [.agg y.c,.adr x.c] (.bool (decide (y.name=x.name))):=by
 refine aU (aH (cfg:=⟨fun _=>false,fun _=>[]⟩) Tz.mixed Tryz.func93 rfl rfl (aD rfl) (by kernel_rfl) ?_)
 simp [go_sem,seval,EdgeTy.c,dI]
def insideF (t:Types)(a:Int):Bool:=decide (0≤a)&&decide (a<t.nodes.length)
def kK (t:Types)(i:Nat):Int :=
 match t.edges[i]? with
 | none=>0
 | some x =>
  if pM x.name=false then 2
  else if ((t.edges.take i).any fun y=>decide (y.name=x.name))=true then 5
  else if (insideF t x.from_&&insideF t x.to_&&rE x.outLow x.outHigh&&rE x.inLow x.inHigh)=true then 0 else 6
theorem LH (t:Types)(ht:t.ok)(i:Nat)(hi:i<t.edges.length):Pure Tryz.prog 53 [t.d,dI i] (dI (kK t i)):=by
 have hno:=ht.edges _ (aC hi)
 have hcN:D.clLL (List.map NodeTy.c t.nodes)=true:=tM _
 have hcE:D.clLL (List.map EdgeTy.c t.edges)=true:=tV _
 have hin:∀ a:Int,Pure Tryz.prog 91 [.int .i64 a,.adr [.list (t.nodes.map NodeTy.c),.list (t.edges.map EdgeTy.c)]] (.bool (insideF t a)):=JA t
 have hbd:∀ a b:Int,Pure Tryz.prog 94 [.int .i64 a,.int .i64 b] (.bool (rE a b)):=Gc
 refine aU (aH (cfg:=⟨fun t=>t==5,fun _=>[]⟩) Tz.mixed Tryz.func53 rfl rfl (aD rfl) (by kernel_rfl) ?_)
 simp [go_sem,seval,dI,Types.d,Types.c,EdgeTy.c,aA hi,hi]
 refine aB (nJ _ hno.name) rfl ?_
 simp [go_sem,seval]
 refine aP (fun hn=>?_) (fun hn=>?_)
 ·simp at hn
  simp [go_sem,seval,kK,aA hi,hn]
 ·simp at hn
  simp [go_sem,seval]
  have hc:=Bb (t.edges.take i) 93 [.adr t.edges[i].c] (fun y=>decide (y.name=t.edges[i].name)) (by simp [D.clL,D.cl,EdgeTy.cl]) (by rw [D.cl];exact tV _) (fun y _=>Jz t.edges[i] y)
  refine ⟨⟨by omega,by cases t.edges<;>simp [EdgeTy.c]⟩,lO hc (by simp [Dg,BQ,fU,go_sem,EdgeTy.c,dI,List.map_take]) (by simp only [D.clL,D.cl,tV,EdgeTy.cl];rfl) rfl ?_⟩
  simp [go_sem,seval]
  refine aP (fun hb=>?_) (fun hb=>?_)
  ·simp [go_sem,seval,kK,aA hi,hn,hb]
  ·simp [go_sem,seval,EdgeTy.c,dI]
   refine aB (hin _) (by simp [D.clL,D.cl,hcN,hcE]) ?_
   simp [go_sem,seval,EdgeTy.c,dI]
   refine bD (fun _=>hin _) (fun _=>by simp [D.clL,D.cl,hcN,hcE]) ?_
   simp [go_sem,seval,EdgeTy.c,dI]
   refine aP (fun h1=>?_) (fun h1=>?_)
   ·have e:kK t i=6:=by
     simp only [kK,aA hi];rw [if_neg (by simp [hn]),if_neg (by simp [hb]),if_neg (by intro h;simp at h;simp [h] at h1)]
    simp [go_sem,seval]
    refine aP (fun _=>?_) (fun h=>?_)
    ·simp [go_sem,seval,e]
    ·rw [h1] at h;cases h
   ·simp [go_sem,seval,EdgeTy.c,dI]
    refine aB (hbd _ _) rfl ?_
    simp [go_sem,seval,EdgeTy.c,dI]
    refine bD (fun _=>hbd _ _) (fun _=>rfl) ?_
    simp [go_sem,seval,EdgeTy.c,dI]
    refine aP (fun h2=>?_) (fun h2=>?_)
    ·have e:kK t i=6:=by
      simp only [kK,aA hi];rw [if_neg (by simp [hn]),if_neg (by simp [hb]),if_neg (by intro h;simp at h;simp [h] at h2)]
     simp [go_sem,seval,e]
    ·have e:kK t i=0:=by
      simp only [kK,aA hi];rw [if_neg (by simp [hn]),if_neg (by simp [hb]),if_pos (by simp at h1 h2 ⊢;simp [h1,h2])]
     simp [go_sem,seval,e]
theorem AS (t:Types)(j:Nat)(n:NodeTy)(h:iT t j=0)(hn:t.nodes[j]?=some n):n.parent<j:=by
 simp only [iT,hn] at h
 split at h
 ·cases h
 ·split at h
  ·cases h
  ·split at h
   ·cases h
   ·rename_i hr;simp at hr;omega
def gI (f:Nat→Int)(nm:Nat→ByteArray)(last:ByteArray × Int):Nat→Nat→ByteArray × Int
 | _,0=>last
 | k,n+1=>if f k≠0 then (nm k,f k) else gI f nm last (k+1) n
def Types.nodeName (t:Types)(i:Nat):ByteArray:=match t.nodes[i]? with|some n=>n.name|none=>⟨#[]⟩
def Types.edgeName (t:Types)(i:Nat):ByteArray:=match t.edges[i]? with|some n=>n.name|none=>⟨#[]⟩
def cJ (t:Types):ByteArray × Int :=
 if t.nodes.length=0 then (⟨#[]⟩,7)
 else if 12<t.nodes.length∨20<t.edges.length then (⟨#[]⟩,3)
 else gI (iT t) t.nodeName (gI (kK t) t.edgeName (⟨#[]⟩,0) 0 t.edges.length) 0 t.nodes.length
theorem kZ (t:Types)(ht:t.ok):Pure Tryz.prog 30 [t.d] (.tup [.str (cJ t).1,dI (cJ t).2]):=by
 refine aU (aH (cfg:=⟨fun t=>t==5||t==8,fun _=>[]⟩) Tz.mixed Tryz.func30 rfl rfl (aD rfl) (by kernel_rfl) ?_)
 simp [go_sem,seval,dI,Types.d,Types.c]
 intro hlen
 refine aP (fun h0=>?_) (fun h0=>?_)
 ·simp at h0
  simp [go_sem,seval,cJ,h0]
 ·simp at h0
  simp [go_sem,seval]
  intro _ _
  refine aP (fun hb=>?_) (fun hb=>?_)
  ·have hb':12<t.nodes.length∨20<t.edges.length:=by simp at hb;omega
   simp [go_sem,seval,cJ,h0,hb']
  ·have hb':¬ (12<t.nodes.length∨20<t.edges.length):=by simp at hb;omega
   have e:cJ t=gI (iT t) t.nodeName (gI (kK t) t.edgeName (⟨#[]⟩,0) 0 t.edges.length) 0 t.nodes.length:=by simp [cJ,h0,hb']
   simp [go_sem,seval]
   intro _
   refine f9 (ι:=Nat) (fun i e H=>i≤t.nodes.length∧e 1=.adr t.c∧e 27=.list (t.nodes.map NodeTy.c)∧e 28=dI t.nodes.length∧e 29=dI i∧(∀ j,j<i→iT t j=0) ∧
    gI (iT t) t.nodeName (gI (kK t) t.edgeName (⟨#[]⟩,0) 0 t.edges.length) i (t.nodes.length - i)=cJ t) (fun i=>t.nodes.length - i) 0 (by simp [go_sem,seval,dI,Types.c,e]) ?_
   intro i e' H ⟨hi,h1,h27,h28,h29,hz,hF⟩
   simp [go_sem,seval,h1,h27,h28,h29,dI,Types.c]
   refine gB (fun hlt=>?_) (fun hge=>?_)
   ·simp [go_sem,seval,h1,h27,h28,h29,dI,Types.c,NodeTy.c,hlt]
    have hnd:=LF t ht i hlt (fun j n hj hn=>AS t j n (hz j hj) hn)
    simp only [Types.d,Types.c,dI] at hnd
    have hstep:gI (iT t) t.nodeName (gI (kK t) t.edgeName (⟨#[]⟩,0) 0 t.edges.length) i (t.nodes.length - i) =
      if iT t i≠0 then (t.nodeName i,iT t i) else gI (iT t) t.nodeName (gI (kK t) t.edgeName (⟨#[]⟩,0) 0 t.edges.length) (i+1) (t.nodes.length - (i+1)):=by
     rw [show t.nodes.length - i=t.nodes.length - (i+1)+1 by omega,gI]
    rw [hstep] at hF
    refine aB hnd (by simp [D.clL,D.cl,tM,tV]) ?_
    simp [go_sem,seval]
    refine aP (fun hc=>?_) (fun hc=>?_)
    ·have hc':iT t i≠0:=by simpa using hc
     rw [if_pos hc'] at hF
     simp [go_sem,seval,← hF,Types.nodeName,aA hlt]
    ·have hc':¬ iT t i≠0:=by simpa using hc
     rw [if_neg hc'] at hF
     simp [go_sem,seval,h1,h27,h28,h29,dI,Types.c]
     refine ⟨eO (by omega) (by omega),i+1,by omega,by omega,by omega,fun j hj=>?_,hF⟩
     rcases bQ j i with hj'|hj'
     ·exact hz j hj'
     ·have:j=i:=by omega
      subst this;simpa using hc'
   ·simp [go_sem,seval,h1,h27,h28,h29,dI,Types.c]
    intro _
    rw [show t.nodes.length - i=0 by omega] at hF
    simp only [gI] at hF
    refine f9 (ι:=Nat) (fun i e H=>i≤t.edges.length∧e 1=.adr t.c∧e 44=.list (t.edges.map EdgeTy.c)∧e 45=dI t.edges.length∧e 46=dI i ∧
     gI (kK t) t.edgeName (⟨#[]⟩,0) i (t.edges.length - i)=cJ t) (fun i=>t.edges.length - i) 0 (by simp [go_sem,seval,h1,dI,Types.c,hF]) ?_
    intro i e' H ⟨hi,h1,h44,h45,h46,hF⟩
    simp [go_sem,seval,h1,h44,h45,h46,dI,Types.c]
    refine gB (fun hlt=>?_) (fun hge=>?_)
    ·simp [go_sem,seval,h1,h44,h45,h46,dI,Types.c,EdgeTy.c,hlt]
     have hnd:=LH t ht i hlt
     simp only [Types.d,Types.c,dI] at hnd
     have hstep:gI (kK t) t.edgeName (⟨#[]⟩,0) i (t.edges.length - i) =
       if kK t i≠0 then (t.edgeName i,kK t i) else gI (kK t) t.edgeName (⟨#[]⟩,0) (i+1) (t.edges.length - (i+1)):=by
      rw [show t.edges.length - i=t.edges.length - (i+1)+1 by omega,gI]
     rw [hstep] at hF
     refine aB hnd (by simp [D.clL,D.cl,tM,tV]) ?_
     simp [go_sem,seval]
     refine aP (fun hc=>?_) (fun hc=>?_)
     ·have hc':kK t i≠0:=by simpa using hc
      rw [if_pos hc'] at hF
      simp [go_sem,seval,← hF,Types.edgeName,aA hlt]
     ·have hc':¬ kK t i≠0:=by simpa using hc
      rw [if_neg hc'] at hF
      simp [go_sem,seval,h1,h44,h45,h46,dI,Types.c]
      exact ⟨eO (by omega) (by omega),i+1,by omega,by omega,by omega,hF⟩
    ·rw [show t.edges.length - i=0 by omega] at hF
     simp only [gI] at hF
     simp [go_sem,seval,← hF]
@[go_sem] theorem sD (l:List Int):D.clLL (l.map cI)=true:=cE cI (fun _=>rfl) l
@[go_sem] theorem Ca (l:List Edge):D.clLL (l.map Edge.c)=true:=cE _ Edge.cl l
theorem Gu (xs:List Int)(g:FuncId)(caps:List D)(p:Int→Bool)(hc:D.clL caps=true)(hg:∀ x∈xs,Pure Tryz.prog g (.int .i64 x :: caps) (.bool (p x))) :
  Pure Tryz.prog 95 [.list (xs.map cI),.fn g caps] (dI (xF xs p)):=by
 refine aU (aH (cfg:=⟨fun _=>false,fun _=>[]⟩) Tz.mixed Tryz.func95 rfl rfl (aD rfl) (by kernel_rfl) ?_)
 simp [go_sem,seval,dI,dLI]
 intro hlen
 refine f9 (ι:=Nat) (fun i e H=>H=.emp∧i≤xs.length∧e 0=.list (xs.map cI)∧e 1=.fn g caps∧e 7=dI xs.length∧e 8=dI i∧(∀ j x,j<i→xs[j]?=some x→p x=false)) (fun i=>xs.length - i) 0 (by simp [go_sem,seval,dI,dLI]) ?_
 intro i e H ⟨hH,hi,h0,h1,h7,h8,hn⟩
 subst hH
 simp [go_sem,seval,h0,h1,h7,h8,dI,dLI]
 refine gB (fun hlt=>?_) (fun hge=>?_)
 ·have hgx:=hg xs[i] (aC hlt)
  simp [go_sem,seval,h0,h1,h7,h8,dI,dLI,hlt,cI] at hgx ⊢
  refine aB hgx (by simp [go_sem,hc]) ?_
  simp [go_sem,seval,h0,h1,h7,h8,dI,dLI]
  refine aP (fun h=>?_) (fun h=>?_)
  ·simp [go_sem,seval,h0,h1,h7,h8,dI,dLI]
   rw [lX hn hlt h]
  ·simp [go_sem,seval,h0,h1,h7,h8,dI,dLI]
   refine ⟨eO (by omega) (by omega),i+1,by omega,by omega,by omega,fun j x hj hx=>?_⟩
   rcases bQ j i with hj'|hj'
   ·exact hn j x hj' hx
   ·have:j=i:=by omega
    subst this
    rw [aA hlt] at hx
    cases hx;exact h
 ·simp [go_sem,seval,h0,h1,h7,h8,dI,dLI]
  rw [lY fun j x hj=>hn j x (by omega)]
theorem fO (xs:List Int)(g:FuncId)(caps:List D)(p:Int→Bool)(hc:D.clL caps=true)(hl:D.cl (.list (xs.map cI))=true)(hg:∀ x∈xs,Pure Tryz.prog g (.int .i64 x :: caps) (.bool (p x))) :
  Pure Tryz.prog 54 [.list (xs.map cI),.fn g caps] (.bool (xs.any p)):=by
 refine aU (aH (cfg:=⟨fun _=>false,fun _=>[]⟩) Tz.mixed Tryz.func54 rfl rfl (aD rfl) (by kernel_rfl) ?_)
 simp [go_sem,seval]
 refine aB (Gu xs g caps p hc hg) (by simp only [D.clL,hl,gL];simp [D.cl,hc]) ?_
 simp [go_sem,seval,dI,pC]
theorem Dk (xs:List Edge)(g:FuncId)(caps:List D)(p:Edge→Bool)(hc:D.clL caps=true)(hg:∀ x∈xs,Pure Tryz.prog g (.agg x.c :: caps) (.bool (p x))) :
  Pure Tryz.prog 96 [.list (xs.map Edge.c),.fn g caps] (dI (xF xs p)):=by
 refine aU (aH (cfg:=⟨fun _=>false,fun _=>[]⟩) Tz.mixed Tryz.func96 rfl rfl (aD rfl) (by kernel_rfl) ?_)
 simp [go_sem,seval,dI,dLI]
 intro hlen
 refine f9 (ι:=Nat) (fun i e H=>H=.emp∧i≤xs.length∧e 0=.list (xs.map Edge.c)∧e 1=.fn g caps∧e 7=dI xs.length∧e 8=dI i∧(∀ j x,j<i→xs[j]?=some x→p x=false)) (fun i=>xs.length - i) 0 (by simp [go_sem,seval,dI,dLI]) ?_
 intro i e H ⟨hH,hi,h0,h1,h7,h8,hn⟩
 subst hH
 simp [go_sem,seval,h0,h1,h7,h8,dI,dLI]
 refine gB (fun hlt=>?_) (fun hge=>?_)
 ·have hgx:=hg xs[i] (aC hlt)
  simp [go_sem,seval,h0,h1,h7,h8,dI,dLI,hlt,Edge.c] at hgx ⊢
  refine aB hgx (by simp [go_sem,hc]) ?_
  simp [go_sem,seval,h0,h1,h7,h8,dI,dLI]
  refine aP (fun h=>?_) (fun h=>?_)
  ·simp [go_sem,seval,h0,h1,h7,h8,dI,dLI]
   rw [lX hn hlt h]
  ·simp [go_sem,seval,h0,h1,h7,h8,dI,dLI]
   refine ⟨eO (by omega) (by omega),i+1,by omega,by omega,by omega,fun j x hj hx=>?_⟩
   rcases bQ j i with hj'|hj'
   ·exact hn j x hj' hx
   ·have:j=i:=by omega
    subst this
    rw [aA hlt] at hx
    cases hx;exact h
 ·simp [go_sem,seval,h0,h1,h7,h8,dI,dLI]
  rw [lY fun j x hj=>hn j x (by omega)]
theorem kB (xs:List Edge)(g:FuncId)(caps:List D)(p:Edge→Bool)(hc:D.clL caps=true)(hl:D.cl (.list (xs.map Edge.c))=true)(hg:∀ x∈xs,Pure Tryz.prog g (.agg x.c :: caps) (.bool (p x))) :
  Pure Tryz.prog 57 [.list (xs.map Edge.c),.fn g caps] (.bool (xs.any p)):=by
 refine aU (aH (cfg:=⟨fun _=>false,fun _=>[]⟩) Tz.mixed Tryz.func57 rfl rfl (aD rfl) (by kernel_rfl) ?_)
 simp [go_sem,seval]
 refine aB (Dk xs g caps p hc hg) (by simp only [D.clL,hl,gL];simp [D.cl,hc]) ?_
 simp [go_sem,seval,dI,pC]
def kQ (n m:Int):Bool:=decide (0≤n)&&decide (n≤m)
theorem AZ (n m:Int):Pure Tryz.prog 56 [dI n,dI m] (.bool (kQ n m)):=by
 refine aU (aH (cfg:=⟨fun _=>false,fun _=>[]⟩) Tz.mixed Tryz.func56 rfl rfl (aD rfl) (by kernel_rfl) ?_)
 simp [go_sem,seval,dI,kQ]
def CZ (x:Edge)(n:Int):Bool:=kQ x.type 99&&kQ x.from_ (n - 1)&&kQ x.to_ (n - 1)
theorem Mx (x:Edge)(n:Int)(h0:0≤n)(h1:n≤1000000):Pure Tryz.prog 59 [.agg x.c,dI n] (.bool (CZ x n)):=by
 have hw:∀ a b:Int,Pure Tryz.prog 56 [.int .i64 a,.int .i64 b] (.bool (kQ a b)):=AZ
 refine aU (aH (cfg:=⟨fun _=>false,fun _=>[]⟩) Tz.mixed Tryz.func59 rfl rfl (aD rfl) (by kernel_rfl) ?_)
 simp [go_sem,seval,dI,Edge.c]
 refine aB (hw _ _) rfl ?_
 simp [go_sem,seval,dI,Edge.c]
 refine ⟨fun _=>eO (by omega) (by omega),bD (fun _=>hw _ _) (fun _=>rfl) ?_⟩
 simp [go_sem,seval,dI,Edge.c]
 refine ⟨fun _ _=>eO (by omega) (by omega),bD (fun _=>hw _ _) (fun _=>rfl) ?_⟩
 simp [go_sem,seval,CZ]
theorem IL (n:Int):Pure Tryz.prog 55 [.int .i64 n] (.bool (!kQ n 99)):=by
 have hw:∀ a b:Int,Pure Tryz.prog 56 [.int .i64 a,.int .i64 b] (.bool (kQ a b)):=AZ
 refine aU (aH (cfg:=⟨fun _=>false,fun _=>[]⟩) Tz.mixed Tryz.func55 rfl rfl (aD rfl) (by kernel_rfl) ?_)
 simp [go_sem,seval,dI]
 refine aB (hw _ _) rfl ?_
 simp [go_sem,seval]
theorem IK (g:Graph)(hg:g.nodes.length≤1000000)(x:Edge):Pure Tryz.prog 58 [.agg x.c,.adr g.c] (.bool (!CZ x g.nodes.length)):=by
 have hf:=Mx x g.nodes.length (by omega) (by omega)
 simp only [Edge.c,dI] at hf
 refine aU (aH (cfg:=⟨fun _=>false,fun _=>[]⟩) Tz.mixed Tryz.func58 rfl rfl (aD rfl) (by kernel_rfl) ?_)
 simp [go_sem,seval,dI,Edge.c,Graph.c,dLI]
 intro _
 refine aB hf rfl ?_
 simp [go_sem,seval]
def graphF (g:Graph):Int :=
 if 40<g.nodes.length∨80<g.edges.length then 3
 else if (g.nodes.any fun n=>!kQ n 99)=true then 6
 else if (g.edges.any fun x=>!CZ x g.nodes.length)=true then 6
 else 0
theorem lM (g:Graph):Pure Tryz.prog 31 [g.d] (dI (graphF g)):=by
 refine aU (aH (cfg:=⟨fun _=>false,fun _=>[]⟩) Tz.mixed Tryz.func31 rfl rfl (aD rfl) (by kernel_rfl) ?_)
 simp [go_sem,seval,dI,Graph.d,Graph.c,dLI]
 intro _ _
 refine aP (fun h=>?_) (fun h=>?_)
 ·have h':40<g.nodes.length∨80<g.edges.length:=by simp at h;omega
  simp [go_sem,seval,graphF,h']
 ·have h':¬ (40<g.nodes.length∨80<g.edges.length):=by simp at h;omega
  have h1:=fO g.nodes 55 [] (fun n=>!kQ n 99) rfl (by simp [D.cl,sD]) (fun n _=>IL n)
  have h2:=kB g.edges 58 [.adr g.c] (fun x=>!CZ x g.nodes.length) (by simp [D.clL,D.cl,Graph.c,sD,Ca,dLI]) (by simp [D.cl,Ca]) (fun x _=>IK g (by omega) x)
  simp only [Graph.c,dLI] at h2
  simp [go_sem,seval]
  refine aB h1 (by simp [D.clL,D.cl,sD]) ?_
  simp [go_sem,seval]
  refine aP (fun ha=>?_) (fun ha=>?_)
  ·have e:graphF g=6:=by unfold graphF;rw [if_neg h',if_pos ha]
   simp [go_sem,seval,e]
  ·simp [go_sem,seval]
   refine aB h2 (by simp [D.clL,D.cl,sD,Ca]) ?_
   simp [go_sem,seval]
   refine aP (fun hb=>?_) (fun hb=>?_)
   ·have e:graphF g=6:=by unfold graphF;rw [if_neg h',if_neg (by rw [ha];simp),if_pos hb]
    simp [go_sem,seval,e]
   ·have e:graphF g=0:=by unfold graphF;rw [if_neg h',if_neg (by rw [ha];simp),if_neg (by rw [hb];simp)]
    simp [go_sem,seval,e]
attribute [go_sem] dI dLI yV cI cS Attr.c NodeTy.c EdgeTy.c Types.c Types.d Edge.c Graph.c Graph.d
theorem FO (a b:List D):D.clL (a++b)=(D.clL a&&D.clL b):=by
 induction a with
 | nil=>simp [D.clL]
 | cons x a ih=>simp [D.clL,ih,Bool.and_assoc]
@[go_sem] theorem Ty (a b:List (List D)):D.clLL (a++b)=(D.clLL a&&D.clLL b):=by
 induction a with
 | nil=>simp [D.clLL]
 | cons x a ih=>simp [D.clLL,ih,Bool.and_assoc]
attribute [go_sem] FO
def inF (n low high:Int):Bool:=decide (low≤n)&&decide (n≤high)
theorem Ln {p:Nat→Prop}{k:Nat}(h:∀ j,j<k→p j)(hk:p k):∀ j,j<k+1→p j:=fun j hj=>by
 rcases bQ j k with h'|h'
 ·exact h j h'
 ·have:j=k:=by omega
  subst this;exact hk
theorem HU (t:Types)(a:Nat)(ha:a<t.nodes.length)(hp:parentsOK t.nodes a) :
  t.attrs a=(if 0≤t.nodes[a].parent then t.attrs t.nodes[a].parent.toNat else [])++t.nodes[a].attrs:=by
 have hpa:=hp a _ (aL _) (aA ha)
 by_cases h':0≤t.nodes[a].parent
 ·have hlt:t.nodes[a].parent.toNat<a:=by omega
  have:=C7 t.nodes t.nodes[a].parent.toNat a (t.nodes[a].parent.toNat+1) (fun j m hj hm=>hp j m (by omega) hm) hlt (by omega)
  simp [Types.attrs,mE,aA ha,h',this]
 ·simp [Types.attrs,mE,aA ha,h']
def TE (l:List Attr)(k:Nat):Int:=match l[k]? with|some x=>cZ x (l.take k)|none=>0
theorem j6 (f:Nat→Int){k n:Nat}(h:k<n):bY f k (n - k)=if f k≠0 then f k else bY f (k+1) (n - (k+1)):=by
 rw [show n - k=n - (k+1)+1 by omega,bY]
theorem EO (t:Types)(i:Nat)(hi:i<t.nodes.length):iT t i =
  if pM t.nodes[i].name=false then 2
  else if ((t.nodes.take i).any fun m=>decide (m.name=t.nodes[i].name))=true then 5
  else if (decide (t.nodes[i].parent < -1)||decide ((i:Int)≤t.nodes[i].parent))=true then 6
  else if 4<t.nodes[i].attrs.length then 3
  else if 8<(t.attrs i).length then 3
  else bY (TE (t.attrs i)) ((t.attrs i).length - t.nodes[i].attrs.length) t.nodes[i].attrs.length:=by
 unfold iT;rw [aA hi];rfl
theorem Q7 (t:Types)(i:Nat)(hi:i<t.edges.length):kK t i =
  if pM t.edges[i].name=false then 2
  else if ((t.edges.take i).any fun y=>decide (y.name=t.edges[i].name))=true then 5
  else if (insideF t t.edges[i].from_&&insideF t t.edges[i].to_&&rE t.edges[i].outLow t.edges[i].outHigh&&rE t.edges[i].inLow t.edges[i].inHigh)=true then 0 else 6:=by
 unfold kK;rw [aA hi]
theorem p8 {f:Nat→Int}{nm:Nat→ByteArray}{last:ByteArray × Int}:∀ (n k:Nat),(gI f nm last k n).2=0→(∀ j,k≤j→j<k+n→f j=0)∧last.2=0
 | 0,k,h=>⟨fun j h1 h2=>by omega,h⟩
 | n+1,k,h=>by
  unfold gI at h
  split at h
  ·rename_i hne;exact absurd h hne
  ·rename_i hz
   obtain ⟨a,b⟩:=p8 n (k+1) h
   refine ⟨fun j h1 h2=>?_,b⟩
   rcases Nat.eq_or_lt_of_le h1 with h3|h3
   ·subst h3;exact bJ fun hne=>hz hne
   ·exact a j h3 (by omega)
structure Types.valid (t:Types):Prop where
 ne:0<t.nodes.length
 fewN:t.nodes.length≤12
 fewE:t.edges.length≤20
 parent:∀ (j:Nat) (n:NodeTy),t.nodes[j]?=some n→n.parent<j
 low:∀ (j:Nat) (n:NodeTy),t.nodes[j]?=some n→-1≤n.parent
 attrs:∀ j,j<t.nodes.length→(t.attrs j).length≤8
 ends:∀ x∈t.edges,insideF t x.from_=true∧insideF t x.to_=true
theorem mJ {t:Types}(h:(cJ t).2=0):t.valid:=by
 unfold cJ at h
 split at h
 ·simp at h
 ·rename_i h0
  split at h
  ·simp at h
  ·rename_i h1
   obtain ⟨hN,hE⟩:=p8 _ _ h
   obtain ⟨hE,_⟩:=p8 _ _ hE
   have hN':∀ j (hj:j<t.nodes.length),iT t j=0:=fun j hj=>hN j (by omega) (by omega)
   refine ⟨by omega,by omega,by omega,fun j n hn=>?_,fun j n hn=>?_,fun j hj=>?_,fun x hx=>?_⟩
   ·exact AS t j n (hN' j (aI.1 hn).1) hn
   ·have hj:=(aI.1 hn).1
    have h2:=hN' j hj
    rw [EO t j hj] at h2
    have he:t.nodes[j]=n:=(aI.1 hn).2
    rw [he] at h2
    split at h2<;>try (cases h2;done)
    split at h2<;>try (cases h2;done)
    split at h2<;>try (cases h2;done)
    rename_i hr;simp at hr;omega
   ·have h2:=hN' j hj
    rw [EO t j hj] at h2
    split at h2<;>try (cases h2;done)
    split at h2<;>try (cases h2;done)
    split at h2<;>try (cases h2;done)
    split at h2<;>try (cases h2;done)
    split at h2<;>try (cases h2;done)
    omega
   ·obtain ⟨j,hj,rfl⟩:=aM hx
    have h2:=hE j (by omega) (by omega)
    rw [Q7 t j hj] at h2
    split at h2<;>try (cases h2;done)
    split at h2<;>try (cases h2;done)
    split at h2<;>try (cases h2;done)
    rename_i hr;simp at hr;exact ⟨hr.1.1.1,hr.1.1.2⟩
theorem Types.valid.parentsOK {t:Types}(h:t.valid)(a:Nat):parentsOK t.nodes a:=fun j n _ hn=>h.parent j n hn
def iV (t:Types)(a b:Int):Int:=if (cJ t).2≠0 then (cJ t).2 else if (insideF t a&&insideF t b)=true then 0 else 6
def givenF (t:Types)(l:List Int):Int:=if (cJ t).2≠0 then (cJ t).2 else if (l.any fun a=>!insideF t a)=true then 6 else 0
theorem H8 (t:Types)(a:Int):Pure Tryz.prog 98 [dI a,.adr t.c] (.bool (!insideF t a)):=by
 refine Tz.pK ⟨fun _=>false,fun _=>[]⟩ Tryz.func98 rfl (fun Q hQ=>?_)
 have Y:=trivial
 have Y:=wa Y @insideF.eq_1
 exact wo (h:=hQ _ _ wy)
theorem wG (t:Types)(ht:t.ok)(l:List Int):Pure Tryz.prog 61 [t.d,dLI l] (dI (givenF t l)):=by
 refine Tz.pK ⟨fun _=>false,fun _=>[]⟩ Tryz.func61 rfl (fun Q hQ=>?_)
 have Y:=trivial
 refine wv (h:=aB (kZ t ht) wl ?_)
 refine dU (fun h2=>?_) fun h2=>?_
 ·have Y:=wa Y (wa h2 @givenF.eq_1)
  exact wv (h:=hQ _ _ wy)
 ·refine wv (h:=aB (fO l 98 [.adr t.c] (fun a=>!insideF t a) (by simp [go_sem]) (by simp [go_sem]) (fun a _=>H8 t a)) wl ?_)
  refine dU (fun h4=>?_) fun h4=>?_
  ·have Y:=wa Y (wa h2 (wa h4 @givenF.eq_1))
   exact wv (h:=hQ _ _ wy)
  ·have Y:=wa Y (wa h2 (wa h4 @givenF.eq_1))
   exact wv (h:=hQ _ _ wy)
theorem Hr (t:Types)(a b:Int):givenF t [a,b]=iV t a b:=by
 unfold givenF iV;cases ha:insideF t a<;>cases hb:insideF t b<;>simp [ha,hb]
def E5 (nodes:List NodeTy):Nat→Nat→List Int
 | 0,_=>[]
 | f+1,a=>match nodes[a]? with
  | none=>[]
  | some n=>(if 0≤n.parent then E5 nodes f n.parent.toNat else [])++[(a:Int)]
def Types.line (t:Types)(a:Nat):List Int:=E5 t.nodes (a+1) a
theorem Mm (nodes:List NodeTy):∀ a f g,parentsOK nodes a→a<f→a<g→E5 nodes f a=E5 nodes g a:=by
 intro a
 induction a using Nat.strongRecOn with
 | _ a ih =>
  intro f g hp hf hg
  obtain ⟨f,rfl⟩:∃ f',f=f'+1:=⟨f - 1,by omega⟩
  obtain ⟨g,rfl⟩:∃ g',g=g'+1:=⟨g - 1,by omega⟩
  unfold E5
  split
  ·rfl
  ·rename_i n hn
   have:=hp a n (aL _) hn
   congr 1
   split
   ·exact ih n.parent.toNat (by omega) f g (fun j m hj hm=>hp j m (by omega) hm) (by omega) (by omega)
   ·rfl
theorem AU (t:Types)(a:Nat)(ha:a<t.nodes.length)(hp:parentsOK t.nodes a) :
  t.line a=(if 0≤t.nodes[a].parent then t.line t.nodes[a].parent.toNat else [])++[(a:Int)]:=by
 have hpa:=hp a _ (aL _) (aA ha)
 by_cases h':0≤t.nodes[a].parent
 ·have hlt:t.nodes[a].parent.toNat<a:=by omega
  have:=Mm t.nodes t.nodes[a].parent.toNat a (t.nodes[a].parent.toNat+1) (fun j m hj hm=>hp j m (by omega) hm) hlt (by omega)
  simp [Types.line,E5,aA ha,h',this]
 ·simp [Types.line,E5,aA ha,h']
def Hj (t:Types)(k:Nat):List Int:=if k=0 then [] else t.line (k - 1)
theorem L7 {xs ys:List Int}{i:Nat}(hy:ys.length=xs.length)(hi:xs.length≤2 * i+1)(hr:∀ j,j<xs.length→ys[j]?=if j<i∨xs.length - i≤j then xs[xs.length - 1 - j]? else xs[j]?):ys=xs.reverse:=by
 apply eD
 intro j
 by_cases hj:j<xs.length
 ·rw [hr j hj,List.getElem?_reverse hj]
  split
  ·rfl
  ·rename_i hc
   rw [show j=xs.length - 1 - j by omega]
   congr 1;omega
 ·rw [bA (by omega),bA (by simp;omega)]
theorem JW (G:AHeap)(id:Nat)(xs:List Int)(hg:G.get id=some ⟨3,1,xs.map cI,false⟩)(hl:xs.length≤100000)(Q:D→AHeap→Prop)
  (hQ:∀ H',H'.get id=some ⟨3,1,xs.reverse.map cI,false⟩→(∀ j,j≠id→H'.get j=G.get j)→G.next≤H'.next→Q (.tup []) H'):ACalls Tryz.prog 134 [.own id xs.length] G Q:=by
 refine (aH (cfg:=⟨fun _=>false,fun _=>[]⟩) Tz.mixed Tryz.func134 rfl rfl (aD rfl) (by kernel_rfl) ?_)
 try simp [go_sem,seval,hg]
 repeat first|intro _|refine ⟨oW,?_⟩
 obtain ⟨I0,hI0⟩:∃ I0:Nat→c7→AHeap→Prop,∀ (i:Nat) (e:c7) (H:AHeap),I0 i e H↔(∃ ys:List Int,(e 0=.own id xs.length)∧(e 2=dI i)∧(e 3=dI ((xs.length:Int) - 1 - i))∧(H.get id=some ⟨3,1,ys.map cI,false⟩)∧(∀ j,j≠id→H.get j=G.get j)∧(G.next≤H.next)∧(ys.length=xs.length)∧(∀ j,j<xs.length→ys[j]?=if j<i∨xs.length - i≤j then xs[xs.length - 1 - j]? else xs[j]?)):=⟨fun i e H=>_,fun _ _ _=>Iff.rfl⟩
 refine qV I0 (fun i=>xs.length - i) (0) ((hI0 _ _ _).2 ⟨(xs),?_,?_,?_,(by exact hg),(by exact fun _ _=>rfl),(by exact aL _),(by first|assumption|omega|(simp [go_sem,hg];done)|(simp_all;done)),(by intro j hj;simp;omega)⟩) ?_
 iterate 3 (first|omega|(simp [go_sem,seval,hg]<;>omega))
 intro i e H hi0
 obtain ⟨ys,q0_0,q2_0,q3_0,hH,hfr,hnx,hy,hr⟩:=(hI0 _ _ _).1 hi0
 have F0:=And.intro q0_0 (And.intro q2_0 q3_0)
 try simp [go_sem,seval,hg,F0,hH]
 refine aP (fun h1=>?_) (fun h1=>?_)
 ·try simp [go_sem] at h1
  have hj:xs.length - 1 - i<ys.length:=by omega
  have hi':i<ys.length:=by omega
  have htn:((xs.length:Int) - 1 - i).toNat=xs.length - 1 - i:=by omega
  have hstep:∀ j,j<xs.length→((ys.set i (ys[xs.length - 1 - i]?.getD 0)).set (xs.length - 1 - i) (ys[i]?.getD 0))[j]?=if j<i+1∨xs.length - (i+1)≤j then xs[xs.length - 1 - j]? else xs[j]?:=fun j hjl=>by
   have h1:=hr j hjl
   have h3:=hr i (by omega)
   have h4:=hr (xs.length - 1 - i) (by omega)
   rw [aA hi'] at h3
   rw [aA hj] at h4
   rw [bR,bR,aA hi',aA hj]
   by_cases ha:xs.length - 1 - i=j
   ·rw [if_pos ha,if_pos (by simp;omega),if_pos (by omega)]
    simp only [aF]
    rw [h3,if_neg (by omega)];congr 1;omega
   ·rw [if_neg ha]
    by_cases hb:i=j
    ·rw [if_pos hb,if_pos (by omega),if_pos (by omega)]
     simp only [aF]
     rw [h4,if_neg (by omega)];congr 1;omega
    ·rw [if_neg hb,h1]
     by_cases hc:j<i∨xs.length - i≤j
     ·rw [if_pos hc,if_pos (by omega)]
     ·rw [if_neg hc,if_neg (by omega)]
  try simp [go_sem,seval,hg,F0,hH,h1,htn,aA hj,aA hi',hy,bR,show i≠xs.length - 1 - i by omega]
  repeat first|intro _|refine ⟨oW,?_⟩
  refine fN (i+1) (by omega) ((hI0 _ _ _).2 ⟨((ys.set i (ys[xs.length - 1 - i]?.getD 0)).set (xs.length - 1 - i) (ys[i]?.getD 0)),?_,?_,?_,(by (simp [go_sem,hH,eF,aA hj,aA hi'])),(by (intro j hj';simp [go_sem,hj',hfr j hj'])),(by (simp [go_sem];omega)),(by first|assumption|omega|(simp [go_sem,hg,F0,hH,h1,htn,aA hj,aA hi',hy,bR,show i≠xs.length - 1 - i by omega];done)|(simp_all<;>omega)),(by (exact hstep))⟩)<;>first|omega|(simp [go_sem,seval,hg,F0,hH,h1,htn,aA hj,aA hi',hy,bR,show i≠xs.length - 1 - i by omega]<;>omega)
 ·try simp [go_sem] at h1
  have:=L7 hy (by omega) hr
  subst this
  try simp [go_sem,seval,hg,F0,hH]
  exact hQ _ hH hfr hnx
theorem LG (t:Types)(ht:t.ok)(hv:t.valid)(a:Nat)(ha:a<t.nodes.length):Pure Tryz.prog 99 [t.d,dI a] (.list ((t.line a).map cI)):=by
 have hfew:=hv.fewN
 refine Tz.pK ⟨fun t=>t==5,fun _=>[]⟩ Tryz.func99 rfl (fun Q hQ=>?_)
 have Y:=trivial
 refine wv (h:=cD (fun k e H=>∃ xs:List Int,(e 2=.adr t.c∧e 1=dI ((k:Int) - 1)∧e 5=.own 0 xs.length)∧(H.get 0=some ⟨3,1,xs.map cI,false⟩)∧(0<H.next)∧(k≤t.nodes.length)∧(xs.length+k≤12)∧(Hj t k++xs.reverse=t.line a)) (fun k=>k) (a+1) ⟨([]),wg,wn,wn,wi,(by simp;omega),(by simp [Hj])⟩ fun I0 hI0 k e H hi0=>?_)
 obtain ⟨xs,E0,g0_0,n0_0,hk,hb,hx⟩:=hi0
 have Y:=wa Y (wa E0 (wa g0_0 (cO n0_0)))
 refine dU (fun h2=>?_) fun h2=>?_
 ·have hk0:0<k:=by omega
  have hkl:k - 1<t.nodes.length:=by omega
  have hpar:=hv.parent (k - 1) _ (aA hkl)
  have hlow:=hv.low (k - 1) _ (aA hkl)
  have htn:((k:Int) - 1).toNat=k - 1:=by omega
  have hlr:=AU t (k - 1) hkl (hv.parentsOK _)
  have hlk:Hj t k=Hj t (t.nodes[k - 1].parent+1).toNat++[(k:Int) - 1]:=by
   unfold Hj
   rw [if_neg (show ¬ k=0 by omega),hlr]
   by_cases h0:0≤t.nodes[k - 1].parent
   ·rw [if_pos h0,if_neg (by omega),show (t.nodes[k - 1].parent+1).toNat - 1=t.nodes[k - 1].parent.toNat by omega]
    congr 2;omega
   ·rw [if_neg h0,if_pos (by omega)]
    simp;omega
  have Y:=wa Y (wa h2 (wa htn hkl))
  exact wo (h:=wx hI0 ((t.nodes[k - 1].parent+1).toNat) ⟨(xs++[(k:Int) - 1]),wg,wn,wn,wj,(by simp;omega),(by rw [hlk] at hx;rw [← hx];simp)⟩)
 ·have hk0:k=0:=by omega
  subst hk0
  have hln:(t.line a).length=xs.length:=by rw [← hx];simp [Hj]
  have hx':(xs.map cI).reverse=(t.line a).map cI:=by rw [← List.map_reverse,← hx];rfl
  refine wv (h:=?_)
  unfold dO;refine JW _ _ xs g0_0 (by omega) _ fun H1 gR _ _=>?_
  exact wv (h:=hQ _ _ (by simp [go_sem,gR,hx',hln]))
theorem DU (t:Types)(ht:t.ok)(hv:t.valid)(a b:Int)(h0:0≤a)(h1:a<t.nodes.length):Pure Tryz.prog 62 [t.d,dI a,dI b] (.bool (mem (t.line a.toNat) b)):=by
 have hl:=LG t ht hv a.toNat (by omega)
 rw [Int.toNat_of_nonneg h0] at hl
 refine Tz.pK ⟨fun _=>false,fun _=>[]⟩ Tryz.func62 rfl (fun Q hQ=>?_)
 have Y:=trivial
 refine wv (h:=aB (hl) wl ?_)
 refine wv (h:=aB (fF _ _) wl ?_)
 exact wv (h:=hQ _ _ wy)
def rA (t:Types)(edge a b:Int):Bool:=decide (iV t a b=0)&&(decide (0≤edge)&&decide (edge<t.edges.length)) &&
 (mem (t.line a.toNat) (match t.edges[edge.toNat]? with|some x=>x.from_|none=>0)&&mem (t.line b.toNat) (match t.edges[edge.toNat]? with|some x=>x.to_|none=>0))
theorem sE {t:Types}{a b:Int}(h:iV t a b=0):t.valid∧(0≤a∧a<t.nodes.length)∧(0≤b∧b<t.nodes.length):=by
 unfold iV at h
 split at h
 ·rename_i h1;exact absurd h h1
 ·rename_i h1
  split at h
  ·rename_i h2;simp [insideF] at h2;exact ⟨mJ (by simpa using h1),h2.1,h2.2⟩
  ·cases h
theorem DV (t:Types)(ht:t.ok)(edge a b:Int):Pure Tryz.prog 33 [t.d,dI edge,dI a,dI b] (.bool (rA t edge a b)):=by
 refine Tz.pK ⟨fun _=>false,fun _=>[]⟩ Tryz.func33 rfl (fun Q hQ=>?_)
 have Y:=trivial
 refine wo (h:=aB (wG t ht [a,b]) wl ?_)
 refine mP (fun h1=>?_) fun h1=>?_
 ·rw [Hr] at h1
  exact wv (h:=hQ _ _ (by simp [go_sem,rA];intros;omega))
 ·rw [Hr] at h1
  obtain ⟨hv,hA,hB⟩:=sE h1.1.1
  have hke:edge.toNat<t.edges.length:=by omega
  have Y:=wa Y (aA hke)
  refine wo (h:=bB (DU t ht hv _ _ hA.1 hA.2) wl ?_)
  refine wo (h:=gW (fun hg=>DU t ht hv _ _ hB.1 hB.2) (fun hg=>wl) ?_)
  exact wo (h:=hQ _ _ (by simp [go_sem,rA,h1,aA hke]))
theorem wY (l:List Int)(x b:Int):mem (l++[x]) b=(mem l b||decide (b=x)):=by
 rw [bF,cK,mem_iff,mem_iff];simp
theorem DG (b:Int):mem ([]:List Int) b=false:=by rw [eE];intro h;rw [mem_iff] at h;cases h
attribute [go_sem] Slot.c Test.c Pattern.c Pattern.d Part.c Part.d Stage.c
theorem BV {P:Program}{f:FuncId}{ty:TypeId}{sz:Nat}(h0:Own P f [.nil] ty sz [])(h1:Own P f [.ne] ty sz []):Own P f [.list []] ty sz []:=by
 refine ⟨h0.1,fun M w vals hM ha=>?_⟩
 obtain ⟨hl,hr⟩:=ha
 match vals,hl with
 | [v],_ =>
  have hv:=hr 0 v _ rfl rfl
  cases hv with
  | listN=>exact h0.2 M w _ hM ⟨rfl,fun j u d hu hd=>by
    match j with
    | 0=>simp at hu hd;subst hu;subst hd;exact .nil
    | j+1=>simp at hu⟩
  | list ad cap sz xs es hc hm=>exact h1.2 M w _ hM ⟨rfl,fun j u d hu hd=>by
    match j with
    | 0=>simp at hu hd;subst hu;subst hd;exact .ne ad cap hm
    | j+1=>simp at hu⟩
theorem MR:Own Tryz.prog 36 [.nil] 3 1 []:=by
 refine Tz.oK ⟨fun t=>t==2||t==5,fun _=>[]⟩ Tryz.func36 rfl (fun Q hQ=>?_)
 have Y:=trivial
 refine wv (h:=?_)
 exact hQ _ _ _ (by simp [go_sem]<;>first|omega|(rw [bF];simp<;>omega)|(simp_all<;>omega)) (by simp [go_sem]<;>first|omega|(rw [bF];simp<;>omega)|(simp_all<;>omega))
theorem MP:Own Tryz.prog 36 [.ne] 3 1 []:=by
 refine Tz.oK ⟨fun t=>t==2||t==5,fun _=>[]⟩ Tryz.func36 rfl (fun Q hQ=>?_)
 have Y:=trivial
 refine wo (h:=?_)
 exact hQ _ _ _ (by simp [go_sem]<;>first|omega|(rw [bF];simp<;>omega)|(simp_all<;>omega)) (by simp [go_sem]<;>first|omega|(rw [bF];simp<;>omega)|(simp_all<;>omega))
theorem MQ (l:List Int)(hl:l.length≤1000000)(hne:l≠[]):Own Tryz.prog 36 [.list (l.map cI)] 3 1 (l.map cI):=by
 refine Tz.oK ⟨fun t=>t==2||t==5,fun _=>[]⟩ Tryz.func36 rfl (fun Q hQ=>?_)
 have Y:=hne
 refine wo (h:=?_)
 exact hQ _ _ _ (by simp [go_sem,hne]<;>first|omega|(rw [bF];simp<;>omega)|(simp_all<;>omega)) (by simp [go_sem,hne]<;>first|omega|(rw [bF];simp<;>omega)|(simp_all<;>omega))
theorem gM (l:List Int)(hl:l.length≤1000000):Own Tryz.prog 36 [.list (l.map cI)] 3 1 (l.map cI):=by
 by_cases hne:l=[]
 ·subst hne;exact BV MR MP
 ·exact MQ l hl hne
theorem MO:Own Tryz.prog 97 [.nil] 9 1 []:=by
 refine Tz.oK ⟨fun t=>t==2||t==5,fun _=>[]⟩ Tryz.func97 rfl (fun Q hQ=>?_)
 have Y:=trivial
 refine wv (h:=?_)
 exact hQ _ _ _ (by simp [go_sem]<;>first|omega|(rw [bF];simp<;>omega)|(simp_all<;>omega)) (by simp [go_sem]<;>first|omega|(rw [bF];simp<;>omega)|(simp_all<;>omega))
theorem ML:Own Tryz.prog 97 [.ne] 9 1 []:=by
 refine Tz.oK ⟨fun t=>t==2||t==5,fun _=>[]⟩ Tryz.func97 rfl (fun Q hQ=>?_)
 have Y:=trivial
 refine wo (h:=?_)
 exact hQ _ _ _ (by simp [go_sem]<;>first|omega|(rw [bF];simp<;>omega)|(simp_all<;>omega)) (by simp [go_sem]<;>first|omega|(rw [bF];simp<;>omega)|(simp_all<;>omega))
theorem MN (l:List ByteArray)(hl:l.length≤1000000)(hne:l≠[]):Own Tryz.prog 97 [.list (l.map cS)] 9 1 (l.map cS):=by
 refine Tz.oK ⟨fun t=>t==2||t==5,fun _=>[]⟩ Tryz.func97 rfl (fun Q hQ=>?_)
 have Y:=hne
 refine wo (h:=?_)
 exact hQ _ _ _ (by simp [go_sem,hne]<;>first|omega|(rw [bF];simp<;>omega)|(simp_all<;>omega)) (by simp [go_sem,hne]<;>first|omega|(rw [bF];simp<;>omega)|(simp_all<;>omega))
theorem PE (l:List ByteArray)(hl:l.length≤1000000):Own Tryz.prog 97 [.list (l.map cS)] 9 1 (l.map cS):=by
 by_cases hne:l=[]
 ·subst hne;exact BV MO ML
 ·exact MN l hl hne
def cN (t:Types)(a:Int):List Attr:=if iV t a a=0 then t.attrs a.toNat else []
theorem qD (t:Types)(a:Int):givenF t [a]=iV t a a:=by
 unfold givenF iV;cases ha:insideF t a<;>simp [ha]
theorem z7 {t:Types}{a:Int}(h:iV t a a=0):t.valid∧0≤a∧a<t.nodes.length:=⟨(sE h).1,(sE h).2.1⟩
theorem o7 (t:Types)(ht:t.ok)(a:Int):Pure Tryz.prog 60 [t.d,dI a] (.tup [.list ((cN t a).map Attr.c),dI (iV t a a)]):=by
 refine Tz.pK ⟨fun _=>false,fun _=>[]⟩ Tryz.func60 rfl (fun Q hQ=>?_)
 have Y:=trivial
 refine wv (h:=aB (wG t ht [a]) wl ?_)
 refine dU (fun h2=>?_) fun h2=>?_
 ·rw [qD] at h2
  exact wv (h:=hQ _ _ (by simp [go_sem,qD,cN,h2]))
 ·rw [qD] at h2
  obtain ⟨hv,h0,h1⟩:=z7 h2
  have hat:=CD t ht a.toNat (by omega) (hv.parentsOK _)
  rw [Int.toNat_of_nonneg h0] at hat
  have hok:∀ x∈t.attrs a.toNat,x.ok:=Cr t.nodes ht.nodes _ _
  have hl8:=hv.attrs a.toNat (by omega)
  refine wv (h:=kC (hat) wl ?_)
  refine wo (h:=cD (fun i e H=>(e 2=.adr t.c∧e 1=dI a∧e 7=.own 0 (t.attrs a.toNat).length∧e 20=dI (t.attrs a.toNat).length∧e 21=dI i)∧(H.get 0=some ⟨149,4,(t.attrs a.toNat).map Attr.c,false⟩)∧(0<H.next)∧(i≤(t.attrs a.toNat).length)) (fun i=>(t.attrs a.toNat).length - i) 0 ⟨wg,(by (simp [go_sem])),wn,wi⟩ fun I0 hI0 i e H hi0=>?_)
  obtain ⟨E0,g0_0,n0_0,hi⟩:=hi0
  have Y:=wa Y (wa E0 (wa g0_0 (cO n0_0)))
  refine dU (fun h6=>?_) fun h6=>?_
  ·have hset:((t.attrs a.toNat).map Attr.c).set i (((t.attrs a.toNat).map Attr.c)[i]'(by simpa using h6))=(t.attrs a.toNat).map Attr.c:=List.set_getElem_self _
   simp [go_sem] at hset
   have Y:=wa Y h6
   refine wo (h:=aB ((PE (t.attrs a.toNat)[i].names (by have:=(hok _ (aC h6)).few;omega)).pure) wl ?_)
   exact wo (h:=wx hI0 (i+1) ⟨wg,(by (simp [go_sem,g0_0,hset])),wn,wj⟩)
  ·exact wv (h:=hQ _ _ (by simp [go_sem,g0_0,cN,h2]))
def i9 (t:Types)(a:Int):List Int:=if iV t a a=0 then ((List.range t.nodes.length).filter fun (b:Nat)=>mem (t.line b) a).map fun (b:Nat)=>(b:Int) else []
theorem fA (p:Nat→Bool)(i:Nat):((List.range (i+1)).filter p).map (fun (b:Nat)=>(b:Int))=((List.range i).filter p).map (fun (b:Nat)=>(b:Int))++(if p i=true then [(i:Int)] else []):=by
 rw [cA,eU,List.map_append]
 congr 1
 by_cases h:p i=true<;>simp [h]
theorem JB (t:Types)(ht:t.ok)(a:Int):Pure Tryz.prog 226 [t.d,dI a] (.tup [dLI (i9 t a),dI (iV t a a)]):=by
 refine Tz.pK ⟨fun t=>t==7,fun _=>[]⟩ Tryz.func226 rfl (fun Q hQ=>?_)
 have Y:=trivial
 refine wv (h:=aB (wG t ht [a]) wl ?_)
 refine dU (fun h2=>?_) fun h2=>?_
 ·rw [qD] at h2
  exact wv (h:=hQ _ _ (by simp [go_sem,qD,i9,h2]))
 ·rw [qD] at h2
  obtain ⟨hv,h0,h1⟩:=z7 h2
  have hN:=hv.fewN
  refine wo (h:=cD (fun i e H=>∃ xs:List Int,(e 2=.adr t.c∧e 1=dI a∧e 7=.own 0 xs.length∧e 18=dI t.nodes.length∧e 19=dI i)∧(H.get 0=some ⟨3,1,xs.map cI,false⟩)∧(0<H.next)∧(i≤t.nodes.length)∧(xs.length≤i)∧(xs=((List.range i).filter fun (b:Nat)=>mem (t.line b) a).map (fun (b:Nat)=>(b:Int)))) (fun i=>t.nodes.length - i) 0 ⟨([]),wg,wn,wn,wi,(by simp),(by rfl)⟩ fun I0 hI0 i e H hi0=>?_)
  obtain ⟨xs,E0,g0_0,n0_0,hi,hl,hx⟩:=hi0
  have Y:=wa Y (wa E0 (wa g0_0 (cO n0_0)))
  refine dU (fun h6=>?_) fun h6=>?_
  ·have Y:=wa Y h6
   refine wv (h:=aB (DU t ht hv i a (by omega) (by omega)) wl ?_)
   refine dU (fun h8=>?_) fun h8=>?_
   ·have Y:=wa Y h8
    exact wo (h:=wx hI0 (i+1) ⟨(xs++(if mem (t.line i) a=true then [(i:Int)] else [])),wg,wn,wn,wj,(by (rw [aT];split<;>simp<;>omega)),(by (rw [fA,← hx]))⟩)
   ·have Y:=wa Y h8
    exact wo (h:=wx hI0 (i+1) ⟨(xs++(if mem (t.line i) a=true then [(i:Int)] else [])),wg,wn,wn,wj,(by (rw [aT];split<;>simp<;>omega)),(by (rw [fA,← hx]))⟩)
  ·exact wv (h:=hQ _ _ (by simp [go_sem,g0_0,i9,h2];rw [hx,show i=t.nodes.length by omega];simp))
def jD {α:Type}(f:α→Int):List α→Int
 | []=>0
 | x :: l=>if f x≠0 then f x else jD f l
theorem qX {α:Type}(f:α→Int){l:List α}{i:Nat}(h:i<l.length):jD f (l.drop i)=if f l[i]≠0 then f l[i] else jD f (l.drop (i+1)):=by
 rw [List.drop_eq_getElem_cons h];rfl
theorem tO {α:Type}(f:α→Int){l:List α}{i:Nat}(h:¬ i<l.length):jD f (l.drop i)=0:=by
 rw [iR (by omega)];rfl
def termB (n:Int)(x:Term):Bool:=decide (-1≤x.var)&&decide (x.var<n)&&decide (-1000000≤x.add)&&decide (x.add≤1000000)
theorem vI (n:Int)(x:Term):Pure Tryz.prog 229 [dI n,.agg [dI x.var,dI x.add]] (.bool (termB n x)):=by
 refine Tz.pK ⟨fun _=>false,fun _=>[]⟩ Tryz.func229 rfl (fun Q hQ=>?_)
 have Y:=trivial
 have Y:=wa Y @termB.eq_1
 exact wo (h:=hQ _ _ wy)
def As (n:Int)(x:Test):Int:=if x.kind≠1∧x.kind≠2 then 1 else if (termB n x.left&&termB n x.right)=true then 0 else 6
theorem Fx (n:Int)(x:Test):Pure Tryz.prog 191 [dI n,.agg x.c] (dI (As n x)):=by
 refine Tz.pK ⟨fun _=>false,fun _=>[]⟩ Tryz.func191 rfl (fun Q hQ=>?_)
 have Y:=trivial
 refine mP (fun h1=>?_) fun h1=>?_
 ·exact wv (h:=hQ _ _ (by simp [go_sem,As];omega))
 ·refine wo (h:=aB (vI n x.left) wl ?_)
  refine wo (h:=bD (fun hg=>vI n x.right) (fun hg=>wl) ?_)
  refine mP (fun h3=>?_) fun h3=>?_
  ·exact wv (h:=hQ _ _ (by revert h3;cases ha:termB n x.left<;>cases hb:termB n x.right<;>simp [go_sem,As,ha,hb]<;>omega))
  ·exact wv (h:=hQ _ _ (by revert h3;cases ha:termB n x.left<;>cases hb:termB n x.right<;>simp [go_sem,As,ha,hb]<;>omega))
def oJ (n:Int)(l:List Test):Int:=if n<0∨12<n then 6 else if 40<l.length then 3 else jD (As n) l
theorem Cg (n:Int)(l:List Test):Pure Tryz.prog 159 [dI n,.list (l.map Test.c)] (dI (oJ n l)):=by
 refine Tz.pK ⟨fun t=>t==6,fun _=>[]⟩ Tryz.func159 rfl (fun Q hQ=>?_)
 have Y:=trivial
 refine mP (fun h1=>?_) fun h1=>?_
 ·exact wv (h:=hQ _ _ (by simp [go_sem,oJ];omega))
 ·refine mP (fun h3=>?_) fun h3=>?_
  ·exact wv (h:=hQ _ _ (by simp [go_sem,oJ];omega))
  ·refine wo (h:=cD (fun i e H=>(e 0=dI n∧e 17=.list (l.map Test.c)∧e 18=dI l.length∧e 19=dI i)∧(i≤l.length)∧(jD (As n) (l.drop i)=oJ n l)) (fun i=>l.length - i) 0 ⟨wg,wi,(by (rw [oJ,if_neg (by omega),if_neg (by omega)];rfl))⟩ fun I0 hI0 i e H hi0=>?_)
   obtain ⟨E0,hi,hF⟩:=hi0
   have Y:=wa Y E0
   refine dU (fun h6=>?_) fun h6=>?_
   ·have hst:=hF
    rw [qX _ h6] at hst
    have Y:=wa Y h6
    refine wo (h:=aB (Fx n l[i]) wl ?_)
    refine mP (fun h9=>?_) fun h9=>?_
    ·exact wv (h:=hQ _ _ (by rw [if_pos (by simpa using h9)] at hst;simp [go_sem,hst]))
    ·exact wo (h:=wx hI0 (i+1) ⟨wg,wj,(by (rw [if_neg (by simp [h9])] at hst;exact hst))⟩)
   ·exact wv (h:=hQ _ _ (by rw [← hF,tO _ (by omega)];simp [go_sem]))
theorem iP (n low high:Int):Pure Tryz.prog 157 [dI n,dI low,dI high] (.bool (inF n low high)):=by
 refine Tz.pK ⟨fun _=>false,fun _=>[]⟩ Tryz.func157 rfl (fun Q hQ=>?_)
 have Y:=trivial
 have Y:=wa Y @inF.eq_1
 exact wo (h:=hQ _ _ wy)
def qH:Attr:=⟨⟨#[]⟩,0,0,[]⟩
def Pattern.kind (p:Pattern)(node:Int):Int:=p.graph.nodes[node.toNat]?.getD 0
def pV (t:Types)(p:Pattern)(node attr:Int):Bool:=decide (0≤node)&&decide (node<p.graph.nodes.length)&&(decide (0≤attr)&&decide (attr<(cN t (p.kind node)).length))
def N7 (t:Types)(p:Pattern)(node attr:Int):Attr:=if pV t p node attr=true then (cN t (p.kind node))[attr.toNat]?.getD qH else qH
theorem uZ {t:Types}(ht:t.ok)(a:Int):(cN t a).length≤8:=by
 unfold cN
 split
 ·rename_i h
  obtain ⟨hv,h0,h1⟩:=z7 h
  exact hv.attrs _ (by omega)
 ·simp
theorem FU (t:Types)(ht:t.ok)(p:Pattern)(hp:p.graph.nodes.length≤1000)(s:Slot):Pure Tryz.prog 158 [t.d,p.d,.agg s.c] (.tup [.agg (N7 t p s.node s.attr).c,.bool (pV t p s.node s.attr)]):=by
 have h8:=uZ ht (p.kind s.node)
 refine Tz.pK ⟨fun t=>t==6,fun _=>[]⟩ Tryz.func158 rfl (fun Q hQ=>?_)
 have Y:=trivial
 refine wo (h:=aB (iP _ _ _) wl ?_)
 refine mP (fun h1=>?_) fun h1=>?_
 ·simp [inF] at h1
  have hB:pV t p s.node s.attr=false:=by rw [eE];intro h;simp [pV] at h;omega
  exact wv (h:=hQ _ _ (by simp [go_sem,N7,hB,qH]))
 ·simp [inF] at h1
  have hn:s.node.toNat<p.graph.nodes.length:=by omega
  have hk:p.kind s.node=p.graph.nodes[s.node.toNat]:=by simp [Pattern.kind,hn]
  rw [hk] at h8
  have Y:=wa Y (wa (aA hn) hk)
  refine wo (h:=bB (o7 t ht p.graph.nodes[s.node.toNat]) wl ?_)
  refine wo (h:=aB (iP _ _ _) wl ?_)
  refine mP (fun h4=>?_) fun h4=>?_
  ·simp [inF] at h4
   have hB:pV t p s.node s.attr=false:=by rw [eE];intro h;simp [pV,hk] at h;omega
   exact wv (h:=hQ _ _ (by simp [go_sem,N7,hB,qH]))
  ·simp [inF] at h4
   have ha:s.attr.toNat<(cN t p.graph.nodes[s.node.toNat]).length:=by omega
   have hB:pV t p s.node s.attr=true:=by simp [pV,hk];omega
   have Y:=wa Y (aA ha)
   exact wo (h:=hQ _ _ (by simp [go_sem,N7,hB,hk,aA ha]))
end Go.Abs
end
