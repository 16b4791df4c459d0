/- Layer 4: types. · Layer 4: types, continued. · Layer 4: type -/
import Derived.Test.YtjfaalokjnmdoaaGreatZaG
import Derived.Test.YtjfaalokjnmdoaaGreatZaF
import Derived.Test.YtjfaalokjnmdoaaGreatZaA
set_option linter.unusedVariables false
set_option linter.unusedSimpArgs false
section
set_option maxRecDepth 100000
set_option maxHeartbeats 4000000
open Go Go.Proofs
namespace Go.Abs
def AV {α:Type}(xs:List α)(p:α→Bool):Int:=match xs.findIdx? p with|some i=>i|none=>-1
theorem nG {α:Type}{xs:List α}{p:α→Bool}{i:Nat}(h:∀ j x,j<i→xs[j]?=some x→p x=false)(hi:i<xs.length)(hp:p xs[i]=true):AV xs p=i:=by
 have:xs.findIdx? p=some i:=by
  rw [gL]
  exact ⟨hi,hp,fun j hj=>by simp [h j _ hj (aA (by omega))]⟩
 simp [AV,this]
theorem nH {α:Type}{xs:List α}{p:α→Bool}(h:∀ j x,j<xs.length→xs[j]?=some x→p x=false):AV xs p = -1:=by
 have:xs.findIdx? p=none:=by
  rw [pJ]
  intro x hx
  obtain ⟨j,hj,rfl⟩:=aN hx
  exact h j _ hj (aA hj)
 simp [AV,this]
theorem pX {α:Type}(xs:List α)(p:α→Bool):decide (0≤AV xs p)=xs.any p:=by
 unfold AV
 cases h:xs.findIdx? p with
 | none =>
  rw [pJ] at h
  have:xs.any p=false:=by simpa using h
  simp [this]
 | some i =>
  rw [gL] at h
  obtain ⟨hi,hv,_⟩:=h
  have:xs.any p=true:=aU.2 ⟨xs[i],aC hi,hv⟩
  simp [this]
theorem DK (xs:List Attr)(g:FuncId)(caps:List D)(p:Attr→Bool)(hc:D.clL caps=true)(hg:∀ x∈xs,Pure Tryz.prog g (.agg x.c :: caps) (.bool (p x))) :
  Pure Tryz.prog 395 [.list (xs.map Attr.c),.fn g caps] (dI (AV xs p)):=by
 refine aM (aG (cfg:=⟨fun _=>false,fun _=>[]⟩) Tz.mixed Tryz.func395 rfl rfl (aE rfl) (by kernel_rfl) ?_)
 simp [go_sem,seval,dI,dLI]
 intro hlen
 refine eN (ι:=Nat) (fun i e H=>H=.emp∧i≤xs.length∧e 0=.list (xs.map Attr.c)∧e 1=.fn g caps∧e 7=dI xs.length∧e 8=dI i∧(∀ j x,j<i→xs[j]?=some x→p x=false)) (fun i=>xs.length - i) 0 (by simp [go_sem,seval,dI,dLI]) ?_
 intro i e H ⟨hH,hi,h0,h1,h7,h8,hn⟩
 subst hH
 simp [go_sem,seval,h0,h1,h7,h8,dI,dLI]
 refine eU (fun hlt=>?_) (fun hge=>?_)
 ·have hgx:=hg xs[i] (aC hlt)
  simp [go_sem,seval,h0,h1,h7,h8,dI,dLI,hlt,Attr.c] at hgx ⊢
  refine aB hgx (by simp [go_sem,hc]) ?_
  simp [go_sem,seval,h0,h1,h7,h8,dI,dLI]
  refine aO (fun h=>?_) (fun h=>?_)
  ·simp [go_sem,seval,h0,h1,h7,h8,dI,dLI]
   rw [nG hn hlt h]
  ·simp [go_sem,seval,h0,h1,h7,h8,dI,dLI]
   refine ⟨cF (by omega) (by omega),i+1,by omega,by omega,by omega,fun j x hj hx=>?_⟩
   rcases bN j i with hj'|hj'
   ·exact hn j x hj' hx
   ·have:j=i:=by omega
    subst this
    rw [aA hlt] at hx
    cases hx;exact h
 ·simp [go_sem,seval,h0,h1,h7,h8,dI,dLI]
  rw [nH fun j x hj=>hn j x (by omega)]
theorem Af (xs:List Attr)(g:FuncId)(caps:List D)(p:Attr→Bool)(hc:D.clL caps=true)(hl:D.cl (.list (xs.map Attr.c))=true)(hg:∀ x∈xs,Pure Tryz.prog g (.agg x.c :: caps) (.bool (p x))) :
  Pure Tryz.prog 342 [.list (xs.map Attr.c),.fn g caps] (.bool (xs.any p)):=by
 refine aM (aG (cfg:=⟨fun _=>false,fun _=>[]⟩) Tz.mixed Tryz.func342 rfl rfl (aE rfl) (by kernel_rfl) ?_)
 simp [go_sem,seval]
 refine aB (DK xs g caps p hc hg) (by simp only [D.clL,hl,fI];simp [D.cl,hc]) ?_
 simp [go_sem,seval,dI,pX]
theorem p7 (l:List Attr):D.clLL (l.map Attr.c)=true:=cJ _ Attr.cl l
def lB (l:List ByteArray):List ByteArray→Int
 | []=>0
 | s :: r=>if jY s=false then 2 else if mem l s=true then 5 else lB (l++[s]) r
def lQ (l:List ByteArray):Int:=if 20<l.length then 3 else lB [] l
theorem HP (l:List ByteArray)(hs:∀ s∈l,s.size≤100000):Pure Tryz.prog 344 [qL l] (dI (lQ l)):=by
 refine aM (aG (cfg:=⟨fun _=>false,fun _=>[]⟩) Tz.mixed Tryz.func344 rfl rfl (aE rfl) (by kernel_rfl) ?_)
 simp [go_sem,seval,dI,qL]
 intro hlen
 refine aO (fun h=>?_) (fun h=>?_)
 ·simp at h
  simp [go_sem,seval,lQ,show 20<l.length by omega]
 ·simp at h
  simp [go_sem,seval,lQ,show ¬ 20<l.length by omega]
  intro hlen2
  refine eN (ι:=Nat) (fun i e H=>H=.emp∧i≤l.length∧e 0=qL l∧e 8=qL l∧e 9=dI l.length∧e 10=dI i∧lB (l.take i) (l.drop i)=lB [] l) (fun i=>l.length - i) 0 (by simp [go_sem,seval,dI,qL]) ?_
  intro i e H ⟨hH,hi,h0,h8,h9,h10,hn⟩
  subst hH
  simp [go_sem,seval,h0,h8,h9,h10,dI,qL]
  refine eU (fun hlt=>?_) (fun hge=>?_)
  ·rw [fR hlt] at hn
   have hsz:=hs _ (aC hlt)
   simp [go_sem,seval,h0,h8,h9,h10,dI,qL,hlt,cS]
   refine aB (mD _ hsz) rfl ?_
   simp [go_sem,seval]
   refine aO (fun hc=>?_) (fun hc=>?_)
   ·simp at hc
    simp [go_sem,seval]
    rw [← hn];simp [lB,hc]
   ·simp at hc
    simp [go_sem,seval,h0,h8,h9,h10,dI,qL]
    have hcs:=Ab (l.take i) l[i]
    simp only [qL,List.map_take] at hcs
    have hcl:D.clLL (List.take i (List.map cS l))=true:=by rw [← List.map_take];exact cJ cS (fun _=>rfl) _
    refine ⟨⟨hi,by cases l<;>simp [cS]⟩,aB hcs (by simp [D.clL,D.cl,hcl]) ?_⟩
    simp [go_sem,seval,h0,h8,h9,h10,dI,qL]
    refine aO (fun hm=>?_) (fun hm=>?_)
    ·simp [go_sem,seval]
     rw [← hn];simp [lB,hc,hm]
    ·simp [go_sem,seval,h0,h8,h9,h10,dI,qL]
     refine ⟨cF (by omega) (by omega),i+1,by omega,by omega,by omega,?_⟩
     rw [← hn,lB,if_neg (by simp [hc]),if_neg (by simp [hm]),aF hlt]
  ·simp [go_sem,seval,h0,h8,h9,h10,dI,qL]
   rw [← hn,show i=l.length by omega];simp [lB]
theorem Ay (x y:Attr):Pure Tryz.prog 343 [.agg y.c,.adr x.c] (.bool (decide (y.name=x.name))):=by
 refine aM (aG (cfg:=⟨fun _=>false,fun _=>[]⟩) Tz.mixed Tryz.func343 rfl rfl (aE rfl) (by kernel_rfl) ?_)
 simp [go_sem,seval,Attr.c,dI,qL]
structure Attr.ok (x:Attr):Prop where
 name:x.name.size≤100000
 names:∀ s∈x.names,s.size≤100000
 few:x.names.length≤1000
def cQ (x:Attr)(before:List Attr):Int :=
 if jY x.name=false then 2
 else if (before.any fun y=>decide (y.name=x.name))=true then 5
 else if lQ x.names≠0 then lQ x.names
 else if (if 0<x.names.length then decide (x.low=0)&&decide (x.high=x.names.length - 1) else decide (-1000000≤x.low)&&decide (x.low≤x.high)&&decide (x.high≤1000000))=true then 0 else 6
theorem B6 (x:Attr)(before:List Attr)(hx:x.ok):Pure Tryz.prog 255 [.agg x.c,.list (before.map Attr.c)] (dI (cQ x before)):=by
 refine aM (aG (cfg:=⟨fun _=>false,fun _=>[]⟩) Tz.mixed Tryz.func255 rfl rfl (aE rfl) (by kernel_rfl) ?_)
 simp [go_sem,seval,dI,qL,Attr.c]
 refine aB (mD _ hx.name) rfl ?_
 simp [go_sem,seval]
 refine aO (fun hn=>?_) (fun hn=>?_)
 ·simp at hn
  simp [go_sem,seval,cQ,hn]
 ·simp at hn
  simp [go_sem,seval]
  have hc:=Af before 343 [.adr x.c] (fun y=>decide (y.name=x.name)) (by simp [D.clL,D.cl,Attr.cl]) (by simp [D.cl,p7]) (fun y _=>Ay x y)
  simp only [Attr.c,dI,qL] at hc
  have hcS:D.clLL (List.map cS x.names)=true:=cJ cS (fun _=>rfl) _
  refine aB hc (by simp [D.clL,D.cl,p7,hcS]) ?_
  simp [go_sem,seval]
  refine aO (fun hb=>?_) (fun hb=>?_)
  ·simp [go_sem,seval,cQ,hn,hb]
  ·simp [go_sem,seval]
   have hnm:=HP x.names hx.names
   simp only [qL,dI] at hnm
   refine aB hnm (by simp [D.clL,D.cl,hcS]) ?_
   simp [go_sem,seval]
   have hfew:=hx.few
   refine aO (fun hz=>?_) (fun hz=>?_)
   ·simp at hz
    simp [go_sem,seval,cQ,hn,hb,hz]
   ·simp at hz
    simp [go_sem,seval]
    intro hlen
    refine aO (fun hp=>?_) (fun hp=>?_)
    ·have hp':0<x.names.length:=by simp at hp;omega
     simp [go_sem,seval]
     refine fun _=>⟨fun _=>cF (by omega) (by omega),aO (fun ho=>?_) (fun ho=>?_)⟩
     ·have e:cQ x before=6:=by unfold cQ;rw [if_neg (by simp [hn]),if_neg (by simp [hb]),if_neg (by simp [hz]),if_pos hp',if_neg (by simp at ho ⊢;omega)]
      simp [go_sem,seval,e]
     ·have e:cQ x before=0:=by unfold cQ;rw [if_neg (by simp [hn]),if_neg (by simp [hb]),if_neg (by simp [hz]),if_pos hp',if_pos (by simp at ho ⊢;omega)]
      simp [go_sem,seval,e]
    ·have hp':¬ 0<x.names.length:=by simp at hp;simp [hp]
     simp [go_sem,seval]
     refine aO (fun ho=>?_) (fun ho=>?_)
     ·have e:cQ x before=6:=by unfold cQ;rw [if_neg (by simp [hn]),if_neg (by simp [hb]),if_neg (by simp [hz]),if_neg hp',if_neg (by simp at ho ⊢;omega)]
      simp [go_sem,seval,e]
     ·have e:cQ x before=0:=by unfold cQ;rw [if_neg (by simp [hn]),if_neg (by simp [hb]),if_neg (by simp [hz]),if_neg hp',if_pos (by simp at ho ⊢;omega)]
      simp [go_sem,seval,e]
structure NodeTy.ok (n:NodeTy):Prop where
 name:n.name.size≤100000
 attrs:∀ x∈n.attrs,x.ok
 few:n.attrs.length≤1000
structure EdgeTy.ok (x:EdgeTy):Prop where
 name:x.name.size≤100000
structure Types.ok (t:Types):Prop where
 nodes:∀ n∈t.nodes,n.ok
 edges:∀ x∈t.edges,x.ok
 fewN:t.nodes.length≤1000
 fewE:t.edges.length≤1000
def kT (nodes:List NodeTy):Nat→Nat→List Attr
 | 0,_=>[]
 | f+1,a=>match nodes[a]? with
  | none=>[]
  | some n=>(if 0≤n.parent then kT nodes f n.parent.toNat else [])++n.attrs
def Types.attrs (t:Types)(a:Nat):List Attr:=kT t.nodes (a+1) a
theorem p9 (nodes:List NodeTy)(h:∀ n∈nodes,n.attrs.length≤1000):∀ f a,(kT nodes f a).length≤1000 * f
 | 0,a=>by simp [kT]
 | f+1,a=>by
  unfold kT
  split
  ·simp
  ·rename_i n hn
   have:=h n (aH hn)
   have h2:=p9 nodes h f n.parent.toNat
   simp only [aT]
   split<;>simp<;>omega
@[go_sem] theorem Attr.len (a:Attr):a.c.length=4:=rfl
theorem Attr.cells (a:Attr):∀ x∈a.c,x.cell=true:=by simp [Attr.c,D.cell,dI,qL]
def parentsOK (nodes:List NodeTy)(a:Nat):Prop:=∀ j n,j≤a→nodes[j]?=some n→n.parent<j
theorem BT (nodes:List NodeTy):∀ a f g,parentsOK nodes a→a<f→a<g→kT nodes f a=kT nodes g a:=by
 intro a
 induction a using Nat.strongRecOn with
 | _ a ih =>
  intro f g hp hf hg
  obtain ⟨f,rfl⟩:∃ f',f=f'+1:=⟨f - 1,by omega⟩
  obtain ⟨g,rfl⟩:∃ g',g=g'+1:=⟨g - 1,by omega⟩
  unfold kT
  split
  ·rfl
  ·rename_i n hn
   have:=hp a n (bC _) hn
   congr 1
   split
   ·exact ih n.parent.toNat (by omega) f g (fun j m hj hm=>hp j m (by omega) hm) (by omega) (by omega)
   ·rfl
theorem Bi (t:Types)(ht:t.ok):∀ a,a<t.nodes.length→parentsOK t.nodes a→Own Tryz.prog 254 [t.d,dI a] 186 4 ((t.attrs a).map Attr.c):=by
 intro a
 induction a using Nat.strongRecOn with
 | _ a ih =>
  intro ha hp
  have hpa:=hp a _ (bC _) (aA ha)
  have hlen:=p9 t.nodes (fun n hn=>(ht.nodes n hn).few) (a+1) a
  have hfew:=ht.fewN
  have hna:=(ht.nodes _ (aC ha)).few
  refine zN (aG (cfg:=⟨fun t=>t==5,fun _=>[]⟩) Tz.mixed Tryz.func254 rfl rfl (aE rfl) (by kernel_rfl) ?_)
  simp [go_sem,seval,dI,Types.d,Types.c,NodeTy.c,aA ha,ha]
  refine aO (fun h=>?_) (fun h=>?_)
  ·have h':0≤t.nodes[a].parent:=by simpa using h
   have hlt:t.nodes[a].parent.toNat<a:=by omega
   have hc:=ih _ hlt (by omega) (fun j m hj hm=>hp j m (by omega) hm)
   rw [Int.toNat_of_nonneg h'] at hc
   have e:t.attrs a=t.attrs t.nodes[a].parent.toNat++t.nodes[a].attrs:=by
    have:=BT t.nodes t.nodes[a].parent.toNat a (t.nodes[a].parent.toNat+1) (fun j m hj hm=>hp j m (by omega) hm) hlt (by omega)
    simp [Types.attrs,kT,aA ha,h',this]
   have hlen2:=p9 t.nodes (fun n hn=>(ht.nodes n hn).few) (t.nodes[a].parent.toNat+1) t.nodes[a].parent.toNat
   have hl3:(t.attrs t.nodes[a].parent.toNat).length≤2000000:=by
    have:(t.attrs t.nodes[a].parent.toNat).length≤1000 * (t.nodes[a].parent.toNat+1):=hlen2
    omega
   simp [go_sem,seval,dI,Types.d,Types.c,NodeTy.c,aA ha,ha] at hc ⊢
   refine lU hc (by simp [D.clL,D.cl,cJ _ NodeTy.cl,cJ _ EdgeTy.cl]) ?_
   simp [go_sem,seval,dI,Types.d,Types.c,NodeTy.c,aA ha,ha,e,p7]
   exact ⟨⟨by omega,fun x _ y hy=>Attr.cells x y hy⟩,by rw [← List.map_append];exact p7 _⟩
  ·have h':¬ 0≤t.nodes[a].parent:=by simpa using h
   have e:t.attrs a=t.nodes[a].attrs:=by simp [Types.attrs,kT,aA ha,h']
   simp [go_sem,seval,dI,Types.d,Types.c,NodeTy.c,aA ha,ha,e,p7]
   exact ⟨by omega,fun x _ y hy=>Attr.cells x y hy⟩
attribute [go_sem] p7
@[go_sem] theorem TA (l:List ByteArray):D.clLL (l.map cS)=true:=cJ cS (fun _=>rfl) l
theorem DH (xs:List NodeTy)(g:FuncId)(caps:List D)(p:NodeTy→Bool)(hc:D.clL caps=true)(hg:∀ x∈xs,Pure Tryz.prog g (.agg x.c :: caps) (.bool (p x))) :
  Pure Tryz.prog 341 [.list (xs.map NodeTy.c),.fn g caps] (dI (AV xs p)):=by
 refine aM (aG (cfg:=⟨fun _=>false,fun _=>[]⟩) Tz.mixed Tryz.func341 rfl rfl (aE rfl) (by kernel_rfl) ?_)
 simp [go_sem,seval,dI,dLI]
 intro hlen
 refine eN (ι:=Nat) (fun i e H=>H=.emp∧i≤xs.length∧e 0=.list (xs.map NodeTy.c)∧e 1=.fn g caps∧e 7=dI xs.length∧e 8=dI i∧(∀ j x,j<i→xs[j]?=some x→p x=false)) (fun i=>xs.length - i) 0 (by simp [go_sem,seval,dI,dLI]) ?_
 intro i e H ⟨hH,hi,h0,h1,h7,h8,hn⟩
 subst hH
 simp [go_sem,seval,h0,h1,h7,h8,dI,dLI]
 refine eU (fun hlt=>?_) (fun hge=>?_)
 ·have hgx:=hg xs[i] (aC hlt)
  simp [go_sem,seval,h0,h1,h7,h8,dI,dLI,hlt,NodeTy.c] at hgx ⊢
  refine aB hgx (by simp [go_sem,hc]) ?_
  simp [go_sem,seval,h0,h1,h7,h8,dI,dLI]
  refine aO (fun h=>?_) (fun h=>?_)
  ·simp [go_sem,seval,h0,h1,h7,h8,dI,dLI]
   rw [nG hn hlt h]
  ·simp [go_sem,seval,h0,h1,h7,h8,dI,dLI]
   refine ⟨cF (by omega) (by omega),i+1,by omega,by omega,by omega,fun j x hj hx=>?_⟩
   rcases bN j i with hj'|hj'
   ·exact hn j x hj' hx
   ·have:j=i:=by omega
    subst this
    rw [aA hlt] at hx
    cases hx;exact h
 ·simp [go_sem,seval,h0,h1,h7,h8,dI,dLI]
  rw [nH fun j x hj=>hn j x (by omega)]
theorem Ac (xs:List NodeTy)(g:FuncId)(caps:List D)(p:NodeTy→Bool)(hc:D.clL caps=true)(hl:D.cl (.list (xs.map NodeTy.c))=true)(hg:∀ x∈xs,Pure Tryz.prog g (.agg x.c :: caps) (.bool (p x))) :
  Pure Tryz.prog 252 [.list (xs.map NodeTy.c),.fn g caps] (.bool (xs.any p)):=by
 refine aM (aG (cfg:=⟨fun _=>false,fun _=>[]⟩) Tz.mixed Tryz.func252 rfl rfl (aE rfl) (by kernel_rfl) ?_)
 simp [go_sem,seval]
 refine aB (DH xs g caps p hc hg) (by simp only [D.clL,hl,fI];simp [D.cl,hc]) ?_
 simp [go_sem,seval,dI,pX]
theorem DI (xs:List EdgeTy)(g:FuncId)(caps:List D)(p:EdgeTy→Bool)(hc:D.clL caps=true)(hg:∀ x∈xs,Pure Tryz.prog g (.agg x.c :: caps) (.bool (p x))) :
  Pure Tryz.prog 345 [.list (xs.map EdgeTy.c),.fn g caps] (dI (AV xs p)):=by
 refine aM (aG (cfg:=⟨fun _=>false,fun _=>[]⟩) Tz.mixed Tryz.func345 rfl rfl (aE rfl) (by kernel_rfl) ?_)
 simp [go_sem,seval,dI,dLI]
 intro hlen
 refine eN (ι:=Nat) (fun i e H=>H=.emp∧i≤xs.length∧e 0=.list (xs.map EdgeTy.c)∧e 1=.fn g caps∧e 7=dI xs.length∧e 8=dI i∧(∀ j x,j<i→xs[j]?=some x→p x=false)) (fun i=>xs.length - i) 0 (by simp [go_sem,seval,dI,dLI]) ?_
 intro i e H ⟨hH,hi,h0,h1,h7,h8,hn⟩
 subst hH
 simp [go_sem,seval,h0,h1,h7,h8,dI,dLI]
 refine eU (fun hlt=>?_) (fun hge=>?_)
 ·have hgx:=hg xs[i] (aC hlt)
  simp [go_sem,seval,h0,h1,h7,h8,dI,dLI,hlt,EdgeTy.c] at hgx ⊢
  refine aB hgx (by simp [go_sem,hc]) ?_
  simp [go_sem,seval,h0,h1,h7,h8,dI,dLI]
  refine aO (fun h=>?_) (fun h=>?_)
  ·simp [go_sem,seval,h0,h1,h7,h8,dI,dLI]
   rw [nG hn hlt h]
  ·simp [go_sem,seval,h0,h1,h7,h8,dI,dLI]
   refine ⟨cF (by omega) (by omega),i+1,by omega,by omega,by omega,fun j x hj hx=>?_⟩
   rcases bN j i with hj'|hj'
   ·exact hn j x hj' hx
   ·have:j=i:=by omega
    subst this
    rw [aA hlt] at hx
    cases hx;exact h
 ·simp [go_sem,seval,h0,h1,h7,h8,dI,dLI]
  rw [nH fun j x hj=>hn j x (by omega)]
theorem Ad (xs:List EdgeTy)(g:FuncId)(caps:List D)(p:EdgeTy→Bool)(hc:D.clL caps=true)(hl:D.cl (.list (xs.map EdgeTy.c))=true)(hg:∀ x∈xs,Pure Tryz.prog g (.agg x.c :: caps) (.bool (p x))) :
  Pure Tryz.prog 257 [.list (xs.map EdgeTy.c),.fn g caps] (.bool (xs.any p)):=by
 refine aM (aG (cfg:=⟨fun _=>false,fun _=>[]⟩) Tz.mixed Tryz.func257 rfl rfl (aE rfl) (by kernel_rfl) ?_)
 simp [go_sem,seval]
 refine aB (DI xs g caps p hc hg) (by simp only [D.clL,hl,fI];simp [D.cl,hc]) ?_
 simp [go_sem,seval,dI,pX]
@[go_sem] theorem sI (l:List NodeTy):D.clLL (l.map NodeTy.c)=true:=cJ _ NodeTy.cl l
@[go_sem] theorem sP (l:List EdgeTy):D.clLL (l.map EdgeTy.c)=true:=cJ _ EdgeTy.cl l
theorem HO (x y:NodeTy):Pure Tryz.prog 253 [.agg y.c,.adr x.c] (.bool (decide (y.name=x.name))):=by
 refine aM (aG (cfg:=⟨fun _=>false,fun _=>[]⟩) Tz.mixed Tryz.func253 rfl rfl (aE rfl) (by kernel_rfl) ?_)
 simp [go_sem,seval,NodeTy.c,dI,qL]
theorem sY (nodes:List NodeTy)(h:∀ n∈nodes,n.ok):∀ f a,∀ x∈kT nodes f a,x.ok
 | 0,a,x,hx=>by simp [kT] at hx
 | f+1,a,x,hx=>by
  unfold kT at hx
  split at hx
  ·simp at hx
  ·rename_i n hn
   rcases aW.1 hx with hx|hx
   ·split at hx
    ·exact sY nodes h f _ x hx
    ·simp at hx
   ·exact (h n (aH hn)).attrs x hx
def bI (f:Nat→Int):Nat→Nat→Int
 | _,0=>0
 | k,n+1=>if f k≠0 then f k else bI f (k+1) n
def fS (t:Types)(i:Nat):Int :=
 match t.nodes[i]? with
 | none=>0
 | some n =>
  if jY n.name=false then 2
  else if ((t.nodes.take i).any fun m=>decide (m.name=n.name))=true then 5
  else if (decide (n.parent < -1)||decide ((i:Int)≤n.parent))=true then 6
  else if 4<n.attrs.length then 3
  else if 8<(t.attrs i).length then 3
  else bI (fun k=>match (t.attrs i)[k]? with|some x=>cQ x ((t.attrs i).take k)|none=>0) ((t.attrs i).length - n.attrs.length) n.attrs.length
theorem JZ (t:Types)(ht:t.ok)(i:Nat)(hi:i<t.nodes.length)(hp:∀ j n,j<i→t.nodes[j]?=some n→n.parent<j):Pure Tryz.prog 155 [t.d,dI i] (dI (fS t i)):=by
 have hno:=ht.nodes _ (aC hi)
 refine aM (aG (cfg:=⟨fun t=>t==5,fun _=>[]⟩) Tz.mixed Tryz.func155 rfl rfl (aE rfl) (by kernel_rfl) ?_)
 simp [go_sem,seval,dI,Types.d,Types.c,NodeTy.c,aA hi,hi]
 refine aB (mD _ hno.name) rfl ?_
 simp [go_sem,seval]
 refine aO (fun hn=>?_) (fun hn=>?_)
 ·simp at hn
  simp [go_sem,seval,fS,aA hi,hn]
 ·simp at hn
  simp [go_sem,seval]
  have hc:=Ac (t.nodes.take i) 253 [.adr t.nodes[i].c] (fun y=>decide (y.name=t.nodes[i].name)) (by simp [D.clL,D.cl,NodeTy.cl]) (by rw [D.cl];exact sI _) (fun y _=>HO t.nodes[i] y)
  refine ⟨⟨by omega,by cases t.nodes<;>simp [NodeTy.c]⟩,rH hc (by simp [C4,AJ,eF,go_sem,NodeTy.c,dI,List.map_take]) (by simp only [D.clL,D.cl,sI,NodeTy.cl];rfl) rfl ?_⟩
  simp [go_sem,seval]
  refine aO (fun hb=>?_) (fun hb=>?_)
  ·simp [go_sem,seval,fS,aA hi,hn,hb]
  ·simp [go_sem,seval,NodeTy.c,dI]
   refine aO (fun hr=>?_) (fun hr=>?_)
   ·have hr':(decide (t.nodes[i].parent < -1)||decide ((i:Int)≤t.nodes[i].parent))=true:=by simpa using hr
    simp [go_sem,seval]
    have e:fS t i=6:=by simp only [fS,aA hi];rw [if_neg (by simp [hn]),if_neg (by simp [hb]),if_pos hr']
    simp [e]
   ·simp at hr
    simp [go_sem,seval]
    have hr':¬ (decide (t.nodes[i].parent < -1)||decide ((i:Int)≤t.nodes[i].parent))=true:=by simp;omega
    intro hlen
    refine aO (fun h4=>?_) (fun h4=>?_)
    ·have h4':4<t.nodes[i].attrs.length:=by simp at h4;omega
     simp [go_sem,seval]
     have e:fS t i=3:=by simp only [fS,aA hi];rw [if_neg (by simp [hn]),if_neg (by simp [hb]),if_neg hr',if_pos h4']
     simp [e]
    ·have h4':¬ 4<t.nodes[i].attrs.length:=by simp at h4;omega
     simp [go_sem,seval]
     have hpo:parentsOK t.nodes i:=fun j n hj hn'=>by
      rcases bN j i with h|h
      ·exact hp j n h hn'
      ·have:j=i:=by omega
       subst this
       rw [aA hi] at hn'
       cases hn';omega
     have hat:=Bi t ht i hi hpo
     simp only [Types.d,Types.c,dI] at hat
     refine aB hat.pure (by simp [D.clL,D.cl,sI,sP]) ?_
     simp [go_sem,seval,NodeTy.c,dI]
     intro hlen2
     refine aO (fun h8=>?_) (fun h8=>?_)
     ·have h8':8<(t.attrs i).length:=by simp at h8;omega
      simp [go_sem,seval]
      have e:fS t i=3:=by simp only [fS,aA hi];rw [if_neg (by simp [hn]),if_neg (by simp [hb]),if_neg hr',if_neg h4',if_pos h8']
      simp [e]
     ·have h8':¬ 8<(t.attrs i).length:=by simp at h8;omega
      have e:fS t i=bI (fun k=>match (t.attrs i)[k]? with|some x=>cQ x ((t.attrs i).take k)|none=>0) ((t.attrs i).length - t.nodes[i].attrs.length) t.nodes[i].attrs.length:=by
       simp only [fS,aA hi];rw [if_neg (by simp [hn]),if_neg (by simp [hb]),if_neg hr',if_neg h4',if_neg h8']
      have hle:t.nodes[i].attrs.length≤(t.attrs i).length:=by simp [Types.attrs,kT,aA hi]
      have hok:∀ x∈t.attrs i,x.ok:=sY t.nodes ht.nodes _ _
      simp [go_sem,seval,NodeTy.c,dI]
      refine fun _ _=>⟨cF (by omega) (by omega),?_⟩
      refine eN (ι:=Nat) (fun k e H=>k≤(t.attrs i).length∧e 6=.list ((t.attrs i).map Attr.c)∧e 7=dI k ∧
       bI (fun k=>match (t.attrs i)[k]? with|some x=>cQ x ((t.attrs i).take k)|none=>0) k ((t.attrs i).length - k)=fS t i) (fun k=>(t.attrs i).length - k) ((t.attrs i).length - t.nodes[i].attrs.length) ?_ ?_
      ·simp [go_sem,seval,dI]
       refine ⟨by omega,?_⟩
       rw [e];congr 1;omega
      ·intro k e' H ⟨hk,h6,h7,hF⟩
       simp [go_sem,seval,h6,h7,dI]
       intro hlen3
       refine eU (fun hlt=>?_) (fun hge=>?_)
       ·simp [go_sem,seval,h6,h7,dI,hlt,Attr.c]
        have hta:=B6 (t.attrs i)[k] ((t.attrs i).take k) (hok _ (aC hlt))
        simp only [Attr.c,dI,List.map_take] at hta
        have hcl:D.clLL (List.take k (List.map Attr.c (t.attrs i)))=true:=by rw [← List.map_take];exact p7 _
        refine ⟨⟨hk,by cases t.attrs i<;>simp [Attr.c]⟩,aI hta (by simp [D.clL,D.cl,hcl,Od]) ?_⟩
        have hstep:bI (fun k=>match (t.attrs i)[k]? with|some x=>cQ x ((t.attrs i).take k)|none=>0) k ((t.attrs i).length - k) =
          if cQ (t.attrs i)[k] ((t.attrs i).take k)≠0 then cQ (t.attrs i)[k] ((t.attrs i).take k) else bI (fun k=>match (t.attrs i)[k]? with|some x=>cQ x ((t.attrs i).take k)|none=>0) (k+1) ((t.attrs i).length - (k+1)):=by
         rw [show (t.attrs i).length - k=(t.attrs i).length - (k+1)+1 by omega,bI,aA hlt]
        rw [hstep] at hF
        simp [go_sem,seval]
        refine aO (fun hz=>?_) (fun hz=>?_)
        ·have hz':cQ (t.attrs i)[k] ((t.attrs i).take k)≠0:=by simpa using hz
         rw [if_pos hz'] at hF
         simp [go_sem,seval,hF]
        ·have hz':¬ cQ (t.attrs i)[k] ((t.attrs i).take k)≠0:=by simpa using hz
         rw [if_neg hz'] at hF
         simp [go_sem,seval,h6,h7,dI]
         exact ⟨cF (by omega) (by omega),k+1,by omega,by omega,by omega,hF⟩
       ·simp [go_sem,seval]
        rw [← hF,show (t.attrs i).length - k=0 by omega];rfl
def boundedF (low high:Int):Bool:=(decide (0≤low)&&decide (low≤40))&&(decide (high = -1)||(decide (low≤high)&&decide (high≤40)))
theorem Eu (low high:Int):Pure Tryz.prog 259 [dI low,dI high] (.bool (boundedF low high)):=by
 refine aM (aG (cfg:=⟨fun _=>false,fun _=>[]⟩) Tz.mixed Tryz.func259 rfl rfl (aE rfl) (by kernel_rfl) ?_)
 simp [go_sem,seval,dI,boundedF]
 try omega
theorem HR (t:Types)(a:Int):Pure Tryz.prog 256 [dI a,.adr t.c] (.bool (decide (0≤a)&&decide (a<t.nodes.length))):=by
 refine aM (aG (cfg:=⟨fun _=>false,fun _=>[]⟩) Tz.mixed Tryz.func256 rfl rfl (aE rfl) (by kernel_rfl) ?_)
 simp [go_sem,seval,dI,Types.c]
theorem HQ (x y:EdgeTy):Pure Tryz.prog 258 [.agg y.c,.adr x.c] (.bool (decide (y.name=x.name))):=by
 refine aM (aG (cfg:=⟨fun _=>false,fun _=>[]⟩) Tz.mixed Tryz.func258 rfl rfl (aE rfl) (by kernel_rfl) ?_)
 simp [go_sem,seval,EdgeTy.c,dI]
def insideF (t:Types)(a:Int):Bool:=decide (0≤a)&&decide (a<t.nodes.length)
def iN (t:Types)(i:Nat):Int :=
 match t.edges[i]? with
 | none=>0
 | some x =>
  if jY x.name=false then 2
  else if ((t.edges.take i).any fun y=>decide (y.name=x.name))=true then 5
  else if (insideF t x.from_&&insideF t x.to_&&boundedF x.outLow x.outHigh&&boundedF x.inLow x.inHigh)=true then 0 else 6
theorem J1 (t:Types)(ht:t.ok)(i:Nat)(hi:i<t.edges.length):Pure Tryz.prog 156 [t.d,dI i] (dI (iN t i)):=by
 have hno:=ht.edges _ (aC hi)
 have hcN:D.clLL (List.map NodeTy.c t.nodes)=true:=sI _
 have hcE:D.clLL (List.map EdgeTy.c t.edges)=true:=sP _
 have hin:∀ a:Int,Pure Tryz.prog 256 [.int .i64 a,.adr [.list (t.nodes.map NodeTy.c),.list (t.edges.map EdgeTy.c)]] (.bool (insideF t a)):=HR t
 have hbd:∀ a b:Int,Pure Tryz.prog 259 [.int .i64 a,.int .i64 b] (.bool (boundedF a b)):=Eu
 refine aM (aG (cfg:=⟨fun t=>t==5,fun _=>[]⟩) Tz.mixed Tryz.func156 rfl rfl (aE rfl) (by kernel_rfl) ?_)
 simp [go_sem,seval,dI,Types.d,Types.c,EdgeTy.c,aA hi,hi]
 refine aB (mD _ hno.name) rfl ?_
 simp [go_sem,seval]
 refine aO (fun hn=>?_) (fun hn=>?_)
 ·simp at hn
  simp [go_sem,seval,iN,aA hi,hn]
 ·simp at hn
  simp [go_sem,seval]
  have hc:=Ad (t.edges.take i) 258 [.adr t.edges[i].c] (fun y=>decide (y.name=t.edges[i].name)) (by simp [D.clL,D.cl,EdgeTy.cl]) (by rw [D.cl];exact sP _) (fun y _=>HQ t.edges[i] y)
  refine ⟨⟨by omega,by cases t.edges<;>simp [EdgeTy.c]⟩,rH hc (by simp [C4,AJ,eF,go_sem,EdgeTy.c,dI,List.map_take]) (by simp only [D.clL,D.cl,sP,EdgeTy.cl];rfl) rfl ?_⟩
  simp [go_sem,seval]
  refine aO (fun hb=>?_) (fun hb=>?_)
  ·simp [go_sem,seval,iN,aA hi,hn,hb]
  ·simp [go_sem,seval,EdgeTy.c,dI]
   refine aB (hin _) (by simp [D.clL,D.cl,hcN,hcE]) ?_
   simp [go_sem,seval,EdgeTy.c,dI]
   refine aK (fun _=>hin _) (fun _=>by simp [D.clL,D.cl,hcN,hcE]) ?_
   simp [go_sem,seval,EdgeTy.c,dI]
   refine aO (fun h1=>?_) (fun h1=>?_)
   ·have e:iN t i=6:=by
     simp only [iN,aA hi];rw [if_neg (by simp [hn]),if_neg (by simp [hb]),if_neg (by intro h;simp at h;simp [h] at h1)]
    simp [go_sem,seval]
    refine aO (fun _=>?_) (fun h=>?_)
    ·simp [go_sem,seval,e]
    ·rw [h1] at h;cases h
   ·simp [go_sem,seval,EdgeTy.c,dI]
    refine aB (hbd _ _) rfl ?_
    simp [go_sem,seval,EdgeTy.c,dI]
    refine aK (fun _=>hbd _ _) (fun _=>rfl) ?_
    simp [go_sem,seval,EdgeTy.c,dI]
    refine aO (fun h2=>?_) (fun h2=>?_)
    ·have e:iN t i=6:=by
      simp only [iN,aA hi];rw [if_neg (by simp [hn]),if_neg (by simp [hb]),if_neg (by intro h;simp at h;simp [h] at h2)]
     simp [go_sem,seval,e]
    ·have e:iN t i=0:=by
      simp only [iN,aA hi];rw [if_neg (by simp [hn]),if_neg (by simp [hb]),if_pos (by simp at h1 h2 ⊢;simp [h1,h2])]
     simp [go_sem,seval,e]
theorem tJ (t:Types)(j:Nat)(n:NodeTy)(h:fS t j=0)(hn:t.nodes[j]?=some n):n.parent<j:=by
 simp only [fS,hn] at h
 split at h
 ·cases h
 ·split at h
  ·cases h
  ·split at h
   ·cases h
   ·rename_i hr;simp at hr;omega
def dJ (f:Nat→Int)(nm:Nat→ByteArray)(last:ByteArray × Int):Nat→Nat→ByteArray × Int
 | _,0=>last
 | k,n+1=>if f k≠0 then (nm k,f k) else dJ f nm last (k+1) n
def Types.nodeName (t:Types)(i:Nat):ByteArray:=match t.nodes[i]? with|some n=>n.name|none=>⟨#[]⟩
def Types.edgeName (t:Types)(i:Nat):ByteArray:=match t.edges[i]? with|some n=>n.name|none=>⟨#[]⟩
def cA (t:Types):ByteArray × Int :=
 if t.nodes.length=0 then (⟨#[]⟩,7)
 else if 12<t.nodes.length∨20<t.edges.length then (⟨#[]⟩,3)
 else dJ (fS t) t.nodeName (dJ (iN t) t.edgeName (⟨#[]⟩,0) 0 t.edges.length) 0 t.nodes.length
theorem lV (t:Types)(ht:t.ok):Pure Tryz.prog 71 [t.d] (.tup [.str (cA t).1,dI (cA t).2]):=by
 refine aM (aG (cfg:=⟨fun t=>t==5||t==8,fun _=>[]⟩) Tz.mixed Tryz.func71 rfl rfl (aE rfl) (by kernel_rfl) ?_)
 simp [go_sem,seval,dI,Types.d,Types.c]
 intro hlen
 refine aO (fun h0=>?_) (fun h0=>?_)
 ·simp at h0
  simp [go_sem,seval,cA,h0]
 ·simp at h0
  simp [go_sem,seval]
  intro _ _
  refine aO (fun hb=>?_) (fun hb=>?_)
  ·have hb':12<t.nodes.length∨20<t.edges.length:=by simp at hb;omega
   simp [go_sem,seval,cA,h0,hb']
  ·have hb':¬ (12<t.nodes.length∨20<t.edges.length):=by simp at hb;omega
   have e:cA t=dJ (fS t) t.nodeName (dJ (iN t) t.edgeName (⟨#[]⟩,0) 0 t.edges.length) 0 t.nodes.length:=by simp [cA,h0,hb']
   simp [go_sem,seval]
   intro _
   refine eN (ι:=Nat) (fun i e H=>i≤t.nodes.length∧e 1=.adr t.c∧e 27=.list (t.nodes.map NodeTy.c)∧e 28=dI t.nodes.length∧e 29=dI i∧(∀ j,j<i→fS t j=0) ∧
    dJ (fS t) t.nodeName (dJ (iN t) t.edgeName (⟨#[]⟩,0) 0 t.edges.length) i (t.nodes.length - i)=cA t) (fun i=>t.nodes.length - i) 0 (by simp [go_sem,seval,dI,Types.c,e]) ?_
   intro i e' H ⟨hi,h1,h27,h28,h29,hz,hF⟩
   simp [go_sem,seval,h1,h27,h28,h29,dI,Types.c]
   refine eU (fun hlt=>?_) (fun hge=>?_)
   ·simp [go_sem,seval,h1,h27,h28,h29,dI,Types.c,NodeTy.c,hlt]
    have hnd:=JZ t ht i hlt (fun j n hj hn=>tJ t j n (hz j hj) hn)
    simp only [Types.d,Types.c,dI] at hnd
    have hstep:dJ (fS t) t.nodeName (dJ (iN t) t.edgeName (⟨#[]⟩,0) 0 t.edges.length) i (t.nodes.length - i) =
      if fS t i≠0 then (t.nodeName i,fS t i) else dJ (fS t) t.nodeName (dJ (iN t) t.edgeName (⟨#[]⟩,0) 0 t.edges.length) (i+1) (t.nodes.length - (i+1)):=by
     rw [show t.nodes.length - i=t.nodes.length - (i+1)+1 by omega,dJ]
    rw [hstep] at hF
    refine aB hnd (by simp [D.clL,D.cl,sI,sP]) ?_
    simp [go_sem,seval]
    refine aO (fun hc=>?_) (fun hc=>?_)
    ·have hc':fS t i≠0:=by simpa using hc
     rw [if_pos hc'] at hF
     simp [go_sem,seval,← hF,Types.nodeName,aA hlt]
    ·have hc':¬ fS t i≠0:=by simpa using hc
     rw [if_neg hc'] at hF
     simp [go_sem,seval,h1,h27,h28,h29,dI,Types.c]
     refine ⟨cF (by omega) (by omega),i+1,by omega,by omega,by omega,fun j hj=>?_,hF⟩
     rcases bN j i with hj'|hj'
     ·exact hz j hj'
     ·have:j=i:=by omega
      subst this;simpa using hc'
   ·simp [go_sem,seval,h1,h27,h28,h29,dI,Types.c]
    intro _
    rw [show t.nodes.length - i=0 by omega] at hF
    simp only [dJ] at hF
    refine eN (ι:=Nat) (fun i e H=>i≤t.edges.length∧e 1=.adr t.c∧e 44=.list (t.edges.map EdgeTy.c)∧e 45=dI t.edges.length∧e 46=dI i ∧
     dJ (iN t) t.edgeName (⟨#[]⟩,0) i (t.edges.length - i)=cA t) (fun i=>t.edges.length - i) 0 (by simp [go_sem,seval,h1,dI,Types.c,hF]) ?_
    intro i e' H ⟨hi,h1,h44,h45,h46,hF⟩
    simp [go_sem,seval,h1,h44,h45,h46,dI,Types.c]
    refine eU (fun hlt=>?_) (fun hge=>?_)
    ·simp [go_sem,seval,h1,h44,h45,h46,dI,Types.c,EdgeTy.c,hlt]
     have hnd:=J1 t ht i hlt
     simp only [Types.d,Types.c,dI] at hnd
     have hstep:dJ (iN t) t.edgeName (⟨#[]⟩,0) i (t.edges.length - i) =
       if iN t i≠0 then (t.edgeName i,iN t i) else dJ (iN t) t.edgeName (⟨#[]⟩,0) (i+1) (t.edges.length - (i+1)):=by
      rw [show t.edges.length - i=t.edges.length - (i+1)+1 by omega,dJ]
     rw [hstep] at hF
     refine aB hnd (by simp [D.clL,D.cl,sI,sP]) ?_
     simp [go_sem,seval]
     refine aO (fun hc=>?_) (fun hc=>?_)
     ·have hc':iN t i≠0:=by simpa using hc
      rw [if_pos hc'] at hF
      simp [go_sem,seval,← hF,Types.edgeName,aA hlt]
     ·have hc':¬ iN t i≠0:=by simpa using hc
      rw [if_neg hc'] at hF
      simp [go_sem,seval,h1,h44,h45,h46,dI,Types.c]
      exact ⟨cF (by omega) (by omega),i+1,by omega,by omega,by omega,hF⟩
    ·rw [show t.edges.length - i=0 by omega] at hF
     simp only [dJ] at hF
     simp [go_sem,seval,← hF]
theorem zK (c:Int):Pure Tryz.prog 428 [.int .u8 c] (.bool (gS c)):=by
 refine aM (aG (cfg:=⟨fun _=>false,fun _=>[]⟩) Tz.mixed Tryz.func428 rfl rfl (aE rfl) (by kernel_rfl) ?_)
 simp [go_sem,seval,gS,D.cl]
 try omega
theorem qY (c:Int):Pure Tryz.prog 429 [.int .u8 c] (.bool (iV c)):=by
 refine aM (aG (cfg:=⟨fun _=>false,fun _=>[]⟩) Tz.mixed Tryz.func429 rfl rfl (aE rfl) (by kernel_rfl) ?_)
 simp [go_sem,seval,iV,D.cl]
def r6 (digits:Bool)(c:Int):Bool:=iV c||(!digits&&(gS c||c==95))
theorem Mz (s:ByteArray)(dg:Bool)(hs:s.size≤1000000):Pure Tryz.prog 430 [.str s,dI 0,.bool dg] (dI (fD (r6 dg) s)):=by
 refine aM (aG (cfg:=⟨fun _=>false,fun _=>[]⟩) Tz.mixed Tryz.func430 rfl rfl (aE rfl) (by kernel_rfl) ?_)
 simp [go_sem,seval,dI]
 refine eN (ι:=Nat) (fun n e H=>H=.emp∧n≤s.size∧e 0=.str s∧e 1=dI 0∧e 2=.bool dg∧e 7=dI n∧(∀ j,j<n→r6 dg (tU s j)=true)) (fun n=>s.size - n) 0 (by simp [go_sem,seval,dI]) ?_
 intro n e H ⟨hH,hn,h0,h1,h2,h7,hp⟩
 subst hH
 have hb:((s.data[n]?.getD 0).toNat:Int)=tU s n:=rfl
 simp [go_sem,seval,h0,h1,h2,h7,dI,hb]
 refine ⟨cF (by omega) (by omega),fun _=>cF (by omega) (by omega),aK (fun _=>qY _) (fun _=>rfl) ?_⟩
 simp [go_sem,seval,h0,h1,h2,h7,dI,hb]
 refine ⟨fun _ _ _=>cF (by omega) (by omega),fun h _ _=>h,aK (fun _=>zK _) (fun _=>rfl) ?_⟩
 simp [go_sem,seval,h0,h1,h2,h7,dI,hb]
 refine ⟨fun _ _ _ _=>cF (by omega) (by omega),fun h _ _ _=>h,fun a b c d=>⟨⟨⟨a,b⟩,c⟩,d⟩,fun a b c=>⟨⟨a,b⟩,c⟩,fun a b=>⟨a,b⟩,aO (fun h=>?_) (fun h=>?_)⟩
 ·have hr:n<s.size∧r6 dg (tU s n)=true:=by simpa [r6] using h
  simp [go_sem,seval,h0,h1,h2,h7,dI]
  refine ⟨cF (by omega) (by omega),n+1,by omega,by omega,by omega,fun j hj=>?_⟩
  rcases bN j n with hj'|hj'
  ·exact hp j hj'
  ·have:j=n:=by omega
   subst this;exact hr.2
 ·have hr:n<s.size→r6 dg (tU s n)=false:=by
   intro hlt
   simp [hlt] at h
   simp [r6]
   exact h
  simp [go_sem,seval,h0,h1,h2,h7,dI]
  rw [Fq _ s n hp hn hr]
theorem F9 (p : Nat → Bool) (n : Nat) : ∀ d k, k + d = n → (∀ j, 1 ≤ j → j < k → p j = true) → 1 ≤ k → ∃ k, 1 ≤ k ∧ k ≤ n ∧ (∀ j, 1 ≤ j → j < k → p j = true) ∧ (k < n → p k = false)
  | 0, k, h, hp, h1 => ⟨k, h1, by omega, hp, fun h => by omega⟩
  | d + 1, k, h, hp, h1 => by
    cases hk : p k with
    | false => exact ⟨k, h1, by omega, hp, fun _ => hk⟩
    | true =>
      refine F9 p n d (k + 1) (by omega) (fun j hj hlt => ?_) (by omega)
      rcases bN j k with h | h
      · exact hp j hj h
      · have : j = k := by omega
        subst this; exact hk
theorem G3 (s:ByteArray)(h1:1≤s.size)(hs:s.size≤1000000):∃ n:Int,0≤n∧n≠1∧n≤s.size∧Pure Tryz.prog 431 [.str s,dI 0] (dI n):=by
 obtain ⟨k,hk1,hk2,hk3,hk4⟩:=F9 (fun j=>mK (tU s j)) s.size (s.size - 1) 1 (by omega) (fun j h h'=>by omega) (by omega)
 refine ⟨if k<s.size∧tU s k=34 then k+1 else 0,by split<;>omega,by split<;>omega,by split<;>omega,aM (aG (cfg:=⟨fun _=>false,fun _=>[]⟩) Tz.mixed Tryz.func431 rfl rfl (aE rfl) (by kernel_rfl) ?_)⟩
 simp [go_sem,seval,dI]
 refine eN (ι:=Nat) (fun n e H=>H=.emp∧1≤n∧n≤k∧e 0=.str s∧e 1=dI 0∧e 5=dI n) (fun n=>s.size - n) 1 (by simp [go_sem,seval,dI];omega) ?_
 intro n e H ⟨hH,hn1,hn,h0,h1,h5⟩
 subst hH
 have hb:((s.data[n]?.getD 0).toNat:Int)=tU s n:=rfl
 simp [go_sem,seval,h0,h1,h5,dI,hb]
 refine ⟨cF (by omega) (by omega),aO (fun hlt=>?_) (fun hge=>?_)⟩
 ·simp at hlt
  simp [go_sem,seval,h0,h1,h5,dI,hb]
  refine ⟨cF (by omega) (by omega),hlt,aO (fun hq=>?_) (fun hq=>?_)⟩
  ·simp at hq
   have hnk:n=k:=by
    rcases bN n k with h|h
    ·have:=hk3 n hn1 h;simp [mK,hq] at this
    ·omega
   subst hnk
   simp [go_sem,seval,h0,h1,h5,dI]
   exact ⟨cF (by omega) (by omega),fun h=>absurd hq (h hlt)⟩
  ·simp at hq
   simp [go_sem,seval,h0,h1,h5,dI]
   refine aO (fun hc=>?_) (fun hc=>?_)
   ·simp at hc
    have hnk:n=k:=by
     rcases bN n k with h|h
     ·have:=hk3 n hn1 h;simp [mK] at this;omega
     ·omega
    subst hnk
    simp [go_sem,seval,h0,h1,h5,dI]
    omega
   ·simp at hc
    have hnk:n<k:=by
     rcases bN n k with h|h
     ·exact h
     ·have hh:n=k:=by omega
      subst hh
      have:=hk4 hlt;simp [mK] at this;omega
    simp [go_sem,seval,h0,h1,h5,dI]
    exact ⟨cF (by omega) (by omega),n+1,by omega,by omega,by omega,by omega⟩
 ·simp at hge
  simp [go_sem,seval,h0,h1,h5,dI]
  omega
def signs:List ByteArray:=FC++[⟨#[123]⟩,⟨#[125]⟩,⟨#[40]⟩,⟨#[41]⟩,⟨#[91]⟩,⟨#[93]⟩,⟨#[44]⟩,⟨#[59]⟩,⟨#[58]⟩,⟨#[61]⟩,⟨#[43]⟩,⟨#[45]⟩,⟨#[42]⟩,⟨#[60]⟩,⟨#[62]⟩,⟨#[33]⟩,⟨#[38]⟩,⟨#[124]⟩,⟨#[46]⟩,⟨#[63]⟩]
theorem IF:Pure Tryz.prog 432 [] (qL signs):=by
 refine aM (aG (cfg:=⟨fun _=>false,fun _=>[]⟩) Tz.mixed Tryz.func432 rfl rfl (aE rfl) (by kernel_rfl) ?_)
 simp [go_sem,seval,qL,cS,FC,signs]
theorem Dm (s:ByteArray):Pure Tryz.prog 387 [.agg [dI 1,.str s,dI 0]] (.str s):=by
 refine aM (aG (cfg:=⟨fun _=>false,fun _=>[]⟩) Tz.mixed Tryz.func387 rfl rfl (aE rfl) (by kernel_rfl) ?_)
 simp [go_sem,seval,dI]
theorem Kd:r6 false=mM:=by
 funext c
 simp [r6,mM,Bool.or_assoc,Bool.or_comm,Bool.or_left_comm]
def tB (s l:ByteArray):Bool:=decide ((l.size:Int)≤s.size)&&decide (s.extract 0 l.size=l)
def wZ (q : Int) (s : ByteArray) : Int × ByteArray × Int × Int :=
  if (gS (tU s 0) || iV (tU s 0)) = true then
    (if iV (tU s 0) = true then (if 9 < fD (r6 true) s then (0, ⟨#[]⟩, 0, 3) else (2, s.extract 0 (fD (r6 true) s), fD (r6 true) s, 0))
     else (if 20 < fD (r6 false) s then (0, ⟨#[]⟩, 0, 3) else (1, s.extract 0 (fD (r6 false) s), fD (r6 false) s, 0)))
  else if tU s 0 = 34 then
    (if q = 0 then (0, ⟨#[]⟩, 0, 2) else if 60 < q - 2 then (0, ⟨#[]⟩, 0, 3) else (3, s.extract 1 (q - 1).toNat, q, 0))
  else match signs.find? (tB s) with
    | some l => (4, l, l.size, 0)
    | none => (0, ⟨#[]⟩, 0, 2)
theorem MA (s:ByteArray)(h1:1≤s.size)(hs:s.size≤100000)(q:Int)(hq0:0≤q)(hq1:q≠1)(hq2:q≤s.size)(hq:Pure Tryz.prog 431 [.str s,dI 0] (dI q)) :
  Pure Tryz.prog 388 [.str s,dI 0] (.tup [.agg [dI (wZ q s).1,.str (wZ q s).2.1,dI 0],dI (wZ q s).2.2.1,dI (wZ q s).2.2.2]):=by
 have hb:((s.data[0]?.getD 0).toNat:Int)=tU s 0:=rfl
 refine aM (aG (cfg:=⟨fun t=>t==4,fun r=>match r with|22=>[(7,10),(8,10),(9,10)]|_=>[]⟩) Tz.mixed Tryz.func388 rfl rfl (aE rfl) (by kernel_rfl) ?_)
 simp [go_sem,seval,dI,hb]
 refine ⟨by omega,aB (zK _) rfl ?_⟩
 simp [go_sem,seval,dI]
 refine aK (fun _=>qY _) (fun _=>rfl) ?_
 simp [go_sem,seval,dI]
 refine aO (fun hld=>?_) (fun hld=>?_)
 ·simp [go_sem,seval]
  refine aB (qY _) rfl ?_
  simp [go_sem,seval]
  refine aB (Mz s _ (by omega)) rfl ?_
  simp [go_sem,seval,dI]
  refine aB (qY _) rfl ?_
  simp [go_sem,seval]
  refine aO (fun hd=>?_) (fun hd=>?_)
  ·simp [go_sem,seval]
   rw [hd]
   have hr:=AI (r6 true) s
   refine aO (fun h=>?_) (fun h=>?_)
   ·simp at h
    simp [go_sem,seval,wZ,hd,show 9<fD (r6 true) s by omega]
   ·simp at h
    simp [go_sem,seval,wZ,hd,show ¬ 9<fD (r6 true) s by omega]
    exact ⟨cF (by omega) (by omega),by omega⟩
  ·have hd':iV (tU s 0)=false:=by simpa using hd
   simp [go_sem,seval]
   rw [hd']
   have hr:=AI (r6 false) s
   have hl:gS (tU s 0)=true:=by simpa [hd'] using hld
   refine aO (fun h=>?_) (fun h=>?_)
   ·simp at h
    simp [go_sem,seval,wZ,hd',hl,show 20<fD (r6 false) s by omega]
   ·simp at h
    simp [go_sem,seval,wZ,hd',hl,show ¬ 20<fD (r6 false) s by omega]
    exact ⟨cF (by omega) (by omega),by omega⟩
 ·have hld':¬ (gS (tU s 0)||iV (tU s 0))=true:=by simp at hld;simp [hld]
  simp [go_sem,seval]
  refine aO (fun h34=>?_) (fun h34=>?_)
  ·simp at h34
   simp [go_sem,seval]
   refine aB hq rfl ?_
   simp [go_sem,seval,dI]
   have e:wZ q s=(if q=0 then (0,⟨#[]⟩,0,2) else if 60<q - 2 then (0,⟨#[]⟩,0,3) else (3,s.extract 1 (q - 1).toNat,q,0)):=by
    unfold wZ;rw [if_neg hld',if_pos h34]
   rw [e]
   refine aO (fun hz=>?_) (fun hz=>?_)
   ·simp at hz
    simp [go_sem,seval,hz]
   ·simp at hz
    simp [go_sem,seval,hz]
    refine ⟨cF (by omega) (by omega),eU (fun h6=>?_) (fun h6=>?_)⟩
    ·simp [go_sem,seval,h6]
    ·simp [go_sem,seval,h6]
     exact ⟨cF (by omega) (by omega),cF (by omega) (by omega),cF (by omega) (by omega),by omega,by omega⟩
  ·simp at h34
   simp [go_sem,seval]
   refine aB IF rfl ?_
   simp [go_sem,seval,dI]
   have e:wZ q s=(match signs.find? (tB s) with|some l=>(4,l,l.size,0)|none=>(0,⟨#[]⟩,0,2)):=by
    unfold wZ;rw [if_neg hld',if_neg h34]
   rw [e]
   refine eN (ι:=Nat) (fun n e H=>(∃ ty,H.get 0=some ⟨ty,3,[[dI 0,.str ⟨#[]⟩,dI 0]],false⟩)∧n≤signs.length∧e 0=.str s∧e 1=dI 0∧e 4=.ptr 0 1 0 0∧e 12=qL signs∧e 13=dI n∧(∀ j l,j<n→signs[j]?=some l→tB s l=false)) (fun n=>signs.length - n) 0 (by simp [go_sem,seval,dI]) ?_
   intro n e H ⟨⟨ty,hH⟩,hn,h0,h1',h4,h12,h13,hp⟩
   simp [go_sem,seval,h0,h1',h4,h12,h13,dI,hH,qL]
   intro hlen
   refine eU (fun hlt=>?_) (fun hge=>?_)
   ·simp [go_sem,seval,h0,h1',h4,h12,h13,dI,hH,qL,hlt,cS]
    have hz2:signs[n].size≤2:=(show ∀ l∈signs,l.size≤2 by decide) _ (aC hlt)
    refine ⟨cF (by omega) (by omega),fun _=>cF (by omega) (by omega),aO (fun hc=>?_) (fun hc=>?_)⟩
    ·have hs1:tB s signs[n]=true:=by simpa [tB] using hc
     have hf:signs.find? (tB s)=some signs[n]:=by
      rw [List.find?_eq_some_iff_getElem]
      refine ⟨hs1,n,hlt,rfl,fun j hj=>?_⟩
      simpa using hp j _ hj (aA (by omega))
     simp [go_sem,seval,h0,h1',h4,h12,h13,dI,hH,qL,hlt,cS,hf]
    ·have hs1:tB s signs[n]=false:=by simpa [tB] using hc
     simp [go_sem,seval,h0,h1',h4,h12,h13,dI,hH,qL]
     have hsl:signs.length=25:=rfl
     refine ⟨cF (by omega) (by omega),n+1,by omega,by omega,by omega,fun j l hj hl=>?_⟩
     rcases bN j n with hj'|hj'
     ·exact hp j l hj' hl
     ·have:j=n:=by omega
      subst this
      rw [aA hlt] at hl
      cases hl;exact hs1
   ·simp [go_sem,seval,h0,h1',h4,h12,h13,dI,hH,qL]
    have:signs.find? (tB s)=none:=by
     rw [List.find?_eq_none]
     intro x hx
     obtain ⟨j,hj,rfl⟩:=aN hx
     simpa using hp j _ (by omega) (aA hj)
    simp [this]
theorem NN (s:ByteArray)(hz:¬ s.size=0)(q:Int):(decide ((wZ q s).2.2.2=0)&&(wZ q s).2.2.1==(s.size:Int)&&(wZ q s).1==1)=jY s:=by
 unfold wZ jY
 by_cases hl:gS (tU s 0)=true
 ·have hdg:iV (tU s 0)=false:=by simp [gS,iV] at *;omega
  rw [if_pos (by simp [hl])]
  simp only [hdg,hl,Kd]
  by_cases h:20<fD mM s
  ·simp [h];intros;omega
  ·simp [h,hz,show fD mM s≤20 by omega]
   rw [aV];simp;omega
 ·have hl':gS (tU s 0)=false:=by simpa using hl
  simp only [hl']
  repeat' split
  all_goals first|(simp;done)|(simp_all;done)
theorem IG (s:ByteArray)(hs:s.size≤100000):Pure Tryz.prog 333 [.agg [dI 1,.str s,dI 0]] (.bool (jY s)):=by
 by_cases hz:s.size=0
 ·refine aM (aG (cfg:=⟨fun t=>t==4,fun _=>[]⟩) Tz.mixed Tryz.func333 rfl rfl (aE rfl) (by kernel_rfl) ?_)
  simp [go_sem,seval,dI]
  refine aB (Dm s) rfl ?_
  simp [go_sem,seval,dI]
  refine aO (fun h=>?_) (fun h=>?_)
  ·simp [go_sem,seval,jY,hz]
  ·simp [nS,hz] at h
 ·obtain ⟨q,hq0,hq1,hq2,hq⟩:=G3 s (by omega) (by omega)
  refine aM (aG (cfg:=⟨fun t=>t==4,fun _=>[]⟩) Tz.mixed Tryz.func333 rfl rfl (aE rfl) (by kernel_rfl) ?_)
  simp [go_sem,seval,dI]
  refine aB (Dm s) rfl ?_
  simp [go_sem,seval,dI]
  refine aO (fun h=>?_) (fun h=>?_)
  ·simp [nS,hz] at h
  ·simp [go_sem,seval]
   refine aB (MA s (by omega) hs q hq0 hq1 hq2 hq) rfl ?_
   simp [go_sem,seval,dI]
   exact NN s hz q
theorem mH (s:ByteArray)(hs:s.size≤100000):Pure Tryz.prog 237 [.str s] (.bool (jY s)):=by
 refine aM (aG (cfg:=⟨fun _=>false,fun _=>[]⟩) Tz.mixed Tryz.func237 rfl rfl (aE rfl) (by kernel_rfl) ?_)
 simp [go_sem,seval,dI]
 refine aB (IG s hs) rfl ?_
 simp [go_sem,seval,dI]
@[go_sem] theorem nU (l:List Int):D.clLL (l.map cI)=true:=cJ cI (fun _=>rfl) l
@[go_sem] theorem AX (l:List Edge):D.clLL (l.map Edge.c)=true:=cJ _ Edge.cl l
theorem EU (xs:List Int)(g:FuncId)(caps:List D)(p:Int→Bool)(hc:D.clL caps=true)(hg:∀ x∈xs,Pure Tryz.prog g (.int .i64 x :: caps) (.bool (p x))) :
  Pure Tryz.prog 198 [.list (xs.map cI),.fn g caps] (dI (AV xs p)):=by
 refine aM (aG (cfg:=⟨fun _=>false,fun _=>[]⟩) Tz.mixed Tryz.func198 rfl rfl (aE rfl) (by kernel_rfl) ?_)
 simp [go_sem,seval,dI,dLI]
 intro hlen
 refine eN (ι:=Nat) (fun i e H=>H=.emp∧i≤xs.length∧e 0=.list (xs.map cI)∧e 1=.fn g caps∧e 7=dI xs.length∧e 8=dI i∧(∀ j x,j<i→xs[j]?=some x→p x=false)) (fun i=>xs.length - i) 0 (by simp [go_sem,seval,dI,dLI]) ?_
 intro i e H ⟨hH,hi,h0,h1,h7,h8,hn⟩
 subst hH
 simp [go_sem,seval,h0,h1,h7,h8,dI,dLI]
 refine eU (fun hlt=>?_) (fun hge=>?_)
 ·have hgx:=hg xs[i] (aC hlt)
  simp [go_sem,seval,h0,h1,h7,h8,dI,dLI,hlt,cI] at hgx ⊢
  refine aB hgx (by simp [go_sem,hc]) ?_
  simp [go_sem,seval,h0,h1,h7,h8,dI,dLI]
  refine aO (fun h=>?_) (fun h=>?_)
  ·simp [go_sem,seval,h0,h1,h7,h8,dI,dLI]
   rw [nG hn hlt h]
  ·simp [go_sem,seval,h0,h1,h7,h8,dI,dLI]
   refine ⟨cF (by omega) (by omega),i+1,by omega,by omega,by omega,fun j x hj hx=>?_⟩
   rcases bN j i with hj'|hj'
   ·exact hn j x hj' hx
   ·have:j=i:=by omega
    subst this
    rw [aA hlt] at hx
    cases hx;exact h
 ·simp [go_sem,seval,h0,h1,h7,h8,dI,dLI]
  rw [nH fun j x hj=>hn j x (by omega)]
theorem fB (xs:List Int)(g:FuncId)(caps:List D)(p:Int→Bool)(hc:D.clL caps=true)(hl:D.cl (.list (xs.map cI))=true)(hg:∀ x∈xs,Pure Tryz.prog g (.int .i64 x :: caps) (.bool (p x))) :
  Pure Tryz.prog 111 [.list (xs.map cI),.fn g caps] (.bool (xs.any p)):=by
 refine aM (aG (cfg:=⟨fun _=>false,fun _=>[]⟩) Tz.mixed Tryz.func111 rfl rfl (aE rfl) (by kernel_rfl) ?_)
 simp [go_sem,seval]
 refine aB (EU xs g caps p hc hg) (by simp only [D.clL,hl,fI];simp [D.cl,hc]) ?_
 simp [go_sem,seval,dI,pX]
theorem Cd (xs:List Edge)(g:FuncId)(caps:List D)(p:Edge→Bool)(hc:D.clL caps=true)(hg:∀ x∈xs,Pure Tryz.prog g (.agg x.c :: caps) (.bool (p x))) :
  Pure Tryz.prog 260 [.list (xs.map Edge.c),.fn g caps] (dI (AV xs p)):=by
 refine aM (aG (cfg:=⟨fun _=>false,fun _=>[]⟩) Tz.mixed Tryz.func260 rfl rfl (aE rfl) (by kernel_rfl) ?_)
 simp [go_sem,seval,dI,dLI]
 intro hlen
 refine eN (ι:=Nat) (fun i e H=>H=.emp∧i≤xs.length∧e 0=.list (xs.map Edge.c)∧e 1=.fn g caps∧e 7=dI xs.length∧e 8=dI i∧(∀ j x,j<i→xs[j]?=some x→p x=false)) (fun i=>xs.length - i) 0 (by simp [go_sem,seval,dI,dLI]) ?_
 intro i e H ⟨hH,hi,h0,h1,h7,h8,hn⟩
 subst hH
 simp [go_sem,seval,h0,h1,h7,h8,dI,dLI]
 refine eU (fun hlt=>?_) (fun hge=>?_)
 ·have hgx:=hg xs[i] (aC hlt)
  simp [go_sem,seval,h0,h1,h7,h8,dI,dLI,hlt,Edge.c] at hgx ⊢
  refine aB hgx (by simp [go_sem,hc]) ?_
  simp [go_sem,seval,h0,h1,h7,h8,dI,dLI]
  refine aO (fun h=>?_) (fun h=>?_)
  ·simp [go_sem,seval,h0,h1,h7,h8,dI,dLI]
   rw [nG hn hlt h]
  ·simp [go_sem,seval,h0,h1,h7,h8,dI,dLI]
   refine ⟨cF (by omega) (by omega),i+1,by omega,by omega,by omega,fun j x hj hx=>?_⟩
   rcases bN j i with hj'|hj'
   ·exact hn j x hj' hx
   ·have:j=i:=by omega
    subst this
    rw [aA hlt] at hx
    cases hx;exact h
 ·simp [go_sem,seval,h0,h1,h7,h8,dI,dLI]
  rw [nH fun j x hj=>hn j x (by omega)]
theorem jQ (xs:List Edge)(g:FuncId)(caps:List D)(p:Edge→Bool)(hc:D.clL caps=true)(hl:D.cl (.list (xs.map Edge.c))=true)(hg:∀ x∈xs,Pure Tryz.prog g (.agg x.c :: caps) (.bool (p x))) :
  Pure Tryz.prog 159 [.list (xs.map Edge.c),.fn g caps] (.bool (xs.any p)):=by
 refine aM (aG (cfg:=⟨fun _=>false,fun _=>[]⟩) Tz.mixed Tryz.func159 rfl rfl (aE rfl) (by kernel_rfl) ?_)
 simp [go_sem,seval]
 refine aB (Cd xs g caps p hc hg) (by simp only [D.clL,hl,fI];simp [D.cl,hc]) ?_
 simp [go_sem,seval,dI,pX]
def f7 (n m:Int):Bool:=decide (0≤n)&&decide (n≤m)
theorem z2 (n m:Int):Pure Tryz.prog 158 [dI n,dI m] (.bool (f7 n m)):=by
 refine aM (aG (cfg:=⟨fun _=>false,fun _=>[]⟩) Tz.mixed Tryz.func158 rfl rfl (aE rfl) (by kernel_rfl) ?_)
 simp [go_sem,seval,dI,f7]
def rC (x:Edge)(n:Int):Bool:=f7 x.type 99&&f7 x.from_ (n - 1)&&f7 x.to_ (n - 1)
theorem KP (x:Edge)(n:Int)(h0:0≤n)(h1:n≤1000000):Pure Tryz.prog 161 [.agg x.c,dI n] (.bool (rC x n)):=by
 have hw:∀ a b:Int,Pure Tryz.prog 158 [.int .i64 a,.int .i64 b] (.bool (f7 a b)):=z2
 refine aM (aG (cfg:=⟨fun _=>false,fun _=>[]⟩) Tz.mixed Tryz.func161 rfl rfl (aE rfl) (by kernel_rfl) ?_)
 simp [go_sem,seval,dI,Edge.c]
 refine aB (hw _ _) rfl ?_
 simp [go_sem,seval,dI,Edge.c]
 refine ⟨fun _=>cF (by omega) (by omega),aK (fun _=>hw _ _) (fun _=>rfl) ?_⟩
 simp [go_sem,seval,dI,Edge.c]
 refine ⟨fun _ _=>cF (by omega) (by omega),aK (fun _=>hw _ _) (fun _=>rfl) ?_⟩
 simp [go_sem,seval,rC]
theorem Hg (n:Int):Pure Tryz.prog 157 [.int .i64 n] (.bool (!f7 n 99)):=by
 have hw:∀ a b:Int,Pure Tryz.prog 158 [.int .i64 a,.int .i64 b] (.bool (f7 a b)):=z2
 refine aM (aG (cfg:=⟨fun _=>false,fun _=>[]⟩) Tz.mixed Tryz.func157 rfl rfl (aE rfl) (by kernel_rfl) ?_)
 simp [go_sem,seval,dI]
 refine aB (hw _ _) rfl ?_
 simp [go_sem,seval]
theorem Hf (g:Graph)(hg:g.nodes.length≤1000000)(x:Edge):Pure Tryz.prog 160 [.agg x.c,.adr g.c] (.bool (!rC x g.nodes.length)):=by
 have hf:=KP x g.nodes.length (by omega) (by omega)
 simp only [Edge.c,dI] at hf
 refine aM (aG (cfg:=⟨fun _=>false,fun _=>[]⟩) Tz.mixed Tryz.func160 rfl rfl (aE rfl) (by kernel_rfl) ?_)
 simp [go_sem,seval,dI,Edge.c,Graph.c,dLI]
 intro _
 refine aB hf rfl ?_
 simp [go_sem,seval]
def graphF (g:Graph):Int :=
 if 40<g.nodes.length∨80<g.edges.length then 3
 else if (g.nodes.any fun n=>!f7 n 99)=true then 6
 else if (g.edges.any fun x=>!rC x g.nodes.length)=true then 6
 else 0
theorem kM (g:Graph):Pure Tryz.prog 72 [g.d] (dI (graphF g)):=by
 refine aM (aG (cfg:=⟨fun _=>false,fun _=>[]⟩) Tz.mixed Tryz.func72 rfl rfl (aE rfl) (by kernel_rfl) ?_)
 simp [go_sem,seval,dI,Graph.d,Graph.c,dLI]
 intro _ _
 refine aO (fun h=>?_) (fun h=>?_)
 ·have h':40<g.nodes.length∨80<g.edges.length:=by simp at h;omega
  simp [go_sem,seval,graphF,h']
 ·have h':¬ (40<g.nodes.length∨80<g.edges.length):=by simp at h;omega
  have h1:=fB g.nodes 157 [] (fun n=>!f7 n 99) rfl (by simp [D.cl,nU]) (fun n _=>Hg n)
  have h2:=jQ g.edges 160 [.adr g.c] (fun x=>!rC x g.nodes.length) (by simp [D.clL,D.cl,Graph.c,nU,AX,dLI]) (by simp [D.cl,AX]) (fun x _=>Hf g (by omega) x)
  simp only [Graph.c,dLI] at h2
  simp [go_sem,seval]
  refine aB h1 (by simp [D.clL,D.cl,nU]) ?_
  simp [go_sem,seval]
  refine aO (fun ha=>?_) (fun ha=>?_)
  ·have e:graphF g=6:=by unfold graphF;rw [if_neg h',if_pos ha]
   simp [go_sem,seval,e]
  ·simp [go_sem,seval]
   refine aB h2 (by simp [D.clL,D.cl,nU,AX]) ?_
   simp [go_sem,seval]
   refine aO (fun hb=>?_) (fun hb=>?_)
   ·have e:graphF g=6:=by unfold graphF;rw [if_neg h',if_neg (by rw [ha];simp),if_pos hb]
    simp [go_sem,seval,e]
   ·have e:graphF g=0:=by unfold graphF;rw [if_neg h',if_neg (by rw [ha];simp),if_neg (by rw [hb];simp)]
    simp [go_sem,seval,e]
theorem Dj (n:Int):Pure Tryz.prog 275 [.int .i64 n] (.bool (f7 n 99)):=by
 refine aM (aG (cfg:=⟨fun _=>false,fun _=>[]⟩) Tz.mixed Tryz.func275 rfl rfl (aE rfl) (by kernel_rfl) ?_)
 simp [go_sem,seval,f7]
theorem IB (x:Edge)(n:Int):Pure Tryz.prog 276 [.agg x.c,.int .i64 n] (.bool (rC x n)):=by
 refine aM (aG (cfg:=⟨fun _=>false,fun _=>[]⟩) Tz.mixed Tryz.func276 rfl rfl (aE rfl) (by kernel_rfl) ?_)
 simp [go_sem,seval,Edge.c,dI]
 refine aB (Dj _) rfl ?_
 simp [go_sem,seval,Edge.c,dI,rC,f7]
 rw [aV];simp;omega
theorem cX {α:Type}(l:List α)(p:α→Bool)(i:Nat)(hi:i<l.length):(l.take (i+1)).any p=((l.take i).any p||p l[i]):=by
 rw [aF hi,yU];simp
theorem jJ (g:Graph):Pure Tryz.prog 185 [g.d] (dI (graphF g)):=by
 refine aM (aG (cfg:=⟨fun _=>false,fun _=>[]⟩) Tz.mixed Tryz.func185 rfl rfl (aE rfl) (by kernel_rfl) ?_)
 simp [go_sem,seval,dI,Graph.d,Graph.c,dLI]
 intro _ _
 refine aO (fun h=>?_) (fun h=>?_)
 ·have h':40<g.nodes.length∨80<g.edges.length:=by simp at h;omega
  simp [go_sem,seval,graphF,h']
 ·have h':¬ (40<g.nodes.length∨80<g.edges.length):=by simp at h;omega
  simp [go_sem,seval]
  refine eN (ι:=Nat) (fun i e H=>i≤g.nodes.length∧e 1=.adr g.c∧e 3=dI i∧((g.nodes.take i).any fun n=>!f7 n 99)=false) (fun i=>g.nodes.length - i) 0 (by simp [go_sem,seval,dI,Graph.c,dLI]) ?_
  intro i e H ⟨hi,h1,h3,ha⟩
  simp [go_sem,seval,h1,h3,dI,Graph.c,dLI]
  intro _
  refine eU (fun hlt=>?_) (fun hge=>?_)
  ·simp [go_sem,seval,h1,h3,dI,Graph.c,dLI,hlt,cI]
   refine aB (Dj _) rfl ?_
   simp [go_sem,seval]
   refine aO (fun hc=>?_) (fun hc=>?_)
   ·have hany:(g.nodes.any fun n=>!f7 n 99)=true:=aU.2 ⟨_,aC hlt,hc⟩
    have e:graphF g=6:=by unfold graphF;rw [if_neg h',if_pos hany]
    simp [go_sem,seval,e]
   ·simp [go_sem,seval,h1,h3,dI,Graph.c,dLI]
    refine ⟨cF (by omega) (by omega),i+1,by omega,by omega,by omega,?_⟩
    have:=cX g.nodes (fun n=>!f7 n 99) i hlt
    rw [ha,hc] at this
    simpa using this
  ·simp [go_sem,seval,h1,h3,dI,Graph.c,dLI]
   have ha':(g.nodes.any fun n=>!f7 n 99)=false:=by rw [show i=g.nodes.length by omega,List.take_length] at ha;exact ha
   refine eN (ι:=Nat) (fun k e H=>k≤g.edges.length∧e 1=.adr g.c∧e 4=dI k∧((g.edges.take k).any fun x=>!rC x g.nodes.length)=false) (fun k=>g.edges.length - k) 0 (by simp [go_sem,seval,h1,dI,Graph.c,dLI]) ?_
   intro k e H ⟨hk,h1,h4,hb⟩
   simp [go_sem,seval,h1,h4,dI,Graph.c,dLI]
   intro _
   refine eU (fun hlt=>?_) (fun hge=>?_)
   ·have hr:=IB g.edges[k] g.nodes.length
    simp only [Edge.c,dI] at hr
    simp [go_sem,seval,h1,h4,dI,Graph.c,dLI,hlt,Edge.c]
    refine aI hr rfl ?_
    simp [go_sem,seval]
    refine aO (fun hc=>?_) (fun hc=>?_)
    ·have hany:(g.edges.any fun x=>!rC x g.nodes.length)=true:=aU.2 ⟨_,aC hlt,hc⟩
     have e:graphF g=6:=by unfold graphF;rw [if_neg h',if_neg (by rw [ha'];simp),if_pos hany]
     simp [go_sem,seval,e]
    ·simp [go_sem,seval,h1,h4,dI,Graph.c,dLI]
     refine ⟨cF (by omega) (by omega),k+1,by omega,by omega,by omega,?_⟩
     have:=cX g.edges (fun x=>!rC x g.nodes.length) k hlt
     rw [hb,hc] at this
     simpa using this
   ·have hb':(g.edges.any fun x=>!rC x g.nodes.length)=false:=by rw [show k=g.edges.length by omega,List.take_length] at hb;exact hb
    have e:graphF g=0:=by unfold graphF;rw [if_neg h',if_neg (by rw [ha'];simp),if_neg (by rw [hb'];simp)]
    simp [go_sem,seval,e]
attribute [go_sem] dI dLI qL cI cS Attr.c NodeTy.c EdgeTy.c Types.c Types.d Edge.c Graph.c Graph.d
theorem D9 (a b:List D):D.clL (a++b)=(D.clL a&&D.clL b):=by
 induction a with
 | nil=>simp [D.clL]
 | cons x a ih=>simp [D.clL,ih,uR]
@[go_sem] theorem PV (a b:List (List D)):D.clLL (a++b)=(D.clLL a&&D.clLL b):=by
 induction a with
 | nil=>simp [D.clLL]
 | cons x a ih=>simp [D.clLL,ih,uR]
attribute [go_sem] D9
def inF (n low high:Int):Bool:=decide (low≤n)&&decide (n≤high)
theorem lH (n low high:Int):Pure Tryz.prog 191 [dI n,dI low,dI high] (.bool (inF n low high)):=by
 refine Tz.pK ⟨fun _=>false,fun _=>[]⟩ Tryz.func191 rfl (fun Q hQ=>?_)
 have Y:=trivial
 have Y:=wa Y @inF.eq_1
 exact wo (h:=hQ _ _ wy)
theorem IV {l:List ByteArray}{i:Nat}(hi:i<l.length):mem (l.take i) l[i]=true↔∃ j,j<i∧l[j]?=some l[i]:=by
 rw [cW,BZ]
 constructor
 ·rintro ⟨j,hj,he⟩
  have hj':j<l.length:=by omega
  exact ⟨j,by omega,by rw [aA hj',he]⟩
 ·rintro ⟨j,hj,he⟩
  have hj':j<l.length:=by omega
  rw [aA hj'] at he
  exact ⟨j,by omega,by simpa using he⟩
theorem iX {p:Nat→Prop}{k:Nat}(h:∀ j,j<k→p j)(hk:p k):∀ j,j<k+1→p j:=fun j hj=>by
 rcases bN j k with h'|h'
 ·exact h j h'
 ·have:j=k:=by omega
  subst this;exact hk
theorem IC (l:List ByteArray)(hs:∀ s∈l,s.size≤100000):Pure Tryz.prog 402 [qL l] (dI (lQ l)):=by
 refine Tz.pK ⟨fun _=>false,fun _=>[]⟩ Tryz.func402 rfl (fun Q hQ=>?_)
 have Y:=trivial
 refine dV (fun h1=>?_) fun h1=>?_
 ·exact wv (h:=hQ _ _ (by simp [go_sem,lQ,show 20<l.length by omega]))
 ·refine wv (h:=bB (fun i e H=>(e 0=qL l∧e 3=dI i)∧(i≤l.length)∧(lB (l.take i) (l.drop i)=lQ l)) (fun i=>l.length - i) 0 ⟨wg,wi,(by simp [lQ,show ¬ 20<l.length by omega])⟩ fun I0 hI0 i e H hi0=>?_)
  obtain ⟨E0,hi,hn⟩:=hi0
  have Y:=wa Y E0
  refine dV (fun h4=>?_) fun h4=>?_
  ·rw [fR h4] at hn
   have hsz:=hs _ (aC h4)
   have Y:=wa Y h4
   refine wo (h:=aB (mH _ (by assumption)) wl ?_)
   refine dV (fun h6=>?_) fun h6=>?_
   ·exact wv (h:=hQ _ _ (by rw [← hn];simp [go_sem,lB,h6]))
   ·refine wv (h:=bB (fun k e H=>(e 0=qL l∧e 3=dI i∧e 4=dI k)∧(k≤i)∧(∀ j,j<k→l[j]?≠some l[i])) (fun k=>i - k) 0 ⟨wg,wi,(by intro j hj;omega)⟩ fun I2 hI2 k e H hi2=>?_)
    obtain ⟨E2,hk,hne⟩:=hi2
    have Y:=wa Y E2
    refine cT (fun h9=>?_) fun h9=>?_
    ·have hkl:k<l.length:=by omega
     have Y:=wa Y (wa h9 hkl)
     refine dV (fun h11=>?_) fun h11=>?_
     ·exact wv (h:=hQ _ _ (by have hm:mem (l.take i) l[i]=true:=(IV h4).2 ⟨k,h9,by rw [aA hkl,h11]⟩;rw [← hn];simp [go_sem,lB,h6,hm]))
     ·exact wo (h:=wx hI2 (k+1) ⟨wg,wj,(by exact iX hne (by rw [aA hkl];simpa using h11))⟩)
    ·have hm:¬ mem (l.take i) l[i]=true:=fun hm=>by
      obtain ⟨j,hj,he⟩:=(IV h4).1 hm
      exact hne j (by omega) he
     exact wo (h:=wx hI0 (i+1) ⟨wg,wj,(by rw [← hn,lB,if_neg (by simp [h6]),if_neg hm,aF h4])⟩)
  ·exact wv (h:=hQ _ _ (by rw [← hn,show i=l.length by omega];simp [go_sem,lB]))
def BV (x:Attr):Int :=
 if lQ x.names≠0 then lQ x.names
 else if (if 0<x.names.length then decide (x.low=0)&&decide (x.high=x.names.length - 1) else decide (-1000000≤x.low)&&decide (x.low≤x.high)&&decide (x.high≤1000000))=true then 0 else 6
theorem Cb (x:Attr)(hx:x.ok):Pure Tryz.prog 351 [.agg x.c] (dI (BV x)):=by
 have hfew:=hx.few
 have hz:x.names=[]→lQ x.names=0:=fun h=>by rw [h];rfl
 refine Tz.pK ⟨fun _=>false,fun _=>[]⟩ Tryz.func351 rfl (fun Q hQ=>?_)
 have Y:=trivial
 refine dV (fun h1=>?_) fun h1=>?_
 ·have hp:¬ 0<x.names.length:=by simp [h1]
  refine wo (h:=aB (lH _ _ _) wl ?_)
  refine wo (h:=aK (fun hg=>lH _ _ _) (fun hg=>wl) ?_)
  refine dV (fun h2=>?_) fun h2=>?_
  ·exact wv (h:=hQ _ _ (by simp [go_sem,BV,hz h1,hp];simp [inF] at h2;omega))
  ·exact wv (h:=hQ _ _ (by simp [go_sem,BV,hz h1,hp];simp [inF] at h2;omega))
 ·have hp:0<x.names.length:=by cases hh:x.names<;>simp_all
  refine wv (h:=aB (IC x.names hx.names) wl ?_)
  refine cT (fun h6=>?_) fun h6=>?_
  ·exact wv (h:=hQ _ _ (by simp [go_sem,BV,h6]))
  ·refine dV (fun h8=>?_) fun h8=>?_
   ·exact wv (h:=hQ _ _ (by simp [go_sem,BV,h6,hp];omega))
   ·exact wv (h:=hQ _ _ (by simp [go_sem,BV,h6,hp];omega))
theorem A6 (t:Types)(a:Nat)(ha:a<t.nodes.length)(hp:parentsOK t.nodes a) :
  t.attrs a=(if 0≤t.nodes[a].parent then t.attrs t.nodes[a].parent.toNat else [])++t.nodes[a].attrs:=by
 have hpa:=hp a _ (bC _) (aA ha)
 by_cases h':0≤t.nodes[a].parent
 ·have hlt:t.nodes[a].parent.toNat<a:=by omega
  have:=BT t.nodes t.nodes[a].parent.toNat a (t.nodes[a].parent.toNat+1) (fun j m hj hm=>hp j m (by omega) hm) hlt (by omega)
  simp [Types.attrs,kT,aA ha,h',this]
 ·simp [Types.attrs,kT,aA ha,h']
theorem G2 (t:Types)(a:Int)(ha:a<0):Pure Tryz.prog 190 [t.d,dI a] (.list []):=by
 refine Tz.pK ⟨fun t=>t==7,fun r=>match r with|3=>[(0,1),(0,2),(0,3),(0,5),(0,6),(0,7),(0,8),(0,10),(9,10),(0,11),(9,11),(0,13),(9,13),(0,14),(9,14),(0,15),(9,15)]|_=>[]⟩ Tryz.func190 rfl (fun Q hQ=>?_)
 have Y:=ha
 exact wv (h:=hQ _ _ wy)
theorem Bx (t:Types)(ht:t.ok):∀ a:Nat,a<t.nodes.length→parentsOK t.nodes a→Pure Tryz.prog 190 [t.d,dI a] (.list ((t.attrs a).map Attr.c)):=by
 intro a
 induction a using Nat.strongRecOn with
 | _ a ih =>
 intro ha hp
 have hpa:=hp a _ (bC _) (aA ha)
 have hlen:=p9 t.nodes (fun n hn=>(ht.nodes n hn).few) (a+1) a
 have hfew:=ht.fewN
 have e:=A6 t a ha hp
 have hc:Pure Tryz.prog 190 [t.d,dI t.nodes[a].parent] (.list (((if 0≤t.nodes[a].parent then t.attrs t.nodes[a].parent.toNat else [])).map Attr.c)):=by
  by_cases h':0≤t.nodes[a].parent
  ·rw [if_pos h']
   have:=ih t.nodes[a].parent.toNat (by omega) (by omega) (fun j m hj hm=>hp j m (by omega) hm)
   rwa [Int.toNat_of_nonneg h'] at this
  ·rw [if_neg h']
   exact G2 t _ (by omega)
 have hl2:(if 0≤t.nodes[a].parent then t.attrs t.nodes[a].parent.toNat else []).length+t.nodes[a].attrs.length≤2000000:=by
  have h1:(t.attrs a).length≤1000 * (a+1):=hlen
  rw [e,aT] at h1
  omega
 rw [e]
 generalize (if 0≤t.nodes[a].parent then t.attrs t.nodes[a].parent.toNat else [])=u at *
 refine Tz.pK ⟨fun t=>t==7,fun r=>match r with|3=>[(0,1),(0,2),(0,3),(0,5),(0,6),(0,7),(0,8),(0,10),(9,10),(0,11),(9,11),(0,13),(9,13),(0,14),(9,14),(0,15),(9,15)]|_=>[]⟩ Tryz.func190 rfl (fun Q hQ=>?_)
 have Y:=wa (aA ha) (wa ha ((show ¬ ((a:Int)<0) by omega)))
 refine wo (h:=aI (hc) wl ?_)
 exact wo (h:=hQ _ _ wy)
theorem Bw (low high:Int):Pure Tryz.prog 352 [dI low,dI high] (.bool (boundedF low high)):=by
 refine Tz.pK ⟨fun _=>false,fun _=>[]⟩ Tryz.func352 rfl (fun Q hQ=>?_)
 have Y:=trivial
 refine wo (h:=aB (lH _ _ _) wl ?_)
 refine wo (h:=aK (fun hg=>lH _ _ _) (fun hg=>wl) ?_)
 have Y:=wa Y (wa @boundedF.eq_1 @inF.eq_1)
 exact wo (h:=hQ _ _ wy)
theorem rK {α:Type}{l:List α}{p:α→Bool}{k i:Nat}(hk:k<i)(hl:k<l.length)(h:p l[k]=true):(l.take i).any p=true :=
 aU.2 ⟨l[k],BZ.2 ⟨k,by omega,rfl⟩,h⟩
theorem o8 {α:Type}{l:List α}{p:α→Bool}{k i:Nat}(h:(l.take k).any p=false)(he:k=i):(l.take i).any p=false:=by rw [← he];exact h
def xQ (l:List Attr)(k:Nat):Int:=match l[k]? with|some x=>cQ x (l.take k)|none=>0
theorem Oo {l:List Attr}{k:Nat}(h:k<l.length):xQ l k=if jY l[k].name=false then 2 else if ((l.take k).any fun y=>decide (y.name=l[k].name))=true then 5 else BV l[k]:=by
 unfold xQ;rw [aA h];rfl
theorem dQ (f:Nat→Int){k n:Nat}(h:k<n):bI f k (n - k)=if f k≠0 then f k else bI f (k+1) (n - (k+1)):=by
 rw [show n - k=n - (k+1)+1 by omega,bI]
theorem zR (t:Types)(i:Nat)(hi:i<t.nodes.length):fS t i =
  if jY t.nodes[i].name=false then 2
  else if ((t.nodes.take i).any fun m=>decide (m.name=t.nodes[i].name))=true then 5
  else if (decide (t.nodes[i].parent < -1)||decide ((i:Int)≤t.nodes[i].parent))=true then 6
  else if 4<t.nodes[i].attrs.length then 3
  else if 8<(t.attrs i).length then 3
  else bI (xQ (t.attrs i)) ((t.attrs i).length - t.nodes[i].attrs.length) t.nodes[i].attrs.length:=by
 unfold fS;rw [aA hi];rfl
theorem Ku (t:Types)(ht:t.ok)(i:Nat)(hi:i<t.nodes.length)(hp:∀ j n,j<i→t.nodes[j]?=some n→n.parent<j):Pure Tryz.prog 278 [t.d,dI i] (dI (fS t i)):=by
 have hno:=ht.nodes _ (aC hi)
 have hfew:=ht.fewN
 have hF:=zR t i hi
 have hok:∀ x∈t.attrs i,x.ok:=sY t.nodes ht.nodes _ _
 have hal:=p9 t.nodes (fun n hn=>(ht.nodes n hn).few) (i+1) i
 have hle:t.nodes[i].attrs.length≤(t.attrs i).length:=by simp [Types.attrs,kT,aA hi]
 refine Tz.pK ⟨fun t=>t==5,fun _=>[]⟩ Tryz.func278 rfl (fun Q hQ=>?_)
 have Y:=wa (aA hi) hi
 refine wo (h:=aB (mH _ hno.name) wl ?_)
 refine dV (fun h2=>?_) fun h2=>?_
 ·exact wv (h:=hQ _ _ (.inl (by simp [go_sem,hF,h2])))
 ·refine wv (h:=bB (fun k e H=>(e 1=dI i∧e 2=.adr t.c∧e 5=.ptr 0 1 0 0∧e 6=dI k)∧(H.get 0=some ⟨183,4,[t.nodes[i].c],false⟩)∧(0<H.next)∧(k≤i)∧(((t.nodes.take k).any fun m=>decide (m.name=t.nodes[i].name))=false)) (fun k=>i - k) 0 ⟨wg,wn,wn,wi,(by simp)⟩ fun I0 hI0 k e H hi0=>?_)
  obtain ⟨E0,g0_0,n0_0,hk,hne⟩:=hi0
  have Y:=wa Y (wa E0 (wa g0_0 (bY n0_0)))
  refine cT (fun h5=>?_) fun h5=>?_
  ·have hkl:k<t.nodes.length:=by omega
   have Y:=wa Y (wa h5 hkl)
   refine dV (fun h7=>?_) fun h7=>?_
   ·exact wv (h:=hQ _ _ (.inl (by have hb:=rK (p:=fun m:NodeTy=>decide (m.name=t.nodes[i].name)) h5 hkl (by simpa using h7);rw [hF,if_neg (by simp [h2]),if_pos hb];simp [go_sem])))
   ·exact wo (h:=wx hI0 (k+1) ⟨wg,wn,wn,wj,(by rw [cX _ _ _ hkl,hne];simpa using h7)⟩)
  ·have hb:=o8 hne (show k=i by omega)
   refine wo (h:=aB (lH _ _ _) wl ?_)
   refine dV (fun h9=>?_) fun h9=>?_
   ·exact wv (h:=hQ _ _ (.inl (by rw [hF,if_neg (by simp [h2]),if_neg (by simp [hb]),if_pos (by simp [inF] at h9;simp;omega)];simp [go_sem])))
   ·have hr:¬ (decide (t.nodes[i].parent < -1)||decide ((i:Int)≤t.nodes[i].parent))=true:=by simp [inF] at h9;simp;omega
    have hpo:parentsOK t.nodes i:=fun j n hj hn=>by
     rcases bN j i with h|h
     ·exact hp j n h hn
     ·have:j=i:=by omega
      subst this
      rw [aA hi] at hn
      cases hn;simp at hr;omega
    refine wv (h:=aB (Bx t ht i hi hpo) wl ?_)
    refine dV (fun h12=>?_) fun h12=>?_
    ·exact wv (h:=hQ _ _ (.inl (by rw [hF,if_neg (by simp [h2]),if_neg (by simp [hb]),if_neg hr];simp [go_sem];omega)))
    ·have hF2:fS t i=bI (xQ (t.attrs i)) ((t.attrs i).length - t.nodes[i].attrs.length) t.nodes[i].attrs.length:=by rw [hF,if_neg (by simp [h2]),if_neg (by simp [hb]),if_neg hr,if_neg (by omega),if_neg (by omega)]
     refine wo (h:=bB (fun k e H=>(e 1=dI i∧e 2=.adr t.c∧e 7=.list ((t.attrs i).map Attr.c)∧e 8=dI k)∧(k≤(t.attrs i).length)∧(bI (xQ (t.attrs i)) k ((t.attrs i).length - k)=fS t i)) (fun k=>(t.attrs i).length - k) ((t.attrs i).length - t.nodes[i].attrs.length) ⟨wg,(by omega),(by rw [hF2];congr 1;omega)⟩ fun I2 hI2 k e H hi2=>?_)
     obtain ⟨E2,hk,hFk⟩:=hi2
     have Y:=wa Y E2
     refine dV (fun h15=>?_) fun h15=>?_
     ·have hst:=dQ (xQ (t.attrs i)) h15
      rw [hFk] at hst
      have hE:=Oo h15
      have Y:=wa Y h15
      refine wo (h:=aB (mH _ (hok _ (aC h15)).name) wl ?_)
      refine dV (fun h17=>?_) fun h17=>?_
      ·refine wv (h:=?_)
       have hE2:xQ (t.attrs i) k=2:=by rw [hE,if_pos (by simp [h17])]
       exact hQ _ _ (.inl (by rw [hst,hE2];simp [go_sem]))
      ·refine wv (h:=bB (fun j e H=>(e 1=dI i∧e 2=.adr t.c∧e 7=.list ((t.attrs i).map Attr.c)∧e 8=dI k∧e 9=dI j)∧(j≤k)∧((((t.attrs i).take j).any fun y=>decide (y.name=(t.attrs i)[k].name))=false)) (fun j=>k - j) 0 ⟨wg,wi,(by simp)⟩ fun I4 hI4 j e H hi4=>?_)
       obtain ⟨E4,hj,hne⟩:=hi4
       have Y:=wa Y E4
       refine cT (fun h20=>?_) fun h20=>?_
       ·have hjl:j<(t.attrs i).length:=by omega
        have Y:=wa Y (wa h20 hjl)
        refine dV (fun h22=>?_) fun h22=>?_
        ·refine wv (h:=?_)
         have hb:=rK (p:=fun y:Attr=>decide (y.name=(t.attrs i)[k].name)) h20 hjl (by simpa using h22)
         have hE2:xQ (t.attrs i) k=5:=by rw [hE,if_neg (by simp [h17]),if_pos hb]
         exact hQ _ _ (.inl (by rw [hst,hE2];simp [go_sem]))
        ·exact wo (h:=wx hI4 (j+1) ⟨wg,wj,(by rw [cX _ _ _ hjl,hne];simpa using h22)⟩)
       ·have hb2:=o8 hne (show j=k by omega)
        have hE2:xQ (t.attrs i) k=BV (t.attrs i)[k]:=by rw [hE,if_neg (by simp [h17]),if_neg (by simp [hb2])]
        rw [hE2] at hst
        refine wo (h:=aB (Cb _ (hok _ (aC h15))) wl ?_)
        refine dV (fun h25=>?_) fun h25=>?_
        ·exact wv (h:=hQ _ _ (.inl (by rw [hst,if_pos (by simpa using h25)];simp [go_sem])))
        ·exact wo (h:=wx hI2 (k+1) ⟨wg,wj,(by rw [if_neg (by simp [h25])] at hst;rw [← hst])⟩)
     ·exact wv (h:=hQ _ _ (.inl (by rw [← hFk,show (t.attrs i).length - k=0 by omega];rfl)))
end Go.Abs
end
