/- Layer 4: types, continued. · Layer 4: types, edges. · Layer  -/
import Derived.Test.YthalajhajpjjeaaGreatZeF
import Derived.Test.YthalajhajpjjeaaGreatZeG
import Derived.Test.YthalajhajpjjeaaGreatZeA
set_option linter.unusedVariables false
set_option linter.unusedSimpArgs false
section
set_option maxRecDepth 100000
set_option maxHeartbeats 4000000
open Go Go.Proofs
namespace Go.Abs
attribute [go_sem] qG
@[go_sem] theorem Vh (l:List ByteArray):D.clLL (l.map cS)=true:=cQ cS (fun _=>rfl) l
theorem Ei (xs:List NodeTy)(g:FuncId)(caps:List D)(p:NodeTy→Bool)(hc:D.clL caps=true)(hg:∀ x∈xs,Pure Tryz.prog g (.agg x.c :: caps) (.bool (p x))) :
  Pure Tryz.prog 363 [.list (xs.map NodeTy.c),.fn g caps] (dI (Bl xs p)):=by
 refine aN (aI (cfg:=⟨fun _=>false,fun _=>[]⟩) Tz.mixed Tryz.func363 rfl rfl (aF rfl) (by kernel_rfl) ?_)
 simp [go_sem,seval,dI,dLI]
 intro hlen
 refine eX (ι:=Nat) (fun i e H=>H=.emp∧i≤xs.length∧e 0=.list (xs.map NodeTy.c)∧e 1=.fn g caps∧e 7=dI xs.length∧e 8=dI i∧(∀ j x,j<i→xs[j]?=some x→p x=false)) (fun i=>xs.length - i) 0 (by simp [go_sem,seval,dI,dLI]) ?_
 intro i e H ⟨hH,hi,h0,h1,h7,h8,hn⟩
 subst hH
 simp [go_sem,seval,h0,h1,h7,h8,dI,dLI]
 refine fB (fun hlt=>?_) (fun hge=>?_)
 ·have hgx:=hg xs[i] (aC hlt)
  simp [go_sem,seval,h0,h1,h7,h8,dI,dLI,hlt,NodeTy.c] at hgx ⊢
  refine aB hgx (by simp [go_sem,hc]) ?_
  simp [go_sem,seval,h0,h1,h7,h8,dI,dLI]
  refine aP (fun h=>?_) (fun h=>?_)
  ·simp [go_sem,seval,h0,h1,h7,h8,dI,dLI]
   rw [nO hn hlt h]
  ·simp [go_sem,seval,h0,h1,h7,h8,dI,dLI]
   refine ⟨cG (by omega) (by omega),i+1,by omega,by omega,by omega,fun j x hj hx=>?_⟩
   rcases bN j i with hj'|hj'
   ·exact hn j x hj' hx
   ·have:j=i:=by omega
    subst this
    rw [aA hlt] at hx
    cases hx;exact h
 ·simp [go_sem,seval,h0,h1,h7,h8,dI,dLI]
  rw [nP fun j x hj=>hn j x (by omega)]
theorem AA (xs:List NodeTy)(g:FuncId)(caps:List D)(p:NodeTy→Bool)(hc:D.clL caps=true)(hl:D.cl (.list (xs.map NodeTy.c))=true)(hg:∀ x∈xs,Pure Tryz.prog g (.agg x.c :: caps) (.bool (p x))) :
  Pure Tryz.prog 296 [.list (xs.map NodeTy.c),.fn g caps] (.bool (xs.any p)):=by
 refine aN (aI (cfg:=⟨fun _=>false,fun _=>[]⟩) Tz.mixed Tryz.func296 rfl rfl (aF rfl) (by kernel_rfl) ?_)
 simp [go_sem,seval]
 refine aB (Ei xs g caps p hc hg) (by simp only [D.clL,hl,fQ];simp [D.cl,hc]) ?_
 simp [go_sem,seval,dI,qB]
theorem Ej (xs:List EdgeTy)(g:FuncId)(caps:List D)(p:EdgeTy→Bool)(hc:D.clL caps=true)(hg:∀ x∈xs,Pure Tryz.prog g (.agg x.c :: caps) (.bool (p x))) :
  Pure Tryz.prog 367 [.list (xs.map EdgeTy.c),.fn g caps] (dI (Bl xs p)):=by
 refine aN (aI (cfg:=⟨fun _=>false,fun _=>[]⟩) Tz.mixed Tryz.func367 rfl rfl (aF rfl) (by kernel_rfl) ?_)
 simp [go_sem,seval,dI,dLI]
 intro hlen
 refine eX (ι:=Nat) (fun i e H=>H=.emp∧i≤xs.length∧e 0=.list (xs.map EdgeTy.c)∧e 1=.fn g caps∧e 7=dI xs.length∧e 8=dI i∧(∀ j x,j<i→xs[j]?=some x→p x=false)) (fun i=>xs.length - i) 0 (by simp [go_sem,seval,dI,dLI]) ?_
 intro i e H ⟨hH,hi,h0,h1,h7,h8,hn⟩
 subst hH
 simp [go_sem,seval,h0,h1,h7,h8,dI,dLI]
 refine fB (fun hlt=>?_) (fun hge=>?_)
 ·have hgx:=hg xs[i] (aC hlt)
  simp [go_sem,seval,h0,h1,h7,h8,dI,dLI,hlt,EdgeTy.c] at hgx ⊢
  refine aB hgx (by simp [go_sem,hc]) ?_
  simp [go_sem,seval,h0,h1,h7,h8,dI,dLI]
  refine aP (fun h=>?_) (fun h=>?_)
  ·simp [go_sem,seval,h0,h1,h7,h8,dI,dLI]
   rw [nO hn hlt h]
  ·simp [go_sem,seval,h0,h1,h7,h8,dI,dLI]
   refine ⟨cG (by omega) (by omega),i+1,by omega,by omega,by omega,fun j x hj hx=>?_⟩
   rcases bN j i with hj'|hj'
   ·exact hn j x hj' hx
   ·have:j=i:=by omega
    subst this
    rw [aA hlt] at hx
    cases hx;exact h
 ·simp [go_sem,seval,h0,h1,h7,h8,dI,dLI]
  rw [nP fun j x hj=>hn j x (by omega)]
theorem AB (xs:List EdgeTy)(g:FuncId)(caps:List D)(p:EdgeTy→Bool)(hc:D.clL caps=true)(hl:D.cl (.list (xs.map EdgeTy.c))=true)(hg:∀ x∈xs,Pure Tryz.prog g (.agg x.c :: caps) (.bool (p x))) :
  Pure Tryz.prog 301 [.list (xs.map EdgeTy.c),.fn g caps] (.bool (xs.any p)):=by
 refine aN (aI (cfg:=⟨fun _=>false,fun _=>[]⟩) Tz.mixed Tryz.func301 rfl rfl (aF rfl) (by kernel_rfl) ?_)
 simp [go_sem,seval]
 refine aB (Ej xs g caps p hc hg) (by simp only [D.clL,hl,fQ];simp [D.cl,hc]) ?_
 simp [go_sem,seval,dI,qB]
@[go_sem] theorem sV (l:List NodeTy):D.clLL (l.map NodeTy.c)=true:=cQ _ NodeTy.cl l
@[go_sem] theorem s6 (l:List EdgeTy):D.clLL (l.map EdgeTy.c)=true:=cQ _ EdgeTy.cl l
theorem IJ (x y:NodeTy):Pure Tryz.prog 297 [.agg y.c,.adr x.c] (.bool (decide (y.name=x.name))):=by
 refine aN (aI (cfg:=⟨fun _=>false,fun _=>[]⟩) Tz.mixed Tryz.func297 rfl rfl (aF rfl) (by kernel_rfl) ?_)
 simp [go_sem,seval,NodeTy.c,dI,qV]
theorem tE (nodes:List NodeTy)(h:∀ n∈nodes,n.ok):∀ f a,∀ x∈k6 nodes f a,x.ok
 | 0,a,x,hx=>by simp [k6] at hx
 | f+1,a,x,hx=>by
  unfold k6 at hx
  split at hx
  ·simp at hx
  ·rename_i n hn
   rcases aY.1 hx with hx|hx
   ·split at hx
    ·exact tE nodes h f _ x hx
    ·simp at hx
   ·exact (h n (aJ hn)).attrs x hx
def bJ (f:Nat→Int):Nat→Nat→Int
 | _,0=>0
 | k,n+1=>if f k≠0 then f k else bJ f (k+1) n
def f5 (t:Types)(i:Nat):Int :=
 match t.nodes[i]? with
 | none=>0
 | some n =>
  if kF n.name=false then 2
  else if ((t.nodes.take i).any fun m=>decide (m.name=n.name))=true then 5
  else if (decide (n.parent < -1)||decide ((i:Int)≤n.parent))=true then 6
  else if 4<n.attrs.length then 3
  else if 8<(t.attrs i).length then 3
  else bJ (fun k=>match (t.attrs i)[k]? with|some x=>cY x ((t.attrs i).take k)|none=>0) ((t.attrs i).length - n.attrs.length) n.attrs.length
theorem KX (t:Types)(ht:t.ok)(i:Nat)(hi:i<t.nodes.length)(hp:∀ j n,j<i→t.nodes[j]?=some n→n.parent<j):Pure Tryz.prog 219 [t.d,dI i] (dI (f5 t i)):=by
 have hno:=ht.nodes _ (aC hi)
 refine aN (aI (cfg:=⟨fun t=>t==5,fun _=>[]⟩) Tz.mixed Tryz.func219 rfl rfl (aF rfl) (by kernel_rfl) ?_)
 simp [go_sem,seval,dI,Types.d,Types.c,NodeTy.c,aA hi,hi]
 refine aB (mK _ hno.name) rfl ?_
 simp [go_sem,seval]
 refine aP (fun hn=>?_) (fun hn=>?_)
 ·simp at hn
  simp [go_sem,seval,f5,aA hi,hn]
 ·simp at hn
  simp [go_sem,seval]
  have hc:=AA (t.nodes.take i) 297 [.adr t.nodes[i].c] (fun y=>decide (y.name=t.nodes[i].name)) (by simp [D.clL,D.cl,NodeTy.cl]) (by rw [D.cl];exact sV _) (fun y _=>IJ t.nodes[i] y)
  refine ⟨⟨by omega,by cases t.nodes<;>simp [NodeTy.c]⟩,rP hc (by simp [DB,A8,eQ,go_sem,NodeTy.c,dI,List.map_take]) (by simp only [D.clL,D.cl,sV,NodeTy.cl];rfl) rfl ?_⟩
  simp [go_sem,seval]
  refine aP (fun hb=>?_) (fun hb=>?_)
  ·simp [go_sem,seval,f5,aA hi,hn,hb]
  ·simp [go_sem,seval,NodeTy.c,dI]
   refine aP (fun hr=>?_) (fun hr=>?_)
   ·have hr':(decide (t.nodes[i].parent < -1)||decide ((i:Int)≤t.nodes[i].parent))=true:=by simpa using hr
    simp [go_sem,seval]
    have e:f5 t i=6:=by simp only [f5,aA hi];rw [if_neg (by simp [hn]),if_neg (by simp [hb]),if_pos hr']
    simp [e]
   ·simp at hr
    simp [go_sem,seval]
    have hr':¬ (decide (t.nodes[i].parent < -1)||decide ((i:Int)≤t.nodes[i].parent))=true:=by simp;omega
    intro hlen
    refine aP (fun h4=>?_) (fun h4=>?_)
    ·have h4':4<t.nodes[i].attrs.length:=by simp at h4;omega
     simp [go_sem,seval]
     have e:f5 t i=3:=by simp only [f5,aA hi];rw [if_neg (by simp [hn]),if_neg (by simp [hb]),if_neg hr',if_pos h4']
     simp [e]
    ·have h4':¬ 4<t.nodes[i].attrs.length:=by simp at h4;omega
     simp [go_sem,seval]
     have hpo:parentsOK t.nodes i:=fun j n hj hn'=>by
      rcases bN j i with h|h
      ·exact hp j n h hn'
      ·have:j=i:=by omega
       subst this
       rw [aA hi] at hn'
       cases hn';omega
     have hat:=BJ t ht i hi hpo
     simp only [Types.d,Types.c,dI] at hat
     refine aB hat.pure (by simp [D.clL,D.cl,sV,s6]) ?_
     simp [go_sem,seval,NodeTy.c,dI]
     intro hlen2
     refine aP (fun h8=>?_) (fun h8=>?_)
     ·have h8':8<(t.attrs i).length:=by simp at h8;omega
      simp [go_sem,seval]
      have e:f5 t i=3:=by simp only [f5,aA hi];rw [if_neg (by simp [hn]),if_neg (by simp [hb]),if_neg hr',if_neg h4',if_pos h8']
      simp [e]
     ·have h8':¬ 8<(t.attrs i).length:=by simp at h8;omega
      have e:f5 t i=bJ (fun k=>match (t.attrs i)[k]? with|some x=>cY x ((t.attrs i).take k)|none=>0) ((t.attrs i).length - t.nodes[i].attrs.length) t.nodes[i].attrs.length:=by
       simp only [f5,aA hi];rw [if_neg (by simp [hn]),if_neg (by simp [hb]),if_neg hr',if_neg h4',if_neg h8']
      have hle:t.nodes[i].attrs.length≤(t.attrs i).length:=by simp [Types.attrs,k6,aA hi]
      have hok:∀ x∈t.attrs i,x.ok:=tE t.nodes ht.nodes _ _
      simp [go_sem,seval,NodeTy.c,dI]
      refine fun _ _=>⟨cG (by omega) (by omega),?_⟩
      refine eX (ι:=Nat) (fun k e H=>k≤(t.attrs i).length∧e 6=.list ((t.attrs i).map Attr.c)∧e 7=dI k ∧
       bJ (fun k=>match (t.attrs i)[k]? with|some x=>cY x ((t.attrs i).take k)|none=>0) k ((t.attrs i).length - k)=f5 t i) (fun k=>(t.attrs i).length - k) ((t.attrs i).length - t.nodes[i].attrs.length) ?_ ?_
      ·simp [go_sem,seval,dI]
       refine ⟨by omega,?_⟩
       rw [e];congr 1;omega
      ·intro k e' H ⟨hk,h6,h7,hF⟩
       simp [go_sem,seval,h6,h7,dI]
       intro hlen3
       refine fB (fun hlt=>?_) (fun hge=>?_)
       ·simp [go_sem,seval,h6,h7,dI,hlt,Attr.c]
        have hta:=Cx (t.attrs i)[k] ((t.attrs i).take k) (hok _ (aC hlt))
        simp only [Attr.c,dI,List.map_take] at hta
        have hcl:D.clLL (List.take k (List.map Attr.c (t.attrs i)))=true:=by rw [← List.map_take];exact qG _
        refine ⟨⟨hk,by cases t.attrs i<;>simp [Attr.c]⟩,aK hta (by simp [D.clL,D.cl,hcl,Pq]) ?_⟩
        have hstep:bJ (fun k=>match (t.attrs i)[k]? with|some x=>cY x ((t.attrs i).take k)|none=>0) k ((t.attrs i).length - k) =
          if cY (t.attrs i)[k] ((t.attrs i).take k)≠0 then cY (t.attrs i)[k] ((t.attrs i).take k) else bJ (fun k=>match (t.attrs i)[k]? with|some x=>cY x ((t.attrs i).take k)|none=>0) (k+1) ((t.attrs i).length - (k+1)):=by
         rw [show (t.attrs i).length - k=(t.attrs i).length - (k+1)+1 by omega,bJ,aA hlt]
        rw [hstep] at hF
        simp [go_sem,seval]
        refine aP (fun hz=>?_) (fun hz=>?_)
        ·have hz':cY (t.attrs i)[k] ((t.attrs i).take k)≠0:=by simpa using hz
         rw [if_pos hz'] at hF
         simp [go_sem,seval,hF]
        ·have hz':¬ cY (t.attrs i)[k] ((t.attrs i).take k)≠0:=by simpa using hz
         rw [if_neg hz'] at hF
         simp [go_sem,seval,h6,h7,dI]
         exact ⟨cG (by omega) (by omega),k+1,by omega,by omega,by omega,hF⟩
       ·simp [go_sem,seval]
        rw [← hF,show (t.attrs i).length - k=0 by omega];rfl
def boundedF (low high:Int):Bool:=(decide (0≤low)&&decide (low≤40))&&(decide (high = -1)||(decide (low≤high)&&decide (high≤40)))
theorem Fh (low high:Int):Pure Tryz.prog 303 [dI low,dI high] (.bool (boundedF low high)):=by
 refine aN (aI (cfg:=⟨fun _=>false,fun _=>[]⟩) Tz.mixed Tryz.func303 rfl rfl (aF rfl) (by kernel_rfl) ?_)
 simp [go_sem,seval,dI,boundedF]
 try omega
theorem IM (t:Types)(a:Int):Pure Tryz.prog 300 [dI a,.adr t.c] (.bool (decide (0≤a)&&decide (a<t.nodes.length))):=by
 refine aN (aI (cfg:=⟨fun _=>false,fun _=>[]⟩) Tz.mixed Tryz.func300 rfl rfl (aF rfl) (by kernel_rfl) ?_)
 simp [go_sem,seval,dI,Types.c]
theorem IL (x y:EdgeTy):Pure Tryz.prog 302 [.agg y.c,.adr x.c] (.bool (decide (y.name=x.name))):=by
 refine aN (aI (cfg:=⟨fun _=>false,fun _=>[]⟩) Tz.mixed Tryz.func302 rfl rfl (aF rfl) (by kernel_rfl) ?_)
 simp [go_sem,seval,EdgeTy.c,dI]
def insideF (t:Types)(a:Int):Bool:=decide (0≤a)&&decide (a<t.nodes.length)
def iW (t:Types)(i:Nat):Int :=
 match t.edges[i]? with
 | none=>0
 | some x =>
  if kF x.name=false then 2
  else if ((t.edges.take i).any fun y=>decide (y.name=x.name))=true then 5
  else if (insideF t x.from_&&insideF t x.to_&&boundedF x.outLow x.outHigh&&boundedF x.inLow x.inHigh)=true then 0 else 6
theorem KZ (t:Types)(ht:t.ok)(i:Nat)(hi:i<t.edges.length):Pure Tryz.prog 220 [t.d,dI i] (dI (iW t i)):=by
 have hno:=ht.edges _ (aC hi)
 have hcN:D.clLL (List.map NodeTy.c t.nodes)=true:=sV _
 have hcE:D.clLL (List.map EdgeTy.c t.edges)=true:=s6 _
 have hin:∀ a:Int,Pure Tryz.prog 300 [.int .i64 a,.adr [.list (t.nodes.map NodeTy.c),.list (t.edges.map EdgeTy.c)]] (.bool (insideF t a)):=IM t
 have hbd:∀ a b:Int,Pure Tryz.prog 303 [.int .i64 a,.int .i64 b] (.bool (boundedF a b)):=Fh
 refine aN (aI (cfg:=⟨fun t=>t==5,fun _=>[]⟩) Tz.mixed Tryz.func220 rfl rfl (aF rfl) (by kernel_rfl) ?_)
 simp [go_sem,seval,dI,Types.d,Types.c,EdgeTy.c,aA hi,hi]
 refine aB (mK _ hno.name) rfl ?_
 simp [go_sem,seval]
 refine aP (fun hn=>?_) (fun hn=>?_)
 ·simp at hn
  simp [go_sem,seval,iW,aA hi,hn]
 ·simp at hn
  simp [go_sem,seval]
  have hc:=AB (t.edges.take i) 302 [.adr t.edges[i].c] (fun y=>decide (y.name=t.edges[i].name)) (by simp [D.clL,D.cl,EdgeTy.cl]) (by rw [D.cl];exact s6 _) (fun y _=>IL t.edges[i] y)
  refine ⟨⟨by omega,by cases t.edges<;>simp [EdgeTy.c]⟩,rP hc (by simp [DB,A8,eQ,go_sem,EdgeTy.c,dI,List.map_take]) (by simp only [D.clL,D.cl,s6,EdgeTy.cl];rfl) rfl ?_⟩
  simp [go_sem,seval]
  refine aP (fun hb=>?_) (fun hb=>?_)
  ·simp [go_sem,seval,iW,aA hi,hn,hb]
  ·simp [go_sem,seval,EdgeTy.c,dI]
   refine aB (hin _) (by simp [D.clL,D.cl,hcN,hcE]) ?_
   simp [go_sem,seval,EdgeTy.c,dI]
   refine aG (fun _=>hin _) (fun _=>by simp [D.clL,D.cl,hcN,hcE]) ?_
   simp [go_sem,seval,EdgeTy.c,dI]
   refine aP (fun h1=>?_) (fun h1=>?_)
   ·have e:iW t i=6:=by
     simp only [iW,aA hi];rw [if_neg (by simp [hn]),if_neg (by simp [hb]),if_neg (by intro h;simp at h;simp [h] at h1)]
    simp [go_sem,seval]
    refine aP (fun _=>?_) (fun h=>?_)
    ·simp [go_sem,seval,e]
    ·rw [h1] at h;cases h
   ·simp [go_sem,seval,EdgeTy.c,dI]
    refine aB (hbd _ _) rfl ?_
    simp [go_sem,seval,EdgeTy.c,dI]
    refine aG (fun _=>hbd _ _) (fun _=>rfl) ?_
    simp [go_sem,seval,EdgeTy.c,dI]
    refine aP (fun h2=>?_) (fun h2=>?_)
    ·have e:iW t i=6:=by
      simp only [iW,aA hi];rw [if_neg (by simp [hn]),if_neg (by simp [hb]),if_neg (by intro h;simp at h;simp [h] at h2)]
     simp [go_sem,seval,e]
    ·have e:iW t i=0:=by
      simp only [iW,aA hi];rw [if_neg (by simp [hn]),if_neg (by simp [hb]),if_pos (by simp at h1 h2 ⊢;simp [h1,h2])]
     simp [go_sem,seval,e]
theorem tW (t:Types)(j:Nat)(n:NodeTy)(h:f5 t j=0)(hn:t.nodes[j]?=some n):n.parent<j:=by
 simp only [f5,hn] at h
 split at h
 ·cases h
 ·split at h
  ·cases h
  ·split at h
   ·cases h
   ·rename_i hr;simp at hr;omega
def dS (f:Nat→Int)(nm:Nat→ByteArray)(last:ByteArray × Int):Nat→Nat→ByteArray × Int
 | _,0=>last
 | k,n+1=>if f k≠0 then (nm k,f k) else dS f nm last (k+1) n
def Types.nodeName (t:Types)(i:Nat):ByteArray:=match t.nodes[i]? with|some n=>n.name|none=>⟨#[]⟩
def Types.edgeName (t:Types)(i:Nat):ByteArray:=match t.edges[i]? with|some n=>n.name|none=>⟨#[]⟩
def b8 (t:Types):ByteArray × Int :=
 if t.nodes.length=0 then (⟨#[]⟩,7)
 else if 12<t.nodes.length∨20<t.edges.length then (⟨#[]⟩,3)
 else dS (f5 t) t.nodeName (dS (iW t) t.edgeName (⟨#[]⟩,0) 0 t.edges.length) 0 t.nodes.length
theorem l5 (t:Types)(ht:t.ok):Pure Tryz.prog 135 [t.d] (.tup [.str (b8 t).1,dI (b8 t).2]):=by
 refine aN (aI (cfg:=⟨fun t=>t==5||t==8,fun _=>[]⟩) Tz.mixed Tryz.func135 rfl rfl (aF rfl) (by kernel_rfl) ?_)
 simp [go_sem,seval,dI,Types.d,Types.c]
 intro hlen
 refine aP (fun h0=>?_) (fun h0=>?_)
 ·simp at h0
  simp [go_sem,seval,b8,h0]
 ·simp at h0
  simp [go_sem,seval]
  intro _ _
  refine aP (fun hb=>?_) (fun hb=>?_)
  ·have hb':12<t.nodes.length∨20<t.edges.length:=by simp at hb;omega
   simp [go_sem,seval,b8,h0,hb']
  ·have hb':¬ (12<t.nodes.length∨20<t.edges.length):=by simp at hb;omega
   have e:b8 t=dS (f5 t) t.nodeName (dS (iW t) t.edgeName (⟨#[]⟩,0) 0 t.edges.length) 0 t.nodes.length:=by simp [b8,h0,hb']
   simp [go_sem,seval]
   intro _
   refine eX (ι:=Nat) (fun i e H=>i≤t.nodes.length∧e 1=.adr t.c∧e 27=.list (t.nodes.map NodeTy.c)∧e 28=dI t.nodes.length∧e 29=dI i∧(∀ j,j<i→f5 t j=0) ∧
    dS (f5 t) t.nodeName (dS (iW t) t.edgeName (⟨#[]⟩,0) 0 t.edges.length) i (t.nodes.length - i)=b8 t) (fun i=>t.nodes.length - i) 0 (by simp [go_sem,seval,dI,Types.c,e]) ?_
   intro i e' H ⟨hi,h1,h27,h28,h29,hz,hF⟩
   simp [go_sem,seval,h1,h27,h28,h29,dI,Types.c]
   refine fB (fun hlt=>?_) (fun hge=>?_)
   ·simp [go_sem,seval,h1,h27,h28,h29,dI,Types.c,NodeTy.c,hlt]
    have hnd:=KX t ht i hlt (fun j n hj hn=>tW t j n (hz j hj) hn)
    simp only [Types.d,Types.c,dI] at hnd
    have hstep:dS (f5 t) t.nodeName (dS (iW t) t.edgeName (⟨#[]⟩,0) 0 t.edges.length) i (t.nodes.length - i) =
      if f5 t i≠0 then (t.nodeName i,f5 t i) else dS (f5 t) t.nodeName (dS (iW t) t.edgeName (⟨#[]⟩,0) 0 t.edges.length) (i+1) (t.nodes.length - (i+1)):=by
     rw [show t.nodes.length - i=t.nodes.length - (i+1)+1 by omega,dS]
    rw [hstep] at hF
    refine aB hnd (by simp [D.clL,D.cl,sV,s6]) ?_
    simp [go_sem,seval]
    refine aP (fun hc=>?_) (fun hc=>?_)
    ·have hc':f5 t i≠0:=by simpa using hc
     rw [if_pos hc'] at hF
     simp [go_sem,seval,← hF,Types.nodeName,aA hlt]
    ·have hc':¬ f5 t i≠0:=by simpa using hc
     rw [if_neg hc'] at hF
     simp [go_sem,seval,h1,h27,h28,h29,dI,Types.c]
     refine ⟨cG (by omega) (by omega),i+1,by omega,by omega,by omega,fun j hj=>?_,hF⟩
     rcases bN j i with hj'|hj'
     ·exact hz j hj'
     ·have:j=i:=by omega
      subst this;simpa using hc'
   ·simp [go_sem,seval,h1,h27,h28,h29,dI,Types.c]
    intro _
    rw [show t.nodes.length - i=0 by omega] at hF
    simp only [dS] at hF
    refine eX (ι:=Nat) (fun i e H=>i≤t.edges.length∧e 1=.adr t.c∧e 44=.list (t.edges.map EdgeTy.c)∧e 45=dI t.edges.length∧e 46=dI i ∧
     dS (iW t) t.edgeName (⟨#[]⟩,0) i (t.edges.length - i)=b8 t) (fun i=>t.edges.length - i) 0 (by simp [go_sem,seval,h1,dI,Types.c,hF]) ?_
    intro i e' H ⟨hi,h1,h44,h45,h46,hF⟩
    simp [go_sem,seval,h1,h44,h45,h46,dI,Types.c]
    refine fB (fun hlt=>?_) (fun hge=>?_)
    ·simp [go_sem,seval,h1,h44,h45,h46,dI,Types.c,EdgeTy.c,hlt]
     have hnd:=KZ t ht i hlt
     simp only [Types.d,Types.c,dI] at hnd
     have hstep:dS (iW t) t.edgeName (⟨#[]⟩,0) i (t.edges.length - i) =
       if iW t i≠0 then (t.edgeName i,iW t i) else dS (iW t) t.edgeName (⟨#[]⟩,0) (i+1) (t.edges.length - (i+1)):=by
      rw [show t.edges.length - i=t.edges.length - (i+1)+1 by omega,dS]
     rw [hstep] at hF
     refine aB hnd (by simp [D.clL,D.cl,sV,s6]) ?_
     simp [go_sem,seval]
     refine aP (fun hc=>?_) (fun hc=>?_)
     ·have hc':iW t i≠0:=by simpa using hc
      rw [if_pos hc'] at hF
      simp [go_sem,seval,← hF,Types.edgeName,aA hlt]
     ·have hc':¬ iW t i≠0:=by simpa using hc
      rw [if_neg hc'] at hF
      simp [go_sem,seval,h1,h44,h45,h46,dI,Types.c]
      exact ⟨cG (by omega) (by omega),i+1,by omega,by omega,by omega,hF⟩
    ·rw [show t.edges.length - i=0 by omega] at hF
     simp only [dS] at hF
     simp [go_sem,seval,← hF]
theorem Aa (c:Int):Pure Tryz.prog 412 [.int .u8 c] (.bool (g8 c)):=by
 refine aN (aI (cfg:=⟨fun _=>false,fun _=>[]⟩) Tz.mixed Tryz.func412 rfl rfl (aF rfl) (by kernel_rfl) ?_)
 simp [go_sem,seval,g8,D.cl]
 try omega
theorem rC (c:Int):Pure Tryz.prog 413 [.int .u8 c] (.bool (i9 c)):=by
 refine aN (aI (cfg:=⟨fun _=>false,fun _=>[]⟩) Tz.mixed Tryz.func413 rfl rfl (aF rfl) (by kernel_rfl) ?_)
 simp [go_sem,seval,i9,D.cl]
def sH (digits:Bool)(c:Int):Bool:=i9 c||(!digits&&(g8 c||c==95))
theorem NJ (s:ByteArray)(dg:Bool)(hs:s.size≤1000000):Pure Tryz.prog 414 [.str s,dI 0,.bool dg] (dI (fL (sH dg) s)):=by
 refine aN (aI (cfg:=⟨fun _=>false,fun _=>[]⟩) Tz.mixed Tryz.func414 rfl rfl (aF rfl) (by kernel_rfl) ?_)
 simp [go_sem,seval,dI]
 refine eX (ι:=Nat) (fun n e H=>H=.emp∧n≤s.size∧e 0=.str s∧e 1=dI 0∧e 2=.bool dg∧e 7=dI n∧(∀ j,j<n→sH dg (uE s j)=true)) (fun n=>s.size - n) 0 (by simp [go_sem,seval,dI]) ?_
 intro n e H ⟨hH,hn,h0,h1,h2,h7,hp⟩
 subst hH
 have hb:((s.data[n]?.getD 0).toNat:Int)=uE s n:=rfl
 simp [go_sem,seval,h0,h1,h2,h7,dI,hb]
 refine ⟨cG (by omega) (by omega),fun _=>cG (by omega) (by omega),aG (fun _=>rC _) (fun _=>rfl) ?_⟩
 simp [go_sem,seval,h0,h1,h2,h7,dI,hb]
 refine ⟨fun _ _ _=>cG (by omega) (by omega),fun h _ _=>h,aG (fun _=>Aa _) (fun _=>rfl) ?_⟩
 simp [go_sem,seval,h0,h1,h2,h7,dI,hb]
 refine ⟨fun _ _ _ _=>cG (by omega) (by omega),fun h _ _ _=>h,fun a b c d=>⟨⟨⟨a,b⟩,c⟩,d⟩,fun a b c=>⟨⟨a,b⟩,c⟩,fun a b=>⟨a,b⟩,aP (fun h=>?_) (fun h=>?_)⟩
 ·have hr:n<s.size∧sH dg (uE s n)=true:=by simpa [sH] using h
  simp [go_sem,seval,h0,h1,h2,h7,dI]
  refine ⟨cG (by omega) (by omega),n+1,by omega,by omega,by omega,fun j hj=>?_⟩
  rcases bN j n with hj'|hj'
  ·exact hp j hj'
  ·have:j=n:=by omega
   subst this;exact hr.2
 ·have hr:n<s.size→sH dg (uE s n)=false:=by
   intro hlt
   simp [hlt] at h
   simp [sH]
   exact h
  simp [go_sem,seval,h0,h1,h2,h7,dI]
  rw [Gf _ s n hp hn hr]
theorem GT (p : Nat → Bool) (n : Nat) : ∀ d k, k + d = n → (∀ j, 1 ≤ j → j < k → p j = true) → 1 ≤ k → ∃ k, 1 ≤ k ∧ k ≤ n ∧ (∀ j, 1 ≤ j → j < k → p j = true) ∧ (k < n → p k = false)
  | 0, k, h, hp, h1 => ⟨k, h1, by omega, hp, fun h => by omega⟩
  | d + 1, k, h, hp, h1 => by
    cases hk : p k with
    | false => exact ⟨k, h1, by omega, hp, fun _ => hk⟩
    | true =>
      refine GT p n d (k + 1) (by omega) (fun j hj hlt => ?_) (by omega)
      rcases bN j k with h | h
      · exact hp j hj h
      · have : j = k := by omega
        subst this; exact hk
theorem HR (s:ByteArray)(h1:1≤s.size)(hs:s.size≤1000000):∃ n:Int,0≤n∧n≠1∧n≤s.size∧Pure Tryz.prog 415 [.str s,dI 0] (dI n):=by
 obtain ⟨k,hk1,hk2,hk3,hk4⟩:=GT (fun j=>mR (uE s j)) s.size (s.size - 1) 1 (by omega) (fun j h h'=>by omega) (by omega)
 refine ⟨if k<s.size∧uE s k=34 then k+1 else 0,by split<;>omega,by split<;>omega,by split<;>omega,aN (aI (cfg:=⟨fun _=>false,fun _=>[]⟩) Tz.mixed Tryz.func415 rfl rfl (aF rfl) (by kernel_rfl) ?_)⟩
 simp [go_sem,seval,dI]
 refine eX (ι:=Nat) (fun n e H=>H=.emp∧1≤n∧n≤k∧e 0=.str s∧e 1=dI 0∧e 5=dI n) (fun n=>s.size - n) 1 (by simp [go_sem,seval,dI];omega) ?_
 intro n e H ⟨hH,hn1,hn,h0,h1,h5⟩
 subst hH
 have hb:((s.data[n]?.getD 0).toNat:Int)=uE s n:=rfl
 simp [go_sem,seval,h0,h1,h5,dI,hb]
 refine ⟨cG (by omega) (by omega),aP (fun hlt=>?_) (fun hge=>?_)⟩
 ·simp at hlt
  simp [go_sem,seval,h0,h1,h5,dI,hb]
  refine ⟨cG (by omega) (by omega),hlt,aP (fun hq=>?_) (fun hq=>?_)⟩
  ·simp at hq
   have hnk:n=k:=by
    rcases bN n k with h|h
    ·have:=hk3 n hn1 h;simp [mR,hq] at this
    ·omega
   subst hnk
   simp [go_sem,seval,h0,h1,h5,dI]
   exact ⟨cG (by omega) (by omega),fun h=>absurd hq (h hlt)⟩
  ·simp at hq
   simp [go_sem,seval,h0,h1,h5,dI]
   refine aP (fun hc=>?_) (fun hc=>?_)
   ·simp at hc
    have hnk:n=k:=by
     rcases bN n k with h|h
     ·have:=hk3 n hn1 h;simp [mR] at this;omega
     ·omega
    subst hnk
    simp [go_sem,seval,h0,h1,h5,dI]
    omega
   ·simp at hc
    have hnk:n<k:=by
     rcases bN n k with h|h
     ·exact h
     ·have hh:n=k:=by omega
      subst hh
      have:=hk4 hlt;simp [mR] at this;omega
    simp [go_sem,seval,h0,h1,h5,dI]
    exact ⟨cG (by omega) (by omega),n+1,by omega,by omega,by omega,by omega⟩
 ·simp at hge
  simp [go_sem,seval,h0,h1,h5,dI]
  omega
def signs:List ByteArray:=Gp++[⟨#[123]⟩,⟨#[125]⟩,⟨#[40]⟩,⟨#[41]⟩,⟨#[91]⟩,⟨#[93]⟩,⟨#[44]⟩,⟨#[59]⟩,⟨#[58]⟩,⟨#[61]⟩,⟨#[43]⟩,⟨#[45]⟩,⟨#[42]⟩,⟨#[60]⟩,⟨#[62]⟩,⟨#[33]⟩,⟨#[38]⟩,⟨#[124]⟩,⟨#[46]⟩,⟨#[63]⟩]
theorem JH:Pure Tryz.prog 416 [] (qV signs):=by
 refine aN (aI (cfg:=⟨fun _=>false,fun _=>[]⟩) Tz.mixed Tryz.func416 rfl rfl (aF rfl) (by kernel_rfl) ?_)
 simp [go_sem,seval,qV,cS,Gp,signs]
theorem DU (s:ByteArray):Pure Tryz.prog 358 [.agg [dI 1,.str s,dI 0]] (.str s):=by
 refine aN (aI (cfg:=⟨fun _=>false,fun _=>[]⟩) Tz.mixed Tryz.func358 rfl rfl (aF rfl) (by kernel_rfl) ?_)
 simp [go_sem,seval,dI]
theorem Lg:sH false=mT:=by
 funext c
 simp [sH,mT,Bool.or_assoc,Bool.or_comm,Bool.or_left_comm]
def tN (s l:ByteArray):Bool:=decide ((l.size:Int)≤s.size)&&decide (s.extract 0 l.size=l)
def xL (q : Int) (s : ByteArray) : Int × ByteArray × Int × Int :=
  if (g8 (uE s 0) || i9 (uE s 0)) = true then
    (if i9 (uE s 0) = true then (if 9 < fL (sH true) s then (0, ⟨#[]⟩, 0, 3) else (2, s.extract 0 (fL (sH true) s), fL (sH true) s, 0))
     else (if 20 < fL (sH false) s then (0, ⟨#[]⟩, 0, 3) else (1, s.extract 0 (fL (sH false) s), fL (sH false) s, 0)))
  else if uE s 0 = 34 then
    (if q = 0 then (0, ⟨#[]⟩, 0, 2) else if 60 < q - 2 then (0, ⟨#[]⟩, 0, 3) else (3, s.extract 1 (q - 1).toNat, q, 0))
  else match signs.find? (tN s) with
    | some l => (4, l, l.size, 0)
    | none => (0, ⟨#[]⟩, 0, 2)
theorem NK (s:ByteArray)(h1:1≤s.size)(hs:s.size≤100000)(q:Int)(hq0:0≤q)(hq1:q≠1)(hq2:q≤s.size)(hq:Pure Tryz.prog 415 [.str s,dI 0] (dI q)) :
  Pure Tryz.prog 359 [.str s,dI 0] (.tup [.agg [dI (xL q s).1,.str (xL q s).2.1,dI 0],dI (xL q s).2.2.1,dI (xL q s).2.2.2]):=by
 have hb:((s.data[0]?.getD 0).toNat:Int)=uE s 0:=rfl
 refine aN (aI (cfg:=⟨fun t=>t==4,fun r=>match r with|22=>[(7,10),(8,10),(9,10)]|_=>[]⟩) Tz.mixed Tryz.func359 rfl rfl (aF rfl) (by kernel_rfl) ?_)
 simp [go_sem,seval,dI,hb]
 refine ⟨by omega,aB (Aa _) rfl ?_⟩
 simp [go_sem,seval,dI]
 refine aG (fun _=>rC _) (fun _=>rfl) ?_
 simp [go_sem,seval,dI]
 refine aP (fun hld=>?_) (fun hld=>?_)
 ·simp [go_sem,seval]
  refine aB (rC _) rfl ?_
  simp [go_sem,seval]
  refine aB (NJ s _ (by omega)) rfl ?_
  simp [go_sem,seval,dI]
  refine aB (rC _) rfl ?_
  simp [go_sem,seval]
  refine aP (fun hd=>?_) (fun hd=>?_)
  ·simp [go_sem,seval]
   rw [hd]
   have hr:=A7 (sH true) s
   refine aP (fun h=>?_) (fun h=>?_)
   ·simp at h
    simp [go_sem,seval,xL,hd,show 9<fL (sH true) s by omega]
   ·simp at h
    simp [go_sem,seval,xL,hd,show ¬ 9<fL (sH true) s by omega]
    exact ⟨cG (by omega) (by omega),by omega⟩
  ·have hd':i9 (uE s 0)=false:=by simpa using hd
   simp [go_sem,seval]
   rw [hd']
   have hr:=A7 (sH false) s
   have hl:g8 (uE s 0)=true:=by simpa [hd'] using hld
   refine aP (fun h=>?_) (fun h=>?_)
   ·simp at h
    simp [go_sem,seval,xL,hd',hl,show 20<fL (sH false) s by omega]
   ·simp at h
    simp [go_sem,seval,xL,hd',hl,show ¬ 20<fL (sH false) s by omega]
    exact ⟨cG (by omega) (by omega),by omega⟩
 ·have hld':¬ (g8 (uE s 0)||i9 (uE s 0))=true:=by simp at hld;simp [hld]
  simp [go_sem,seval]
  refine aP (fun h34=>?_) (fun h34=>?_)
  ·simp at h34
   simp [go_sem,seval]
   refine aB hq rfl ?_
   simp [go_sem,seval,dI]
   have e:xL q s=(if q=0 then (0,⟨#[]⟩,0,2) else if 60<q - 2 then (0,⟨#[]⟩,0,3) else (3,s.extract 1 (q - 1).toNat,q,0)):=by
    unfold xL;rw [if_neg hld',if_pos h34]
   rw [e]
   refine aP (fun hz=>?_) (fun hz=>?_)
   ·simp at hz
    simp [go_sem,seval,hz]
   ·simp at hz
    simp [go_sem,seval,hz]
    refine ⟨cG (by omega) (by omega),fB (fun h6=>?_) (fun h6=>?_)⟩
    ·simp [go_sem,seval,h6]
    ·simp [go_sem,seval,h6]
     exact ⟨cG (by omega) (by omega),cG (by omega) (by omega),cG (by omega) (by omega),by omega,by omega⟩
  ·simp at h34
   simp [go_sem,seval]
   refine aB JH rfl ?_
   simp [go_sem,seval,dI]
   have e:xL q s=(match signs.find? (tN s) with|some l=>(4,l,l.size,0)|none=>(0,⟨#[]⟩,0,2)):=by
    unfold xL;rw [if_neg hld',if_neg h34]
   rw [e]
   refine eX (ι:=Nat) (fun n e H=>(∃ ty,H.get 0=some ⟨ty,3,[[dI 0,.str ⟨#[]⟩,dI 0]],false⟩)∧n≤signs.length∧e 0=.str s∧e 1=dI 0∧e 4=.ptr 0 1 0 0∧e 12=qV signs∧e 13=dI n∧(∀ j l,j<n→signs[j]?=some l→tN s l=false)) (fun n=>signs.length - n) 0 (by simp [go_sem,seval,dI]) ?_
   intro n e H ⟨⟨ty,hH⟩,hn,h0,h1',h4,h12,h13,hp⟩
   simp [go_sem,seval,h0,h1',h4,h12,h13,dI,hH,qV]
   intro hlen
   refine fB (fun hlt=>?_) (fun hge=>?_)
   ·simp [go_sem,seval,h0,h1',h4,h12,h13,dI,hH,qV,hlt,cS]
    have hz2:signs[n].size≤2:=(show ∀ l∈signs,l.size≤2 by decide) _ (aC hlt)
    refine ⟨cG (by omega) (by omega),fun _=>cG (by omega) (by omega),aP (fun hc=>?_) (fun hc=>?_)⟩
    ·have hs1:tN s signs[n]=true:=by simpa [tN] using hc
     have hf:signs.find? (tN s)=some signs[n]:=by
      rw [List.find?_eq_some_iff_getElem]
      refine ⟨hs1,n,hlt,rfl,fun j hj=>?_⟩
      simpa using hp j _ hj (aA (by omega))
     simp [go_sem,seval,h0,h1',h4,h12,h13,dI,hH,qV,hlt,cS,hf]
    ·have hs1:tN s signs[n]=false:=by simpa [tN] using hc
     simp [go_sem,seval,h0,h1',h4,h12,h13,dI,hH,qV]
     have hsl:signs.length=25:=rfl
     refine ⟨cG (by omega) (by omega),n+1,by omega,by omega,by omega,fun j l hj hl=>?_⟩
     rcases bN j n with hj'|hj'
     ·exact hp j l hj' hl
     ·have:j=n:=by omega
      subst this
      rw [aA hlt] at hl
      cases hl;exact hs1
   ·simp [go_sem,seval,h0,h1',h4,h12,h13,dI,hH,qV]
    have:signs.find? (tN s)=none:=by
     rw [List.find?_eq_none]
     intro x hx
     obtain ⟨j,hj,rfl⟩:=aO hx
     simpa using hp j _ (by omega) (aA hj)
    simp [this]
theorem OZ (s:ByteArray)(hz:¬ s.size=0)(q:Int):(decide ((xL q s).2.2.2=0)&&(xL q s).2.2.1==(s.size:Int)&&(xL q s).1==1)=kF s:=by
 unfold xL kF
 by_cases hl:g8 (uE s 0)=true
 ·have hdg:i9 (uE s 0)=false:=by simp [g8,i9] at *;omega
  rw [if_pos (by simp [hl])]
  simp only [hdg,hl,Lg]
  by_cases h:20<fL mT s
  ·simp [h];intros;omega
  ·simp [h,hz,show fL mT s≤20 by omega]
   rw [aQ];simp;omega
 ·have hl':g8 (uE s 0)=false:=by simpa using hl
  simp only [hl']
  repeat' split
  all_goals first|(simp;done)|(simp_all;done)
theorem JI (s:ByteArray)(hs:s.size≤100000):Pure Tryz.prog 286 [.agg [dI 1,.str s,dI 0]] (.bool (kF s)):=by
 by_cases hz:s.size=0
 ·refine aN (aI (cfg:=⟨fun t=>t==4,fun _=>[]⟩) Tz.mixed Tryz.func286 rfl rfl (aF rfl) (by kernel_rfl) ?_)
  simp [go_sem,seval,dI]
  refine aB (DU s) rfl ?_
  simp [go_sem,seval,dI]
  refine aP (fun h=>?_) (fun h=>?_)
  ·simp [go_sem,seval,kF,hz]
  ·simp [n5,hz] at h
 ·obtain ⟨q,hq0,hq1,hq2,hq⟩:=HR s (by omega) (by omega)
  refine aN (aI (cfg:=⟨fun t=>t==4,fun _=>[]⟩) Tz.mixed Tryz.func286 rfl rfl (aF rfl) (by kernel_rfl) ?_)
  simp [go_sem,seval,dI]
  refine aB (DU s) rfl ?_
  simp [go_sem,seval,dI]
  refine aP (fun h=>?_) (fun h=>?_)
  ·simp [n5,hz] at h
  ·simp [go_sem,seval]
   refine aB (NK s (by omega) hs q hq0 hq1 hq2 hq) rfl ?_
   simp [go_sem,seval,dI]
   exact OZ s hz q
theorem mO (s:ByteArray)(hs:s.size≤100000):Pure Tryz.prog 210 [.str s] (.bool (kF s)):=by
 refine aN (aI (cfg:=⟨fun _=>false,fun _=>[]⟩) Tz.mixed Tryz.func210 rfl rfl (aF rfl) (by kernel_rfl) ?_)
 simp [go_sem,seval,dI]
 refine aB (JI s hs) rfl ?_
 simp [go_sem,seval,dI]
@[go_sem] theorem n7 (l:List Int):D.clLL (l.map cI)=true:=cQ cI (fun _=>rfl) l
@[go_sem] theorem Bo (l:List Edge):D.clLL (l.map Edge.c)=true:=cQ _ Edge.cl l
theorem FH (xs:List Int)(g:FuncId)(caps:List D)(p:Int→Bool)(hc:D.clL caps=true)(hg:∀ x∈xs,Pure Tryz.prog g (.int .i64 x :: caps) (.bool (p x))) :
  Pure Tryz.prog 355 [.list (xs.map cI),.fn g caps] (dI (Bl xs p)):=by
 refine aN (aI (cfg:=⟨fun _=>false,fun _=>[]⟩) Tz.mixed Tryz.func355 rfl rfl (aF rfl) (by kernel_rfl) ?_)
 simp [go_sem,seval,dI,dLI]
 intro hlen
 refine eX (ι:=Nat) (fun i e H=>H=.emp∧i≤xs.length∧e 0=.list (xs.map cI)∧e 1=.fn g caps∧e 7=dI xs.length∧e 8=dI i∧(∀ j x,j<i→xs[j]?=some x→p x=false)) (fun i=>xs.length - i) 0 (by simp [go_sem,seval,dI,dLI]) ?_
 intro i e H ⟨hH,hi,h0,h1,h7,h8,hn⟩
 subst hH
 simp [go_sem,seval,h0,h1,h7,h8,dI,dLI]
 refine fB (fun hlt=>?_) (fun hge=>?_)
 ·have hgx:=hg xs[i] (aC hlt)
  simp [go_sem,seval,h0,h1,h7,h8,dI,dLI,hlt,cI] at hgx ⊢
  refine aB hgx (by simp [go_sem,hc]) ?_
  simp [go_sem,seval,h0,h1,h7,h8,dI,dLI]
  refine aP (fun h=>?_) (fun h=>?_)
  ·simp [go_sem,seval,h0,h1,h7,h8,dI,dLI]
   rw [nO hn hlt h]
  ·simp [go_sem,seval,h0,h1,h7,h8,dI,dLI]
   refine ⟨cG (by omega) (by omega),i+1,by omega,by omega,by omega,fun j x hj hx=>?_⟩
   rcases bN j i with hj'|hj'
   ·exact hn j x hj' hx
   ·have:j=i:=by omega
    subst this
    rw [aA hlt] at hx
    cases hx;exact h
 ·simp [go_sem,seval,h0,h1,h7,h8,dI,dLI]
  rw [nP fun j x hj=>hn j x (by omega)]
theorem fI (xs:List Int)(g:FuncId)(caps:List D)(p:Int→Bool)(hc:D.clL caps=true)(hl:D.cl (.list (xs.map cI))=true)(hg:∀ x∈xs,Pure Tryz.prog g (.int .i64 x :: caps) (.bool (p x))) :
  Pure Tryz.prog 281 [.list (xs.map cI),.fn g caps] (.bool (xs.any p)):=by
 refine aN (aI (cfg:=⟨fun _=>false,fun _=>[]⟩) Tz.mixed Tryz.func281 rfl rfl (aF rfl) (by kernel_rfl) ?_)
 simp [go_sem,seval]
 refine aB (FH xs g caps p hc hg) (by simp only [D.clL,hl,fQ];simp [D.cl,hc]) ?_
 simp [go_sem,seval,dI,qB]
theorem CI (xs:List Edge)(g:FuncId)(caps:List D)(p:Edge→Bool)(hc:D.clL caps=true)(hg:∀ x∈xs,Pure Tryz.prog g (.agg x.c :: caps) (.bool (p x))) :
  Pure Tryz.prog 369 [.list (xs.map Edge.c),.fn g caps] (dI (Bl xs p)):=by
 refine aN (aI (cfg:=⟨fun _=>false,fun _=>[]⟩) Tz.mixed Tryz.func369 rfl rfl (aF rfl) (by kernel_rfl) ?_)
 simp [go_sem,seval,dI,dLI]
 intro hlen
 refine eX (ι:=Nat) (fun i e H=>H=.emp∧i≤xs.length∧e 0=.list (xs.map Edge.c)∧e 1=.fn g caps∧e 7=dI xs.length∧e 8=dI i∧(∀ j x,j<i→xs[j]?=some x→p x=false)) (fun i=>xs.length - i) 0 (by simp [go_sem,seval,dI,dLI]) ?_
 intro i e H ⟨hH,hi,h0,h1,h7,h8,hn⟩
 subst hH
 simp [go_sem,seval,h0,h1,h7,h8,dI,dLI]
 refine fB (fun hlt=>?_) (fun hge=>?_)
 ·have hgx:=hg xs[i] (aC hlt)
  simp [go_sem,seval,h0,h1,h7,h8,dI,dLI,hlt,Edge.c] at hgx ⊢
  refine aB hgx (by simp [go_sem,hc]) ?_
  simp [go_sem,seval,h0,h1,h7,h8,dI,dLI]
  refine aP (fun h=>?_) (fun h=>?_)
  ·simp [go_sem,seval,h0,h1,h7,h8,dI,dLI]
   rw [nO hn hlt h]
  ·simp [go_sem,seval,h0,h1,h7,h8,dI,dLI]
   refine ⟨cG (by omega) (by omega),i+1,by omega,by omega,by omega,fun j x hj hx=>?_⟩
   rcases bN j i with hj'|hj'
   ·exact hn j x hj' hx
   ·have:j=i:=by omega
    subst this
    rw [aA hlt] at hx
    cases hx;exact h
 ·simp [go_sem,seval,h0,h1,h7,h8,dI,dLI]
  rw [nP fun j x hj=>hn j x (by omega)]
theorem j7 (xs:List Edge)(g:FuncId)(caps:List D)(p:Edge→Bool)(hc:D.clL caps=true)(hl:D.cl (.list (xs.map Edge.c))=true)(hg:∀ x∈xs,Pure Tryz.prog g (.agg x.c :: caps) (.bool (p x))) :
  Pure Tryz.prog 306 [.list (xs.map Edge.c),.fn g caps] (.bool (xs.any p)):=by
 refine aN (aI (cfg:=⟨fun _=>false,fun _=>[]⟩) Tz.mixed Tryz.func306 rfl rfl (aF rfl) (by kernel_rfl) ?_)
 simp [go_sem,seval]
 refine aB (CI xs g caps p hc hg) (by simp only [D.clL,hl,fQ];simp [D.cl,hc]) ?_
 simp [go_sem,seval,dI,qB]
def gG (n m:Int):Bool:=decide (0≤n)&&decide (n≤m)
theorem As (n m:Int):Pure Tryz.prog 320 [dI n,dI m] (.bool (gG n m)):=by
 refine aN (aI (cfg:=⟨fun _=>false,fun _=>[]⟩) Tz.mixed Tryz.func320 rfl rfl (aF rfl) (by kernel_rfl) ?_)
 simp [go_sem,seval,dI,gG]
def rK (x:Edge)(n:Int):Bool:=gG x.type 99&&gG x.from_ (n - 1)&&gG x.to_ (n - 1)
theorem LV (x:Edge)(n:Int)(h0:0≤n)(h1:n≤1000000):Pure Tryz.prog 322 [.agg x.c,dI n] (.bool (rK x n)):=by
 have hw:∀ a b:Int,Pure Tryz.prog 320 [.int .i64 a,.int .i64 b] (.bool (gG a b)):=As
 refine aN (aI (cfg:=⟨fun _=>false,fun _=>[]⟩) Tz.mixed Tryz.func322 rfl rfl (aF rfl) (by kernel_rfl) ?_)
 simp [go_sem,seval,dI,Edge.c]
 refine aB (hw _ _) rfl ?_
 simp [go_sem,seval,dI,Edge.c]
 refine ⟨fun _=>cG (by omega) (by omega),aG (fun _=>hw _ _) (fun _=>rfl) ?_⟩
 simp [go_sem,seval,dI,Edge.c]
 refine ⟨fun _ _=>cG (by omega) (by omega),aG (fun _=>hw _ _) (fun _=>rfl) ?_⟩
 simp [go_sem,seval,rK]
theorem Ib (n:Int):Pure Tryz.prog 319 [.int .i64 n] (.bool (!gG n 99)):=by
 have hw:∀ a b:Int,Pure Tryz.prog 320 [.int .i64 a,.int .i64 b] (.bool (gG a b)):=As
 refine aN (aI (cfg:=⟨fun _=>false,fun _=>[]⟩) Tz.mixed Tryz.func319 rfl rfl (aF rfl) (by kernel_rfl) ?_)
 simp [go_sem,seval,dI]
 refine aB (hw _ _) rfl ?_
 simp [go_sem,seval]
theorem Ia (g:Graph)(hg:g.nodes.length≤1000000)(x:Edge):Pure Tryz.prog 321 [.agg x.c,.adr g.c] (.bool (!rK x g.nodes.length)):=by
 have hf:=LV x g.nodes.length (by omega) (by omega)
 simp only [Edge.c,dI] at hf
 refine aN (aI (cfg:=⟨fun _=>false,fun _=>[]⟩) Tz.mixed Tryz.func321 rfl rfl (aF rfl) (by kernel_rfl) ?_)
 simp [go_sem,seval,dI,Edge.c,Graph.c,dLI]
 intro _
 refine aB hf rfl ?_
 simp [go_sem,seval]
def graphF (g:Graph):Int :=
 if 40<g.nodes.length∨80<g.edges.length then 3
 else if (g.nodes.any fun n=>!gG n 99)=true then 6
 else if (g.edges.any fun x=>!rK x g.nodes.length)=true then 6
 else 0
theorem kW (g:Graph):Pure Tryz.prog 227 [g.d] (dI (graphF g)):=by
 refine aN (aI (cfg:=⟨fun _=>false,fun _=>[]⟩) Tz.mixed Tryz.func227 rfl rfl (aF rfl) (by kernel_rfl) ?_)
 simp [go_sem,seval,dI,Graph.d,Graph.c,dLI]
 intro _ _
 refine aP (fun h=>?_) (fun h=>?_)
 ·have h':40<g.nodes.length∨80<g.edges.length:=by simp at h;omega
  simp [go_sem,seval,graphF,h']
 ·have h':¬ (40<g.nodes.length∨80<g.edges.length):=by simp at h;omega
  have h1:=fI g.nodes 319 [] (fun n=>!gG n 99) rfl (by simp [D.cl,n7]) (fun n _=>Ib n)
  have h2:=j7 g.edges 321 [.adr g.c] (fun x=>!rK x g.nodes.length) (by simp [D.clL,D.cl,Graph.c,n7,Bo,dLI]) (by simp [D.cl,Bo]) (fun x _=>Ia g (by omega) x)
  simp only [Graph.c,dLI] at h2
  simp [go_sem,seval]
  refine aB h1 (by simp [D.clL,D.cl,n7]) ?_
  simp [go_sem,seval]
  refine aP (fun ha=>?_) (fun ha=>?_)
  ·have e:graphF g=6:=by unfold graphF;rw [if_neg h',if_pos ha]
   simp [go_sem,seval,e]
  ·simp [go_sem,seval]
   refine aB h2 (by simp [D.clL,D.cl,n7,Bo]) ?_
   simp [go_sem,seval]
   refine aP (fun hb=>?_) (fun hb=>?_)
   ·have e:graphF g=6:=by unfold graphF;rw [if_neg h',if_neg (by rw [ha];simp),if_pos hb]
    simp [go_sem,seval,e]
   ·have e:graphF g=0:=by unfold graphF;rw [if_neg h',if_neg (by rw [ha];simp),if_neg (by rw [hb];simp)]
    simp [go_sem,seval,e]
theorem DS (n:Int):Pure Tryz.prog 267 [.int .i64 n] (.bool (gG n 99)):=by
 refine aN (aI (cfg:=⟨fun _=>false,fun _=>[]⟩) Tz.mixed Tryz.func267 rfl rfl (aF rfl) (by kernel_rfl) ?_)
 simp [go_sem,seval,gG]
theorem JD (x:Edge)(n:Int):Pure Tryz.prog 268 [.agg x.c,.int .i64 n] (.bool (rK x n)):=by
 refine aN (aI (cfg:=⟨fun _=>false,fun _=>[]⟩) Tz.mixed Tryz.func268 rfl rfl (aF rfl) (by kernel_rfl) ?_)
 simp [go_sem,seval,Edge.c,dI]
 refine aB (DS _) rfl ?_
 simp [go_sem,seval,Edge.c,dI,rK,gG]
 rw [aQ];simp;omega
theorem c7 {α:Type}(l:List α)(p:α→Bool)(i:Nat)(hi:i<l.length):(l.take (i+1)).any p=((l.take i).any p||p l[i]):=by
 rw [aE hi,zH];simp
theorem jU (g:Graph):Pure Tryz.prog 174 [g.d] (dI (graphF g)):=by
 refine aN (aI (cfg:=⟨fun _=>false,fun _=>[]⟩) Tz.mixed Tryz.func174 rfl rfl (aF rfl) (by kernel_rfl) ?_)
 simp [go_sem,seval,dI,Graph.d,Graph.c,dLI]
 intro _ _
 refine aP (fun h=>?_) (fun h=>?_)
 ·have h':40<g.nodes.length∨80<g.edges.length:=by simp at h;omega
  simp [go_sem,seval,graphF,h']
 ·have h':¬ (40<g.nodes.length∨80<g.edges.length):=by simp at h;omega
  simp [go_sem,seval]
  refine eX (ι:=Nat) (fun i e H=>i≤g.nodes.length∧e 1=.adr g.c∧e 3=dI i∧((g.nodes.take i).any fun n=>!gG n 99)=false) (fun i=>g.nodes.length - i) 0 (by simp [go_sem,seval,dI,Graph.c,dLI]) ?_
  intro i e H ⟨hi,h1,h3,ha⟩
  simp [go_sem,seval,h1,h3,dI,Graph.c,dLI]
  intro _
  refine fB (fun hlt=>?_) (fun hge=>?_)
  ·simp [go_sem,seval,h1,h3,dI,Graph.c,dLI,hlt,cI]
   refine aB (DS _) rfl ?_
   simp [go_sem,seval]
   refine aP (fun hc=>?_) (fun hc=>?_)
   ·have hany:(g.nodes.any fun n=>!gG n 99)=true:=aW.2 ⟨_,aC hlt,hc⟩
    have e:graphF g=6:=by unfold graphF;rw [if_neg h',if_pos hany]
    simp [go_sem,seval,e]
   ·simp [go_sem,seval,h1,h3,dI,Graph.c,dLI]
    refine ⟨cG (by omega) (by omega),i+1,by omega,by omega,by omega,?_⟩
    have:=c7 g.nodes (fun n=>!gG n 99) i hlt
    rw [ha,hc] at this
    simpa using this
  ·simp [go_sem,seval,h1,h3,dI,Graph.c,dLI]
   have ha':(g.nodes.any fun n=>!gG n 99)=false:=by rw [show i=g.nodes.length by omega,List.take_length] at ha;exact ha
   refine eX (ι:=Nat) (fun k e H=>k≤g.edges.length∧e 1=.adr g.c∧e 4=dI k∧((g.edges.take k).any fun x=>!rK x g.nodes.length)=false) (fun k=>g.edges.length - k) 0 (by simp [go_sem,seval,h1,dI,Graph.c,dLI]) ?_
   intro k e H ⟨hk,h1,h4,hb⟩
   simp [go_sem,seval,h1,h4,dI,Graph.c,dLI]
   intro _
   refine fB (fun hlt=>?_) (fun hge=>?_)
   ·have hr:=JD g.edges[k] g.nodes.length
    simp only [Edge.c,dI] at hr
    simp [go_sem,seval,h1,h4,dI,Graph.c,dLI,hlt,Edge.c]
    refine aK hr rfl ?_
    simp [go_sem,seval]
    refine aP (fun hc=>?_) (fun hc=>?_)
    ·have hany:(g.edges.any fun x=>!rK x g.nodes.length)=true:=aW.2 ⟨_,aC hlt,hc⟩
     have e:graphF g=6:=by unfold graphF;rw [if_neg h',if_neg (by rw [ha'];simp),if_pos hany]
     simp [go_sem,seval,e]
    ·simp [go_sem,seval,h1,h4,dI,Graph.c,dLI]
     refine ⟨cG (by omega) (by omega),k+1,by omega,by omega,by omega,?_⟩
     have:=c7 g.edges (fun x=>!rK x g.nodes.length) k hlt
     rw [hb,hc] at this
     simpa using this
   ·have hb':(g.edges.any fun x=>!rK x g.nodes.length)=false:=by rw [show k=g.edges.length by omega,List.take_length] at hb;exact hb
    have e:graphF g=0:=by unfold graphF;rw [if_neg h',if_neg (by rw [ha'];simp),if_neg (by rw [hb'];simp)]
    simp [go_sem,seval,e]
attribute [go_sem] dI dLI qV cI cS Attr.c NodeTy.c EdgeTy.c Types.c Types.d Edge.c Graph.c Graph.d
theorem zB (a b:List D):D.clL (a++b)=(D.clL a&&D.clL b):=by
 induction a with
 | nil=>simp [D.clL]
 | cons x a ih=>simp [D.clL,ih,jT]
@[go_sem] theorem Q8 (a b:List (List D)):D.clLL (a++b)=(D.clLL a&&D.clLL b):=by
 induction a with
 | nil=>simp [D.clLL]
 | cons x a ih=>simp [D.clLL,ih,jT]
attribute [go_sem] zB
def inF (n low high:Int):Bool:=decide (low≤n)&&decide (n≤high)
theorem lO (n low high:Int):Pure Tryz.prog 214 [dI n,dI low,dI high] (.bool (inF n low high)):=by
 refine Tz.pK ⟨fun _=>false,fun _=>[]⟩ Tryz.func214 rfl (fun Q hQ=>?_)
 have Y:=trivial
 have Y:=wa Y @inF.eq_1
 exact wo (h:=hQ _ _ wy)
theorem JW {l:List ByteArray}{i:Nat}(hi:i<l.length):mem (l.take i) l[i]=true↔∃ j,j<i∧l[j]?=some l[i]:=by
 rw [c6,Ct]
 constructor
 ·rintro ⟨j,hj,he⟩
  have hj':j<l.length:=by omega
  exact ⟨j,by omega,by rw [aA hj',he]⟩
 ·rintro ⟨j,hj,he⟩
  have hj':j<l.length:=by omega
  rw [aA hj'] at he
  exact ⟨j,by omega,by simpa using he⟩
theorem jB {p:Nat→Prop}{k:Nat}(h:∀ j,j<k→p j)(hk:p k):∀ j,j<k+1→p j:=fun j hj=>by
 rcases bN j k with h'|h'
 ·exact h j h'
 ·have:j=k:=by omega
  subst this;exact hk
theorem JE (l:List ByteArray)(hs:∀ s∈l,s.size≤100000):Pure Tryz.prog 354 [qV l] (dI (lW l)):=by
 refine Tz.pK ⟨fun _=>false,fun _=>[]⟩ Tryz.func354 rfl (fun Q hQ=>?_)
 have Y:=trivial
 refine eF (fun h1=>?_) fun h1=>?_
 ·exact wv (h:=hQ _ _ (by simp [go_sem,lW,show 20<l.length by omega]))
 ·refine wv (h:=bA (fun i e H=>(e 0=qV l∧e 3=dI i)∧(i≤l.length)∧(lJ (l.take i) (l.drop i)=lW l)) (fun i=>l.length - i) 0 ⟨wg,wi,(by simp [lW,show ¬ 20<l.length by omega])⟩ fun I0 hI0 i e H hi0=>?_)
  obtain ⟨E0,hi,hn⟩:=hi0
  have Y:=wa Y E0
  refine eF (fun h4=>?_) fun h4=>?_
  ·rw [eE h4] at hn
   have hsz:=hs _ (aC h4)
   have Y:=wa Y h4
   refine wo (h:=aB (mO _ (by assumption)) wl ?_)
   refine eF (fun h6=>?_) fun h6=>?_
   ·exact wv (h:=hQ _ _ (by rw [← hn];simp [go_sem,lJ,h6]))
   ·refine wv (h:=bA (fun k e H=>(e 0=qV l∧e 3=dI i∧e 4=dI k)∧(k≤i)∧(∀ j,j<k→l[j]?≠some l[i])) (fun k=>i - k) 0 ⟨wg,wi,(by intro j hj;omega)⟩ fun I2 hI2 k e H hi2=>?_)
    obtain ⟨E2,hk,hne⟩:=hi2
    have Y:=wa Y E2
    refine c4 (fun h9=>?_) fun h9=>?_
    ·have hkl:k<l.length:=by omega
     have Y:=wa Y (wa h9 hkl)
     refine eF (fun h11=>?_) fun h11=>?_
     ·exact wv (h:=hQ _ _ (by have hm:mem (l.take i) l[i]=true:=(JW h4).2 ⟨k,h9,by rw [aA hkl,h11]⟩;rw [← hn];simp [go_sem,lJ,h6,hm]))
     ·exact wo (h:=wx hI2 (k+1) ⟨wg,wj,(by exact jB hne (by rw [aA hkl];simpa using h11))⟩)
    ·have hm:¬ mem (l.take i) l[i]=true:=fun hm=>by
      obtain ⟨j,hj,he⟩:=(JW h4).1 hm
      exact hne j (by omega) he
     exact wo (h:=wx hI0 (i+1) ⟨wg,wj,(by rw [← hn,lJ,if_neg (by simp [h6]),if_neg hm,aE h4])⟩)
  ·exact wv (h:=hQ _ _ (by rw [← hn,show i=l.length by omega];simp [go_sem,lJ]))
def Cp (x:Attr):Int :=
 if lW x.names≠0 then lW x.names
 else if (if 0<x.names.length then decide (x.low=0)&&decide (x.high=x.names.length - 1) else decide (-1000000≤x.low)&&decide (x.low≤x.high)&&decide (x.high≤1000000))=true then 0 else 6
theorem CE (x:Attr)(hx:x.ok):Pure Tryz.prog 277 [.agg x.c] (dI (Cp x)):=by
 have hfew:=hx.few
 have hz:x.names=[]→lW x.names=0:=fun h=>by rw [h];rfl
 refine Tz.pK ⟨fun _=>false,fun _=>[]⟩ Tryz.func277 rfl (fun Q hQ=>?_)
 have Y:=trivial
 refine eF (fun h1=>?_) fun h1=>?_
 ·have hp:¬ 0<x.names.length:=by simp [h1]
  refine wo (h:=aB (lO _ _ _) wl ?_)
  refine wo (h:=aG (fun hg=>lO _ _ _) (fun hg=>wl) ?_)
  refine eF (fun h2=>?_) fun h2=>?_
  ·exact wv (h:=hQ _ _ (by simp [go_sem,Cp,hz h1,hp];simp [inF] at h2;omega))
  ·exact wv (h:=hQ _ _ (by simp [go_sem,Cp,hz h1,hp];simp [inF] at h2;omega))
 ·have hp:0<x.names.length:=by cases hh:x.names<;>simp_all
  refine wv (h:=aB (JE x.names hx.names) wl ?_)
  refine c4 (fun h6=>?_) fun h6=>?_
  ·exact wv (h:=hQ _ _ (by simp [go_sem,Cp,h6]))
  ·refine eF (fun h8=>?_) fun h8=>?_
   ·exact wv (h:=hQ _ _ (by simp [go_sem,Cp,h6,hp];omega))
   ·exact wv (h:=hQ _ _ (by simp [go_sem,Cp,h6,hp];omega))
theorem Bx (t:Types)(a:Nat)(ha:a<t.nodes.length)(hp:parentsOK t.nodes a) :
  t.attrs a=(if 0≤t.nodes[a].parent then t.attrs t.nodes[a].parent.toNat else [])++t.nodes[a].attrs:=by
 have hpa:=hp a _ (bC _) (aA ha)
 by_cases h':0≤t.nodes[a].parent
 ·have hlt:t.nodes[a].parent.toNat<a:=by omega
  have:=Cn t.nodes t.nodes[a].parent.toNat a (t.nodes[a].parent.toNat+1) (fun j m hj hm=>hp j m (by omega) hm) hlt (by omega)
  simp [Types.attrs,k6,aA ha,h',this]
 ·simp [Types.attrs,k6,aA ha,h']
theorem HQ (t:Types)(a:Int)(ha:a<0):Pure Tryz.prog 125 [t.d,dI a] (.list []):=by
 refine Tz.pK ⟨fun t=>t==7,fun r=>match r with|3=>[(0,1),(0,2),(0,3),(0,5),(0,6),(0,7),(0,8),(0,10),(9,10),(0,11),(9,11),(0,13),(9,13),(0,14),(9,14),(0,15),(9,15)]|_=>[]⟩ Tryz.func125 rfl (fun Q hQ=>?_)
 have Y:=ha
 exact wv (h:=hQ _ _ wy)
theorem B0 (t:Types)(ht:t.ok):∀ a:Nat,a<t.nodes.length→parentsOK t.nodes a→Pure Tryz.prog 125 [t.d,dI a] (.list ((t.attrs a).map Attr.c)):=by
 intro a
 induction a using Nat.strongRecOn with
 | _ a ih =>
 intro ha hp
 have hpa:=hp a _ (bC _) (aA ha)
 have hlen:=qI t.nodes (fun n hn=>(ht.nodes n hn).few) (a+1) a
 have hfew:=ht.fewN
 have e:=Bx t a ha hp
 have hc:Pure Tryz.prog 125 [t.d,dI t.nodes[a].parent] (.list (((if 0≤t.nodes[a].parent then t.attrs t.nodes[a].parent.toNat else [])).map Attr.c)):=by
  by_cases h':0≤t.nodes[a].parent
  ·rw [if_pos h']
   have:=ih t.nodes[a].parent.toNat (by omega) (by omega) (fun j m hj hm=>hp j m (by omega) hm)
   rwa [Int.toNat_of_nonneg h'] at this
  ·rw [if_neg h']
   exact HQ t _ (by omega)
 have hl2:(if 0≤t.nodes[a].parent then t.attrs t.nodes[a].parent.toNat else []).length+t.nodes[a].attrs.length≤2000000:=by
  have h1:(t.attrs a).length≤1000 * (a+1):=hlen
  rw [e,aV] at h1
  omega
 rw [e]
 generalize (if 0≤t.nodes[a].parent then t.attrs t.nodes[a].parent.toNat else [])=u at *
 refine Tz.pK ⟨fun t=>t==7,fun r=>match r with|3=>[(0,1),(0,2),(0,3),(0,5),(0,6),(0,7),(0,8),(0,10),(9,10),(0,11),(9,11),(0,13),(9,13),(0,14),(9,14),(0,15),(9,15)]|_=>[]⟩ Tryz.func125 rfl (fun Q hQ=>?_)
 have Y:=wa (aA ha) (wa ha ((show ¬ ((a:Int)<0) by omega)))
 refine wo (h:=aK (hc) wl ?_)
 exact wo (h:=hQ _ _ wy)
theorem BZ (low high:Int):Pure Tryz.prog 278 [dI low,dI high] (.bool (boundedF low high)):=by
 refine Tz.pK ⟨fun _=>false,fun _=>[]⟩ Tryz.func278 rfl (fun Q hQ=>?_)
 have Y:=trivial
 refine wo (h:=aB (lO _ _ _) wl ?_)
 refine wo (h:=aG (fun hg=>lO _ _ _) (fun hg=>wl) ?_)
 have Y:=wa Y (wa @boundedF.eq_1 @inF.eq_1)
 exact wo (h:=hQ _ _ wy)
theorem rS {α:Type}{l:List α}{p:α→Bool}{k i:Nat}(hk:k<i)(hl:k<l.length)(h:p l[k]=true):(l.take i).any p=true :=
 aW.2 ⟨l[k],Ct.2 ⟨k,by omega,rfl⟩,h⟩
theorem pH {α:Type}{l:List α}{p:α→Bool}{k i:Nat}(h:(l.take k).any p=false)(he:k=i):(l.take i).any p=false:=by rw [← he];exact h
def yI (l:List Attr)(k:Nat):Int:=match l[k]? with|some x=>cY x (l.take k)|none=>0
theorem PC {l:List Attr}{k:Nat}(h:k<l.length):yI l k=if kF l[k].name=false then 2 else if ((l.take k).any fun y=>decide (y.name=l[k].name))=true then 5 else Cp l[k]:=by
 unfold yI;rw [aA h];rfl
theorem d7 (f:Nat→Int){k n:Nat}(h:k<n):bJ f k (n - k)=if f k≠0 then f k else bJ f (k+1) (n - (k+1)):=by
 rw [show n - k=n - (k+1)+1 by omega,bJ]
theorem Ai (t:Types)(i:Nat)(hi:i<t.nodes.length):f5 t i =
  if kF t.nodes[i].name=false then 2
  else if ((t.nodes.take i).any fun m=>decide (m.name=t.nodes[i].name))=true then 5
  else if (decide (t.nodes[i].parent < -1)||decide ((i:Int)≤t.nodes[i].parent))=true then 6
  else if 4<t.nodes[i].attrs.length then 3
  else if 8<(t.attrs i).length then 3
  else bJ (yI (t.attrs i)) ((t.attrs i).length - t.nodes[i].attrs.length) t.nodes[i].attrs.length:=by
 unfold f5;rw [aA hi];rfl
theorem Ly (t:Types)(ht:t.ok)(i:Nat)(hi:i<t.nodes.length)(hp:∀ j n,j<i→t.nodes[j]?=some n→n.parent<j):Pure Tryz.prog 195 [t.d,dI i] (dI (f5 t i)):=by
 have hno:=ht.nodes _ (aC hi)
 have hfew:=ht.fewN
 have hF:=Ai t i hi
 have hok:∀ x∈t.attrs i,x.ok:=tE t.nodes ht.nodes _ _
 have hal:=qI t.nodes (fun n hn=>(ht.nodes n hn).few) (i+1) i
 have hle:t.nodes[i].attrs.length≤(t.attrs i).length:=by simp [Types.attrs,k6,aA hi]
 refine Tz.pK ⟨fun t=>t==5,fun _=>[]⟩ Tryz.func195 rfl (fun Q hQ=>?_)
 have Y:=wa (aA hi) hi
 refine wo (h:=aB (mO _ hno.name) wl ?_)
 refine eF (fun h2=>?_) fun h2=>?_
 ·exact wv (h:=hQ _ _ (.inl (by simp [go_sem,hF,h2])))
 ·refine wv (h:=bA (fun k e H=>(e 1=dI i∧e 2=.adr t.c∧e 5=.ptr 0 1 0 0∧e 6=dI k)∧(H.get 0=some ⟨172,4,[t.nodes[i].c],false⟩)∧(0<H.next)∧(k≤i)∧(((t.nodes.take k).any fun m=>decide (m.name=t.nodes[i].name))=false)) (fun k=>i - k) 0 ⟨wg,wn,wn,wi,(by simp)⟩ fun I0 hI0 k e H hi0=>?_)
  obtain ⟨E0,g0_0,n0_0,hk,hne⟩:=hi0
  have Y:=wa Y (wa E0 (wa g0_0 (bZ n0_0)))
  refine c4 (fun h5=>?_) fun h5=>?_
  ·have hkl:k<t.nodes.length:=by omega
   have Y:=wa Y (wa h5 hkl)
   refine eF (fun h7=>?_) fun h7=>?_
   ·exact wv (h:=hQ _ _ (.inl (by have hb:=rS (p:=fun m:NodeTy=>decide (m.name=t.nodes[i].name)) h5 hkl (by simpa using h7);rw [hF,if_neg (by simp [h2]),if_pos hb];simp [go_sem])))
   ·exact wo (h:=wx hI0 (k+1) ⟨wg,wn,wn,wj,(by rw [c7 _ _ _ hkl,hne];simpa using h7)⟩)
  ·have hb:=pH hne (show k=i by omega)
   refine wo (h:=aB (lO _ _ _) wl ?_)
   refine eF (fun h9=>?_) fun h9=>?_
   ·exact wv (h:=hQ _ _ (.inl (by rw [hF,if_neg (by simp [h2]),if_neg (by simp [hb]),if_pos (by simp [inF] at h9;simp;omega)];simp [go_sem])))
   ·have hr:¬ (decide (t.nodes[i].parent < -1)||decide ((i:Int)≤t.nodes[i].parent))=true:=by simp [inF] at h9;simp;omega
    have hpo:parentsOK t.nodes i:=fun j n hj hn=>by
     rcases bN j i with h|h
     ·exact hp j n h hn
     ·have:j=i:=by omega
      subst this
      rw [aA hi] at hn
      cases hn;simp at hr;omega
    refine wv (h:=aB (B0 t ht i hi hpo) wl ?_)
    refine eF (fun h12=>?_) fun h12=>?_
    ·exact wv (h:=hQ _ _ (.inl (by rw [hF,if_neg (by simp [h2]),if_neg (by simp [hb]),if_neg hr];simp [go_sem];omega)))
    ·have hF2:f5 t i=bJ (yI (t.attrs i)) ((t.attrs i).length - t.nodes[i].attrs.length) t.nodes[i].attrs.length:=by rw [hF,if_neg (by simp [h2]),if_neg (by simp [hb]),if_neg hr,if_neg (by omega),if_neg (by omega)]
     refine wo (h:=bA (fun k e H=>(e 1=dI i∧e 2=.adr t.c∧e 7=.list ((t.attrs i).map Attr.c)∧e 8=dI k)∧(k≤(t.attrs i).length)∧(bJ (yI (t.attrs i)) k ((t.attrs i).length - k)=f5 t i)) (fun k=>(t.attrs i).length - k) ((t.attrs i).length - t.nodes[i].attrs.length) ⟨wg,(by omega),(by rw [hF2];congr 1;omega)⟩ fun I2 hI2 k e H hi2=>?_)
     obtain ⟨E2,hk,hFk⟩:=hi2
     have Y:=wa Y E2
     refine eF (fun h15=>?_) fun h15=>?_
     ·have hst:=d7 (yI (t.attrs i)) h15
      rw [hFk] at hst
      have hE:=PC h15
      have Y:=wa Y h15
      refine wo (h:=aB (mO _ (hok _ (aC h15)).name) wl ?_)
      refine eF (fun h17=>?_) fun h17=>?_
      ·refine wv (h:=?_)
       have hE2:yI (t.attrs i) k=2:=by rw [hE,if_pos (by simp [h17])]
       exact hQ _ _ (.inl (by rw [hst,hE2];simp [go_sem]))
      ·refine wv (h:=bA (fun j e H=>(e 1=dI i∧e 2=.adr t.c∧e 7=.list ((t.attrs i).map Attr.c)∧e 8=dI k∧e 9=dI j)∧(j≤k)∧((((t.attrs i).take j).any fun y=>decide (y.name=(t.attrs i)[k].name))=false)) (fun j=>k - j) 0 ⟨wg,wi,(by simp)⟩ fun I4 hI4 j e H hi4=>?_)
       obtain ⟨E4,hj,hne⟩:=hi4
       have Y:=wa Y E4
       refine c4 (fun h20=>?_) fun h20=>?_
       ·have hjl:j<(t.attrs i).length:=by omega
        have Y:=wa Y (wa h20 hjl)
        refine eF (fun h22=>?_) fun h22=>?_
        ·refine wv (h:=?_)
         have hb:=rS (p:=fun y:Attr=>decide (y.name=(t.attrs i)[k].name)) h20 hjl (by simpa using h22)
         have hE2:yI (t.attrs i) k=5:=by rw [hE,if_neg (by simp [h17]),if_pos hb]
         exact hQ _ _ (.inl (by rw [hst,hE2];simp [go_sem]))
        ·exact wo (h:=wx hI4 (j+1) ⟨wg,wj,(by rw [c7 _ _ _ hjl,hne];simpa using h22)⟩)
       ·have hb2:=pH hne (show j=k by omega)
        have hE2:yI (t.attrs i) k=Cp (t.attrs i)[k]:=by rw [hE,if_neg (by simp [h17]),if_neg (by simp [hb2])]
        rw [hE2] at hst
        refine wo (h:=aB (CE _ (hok _ (aC h15))) wl ?_)
        refine eF (fun h25=>?_) fun h25=>?_
        ·exact wv (h:=hQ _ _ (.inl (by rw [hst,if_pos (by simpa using h25)];simp [go_sem])))
        ·exact wo (h:=wx hI2 (k+1) ⟨wg,wj,(by rw [if_neg (by simp [h25])] at hst;rw [← hst])⟩)
     ·exact wv (h:=hQ _ _ (.inl (by rw [← hFk,show (t.attrs i).length - k=0 by omega];rfl)))
theorem Kl (t:Types)(i:Nat)(hi:i<t.edges.length):iW t i =
  if kF t.edges[i].name=false then 2
  else if ((t.edges.take i).any fun y=>decide (y.name=t.edges[i].name))=true then 5
  else if (insideF t t.edges[i].from_&&insideF t t.edges[i].to_&&boundedF t.edges[i].outLow t.edges[i].outHigh&&boundedF t.edges[i].inLow t.edges[i].inHigh)=true then 0 else 6:=by
 unfold iW;rw [aA hi]
theorem tY (t:Types)(a:Int):inF a 0 ((t.nodes.length:Int) - 1)=insideF t a:=by
 simp only [inF,insideF];rw [aQ];simp;omega
theorem Lz (t:Types)(ht:t.ok)(i:Nat)(hi:i<t.edges.length):Pure Tryz.prog 196 [t.d,dI i] (dI (iW t i)):=by
 have hno:=ht.edges _ (aC hi)
 have hfew:=ht.fewN
 have hfewE:=ht.fewE
 have hF:=Kl t i hi
 refine Tz.pK ⟨fun t=>t==5,fun _=>[]⟩ Tryz.func196 rfl (fun Q hQ=>?_)
 have Y:=wa (aA hi) hi
 refine wo (h:=aB (mO _ hno.name) wl ?_)
 refine eF (fun h2=>?_) fun h2=>?_
 ·exact wv (h:=hQ _ _ (by simp [go_sem,hF,h2]))
 ·refine wv (h:=bA (fun k e H=>(e 1=dI i∧e 2=.adr t.c∧e 5=.ptr 0 1 0 0∧e 6=dI k)∧(H.get 0=some ⟨174,7,[t.edges[i].c],false⟩)∧(0<H.next)∧(k≤i)∧(((t.edges.take k).any fun m=>decide (m.name=t.edges[i].name))=false)) (fun k=>i - k) 0 ⟨wg,wn,wn,wi,(by simp)⟩ fun I0 hI0 k e H hi0=>?_)
  obtain ⟨E0,g0_0,n0_0,hk,hne⟩:=hi0
  have Y:=wa Y (wa E0 (wa g0_0 (bZ n0_0)))
  refine c4 (fun h5=>?_) fun h5=>?_
  ·have hkl:k<t.edges.length:=by omega
   have Y:=wa Y (wa h5 hkl)
   refine eF (fun h7=>?_) fun h7=>?_
   ·exact wv (h:=hQ _ _ (by have hb:=rS (p:=fun m:EdgeTy=>decide (m.name=t.edges[i].name)) h5 hkl (by simpa using h7);rw [hF,if_neg (by simp [h2]),if_pos hb];simp [go_sem]))
   ·exact wo (h:=wx hI0 (k+1) ⟨wg,wn,wn,wj,(by rw [c7 _ _ _ hkl,hne];simpa using h7)⟩)
  ·have hb:=pH hne (show k=i by omega)
   refine wo (h:=aB (lO _ _ _) wl ?_)
   refine wo (h:=aG (fun hg=>lO _ _ _) (fun hg=>wl) ?_)
   refine wo (h:=aG (fun hg=>BZ _ _) (fun hg=>wl) ?_)
   refine wo (h:=aG (fun hg=>BZ _ _) (fun hg=>wl) ?_)
   refine wo (h:=aP (fun h10=>?_) (fun h10=>?_))
   ·skip
    simp only [tY] at h10
    exact wv (h:=hQ _ _ (by rw [hF,if_neg (by simp [h2]),if_neg (by simp [hb])];revert h10;cases insideF t t.edges[i].from_<;>cases insideF t t.edges[i].to_<;>cases boundedF t.edges[i].outLow t.edges[i].outHigh<;>cases boundedF t.edges[i].inLow t.edges[i].inHigh<;>simp [go_sem]))
   ·skip
    simp only [tY] at h10
    exact wv (h:=hQ _ _ (by rw [hF,if_neg (by simp [h2]),if_neg (by simp [hb])];revert h10;cases insideF t t.edges[i].from_<;>cases insideF t t.edges[i].to_<;>cases boundedF t.edges[i].outLow t.edges[i].outHigh<;>cases boundedF t.edges[i].inLow t.edges[i].inHigh<;>simp [go_sem]))
theorem Au (f:Nat→Int)(nm:Nat→ByteArray)(last:ByteArray × Int){k n:Nat}(h:k<n):dS f nm last k (n - k)=if f k≠0 then (nm k,f k) else dS f nm last (k+1) (n - (k+1)):=by
 rw [show n - k=n - (k+1)+1 by omega,dS]
theorem oH (t:Types)(ht:t.ok):Pure Tryz.prog 103 [t.d] (.tup [.str (b8 t).1,dI (b8 t).2]):=by
 have hfew:=ht.fewN
 have hfewE:=ht.fewE
 refine Tz.pK ⟨fun _=>false,fun _=>[]⟩ Tryz.func103 rfl (fun Q hQ=>?_)
 have Y:=trivial
 refine eF (fun h1=>?_) fun h1=>?_
 ·exact wv (h:=hQ _ _ (by simp [go_sem,b8,h1]))
 ·refine eF (fun h3=>?_) fun h3=>?_
  ·exact wv (h:=hQ _ _ (by simp [go_sem,b8,h1,show 12<t.nodes.length∨20<t.edges.length by omega]))
  ·have e:b8 t=dS (f5 t) t.nodeName (dS (iW t) t.edgeName (⟨#[]⟩,0) 0 t.edges.length) 0 t.nodes.length:=by simp only [b8];rw [if_neg (by simpa using h1),if_neg (by omega)]
   refine wv (h:=bA (fun i e H=>(e 1=.adr t.c∧e 4=dI i)∧(i≤t.nodes.length)∧(∀ j,j<i→f5 t j=0)∧(dS (f5 t) t.nodeName (dS (iW t) t.edgeName (⟨#[]⟩,0) 0 t.edges.length) i (t.nodes.length - i)=b8 t)) (fun i=>t.nodes.length - i) 0 ⟨wg,wi,(by intro j hj;omega),(by rw [e];rfl)⟩ fun I0 hI0 i e H hi0=>?_)
   obtain ⟨E0,hi,hz,hFk⟩:=hi0
   have Y:=wa Y E0
   refine eF (fun h6=>?_) fun h6=>?_
   ·have hst:=hFk
    rw [Au _ _ _ h6] at hst
    have Y:=wa Y h6
    refine wv (h:=aB (Ly t ht i h6 (fun j n hj hn=>tW t j n (hz j hj) hn)) wl ?_)
    refine c4 (fun h9=>?_) fun h9=>?_
    ·exact wo (h:=hQ _ _ (by rw [if_pos (by simpa using h9)] at hst;simp [go_sem,← hst,Types.nodeName,aA h6]))
    ·exact wo (h:=wx hI0 (i+1) ⟨wg,wj,(by exact jB hz (by simpa using h9)),(by rw [if_neg (by simpa using h9)] at hst;exact hst)⟩)
   ·have hE:dS (iW t) t.edgeName (⟨#[]⟩,0) 0 t.edges.length=b8 t:=by rw [← hFk,show t.nodes.length - i=0 by omega];rfl
    refine wv (h:=bA (fun i e H=>(e 1=.adr t.c∧e 6=dI i)∧(i≤t.edges.length)∧(dS (iW t) t.edgeName (⟨#[]⟩,0) i (t.edges.length - i)=b8 t)) (fun i=>t.edges.length - i) 0 ⟨wg,wi,(by exact hE)⟩ fun I2 hI2 i e H hi2=>?_)
    obtain ⟨E2,hi,hFk⟩:=hi2
    have Y:=wa Y E2
    refine eF (fun h12=>?_) fun h12=>?_
    ·have hst:=hFk
     rw [Au _ _ _ h12] at hst
     have Y:=wa Y h12
     refine wv (h:=aB (Lz t ht i h12) wl ?_)
     refine c4 (fun h15=>?_) fun h15=>?_
     ·exact wo (h:=hQ _ _ (by rw [if_pos (by simpa using h15)] at hst;simp [go_sem,← hst,Types.edgeName,aA h12]))
     ·exact wo (h:=wx hI2 (i+1) ⟨wg,wj,(by rw [if_neg (by simpa using h15)] at hst;exact hst)⟩)
    ·exact wv (h:=hQ _ _ (by rw [← hFk,show t.edges.length - i=0 by omega];simp [go_sem,dS]))
theorem pE {f:Nat→Int}{nm:Nat→ByteArray}{last:ByteArray × Int}:∀ (n k:Nat),(dS f nm last k n).2=0→(∀ j,k≤j→j<k+n→f j=0)∧last.2=0
 | 0,k,h=>⟨fun j h1 h2=>by omega,h⟩
 | n+1,k,h=>by
  unfold dS at h
  split at h
  ·rename_i hne;exact absurd h hne
  ·rename_i hz
   obtain ⟨a,b⟩:=pE n (k+1) h
   refine ⟨fun j h1 h2=>?_,b⟩
   rcases Nat.eq_or_lt_of_le h1 with h3|h3
   ·subst h3;exact bE fun hne=>hz hne
   ·exact a j h3 (by omega)
structure Types.valid (t:Types):Prop where
 ne:0<t.nodes.length
 fewN:t.nodes.length≤12
 fewE:t.edges.length≤20
 parent:∀ (j:Nat) (n:NodeTy),t.nodes[j]?=some n→n.parent<j
 low:∀ (j:Nat) (n:NodeTy),t.nodes[j]?=some n→-1≤n.parent
 attrs:∀ j,j<t.nodes.length→(t.attrs j).length≤8
 ends:∀ x∈t.edges,insideF t x.from_=true∧insideF t x.to_=true
theorem lN {t:Types}(h:(b8 t).2=0):t.valid:=by
 unfold b8 at h
 split at h
 ·simp at h
 ·rename_i h0
  split at h
  ·simp at h
  ·rename_i h1
   obtain ⟨hN,hE⟩:=pE _ _ h
   obtain ⟨hE,_⟩:=pE _ _ hE
   have hN':∀ j (hj:j<t.nodes.length),f5 t j=0:=fun j hj=>hN j (by omega) (by omega)
   refine ⟨by omega,by omega,by omega,fun j n hn=>?_,fun j n hn=>?_,fun j hj=>?_,fun x hx=>?_⟩
   ·exact tW t j n (hN' j (aL.1 hn).1) hn
   ·have hj:=(aL.1 hn).1
    have h2:=hN' j hj
    rw [Ai t j hj] at h2
    have he:t.nodes[j]=n:=(aL.1 hn).2
    rw [he] at h2
    split at h2<;>try (cases h2;done)
    split at h2<;>try (cases h2;done)
    split at h2<;>try (cases h2;done)
    rename_i hr;simp at hr;omega
   ·have h2:=hN' j hj
    rw [Ai t j hj] at h2
    split at h2<;>try (cases h2;done)
    split at h2<;>try (cases h2;done)
    split at h2<;>try (cases h2;done)
    split at h2<;>try (cases h2;done)
    split at h2<;>try (cases h2;done)
    omega
   ·obtain ⟨j,hj,rfl⟩:=aO hx
    have h2:=hE j (by omega) (by omega)
    rw [Kl t j hj] at h2
    split at h2<;>try (cases h2;done)
    split at h2<;>try (cases h2;done)
    split at h2<;>try (cases h2;done)
    rename_i hr;simp at hr;exact ⟨hr.1.1.1,hr.1.1.2⟩
theorem Types.valid.parentsOK {t:Types}(h:t.valid)(a:Nat):parentsOK t.nodes a:=fun j n _ hn=>h.parent j n hn
def given2F (t:Types)(a b:Int):Int:=if (b8 t).2≠0 then (b8 t).2 else if (insideF t a&&insideF t b)=true then 0 else 6
theorem BY (t:Types)(ht:t.ok)(a b:Int):Pure Tryz.prog 124 [t.d,dI a,dI b] (dI (given2F t a b)):=by
 have hfew:=ht.fewN
 refine Tz.pK ⟨fun _=>false,fun _=>[]⟩ Tryz.func124 rfl (fun Q hQ=>?_)
 have Y:=trivial
 refine wv (h:=aB (oH t ht) wl ?_)
 refine c4 (fun h2=>?_) fun h2=>?_
 ·have Y:=wa Y (wa h2 @given2F.eq_1)
  exact wv (h:=hQ _ _ wy)
 ·refine wo (h:=aB (lO _ _ _) wl ?_)
  refine wo (h:=aG (fun hg=>lO _ _ _) (fun hg=>wl) ?_)
  refine wo (h:=aP (fun h4=>?_) (fun h4=>?_))
  ·skip
   simp only [tY] at h4
   exact wv (h:=hQ _ _ (by revert h4;cases ha:insideF t a<;>cases hb:insideF t b<;>simp [go_sem,given2F,h2,ha,hb]))
  ·skip
   simp only [tY] at h4
   exact wv (h:=hQ _ _ (by revert h4;cases ha:insideF t a<;>cases hb:insideF t b<;>simp [go_sem,given2F,h2,ha,hb]))
def givenF (t:Types)(l:List Int):Int:=if (b8 t).2≠0 then (b8 t).2 else if (l.any fun a=>!insideF t a)=true then 6 else 0
theorem Hk (t:Types)(a:Int):Pure Tryz.prog 380 [dI a,.adr t.c] (.bool (!insideF t a)):=by
 refine Tz.pK ⟨fun _=>false,fun _=>[]⟩ Tryz.func380 rfl (fun Q hQ=>?_)
 have Y:=trivial
 have Y:=wa Y @insideF.eq_1
 exact wo (h:=hQ _ _ wy)
theorem vF (t:Types)(ht:t.ok)(l:List Int):Pure Tryz.prog 323 [t.d,dLI l] (dI (givenF t l)):=by
 refine Tz.pK ⟨fun _=>false,fun _=>[]⟩ Tryz.func323 rfl (fun Q hQ=>?_)
 have Y:=trivial
 refine wv (h:=aB (l5 t ht) wl ?_)
 refine c4 (fun h2=>?_) fun h2=>?_
 ·have Y:=wa Y (wa h2 @givenF.eq_1)
  exact wv (h:=hQ _ _ wy)
 ·refine wv (h:=aB (fI l 380 [.adr t.c] (fun a=>!insideF t a) (by simp [go_sem]) (by simp [go_sem]) (fun a _=>Hk t a)) wl ?_)
  refine c4 (fun h4=>?_) fun h4=>?_
  ·have Y:=wa Y (wa h2 (wa h4 @givenF.eq_1))
   exact wv (h:=hQ _ _ wy)
  ·have Y:=wa Y (wa h2 (wa h4 @givenF.eq_1))
   exact wv (h:=hQ _ _ wy)
theorem GN (t:Types)(a b:Int):givenF t [a,b]=given2F t a b:=by
 unfold givenF given2F;cases ha:insideF t a<;>cases hb:insideF t b<;>simp [ha,hb]
def D9 (nodes:List NodeTy):Nat→Nat→List Int
 | 0,_=>[]
 | f+1,a=>match nodes[a]? with
  | none=>[]
  | some n=>(if 0≤n.parent then D9 nodes f n.parent.toNat else [])++[(a:Int)]
def Types.line (t:Types)(a:Nat):List Int:=D9 t.nodes (a+1) a
theorem LO (nodes:List NodeTy):∀ a f g,parentsOK nodes a→a<f→a<g→D9 nodes f a=D9 nodes g a:=by
 intro a
 induction a using Nat.strongRecOn with
 | _ a ih =>
  intro f g hp hf hg
  obtain ⟨f,rfl⟩:∃ f',f=f'+1:=⟨f - 1,by omega⟩
  obtain ⟨g,rfl⟩:∃ g',g=g'+1:=⟨g - 1,by omega⟩
  unfold D9
  split
  ·rfl
  ·rename_i n hn
   have:=hp a n (bC _) hn
   congr 1
   split
   ·exact ih n.parent.toNat (by omega) f g (fun j m hj hm=>hp j m (by omega) hm) (by omega) (by omega)
   ·rfl
theorem wC (t:Types)(a:Nat)(ha:a<t.nodes.length)(hp:parentsOK t.nodes a) :
  t.line a=(if 0≤t.nodes[a].parent then t.line t.nodes[a].parent.toNat else [])++[(a:Int)]:=by
 have hpa:=hp a _ (bC _) (aA ha)
 by_cases h':0≤t.nodes[a].parent
 ·have hlt:t.nodes[a].parent.toNat<a:=by omega
  have:=LO t.nodes t.nodes[a].parent.toNat a (t.nodes[a].parent.toNat+1) (fun j m hj hm=>hp j m (by omega) hm) hlt (by omega)
  simp [Types.line,D9,aA ha,h',this]
 ·simp [Types.line,D9,aA ha,h']
end Go.Abs
end
