/- Layer 4: types, continued. · Layer 4: types, edges. · Layer  -/
import Derived.Test.YtjfaalokjnmdoaaGreatZcAF
import Derived.Test.YtjfaalokjnmdoaaGreatZcAG
import Derived.Test.YtjfaalokjnmdoaaGreatZcAA
set_option linter.unusedVariables false
set_option linter.unusedSimpArgs false
section
set_option maxRecDepth 100000
set_option maxHeartbeats 4000000
open Go Go.Proofs
namespace Go.Abs
attribute [go_sem] qV
@[go_sem] theorem XB (l:List ByteArray):D.clLL (l.map cS)=true:=c4 cS (fun _=>rfl) l
theorem F7 (xs:List NodeTy)(g:FuncId)(caps:List D)(p:NodeTy→Bool)(hc:D.clL caps=true)(hg:∀ x∈xs,Pure Tryz.prog g (.agg x.c :: caps) (.bool (p x))) :
  Pure Tryz.prog 341 [.list (xs.map NodeTy.c),.fn g caps] (dI (CL xs p)):=by
 refine aR (aG (cfg:=⟨fun _=>false,fun _=>[]⟩) Tz.mixed Tryz.func341 rfl rfl (aE rfl) (by kernel_rfl) ?_)
 simp [go_sem,seval,dI,dLI]
 intro hlen
 refine eO (ι:=Nat) (fun i e H=>H=.emp∧i≤xs.length∧e 0=.list (xs.map NodeTy.c)∧e 1=.fn g caps∧e 7=dI xs.length∧e 8=dI i∧(∀ j x,j<i→xs[j]?=some x→p x=false)) (fun i=>xs.length - i) 0 (by simp [go_sem,seval,dI,dLI]) ?_
 intro i e H ⟨hH,hi,h0,h1,h7,h8,hn⟩
 subst hH
 simp [go_sem,seval,h0,h1,h7,h8,dI,dLI]
 refine eW (fun hlt=>?_) (fun hge=>?_)
 ·have hgx:=hg xs[i] (aC hlt)
  simp [go_sem,seval,h0,h1,h7,h8,dI,dLI,hlt,NodeTy.c] at hgx ⊢
  refine aB hgx (by simp [go_sem,hc]) ?_
  simp [go_sem,seval,h0,h1,h7,h8,dI,dLI]
  refine aK (fun h=>?_) (fun h=>?_)
  ·simp [go_sem,seval,h0,h1,h7,h8,dI,dLI]
   rw [nZ hn hlt h]
  ·simp [go_sem,seval,h0,h1,h7,h8,dI,dLI]
   refine ⟨cW (by omega) (by omega),i+1,by omega,by omega,by omega,fun j x hj hx=>?_⟩
   rcases bZ j i with hj'|hj'
   ·exact hn j x hj' hx
   ·have:j=i:=by omega
    subst this
    rw [aA hlt] at hx
    cases hx;exact h
 ·simp [go_sem,seval,h0,h1,h7,h8,dI,dLI]
  rw [n3 fun j x hj=>hn j x (by omega)]
theorem BH (xs:List NodeTy)(g:FuncId)(caps:List D)(p:NodeTy→Bool)(hc:D.clL caps=true)(hl:D.cl (.list (xs.map NodeTy.c))=true)(hg:∀ x∈xs,Pure Tryz.prog g (.agg x.c :: caps) (.bool (p x))) :
  Pure Tryz.prog 252 [.list (xs.map NodeTy.c),.fn g caps] (.bool (xs.any p)):=by
 refine aR (aG (cfg:=⟨fun _=>false,fun _=>[]⟩) Tz.mixed Tryz.func252 rfl rfl (aE rfl) (by kernel_rfl) ?_)
 simp [go_sem,seval]
 refine aB (F7 xs g caps p hc hg) (by simp only [D.clL,hl,g6];simp [D.cl,hc]) ?_
 simp [go_sem,seval,dI,qN]
theorem F9 (xs:List EdgeTy)(g:FuncId)(caps:List D)(p:EdgeTy→Bool)(hc:D.clL caps=true)(hg:∀ x∈xs,Pure Tryz.prog g (.agg x.c :: caps) (.bool (p x))) :
  Pure Tryz.prog 345 [.list (xs.map EdgeTy.c),.fn g caps] (dI (CL xs p)):=by
 refine aR (aG (cfg:=⟨fun _=>false,fun _=>[]⟩) Tz.mixed Tryz.func345 rfl rfl (aE rfl) (by kernel_rfl) ?_)
 simp [go_sem,seval,dI,dLI]
 intro hlen
 refine eO (ι:=Nat) (fun i e H=>H=.emp∧i≤xs.length∧e 0=.list (xs.map EdgeTy.c)∧e 1=.fn g caps∧e 7=dI xs.length∧e 8=dI i∧(∀ j x,j<i→xs[j]?=some x→p x=false)) (fun i=>xs.length - i) 0 (by simp [go_sem,seval,dI,dLI]) ?_
 intro i e H ⟨hH,hi,h0,h1,h7,h8,hn⟩
 subst hH
 simp [go_sem,seval,h0,h1,h7,h8,dI,dLI]
 refine eW (fun hlt=>?_) (fun hge=>?_)
 ·have hgx:=hg xs[i] (aC hlt)
  simp [go_sem,seval,h0,h1,h7,h8,dI,dLI,hlt,EdgeTy.c] at hgx ⊢
  refine aB hgx (by simp [go_sem,hc]) ?_
  simp [go_sem,seval,h0,h1,h7,h8,dI,dLI]
  refine aK (fun h=>?_) (fun h=>?_)
  ·simp [go_sem,seval,h0,h1,h7,h8,dI,dLI]
   rw [nZ hn hlt h]
  ·simp [go_sem,seval,h0,h1,h7,h8,dI,dLI]
   refine ⟨cW (by omega) (by omega),i+1,by omega,by omega,by omega,fun j x hj hx=>?_⟩
   rcases bZ j i with hj'|hj'
   ·exact hn j x hj' hx
   ·have:j=i:=by omega
    subst this
    rw [aA hlt] at hx
    cases hx;exact h
 ·simp [go_sem,seval,h0,h1,h7,h8,dI,dLI]
  rw [n3 fun j x hj=>hn j x (by omega)]
theorem BI (xs:List EdgeTy)(g:FuncId)(caps:List D)(p:EdgeTy→Bool)(hc:D.clL caps=true)(hl:D.cl (.list (xs.map EdgeTy.c))=true)(hg:∀ x∈xs,Pure Tryz.prog g (.agg x.c :: caps) (.bool (p x))) :
  Pure Tryz.prog 257 [.list (xs.map EdgeTy.c),.fn g caps] (.bool (xs.any p)):=by
 refine aR (aG (cfg:=⟨fun _=>false,fun _=>[]⟩) Tz.mixed Tryz.func257 rfl rfl (aE rfl) (by kernel_rfl) ?_)
 simp [go_sem,seval]
 refine aB (F9 xs g caps p hc hg) (by simp only [D.clL,hl,g6];simp [D.cl,hc]) ?_
 simp [go_sem,seval,dI,qN]
@[go_sem] theorem tO (l:List NodeTy):D.clLL (l.map NodeTy.c)=true:=c4 _ NodeTy.cl l
@[go_sem] theorem t6 (l:List EdgeTy):D.clLL (l.map EdgeTy.c)=true:=c4 _ EdgeTy.cl l
theorem KA (x y:NodeTy):Pure Tryz.prog 253 [.agg y.c,.adr x.c] (.bool (decide (y.name=x.name))):=by
 refine aR (aG (cfg:=⟨fun _=>false,fun _=>[]⟩) Tz.mixed Tryz.func253 rfl rfl (aE rfl) (by kernel_rfl) ?_)
 simp [go_sem,seval,NodeTy.c,dI,o3]
theorem uE (nodes:List NodeTy)(h:∀ n∈nodes,n.ok):∀ f a,∀ x∈fU nodes f a,x.ok
 | 0,a,x,hx=>by simp [fU] at hx
 | f+1,a,x,hx=>by
  unfold fU at hx
  split at hx
  ·simp at hx
  ·rename_i n hn
   rcases aW.1 hx with hx|hx
   ·split at hx
    ·exact uE nodes h f _ x hx
    ·simp at hx
   ·exact (h n (aH hn)).attrs x hx
def bR (f:Nat→Int):Nat→Nat→Int
 | _,0=>0
 | k,n+1=>if f k≠0 then f k else bR f (k+1) n
def f8 (t:Types)(i:Nat):Int :=
 match t.nodes[i]? with
 | none=>0
 | some n =>
  if fT n.name=false then 2
  else if ((t.nodes.take i).any fun m=>decide (m.name=n.name))=true then 5
  else if (decide (n.parent < -1)||decide ((i:Int)≤n.parent))=true then 6
  else if 4<n.attrs.length then 3
  else if 8<(t.attrs i).length then 3
  else bR (fun k=>match (t.attrs i)[k]? with|some x=>c7 x ((t.attrs i).take k)|none=>0) ((t.attrs i).length - n.attrs.length) n.attrs.length
theorem Nb (t:Types)(ht:t.ok)(i:Nat)(hi:i<t.nodes.length)(hp:∀ j n,j<i→t.nodes[j]?=some n→n.parent<j):Pure Tryz.prog 155 [t.d,dI i] (dI (f8 t i)):=by
 have hno:=ht.nodes _ (aC hi)
 refine aR (aG (cfg:=⟨fun t=>t==5,fun _=>[]⟩) Tz.mixed Tryz.func155 rfl rfl (aE rfl) (by kernel_rfl) ?_)
 simp [go_sem,seval,dI,Types.d,Types.c,NodeTy.c,aA hi,hi]
 refine aB (mR _ hno.name) rfl ?_
 simp [go_sem,seval]
 refine aK (fun hn=>?_) (fun hn=>?_)
 ·simp at hn
  simp [go_sem,seval,f8,aA hi,hn]
 ·simp at hn
  simp [go_sem,seval]
  have hc:=BH (t.nodes.take i) 253 [.adr t.nodes[i].c] (fun y=>decide (y.name=t.nodes[i].name)) (by simp [D.clL,D.cl,NodeTy.cl]) (by rw [D.cl];exact tO _) (fun y _=>KA t.nodes[i] y)
  refine ⟨⟨by omega,by cases t.nodes<;>simp [NodeTy.c]⟩,sD hc (by simp [E8,Cn,fD,go_sem,NodeTy.c,dI,List.map_take]) (by simp only [D.clL,D.cl,tO,NodeTy.cl];rfl) rfl ?_⟩
  simp [go_sem,seval]
  refine aK (fun hb=>?_) (fun hb=>?_)
  ·simp [go_sem,seval,f8,aA hi,hn,hb]
  ·simp [go_sem,seval,NodeTy.c,dI]
   refine aK (fun hr=>?_) (fun hr=>?_)
   ·have hr':(decide (t.nodes[i].parent < -1)||decide ((i:Int)≤t.nodes[i].parent))=true:=by simpa using hr
    simp [go_sem,seval]
    have e:f8 t i=6:=by simp only [f8,aA hi];rw [if_neg (by simp [hn]),if_neg (by simp [hb]),if_pos hr']
    simp [e]
   ·simp at hr
    simp [go_sem,seval]
    have hr':¬ (decide (t.nodes[i].parent < -1)||decide ((i:Int)≤t.nodes[i].parent))=true:=by simp;omega
    intro hlen
    refine aK (fun h4=>?_) (fun h4=>?_)
    ·have h4':4<t.nodes[i].attrs.length:=by simp at h4;omega
     simp [go_sem,seval]
     have e:f8 t i=3:=by simp only [f8,aA hi];rw [if_neg (by simp [hn]),if_neg (by simp [hb]),if_neg hr',if_pos h4']
     simp [e]
    ·have h4':¬ 4<t.nodes[i].attrs.length:=by simp at h4;omega
     simp [go_sem,seval]
     have hpo:parentsOK t.nodes i:=fun j n hj hn'=>by
      rcases bZ j i with h|h
      ·exact hp j n h hn'
      ·have:j=i:=by omega
       subst this
       rw [aA hi] at hn'
       cases hn';omega
     have hat:=De t ht i hi hpo
     simp only [Types.d,Types.c,dI] at hat
     refine aB hat.pure (by simp [D.clL,D.cl,tO,t6]) ?_
     simp [go_sem,seval,NodeTy.c,dI]
     intro hlen2
     refine aK (fun h8=>?_) (fun h8=>?_)
     ·have h8':8<(t.attrs i).length:=by simp at h8;omega
      simp [go_sem,seval]
      have e:f8 t i=3:=by simp only [f8,aA hi];rw [if_neg (by simp [hn]),if_neg (by simp [hb]),if_neg hr',if_neg h4',if_pos h8']
      simp [e]
     ·have h8':¬ 8<(t.attrs i).length:=by simp at h8;omega
      have e:f8 t i=bR (fun k=>match (t.attrs i)[k]? with|some x=>c7 x ((t.attrs i).take k)|none=>0) ((t.attrs i).length - t.nodes[i].attrs.length) t.nodes[i].attrs.length:=by
       simp only [f8,aA hi];rw [if_neg (by simp [hn]),if_neg (by simp [hb]),if_neg hr',if_neg h4',if_neg h8']
      have hle:t.nodes[i].attrs.length≤(t.attrs i).length:=by simp [Types.attrs,fU,aA hi]
      have hok:∀ x∈t.attrs i,x.ok:=uE t.nodes ht.nodes _ _
      simp [go_sem,seval,NodeTy.c,dI]
      refine fun _ _=>⟨cW (by omega) (by omega),?_⟩
      refine eO (ι:=Nat) (fun k e H=>k≤(t.attrs i).length∧e 6=.list ((t.attrs i).map Attr.c)∧e 7=dI k ∧
       bR (fun k=>match (t.attrs i)[k]? with|some x=>c7 x ((t.attrs i).take k)|none=>0) k ((t.attrs i).length - k)=f8 t i) (fun k=>(t.attrs i).length - k) ((t.attrs i).length - t.nodes[i].attrs.length) ?_ ?_
      ·simp [go_sem,seval,dI]
       refine ⟨by omega,?_⟩
       rw [e];congr 1;omega
      ·intro k e' H ⟨hk,h6,h7,hF⟩
       simp [go_sem,seval,h6,h7,dI]
       intro hlen3
       refine eW (fun hlt=>?_) (fun hge=>?_)
       ·simp [go_sem,seval,h6,h7,dI,hlt,Attr.c]
        have hta:=D2 (t.attrs i)[k] ((t.attrs i).take k) (hok _ (aC hlt))
        simp only [Attr.c,dI,List.map_take] at hta
        have hcl:D.clLL (List.take k (List.map Attr.c (t.attrs i)))=true:=by rw [← List.map_take];exact qV _
        refine ⟨⟨hk,by cases t.attrs i<;>simp [Attr.c]⟩,aQ hta (by simp [D.clL,D.cl,hcl,R3]) ?_⟩
        have hstep:bR (fun k=>match (t.attrs i)[k]? with|some x=>c7 x ((t.attrs i).take k)|none=>0) k ((t.attrs i).length - k) =
          if c7 (t.attrs i)[k] ((t.attrs i).take k)≠0 then c7 (t.attrs i)[k] ((t.attrs i).take k) else bR (fun k=>match (t.attrs i)[k]? with|some x=>c7 x ((t.attrs i).take k)|none=>0) (k+1) ((t.attrs i).length - (k+1)):=by
         rw [show (t.attrs i).length - k=(t.attrs i).length - (k+1)+1 by omega,bR,aA hlt]
        rw [hstep] at hF
        simp [go_sem,seval]
        refine aK (fun hz=>?_) (fun hz=>?_)
        ·have hz':c7 (t.attrs i)[k] ((t.attrs i).take k)≠0:=by simpa using hz
         rw [if_pos hz'] at hF
         simp [go_sem,seval,hF]
        ·have hz':¬ c7 (t.attrs i)[k] ((t.attrs i).take k)≠0:=by simpa using hz
         rw [if_neg hz'] at hF
         simp [go_sem,seval,h6,h7,dI]
         exact ⟨cW (by omega) (by omega),k+1,by omega,by omega,by omega,hF⟩
       ·simp [go_sem,seval]
        rw [← hF,show (t.attrs i).length - k=0 by omega];rfl
def boundedF (low high:Int):Bool:=(decide (0≤low)&&decide (low≤40))&&(decide (high = -1)||(decide (low≤high)&&decide (high≤40)))
theorem G6 (low high:Int):Pure Tryz.prog 259 [dI low,dI high] (.bool (boundedF low high)):=by
 refine aR (aG (cfg:=⟨fun _=>false,fun _=>[]⟩) Tz.mixed Tryz.func259 rfl rfl (aE rfl) (by kernel_rfl) ?_)
 simp [go_sem,seval,dI,boundedF]
 try omega
theorem KD (t:Types)(a:Int):Pure Tryz.prog 256 [dI a,.adr t.c] (.bool (decide (0≤a)&&decide (a<t.nodes.length))):=by
 refine aR (aG (cfg:=⟨fun _=>false,fun _=>[]⟩) Tz.mixed Tryz.func256 rfl rfl (aE rfl) (by kernel_rfl) ?_)
 simp [go_sem,seval,dI,Types.c]
theorem KC (x y:EdgeTy):Pure Tryz.prog 258 [.agg y.c,.adr x.c] (.bool (decide (y.name=x.name))):=by
 refine aR (aG (cfg:=⟨fun _=>false,fun _=>[]⟩) Tz.mixed Tryz.func258 rfl rfl (aE rfl) (by kernel_rfl) ?_)
 simp [go_sem,seval,EdgeTy.c,dI]
def insideF (t:Types)(a:Int):Bool:=decide (0≤a)&&decide (a<t.nodes.length)
def iO (t:Types)(i:Nat):Int :=
 match t.edges[i]? with
 | none=>0
 | some x =>
  if fT x.name=false then 2
  else if ((t.edges.take i).any fun y=>decide (y.name=x.name))=true then 5
  else if (insideF t x.from_&&insideF t x.to_&&boundedF x.outLow x.outHigh&&boundedF x.inLow x.inHigh)=true then 0 else 6
theorem Nd (t:Types)(ht:t.ok)(i:Nat)(hi:i<t.edges.length):Pure Tryz.prog 156 [t.d,dI i] (dI (iO t i)):=by
 have hno:=ht.edges _ (aC hi)
 have hcN:D.clLL (List.map NodeTy.c t.nodes)=true:=tO _
 have hcE:D.clLL (List.map EdgeTy.c t.edges)=true:=t6 _
 have hin:∀ a:Int,Pure Tryz.prog 256 [.int .i64 a,.adr [.list (t.nodes.map NodeTy.c),.list (t.edges.map EdgeTy.c)]] (.bool (insideF t a)):=KD t
 have hbd:∀ a b:Int,Pure Tryz.prog 259 [.int .i64 a,.int .i64 b] (.bool (boundedF a b)):=G6
 refine aR (aG (cfg:=⟨fun t=>t==5,fun _=>[]⟩) Tz.mixed Tryz.func156 rfl rfl (aE rfl) (by kernel_rfl) ?_)
 simp [go_sem,seval,dI,Types.d,Types.c,EdgeTy.c,aA hi,hi]
 refine aB (mR _ hno.name) rfl ?_
 simp [go_sem,seval]
 refine aK (fun hn=>?_) (fun hn=>?_)
 ·simp at hn
  simp [go_sem,seval,iO,aA hi,hn]
 ·simp at hn
  simp [go_sem,seval]
  have hc:=BI (t.edges.take i) 258 [.adr t.edges[i].c] (fun y=>decide (y.name=t.edges[i].name)) (by simp [D.clL,D.cl,EdgeTy.cl]) (by rw [D.cl];exact t6 _) (fun y _=>KC t.edges[i] y)
  refine ⟨⟨by omega,by cases t.edges<;>simp [EdgeTy.c]⟩,sD hc (by simp [E8,Cn,fD,go_sem,EdgeTy.c,dI,List.map_take]) (by simp only [D.clL,D.cl,t6,EdgeTy.cl];rfl) rfl ?_⟩
  simp [go_sem,seval]
  refine aK (fun hb=>?_) (fun hb=>?_)
  ·simp [go_sem,seval,iO,aA hi,hn,hb]
  ·simp [go_sem,seval,EdgeTy.c,dI]
   refine aB (hin _) (by simp [D.clL,D.cl,hcN,hcE]) ?_
   simp [go_sem,seval,EdgeTy.c,dI]
   refine aO (fun _=>hin _) (fun _=>by simp [D.clL,D.cl,hcN,hcE]) ?_
   simp [go_sem,seval,EdgeTy.c,dI]
   refine aK (fun h1=>?_) (fun h1=>?_)
   ·have e:iO t i=6:=by
     simp only [iO,aA hi];rw [if_neg (by simp [hn]),if_neg (by simp [hb]),if_neg (by intro h;simp at h;simp [h] at h1)]
    simp [go_sem,seval]
    refine aK (fun _=>?_) (fun h=>?_)
    ·simp [go_sem,seval,e]
    ·rw [h1] at h;cases h
   ·simp [go_sem,seval,EdgeTy.c,dI]
    refine aB (hbd _ _) rfl ?_
    simp [go_sem,seval,EdgeTy.c,dI]
    refine aO (fun _=>hbd _ _) (fun _=>rfl) ?_
    simp [go_sem,seval,EdgeTy.c,dI]
    refine aK (fun h2=>?_) (fun h2=>?_)
    ·have e:iO t i=6:=by
      simp only [iO,aA hi];rw [if_neg (by simp [hn]),if_neg (by simp [hb]),if_neg (by intro h;simp at h;simp [h] at h2)]
     simp [go_sem,seval,e]
    ·have e:iO t i=0:=by
      simp only [iO,aA hi];rw [if_neg (by simp [hn]),if_neg (by simp [hb]),if_pos (by simp at h1 h2 ⊢;simp [h1,h2])]
     simp [go_sem,seval,e]
theorem uX (t:Types)(j:Nat)(n:NodeTy)(h:f8 t j=0)(hn:t.nodes[j]?=some n):n.parent<j:=by
 simp only [f8,hn] at h
 split at h
 ·cases h
 ·split at h
  ·cases h
  ·split at h
   ·cases h
   ·rename_i hr;simp at hr;omega
def dM (f:Nat→Int)(nm:Nat→ByteArray)(last:ByteArray × Int):Nat→Nat→ByteArray × Int
 | _,0=>last
 | k,n+1=>if f k≠0 then (nm k,f k) else dM f nm last (k+1) n
def Types.nodeName (t:Types)(i:Nat):ByteArray:=match t.nodes[i]? with|some n=>n.name|none=>⟨#[]⟩
def Types.edgeName (t:Types)(i:Nat):ByteArray:=match t.edges[i]? with|some n=>n.name|none=>⟨#[]⟩
def b9 (t:Types):ByteArray × Int :=
 if t.nodes.length=0 then (⟨#[]⟩,7)
 else if 12<t.nodes.length∨20<t.edges.length then (⟨#[]⟩,3)
 else dM (f8 t) t.nodeName (dM (iO t) t.edgeName (⟨#[]⟩,0) 0 t.edges.length) 0 t.nodes.length
theorem mE (t:Types)(ht:t.ok):Pure Tryz.prog 71 [t.d] (.tup [.str (b9 t).1,dI (b9 t).2]):=by
 refine aR (aG (cfg:=⟨fun t=>t==5||t==8,fun _=>[]⟩) Tz.mixed Tryz.func71 rfl rfl (aE rfl) (by kernel_rfl) ?_)
 simp [go_sem,seval,dI,Types.d,Types.c]
 intro hlen
 refine aK (fun h0=>?_) (fun h0=>?_)
 ·simp at h0
  simp [go_sem,seval,b9,h0]
 ·simp at h0
  simp [go_sem,seval]
  intro _ _
  refine aK (fun hb=>?_) (fun hb=>?_)
  ·have hb':12<t.nodes.length∨20<t.edges.length:=by simp at hb;omega
   simp [go_sem,seval,b9,h0,hb']
  ·have hb':¬ (12<t.nodes.length∨20<t.edges.length):=by simp at hb;omega
   have e:b9 t=dM (f8 t) t.nodeName (dM (iO t) t.edgeName (⟨#[]⟩,0) 0 t.edges.length) 0 t.nodes.length:=by simp [b9,h0,hb']
   simp [go_sem,seval]
   intro _
   refine eO (ι:=Nat) (fun i e H=>i≤t.nodes.length∧e 1=.adr t.c∧e 27=.list (t.nodes.map NodeTy.c)∧e 28=dI t.nodes.length∧e 29=dI i∧(∀ j,j<i→f8 t j=0) ∧
    dM (f8 t) t.nodeName (dM (iO t) t.edgeName (⟨#[]⟩,0) 0 t.edges.length) i (t.nodes.length - i)=b9 t) (fun i=>t.nodes.length - i) 0 (by simp [go_sem,seval,dI,Types.c,e]) ?_
   intro i e' H ⟨hi,h1,h27,h28,h29,hz,hF⟩
   simp [go_sem,seval,h1,h27,h28,h29,dI,Types.c]
   refine eW (fun hlt=>?_) (fun hge=>?_)
   ·simp [go_sem,seval,h1,h27,h28,h29,dI,Types.c,NodeTy.c,hlt]
    have hnd:=Nb t ht i hlt (fun j n hj hn=>uX t j n (hz j hj) hn)
    simp only [Types.d,Types.c,dI] at hnd
    have hstep:dM (f8 t) t.nodeName (dM (iO t) t.edgeName (⟨#[]⟩,0) 0 t.edges.length) i (t.nodes.length - i) =
      if f8 t i≠0 then (t.nodeName i,f8 t i) else dM (f8 t) t.nodeName (dM (iO t) t.edgeName (⟨#[]⟩,0) 0 t.edges.length) (i+1) (t.nodes.length - (i+1)):=by
     rw [show t.nodes.length - i=t.nodes.length - (i+1)+1 by omega,dM]
    rw [hstep] at hF
    refine aB hnd (by simp [D.clL,D.cl,tO,t6]) ?_
    simp [go_sem,seval]
    refine aK (fun hc=>?_) (fun hc=>?_)
    ·have hc':f8 t i≠0:=by simpa using hc
     rw [if_pos hc'] at hF
     simp [go_sem,seval,← hF,Types.nodeName,aA hlt]
    ·have hc':¬ f8 t i≠0:=by simpa using hc
     rw [if_neg hc'] at hF
     simp [go_sem,seval,h1,h27,h28,h29,dI,Types.c]
     refine ⟨cW (by omega) (by omega),i+1,by omega,by omega,by omega,fun j hj=>?_,hF⟩
     rcases bZ j i with hj'|hj'
     ·exact hz j hj'
     ·have:j=i:=by omega
      subst this;simpa using hc'
   ·simp [go_sem,seval,h1,h27,h28,h29,dI,Types.c]
    intro _
    rw [show t.nodes.length - i=0 by omega] at hF
    simp only [dM] at hF
    refine eO (ι:=Nat) (fun i e H=>i≤t.edges.length∧e 1=.adr t.c∧e 44=.list (t.edges.map EdgeTy.c)∧e 45=dI t.edges.length∧e 46=dI i ∧
     dM (iO t) t.edgeName (⟨#[]⟩,0) i (t.edges.length - i)=b9 t) (fun i=>t.edges.length - i) 0 (by simp [go_sem,seval,h1,dI,Types.c,hF]) ?_
    intro i e' H ⟨hi,h1,h44,h45,h46,hF⟩
    simp [go_sem,seval,h1,h44,h45,h46,dI,Types.c]
    refine eW (fun hlt=>?_) (fun hge=>?_)
    ·simp [go_sem,seval,h1,h44,h45,h46,dI,Types.c,EdgeTy.c,hlt]
     have hnd:=Nd t ht i hlt
     simp only [Types.d,Types.c,dI] at hnd
     have hstep:dM (iO t) t.edgeName (⟨#[]⟩,0) i (t.edges.length - i) =
       if iO t i≠0 then (t.edgeName i,iO t i) else dM (iO t) t.edgeName (⟨#[]⟩,0) (i+1) (t.edges.length - (i+1)):=by
      rw [show t.edges.length - i=t.edges.length - (i+1)+1 by omega,dM]
     rw [hstep] at hF
     refine aB hnd (by simp [D.clL,D.cl,tO,t6]) ?_
     simp [go_sem,seval]
     refine aK (fun hc=>?_) (fun hc=>?_)
     ·have hc':iO t i≠0:=by simpa using hc
      rw [if_pos hc'] at hF
      simp [go_sem,seval,← hF,Types.edgeName,aA hlt]
     ·have hc':¬ iO t i≠0:=by simpa using hc
      rw [if_neg hc'] at hF
      simp [go_sem,seval,h1,h44,h45,h46,dI,Types.c]
      exact ⟨cW (by omega) (by omega),i+1,by omega,by omega,by omega,hF⟩
    ·rw [show t.edges.length - i=0 by omega] at hF
     simp only [dM] at hF
     simp [go_sem,seval,← hF]
theorem Ba (c:Int):Pure Tryz.prog 428 [.int .u8 c] (.bool (g8 c)):=by
 refine aR (aG (cfg:=⟨fun _=>false,fun _=>[]⟩) Tz.mixed Tryz.func428 rfl rfl (aE rfl) (by kernel_rfl) ?_)
 simp [go_sem,seval,g8,D.cl]
 try omega
theorem rN (c:Int):Pure Tryz.prog 429 [.int .u8 c] (.bool (i9 c)):=by
 refine aR (aG (cfg:=⟨fun _=>false,fun _=>[]⟩) Tz.mixed Tryz.func429 rfl rfl (aE rfl) (by kernel_rfl) ?_)
 simp [go_sem,seval,i9,D.cl]
def tC (digits:Bool)(c:Int):Bool:=i9 c||(!digits&&(g8 c||c==95))
theorem Qa (s:ByteArray)(dg:Bool)(hs:s.size≤1000000):Pure Tryz.prog 430 [.str s,dI 0,.bool dg] (dI (fE (tC dg) s)):=by
 refine aR (aG (cfg:=⟨fun _=>false,fun _=>[]⟩) Tz.mixed Tryz.func430 rfl rfl (aE rfl) (by kernel_rfl) ?_)
 simp [go_sem,seval,dI]
 refine eO (ι:=Nat) (fun n e H=>H=.emp∧n≤s.size∧e 0=.str s∧e 1=dI 0∧e 2=.bool dg∧e 7=dI n∧(∀ j,j<n→tC dg (vG s j)=true)) (fun n=>s.size - n) 0 (by simp [go_sem,seval,dI]) ?_
 intro n e H ⟨hH,hn,h0,h1,h2,h7,hp⟩
 subst hH
 have hb:((s.data[n]?.getD 0).toNat:Int)=vG s n:=rfl
 simp [go_sem,seval,h0,h1,h2,h7,dI,hb]
 refine ⟨cW (by omega) (by omega),fun _=>cW (by omega) (by omega),aO (fun _=>rN _) (fun _=>rfl) ?_⟩
 simp [go_sem,seval,h0,h1,h2,h7,dI,hb]
 refine ⟨fun _ _ _=>cW (by omega) (by omega),fun h _ _=>h,aO (fun _=>Ba _) (fun _=>rfl) ?_⟩
 simp [go_sem,seval,h0,h1,h2,h7,dI,hb]
 refine ⟨fun _ _ _ _=>cW (by omega) (by omega),fun h _ _ _=>h,fun a b c d=>⟨⟨⟨a,b⟩,c⟩,d⟩,fun a b c=>⟨⟨a,b⟩,c⟩,fun a b=>⟨a,b⟩,aK (fun h=>?_) (fun h=>?_)⟩
 ·have hr:n<s.size∧tC dg (vG s n)=true:=by simpa [tC] using h
  simp [go_sem,seval,h0,h1,h2,h7,dI]
  refine ⟨cW (by omega) (by omega),n+1,by omega,by omega,by omega,fun j hj=>?_⟩
  rcases bZ j n with hj'|hj'
  ·exact hp j hj'
  ·have:j=n:=by omega
   subst this;exact hr.2
 ·have hr:n<s.size→tC dg (vG s n)=false:=by
   intro hlt
   simp [hlt] at h
   simp [tC]
   exact h
  simp [go_sem,seval,h0,h1,h2,h7,dI]
  rw [HV _ s n hp hn hr]
theorem IF (p : Nat → Bool) (n : Nat) : ∀ d k, k + d = n → (∀ j, 1 ≤ j → j < k → p j = true) → 1 ≤ k → ∃ k, 1 ≤ k ∧ k ≤ n ∧ (∀ j, 1 ≤ j → j < k → p j = true) ∧ (k < n → p k = false)
  | 0, k, h, hp, h1 => ⟨k, h1, by omega, hp, fun h => by omega⟩
  | d + 1, k, h, hp, h1 => by
    cases hk : p k with
    | false => exact ⟨k, h1, by omega, hp, fun _ => hk⟩
    | true =>
      refine IF p n d (k + 1) (by omega) (fun j hj hlt => ?_) (by omega)
      rcases bZ j k with h | h
      · exact hp j hj h
      · have : j = k := by omega
        subst this; exact hk
theorem JF (s:ByteArray)(h1:1≤s.size)(hs:s.size≤1000000):∃ n:Int,0≤n∧n≠1∧n≤s.size∧Pure Tryz.prog 431 [.str s,dI 0] (dI n):=by
 obtain ⟨k,hk1,hk2,hk3,hk4⟩:=IF (fun j=>mW (vG s j)) s.size (s.size - 1) 1 (by omega) (fun j h h'=>by omega) (by omega)
 refine ⟨if k<s.size∧vG s k=34 then k+1 else 0,by split<;>omega,by split<;>omega,by split<;>omega,aR (aG (cfg:=⟨fun _=>false,fun _=>[]⟩) Tz.mixed Tryz.func431 rfl rfl (aE rfl) (by kernel_rfl) ?_)⟩
 simp [go_sem,seval,dI]
 refine eO (ι:=Nat) (fun n e H=>H=.emp∧1≤n∧n≤k∧e 0=.str s∧e 1=dI 0∧e 5=dI n) (fun n=>s.size - n) 1 (by simp [go_sem,seval,dI];omega) ?_
 intro n e H ⟨hH,hn1,hn,h0,h1,h5⟩
 subst hH
 have hb:((s.data[n]?.getD 0).toNat:Int)=vG s n:=rfl
 simp [go_sem,seval,h0,h1,h5,dI,hb]
 refine ⟨cW (by omega) (by omega),aK (fun hlt=>?_) (fun hge=>?_)⟩
 ·simp at hlt
  simp [go_sem,seval,h0,h1,h5,dI,hb]
  refine ⟨cW (by omega) (by omega),hlt,aK (fun hq=>?_) (fun hq=>?_)⟩
  ·simp at hq
   have hnk:n=k:=by
    rcases bZ n k with h|h
    ·have:=hk3 n hn1 h;simp [mW,hq] at this
    ·omega
   subst hnk
   simp [go_sem,seval,h0,h1,h5,dI]
   exact ⟨cW (by omega) (by omega),fun h=>absurd hq (h hlt)⟩
  ·simp at hq
   simp [go_sem,seval,h0,h1,h5,dI]
   refine aK (fun hc=>?_) (fun hc=>?_)
   ·simp at hc
    have hnk:n=k:=by
     rcases bZ n k with h|h
     ·have:=hk3 n hn1 h;simp [mW] at this;omega
     ·omega
    subst hnk
    simp [go_sem,seval,h0,h1,h5,dI]
    omega
   ·simp at hc
    have hnk:n<k:=by
     rcases bZ n k with h|h
     ·exact h
     ·have hh:n=k:=by omega
      subst hh
      have:=hk4 hlt;simp [mW] at this;omega
    simp [go_sem,seval,h0,h1,h5,dI]
    exact ⟨cW (by omega) (by omega),n+1,by omega,by omega,by omega,by omega⟩
 ·simp at hge
  simp [go_sem,seval,h0,h1,h5,dI]
  omega
def signs:List ByteArray:=Id++[⟨#[123]⟩,⟨#[125]⟩,⟨#[40]⟩,⟨#[41]⟩,⟨#[91]⟩,⟨#[93]⟩,⟨#[44]⟩,⟨#[59]⟩,⟨#[58]⟩,⟨#[61]⟩,⟨#[43]⟩,⟨#[45]⟩,⟨#[42]⟩,⟨#[60]⟩,⟨#[62]⟩,⟨#[33]⟩,⟨#[38]⟩,⟨#[124]⟩,⟨#[46]⟩,⟨#[63]⟩]
theorem LA:Pure Tryz.prog 432 [] (o3 signs):=by
 refine aR (aG (cfg:=⟨fun _=>false,fun _=>[]⟩) Tz.mixed Tryz.func432 rfl rfl (aE rfl) (by kernel_rfl) ?_)
 simp [go_sem,seval,o3,cS,Id,signs]
theorem Fo (s:ByteArray):Pure Tryz.prog 387 [.agg [dI 1,.str s,dI 0]] (.str s):=by
 refine aR (aG (cfg:=⟨fun _=>false,fun _=>[]⟩) Tz.mixed Tryz.func387 rfl rfl (aE rfl) (by kernel_rfl) ?_)
 simp [go_sem,seval,dI]
theorem Nv:tC false=mZ:=by
 funext c
 simp [tC,mZ,Bool.or_assoc,Bool.or_comm,Bool.or_left_comm]
def uO (s l:ByteArray):Bool:=decide ((l.size:Int)≤s.size)&&decide (s.extract 0 l.size=l)
def zE (q : Int) (s : ByteArray) : Int × ByteArray × Int × Int :=
  if (g8 (vG s 0) || i9 (vG s 0)) = true then
    (if i9 (vG s 0) = true then (if 9 < fE (tC true) s then (0, ⟨#[]⟩, 0, 3) else (2, s.extract 0 (fE (tC true) s), fE (tC true) s, 0))
     else (if 20 < fE (tC false) s then (0, ⟨#[]⟩, 0, 3) else (1, s.extract 0 (fE (tC false) s), fE (tC false) s, 0)))
  else if vG s 0 = 34 then
    (if q = 0 then (0, ⟨#[]⟩, 0, 2) else if 60 < q - 2 then (0, ⟨#[]⟩, 0, 3) else (3, s.extract 1 (q - 1).toNat, q, 0))
  else match signs.find? (uO s) with
    | some l => (4, l, l.size, 0)
    | none => (0, ⟨#[]⟩, 0, 2)
theorem Qb (s:ByteArray)(h1:1≤s.size)(hs:s.size≤100000)(q:Int)(hq0:0≤q)(hq1:q≠1)(hq2:q≤s.size)(hq:Pure Tryz.prog 431 [.str s,dI 0] (dI q)) :
  Pure Tryz.prog 388 [.str s,dI 0] (.tup [.agg [dI (zE q s).1,.str (zE q s).2.1,dI 0],dI (zE q s).2.2.1,dI (zE q s).2.2.2]):=by
 have hb:((s.data[0]?.getD 0).toNat:Int)=vG s 0:=rfl
 refine aR (aG (cfg:=⟨fun t=>t==4,fun r=>match r with|22=>[(7,10),(8,10),(9,10)]|_=>[]⟩) Tz.mixed Tryz.func388 rfl rfl (aE rfl) (by kernel_rfl) ?_)
 simp [go_sem,seval,dI,hb]
 refine ⟨by omega,aB (Ba _) rfl ?_⟩
 simp [go_sem,seval,dI]
 refine aO (fun _=>rN _) (fun _=>rfl) ?_
 simp [go_sem,seval,dI]
 refine aK (fun hld=>?_) (fun hld=>?_)
 ·simp [go_sem,seval]
  refine aB (rN _) rfl ?_
  simp [go_sem,seval]
  refine aB (Qa s _ (by omega)) rfl ?_
  simp [go_sem,seval,dI]
  refine aB (rN _) rfl ?_
  simp [go_sem,seval]
  refine aK (fun hd=>?_) (fun hd=>?_)
  ·simp [go_sem,seval]
   rw [hd]
   have hr:=Cm (tC true) s
   refine aK (fun h=>?_) (fun h=>?_)
   ·simp at h
    simp [go_sem,seval,zE,hd,show 9<fE (tC true) s by omega]
   ·simp at h
    simp [go_sem,seval,zE,hd,show ¬ 9<fE (tC true) s by omega]
    exact ⟨cW (by omega) (by omega),by omega⟩
  ·have hd':i9 (vG s 0)=false:=by simpa using hd
   simp [go_sem,seval]
   rw [hd']
   have hr:=Cm (tC false) s
   have hl:g8 (vG s 0)=true:=by simpa [hd'] using hld
   refine aK (fun h=>?_) (fun h=>?_)
   ·simp at h
    simp [go_sem,seval,zE,hd',hl,show 20<fE (tC false) s by omega]
   ·simp at h
    simp [go_sem,seval,zE,hd',hl,show ¬ 20<fE (tC false) s by omega]
    exact ⟨cW (by omega) (by omega),by omega⟩
 ·have hld':¬ (g8 (vG s 0)||i9 (vG s 0))=true:=by simp at hld;simp [hld]
  simp [go_sem,seval]
  refine aK (fun h34=>?_) (fun h34=>?_)
  ·simp at h34
   simp [go_sem,seval]
   refine aB hq rfl ?_
   simp [go_sem,seval,dI]
   have e:zE q s=(if q=0 then (0,⟨#[]⟩,0,2) else if 60<q - 2 then (0,⟨#[]⟩,0,3) else (3,s.extract 1 (q - 1).toNat,q,0)):=by
    unfold zE;rw [if_neg hld',if_pos h34]
   rw [e]
   refine aK (fun hz=>?_) (fun hz=>?_)
   ·simp at hz
    simp [go_sem,seval,hz]
   ·simp at hz
    simp [go_sem,seval,hz]
    refine ⟨cW (by omega) (by omega),eW (fun h6=>?_) (fun h6=>?_)⟩
    ·simp [go_sem,seval,h6]
    ·simp [go_sem,seval,h6]
     exact ⟨cW (by omega) (by omega),cW (by omega) (by omega),cW (by omega) (by omega),by omega,by omega⟩
  ·simp at h34
   simp [go_sem,seval]
   refine aB LA rfl ?_
   simp [go_sem,seval,dI]
   have e:zE q s=(match signs.find? (uO s) with|some l=>(4,l,l.size,0)|none=>(0,⟨#[]⟩,0,2)):=by
    unfold zE;rw [if_neg hld',if_neg h34]
   rw [e]
   refine eO (ι:=Nat) (fun n e H=>(∃ ty,H.get 0=some ⟨ty,3,[[dI 0,.str ⟨#[]⟩,dI 0]],false⟩)∧n≤signs.length∧e 0=.str s∧e 1=dI 0∧e 4=.ptr 0 1 0 0∧e 12=o3 signs∧e 13=dI n∧(∀ j l,j<n→signs[j]?=some l→uO s l=false)) (fun n=>signs.length - n) 0 (by simp [go_sem,seval,dI]) ?_
   intro n e H ⟨⟨ty,hH⟩,hn,h0,h1',h4,h12,h13,hp⟩
   simp [go_sem,seval,h0,h1',h4,h12,h13,dI,hH,o3]
   intro hlen
   refine eW (fun hlt=>?_) (fun hge=>?_)
   ·simp [go_sem,seval,h0,h1',h4,h12,h13,dI,hH,o3,hlt,cS]
    have hz2:signs[n].size≤2:=(show ∀ l∈signs,l.size≤2 by decide) _ (aC hlt)
    refine ⟨cW (by omega) (by omega),fun _=>cW (by omega) (by omega),aK (fun hc=>?_) (fun hc=>?_)⟩
    ·have hs1:uO s signs[n]=true:=by simpa [uO] using hc
     have hf:signs.find? (uO s)=some signs[n]:=by
      rw [List.find?_eq_some_iff_getElem]
      refine ⟨hs1,n,hlt,rfl,fun j hj=>?_⟩
      simpa using hp j _ hj (aA (by omega))
     simp [go_sem,seval,h0,h1',h4,h12,h13,dI,hH,o3,hlt,cS,hf]
    ·have hs1:uO s signs[n]=false:=by simpa [uO] using hc
     simp [go_sem,seval,h0,h1',h4,h12,h13,dI,hH,o3]
     have hsl:signs.length=25:=rfl
     refine ⟨cW (by omega) (by omega),n+1,by omega,by omega,by omega,fun j l hj hl=>?_⟩
     rcases bZ j n with hj'|hj'
     ·exact hp j l hj' hl
     ·have:j=n:=by omega
      subst this
      rw [aA hlt] at hl
      cases hl;exact hs1
   ·simp [go_sem,seval,h0,h1',h4,h12,h13,dI,hH,o3]
    have:signs.find? (uO s)=none:=by
     rw [List.find?_eq_none]
     intro x hx
     obtain ⟨j,hj,rfl⟩:=aN hx
     simpa using hp j _ (by omega) (aA hj)
    simp [this]
theorem RD (s:ByteArray)(hz:¬ s.size=0)(q:Int):(decide ((zE q s).2.2.2=0)&&(zE q s).2.2.1==(s.size:Int)&&(zE q s).1==1)=fT s:=by
 unfold zE fT
 by_cases hl:g8 (vG s 0)=true
 ·have hdg:i9 (vG s 0)=false:=by simp [g8,i9] at *;omega
  rw [if_pos (by simp [hl])]
  simp only [hdg,hl,Nv]
  by_cases h:20<fE mZ s
  ·simp [h];intros;omega
  ·simp [h,hz,show fE mZ s≤20 by omega]
   rw [aS];simp;omega
 ·have hl':g8 (vG s 0)=false:=by simpa using hl
  simp only [hl']
  repeat' split
  all_goals first|(simp;done)|(simp_all;done)
theorem LB (s:ByteArray)(hs:s.size≤100000):Pure Tryz.prog 333 [.agg [dI 1,.str s,dI 0]] (.bool (fT s)):=by
 by_cases hz:s.size=0
 ·refine aR (aG (cfg:=⟨fun t=>t==4,fun _=>[]⟩) Tz.mixed Tryz.func333 rfl rfl (aE rfl) (by kernel_rfl) ?_)
  simp [go_sem,seval,dI]
  refine aB (Fo s) rfl ?_
  simp [go_sem,seval,dI]
  refine aK (fun h=>?_) (fun h=>?_)
  ·simp [go_sem,seval,fT,hz]
  ·simp [oB,hz] at h
 ·obtain ⟨q,hq0,hq1,hq2,hq⟩:=JF s (by omega) (by omega)
  refine aR (aG (cfg:=⟨fun t=>t==4,fun _=>[]⟩) Tz.mixed Tryz.func333 rfl rfl (aE rfl) (by kernel_rfl) ?_)
  simp [go_sem,seval,dI]
  refine aB (Fo s) rfl ?_
  simp [go_sem,seval,dI]
  refine aK (fun h=>?_) (fun h=>?_)
  ·simp [oB,hz] at h
  ·simp [go_sem,seval]
   refine aB (Qb s (by omega) hs q hq0 hq1 hq2 hq) rfl ?_
   simp [go_sem,seval,dI]
   exact RD s hz q
theorem pL (s:ByteArray)(hs:s.size≤100000):Pure Tryz.prog 237 [.str s] (.bool (fT s)):=by
 refine aR (aG (cfg:=⟨fun _=>false,fun _=>[]⟩) Tz.mixed Tryz.func237 rfl rfl (aE rfl) (by kernel_rfl) ?_)
 simp [go_sem,seval,dI]
 refine aB (LB s hs) rfl ?_
 simp [go_sem,seval,dI]
@[go_sem] theorem r7 (l:List Int):D.clLL (l.map cI)=true:=c4 cI (fun _=>rfl) l
@[go_sem] theorem CP (l:List Edge):D.clLL (l.map Edge.c)=true:=c4 _ Edge.cl l
theorem Hu (xs:List Int)(g:FuncId)(caps:List D)(p:Int→Bool)(hc:D.clL caps=true)(hg:∀ x∈xs,Pure Tryz.prog g (.int .i64 x :: caps) (.bool (p x))) :
  Pure Tryz.prog 198 [.list (xs.map cI),.fn g caps] (dI (CL xs p)):=by
 refine aR (aG (cfg:=⟨fun _=>false,fun _=>[]⟩) Tz.mixed Tryz.func198 rfl rfl (aE rfl) (by kernel_rfl) ?_)
 simp [go_sem,seval,dI,dLI]
 intro hlen
 refine eO (ι:=Nat) (fun i e H=>H=.emp∧i≤xs.length∧e 0=.list (xs.map cI)∧e 1=.fn g caps∧e 7=dI xs.length∧e 8=dI i∧(∀ j x,j<i→xs[j]?=some x→p x=false)) (fun i=>xs.length - i) 0 (by simp [go_sem,seval,dI,dLI]) ?_
 intro i e H ⟨hH,hi,h0,h1,h7,h8,hn⟩
 subst hH
 simp [go_sem,seval,h0,h1,h7,h8,dI,dLI]
 refine eW (fun hlt=>?_) (fun hge=>?_)
 ·have hgx:=hg xs[i] (aC hlt)
  simp [go_sem,seval,h0,h1,h7,h8,dI,dLI,hlt,cI] at hgx ⊢
  refine aB hgx (by simp [go_sem,hc]) ?_
  simp [go_sem,seval,h0,h1,h7,h8,dI,dLI]
  refine aK (fun h=>?_) (fun h=>?_)
  ·simp [go_sem,seval,h0,h1,h7,h8,dI,dLI]
   rw [nZ hn hlt h]
  ·simp [go_sem,seval,h0,h1,h7,h8,dI,dLI]
   refine ⟨cW (by omega) (by omega),i+1,by omega,by omega,by omega,fun j x hj hx=>?_⟩
   rcases bZ j i with hj'|hj'
   ·exact hn j x hj' hx
   ·have:j=i:=by omega
    subst this
    rw [aA hlt] at hx
    cases hx;exact h
 ·simp [go_sem,seval,h0,h1,h7,h8,dI,dLI]
  rw [n3 fun j x hj=>hn j x (by omega)]
theorem fB (xs:List Int)(g:FuncId)(caps:List D)(p:Int→Bool)(hc:D.clL caps=true)(hl:D.cl (.list (xs.map cI))=true)(hg:∀ x∈xs,Pure Tryz.prog g (.int .i64 x :: caps) (.bool (p x))) :
  Pure Tryz.prog 111 [.list (xs.map cI),.fn g caps] (.bool (xs.any p)):=by
 refine aR (aG (cfg:=⟨fun _=>false,fun _=>[]⟩) Tz.mixed Tryz.func111 rfl rfl (aE rfl) (by kernel_rfl) ?_)
 simp [go_sem,seval]
 refine aB (Hu xs g caps p hc hg) (by simp only [D.clL,hl,g6];simp [D.cl,hc]) ?_
 simp [go_sem,seval,dI,qN]
theorem Ec (xs:List Edge)(g:FuncId)(caps:List D)(p:Edge→Bool)(hc:D.clL caps=true)(hg:∀ x∈xs,Pure Tryz.prog g (.agg x.c :: caps) (.bool (p x))) :
  Pure Tryz.prog 260 [.list (xs.map Edge.c),.fn g caps] (dI (CL xs p)):=by
 refine aR (aG (cfg:=⟨fun _=>false,fun _=>[]⟩) Tz.mixed Tryz.func260 rfl rfl (aE rfl) (by kernel_rfl) ?_)
 simp [go_sem,seval,dI,dLI]
 intro hlen
 refine eO (ι:=Nat) (fun i e H=>H=.emp∧i≤xs.length∧e 0=.list (xs.map Edge.c)∧e 1=.fn g caps∧e 7=dI xs.length∧e 8=dI i∧(∀ j x,j<i→xs[j]?=some x→p x=false)) (fun i=>xs.length - i) 0 (by simp [go_sem,seval,dI,dLI]) ?_
 intro i e H ⟨hH,hi,h0,h1,h7,h8,hn⟩
 subst hH
 simp [go_sem,seval,h0,h1,h7,h8,dI,dLI]
 refine eW (fun hlt=>?_) (fun hge=>?_)
 ·have hgx:=hg xs[i] (aC hlt)
  simp [go_sem,seval,h0,h1,h7,h8,dI,dLI,hlt,Edge.c] at hgx ⊢
  refine aB hgx (by simp [go_sem,hc]) ?_
  simp [go_sem,seval,h0,h1,h7,h8,dI,dLI]
  refine aK (fun h=>?_) (fun h=>?_)
  ·simp [go_sem,seval,h0,h1,h7,h8,dI,dLI]
   rw [nZ hn hlt h]
  ·simp [go_sem,seval,h0,h1,h7,h8,dI,dLI]
   refine ⟨cW (by omega) (by omega),i+1,by omega,by omega,by omega,fun j x hj hx=>?_⟩
   rcases bZ j i with hj'|hj'
   ·exact hn j x hj' hx
   ·have:j=i:=by omega
    subst this
    rw [aA hlt] at hx
    cases hx;exact h
 ·simp [go_sem,seval,h0,h1,h7,h8,dI,dLI]
  rw [n3 fun j x hj=>hn j x (by omega)]
theorem jY (xs:List Edge)(g:FuncId)(caps:List D)(p:Edge→Bool)(hc:D.clL caps=true)(hl:D.cl (.list (xs.map Edge.c))=true)(hg:∀ x∈xs,Pure Tryz.prog g (.agg x.c :: caps) (.bool (p x))) :
  Pure Tryz.prog 159 [.list (xs.map Edge.c),.fn g caps] (.bool (xs.any p)):=by
 refine aR (aG (cfg:=⟨fun _=>false,fun _=>[]⟩) Tz.mixed Tryz.func159 rfl rfl (aE rfl) (by kernel_rfl) ?_)
 simp [go_sem,seval]
 refine aB (Ec xs g caps p hc hg) (by simp only [D.clL,hl,g6];simp [D.cl,hc]) ?_
 simp [go_sem,seval,dI,qN]
def gF (n m:Int):Bool:=decide (0≤n)&&decide (n≤m)
theorem By (n m:Int):Pure Tryz.prog 158 [dI n,dI m] (.bool (gF n m)):=by
 refine aR (aG (cfg:=⟨fun _=>false,fun _=>[]⟩) Tz.mixed Tryz.func158 rfl rfl (aE rfl) (by kernel_rfl) ?_)
 simp [go_sem,seval,dI,gF]
def r9 (x:Edge)(n:Int):Bool:=gF x.type 99&&gF x.from_ (n - 1)&&gF x.to_ (n - 1)
theorem Of (x:Edge)(n:Int)(h0:0≤n)(h1:n≤1000000):Pure Tryz.prog 161 [.agg x.c,dI n] (.bool (r9 x n)):=by
 have hw:∀ a b:Int,Pure Tryz.prog 158 [.int .i64 a,.int .i64 b] (.bool (gF a b)):=By
 refine aR (aG (cfg:=⟨fun _=>false,fun _=>[]⟩) Tz.mixed Tryz.func161 rfl rfl (aE rfl) (by kernel_rfl) ?_)
 simp [go_sem,seval,dI,Edge.c]
 refine aB (hw _ _) rfl ?_
 simp [go_sem,seval,dI,Edge.c]
 refine ⟨fun _=>cW (by omega) (by omega),aO (fun _=>hw _ _) (fun _=>rfl) ?_⟩
 simp [go_sem,seval,dI,Edge.c]
 refine ⟨fun _ _=>cW (by omega) (by omega),aO (fun _=>hw _ _) (fun _=>rfl) ?_⟩
 simp [go_sem,seval,r9]
theorem JT (n:Int):Pure Tryz.prog 157 [.int .i64 n] (.bool (!gF n 99)):=by
 have hw:∀ a b:Int,Pure Tryz.prog 158 [.int .i64 a,.int .i64 b] (.bool (gF a b)):=By
 refine aR (aG (cfg:=⟨fun _=>false,fun _=>[]⟩) Tz.mixed Tryz.func157 rfl rfl (aE rfl) (by kernel_rfl) ?_)
 simp [go_sem,seval,dI]
 refine aB (hw _ _) rfl ?_
 simp [go_sem,seval]
theorem JS (g:Graph)(hg:g.nodes.length≤1000000)(x:Edge):Pure Tryz.prog 160 [.agg x.c,.adr g.c] (.bool (!r9 x g.nodes.length)):=by
 have hf:=Of x g.nodes.length (by omega) (by omega)
 simp only [Edge.c,dI] at hf
 refine aR (aG (cfg:=⟨fun _=>false,fun _=>[]⟩) Tz.mixed Tryz.func160 rfl rfl (aE rfl) (by kernel_rfl) ?_)
 simp [go_sem,seval,dI,Edge.c,Graph.c,dLI]
 intro _
 refine aB hf rfl ?_
 simp [go_sem,seval]
def graphF (g:Graph):Int :=
 if 40<g.nodes.length∨80<g.edges.length then 3
 else if (g.nodes.any fun n=>!gF n 99)=true then 6
 else if (g.edges.any fun x=>!r9 x g.nodes.length)=true then 6
 else 0
theorem k8 (g:Graph):Pure Tryz.prog 72 [g.d] (dI (graphF g)):=by
 refine aR (aG (cfg:=⟨fun _=>false,fun _=>[]⟩) Tz.mixed Tryz.func72 rfl rfl (aE rfl) (by kernel_rfl) ?_)
 simp [go_sem,seval,dI,Graph.d,Graph.c,dLI]
 intro _ _
 refine aK (fun h=>?_) (fun h=>?_)
 ·have h':40<g.nodes.length∨80<g.edges.length:=by simp at h;omega
  simp [go_sem,seval,graphF,h']
 ·have h':¬ (40<g.nodes.length∨80<g.edges.length):=by simp at h;omega
  have h1:=fB g.nodes 157 [] (fun n=>!gF n 99) rfl (by simp [D.cl,r7]) (fun n _=>JT n)
  have h2:=jY g.edges 160 [.adr g.c] (fun x=>!r9 x g.nodes.length) (by simp [D.clL,D.cl,Graph.c,r7,CP,dLI]) (by simp [D.cl,CP]) (fun x _=>JS g (by omega) x)
  simp only [Graph.c,dLI] at h2
  simp [go_sem,seval]
  refine aB h1 (by simp [D.clL,D.cl,r7]) ?_
  simp [go_sem,seval]
  refine aK (fun ha=>?_) (fun ha=>?_)
  ·have e:graphF g=6:=by unfold graphF;rw [if_neg h',if_pos ha]
   simp [go_sem,seval,e]
  ·simp [go_sem,seval]
   refine aB h2 (by simp [D.clL,D.cl,r7,CP]) ?_
   simp [go_sem,seval]
   refine aK (fun hb=>?_) (fun hb=>?_)
   ·have e:graphF g=6:=by unfold graphF;rw [if_neg h',if_neg (by rw [ha];simp),if_pos hb]
    simp [go_sem,seval,e]
   ·have e:graphF g=0:=by unfold graphF;rw [if_neg h',if_neg (by rw [ha];simp),if_neg (by rw [hb];simp)]
    simp [go_sem,seval,e]
theorem Fl (n:Int):Pure Tryz.prog 275 [.int .i64 n] (.bool (gF n 99)):=by
 refine aR (aG (cfg:=⟨fun _=>false,fun _=>[]⟩) Tz.mixed Tryz.func275 rfl rfl (aE rfl) (by kernel_rfl) ?_)
 simp [go_sem,seval,gF]
theorem Lw (x:Edge)(n:Int):Pure Tryz.prog 276 [.agg x.c,.int .i64 n] (.bool (r9 x n)):=by
 refine aR (aG (cfg:=⟨fun _=>false,fun _=>[]⟩) Tz.mixed Tryz.func276 rfl rfl (aE rfl) (by kernel_rfl) ?_)
 simp [go_sem,seval,Edge.c,dI]
 refine aB (Fl _) rfl ?_
 simp [go_sem,seval,Edge.c,dI,r9,gF]
 rw [aS];simp;omega
theorem dK {α:Type}(l:List α)(p:α→Bool)(i:Nat)(hi:i<l.length):(l.take (i+1)).any p=((l.take i).any p||p l[i]):=by
 rw [aF hi,s7];simp
theorem kX (g:Graph):Pure Tryz.prog 185 [g.d] (dI (graphF g)):=by
 refine aR (aG (cfg:=⟨fun _=>false,fun _=>[]⟩) Tz.mixed Tryz.func185 rfl rfl (aE rfl) (by kernel_rfl) ?_)
 simp [go_sem,seval,dI,Graph.d,Graph.c,dLI]
 intro _ _
 refine aK (fun h=>?_) (fun h=>?_)
 ·have h':40<g.nodes.length∨80<g.edges.length:=by simp at h;omega
  simp [go_sem,seval,graphF,h']
 ·have h':¬ (40<g.nodes.length∨80<g.edges.length):=by simp at h;omega
  simp [go_sem,seval]
  refine eO (ι:=Nat) (fun i e H=>i≤g.nodes.length∧e 1=.adr g.c∧e 3=dI i∧((g.nodes.take i).any fun n=>!gF n 99)=false) (fun i=>g.nodes.length - i) 0 (by simp [go_sem,seval,dI,Graph.c,dLI]) ?_
  intro i e H ⟨hi,h1,h3,ha⟩
  simp [go_sem,seval,h1,h3,dI,Graph.c,dLI]
  intro _
  refine eW (fun hlt=>?_) (fun hge=>?_)
  ·simp [go_sem,seval,h1,h3,dI,Graph.c,dLI,hlt,cI]
   refine aB (Fl _) rfl ?_
   simp [go_sem,seval]
   refine aK (fun hc=>?_) (fun hc=>?_)
   ·have hany:(g.nodes.any fun n=>!gF n 99)=true:=aX.2 ⟨_,aC hlt,hc⟩
    have e:graphF g=6:=by unfold graphF;rw [if_neg h',if_pos hany]
    simp [go_sem,seval,e]
   ·simp [go_sem,seval,h1,h3,dI,Graph.c,dLI]
    refine ⟨cW (by omega) (by omega),i+1,by omega,by omega,by omega,?_⟩
    have:=dK g.nodes (fun n=>!gF n 99) i hlt
    rw [ha,hc] at this
    simpa using this
  ·simp [go_sem,seval,h1,h3,dI,Graph.c,dLI]
   have ha':(g.nodes.any fun n=>!gF n 99)=false:=by rw [show i=g.nodes.length by omega,HK] at ha;exact ha
   refine eO (ι:=Nat) (fun k e H=>k≤g.edges.length∧e 1=.adr g.c∧e 4=dI k∧((g.edges.take k).any fun x=>!r9 x g.nodes.length)=false) (fun k=>g.edges.length - k) 0 (by simp [go_sem,seval,h1,dI,Graph.c,dLI]) ?_
   intro k e H ⟨hk,h1,h4,hb⟩
   simp [go_sem,seval,h1,h4,dI,Graph.c,dLI]
   intro _
   refine eW (fun hlt=>?_) (fun hge=>?_)
   ·have hr:=Lw g.edges[k] g.nodes.length
    simp only [Edge.c,dI] at hr
    simp [go_sem,seval,h1,h4,dI,Graph.c,dLI,hlt,Edge.c]
    refine aQ hr rfl ?_
    simp [go_sem,seval]
    refine aK (fun hc=>?_) (fun hc=>?_)
    ·have hany:(g.edges.any fun x=>!r9 x g.nodes.length)=true:=aX.2 ⟨_,aC hlt,hc⟩
     have e:graphF g=6:=by unfold graphF;rw [if_neg h',if_neg (by rw [ha'];simp),if_pos hany]
     simp [go_sem,seval,e]
    ·simp [go_sem,seval,h1,h4,dI,Graph.c,dLI]
     refine ⟨cW (by omega) (by omega),k+1,by omega,by omega,by omega,?_⟩
     have:=dK g.edges (fun x=>!r9 x g.nodes.length) k hlt
     rw [hb,hc] at this
     simpa using this
   ·have hb':(g.edges.any fun x=>!r9 x g.nodes.length)=false:=by rw [show k=g.edges.length by omega,HK] at hb;exact hb
    have e:graphF g=0:=by unfold graphF;rw [if_neg h',if_neg (by rw [ha'];simp),if_neg (by rw [hb'];simp)]
    simp [go_sem,seval,e]
attribute [go_sem] dI dLI o3 cI cS Attr.c NodeTy.c EdgeTy.c Types.c Types.d Edge.c Graph.c Graph.d
theorem AF (a b:List D):D.clL (a++b)=(D.clL a&&D.clL b):=by
 induction a with
 | nil=>simp [D.clL]
 | cons x a ih=>simp [D.clL,ih,D0]
@[go_sem] theorem TW (a b:List (List D)):D.clLL (a++b)=(D.clLL a&&D.clLL b):=by
 induction a with
 | nil=>simp [D.clLL]
 | cons x a ih=>simp [D.clLL,ih,D0]
attribute [go_sem] AF
def inF (n low high:Int):Bool:=decide (low≤n)&&decide (n≤high)
theorem l5 (n low high:Int):Pure Tryz.prog 191 [dI n,dI low,dI high] (.bool (inF n low high)):=by
 refine Tz.pK ⟨fun _=>false,fun _=>[]⟩ Tryz.func191 rfl (fun Q hQ=>?_)
 have Y:=trivial
 have Y:=wa Y @inF.eq_1
 exact wo (h:=hQ _ _ wy)
theorem LT {l:List ByteArray}{i:Nat}(hi:i<l.length):mem (l.take i) l[i]=true↔∃ j,j<i∧l[j]?=some l[i]:=by
 rw [dA,List.mem_take_iff_getElem]
 constructor
 ·rintro ⟨j,hj,he⟩
  have hj':j<l.length:=by omega
  exact ⟨j,by omega,by rw [aA hj',he]⟩
 ·rintro ⟨j,hj,he⟩
  have hj':j<l.length:=by omega
  rw [aA hj'] at he
  exact ⟨j,by omega,by simpa using he⟩
theorem lD {p:Nat→Prop}{k:Nat}(h:∀ j,j<k→p j)(hk:p k):∀ j,j<k+1→p j:=fun j hj=>by
 rcases bZ j k with h'|h'
 ·exact h j h'
 ·have:j=k:=by omega
  subst this;exact hk
theorem Ly (l:List ByteArray)(hs:∀ s∈l,s.size≤100000):Pure Tryz.prog 402 [o3 l] (dI (kY l)):=by
 refine Tz.pK ⟨fun _=>false,fun _=>[]⟩ Tryz.func402 rfl (fun Q hQ=>?_)
 have Y:=trivial
 refine fJ (fun h1=>?_) fun h1=>?_
 ·exact wv (h:=hQ _ _ (by simp [go_sem,kY,show 20<l.length by omega]))
 ·refine wv (h:=bP (fun i e H=>(e 0=o3 l∧e 3=dI i)∧(i≤l.length)∧(lT (l.take i) (l.drop i)=kY l)) (fun i=>l.length - i) 0 ⟨wg,wi,(by simp [kY,show ¬ 20<l.length by omega])⟩ fun I0 hI0 i e H hi0=>?_)
  obtain ⟨E0,hi,hn⟩:=hi0
  have Y:=wa Y E0
  refine fJ (fun h4=>?_) fun h4=>?_
  ·rw [fY h4] at hn
   have hsz:=hs _ (aC h4)
   have Y:=wa Y h4
   refine wo (h:=aB (pL _ (by assumption)) wl ?_)
   refine fJ (fun h6=>?_) fun h6=>?_
   ·exact wv (h:=hQ _ _ (by rw [← hn];simp [go_sem,lT,h6]))
   ·refine wv (h:=bP (fun k e H=>(e 0=o3 l∧e 3=dI i∧e 4=dI k)∧(k≤i)∧(∀ j,j<k→l[j]?≠some l[i])) (fun k=>i - k) 0 ⟨wg,wi,(by intro j hj;omega)⟩ fun I2 hI2 k e H hi2=>?_)
    obtain ⟨E2,hk,hne⟩:=hi2
    have Y:=wa Y E2
    refine dO (fun h9=>?_) fun h9=>?_
    ·have hkl:k<l.length:=by omega
     have Y:=wa Y (wa h9 hkl)
     refine fJ (fun h11=>?_) fun h11=>?_
     ·exact wv (h:=hQ _ _ (by have hm:mem (l.take i) l[i]=true:=(LT h4).2 ⟨k,h9,by rw [aA hkl,h11]⟩;rw [← hn];simp [go_sem,lT,h6,hm]))
     ·exact wo (h:=wx hI2 (k+1) ⟨wg,wj,(by exact lD hne (by rw [aA hkl];simpa using h11))⟩)
    ·have hm:¬ mem (l.take i) l[i]=true:=fun hm=>by
      obtain ⟨j,hj,he⟩:=(LT h4).1 hm
      exact hne j (by omega) he
     exact wo (h:=wx hI0 (i+1) ⟨wg,wj,(by rw [← hn,lT,if_neg (by simp [h6]),if_neg hm,aF h4])⟩)
  ·exact wv (h:=hQ _ _ (by rw [← hn,show i=l.length by omega];simp [go_sem,lT]))
def wD (x:Attr):Int :=
 if kY x.names≠0 then kY x.names
 else if (if 0<x.names.length then decide (x.low=0)&&decide (x.high=x.names.length - 1) else decide (-1000000≤x.low)&&decide (x.low≤x.high)&&decide (x.high≤1000000))=true then 0 else 6
theorem D8 (x:Attr)(hx:x.ok):Pure Tryz.prog 351 [.agg x.c] (dI (wD x)):=by
 have hfew:=hx.few
 have hz:x.names=[]→kY x.names=0:=fun h=>by rw [h];rfl
 refine Tz.pK ⟨fun _=>false,fun _=>[]⟩ Tryz.func351 rfl (fun Q hQ=>?_)
 have Y:=trivial
 refine fJ (fun h1=>?_) fun h1=>?_
 ·have hp:¬ 0<x.names.length:=by simp [h1]
  refine wo (h:=aB (l5 _ _ _) wl ?_)
  refine wo (h:=aO (fun hg=>l5 _ _ _) (fun hg=>wl) ?_)
  refine fJ (fun h2=>?_) fun h2=>?_
  ·exact wv (h:=hQ _ _ (by simp [go_sem,wD,hz h1,hp];simp [inF] at h2;omega))
  ·exact wv (h:=hQ _ _ (by simp [go_sem,wD,hz h1,hp];simp [inF] at h2;omega))
 ·have hp:0<x.names.length:=by cases hh:x.names<;>simp_all
  refine wv (h:=aB (Ly x.names hx.names) wl ?_)
  refine dO (fun h6=>?_) fun h6=>?_
  ·exact wv (h:=hQ _ _ (by simp [go_sem,wD,h6]))
  ·refine fJ (fun h8=>?_) fun h8=>?_
   ·exact wv (h:=hQ _ _ (by simp [go_sem,wD,h6,hp];omega))
   ·exact wv (h:=hQ _ _ (by simp [go_sem,wD,h6,hp];omega))
theorem C2 (t:Types)(a:Nat)(ha:a<t.nodes.length)(hp:parentsOK t.nodes a) :
  t.attrs a=(if 0≤t.nodes[a].parent then t.attrs t.nodes[a].parent.toNat else [])++t.nodes[a].attrs:=by
 have hpa:=hp a _ (aY _) (aA ha)
 by_cases h':0≤t.nodes[a].parent
 ·have hlt:t.nodes[a].parent.toNat<a:=by omega
  have:=DV t.nodes t.nodes[a].parent.toNat a (t.nodes[a].parent.toNat+1) (fun j m hj hm=>hp j m (by omega) hm) hlt (by omega)
  simp [Types.attrs,fU,aA ha,h',this]
 ·simp [Types.attrs,fU,aA ha,h']
theorem JE (t:Types)(a:Int)(ha:a<0):Pure Tryz.prog 190 [t.d,dI a] (.list []):=by
 refine Tz.pK ⟨fun t=>t==7,fun r=>match r with|3=>[(0,1),(0,2),(0,3),(0,5),(0,6),(0,7),(0,8),(0,10),(9,10),(0,11),(9,11),(0,13),(9,13),(0,14),(9,14),(0,15),(9,15)]|_=>[]⟩ Tryz.func190 rfl (fun Q hQ=>?_)
 have Y:=ha
 exact wv (h:=hQ _ _ wy)
theorem Dt (t:Types)(ht:t.ok):∀ a:Nat,a<t.nodes.length→parentsOK t.nodes a→Pure Tryz.prog 190 [t.d,dI a] (.list ((t.attrs a).map Attr.c)):=by
 intro a
 induction a using Nat.strongRecOn with
 | _ a ih =>
 intro ha hp
 have hpa:=hp a _ (aY _) (aA ha)
 have hlen:=qX t.nodes (fun n hn=>(ht.nodes n hn).few) (a+1) a
 have hfew:=ht.fewN
 have e:=C2 t a ha hp
 have hc:Pure Tryz.prog 190 [t.d,dI t.nodes[a].parent] (.list (((if 0≤t.nodes[a].parent then t.attrs t.nodes[a].parent.toNat else [])).map Attr.c)):=by
  by_cases h':0≤t.nodes[a].parent
  ·rw [if_pos h']
   have:=ih t.nodes[a].parent.toNat (by omega) (by omega) (fun j m hj hm=>hp j m (by omega) hm)
   rwa [Int.toNat_of_nonneg h'] at this
  ·rw [if_neg h']
   exact JE t _ (by omega)
 have hl2:(if 0≤t.nodes[a].parent then t.attrs t.nodes[a].parent.toNat else []).length+t.nodes[a].attrs.length≤2000000:=by
  have h1:(t.attrs a).length≤1000 * (a+1):=hlen
  rw [e,aI] at h1
  omega
 rw [e]
 generalize (if 0≤t.nodes[a].parent then t.attrs t.nodes[a].parent.toNat else [])=u at *
 refine Tz.pK ⟨fun t=>t==7,fun r=>match r with|3=>[(0,1),(0,2),(0,3),(0,5),(0,6),(0,7),(0,8),(0,10),(9,10),(0,11),(9,11),(0,13),(9,13),(0,14),(9,14),(0,15),(9,15)]|_=>[]⟩ Tryz.func190 rfl (fun Q hQ=>?_)
 have Y:=wa (aA ha) (wa ha ((show ¬ ((a:Int)<0) by omega)))
 refine wo (h:=aQ (hc) wl ?_)
 exact wo (h:=hQ _ _ wy)
theorem Ds (low high:Int):Pure Tryz.prog 352 [dI low,dI high] (.bool (boundedF low high)):=by
 refine Tz.pK ⟨fun _=>false,fun _=>[]⟩ Tryz.func352 rfl (fun Q hQ=>?_)
 have Y:=trivial
 refine wo (h:=aB (l5 _ _ _) wl ?_)
 refine wo (h:=aO (fun hg=>l5 _ _ _) (fun hg=>wl) ?_)
 have Y:=wa Y (wa @boundedF.eq_1 @inF.eq_1)
 exact wo (h:=hQ _ _ wy)
theorem yA {α:Type}{l:List α}{p:α→Bool}{k i:Nat}(hk:k<i)(hl:k<l.length)(h:p l[k]=true):(l.take i).any p=true :=
 aX.2 ⟨l[k],List.mem_take_iff_getElem.2 ⟨k,by omega,rfl⟩,h⟩
theorem vI {α:Type}{l:List α}{p:α→Bool}{k i:Nat}(h:(l.take k).any p=false)(he:k=i):(l.take i).any p=false:=by rw [← he];exact h
def uF (l:List Attr)(k:Nat):Int:=match l[k]? with|some x=>c7 x (l.take k)|none=>0
theorem MQ {l:List Attr}{k:Nat}(h:k<l.length):uF l k=if fT l[k].name=false then 2 else if ((l.take k).any fun y=>decide (y.name=l[k].name))=true then 5 else wD l[k]:=by
 unfold uF;rw [aA h];rfl
theorem fS (f:Nat→Int){k n:Nat}(h:k<n):bR f k (n - k)=if f k≠0 then f k else bR f (k+1) (n - (k+1)):=by
 rw [show n - k=n - (k+1)+1 by omega,bR]
theorem xF (t:Types)(i:Nat)(hi:i<t.nodes.length):f8 t i =
  if fT t.nodes[i].name=false then 2
  else if ((t.nodes.take i).any fun m=>decide (m.name=t.nodes[i].name))=true then 5
  else if (decide (t.nodes[i].parent < -1)||decide ((i:Int)≤t.nodes[i].parent))=true then 6
  else if 4<t.nodes[i].attrs.length then 3
  else if 8<(t.attrs i).length then 3
  else bR (uF (t.attrs i)) ((t.attrs i).length - t.nodes[i].attrs.length) t.nodes[i].attrs.length:=by
 unfold f8;rw [aA hi];rfl
theorem NN (t:Types)(ht:t.ok)(i:Nat)(hi:i<t.nodes.length)(hp:∀ j n,j<i→t.nodes[j]?=some n→n.parent<j):Pure Tryz.prog 278 [t.d,dI i] (dI (f8 t i)):=by
 have hno:=ht.nodes _ (aC hi)
 have hfew:=ht.fewN
 have hF:=xF t i hi
 have hok:∀ x∈t.attrs i,x.ok:=uE t.nodes ht.nodes _ _
 have hal:=qX t.nodes (fun n hn=>(ht.nodes n hn).few) (i+1) i
 have hle:t.nodes[i].attrs.length≤(t.attrs i).length:=by simp [Types.attrs,fU,aA hi]
 refine Tz.pK ⟨fun t=>t==5,fun _=>[]⟩ Tryz.func278 rfl (fun Q hQ=>?_)
 have Y:=wa (aA hi) hi
 refine wo (h:=aB (pL _ hno.name) wl ?_)
 refine fJ (fun h2=>?_) fun h2=>?_
 ·exact wv (h:=hQ _ _ (.inl (by simp [go_sem,hF,h2])))
 ·refine wv (h:=bP (fun k e H=>(e 1=dI i∧e 2=.adr t.c∧e 5=.ptr 0 1 0 0∧e 6=dI k)∧(H.get 0=some ⟨183,4,[t.nodes[i].c],false⟩)∧(0<H.next)∧(k≤i)∧(((t.nodes.take k).any fun m=>decide (m.name=t.nodes[i].name))=false)) (fun k=>i - k) 0 ⟨wg,wn,wn,wi,(by simp)⟩ fun I0 hI0 k e H hi0=>?_)
  obtain ⟨E0,g0_0,n0_0,hk,hne⟩:=hi0
  have Y:=wa Y (wa E0 (wa g0_0 (b5 n0_0)))
  refine dO (fun h5=>?_) fun h5=>?_
  ·have hkl:k<t.nodes.length:=by omega
   have Y:=wa Y (wa h5 hkl)
   refine fJ (fun h7=>?_) fun h7=>?_
   ·exact wv (h:=hQ _ _ (.inl (by have hb:=yA (p:=fun m:NodeTy=>decide (m.name=t.nodes[i].name)) h5 hkl (by simpa using h7);rw [hF,if_neg (by simp [h2]),if_pos hb];simp [go_sem])))
   ·exact wo (h:=wx hI0 (k+1) ⟨wg,wn,wn,wj,(by rw [dK _ _ _ hkl,hne];simpa using h7)⟩)
  ·have hb:=vI hne (show k=i by omega)
   refine wo (h:=aB (l5 _ _ _) wl ?_)
   refine fJ (fun h9=>?_) fun h9=>?_
   ·exact wv (h:=hQ _ _ (.inl (by rw [hF,if_neg (by simp [h2]),if_neg (by simp [hb]),if_pos (by simp [inF] at h9;simp;omega)];simp [go_sem])))
   ·have hr:¬ (decide (t.nodes[i].parent < -1)||decide ((i:Int)≤t.nodes[i].parent))=true:=by simp [inF] at h9;simp;omega
    have hpo:parentsOK t.nodes i:=fun j n hj hn=>by
     rcases bZ j i with h|h
     ·exact hp j n h hn
     ·have:j=i:=by omega
      subst this
      rw [aA hi] at hn
      cases hn;simp at hr;omega
    refine wv (h:=aB (Dt t ht i hi hpo) wl ?_)
    refine fJ (fun h12=>?_) fun h12=>?_
    ·exact wv (h:=hQ _ _ (.inl (by rw [hF,if_neg (by simp [h2]),if_neg (by simp [hb]),if_neg hr];simp [go_sem];omega)))
    ·have hF2:f8 t i=bR (uF (t.attrs i)) ((t.attrs i).length - t.nodes[i].attrs.length) t.nodes[i].attrs.length:=by rw [hF,if_neg (by simp [h2]),if_neg (by simp [hb]),if_neg hr,if_neg (by omega),if_neg (by omega)]
     refine wo (h:=bP (fun k e H=>(e 1=dI i∧e 2=.adr t.c∧e 7=.list ((t.attrs i).map Attr.c)∧e 8=dI k)∧(k≤(t.attrs i).length)∧(bR (uF (t.attrs i)) k ((t.attrs i).length - k)=f8 t i)) (fun k=>(t.attrs i).length - k) ((t.attrs i).length - t.nodes[i].attrs.length) ⟨wg,(by omega),(by rw [hF2];congr 1;omega)⟩ fun I2 hI2 k e H hi2=>?_)
     obtain ⟨E2,hk,hFk⟩:=hi2
     have Y:=wa Y E2
     refine fJ (fun h15=>?_) fun h15=>?_
     ·have hst:=fS (uF (t.attrs i)) h15
      rw [hFk] at hst
      have hE:=MQ h15
      have Y:=wa Y h15
      refine wo (h:=aB (pL _ (hok _ (aC h15)).name) wl ?_)
      refine fJ (fun h17=>?_) fun h17=>?_
      ·refine wv (h:=?_)
       have hE2:uF (t.attrs i) k=2:=by rw [hE,if_pos (by simp [h17])]
       exact hQ _ _ (.inl (by rw [hst,hE2];simp [go_sem]))
      ·refine wv (h:=bP (fun j e H=>(e 1=dI i∧e 2=.adr t.c∧e 7=.list ((t.attrs i).map Attr.c)∧e 8=dI k∧e 9=dI j)∧(j≤k)∧((((t.attrs i).take j).any fun y=>decide (y.name=(t.attrs i)[k].name))=false)) (fun j=>k - j) 0 ⟨wg,wi,(by simp)⟩ fun I4 hI4 j e H hi4=>?_)
       obtain ⟨E4,hj,hne⟩:=hi4
       have Y:=wa Y E4
       refine dO (fun h20=>?_) fun h20=>?_
       ·have hjl:j<(t.attrs i).length:=by omega
        have Y:=wa Y (wa h20 hjl)
        refine fJ (fun h22=>?_) fun h22=>?_
        ·refine wv (h:=?_)
         have hb:=yA (p:=fun y:Attr=>decide (y.name=(t.attrs i)[k].name)) h20 hjl (by simpa using h22)
         have hE2:uF (t.attrs i) k=5:=by rw [hE,if_neg (by simp [h17]),if_pos hb]
         exact hQ _ _ (.inl (by rw [hst,hE2];simp [go_sem]))
        ·exact wo (h:=wx hI4 (j+1) ⟨wg,wj,(by rw [dK _ _ _ hjl,hne];simpa using h22)⟩)
       ·have hb2:=vI hne (show j=k by omega)
        have hE2:uF (t.attrs i) k=wD (t.attrs i)[k]:=by rw [hE,if_neg (by simp [h17]),if_neg (by simp [hb2])]
        rw [hE2] at hst
        refine wo (h:=aB (D8 _ (hok _ (aC h15))) wl ?_)
        refine fJ (fun h25=>?_) fun h25=>?_
        ·exact wv (h:=hQ _ _ (.inl (by rw [hst,if_pos (by simpa using h25)];simp [go_sem])))
        ·exact wo (h:=wx hI2 (k+1) ⟨wg,wj,(by rw [if_neg (by simp [h25])] at hst;rw [← hst])⟩)
     ·exact wv (h:=hQ _ _ (.inl (by rw [← hFk,show (t.attrs i).length - k=0 by omega];rfl)))
theorem Ms (t:Types)(i:Nat)(hi:i<t.edges.length):iO t i =
  if fT t.edges[i].name=false then 2
  else if ((t.edges.take i).any fun y=>decide (y.name=t.edges[i].name))=true then 5
  else if (insideF t t.edges[i].from_&&insideF t t.edges[i].to_&&boundedF t.edges[i].outLow t.edges[i].outHigh&&boundedF t.edges[i].inLow t.edges[i].inHigh)=true then 0 else 6:=by
 unfold iO;rw [aA hi]
theorem u3 (t:Types)(a:Int):inF a 0 ((t.nodes.length:Int) - 1)=insideF t a:=by
 simp only [inF,insideF];rw [aS];simp;omega
theorem NO (t:Types)(ht:t.ok)(i:Nat)(hi:i<t.edges.length):Pure Tryz.prog 279 [t.d,dI i] (dI (iO t i)):=by
 have hno:=ht.edges _ (aC hi)
 have hfew:=ht.fewN
 have hfewE:=ht.fewE
 have hF:=Ms t i hi
 refine Tz.pK ⟨fun t=>t==5,fun _=>[]⟩ Tryz.func279 rfl (fun Q hQ=>?_)
 have Y:=wa (aA hi) hi
 refine wo (h:=aB (pL _ hno.name) wl ?_)
 refine fJ (fun h2=>?_) fun h2=>?_
 ·exact wv (h:=hQ _ _ (by simp [go_sem,hF,h2]))
 ·refine wv (h:=bP (fun k e H=>(e 1=dI i∧e 2=.adr t.c∧e 5=.ptr 0 1 0 0∧e 6=dI k)∧(H.get 0=some ⟨188,7,[t.edges[i].c],false⟩)∧(0<H.next)∧(k≤i)∧(((t.edges.take k).any fun m=>decide (m.name=t.edges[i].name))=false)) (fun k=>i - k) 0 ⟨wg,wn,wn,wi,(by simp)⟩ fun I0 hI0 k e H hi0=>?_)
  obtain ⟨E0,g0_0,n0_0,hk,hne⟩:=hi0
  have Y:=wa Y (wa E0 (wa g0_0 (b5 n0_0)))
  refine dO (fun h5=>?_) fun h5=>?_
  ·have hkl:k<t.edges.length:=by omega
   have Y:=wa Y (wa h5 hkl)
   refine fJ (fun h7=>?_) fun h7=>?_
   ·exact wv (h:=hQ _ _ (by have hb:=yA (p:=fun m:EdgeTy=>decide (m.name=t.edges[i].name)) h5 hkl (by simpa using h7);rw [hF,if_neg (by simp [h2]),if_pos hb];simp [go_sem]))
   ·exact wo (h:=wx hI0 (k+1) ⟨wg,wn,wn,wj,(by rw [dK _ _ _ hkl,hne];simpa using h7)⟩)
  ·have hb:=vI hne (show k=i by omega)
   refine wo (h:=aB (l5 _ _ _) wl ?_)
   refine wo (h:=aO (fun hg=>l5 _ _ _) (fun hg=>wl) ?_)
   refine wo (h:=aO (fun hg=>Ds _ _) (fun hg=>wl) ?_)
   refine wo (h:=aO (fun hg=>Ds _ _) (fun hg=>wl) ?_)
   refine wo (h:=aK (fun h10=>?_) (fun h10=>?_))
   ·skip
    simp only [u3] at h10
    exact wv (h:=hQ _ _ (by rw [hF,if_neg (by simp [h2]),if_neg (by simp [hb])];revert h10;cases insideF t t.edges[i].from_<;>cases insideF t t.edges[i].to_<;>cases boundedF t.edges[i].outLow t.edges[i].outHigh<;>cases boundedF t.edges[i].inLow t.edges[i].inHigh<;>simp [go_sem]))
   ·skip
    simp only [u3] at h10
    exact wv (h:=hQ _ _ (by rw [hF,if_neg (by simp [h2]),if_neg (by simp [hb])];revert h10;cases insideF t t.edges[i].from_<;>cases insideF t t.edges[i].to_<;>cases boundedF t.edges[i].outLow t.edges[i].outHigh<;>cases boundedF t.edges[i].inLow t.edges[i].inHigh<;>simp [go_sem]))
theorem BA (f:Nat→Int)(nm:Nat→ByteArray)(last:ByteArray × Int){k n:Nat}(h:k<n):dM f nm last k (n - k)=if f k≠0 then (nm k,f k) else dM f nm last (k+1) (n - (k+1)):=by
 rw [show n - k=n - (k+1)+1 by omega,dM]
theorem xA (t:Types)(ht:t.ok):Pure Tryz.prog 193 [t.d] (.tup [.str (b9 t).1,dI (b9 t).2]):=by
 have hfew:=ht.fewN
 have hfewE:=ht.fewE
 refine Tz.pK ⟨fun _=>false,fun _=>[]⟩ Tryz.func193 rfl (fun Q hQ=>?_)
 have Y:=trivial
 refine fJ (fun h1=>?_) fun h1=>?_
 ·exact wv (h:=hQ _ _ (by simp [go_sem,b9,h1]))
 ·refine fJ (fun h3=>?_) fun h3=>?_
  ·exact wv (h:=hQ _ _ (by simp [go_sem,b9,h1,show 12<t.nodes.length∨20<t.edges.length by omega]))
  ·have e:b9 t=dM (f8 t) t.nodeName (dM (iO t) t.edgeName (⟨#[]⟩,0) 0 t.edges.length) 0 t.nodes.length:=by simp only [b9];rw [if_neg (by simpa using h1),if_neg (by omega)]
   refine wv (h:=bP (fun i e H=>(e 1=.adr t.c∧e 4=dI i)∧(i≤t.nodes.length)∧(∀ j,j<i→f8 t j=0)∧(dM (f8 t) t.nodeName (dM (iO t) t.edgeName (⟨#[]⟩,0) 0 t.edges.length) i (t.nodes.length - i)=b9 t)) (fun i=>t.nodes.length - i) 0 ⟨wg,wi,(by intro j hj;omega),(by rw [e];rfl)⟩ fun I0 hI0 i e H hi0=>?_)
   obtain ⟨E0,hi,hz,hFk⟩:=hi0
   have Y:=wa Y E0
   refine fJ (fun h6=>?_) fun h6=>?_
   ·have hst:=hFk
    rw [BA _ _ _ h6] at hst
    have Y:=wa Y h6
    refine wv (h:=aB (NN t ht i h6 (fun j n hj hn=>uX t j n (hz j hj) hn)) wl ?_)
    refine dO (fun h9=>?_) fun h9=>?_
    ·exact wo (h:=hQ _ _ (by rw [if_pos (by simpa using h9)] at hst;simp [go_sem,← hst,Types.nodeName,aA h6]))
    ·exact wo (h:=wx hI0 (i+1) ⟨wg,wj,(by exact lD hz (by simpa using h9)),(by rw [if_neg (by simpa using h9)] at hst;exact hst)⟩)
   ·have hE:dM (iO t) t.edgeName (⟨#[]⟩,0) 0 t.edges.length=b9 t:=by rw [← hFk,show t.nodes.length - i=0 by omega];rfl
    refine wv (h:=bP (fun i e H=>(e 1=.adr t.c∧e 6=dI i)∧(i≤t.edges.length)∧(dM (iO t) t.edgeName (⟨#[]⟩,0) i (t.edges.length - i)=b9 t)) (fun i=>t.edges.length - i) 0 ⟨wg,wi,(by exact hE)⟩ fun I2 hI2 i e H hi2=>?_)
    obtain ⟨E2,hi,hFk⟩:=hi2
    have Y:=wa Y E2
    refine fJ (fun h12=>?_) fun h12=>?_
    ·have hst:=hFk
     rw [BA _ _ _ h12] at hst
     have Y:=wa Y h12
     refine wv (h:=aB (NO t ht i h12) wl ?_)
     refine dO (fun h15=>?_) fun h15=>?_
     ·exact wo (h:=hQ _ _ (by rw [if_pos (by simpa using h15)] at hst;simp [go_sem,← hst,Types.edgeName,aA h12]))
     ·exact wo (h:=wx hI2 (i+1) ⟨wg,wj,(by rw [if_neg (by simpa using h15)] at hst;exact hst)⟩)
    ·exact wv (h:=hQ _ _ (by rw [← hFk,show t.edges.length - i=0 by omega];simp [go_sem,dM]))
theorem pT {f:Nat→Int}{nm:Nat→ByteArray}{last:ByteArray × Int}:∀ (n k:Nat),(dM f nm last k n).2=0→(∀ j,k≤j→j<k+n→f j=0)∧last.2=0
 | 0,k,h=>⟨fun j h1 h2=>by omega,h⟩
 | n+1,k,h=>by
  unfold dM at h
  split at h
  ·rename_i hne;exact absurd h hne
  ·rename_i hz
   obtain ⟨a,b⟩:=pT n (k+1) h
   refine ⟨fun j h1 h2=>?_,b⟩
   rcases Nat.eq_or_lt_of_le h1 with h3|h3
   ·subst h3;exact bD fun hne=>hz hne
   ·exact a j h3 (by omega)
structure Types.valid (t:Types):Prop where
 ne:0<t.nodes.length
 fewN:t.nodes.length≤12
 fewE:t.edges.length≤20
 parent:∀ (j:Nat) (n:NodeTy),t.nodes[j]?=some n→n.parent<j
 low:∀ (j:Nat) (n:NodeTy),t.nodes[j]?=some n→-1≤n.parent
 attrs:∀ j,j<t.nodes.length→(t.attrs j).length≤8
 ends:∀ x∈t.edges,insideF t x.from_=true∧insideF t x.to_=true
theorem lY {t:Types}(h:(b9 t).2=0):t.valid:=by
 unfold b9 at h
 split at h
 ·simp at h
 ·rename_i h0
  split at h
  ·simp at h
  ·rename_i h1
   obtain ⟨hN,hE⟩:=pT _ _ h
   obtain ⟨hE,_⟩:=pT _ _ hE
   have hN':∀ j (hj:j<t.nodes.length),f8 t j=0:=fun j hj=>hN j (by omega) (by omega)
   refine ⟨by omega,by omega,by omega,fun j n hn=>?_,fun j n hn=>?_,fun j hj=>?_,fun x hx=>?_⟩
   ·exact uX t j n (hN' j (aL.1 hn).1) hn
   ·have hj:=(aL.1 hn).1
    have h2:=hN' j hj
    rw [xF t j hj] at h2
    have he:t.nodes[j]=n:=(aL.1 hn).2
    rw [he] at h2
    split at h2<;>try (cases h2;done)
    split at h2<;>try (cases h2;done)
    split at h2<;>try (cases h2;done)
    rename_i hr;simp at hr;omega
   ·have h2:=hN' j hj
    rw [xF t j hj] at h2
    split at h2<;>try (cases h2;done)
    split at h2<;>try (cases h2;done)
    split at h2<;>try (cases h2;done)
    split at h2<;>try (cases h2;done)
    split at h2<;>try (cases h2;done)
    omega
   ·obtain ⟨j,hj,rfl⟩:=aN hx
    have h2:=hE j (by omega) (by omega)
    rw [Ms t j hj] at h2
    split at h2<;>try (cases h2;done)
    split at h2<;>try (cases h2;done)
    split at h2<;>try (cases h2;done)
    rename_i hr;simp at hr;exact ⟨hr.1.1.1,hr.1.1.2⟩
theorem Types.valid.parentsOK {t:Types}(h:t.valid)(a:Nat):parentsOK t.nodes a:=fun j n _ hn=>h.parent j n hn
def given2F (t:Types)(a b:Int):Int:=if (b9 t).2≠0 then (b9 t).2 else if (insideF t a&&insideF t b)=true then 0 else 6
theorem Dr (t:Types)(ht:t.ok)(a b:Int):Pure Tryz.prog 189 [t.d,dI a,dI b] (dI (given2F t a b)):=by
 have hfew:=ht.fewN
 refine Tz.pK ⟨fun _=>false,fun _=>[]⟩ Tryz.func189 rfl (fun Q hQ=>?_)
 have Y:=trivial
 refine wv (h:=aB (xA t ht) wl ?_)
 refine dO (fun h2=>?_) fun h2=>?_
 ·have Y:=wa Y (wa h2 @given2F.eq_1)
  exact wv (h:=hQ _ _ wy)
 ·refine wo (h:=aB (l5 _ _ _) wl ?_)
  refine wo (h:=aO (fun hg=>l5 _ _ _) (fun hg=>wl) ?_)
  refine wo (h:=aK (fun h4=>?_) (fun h4=>?_))
  ·skip
   simp only [u3] at h4
   exact wv (h:=hQ _ _ (by revert h4;cases ha:insideF t a<;>cases hb:insideF t b<;>simp [go_sem,given2F,h2,ha,hb]))
  ·skip
   simp only [u3] at h4
   exact wv (h:=hQ _ _ (by revert h4;cases ha:insideF t a<;>cases hb:insideF t b<;>simp [go_sem,given2F,h2,ha,hb]))
def givenF (t:Types)(l:List Int):Int:=if (b9 t).2≠0 then (b9 t).2 else if (l.any fun a=>!insideF t a)=true then 6 else 0
theorem Jc (t:Types)(a:Int):Pure Tryz.prog 262 [dI a,.adr t.c] (.bool (!insideF t a)):=by
 refine Tz.pK ⟨fun _=>false,fun _=>[]⟩ Tryz.func262 rfl (fun Q hQ=>?_)
 have Y:=trivial
 have Y:=wa Y @insideF.eq_1
 exact wo (h:=hQ _ _ wy)
theorem wQ (t:Types)(ht:t.ok)(l:List Int):Pure Tryz.prog 163 [t.d,dLI l] (dI (givenF t l)):=by
 refine Tz.pK ⟨fun _=>false,fun _=>[]⟩ Tryz.func163 rfl (fun Q hQ=>?_)
 have Y:=trivial
 refine wv (h:=aB (mE t ht) wl ?_)
 refine dO (fun h2=>?_) fun h2=>?_
 ·have Y:=wa Y (wa h2 @givenF.eq_1)
  exact wv (h:=hQ _ _ wy)
 ·refine wv (h:=aB (fB l 262 [.adr t.c] (fun a=>!insideF t a) (by simp [go_sem]) (by simp [go_sem]) (fun a _=>Jc t a)) wl ?_)
  refine dO (fun h4=>?_) fun h4=>?_
  ·have Y:=wa Y (wa h2 (wa h4 @givenF.eq_1))
   exact wv (h:=hQ _ _ wy)
  ·have Y:=wa Y (wa h2 (wa h4 @givenF.eq_1))
   exact wv (h:=hQ _ _ wy)
theorem IA (t:Types)(a b:Int):givenF t [a,b]=given2F t a b:=by
 unfold givenF given2F;cases ha:insideF t a<;>cases hb:insideF t b<;>simp [ha,hb]
def FU (nodes:List NodeTy):Nat→Nat→List Int
 | 0,_=>[]
 | f+1,a=>match nodes[a]? with
  | none=>[]
  | some n=>(if 0≤n.parent then FU nodes f n.parent.toNat else [])++[(a:Int)]
def Types.line (t:Types)(a:Nat):List Int:=FU t.nodes (a+1) a
theorem N7 (nodes:List NodeTy):∀ a f g,parentsOK nodes a→a<f→a<g→FU nodes f a=FU nodes g a:=by
 intro a
 induction a using Nat.strongRecOn with
 | _ a ih =>
  intro f g hp hf hg
  obtain ⟨f,rfl⟩:∃ f',f=f'+1:=⟨f - 1,by omega⟩
  obtain ⟨g,rfl⟩:∃ g',g=g'+1:=⟨g - 1,by omega⟩
  unfold FU
  split
  ·rfl
  ·rename_i n hn
   have:=hp a n (aY _) hn
   congr 1
   split
   ·exact ih n.parent.toNat (by omega) f g (fun j m hj hm=>hp j m (by omega) hm) (by omega) (by omega)
   ·rfl
theorem xK (t:Types)(a:Nat)(ha:a<t.nodes.length)(hp:parentsOK t.nodes a) :
  t.line a=(if 0≤t.nodes[a].parent then t.line t.nodes[a].parent.toNat else [])++[(a:Int)]:=by
 have hpa:=hp a _ (aY _) (aA ha)
 by_cases h':0≤t.nodes[a].parent
 ·have hlt:t.nodes[a].parent.toNat<a:=by omega
  have:=N7 t.nodes t.nodes[a].parent.toNat a (t.nodes[a].parent.toNat+1) (fun j m hj hm=>hp j m (by omega) hm) hlt (by omega)
  simp [Types.line,FU,aA ha,h',this]
 ·simp [Types.line,FU,aA ha,h']
end Go.Abs
end
