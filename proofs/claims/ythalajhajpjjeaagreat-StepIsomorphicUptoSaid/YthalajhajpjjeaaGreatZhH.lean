/- Layer 4: types, continued. · Layer 4: types, edges. · Layer  -/
import Derived.Test.YthalajhajpjjeaaGreatZhF
import Derived.Test.YthalajhajpjjeaaGreatZhG
import Derived.Test.YthalajhajpjjeaaGreatZhA
set_option linter.unusedVariables false
set_option linter.unusedSimpArgs false
section
set_option maxRecDepth 100000
set_option maxHeartbeats 4000000
open Go Go.Proofs
namespace Go.Abs
attribute [go_sem] r8
@[go_sem] theorem Zh (l:List ByteArray):D.clLL (l.map cS)=true:=c8 cS (λ_=>rfl) l
theorem GH (xs:List NodeTy)(g:FuncId)(a:List D)(p:NodeTy->Bool)(t:D.clL a=true)(s:∀ x∈xs,Pure Tryz.prog g (.agg x.c :: a) (.bool (p x))) :
  Pure Tryz.prog 363 [.list (xs.map NodeTy.c),.fn g a] (dI (Dk xs p)):=by
 refine aU (aG (cfg:=⟨λ_=>false,λ_=>[]⟩) Tz.mixed Tryz.func363 rfl rfl (aE rfl) (by kernel_rfl) ?_)
 simp [go_sem,seval,dI,dLI]
 intro o
 refine fD (ι:=Nat) (λi e H=>H=.emp/\i<=xs.length/\e 0=.list (xs.map NodeTy.c)/\e 1=.fn g a/\e 7=dI xs.length/\e 8=dI i/\(∀ j x,j<i->xs[j]?=some x->p x=false)) (λi=>xs.length - i) 0 (by simp [go_sem,seval,dI,dLI]) ?_
 intro i e H ⟨u,v,l,k,f,d,n⟩
 subst u
 simp [go_sem,seval,l,k,f,d,dI,dLI]
 refine fL (λb=>?_) (λr=>?_)
 .have hgx:=s xs[i] (aC b)
  simp [go_sem,seval,l,k,f,d,dI,dLI,b,NodeTy.c] at hgx ⊢
  refine aB hgx (by simp [go_sem,t]) ?_
  simp [go_sem,seval,l,k,f,d,dI,dLI]
  refine aP (λh=>?_) (λh=>?_)
  .simp [go_sem,seval,l,k,f,d,dI,dLI]
   rw [o5 n b h]
  .simp [go_sem,seval,l,k,f,d,dI,dLI]
   refine ⟨cZ aD aD,i+1,aD,aD,aD,λj x q m=>?_⟩
   rcases bX j i with hj'|hj'
   .exact n j x hj' m
   .have:j=i:=aD
    subst this
    rw [aA b] at m
    cases m;exact h
 .simp [go_sem,seval,l,k,f,d,dI,dLI]
  rw [o6 λj x q=>n j x aD]
theorem Cn (xs:List NodeTy)(g:FuncId)(a:List D)(p:NodeTy->Bool)(b:D.clL a=true)(d:D.cl (.list (xs.map NodeTy.c))=true)(e:∀ x∈xs,Pure Tryz.prog g (.agg x.c :: a) (.bool (p x))) :
  Pure Tryz.prog 296 [.list (xs.map NodeTy.c),.fn g a] (.bool (xs.any p)):=by
 refine aU (aG (cfg:=⟨λ_=>false,λ_=>[]⟩) Tz.mixed Tryz.func296 rfl rfl (aE rfl) (by kernel_rfl) ?_)
 simp [go_sem,seval]
 refine aB (GH xs g a p b e) (by simp only [D.clL,d,iT];simp [D.cl,b]) ?_
 simp [go_sem,seval,dI,rW]
theorem GI (xs:List EdgeTy)(g:FuncId)(a:List D)(p:EdgeTy->Bool)(t:D.clL a=true)(s:∀ x∈xs,Pure Tryz.prog g (.agg x.c :: a) (.bool (p x))) :
  Pure Tryz.prog 367 [.list (xs.map EdgeTy.c),.fn g a] (dI (Dk xs p)):=by
 refine aU (aG (cfg:=⟨λ_=>false,λ_=>[]⟩) Tz.mixed Tryz.func367 rfl rfl (aE rfl) (by kernel_rfl) ?_)
 simp [go_sem,seval,dI,dLI]
 intro o
 refine fD (ι:=Nat) (λi e H=>H=.emp/\i<=xs.length/\e 0=.list (xs.map EdgeTy.c)/\e 1=.fn g a/\e 7=dI xs.length/\e 8=dI i/\(∀ j x,j<i->xs[j]?=some x->p x=false)) (λi=>xs.length - i) 0 (by simp [go_sem,seval,dI,dLI]) ?_
 intro i e H ⟨u,v,l,k,f,d,n⟩
 subst u
 simp [go_sem,seval,l,k,f,d,dI,dLI]
 refine fL (λb=>?_) (λr=>?_)
 .have hgx:=s xs[i] (aC b)
  simp [go_sem,seval,l,k,f,d,dI,dLI,b,EdgeTy.c] at hgx ⊢
  refine aB hgx (by simp [go_sem,t]) ?_
  simp [go_sem,seval,l,k,f,d,dI,dLI]
  refine aP (λh=>?_) (λh=>?_)
  .simp [go_sem,seval,l,k,f,d,dI,dLI]
   rw [o5 n b h]
  .simp [go_sem,seval,l,k,f,d,dI,dLI]
   refine ⟨cZ aD aD,i+1,aD,aD,aD,λj x q m=>?_⟩
   rcases bX j i with hj'|hj'
   .exact n j x hj' m
   .have:j=i:=aD
    subst this
    rw [aA b] at m
    cases m;exact h
 .simp [go_sem,seval,l,k,f,d,dI,dLI]
  rw [o6 λj x q=>n j x aD]
theorem Co (xs:List EdgeTy)(g:FuncId)(a:List D)(p:EdgeTy->Bool)(b:D.clL a=true)(d:D.cl (.list (xs.map EdgeTy.c))=true)(e:∀ x∈xs,Pure Tryz.prog g (.agg x.c :: a) (.bool (p x))) :
  Pure Tryz.prog 301 [.list (xs.map EdgeTy.c),.fn g a] (.bool (xs.any p)):=by
 refine aU (aG (cfg:=⟨λ_=>false,λ_=>[]⟩) Tz.mixed Tryz.func301 rfl rfl (aE rfl) (by kernel_rfl) ?_)
 simp [go_sem,seval]
 refine aB (GI xs g a p b e) (by simp only [D.clL,d,iT];simp [D.cl,b]) ?_
 simp [go_sem,seval,dI,rW]
@[go_sem] theorem uU (l:List NodeTy):D.clLL (l.map NodeTy.c)=true:=c8 _ NodeTy.cl l
@[go_sem] theorem vA (l:List EdgeTy):D.clLL (l.map EdgeTy.c)=true:=c8 _ EdgeTy.cl l
theorem Lp (x y:NodeTy):Pure Tryz.prog 297 [.agg y.c,.adr x.c] (.bool (decide (y.name=x.name))):=by
 refine aU (aG (cfg:=⟨λ_=>false,λ_=>[]⟩) Tz.mixed Tryz.func297 rfl rfl (aE rfl) (by kernel_rfl) ?_)
 simp [go_sem,seval,NodeTy.c,dI,qA]
theorem vG (nodes:List NodeTy)(h:∀ n∈nodes,n.ok):∀ f a,∀ x∈gG nodes f a,x.ok
 | 0,a,x,hx=>by simp [gG] at hx
 | f+1,a,x,hx=>by
  unfold gG at hx
  split at hx
  .simp at hx
  .rename_i n hn
   rcases aV.1 hx with hx|hx
   .split at hx
    .exact vG nodes h f _ x hx
    .simp at hx
   .exact (h n (aI hn)).attrs x hx
def bT (f:Nat->Int):Nat->Nat->Int
 | _,0=>0
 | k,n+1=>if f k≠0 then f k else bT f (k+1) n
def gP (t:Types)(i:Nat):Int :=
 match t.nodes[i]? with
 | none=>0
 | some n =>
  if gW n.name=false then 2
  else if ((t.nodes.take i).any λm=>decide (m.name=n.name))=true then 5
  else if (decide (n.parent < -1)||decide ((i:Int)<=n.parent))=true then 6
  else if 4<n.attrs.length then 3
  else if 8<(t.attrs i).length then 3
  else bT (λk=>match (t.attrs i)[k]? with|some x=>dB x ((t.attrs i).take k)|none=>0) ((t.attrs i).length - n.attrs.length) n.attrs.length
theorem N9 (t:Types)(s:t.ok)(i:Nat)(a:i<t.nodes.length)(I:∀ j n,j<i->t.nodes[j]?=some n->n.parent<j):Pure Tryz.prog 219 [t.d,dI i] (dI (gP t i)):=by
 have z:=s.nodes _ (aC a)
 refine aU (aG (cfg:=⟨λt=>t==5,λ_=>[]⟩) Tz.mixed Tryz.func219 rfl rfl (aE rfl) (by kernel_rfl) ?_)
 simp [go_sem,seval,dI,Types.d,Types.c,NodeTy.c,aA a,a]
 refine aB (n4 _ z.name) rfl ?_
 simp [go_sem,seval]
 refine aP (λf=>?_) (λf=>?_)
 .simp at f
  simp [go_sem,seval,gP,aA a,f]
 .simp at f
  simp [go_sem,seval]
  have L:=Cn (t.nodes.take i) 297 [.adr t.nodes[i].c] (λy=>decide (y.name=t.nodes[i].name)) (by simp [D.clL,D.cl,NodeTy.cl]) (by rw [D.cl];exact uU _) (λy _=>Lp t.nodes[i] y)
  refine ⟨⟨aD,by cases t.nodes<;>simp [NodeTy.c]⟩,tK L (by simp [EC,BE,fP,go_sem,NodeTy.c,dI,List.map_take]) (by simp only [D.clL,D.cl,uU,NodeTy.cl];rfl) rfl ?_⟩
  simp [go_sem,seval]
  refine aP (λo=>?_) (λo=>?_)
  .simp [go_sem,seval,gP,aA a,f,o]
  .simp [go_sem,seval,NodeTy.c,dI]
   refine aP (λu=>?_) (λu=>?_)
   .have b:(decide (t.nodes[i].parent < -1)||decide ((i:Int)<=t.nodes[i].parent))=true:=by simpa using u
    simp [go_sem,seval]
    have e:gP t i=6:=by simp only [gP,aA a];rw [if_neg (by simp [f]),if_neg (by simp [o]),if_pos b]
    simp [e]
   .simp at u
    simp [go_sem,seval]
    have b:¬ (decide (t.nodes[i].parent < -1)||decide ((i:Int)<=t.nodes[i].parent))=true:=by simp;omega
    intro G
    refine aP (λF=>?_) (λF=>?_)
    .have h4':4<t.nodes[i].attrs.length:=by simp at F;omega
     simp [go_sem,seval]
     have e:gP t i=3:=by simp only [gP,aA a];rw [if_neg (by simp [f]),if_neg (by simp [o]),if_neg b,if_pos h4']
     simp [e]
    .have h4':¬ 4<t.nodes[i].attrs.length:=by simp at F;omega
     simp [go_sem,seval]
     have v:parentsOK t.nodes i:=λj n M l=>by
      rcases bX j i with h|h
      .exact I j n h l
      .have:j=i:=aD
       subst this
       rw [aA a] at l
       cases l;omega
     have q:=DK t s i a v
     simp only [Types.d,Types.c,dI] at q
     refine aB q.pure (by simp [D.clL,D.cl,uU,vA]) ?_
     simp [go_sem,seval,NodeTy.c,dI]
     intro B
     refine aP (λE=>?_) (λE=>?_)
     .have h8':8<(t.attrs i).length:=by simp at E;omega
      simp [go_sem,seval]
      have e:gP t i=3:=by simp only [gP,aA a];rw [if_neg (by simp [f]),if_neg (by simp [o]),if_neg b,if_neg h4',if_pos h8']
      simp [e]
     .have h8':¬ 8<(t.attrs i).length:=by simp at E;omega
      have e:gP t i=bT (λk=>match (t.attrs i)[k]? with|some x=>dB x ((t.attrs i).take k)|none=>0) ((t.attrs i).length - t.nodes[i].attrs.length) t.nodes[i].attrs.length:=by
       simp only [gP,aA a];rw [if_neg (by simp [f]),if_neg (by simp [o]),if_neg b,if_neg h4',if_neg h8']
      have J:t.nodes[i].attrs.length<=(t.attrs i).length:=by simp [Types.attrs,gG,aA a]
      have w:∀ x∈t.attrs i,x.ok:=vG t.nodes s.nodes _ _
      simp [go_sem,seval,NodeTy.c,dI]
      refine λ_ _=>⟨cZ aD aD,?_⟩
      refine fD (ι:=Nat) (λk e H=>k<=(t.attrs i).length/\e 6=.list ((t.attrs i).map Attr.c)/\e 7=dI k /\
       bT (λk=>match (t.attrs i)[k]? with|some x=>dB x ((t.attrs i).take k)|none=>0) k ((t.attrs i).length - k)=gP t i) (λk=>(t.attrs i).length - k) ((t.attrs i).length - t.nodes[i].attrs.length) ?_ ?_
      .simp [go_sem,seval,dI]
       refine ⟨aD,?_⟩
       rw [e];congr 1;omega
      .intro k e' H ⟨hk,h6,h7,hF⟩
       simp [go_sem,seval,h6,h7,dI]
       intro A
       refine fL (λm=>?_) (λK=>?_)
       .simp [go_sem,seval,h6,h7,dI,m,Attr.c]
        have p:=Ey (t.attrs i)[k] ((t.attrs i).take k) (w _ (aC m))
        simp only [Attr.c,dI,List.map_take] at p
        have C:D.clLL (List.take k (List.map Attr.c (t.attrs i)))=true:=by rw [<- List.map_take];exact r8 _
        refine ⟨⟨hk,by cases t.attrs i<;>simp [Attr.c]⟩,aM p (by simp [D.clL,D.cl,C,Ts]) ?_⟩
        have g:bT (λk=>match (t.attrs i)[k]? with|some x=>dB x ((t.attrs i).take k)|none=>0) k ((t.attrs i).length - k) =
          if dB (t.attrs i)[k] ((t.attrs i).take k)≠0 then dB (t.attrs i)[k] ((t.attrs i).take k) else bT (λk=>match (t.attrs i)[k]? with|some x=>dB x ((t.attrs i).take k)|none=>0) (k+1) ((t.attrs i).length - (k+1)):=by
         rw [(aD:(t.attrs i).length - k=(t.attrs i).length - (k+1)+1),bT,aA m]
        rw [g] at hF
        simp [go_sem,seval]
        refine aP (λr=>?_) (λr=>?_)
        .have hz':dB (t.attrs i)[k] ((t.attrs i).take k)≠0:=by simpa using r
         rw [if_pos hz'] at hF
         simp [go_sem,seval,hF]
        .have hz':¬ dB (t.attrs i)[k] ((t.attrs i).take k)≠0:=by simpa using r
         rw [if_neg hz'] at hF
         simp [go_sem,seval,h6,h7,dI]
         exact ⟨cZ aD aD,k+1,aD,aD,aD,hF⟩
       .simp [go_sem,seval]
        rw [<- hF,(aD:(t.attrs i).length - k=0)];rfl
def boundedF (low high:Int):Bool:=(decide (0<=low)&&decide (low<=40))&&(decide (high = -1)||(decide (low<=high)&&decide (high<=40)))
theorem HC (b a:Int):Pure Tryz.prog 303 [dI b,dI a] (.bool (boundedF b a)):=by
 refine aU (aG (cfg:=⟨λ_=>false,λ_=>[]⟩) Tz.mixed Tryz.func303 rfl rfl (aE rfl) (by kernel_rfl) ?_)
 simp [go_sem,seval,dI,boundedF]
 try omega
theorem Ls (t:Types)(a:Int):Pure Tryz.prog 300 [dI a,.adr t.c] (.bool (decide (0<=a)&&decide (a<t.nodes.length))):=by
 refine aU (aG (cfg:=⟨λ_=>false,λ_=>[]⟩) Tz.mixed Tryz.func300 rfl rfl (aE rfl) (by kernel_rfl) ?_)
 simp [go_sem,seval,dI,Types.c]
theorem Lr (x y:EdgeTy):Pure Tryz.prog 302 [.agg y.c,.adr x.c] (.bool (decide (y.name=x.name))):=by
 refine aU (aG (cfg:=⟨λ_=>false,λ_=>[]⟩) Tz.mixed Tryz.func302 rfl rfl (aE rfl) (by kernel_rfl) ?_)
 simp [go_sem,seval,EdgeTy.c,dI]
def insideF (t:Types)(a:Int):Bool:=decide (0<=a)&&decide (a<t.nodes.length)
def jL (t:Types)(i:Nat):Int :=
 match t.edges[i]? with
 | none=>0
 | some x =>
  if gW x.name=false then 2
  else if ((t.edges.take i).any λy=>decide (y.name=x.name))=true then 5
  else if (insideF t x.from_&&insideF t x.to_&&boundedF x.outLow x.outHigh&&boundedF x.inLow x.inHigh)=true then 0 else 6
theorem Ob (t:Types)(r:t.ok)(i:Nat)(g:i<t.edges.length):Pure Tryz.prog 220 [t.d,dI i] (dI (jL t i)):=by
 have q:=r.edges _ (aC g)
 have k:D.clLL (List.map NodeTy.c t.nodes)=true:=uU _
 have l:D.clLL (List.map EdgeTy.c t.edges)=true:=vA _
 have j:∀ a:Int,Pure Tryz.prog 300 [.int .i64 a,.adr [.list (t.nodes.map NodeTy.c),.list (t.edges.map EdgeTy.c)]] (.bool (insideF t a)):=Ls t
 have m:∀ a b:Int,Pure Tryz.prog 303 [.int .i64 a,.int .i64 b] (.bool (boundedF a b)):=HC
 refine aU (aG (cfg:=⟨λt=>t==5,λ_=>[]⟩) Tz.mixed Tryz.func220 rfl rfl (aE rfl) (by kernel_rfl) ?_)
 simp [go_sem,seval,dI,Types.d,Types.c,EdgeTy.c,aA g,g]
 refine aB (n4 _ q.name) rfl ?_
 simp [go_sem,seval]
 refine aP (λf=>?_) (λf=>?_)
 .simp at f
  simp [go_sem,seval,jL,aA g,f]
 .simp at f
  simp [go_sem,seval]
  have s:=Co (t.edges.take i) 302 [.adr t.edges[i].c] (λy=>decide (y.name=t.edges[i].name)) (by simp [D.clL,D.cl,EdgeTy.cl]) (by rw [D.cl];exact vA _) (λy _=>Lr t.edges[i] y)
  refine ⟨⟨aD,by cases t.edges<;>simp [EdgeTy.c]⟩,tK s (by simp [EC,BE,fP,go_sem,EdgeTy.c,dI,List.map_take]) (by simp only [D.clL,D.cl,vA,EdgeTy.cl];rfl) rfl ?_⟩
  simp [go_sem,seval]
  refine aP (λn=>?_) (λn=>?_)
  .simp [go_sem,seval,jL,aA g,f,n]
  .simp [go_sem,seval,EdgeTy.c,dI]
   refine aB (j _) (by simp [D.clL,D.cl,k,l]) ?_
   simp [go_sem,seval,EdgeTy.c,dI]
   refine aO (λ_=>j _) (λ_=>by simp [D.clL,D.cl,k,l]) ?_
   simp [go_sem,seval,EdgeTy.c,dI]
   refine aP (λo=>?_) (λo=>?_)
   .have e:jL t i=6:=by
     simp only [jL,aA g];rw [if_neg (by simp [f]),if_neg (by simp [n]),if_neg (by intro h;simp at h;simp [h] at o)]
    simp [go_sem,seval]
    refine aP (λ_=>?_) (λh=>?_)
    .simp [go_sem,seval,e]
    .rw [o] at h;cases h
   .simp [go_sem,seval,EdgeTy.c,dI]
    refine aB (m _ _) rfl ?_
    simp [go_sem,seval,EdgeTy.c,dI]
    refine aO (λ_=>m _ _) (λ_=>rfl) ?_
    simp [go_sem,seval,EdgeTy.c,dI]
    refine aP (λp=>?_) (λp=>?_)
    .have e:jL t i=6:=by
      simp only [jL,aA g];rw [if_neg (by simp [f]),if_neg (by simp [n]),if_neg (by intro h;simp at h;simp [h] at p)]
     simp [go_sem,seval,e]
    .have e:jL t i=0:=by
      simp only [jL,aA g];rw [if_neg (by simp [f]),if_neg (by simp [n]),if_pos (by simp at o p ⊢;simp [o,p])]
     simp [go_sem,seval,e]
theorem vX (t:Types)(j:Nat)(n:NodeTy)(h:gP t j=0)(a:t.nodes[j]?=some n):n.parent<j:=by
 simp only [gP,a] at h
 split at h
 .cases h
 .split at h
  .cases h
  .split at h
   .cases h
   .rename_i hr;simp at hr;omega
def dY (f:Nat->Int)(nm:Nat->ByteArray)(last:ByteArray × Int):Nat->Nat->ByteArray × Int
 | _,0=>last
 | k,n+1=>if f k≠0 then (nm k,f k) else dY f nm last (k+1) n
def Types.nodeName (t:Types)(i:Nat):ByteArray:=match t.nodes[i]? with|some n=>n.name|none=>⟨#[]⟩
def Types.edgeName (t:Types)(i:Nat):ByteArray:=match t.edges[i]? with|some n=>n.name|none=>⟨#[]⟩
def cH (t:Types):ByteArray × Int :=
 if t.nodes.length=0 then (⟨#[]⟩,7)
 else if 12<t.nodes.length\/20<t.edges.length then (⟨#[]⟩,3)
 else dY (gP t) t.nodeName (dY (jL t) t.edgeName (⟨#[]⟩,0) 0 t.edges.length) 0 t.nodes.length
theorem nC (t:Types)(x:t.ok):Pure Tryz.prog 135 [t.d] (.tup [.str (cH t).1,dI (cH t).2]):=by
 refine aU (aG (cfg:=⟨λt=>t==5||t==8,λ_=>[]⟩) Tz.mixed Tryz.func135 rfl rfl (aE rfl) (by kernel_rfl) ?_)
 simp [go_sem,seval,dI,Types.d,Types.c]
 intro y
 refine aP (λs=>?_) (λs=>?_)
 .simp at s
  simp [go_sem,seval,cH,s]
 .simp at s
  simp [go_sem,seval]
  intro _ _
  refine aP (λv=>?_) (λv=>?_)
  .have hb':12<t.nodes.length\/20<t.edges.length:=by simp at v;omega
   simp [go_sem,seval,cH,s,hb']
  .have hb':¬ (12<t.nodes.length\/20<t.edges.length):=by simp at v;omega
   have e:cH t=dY (gP t) t.nodeName (dY (jL t) t.edgeName (⟨#[]⟩,0) 0 t.edges.length) 0 t.nodes.length:=by simp [cH,s,hb']
   simp [go_sem,seval]
   intro _
   refine fD (ι:=Nat) (λi e H=>i<=t.nodes.length/\e 1=.adr t.c/\e 27=.list (t.nodes.map NodeTy.c)/\e 28=dI t.nodes.length/\e 29=dI i/\(∀ j,j<i->gP t j=0) /\
    dY (gP t) t.nodeName (dY (jL t) t.edgeName (⟨#[]⟩,0) 0 t.edges.length) i (t.nodes.length - i)=cH t) (λi=>t.nodes.length - i) 0 (by simp [go_sem,seval,dI,Types.c,e]) ?_
   intro i C H ⟨B,m,l,k,h,w,a⟩
   simp [go_sem,seval,m,l,k,h,dI,Types.c]
   refine fL (λf=>?_) (λu=>?_)
   .simp [go_sem,seval,m,l,k,h,dI,Types.c,NodeTy.c,f]
    have g:=N9 t x i f (λj n z A=>vX t j n (w j z) A)
    simp only [Types.d,Types.c,dI] at g
    have b:dY (gP t) t.nodeName (dY (jL t) t.edgeName (⟨#[]⟩,0) 0 t.edges.length) i (t.nodes.length - i) =
      if gP t i≠0 then (t.nodeName i,gP t i) else dY (gP t) t.nodeName (dY (jL t) t.edgeName (⟨#[]⟩,0) 0 t.edges.length) (i+1) (t.nodes.length - (i+1)):=by
     rw [(aD:t.nodes.length - i=t.nodes.length - (i+1)+1),dY]
    rw [b] at a
    refine aB g (by simp [D.clL,D.cl,uU,vA]) ?_
    simp [go_sem,seval]
    refine aP (λo=>?_) (λo=>?_)
    .have hc':gP t i≠0:=by simpa using o
     rw [if_pos hc'] at a
     simp [go_sem,seval,<- a,Types.nodeName,aA f]
    .have hc':¬ gP t i≠0:=by simpa using o
     rw [if_neg hc'] at a
     simp [go_sem,seval,m,l,k,h,dI,Types.c]
     refine ⟨cZ aD aD,i+1,aD,aD,aD,λj z=>?_,a⟩
     rcases bX j i with hj'|hj'
     .exact w j hj'
     .have:j=i:=aD
      subst this;simpa using hc'
   .simp [go_sem,seval,m,l,k,h,dI,Types.c]
    intro _
    rw [(aD:t.nodes.length - i=0)] at a
    simp only [dY] at a
    refine fD (ι:=Nat) (λi e H=>i<=t.edges.length/\e 1=.adr t.c/\e 44=.list (t.edges.map EdgeTy.c)/\e 45=dI t.edges.length/\e 46=dI i /\
     dY (jL t) t.edgeName (⟨#[]⟩,0) i (t.edges.length - i)=cH t) (λi=>t.edges.length - i) 0 (by simp [go_sem,seval,m,dI,Types.c,a]) ?_
    intro i C H ⟨B,m,r,q,p,a⟩
    simp [go_sem,seval,m,r,q,p,dI,Types.c]
    refine fL (λf=>?_) (λu=>?_)
    .simp [go_sem,seval,m,r,q,p,dI,Types.c,EdgeTy.c,f]
     have g:=Ob t x i f
     simp only [Types.d,Types.c,dI] at g
     have b:dY (jL t) t.edgeName (⟨#[]⟩,0) i (t.edges.length - i) =
       if jL t i≠0 then (t.edgeName i,jL t i) else dY (jL t) t.edgeName (⟨#[]⟩,0) (i+1) (t.edges.length - (i+1)):=by
      rw [(aD:t.edges.length - i=t.edges.length - (i+1)+1),dY]
     rw [b] at a
     refine aB g (by simp [D.clL,D.cl,uU,vA]) ?_
     simp [go_sem,seval]
     refine aP (λo=>?_) (λo=>?_)
     .have hc':jL t i≠0:=by simpa using o
      rw [if_pos hc'] at a
      simp [go_sem,seval,<- a,Types.edgeName,aA f]
     .have hc':¬ jL t i≠0:=by simpa using o
      rw [if_neg hc'] at a
      simp [go_sem,seval,m,r,q,p,dI,Types.c]
      exact ⟨cZ aD aD,i+1,aD,aD,aD,a⟩
    .rw [(aD:t.edges.length - i=0)] at a
     simp only [dY] at a
     simp [go_sem,seval,<- a]
theorem BO (c:Int):Pure Tryz.prog 412 [.int .u8 c] (.bool (iW c)):=by
 refine aU (aG (cfg:=⟨λ_=>false,λ_=>[]⟩) Tz.mixed Tryz.func412 rfl rfl (aE rfl) (by kernel_rfl) ?_)
 simp [go_sem,seval,iW,D.cl]
 try omega
theorem sW (c:Int):Pure Tryz.prog 413 [.int .u8 c] (.bool (j4 c)):=by
 refine aU (aG (cfg:=⟨λ_=>false,λ_=>[]⟩) Tz.mixed Tryz.func413 rfl rfl (aE rfl) (by kernel_rfl) ?_)
 simp [go_sem,seval,j4,D.cl]
def uK (digits:Bool)(c:Int):Bool:=j4 c||(!digits&&(iW c||c==95))
theorem Q9 (s:ByteArray)(f:Bool)(t:s.size<=1000000):Pure Tryz.prog 414 [.str s,dI 0,.bool f] (dI (fW (uK f) s)):=by
 refine aU (aG (cfg:=⟨λ_=>false,λ_=>[]⟩) Tz.mixed Tryz.func414 rfl rfl (aE rfl) (by kernel_rfl) ?_)
 simp [go_sem,seval,dI]
 refine fD (ι:=Nat) (λn e H=>H=.emp/\n<=s.size/\e 0=.str s/\e 1=dI 0/\e 2=.bool f/\e 7=dI n/\(∀ j,j<n->uK f (wL s j)=true)) (λn=>s.size - n) 0 (by simp [go_sem,seval,dI]) ?_
 intro n e H ⟨r,q,l,k,i,g,p⟩
 subst r
 have o:((s.data[n]?.getD 0).toNat:Int)=wL s n:=rfl
 simp [go_sem,seval,l,k,i,g,dI,o]
 refine ⟨cZ aD aD,λ_=>cZ aD aD,aO (λ_=>sW _) (λ_=>rfl) ?_⟩
 simp [go_sem,seval,l,k,i,g,dI,o]
 refine ⟨λ_ _ _=>cZ aD aD,λh _ _=>h,aO (λ_=>BO _) (λ_=>rfl) ?_⟩
 simp [go_sem,seval,l,k,i,g,dI,o]
 refine ⟨λ_ _ _ _=>cZ aD aD,λh _ _ _=>h,λa b c d=>⟨⟨⟨a,b⟩,c⟩,d⟩,λa b c=>⟨⟨a,b⟩,c⟩,λa b=>⟨a,b⟩,aP (λh=>?_) (λh=>?_)⟩
 .have hr:n<s.size/\uK f (wL s n)=true:=by simpa [uK] using h
  simp [go_sem,seval,l,k,i,g,dI]
  refine ⟨cZ aD aD,n+1,aD,aD,aD,λj u=>?_⟩
  rcases bX j n with hj'|hj'
  .exact p j hj'
  .have:j=n:=aD
   subst this;exact hr.2
 .have hr:n<s.size->uK f (wL s n)=false:=by
   intro m
   simp [m] at h
   simp [uK]
   exact h
  simp [go_sem,seval,l,k,i,g,dI]
  rw [Ix _ s n p q hr]
theorem Jm (p:Nat->Bool)(n:Nat):∀ d k,k+d=n->(∀ j,1<=j->j<k->p j=true)->1<=k->∃ k,1<=k/\k<=n/\(∀ j,1<=j->j<k->p j=true)/\(k<n->p k=false)
 | 0,k,h,hp,h1=>⟨k,h1,aD,hp,λh=>by omega⟩
 | d+1,k,h,hp,h1=>by
  cases hk:p k with
  | false=>exact ⟨k,h1,aD,hp,λ_=>hk⟩
  | true =>
   refine Jm p n d (k+1) aD (λj hj hlt=>?_) aD
   rcases bX j k with h|h
   .exact hp j hj h
   .have:j=k:=aD
    subst this;exact hk
theorem Km (s:ByteArray)(c:1<=s.size)(v:s.size<=1000000):∃ n:Int,0<=n/\n≠1/\n<=s.size/\Pure Tryz.prog 415 [.str s,dI 0] (dI n):=by
 obtain ⟨k,t,r,l,m⟩:=Jm (λj=>n8 (wL s j)) s.size (s.size - 1) 1 aD (λj h x=>by omega) aD
 refine ⟨if k<s.size/\wL s k=34 then k+1 else 0,by split<;>omega,by split<;>omega,by split<;>omega,aU (aG (cfg:=⟨λ_=>false,λ_=>[]⟩) Tz.mixed Tryz.func415 rfl rfl (aE rfl) (by kernel_rfl) ?_)⟩
 simp [go_sem,seval,dI]
 refine fD (ι:=Nat) (λn e H=>H=.emp/\1<=n/\n<=k/\e 0=.str s/\e 1=dI 0/\e 5=dI n) (λn=>s.size - n) 1 (by simp [go_sem,seval,dI];omega) ?_
 intro n e H ⟨u,i,w,f,c,d⟩
 subst u
 have q:((s.data[n]?.getD 0).toNat:Int)=wL s n:=rfl
 simp [go_sem,seval,f,c,d,dI,q]
 refine ⟨cZ aD aD,aP (λb=>?_) (λo=>?_)⟩
 .simp at b
  simp [go_sem,seval,f,c,d,dI,q]
  refine ⟨cZ aD aD,b,aP (λg=>?_) (λg=>?_)⟩
  .simp at g
   have a:n=k:=by
    rcases bX n k with h|h
    .have:=l n i h;simp [n8,g] at this
    .omega
   subst a
   simp [go_sem,seval,f,c,d,dI]
   exact ⟨cZ aD aD,λh=>absurd g (h b)⟩
  .simp at g
   simp [go_sem,seval,f,c,d,dI]
   refine aP (λp=>?_) (λp=>?_)
   .simp at p
    have a:n=k:=by
     rcases bX n k with h|h
     .have:=l n i h;simp [n8] at this;omega
     .omega
    subst a
    simp [go_sem,seval,f,c,d,dI]
    omega
   .simp at p
    have a:n<k:=by
     rcases bX n k with h|h
     .exact h
     .have hh:n=k:=aD
      subst hh
      have:=m b;simp [n8] at this;omega
    simp [go_sem,seval,f,c,d,dI]
    exact ⟨cZ aD aD,n+1,aD,aD,aD,aD⟩
 .simp at o
  simp [go_sem,seval,f,c,d,dI]
  omega
def signs:List ByteArray:=IN++[⟨#[123]⟩,⟨#[125]⟩,⟨#[40]⟩,⟨#[41]⟩,⟨#[91]⟩,⟨#[93]⟩,⟨#[44]⟩,⟨#[59]⟩,⟨#[58]⟩,⟨#[61]⟩,⟨#[43]⟩,⟨#[45]⟩,⟨#[42]⟩,⟨#[60]⟩,⟨#[62]⟩,⟨#[33]⟩,⟨#[38]⟩,⟨#[124]⟩,⟨#[46]⟩,⟨#[63]⟩]
theorem Mk:Pure Tryz.prog 416 [] (qA signs):=by
 refine aU (aG (cfg:=⟨λ_=>false,λ_=>[]⟩) Tz.mixed Tryz.func416 rfl rfl (aE rfl) (by kernel_rfl) ?_)
 simp [go_sem,seval,qA,cS,IN,signs]
theorem F3 (s:ByteArray):Pure Tryz.prog 358 [.agg [dI 1,.str s,dI 0]] (.str s):=by
 refine aU (aG (cfg:=⟨λ_=>false,λ_=>[]⟩) Tz.mixed Tryz.func358 rfl rfl (aE rfl) (by kernel_rfl) ?_)
 simp [go_sem,seval,dI]
theorem Oq:uK false=oB:=by
 funext c
 simp [uK,oB,Bool.or_assoc,Bool.or_comm,Bool.or_left_comm]
def vP (s l:ByteArray):Bool:=decide ((l.size:Int)<=s.size)&&decide (s.extract 0 l.size=l)
def Ap (q:Int)(s:ByteArray):Int × ByteArray × Int × Int :=
  if (iW (wL s 0)||j4 (wL s 0))=true then
    (if j4 (wL s 0)=true then (if 9<fW (uK true) s then (0,⟨#[]⟩,0,3) else (2,s.extract 0 (fW (uK true) s),fW (uK true) s,0))
     else (if 20<fW (uK false) s then (0,⟨#[]⟩,0,3) else (1,s.extract 0 (fW (uK false) s),fW (uK false) s,0)))
  else if wL s 0=34 then
    (if q=0 then (0,⟨#[]⟩,0,2) else if 60<q - 2 then (0,⟨#[]⟩,0,3) else (3,s.extract 1 (q - 1).toNat,q,0))
  else match signs.find? (vP s) with
    | some l=>(4,l,l.size,0)
    | none=>(0,⟨#[]⟩,0,2)
theorem Ra (s:ByteArray)(Q:1<=s.size)(O:s.size<=100000)(q:Int)(J:0<=q)(I:q≠1)(G:q<=s.size)(K:Pure Tryz.prog 415 [.str s,dI 0] (dI q)) :
  Pure Tryz.prog 359 [.str s,dI 0] (.tup [.agg [dI (Ap q s).1,.str (Ap q s).2.1,dI 0],dI (Ap q s).2.2.1,dI (Ap q s).2.2.2]):=by
 have N:((s.data[0]?.getD 0).toNat:Int)=wL s 0:=rfl
 refine aU (aG (cfg:=⟨λt=>t==4,λr=>match r with|22=>[(7,10),(8,10),(9,10)]|_=>[]⟩) Tz.mixed Tryz.func359 rfl rfl (aE rfl) (by kernel_rfl) ?_)
 simp [go_sem,seval,dI,N]
 refine ⟨aD,aB (BO _) rfl ?_⟩
 simp [go_sem,seval,dI]
 refine aO (λ_=>sW _) (λ_=>rfl) ?_
 simp [go_sem,seval,dI]
 refine aP (λg=>?_) (λg=>?_)
 .simp [go_sem,seval]
  refine aB (sW _) rfl ?_
  simp [go_sem,seval]
  refine aB (Q9 s _ aD) rfl ?_
  simp [go_sem,seval,dI]
  refine aB (sW _) rfl ?_
  simp [go_sem,seval]
  refine aP (λm=>?_) (λm=>?_)
  .simp [go_sem,seval]
   rw [m]
   have F:=CZ (uK true) s
   refine aP (λh=>?_) (λh=>?_)
   .simp at h
    simp [go_sem,seval,Ap,m,(aD:9<fW (uK true) s)]
   .simp at h
    simp [go_sem,seval,Ap,m,(aD:¬ 9<fW (uK true) s)]
    exact ⟨cZ aD aD,aD⟩
  .have hd':j4 (wL s 0)=false:=by simpa using m
   simp [go_sem,seval]
   rw [hd']
   have F:=CZ (uK false) s
   have i:iW (wL s 0)=true:=by simpa [hd'] using g
   refine aP (λh=>?_) (λh=>?_)
   .simp at h
    simp [go_sem,seval,Ap,hd',i,(aD:20<fW (uK false) s)]
   .simp at h
    simp [go_sem,seval,Ap,hd',i,(aD:¬ 20<fW (uK false) s)]
    exact ⟨cZ aD aD,aD⟩
 .have hld':¬ (iW (wL s 0)||j4 (wL s 0))=true:=by simp at g;simp [g]
  simp [go_sem,seval]
  refine aP (λb=>?_) (λb=>?_)
  .simp at b
   simp [go_sem,seval]
   refine aB K rfl ?_
   simp [go_sem,seval,dI]
   have e:Ap q s=(if q=0 then (0,⟨#[]⟩,0,2) else if 60<q - 2 then (0,⟨#[]⟩,0,3) else (3,s.extract 1 (q - 1).toNat,q,0)):=by
    unfold Ap;rw [if_neg hld',if_pos b]
   rw [e]
   refine aP (λk=>?_) (λk=>?_)
   .simp at k
    simp [go_sem,seval,k]
   .simp at k
    simp [go_sem,seval,k]
    refine ⟨cZ aD aD,fL (λz=>?_) (λz=>?_)⟩
    .simp [go_sem,seval,z]
    .simp [go_sem,seval,z]
     exact ⟨cZ aD aD,cZ aD aD,cZ aD aD,aD,aD⟩
  .simp at b
   simp [go_sem,seval]
   refine aB Mk rfl ?_
   simp [go_sem,seval,dI]
   have e:Ap q s=(match signs.find? (vP s) with|some l=>(4,l,l.size,0)|none=>(0,⟨#[]⟩,0,2)):=by
    unfold Ap;rw [if_neg hld',if_neg b]
   rw [e]
   refine fD (ι:=Nat) (λn e H=>(∃ A,H.get 0=some ⟨A,3,[[dI 0,.str ⟨#[]⟩,dI 0]],false⟩)/\n<=signs.length/\e 0=.str s/\e 1=dI 0/\e 4=.ptr 0 1 0 0/\e 12=qA signs/\e 13=dI n/\(∀ j l,j<n->signs[j]?=some l->vP s l=false)) (λn=>signs.length - n) 0 (by simp [go_sem,seval,dI]) ?_
   intro n e H ⟨⟨A,o⟩,P,u,f,p,d,c,w⟩
   simp [go_sem,seval,u,f,p,d,c,dI,o,qA]
   intro B
   refine fL (λa=>?_) (λL=>?_)
   .simp [go_sem,seval,u,f,p,d,c,dI,o,qA,a,cS]
    have C:signs[n].size<=2:=(show ∀ l∈signs,l.size<=2 by decide) _ (aC a)
    refine ⟨cZ aD aD,λ_=>cZ aD aD,aP (λy=>?_) (λy=>?_)⟩
    .have hs1:vP s signs[n]=true:=by simpa [vP] using y
     have M:signs.find? (vP s)=some signs[n]:=by
      rw [List.find?_eq_some_iff_getElem]
      refine ⟨hs1,n,a,rfl,λj v=>?_⟩
      simpa using w j _ v (aA aD)
     simp [go_sem,seval,u,f,p,d,c,dI,o,qA,a,cS,M]
    .have hs1:vP s signs[n]=false:=by simpa [vP] using y
     simp [go_sem,seval,u,f,p,d,c,dI,o,qA]
     have E:signs.length=25:=rfl
     refine ⟨cZ aD aD,n+1,aD,aD,aD,λj l v i=>?_⟩
     rcases bX j n with hj'|hj'
     .exact w j l hj' i
     .have:j=n:=aD
      subst this
      rw [aA a] at i
      cases i;exact hs1
   .simp [go_sem,seval,u,f,p,d,c,dI,o,qA]
    have:signs.find? (vP s)=none:=by
     rw [List.find?_eq_none]
     intro x D
     obtain ⟨j,v,rfl⟩:=aK D
     simpa using w j _ aD (aA v)
    simp [this]
theorem SW (s:ByteArray)(b:¬ s.size=0)(q:Int):(decide ((Ap q s).2.2.2=0)&&(Ap q s).2.2.1==(s.size:Int)&&(Ap q s).1==1)=gW s:=by
 unfold Ap gW
 by_cases a:iW (wL s 0)=true
 .have hdg:j4 (wL s 0)=false:=by simp [iW,j4] at *;omega
  rw [if_pos (by simp [a])]
  simp only [hdg,a,Oq]
  by_cases h:20<fW oB s
  .simp [h];intros;omega
  .simp [h,b,(aD:fW oB s<=20)]
   rw [aX];simp;omega
 .have hl':iW (wL s 0)=false:=by simpa using a
  simp only [hl']
  repeat' split
  all_goals first|(simp;done)|(simp_all;done)
theorem Ml (s:ByteArray)(e:s.size<=100000):Pure Tryz.prog 286 [.agg [dI 1,.str s,dI 0]] (.bool (gW s)):=by
 by_cases a:s.size=0
 .refine aU (aG (cfg:=⟨λt=>t==4,λ_=>[]⟩) Tz.mixed Tryz.func286 rfl rfl (aE rfl) (by kernel_rfl) ?_)
  simp [go_sem,seval,dI]
  refine aB (F3 s) rfl ?_
  simp [go_sem,seval,dI]
  refine aP (λh=>?_) (λh=>?_)
  .simp [go_sem,seval,gW,a]
  .simp [pH,a] at h
 .obtain ⟨q,d,c,b,f⟩:=Km s aD aD
  refine aU (aG (cfg:=⟨λt=>t==4,λ_=>[]⟩) Tz.mixed Tryz.func286 rfl rfl (aE rfl) (by kernel_rfl) ?_)
  simp [go_sem,seval,dI]
  refine aB (F3 s) rfl ?_
  simp [go_sem,seval,dI]
  refine aP (λh=>?_) (λh=>?_)
  .simp [pH,a] at h
  .simp [go_sem,seval]
   refine aB (Ra s aD e q d c b f) rfl ?_
   simp [go_sem,seval,dI]
   exact SW s a q
theorem qW (s:ByteArray)(a:s.size<=100000):Pure Tryz.prog 210 [.str s] (.bool (gW s)):=by
 refine aU (aG (cfg:=⟨λ_=>false,λ_=>[]⟩) Tz.mixed Tryz.func210 rfl rfl (aE rfl) (by kernel_rfl) ?_)
 simp [go_sem,seval,dI]
 refine aB (Ml s a) rfl ?_
 simp [go_sem,seval,dI]
@[go_sem] theorem qX (l:List Int):D.clLL (l.map cI)=true:=c8 cI (λ_=>rfl) l
@[go_sem] theorem Dn (l:List Edge):D.clLL (l.map Edge.c)=true:=c8 _ Edge.cl l
theorem H8 (xs:List Int)(g:FuncId)(a:List D)(p:Int->Bool)(s:D.clL a=true)(r:∀ x∈xs,Pure Tryz.prog g (.int .i64 x :: a) (.bool (p x))) :
  Pure Tryz.prog 355 [.list (xs.map cI),.fn g a] (dI (Dk xs p)):=by
 refine aU (aG (cfg:=⟨λ_=>false,λ_=>[]⟩) Tz.mixed Tryz.func355 rfl rfl (aE rfl) (by kernel_rfl) ?_)
 simp [go_sem,seval,dI,dLI]
 intro n
 refine fD (ι:=Nat) (λi e H=>H=.emp/\i<=xs.length/\e 0=.list (xs.map cI)/\e 1=.fn g a/\e 7=dI xs.length/\e 8=dI i/\(∀ j x,j<i->xs[j]?=some x->p x=false)) (λi=>xs.length - i) 0 (by simp [go_sem,seval,dI,dLI]) ?_
 intro i e H ⟨t,u,k,f,d,c,m⟩
 subst t
 simp [go_sem,seval,k,f,d,c,dI,dLI]
 refine fL (λb=>?_) (λq=>?_)
 .have hgx:=r xs[i] (aC b)
  simp [go_sem,seval,k,f,d,c,dI,dLI,b,cI] at hgx ⊢
  refine aB hgx (by simp [go_sem,s]) ?_
  simp [go_sem,seval,k,f,d,c,dI,dLI]
  refine aP (λh=>?_) (λh=>?_)
  .simp [go_sem,seval,k,f,d,c,dI,dLI]
   rw [o5 m b h]
  .simp [go_sem,seval,k,f,d,c,dI,dLI]
   refine ⟨cZ aD aD,i+1,aD,aD,aD,λj x o l=>?_⟩
   rcases bX j i with hj'|hj'
   .exact m j x hj' l
   .have:j=i:=aD
    subst this
    rw [aA b] at l
    cases l;exact h
 .simp [go_sem,seval,k,f,d,c,dI,dLI]
  rw [o6 λj x o=>m j x aD]
theorem fT (xs:List Int)(g:FuncId)(a:List D)(p:Int->Bool)(b:D.clL a=true)(c:D.cl (.list (xs.map cI))=true)(d:∀ x∈xs,Pure Tryz.prog g (.int .i64 x :: a) (.bool (p x))) :
  Pure Tryz.prog 281 [.list (xs.map cI),.fn g a] (.bool (xs.any p)):=by
 refine aU (aG (cfg:=⟨λ_=>false,λ_=>[]⟩) Tz.mixed Tryz.func281 rfl rfl (aE rfl) (by kernel_rfl) ?_)
 simp [go_sem,seval]
 refine aB (H8 xs g a p b d) (by simp only [D.clL,c,iT];simp [D.cl,b]) ?_
 simp [go_sem,seval,dI,rW]
theorem EJ (xs:List Edge)(g:FuncId)(a:List D)(p:Edge->Bool)(t:D.clL a=true)(s:∀ x∈xs,Pure Tryz.prog g (.agg x.c :: a) (.bool (p x))) :
  Pure Tryz.prog 369 [.list (xs.map Edge.c),.fn g a] (dI (Dk xs p)):=by
 refine aU (aG (cfg:=⟨λ_=>false,λ_=>[]⟩) Tz.mixed Tryz.func369 rfl rfl (aE rfl) (by kernel_rfl) ?_)
 simp [go_sem,seval,dI,dLI]
 intro o
 refine fD (ι:=Nat) (λi e H=>H=.emp/\i<=xs.length/\e 0=.list (xs.map Edge.c)/\e 1=.fn g a/\e 7=dI xs.length/\e 8=dI i/\(∀ j x,j<i->xs[j]?=some x->p x=false)) (λi=>xs.length - i) 0 (by simp [go_sem,seval,dI,dLI]) ?_
 intro i e H ⟨u,v,l,k,f,d,n⟩
 subst u
 simp [go_sem,seval,l,k,f,d,dI,dLI]
 refine fL (λb=>?_) (λr=>?_)
 .have hgx:=s xs[i] (aC b)
  simp [go_sem,seval,l,k,f,d,dI,dLI,b,Edge.c] at hgx ⊢
  refine aB hgx (by simp [go_sem,t]) ?_
  simp [go_sem,seval,l,k,f,d,dI,dLI]
  refine aP (λh=>?_) (λh=>?_)
  .simp [go_sem,seval,l,k,f,d,dI,dLI]
   rw [o5 n b h]
  .simp [go_sem,seval,l,k,f,d,dI,dLI]
   refine ⟨cZ aD aD,i+1,aD,aD,aD,λj x q m=>?_⟩
   rcases bX j i with hj'|hj'
   .exact n j x hj' m
   .have:j=i:=aD
    subst this
    rw [aA b] at m
    cases m;exact h
 .simp [go_sem,seval,l,k,f,d,dI,dLI]
  rw [o6 λj x q=>n j x aD]
theorem kX (xs:List Edge)(g:FuncId)(a:List D)(p:Edge->Bool)(b:D.clL a=true)(d:D.cl (.list (xs.map Edge.c))=true)(e:∀ x∈xs,Pure Tryz.prog g (.agg x.c :: a) (.bool (p x))) :
  Pure Tryz.prog 306 [.list (xs.map Edge.c),.fn g a] (.bool (xs.any p)):=by
 refine aU (aG (cfg:=⟨λ_=>false,λ_=>[]⟩) Tz.mixed Tryz.func306 rfl rfl (aE rfl) (by kernel_rfl) ?_)
 simp [go_sem,seval]
 refine aB (EJ xs g a p b e) (by simp only [D.clL,d,iT];simp [D.cl,b]) ?_
 simp [go_sem,seval,dI,rW]
def g6 (n m:Int):Bool:=decide (0<=n)&&decide (n<=m)
theorem Cb (n m:Int):Pure Tryz.prog 320 [dI n,dI m] (.bool (g6 n m)):=by
 refine aU (aG (cfg:=⟨λ_=>false,λ_=>[]⟩) Tz.mixed Tryz.func320 rfl rfl (aE rfl) (by kernel_rfl) ?_)
 simp [go_sem,seval,dI,g6]
def tE (x:Edge)(n:Int):Bool:=g6 x.type 99&&g6 x.from_ (n - 1)&&g6 x.to_ (n - 1)
theorem Pg (x:Edge)(n:Int)(f:0<=n)(e:n<=1000000):Pure Tryz.prog 322 [.agg x.c,dI n] (.bool (tE x n)):=by
 have d:∀ a b:Int,Pure Tryz.prog 320 [.int .i64 a,.int .i64 b] (.bool (g6 a b)):=Cb
 refine aU (aG (cfg:=⟨λ_=>false,λ_=>[]⟩) Tz.mixed Tryz.func322 rfl rfl (aE rfl) (by kernel_rfl) ?_)
 simp [go_sem,seval,dI,Edge.c]
 refine aB (d _ _) rfl ?_
 simp [go_sem,seval,dI,Edge.c]
 refine ⟨λ_=>cZ aD aD,aO (λ_=>d _ _) (λ_=>rfl) ?_⟩
 simp [go_sem,seval,dI,Edge.c]
 refine ⟨λ_ _=>cZ aD aD,aO (λ_=>d _ _) (λ_=>rfl) ?_⟩
 simp [go_sem,seval,tE]
theorem KB (n:Int):Pure Tryz.prog 319 [.int .i64 n] (.bool (!g6 n 99)):=by
 have c:∀ a b:Int,Pure Tryz.prog 320 [.int .i64 a,.int .i64 b] (.bool (g6 a b)):=Cb
 refine aU (aG (cfg:=⟨λ_=>false,λ_=>[]⟩) Tz.mixed Tryz.func319 rfl rfl (aE rfl) (by kernel_rfl) ?_)
 simp [go_sem,seval,dI]
 refine aB (c _ _) rfl ?_
 simp [go_sem,seval]
theorem KA (g:Graph)(b:g.nodes.length<=1000000)(x:Edge):Pure Tryz.prog 321 [.agg x.c,.adr g.c] (.bool (!tE x g.nodes.length)):=by
 have a:=Pg x g.nodes.length aD aD
 simp only [Edge.c,dI] at a
 refine aU (aG (cfg:=⟨λ_=>false,λ_=>[]⟩) Tz.mixed Tryz.func321 rfl rfl (aE rfl) (by kernel_rfl) ?_)
 simp [go_sem,seval,dI,Edge.c,Graph.c,dLI]
 intro _
 refine aB a rfl ?_
 simp [go_sem,seval]
def graphF (g:Graph):Int :=
 if 40<g.nodes.length\/80<g.edges.length then 3
 else if (g.nodes.any λn=>!g6 n 99)=true then 6
 else if (g.edges.any λx=>!tE x g.nodes.length)=true then 6
 else 0
theorem l7 (g:Graph):Pure Tryz.prog 227 [g.d] (dI (graphF g)):=by
 refine aU (aG (cfg:=⟨λ_=>false,λ_=>[]⟩) Tz.mixed Tryz.func227 rfl rfl (aE rfl) (by kernel_rfl) ?_)
 simp [go_sem,seval,dI,Graph.d,Graph.c,dLI]
 intro _ _
 refine aP (λh=>?_) (λh=>?_)
 .have h':40<g.nodes.length\/80<g.edges.length:=by simp at h;omega
  simp [go_sem,seval,graphF,h']
 .have h':¬ (40<g.nodes.length\/80<g.edges.length):=by simp at h;omega
  have i:=fT g.nodes 319 [] (λn=>!g6 n 99) rfl (by simp [D.cl,qX]) (λn _=>KB n)
  have f:=kX g.edges 321 [.adr g.c] (λx=>!tE x g.nodes.length) (by simp [D.clL,D.cl,Graph.c,qX,Dn,dLI]) (by simp [D.cl,Dn]) (λx _=>KA g aD x)
  simp only [Graph.c,dLI] at f
  simp [go_sem,seval]
  refine aB i (by simp [D.clL,D.cl,qX]) ?_
  simp [go_sem,seval]
  refine aP (λa=>?_) (λa=>?_)
  .have e:graphF g=6:=by unfold graphF;rw [if_neg h',if_pos a]
   simp [go_sem,seval,e]
  .simp [go_sem,seval]
   refine aB f (by simp [D.clL,D.cl,qX,Dn]) ?_
   simp [go_sem,seval]
   refine aP (λb=>?_) (λb=>?_)
   .have e:graphF g=6:=by unfold graphF;rw [if_neg h',if_neg (by rw [a];simp),if_pos b]
    simp [go_sem,seval,e]
   .have e:graphF g=0:=by unfold graphF;rw [if_neg h',if_neg (by rw [a];simp),if_neg (by rw [b];simp)]
    simp [go_sem,seval,e]
theorem FZ (n:Int):Pure Tryz.prog 267 [.int .i64 n] (.bool (g6 n 99)):=by
 refine aU (aG (cfg:=⟨λ_=>false,λ_=>[]⟩) Tz.mixed Tryz.func267 rfl rfl (aE rfl) (by kernel_rfl) ?_)
 simp [go_sem,seval,g6]
theorem Mh (x:Edge)(n:Int):Pure Tryz.prog 268 [.agg x.c,.int .i64 n] (.bool (tE x n)):=by
 refine aU (aG (cfg:=⟨λ_=>false,λ_=>[]⟩) Tz.mixed Tryz.func268 rfl rfl (aE rfl) (by kernel_rfl) ?_)
 simp [go_sem,seval,Edge.c,dI]
 refine aB (FZ _) rfl ?_
 simp [go_sem,seval,Edge.c,dI,tE,g6]
 rw [aX];simp;omega
theorem dX {α:Type}(l:List α)(p:α->Bool)(i:Nat)(a:i<l.length):(l.take (i+1)).any p=((l.take i).any p||p l[i]):=by
 rw [List.take_succ_eq_append_getElem a,Bp];simp
theorem lU (g:Graph):Pure Tryz.prog 174 [g.d] (dI (graphF g)):=by
 refine aU (aG (cfg:=⟨λ_=>false,λ_=>[]⟩) Tz.mixed Tryz.func174 rfl rfl (aE rfl) (by kernel_rfl) ?_)
 simp [go_sem,seval,dI,Graph.d,Graph.c,dLI]
 intro _ _
 refine aP (λh=>?_) (λh=>?_)
 .have h':40<g.nodes.length\/80<g.edges.length:=by simp at h;omega
  simp [go_sem,seval,graphF,h']
 .have h':¬ (40<g.nodes.length\/80<g.edges.length):=by simp at h;omega
  simp [go_sem,seval]
  refine fD (ι:=Nat) (λi e H=>i<=g.nodes.length/\e 1=.adr g.c/\e 3=dI i/\((g.nodes.take i).any λn=>!g6 n 99)=false) (λi=>g.nodes.length - i) 0 (by simp [go_sem,seval,dI,Graph.c,dLI]) ?_
  intro i e H ⟨s,b,l,p⟩
  simp [go_sem,seval,b,l,dI,Graph.c,dLI]
  intro _
  refine fL (λa=>?_) (λm=>?_)
  .simp [go_sem,seval,b,l,dI,Graph.c,dLI,a,cI]
   refine aB (FZ _) rfl ?_
   simp [go_sem,seval]
   refine aP (λf=>?_) (λf=>?_)
   .have hany:(g.nodes.any λn=>!g6 n 99)=true:=aZ.2 ⟨_,aC a,f⟩
    have e:graphF g=6:=by unfold graphF;rw [if_neg h',if_pos hany]
    simp [go_sem,seval,e]
   .simp [go_sem,seval,b,l,dI,Graph.c,dLI]
    refine ⟨cZ aD aD,i+1,aD,aD,aD,?_⟩
    have:=dX g.nodes (λn=>!g6 n 99) i a
    rw [p,f] at this
    simpa using this
  .simp [go_sem,seval,b,l,dI,Graph.c,dLI]
   have j:(g.nodes.any λn=>!g6 n 99)=false:=by rw [(aD:i=g.nodes.length),nY] at p;exact p
   refine fD (ι:=Nat) (λk e H=>k<=g.edges.length/\e 1=.adr g.c/\e 4=dI k/\((g.edges.take k).any λx=>!tE x g.nodes.length)=false) (λk=>g.edges.length - k) 0 (by simp [go_sem,seval,b,dI,Graph.c,dLI]) ?_
   intro k e H ⟨r,b,q,o⟩
   simp [go_sem,seval,b,q,dI,Graph.c,dLI]
   intro _
   refine fL (λa=>?_) (λm=>?_)
   .have hr:=Mh g.edges[k] g.nodes.length
    simp only [Edge.c,dI] at hr
    simp [go_sem,seval,b,q,dI,Graph.c,dLI,a,Edge.c]
    refine aM hr rfl ?_
    simp [go_sem,seval]
    refine aP (λf=>?_) (λf=>?_)
    .have hany:(g.edges.any λx=>!tE x g.nodes.length)=true:=aZ.2 ⟨_,aC a,f⟩
     have e:graphF g=6:=by unfold graphF;rw [if_neg h',if_neg (by rw [j];simp),if_pos hany]
     simp [go_sem,seval,e]
    .simp [go_sem,seval,b,q,dI,Graph.c,dLI]
     refine ⟨cZ aD aD,k+1,aD,aD,aD,?_⟩
     have:=dX g.edges (λx=>!tE x g.nodes.length) k a
     rw [o,f] at this
     simpa using this
   .have hb':(g.edges.any λx=>!tE x g.nodes.length)=false:=by rw [(aD:k=g.edges.length),nY] at o;exact o
    have e:graphF g=0:=by unfold graphF;rw [if_neg h',if_neg (by rw [j];simp),if_neg (by rw [hb'];simp)]
    simp [go_sem,seval,e]
attribute [go_sem] dI dLI qA cI cS Attr.c NodeTy.c EdgeTy.c Types.c Types.d Edge.c Graph.c Graph.d
theorem Bf (a b:List D):D.clL (a++b)=(D.clL a&&D.clL b):=by
 induction a with
 | nil=>simp [D.clL]
 | cons x a ih=>simp [D.clL,ih,Ew]
@[go_sem] theorem Vy (a b:List (List D)):D.clLL (a++b)=(D.clLL a&&D.clLL b):=by
 induction a with
 | nil=>simp [D.clLL]
 | cons x a ih=>simp [D.clLL,ih,Ew]
attribute [go_sem] Bf
def inF (n low high:Int):Bool:=decide (low<=n)&&decide (n<=high)
theorem mT (n b a:Int):Pure Tryz.prog 214 [dI n,dI b,dI a] (.bool (inF n b a)):=by
 refine Tz.pK ⟨λ_=>false,λ_=>[]⟩ Tryz.func214 rfl (λQ c=>?_)
 have Y:=trivial
 have Y:=wa Y @inF.eq_1
 exact wo (h:=c _ _ wy)
theorem MH {l:List ByteArray}{i:Nat}(d:i<l.length):mem (l.take i) l[i]=true↔∃ j,j<i/\l[j]?=some l[i]:=by
 rw [cQ,List.mem_take_iff_getElem]
 constructor
 .rintro ⟨j,c,b⟩
  have a:j<l.length:=aD
  exact ⟨j,aD,by rw [aA a,b]⟩
 .rintro ⟨j,c,b⟩
  have a:j<l.length:=aD
  rw [aA a] at b
  exact ⟨j,aD,by simpa using b⟩
theorem mB {p:Nat->Prop}{k:Nat}(h:∀ j,j<k->p j)(hk:p k):∀ j,j<k+1->p j:=λj hj=>by
 rcases bX j k with h'|h'
 .exact h j h'
 .have:j=k:=aD
  subst this;exact hk
theorem Mi (l:List ByteArray)(u:∀ s∈l,s.size<=100000):Pure Tryz.prog 354 [qA l] (dI (lY l)):=by
 refine Tz.pK ⟨λ_=>false,λ_=>[]⟩ Tryz.func354 rfl (λQ g=>?_)
 have Y:=trivial
 refine f9 (λx=>?_) λx=>?_
 .exact wv (h:=g _ _ (by simp [go_sem,lY,(aD:20<l.length)]))
 .refine wv (h:=bV (λi e H=>(e 0=qA l/\e 3=dI i)/\(i<=l.length)/\(mN (l.take i) (l.drop i)=lY l)) (λi=>l.length - i) 0 ⟨wg,wi,(by simp [lY,(aD:¬ 20<l.length)])⟩ λD q i e H o=>?_)
  obtain ⟨z,B,d⟩:=o
  have Y:=wa Y z
  refine f9 (λa=>?_) λa=>?_
  .rw [gJ a] at d
   have t:=u _ (aC a)
   have Y:=wa Y a
   refine wo (h:=aB (qW _ (by assumption)) wl ?_)
   refine f9 (λm=>?_) λm=>?_
   .exact wv (h:=g _ _ (by rw [<- d];simp [go_sem,mN,m]))
   .refine wv (h:=bV (λk e H=>(e 0=qA l/\e 3=dI i/\e 4=dI k)/\(k<=i)/\(∀ j,j<k->l[j]?≠some l[i])) (λk=>i - k) 0 ⟨wg,wi,(by intro j v;omega)⟩ λC p k e H n=>?_)
    obtain ⟨y,A,c⟩:=n
    have Y:=wa Y y
    refine d7 (λr=>?_) λr=>?_
    .have hkl:k<l.length:=aD
     have Y:=wa Y (wa r hkl)
     refine f9 (λb=>?_) λb=>?_
     .exact wv (h:=g _ _ (by have f:mem (l.take i) l[i]=true:=(MH a).2 ⟨k,r,by rw [aA hkl,b]⟩;rw [<- d];simp [go_sem,mN,m,f]))
     .exact wo (h:=wx p (k+1) ⟨wg,wj,(by exact mB c (by rw [aA hkl];simpa using b))⟩)
    .have f:¬ mem (l.take i) l[i]=true:=λf=>by
      obtain ⟨j,v,w⟩:=(MH a).1 f
      exact c j aD w
     exact wo (h:=wx q (i+1) ⟨wg,wj,(by rw [<- d,mN,if_neg (by simp [m]),if_neg f,List.take_succ_eq_append_getElem a])⟩)
  .exact wv (h:=g _ _ (by rw [<- d,(aD:i=l.length)];simp [go_sem,mN]))
def xE (x:Attr):Int :=
 if lY x.names≠0 then lY x.names
 else if (if 0<x.names.length then decide (x.low=0)&&decide (x.high=x.names.length - 1) else decide (-1000000<=x.low)&&decide (x.low<=x.high)&&decide (x.high<=1000000))=true then 0 else 6
theorem EF (x:Attr)(g:x.ok):Pure Tryz.prog 277 [.agg x.c] (dI (xE x)):=by
 have i:=g.few
 have f:x.names=[]->lY x.names=0:=λh=>by rw [h];rfl
 refine Tz.pK ⟨λ_=>false,λ_=>[]⟩ Tryz.func277 rfl (λQ a=>?_)
 have Y:=trivial
 refine f9 (λd=>?_) λd=>?_
 .have hp:¬ 0<x.names.length:=by simp [d]
  refine wo (h:=aB (mT _ _ _) wl ?_)
  refine wo (h:=aO (λj=>mT _ _ _) (λj=>wl) ?_)
  refine f9 (λe=>?_) λe=>?_
  .exact wv (h:=a _ _ (by simp [go_sem,xE,f d,hp];simp [inF] at e;omega))
  .exact wv (h:=a _ _ (by simp [go_sem,xE,f d,hp];simp [inF] at e;omega))
 .have hp:0<x.names.length:=by cases l:x.names<;>simp_all
  refine wv (h:=aB (Mi x.names g.names) wl ?_)
  refine d7 (λb=>?_) λb=>?_
  .exact wv (h:=a _ _ (by simp [go_sem,xE,b]))
  .refine f9 (λk=>?_) λk=>?_
   .exact wv (h:=a _ _ (by simp [go_sem,xE,b,hp];omega))
   .exact wv (h:=a _ _ (by simp [go_sem,xE,b,hp];omega))
theorem Dy (t:Types)(a:Nat)(b:a<t.nodes.length)(c:parentsOK t.nodes a) :
  t.attrs a=(if 0<=t.nodes[a].parent then t.attrs t.nodes[a].parent.toNat else [])++t.nodes[a].attrs:=by
 have e:=c a _ (bC _) (aA b)
 by_cases d:0<=t.nodes[a].parent
 .have hlt:t.nodes[a].parent.toNat<a:=aD
  have:=Er t.nodes t.nodes[a].parent.toNat a (t.nodes[a].parent.toNat+1) (λj m g f=>c j m aD f) hlt aD
  simp [Types.attrs,gG,aA b,d,this]
 .simp [Types.attrs,gG,aA b,d]
theorem Kl (t:Types)(a:Int)(b:a<0):Pure Tryz.prog 125 [t.d,dI a] (.list []):=by
 refine Tz.pK ⟨λt=>t==7,λr=>match r with|3=>[(0,1),(0,2),(0,3),(0,5),(0,6),(0,7),(0,8),(0,10),(9,10),(0,11),(9,11),(0,13),(9,13),(0,14),(9,14),(0,15),(9,15)]|_=>[]⟩ Tryz.func125 rfl (λQ c=>?_)
 have Y:=b
 exact wv (h:=c _ _ wy)
theorem DZ (t:Types)(k:t.ok):∀ a:Nat,a<t.nodes.length->parentsOK t.nodes a->Pure Tryz.prog 125 [t.d,dI a] (.list ((t.attrs a).map Attr.c)):=by
 intro a
 induction a using Nat.strongRecOn with
 | _ a ih =>
 intro f g
 have o:=g a _ (bC _) (aA f)
 have b:=sA t.nodes (λn p=>(k.nodes n p).few) (a+1) a
 have l:=k.fewN
 have e:=Dy t a f g
 have v:Pure Tryz.prog 125 [t.d,dI t.nodes[a].parent] (.list (((if 0<=t.nodes[a].parent then t.attrs t.nodes[a].parent.toNat else [])).map Attr.c)):=by
  by_cases i:0<=t.nodes[a].parent
  .rw [if_pos i]
   have:=ih t.nodes[a].parent.toNat aD aD (λj m y q=>g j m aD q)
   rwa [Int.toNat_of_nonneg i] at this
  .rw [if_neg i]
   exact Kl t _ aD
 have s:(if 0<=t.nodes[a].parent then t.attrs t.nodes[a].parent.toNat else []).length+t.nodes[a].attrs.length<=2000000:=by
  have x:(t.attrs a).length<=1000 * (a+1):=b
  rw [e,aJ] at x
  omega
 rw [e]
 generalize (if 0<=t.nodes[a].parent then t.attrs t.nodes[a].parent.toNat else [])=u at *
 refine Tz.pK ⟨λt=>t==7,λr=>match r with|3=>[(0,1),(0,2),(0,3),(0,5),(0,6),(0,7),(0,8),(0,10),(9,10),(0,11),(9,11),(0,13),(9,13),(0,14),(9,14),(0,15),(9,15)]|_=>[]⟩ Tryz.func125 rfl (λQ w=>?_)
 have Y:=wa (aA f) (wa f ((show ¬ ((a:Int)<0) by omega)))
 refine wo (h:=aM (v) wl ?_)
 exact wo (h:=w _ _ wy)
theorem DY (b a:Int):Pure Tryz.prog 278 [dI b,dI a] (.bool (boundedF b a)):=by
 refine Tz.pK ⟨λ_=>false,λ_=>[]⟩ Tryz.func278 rfl (λQ d=>?_)
 have Y:=trivial
 refine wo (h:=aB (mT _ _ _) wl ?_)
 refine wo (h:=aO (λc=>mT _ _ _) (λc=>wl) ?_)
 have Y:=wa Y (wa @boundedF.eq_1 @inF.eq_1)
 exact wo (h:=d _ _ wy)
theorem zC {α:Type}{l:List α}{p:α->Bool}{k i:Nat}(hk:k<i)(hl:k<l.length)(h:p l[k]=true):(l.take i).any p=true :=
 aZ.2 ⟨l[k],List.mem_take_iff_getElem.2 ⟨k,aD,rfl⟩,h⟩
theorem wO {α:Type}{l:List α}{p:α->Bool}{k i:Nat}(h:(l.take k).any p=false)(a:k=i):(l.take i).any p=false:=by rw [<- a];exact h
def vH (l:List Attr)(k:Nat):Int:=match l[k]? with|some x=>dB x (l.take k)|none=>0
theorem NM {l:List Attr}{k:Nat}(h:k<l.length):vH l k=if gW l[k].name=false then 2 else if ((l.take k).any λy=>decide (y.name=l[k].name))=true then 5 else xE l[k]:=by
 unfold vH;rw [aA h];rfl
theorem gF (f:Nat->Int){k n:Nat}(h:k<n):bT f k (n - k)=if f k≠0 then f k else bT f (k+1) (n - (k+1)):=by
 rw [(aD:n - k=n - (k+1)+1),bT]
theorem yL (t:Types)(i:Nat)(a:i<t.nodes.length):gP t i =
  if gW t.nodes[i].name=false then 2
  else if ((t.nodes.take i).any λm=>decide (m.name=t.nodes[i].name))=true then 5
  else if (decide (t.nodes[i].parent < -1)||decide ((i:Int)<=t.nodes[i].parent))=true then 6
  else if 4<t.nodes[i].attrs.length then 3
  else if 8<(t.attrs i).length then 3
  else bT (vH (t.attrs i)) ((t.attrs i).length - t.nodes[i].attrs.length) t.nodes[i].attrs.length:=by
 unfold gP;rw [aA a];rfl
theorem ON (t:Types)(z:t.ok)(i:Nat)(o:i<t.nodes.length)(V:∀ j n,j<i->t.nodes[j]?=some n->n.parent<j):Pure Tryz.prog 195 [t.d,dI i] (dI (gP t i)):=by
 have G:=z.nodes _ (aC o)
 have U:=z.fewN
 have D:=yL t i o
 have A:∀ x∈t.attrs i,x.ok:=vG t.nodes z.nodes _ _
 have a0:=sA t.nodes (λn B=>(z.nodes n B).few) (i+1) i
 have W:t.nodes[i].attrs.length<=(t.attrs i).length:=by simp [Types.attrs,gG,aA o]
 refine Tz.pK ⟨λt=>t==5,λ_=>[]⟩ Tryz.func195 rfl (λQ l=>?_)
 have Y:=wa (aA o) o
 refine wo (h:=aB (qW _ G.name) wl ?_)
 refine f9 (λv=>?_) λv=>?_
 .exact wv (h:=l _ _ (.inl (by simp [go_sem,D,v])))
 .refine wv (h:=bV (λk e H=>(e 1=dI i/\e 2=.adr t.c/\e 5=.ptr 0 1 0 0/\e 6=dI k)/\(H.get 0=some ⟨172,4,[t.nodes[i].c],false⟩)/\(0<H.next)/\(k<=i)/\(((t.nodes.take k).any λm=>decide (m.name=t.nodes[i].name))=false)) (λk=>i - k) 0 ⟨wg,wn,wn,wi,aF⟩ λI0 N k e H K=>?_)
  obtain ⟨E0,E,w,X,b⟩:=K
  have Y:=wa Y (wa E0 (wa E (b8 w)))
  refine d7 (λS=>?_) λS=>?_
  .have hkl:k<t.nodes.length:=aD
   have Y:=wa Y (wa S hkl)
   refine f9 (λR=>?_) λR=>?_
   .exact wv (h:=l _ _ (.inl (by have q:=zC (p:=λm:NodeTy=>decide (m.name=t.nodes[i].name)) S hkl (bS R);rw [D,if_neg (by simp [v]),if_pos q];simp [go_sem])))
   .exact wo (h:=wx N (k+1) ⟨wg,wn,wn,wj,(by rw [dX _ _ _ hkl,b];simpa using R)⟩)
  .have q:=wO b (aD:k=i)
   refine wo (h:=aB (mT _ _ _) wl ?_)
   refine f9 (λP=>?_) λP=>?_
   .exact wv (h:=l _ _ (.inl (by rw [D,if_neg (by simp [v]),if_neg (by simp [q]),if_pos (by simp [inF] at P;simp;omega)];simp [go_sem])))
   .have hr:¬ (decide (t.nodes[i].parent < -1)||decide ((i:Int)<=t.nodes[i].parent))=true:=by simp [inF] at P;simp;omega
    have F:parentsOK t.nodes i:=λj n Z B=>by
     rcases bX j i with h|h
     .exact V j n h B
     .have:j=i:=aD
      subst this
      rw [aA o] at B
      cases B;simp at hr;omega
    refine wv (h:=aB (DZ t z i o F) wl ?_)
    refine f9 (λT=>?_) λT=>?_
    .exact wv (h:=l _ _ (.inl (by rw [D,if_neg (by simp [v]),if_neg (by simp [q]),if_neg hr];simp [go_sem];omega)))
    .have hF2:gP t i=bT (vH (t.attrs i)) ((t.attrs i).length - t.nodes[i].attrs.length) t.nodes[i].attrs.length:=by rw [D,if_neg (by simp [v]),if_neg (by simp [q]),if_neg hr,if_neg aD,if_neg aD]
     refine wo (h:=bV (λk e H=>(e 1=dI i/\e 2=.adr t.c/\e 7=.list ((t.attrs i).map Attr.c)/\e 8=dI k)/\(k<=(t.attrs i).length)/\(bT (vH (t.attrs i)) k ((t.attrs i).length - k)=gP t i)) (λk=>(t.attrs i).length - k) ((t.attrs i).length - t.nodes[i].attrs.length) ⟨wg,aD,(by rw [hF2];congr 1;omega)⟩ λI2 M k e H J=>?_)
     obtain ⟨E2,X,C⟩:=J
     have Y:=wa Y E2
     refine f9 (λa=>?_) λa=>?_
     .have hst:=gF (vH (t.attrs i)) a
      rw [C] at hst
      have O:=NM a
      have Y:=wa Y a
      refine wo (h:=aB (qW _ (A _ (aC a)).name) wl ?_)
      refine f9 (λg=>?_) λg=>?_
      .refine wv (h:=?_)
       have f:vH (t.attrs i) k=2:=by rw [O,if_pos (by simp [g])]
       exact l _ _ (.inl (by rw [hst,f];simp [go_sem]))
      .refine wv (h:=bV (λj e H=>(e 1=dI i/\e 2=.adr t.c/\e 7=.list ((t.attrs i).map Attr.c)/\e 8=dI k/\e 9=dI j)/\(j<=k)/\((((t.attrs i).take j).any λy=>decide (y.name=(t.attrs i)[k].name))=false)) (λj=>k - j) 0 ⟨wg,wi,aF⟩ λI4 L j e H I=>?_)
       obtain ⟨E4,Z,b⟩:=I
       have Y:=wa Y E4
       refine d7 (λu=>?_) λu=>?_
       .have hjl:j<(t.attrs i).length:=aD
        have Y:=wa Y (wa u hjl)
        refine f9 (λs=>?_) λs=>?_
        .refine wv (h:=?_)
         have q:=zC (p:=λy:Attr=>decide (y.name=(t.attrs i)[k].name)) u hjl (bS s)
         have f:vH (t.attrs i) k=5:=by rw [O,if_neg (by simp [g]),if_pos q]
         exact l _ _ (.inl (by rw [hst,f];simp [go_sem]))
        .exact wo (h:=wx L (j+1) ⟨wg,wj,(by rw [dX _ _ _ hjl,b];simpa using s)⟩)
       .have hb2:=wO b (aD:j=k)
        have f:vH (t.attrs i) k=xE (t.attrs i)[k]:=by rw [O,if_neg (by simp [g]),if_neg (by simp [hb2])]
        rw [f] at hst
        refine wo (h:=aB (EF _ (A _ (aC a))) wl ?_)
        refine f9 (λr=>?_) λr=>?_
        .exact wv (h:=l _ _ (.inl (by rw [hst,if_pos (bS r)];simp [go_sem])))
        .exact wo (h:=wx M (k+1) ⟨wg,wj,(by rw [if_neg (by simp [r])] at hst;rw [<- hst])⟩)
     .exact wv (h:=l _ _ (.inl (by rw [<- C,(aD:(t.attrs i).length - k=0)];rfl)))
theorem Nk (t:Types)(i:Nat)(a:i<t.edges.length):jL t i =
  if gW t.edges[i].name=false then 2
  else if ((t.edges.take i).any λy=>decide (y.name=t.edges[i].name))=true then 5
  else if (insideF t t.edges[i].from_&&insideF t t.edges[i].to_&&boundedF t.edges[i].outLow t.edges[i].outHigh&&boundedF t.edges[i].inLow t.edges[i].inHigh)=true then 0 else 6:=by
 unfold jL;rw [aA a]
theorem v8 (t:Types)(a:Int):inF a 0 ((t.nodes.length:Int) - 1)=insideF t a:=by
 simp only [inF,insideF];rw [aX];simp;omega
theorem OO (t:Types)(ht:t.ok)(i:Nat)(hi:i<t.edges.length):Pure Tryz.prog 196 [t.d,dI i] (dI (jL t i)):=by
 have hno:=ht.edges _ (aC hi)
 have hfew:=ht.fewN
 have hfewE:=ht.fewE
 have hF:=Nk t i hi
 refine Tz.pK ⟨λt=>t==5,λ_=>[]⟩ Tryz.func196 rfl (λQ hQ=>?_)
 have Y:=wa (aA hi) hi
 refine wo (h:=aB (qW _ hno.name) wl ?_)
 refine f9 (λh2=>?_) λh2=>?_
 .exact wv (h:=hQ _ _ (by simp [go_sem,hF,h2]))
 .refine wv (h:=bV (λk e H=>(e 1=dI i/\e 2=.adr t.c/\e 5=.ptr 0 1 0 0/\e 6=dI k)/\(H.get 0=some ⟨174,7,[t.edges[i].c],false⟩)/\(0<H.next)/\(k<=i)/\(((t.edges.take k).any λm=>decide (m.name=t.edges[i].name))=false)) (λk=>i - k) 0 ⟨wg,wn,wn,wi,aF⟩ λI0 hI0 k e H hi0=>?_)
  obtain ⟨E0,g0_0,n0_0,hk,hne⟩:=hi0
  have Y:=wa Y (wa E0 (wa g0_0 (b8 n0_0)))
  refine d7 (λh5=>?_) λh5=>?_
  .have hkl:k<t.edges.length:=aD
   have Y:=wa Y (wa h5 hkl)
   refine f9 (λh7=>?_) λh7=>?_
   .exact wv (h:=hQ _ _ (by have hb:=zC (p:=λm:EdgeTy=>decide (m.name=t.edges[i].name)) h5 hkl (bS h7);rw [hF,if_neg (by simp [h2]),if_pos hb];simp [go_sem]))
   .exact wo (h:=wx hI0 (k+1) ⟨wg,wn,wn,wj,(by rw [dX _ _ _ hkl,hne];simpa using h7)⟩)
  .have hb:=wO hne (aD:k=i)
   refine wo (h:=aB (mT _ _ _) wl ?_)
   refine wo (h:=aO (λhg=>mT _ _ _) (λhg=>wl) ?_)
   refine wo (h:=aO (λhg=>DY _ _) (λhg=>wl) ?_)
   refine wo (h:=aO (λhg=>DY _ _) (λhg=>wl) ?_)
   refine wo (h:=aP (λh10=>?_) (λh10=>?_))
   .skip
    simp only [v8] at h10
    exact wv (h:=hQ _ _ (by rw [hF,if_neg (by simp [h2]),if_neg (by simp [hb])];revert h10;cases insideF t t.edges[i].from_<;>cases insideF t t.edges[i].to_<;>cases boundedF t.edges[i].outLow t.edges[i].outHigh<;>cases boundedF t.edges[i].inLow t.edges[i].inHigh<;>simp [go_sem]))
   .skip
    simp only [v8] at h10
    exact wv (h:=hQ _ _ (by rw [hF,if_neg (by simp [h2]),if_neg (by simp [hb])];revert h10;cases insideF t t.edges[i].from_<;>cases insideF t t.edges[i].to_<;>cases boundedF t.edges[i].outLow t.edges[i].outHigh<;>cases boundedF t.edges[i].inLow t.edges[i].inHigh<;>simp [go_sem]))
theorem Ce (f:Nat->Int)(b:Nat->ByteArray)(a:ByteArray × Int){k n:Nat}(h:k<n):dY f b a k (n - k)=if f k≠0 then (b k,f k) else dY f b a (k+1) (n - (k+1)):=by
 rw [(aD:n - k=n - (k+1)+1),dY]
theorem yF (t:Types)(l:t.ok):Pure Tryz.prog 103 [t.d] (.tup [.str (cH t).1,dI (cH t).2]):=by
 have x:=l.fewN
 have r:=l.fewE
 refine Tz.pK ⟨λ_=>false,λ_=>[]⟩ Tryz.func103 rfl (λQ g=>?_)
 have Y:=trivial
 refine f9 (λo=>?_) λo=>?_
 .exact wv (h:=g _ _ (by simp [go_sem,cH,o]))
 .refine f9 (λA=>?_) λA=>?_
  .exact wv (h:=g _ _ (by simp [go_sem,cH,o,(aD:12<t.nodes.length\/20<t.edges.length)]))
  .have e:cH t=dY (gP t) t.nodeName (dY (jL t) t.edgeName (⟨#[]⟩,0) 0 t.edges.length) 0 t.nodes.length:=by simp only [cH];rw [if_neg (bS o),if_neg aD]
   refine wv (h:=bV (λi e H=>(e 1=.adr t.c/\e 4=dI i)/\(i<=t.nodes.length)/\(∀ j,j<i->gP t j=0)/\(dY (gP t) t.nodeName (dY (jL t) t.edgeName (⟨#[]⟩,0) 0 t.edges.length) i (t.nodes.length - i)=cH t)) (λi=>t.nodes.length - i) 0 ⟨wg,wi,(by intro j w;omega),(by rw [e];rfl)⟩ λE u i e H q=>?_)
   obtain ⟨C,z,v,a⟩:=q
   have Y:=wa Y C
   refine f9 (λk=>?_) λk=>?_
   .have hst:=a
    rw [Ce _ _ _ k] at hst
    have Y:=wa Y k
    refine wv (h:=aB (ON t l i k (λj n w y=>vX t j n (v j w) y)) wl ?_)
    refine d7 (λm=>?_) λm=>?_
    .exact wo (h:=g _ _ (by rw [if_pos (bS m)] at hst;simp [go_sem,<- hst,Types.nodeName,aA k]))
    .exact wo (h:=wx u (i+1) ⟨wg,wj,(by exact mB v (bS m)),(by rw [if_neg (bS m)] at hst;exact hst)⟩)
   .have hE:dY (jL t) t.edgeName (⟨#[]⟩,0) 0 t.edges.length=cH t:=by rw [<- a,(aD:t.nodes.length - i=0)];rfl
    refine wv (h:=bV (λi e H=>(e 1=.adr t.c/\e 6=dI i)/\(i<=t.edges.length)/\(dY (jL t) t.edgeName (⟨#[]⟩,0) i (t.edges.length - i)=cH t)) (λi=>t.edges.length - i) 0 ⟨wg,wi,(by exact hE)⟩ λD s i e H p=>?_)
    obtain ⟨B,z,a⟩:=p
    have Y:=wa Y B
    refine f9 (λb=>?_) λb=>?_
    .have hst:=a
     rw [Ce _ _ _ b] at hst
     have Y:=wa Y b
     refine wv (h:=aB (OO t l i b) wl ?_)
     refine d7 (λf=>?_) λf=>?_
     .exact wo (h:=g _ _ (by rw [if_pos (bS f)] at hst;simp [go_sem,<- hst,Types.edgeName,aA b]))
     .exact wo (h:=wx s (i+1) ⟨wg,wj,(by rw [if_neg (bS f)] at hst;exact hst)⟩)
    .exact wv (h:=g _ _ (by rw [<- a,(aD:t.edges.length - i=0)];simp [go_sem,dY]))
theorem q7 {f:Nat->Int}{nm:Nat->ByteArray}{last:ByteArray × Int}:∀ (n k:Nat),(dY f nm last k n).2=0->(∀ j,k<=j->j<k+n->f j=0)/\last.2=0
 | 0,k,h=>⟨λj h1 h2=>by omega,h⟩
 | n+1,k,h=>by
  unfold dY at h
  split at h
  .rename_i hne;exact absurd h hne
  .rename_i hz
   obtain ⟨a,b⟩:=q7 n (k+1) h
   refine ⟨λj h1 h2=>?_,b⟩
   rcases Nat.eq_or_lt_of_le h1 with h3|h3
   .subst h3;exact bA λhne=>hz hne
   .exact a j h3 aD
structure Types.valid (t:Types):Prop where
 ne:0<t.nodes.length
 fewN:t.nodes.length<=12
 fewE:t.edges.length<=20
 parent:∀ (j:Nat) (n:NodeTy),t.nodes[j]?=some n->n.parent<j
 low:∀ (j:Nat) (n:NodeTy),t.nodes[j]?=some n->-1<=n.parent
 attrs:∀ j,j<t.nodes.length->(t.attrs j).length<=8
 ends:∀ x∈t.edges,insideF t x.from_=true/\insideF t x.to_=true
theorem mR {t:Types}(h:(cH t).2=0):t.valid:=by
 unfold cH at h
 split at h
 .simp at h
 .rename_i h0
  split at h
  .simp at h
  .rename_i h1
   obtain ⟨k,f⟩:=q7 _ _ h
   obtain ⟨f,_⟩:=q7 _ _ f
   have c:∀ j (b:j<t.nodes.length),gP t j=0:=λj b=>k j aD aD
   refine ⟨aD,aD,aD,λj n e=>?_,λj n e=>?_,λj b=>?_,λx g=>?_⟩
   .exact vX t j n (c j (aL.1 e).1) e
   .have b:=(aL.1 e).1
    have a:=c j b
    rw [yL t j b] at a
    have i:t.nodes[j]=n:=(aL.1 e).2
    rw [i] at a
    split at a<;>try (cases a;done)
    split at a<;>try (cases a;done)
    split at a<;>try (cases a;done)
    rename_i d;simp at d;omega
   .have a:=c j b
    rw [yL t j b] at a
    split at a<;>try (cases a;done)
    split at a<;>try (cases a;done)
    split at a<;>try (cases a;done)
    split at a<;>try (cases a;done)
    split at a<;>try (cases a;done)
    omega
   .obtain ⟨j,b,rfl⟩:=aK g
    have a:=f j aD aD
    rw [Nk t j b] at a
    split at a<;>try (cases a;done)
    split at a<;>try (cases a;done)
    split at a<;>try (cases a;done)
    rename_i d;simp at d;exact ⟨d.1.1.1,d.1.1.2⟩
theorem Types.valid.parentsOK {t:Types}(h:t.valid)(a:Nat):parentsOK t.nodes a:=λj n _ hn=>h.parent j n hn
def given2F (t:Types)(a b:Int):Int:=if (cH t).2≠0 then (cH t).2 else if (insideF t a&&insideF t b)=true then 0 else 6
theorem DX (t:Types)(j:t.ok)(a b:Int):Pure Tryz.prog 124 [t.d,dI a,dI b] (dI (given2F t a b)):=by
 have k:=j.fewN
 refine Tz.pK ⟨λ_=>false,λ_=>[]⟩ Tryz.func124 rfl (λQ i=>?_)
 have Y:=trivial
 refine wv (h:=aB (yF t j) wl ?_)
 refine d7 (λe=>?_) λe=>?_
 .have Y:=wa Y (wa e @given2F.eq_1)
  exact wv (h:=i _ _ wy)
 .refine wo (h:=aB (mT _ _ _) wl ?_)
  refine wo (h:=aO (λl=>mT _ _ _) (λl=>wl) ?_)
  refine wo (h:=aP (λc=>?_) (λc=>?_))
  .skip
   simp only [v8] at c
   exact wv (h:=i _ _ (by revert c;cases g:insideF t a<;>cases f:insideF t b<;>simp [go_sem,given2F,e,g,f]))
  .skip
   simp only [v8] at c
   exact wv (h:=i _ _ (by revert c;cases g:insideF t a<;>cases f:insideF t b<;>simp [go_sem,given2F,e,g,f]))
def givenF (t:Types)(l:List Int):Int:=if (cH t).2≠0 then (cH t).2 else if (l.any λa=>!insideF t a)=true then 6 else 0
theorem JQ (t:Types)(a:Int):Pure Tryz.prog 380 [dI a,.adr t.c] (.bool (!insideF t a)):=by
 refine Tz.pK ⟨λ_=>false,λ_=>[]⟩ Tryz.func380 rfl (λQ b=>?_)
 have Y:=trivial
 have Y:=wa Y @insideF.eq_1
 exact wo (h:=b _ _ wy)
theorem xV (t:Types)(g:t.ok)(l:List Int):Pure Tryz.prog 323 [t.d,dLI l] (dI (givenF t l)):=by
 refine Tz.pK ⟨λ_=>false,λ_=>[]⟩ Tryz.func323 rfl (λQ e=>?_)
 have Y:=trivial
 refine wv (h:=aB (nC t g) wl ?_)
 refine d7 (λb=>?_) λb=>?_
 .have Y:=wa Y (wa b @givenF.eq_1)
  exact wv (h:=e _ _ wy)
 .refine wv (h:=aB (fT l 380 [.adr t.c] (λa=>!insideF t a) (by simp [go_sem]) (by simp [go_sem]) (λa _=>JQ t a)) wl ?_)
  refine d7 (λf=>?_) λf=>?_
  .have Y:=wa Y (wa b (wa f @givenF.eq_1))
   exact wv (h:=e _ _ wy)
  .have Y:=wa Y (wa b (wa f @givenF.eq_1))
   exact wv (h:=e _ _ wy)
theorem Jg (t:Types)(a b:Int):givenF t [a,b]=given2F t a b:=by
 unfold givenF given2F;cases d:insideF t a<;>cases c:insideF t b<;>simp [d,c]
def GB (nodes:List NodeTy):Nat->Nat->List Int
 | 0,_=>[]
 | f+1,a=>match nodes[a]? with
  | none=>[]
  | some n=>(if 0<=n.parent then GB nodes f n.parent.toNat else [])++[(a:Int)]
def Types.line (t:Types)(a:Nat):List Int:=GB t.nodes (a+1) a
theorem O3 (b:List NodeTy):∀ a f g,parentsOK b a->a<f->a<g->GB b f a=GB b g a:=by
 intro a
 induction a using Nat.strongRecOn with
 | _ a ih =>
  intro f g c i h
  obtain ⟨f,rfl⟩:∃ f',f=f'+1:=⟨f - 1,aD⟩
  obtain ⟨g,rfl⟩:∃ g',g=g'+1:=⟨g - 1,aD⟩
  unfold GB
  split
  .rfl
  .rename_i n hn
   have:=c a n (bC _) hn
   congr 1
   split
   .exact ih n.parent.toNat aD f g (λj m e d=>c j m aD d) aD aD
   .rfl
theorem yP (t:Types)(a:Nat)(b:a<t.nodes.length)(c:parentsOK t.nodes a) :
  t.line a=(if 0<=t.nodes[a].parent then t.line t.nodes[a].parent.toNat else [])++[(a:Int)]:=by
 have e:=c a _ (bC _) (aA b)
 by_cases d:0<=t.nodes[a].parent
 .have hlt:t.nodes[a].parent.toNat<a:=aD
  have:=O3 t.nodes t.nodes[a].parent.toNat a (t.nodes[a].parent.toNat+1) (λj m g f=>c j m aD f) hlt aD
  simp [Types.line,GB,aA b,d,this]
 .simp [Types.line,GB,aA b,d]
end Go.Abs
end
