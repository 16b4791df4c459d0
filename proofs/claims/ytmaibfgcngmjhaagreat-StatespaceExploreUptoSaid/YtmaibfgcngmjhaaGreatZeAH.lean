/- Layer 4: types, continued. · Layer 4: types, edges. · Layer  -/
import Derived.Test.YtmaibfgcngmjhaaGreatZeAF
import Derived.Test.YtmaibfgcngmjhaaGreatZeAG
import Derived.Test.YtmaibfgcngmjhaaGreatZeAA
set_option linter.unusedVariables false
set_option linter.unusedSimpArgs false
section
set_option maxRecDepth 100000
set_option maxHeartbeats 4000000
open Go Go.Proofs Tryz
namespace Go.Abs
attribute [go_sem] vF
@[go_sem] theorem agD (l:List ByteArray):D.T (l.map cS)=true:=dL cS (λ_=>rfl) l
theorem Jj (xs:List NodeTy)(g:FuncId)(b:Xa2)(p:NodeTy->Bool)(u:D.N b=true)(t:∀ x∈xs,Pure prog g (.agg x.c :: b) (.bool (p x))) :
  Pua 240 [.list (xs.map NodeTy.c),.fn g b] (dI (Bk xs p)):=by
 refine aV (Tz.c0 func240 rfl ?_);simp [go_sem,seval,dI];intro m;refine fO (ι:=Nat) (λi e H=>H=.ak/\i<=xs.length/\e 0=.list (xs.map NodeTy.c)/\e 1=.fn g b/\e 7=dI xs.length/\e 8=dI i/\(∀ j x,j<i->xs[j]?=some x->p x=false)) (λi=>xs.length - i) 0 ew ?_;intro i e H ⟨v,y,q,o,n,k,l⟩;subst v;simp [go_sem,seval,n,k,dI];refine f7 (λd=>?_) (λs=>?_)
 .have hgx:=t xs[i] (aC d);simp [go_sem,seval,q,o,k,dI,d,NodeTy.c] at hgx ⊢;refine aB hgx (eD u) ?_;simp [go_sem,seval];refine aU (λh=>?_) (λh=>?_)
  .simp [go_sem,seval];rw [nD l d h]
  .simp [go_sem,seval,q,o,n,k,dI];refine ⟨dE bL bL,i+1,bL,bL,bL,λj x r w=>?_⟩;grind
 .simp [go_sem,seval];rw [nE λj x r=>l j x bL]
theorem Ea (xs:List NodeTy)(g:FuncId)(a:Xa2)(p:NodeTy->Bool)(d:D.N a=true)(e:D.U (.list (xs.map NodeTy.c))=true)(f:∀ x∈xs,Pure prog g (.agg x.c :: a) (.bool (p x))) :
  Pua 168 [.list (xs.map NodeTy.c),.fn g a] (.bool (xs.any p)):=by
 refine aV (Tz.c0 func168 rfl ?_);simp [go_sem,seval];refine aB (Jj xs g a p d f) (by simp only [D.N,e,fP];simp [D.U,d]) ?_;simp [go_sem,seval,dI,sU]
theorem Jl (xs:List EdgeTy)(g:FuncId)(b:Xa2)(p:EdgeTy->Bool)(u:D.N b=true)(t:∀ x∈xs,Pure prog g (.agg x.c :: b) (.bool (p x))) :
  Pua 244 [.list (xs.map EdgeTy.c),.fn g b] (dI (Bk xs p)):=by
 refine aV (Tz.c0 func244 rfl ?_);simp [go_sem,seval,dI];intro m;refine fO (ι:=Nat) (λi e H=>H=.ak/\i<=xs.length/\e 0=.list (xs.map EdgeTy.c)/\e 1=.fn g b/\e 7=dI xs.length/\e 8=dI i/\(∀ j x,j<i->xs[j]?=some x->p x=false)) (λi=>xs.length - i) 0 ew ?_;intro i e H ⟨v,y,q,o,n,k,l⟩;subst v;simp [go_sem,seval,n,k,dI];refine f7 (λd=>?_) (λs=>?_)
 .have hgx:=t xs[i] (aC d);simp [go_sem,seval,q,o,k,dI,d,EdgeTy.c] at hgx ⊢;refine aB hgx (eD u) ?_;simp [go_sem,seval];refine aU (λh=>?_) (λh=>?_)
  .simp [go_sem,seval];rw [nD l d h]
  .simp [go_sem,seval,q,o,n,k,dI];refine ⟨dE bL bL,i+1,bL,bL,bL,λj x r w=>?_⟩;grind
 .simp [go_sem,seval];rw [nE λj x r=>l j x bL]
theorem Eb (xs:List EdgeTy)(g:FuncId)(a:Xa2)(p:EdgeTy->Bool)(d:D.N a=true)(e:D.U (.list (xs.map EdgeTy.c))=true)(f:∀ x∈xs,Pure prog g (.agg x.c :: a) (.bool (p x))) :
  Pua 173 [.list (xs.map EdgeTy.c),.fn g a] (.bool (xs.any p)):=by
 refine aV (Tz.c0 func173 rfl ?_);simp [go_sem,seval];refine aB (Jl xs g a p d f) (by simp only [D.N,e,fP];simp [D.U,d]) ?_;simp [go_sem,seval,dI,sU]
@[go_sem] theorem yL (l:List NodeTy):D.T (l.map NodeTy.c)=true:=dL _ NodeTy.U l
@[go_sem] theorem yX (l:List EdgeTy):D.T (l.map EdgeTy.c)=true:=dL _ EdgeTy.U l
theorem OH (x y:NodeTy):Pua 169 [.agg y.c,.adr x.c] (.bool (decide (y.name=x.name))):=by
 refine aV (Tz.c0 func169 rfl ?_);simp [go_sem,seval,NodeTy.c,dI]
theorem zA (nodes:List NodeTy)(h:∀ n∈nodes,n.ok):∀ f a,∀ x∈oJ nodes f a,x.ok
 | 0,a,x,hx=>by simp [oJ] at hx
 | f+1,a,x,hx=>by
  unfold oJ at hx;split at hx
  .simp at hx
  .rename_i n hn;rcases aQ.1 hx with hx|hx
   .split at hx
    .exact zA nodes h f _ x hx
    .simp at hx
   .exact (h n (aK hn)).w x hx
def b6 (f:Nat->Int):Nat->Nat->Int
 | _,0=>0
 | k,n+1=>if f k≠0 then f k else b6 f (k+1) n
def i7 (t:Types)(i:Nat):Int :=
 match t.i[i]? with
 | none=>0
 | some n =>
  if nH n.name=false then 2
  else if ((t.i.take i).any λm=>decide (m.name=n.name))=true then 5
  else if (decide (n.I < -1)||decide ((i:Int)<=n.I))=true then 6
  else if 4<n.w.length then 3
  else if 8<(t.w i).length then 3
  else b6 (λk=>match (t.w i)[k]? with|some x=>dW x ((t.w i).take k)|none=>0) ((t.w i).length - n.w.length) n.w.length
theorem Rg (t:Types)(A:t.ok)(i:Nat)(g:i<t.i.length)(Q:∀ j n,j<i->t.i[j]?=some n->n.I<j):Pua 97 [t.d,dI i] (dI (i7 t i)):=by
 have F:=A.i _ (aC g);refine aV (Tz.cK ⟨λt=>t==5,λ_=>[]⟩ func97 rfl ?_);simp [go_sem,seval,dI,Types.d,Types.c,NodeTy.c,g];refine aB (qP _ F.name) rfl ?_;simp [go_sem,seval];refine aU (λm=>?_) (λm=>?_)
 .simp at m;simp [go_sem,seval,i7,aA g,m]
 .simp at m;simp [go_sem,seval];have U:=Ea (t.i.take i) 169 [.adr t.i[i].c] (λy=>decide (y.name=t.i[i].name)) (by simp [D.N,D.U,NodeTy.U]) (by rw [D.U];exact yL _) (λy _=>OH t.i[i] y);refine ⟨⟨bL,by cases t.i<;>simp [NodeTy.c]⟩,mP U (by simp [G0,Fa,fW,go_sem,NodeTy.c,dI,List.map_take]) (by simp only [D.N,D.U,yL,NodeTy.U];rfl) rfl ?_⟩;simp [go_sem,seval];refine aU (λr=>?_) (λr=>?_)
  .simp [go_sem,seval,i7,aA g,m,r]
  .simp [go_sem,seval];refine aU (λB=>?_) (λB=>?_)
   .have f:(decide (t.i[i].I < -1)||decide ((i:Int)<=t.i[i].I))=true:=by simpa using B
    simp [go_sem,seval];have e:i7 t i=6:=by simp only [i7,aA g];rw [if_neg (fg m),if_neg (fg r),if_pos f]
    simp [e]
   .simp at B;simp [go_sem,seval];have f:¬ (decide (t.i[i].I < -1)||decide ((i:Int)<=t.i[i].I))=true:=by simp;omega
    intro P;refine aU (λN=>?_) (λN=>?_)
    .have h4':4<t.i[i].w.length:=by simp at N;omega
     simp [go_sem,seval];have e:i7 t i=3:=by simp only [i7,aA g];rw [if_neg (fg m),if_neg (fg r),if_neg f,if_pos h4']
     simp [e]
    .have h4':¬ 4<t.i[i].w.length:=by simp at N;omega
     simp [go_sem,seval];have C:parentsOK t.i i:=λj n W p=>by
      rcases bD j i with h|h
      .exact Q j n h p
      .have:j=i:=bL;subst this;rw [aA g] at p;cases p;omega
     have v:=FZ t A i g C;simp only [Types.d,Types.c,dI] at v;refine aB v.pure (by simp [D.N,D.U,yL,yX]) ?_;simp [go_sem,seval];intro I;refine aU (λK=>?_) (λK=>?_)
     .have h8':8<(t.w i).length:=by simp at K;omega
      simp [go_sem,seval];have e:i7 t i=3:=by simp only [i7,aA g];rw [if_neg (fg m),if_neg (fg r),if_neg f,if_neg h4',if_pos h8']
      simp [e]
     .have h8':¬ 8<(t.w i).length:=by simp at K;omega
      have e:i7 t i=b6 (λk=>match (t.w i)[k]? with|some x=>dW x ((t.w i).take k)|none=>0) ((t.w i).length - t.i[i].w.length) t.i[i].w.length:=by
       simp only [i7,aA g];rw [if_neg (fg m),if_neg (fg r),if_neg f,if_neg h4',if_neg h8']
      have R:t.i[i].w.length<=(t.w i).length:=by simp [Types.w,oJ,aA g]
      have E:∀ x∈t.w i,x.ok:=zA t.i A.i _ _;simp [go_sem,seval];refine λ_ _=>⟨dE bL bL,?_⟩;refine fO (ι:=Nat) (λk e H=>k<=(t.w i).length/\e 6=.list ((t.w i).map Attr.c)/\e 7=dI k /\
       b6 (λk=>match (t.w i)[k]? with|some x=>dW x ((t.w i).take k)|none=>0) k ((t.w i).length - k)=i7 t i) (λk=>(t.w i).length - k) ((t.w i).length - t.i[i].w.length) ?_ ?_
      .simp [go_sem,seval,dI];refine ⟨bL,?_⟩;rw [e];congr 1;omega
      .intro k e' H ⟨S,M,L,s⟩;simp [go_sem,seval,M,L,dI];intro G;refine f7 (λq=>?_) (λT=>?_)
       .simp [go_sem,seval,M,L,dI,q,Attr.c];have u:=GV (t.w i)[k] ((t.w i).take k) (E _ (aC q));simp only [Attr.c,dI,List.map_take] at u;have J:D.T (List.take k (List.map Attr.c (t.w i)))=true:=by rw [<- List.map_take];exact vF _
        refine ⟨⟨S,by cases t.w i<;>simp [Attr.c]⟩,aJ u (by simp [D.N,D.U,J,Xl]) ?_⟩;have o:b6 (λk=>match (t.w i)[k]? with|some x=>dW x ((t.w i).take k)|none=>0) k ((t.w i).length - k) =
          if dW (t.w i)[k] ((t.w i).take k)≠0 then dW (t.w i)[k] ((t.w i).take k) else b6 (λk=>match (t.w i)[k]? with|some x=>dW x ((t.w i).take k)|none=>0) (k+1) ((t.w i).length - (k+1)):=by
         rw [(bL:(t.w i).length - k=(t.w i).length - (k+1)+1),b6,aA q]
        rw [o] at s;simp [go_sem,seval];refine aU (λz=>?_) (λz=>?_)
        .have hz':dW (t.w i)[k] ((t.w i).take k)≠0:=by simpa using z
         rw [if_pos hz'] at s;simp [go_sem,seval,s]
        .have hz':¬ dW (t.w i)[k] ((t.w i).take k)≠0:=by simpa using z
         rw [if_neg hz'] at s;simp [go_sem,seval,M,L,dI];exact ⟨dE bL bL,k+1,bL,bL,bL,s⟩
       .simp [go_sem,seval];rw [<- s,(bL:(t.w i).length - k=0)];rfl
def boundedF (low high:Int):Bool:=(decide (0<=low)&&decide (low<=40))&&(decide (high = -1)||(decide (low<=high)&&decide (high<=40)))
theorem Ke (b a:Int):Pua 175 [dI b,dI a] (.bool (boundedF b a)):=by
 refine aV (Tz.c0 func175 rfl ?_);simp [go_sem,seval,dI,boundedF];try omega
theorem OK (t:Types)(a:Int):Pua 172 [dI a,.adr t.c] (.bool (decide (0<=a)&&decide (a<t.i.length))):=by
 refine aV (Tz.c0 func172 rfl ?_);simp [go_sem,seval,dI,Types.c]
theorem OJ (x y:EdgeTy):Pua 174 [.agg y.c,.adr x.c] (.bool (decide (y.name=x.name))):=by
 refine aV (Tz.c0 func174 rfl ?_);simp [go_sem,seval,EdgeTy.c,dI]
def insideF (t:Types)(a:Int):Bool:=decide (0<=a)&&decide (a<t.i.length)
def lC (t:Types)(i:Nat):Int :=
 match t.j[i]? with
 | none=>0
 | some x =>
  if nH x.name=false then 2
  else if ((t.j.take i).any λy=>decide (y.name=x.name))=true then 5
  else if (insideF t x.from_&&insideF t x.L&&boundedF x.bo x.bg&&boundedF x.b4 x.bp)=true then 0 else 6
theorem Ri (t:Types)(v:t.ok)(i:Nat)(k:i<t.j.length):Pua 98 [t.d,dI i] (dI (lC t i)):=by
 have s:=v.j _ (aC k);have m:D.T (List.map NodeTy.c t.i)=true:=yL _;have n:D.T (List.map EdgeTy.c t.j)=true:=yX _;have l:∀ a:Int,Pua 172 [.int .i64 a,.adr [.list (t.i.map NodeTy.c),.list (t.j.map EdgeTy.c)]] (.bool (insideF t a)):=OK t;have o:∀ a b:Int,Pua 175 [.int .i64 a,.int .i64 b] (.bool (boundedF a b)):=Ke;refine aV (Tz.cK ⟨λt=>t==5,λ_=>[]⟩ func98 rfl ?_);simp [go_sem,seval,dI,Types.d,Types.c,EdgeTy.c,k];refine aB (qP _ s.name) rfl ?_;simp [go_sem,seval];refine aU (λj=>?_) (λj=>?_)
 .simp at j;simp [go_sem,seval,lC,aA k,j]
 .simp at j;simp [go_sem,seval];have w:=Eb (t.j.take i) 174 [.adr t.j[i].c] (λy=>decide (y.name=t.j[i].name)) (by simp [D.N,D.U,EdgeTy.U]) (by rw [D.U];exact yX _) (λy _=>OJ t.j[i] y);refine ⟨⟨bL,by cases t.j<;>simp [EdgeTy.c]⟩,mP w (by simp [G0,Fa,fW,go_sem,EdgeTy.c,dI,List.map_take]) (by simp only [D.N,D.U,yX,EdgeTy.U];rfl) rfl ?_⟩;simp [go_sem,seval];refine aU (λp=>?_) (λp=>?_)
  .simp [go_sem,seval,lC,aA k,j,p]
  .simp [go_sem,seval];refine aB (l _) (by simp [D.N,D.U,m,n]) ?_;simp [go_sem,seval];refine aN (λ_=>l _) (λ_=>by simp [D.N,D.U,m,n]) ?_;simp [go_sem,seval];refine aU (λq=>?_) (λq=>?_)
   .have e:lC t i=6:=by
     simp only [lC,aA k];rw [if_neg (fg j),if_neg (fg p),if_neg (by intro h;simp at h;simp [h] at q)]
    simp [go_sem,seval];refine aU (λ_=>?_) (λh=>?_)
    .simp [go_sem,seval,e]
    .rw [q] at h;cases h
   .simp [go_sem,seval];refine aB (o _ _) rfl ?_;simp [go_sem,seval];refine aN (λ_=>o _ _) (λ_=>rfl) ?_;simp [go_sem,seval];refine aU (λr=>?_) (λr=>?_)
    .have e:lC t i=6:=by
      simp only [lC,aA k];rw [if_neg (fg j),if_neg (fg p),if_neg (by intro h;simp at h;simp [h] at r)]
     simp [go_sem,seval,e]
    .have e:lC t i=0:=by
      simp only [lC,aA k];rw [if_neg (fg j),if_neg (fg p),if_pos (by simp at q r ⊢;simp [q,r])]
     simp [go_sem,seval,e]
theorem zV (t:Types)(j:Nat)(n:NodeTy)(h:i7 t j=0)(a:t.i[j]?=some n):n.I<j:=by
 simp only [i7,a] at h;grind
def fA (f:Nat->Int)(nm:Nat->ByteArray)(last:ByteArray × Int):Nat->Nat->ByteArray × Int
 | _,0=>last
 | k,n+1=>if f k≠0 then (nm k,f k) else fA f nm last (k+1) n
def Types.ap (t:Types)(i:Nat):ByteArray:=match t.i[i]? with|some n=>n.name|none=>⟨#[]⟩
def Types.ag (t:Types)(i:Nat):ByteArray:=match t.j[i]? with|some n=>n.name|none=>⟨#[]⟩
def cW (t:Types):ByteArray × Int :=
 if t.i.length=0 then (⟨#[]⟩,7)
 else if 12<t.i.length\/20<t.j.length then (⟨#[]⟩,3)
 else fA (i7 t) t.ap (fA (lC t) t.ag (⟨#[]⟩,0) 0 t.j.length) 0 t.i.length
theorem nY (t:Types)(z:t.ok):Pua 49 [t.d] (.tup [.str (cW t).1,dI (cW t).2]):=by
 refine aV (Tz.cK ⟨λt=>t==5||t==8,λ_=>[]⟩ func49 rfl ?_);simp [go_sem,seval,dI,Types.d,Types.c];intro A;refine aU (λq=>?_) (λq=>?_)
 .simp at q;simp [go_sem,seval,cW,q]
 .simp at q;simp [go_sem,seval];intro _ _;refine aU (λx=>?_) (λx=>?_)
  .have hb':12<t.i.length\/20<t.j.length:=by simp at x;omega
   simp [go_sem,seval,cW,q,hb']
  .have hb':¬ (12<t.i.length\/20<t.j.length):=by simp at x;omega
   have e:cW t=fA (i7 t) t.ap (fA (lC t) t.ag (⟨#[]⟩,0) 0 t.j.length) 0 t.i.length:=by simp [cW,q,hb']
   simp [go_sem,seval];intro _;refine fO (ι:=Nat) (λi e H=>i<=t.i.length/\e 1=.adr t.c/\e 27=.list (t.i.map NodeTy.c)/\e 28=dI t.i.length/\e 29=dI i/\(∀ j,j<i->i7 t j=0) /\
    fA (i7 t) t.ap (fA (lC t) t.ag (⟨#[]⟩,0) 0 t.j.length) i (t.i.length - i)=cW t) (λi=>t.i.length - i) 0 (by simp [go_sem,seval,dI,Types.c,e]) ?_
   intro i G H ⟨F,p,v,u,o,y,b⟩;simp [go_sem,seval,u,o,dI,Types.c];refine f7 (λg=>?_) (λw=>?_)
   .simp [go_sem,seval,p,v,o,dI,Types.c,NodeTy.c,g];have k:=Rg t z i g (λj n B E=>zV t j n (y j B) E);simp only [Types.d,Types.c,dI] at k;have f:fA (i7 t) t.ap (fA (lC t) t.ag (⟨#[]⟩,0) 0 t.j.length) i (t.i.length - i) =
      if i7 t i≠0 then (t.ap i,i7 t i) else fA (i7 t) t.ap (fA (lC t) t.ag (⟨#[]⟩,0) 0 t.j.length) (i+1) (t.i.length - (i+1)):=by
     rw [(bL:t.i.length - i=t.i.length - (i+1)+1),fA]
    rw [f] at b;refine aB k (by simp [D.N,D.U,yL,yX]) ?_;simp [go_sem,seval];refine aU (λl=>?_) (λl=>?_)
    .have hc':i7 t i≠0:=by simpa using l
     rw [if_pos hc'] at b;simp [go_sem,seval,<- b,Types.ap,aA g]
    .have hc':¬ i7 t i≠0:=by simpa using l
     rw [if_neg hc'] at b;simp [go_sem,seval,p,v,u,o,dI,Types.c];refine ⟨dE bL bL,i+1,bL,bL,bL,λj B=>?_,b⟩;rcases bD j i with hj'|hj'
     .exact y j hj'
     .have:j=i:=bL;subst this;simpa using hc'
   .simp [go_sem,seval,p,Types.c];intro _;rw [(bL:t.i.length - i=0)] at b;simp only [fA] at b;refine fO (ι:=Nat) (λi e H=>i<=t.j.length/\e 1=.adr t.c/\e 44=.list (t.j.map EdgeTy.c)/\e 45=dI t.j.length/\e 46=dI i /\
     fA (lC t) t.ag (⟨#[]⟩,0) i (t.j.length - i)=cW t) (λi=>t.j.length - i) 0 (by simp [go_sem,seval,p,dI,Types.c,b]) ?_
    intro i G H ⟨F,p,s,r,m,b⟩;simp [go_sem,seval,r,m,dI,Types.c];refine f7 (λg=>?_) (λw=>?_)
    .simp [go_sem,seval,p,s,m,dI,Types.c,EdgeTy.c,g];have k:=Ri t z i g;simp only [Types.d,Types.c,dI] at k;have f:fA (lC t) t.ag (⟨#[]⟩,0) i (t.j.length - i) =
       if lC t i≠0 then (t.ag i,lC t i) else fA (lC t) t.ag (⟨#[]⟩,0) (i+1) (t.j.length - (i+1)):=by
      rw [(bL:t.j.length - i=t.j.length - (i+1)+1),fA]
     rw [f] at b;refine aB k (by simp [D.N,D.U,yL,yX]) ?_;simp [go_sem,seval];refine aU (λl=>?_) (λl=>?_)
     .have hc':lC t i≠0:=by simpa using l
      rw [if_pos hc'] at b;simp [go_sem,seval,<- b,Types.ag,aA g]
     .have hc':¬ lC t i≠0:=by simpa using l
      rw [if_neg hc'] at b;simp [go_sem,seval,p,s,r,m,dI,Types.c];exact ⟨dE bL bL,i+1,bL,bL,bL,b⟩
    .rw [(bL:t.j.length - i=0)] at b;simp only [fA] at b;simp [go_sem,seval,<- b]
theorem DH (c:Int):Pua 279 [.int .u8 c] (.bool (j7 c)):=by
 refine aV (Tz.c0 func279 rfl ?_);simp [go_sem,seval,j7,D.U];try omega
theorem wE (c:Int):Pua 280 [.int .u8 c] (.bool (lM c)):=by
 refine aV (Tz.c0 func280 rfl ?_);simp [go_sem,seval,lM,D.U]
def x7 (digits:Bool)(c:Int):Bool:=lM c||(!digits&&(j7 c||c==95))
theorem UR (s:ByteArray)(i:Bool)(v:s.size<=1000000):Pua 281 [.str s,dI 0,.bool i] (dI (iK (x7 i) s)):=by
 refine aV (Tz.c0 func281 rfl ?_);simp [go_sem,seval,dI];refine fO (ι:=Nat) (λn e H=>H=.ak/\n<=s.size/\e 0=.str s/\e 1=dI 0/\e 2=.bool i/\e 7=dI n/\(∀ j,j<n->x7 i (Ac s j)=true)) (λn=>s.size - n) 0 ew ?_;intro n e H ⟨u,t,m,l,r,k,q⟩;subst u;have p:((s.data[n]?.getD 0).toNat:Int)=Ac s n:=rfl;simp [go_sem,seval,m,l,k,dI,p];refine ⟨dE bL bL,λ_=>dE bL bL,aN (λ_=>wE _) (λ_=>rfl) ?_⟩;simp [go_sem,seval,m,l,r,k,dI,p];refine ⟨λ_ _ _=>dE bL bL,λh _ _=>h,aN (λ_=>DH _) (λ_=>rfl) ?_⟩;simp [go_sem,seval,m,l,k,dI,p];refine ⟨λ_ _ _ _=>dE bL bL,λh _ _ _=>h,λa b c d=>⟨⟨⟨a,b⟩,c⟩,d⟩,λa b c=>⟨⟨a,b⟩,c⟩,λa b=>⟨a,b⟩,aU (λh=>?_) (λh=>?_)⟩
 .have hr:n<s.size/\x7 i (Ac s n)=true:=by simpa [x7] using h
  simp [go_sem,seval,m,l,r,k,dI];refine ⟨dE bL bL,n+1,bL,bL,bL,λj w=>?_⟩;rcases bD j n with hj'|hj'
  .exact q j hj'
  .have:j=n:=bL;subst this;exact hr.2
 .have hr:n<s.size->x7 i (Ac s n)=false:=by
   intro o;simp [o] at h;simp [x7];exact h
  simp [go_sem,seval,k,dI];rw [Lr _ s n q t hr]
theorem Mj (p:Nat->Bool)(n:Nat):∀ d k,k+d=n->(∀ j,1<=j->j<k->p j=true)->1<=k->∃ k,1<=k/\k<=n/\(∀ j,1<=j->j<k->p j=true)/\(k<n->p k=false)
 | 0,k,h,hp,h1=>⟨k,h1,bL,hp,λh=>by omega⟩
 | d+1,k,h,hp,h1=>by
  cases hk:p k with
  | false=>exact ⟨k,h1,bL,hp,λ_=>hk⟩
  | true =>
   refine Mj p n d (k+1) bL (λj hj hlt=>?_) bL;rcases bD j k with h|h
   .exact hp j hj h
   .have:j=k:=bL;subst this;exact hk
theorem Nx (s:ByteArray)(m:1<=s.size)(y:s.size<=1000000):∃ n:Int,0<=n/\n≠1/\n<=s.size/\Pua 282 [.str s,dI 0] (dI n):=by
 obtain ⟨k,v,u,i,o⟩:=Mj (λj=>qW (Ac s j)) s.size (s.size - 1) 1 bL (λj h A=>by omega) bL;refine ⟨if k<s.size/\Ac s k=34 then k+1 else 0,by split<;>omega,by split<;>omega,by split<;>omega,aV (Tz.c0 func282 rfl ?_)⟩;simp [go_sem,seval,dI];refine fO (ι:=Nat) (λn e H=>H=.ak/\1<=n/\n<=k/\e 0=.str s/\e 1=dI 0/\e 5=dI n) (λn=>s.size - n) 1 (by simp [go_sem,seval,dI];omega) ?_;intro n e H ⟨x,g,z,r,m,l⟩;subst x;have w:((s.data[n]?.getD 0).toNat:Int)=Ac s n:=rfl;simp [go_sem,seval,r,m,l,dI];refine ⟨dE bL bL,aU (λd=>?_) (λp=>?_)⟩
 .simp at d;simp [go_sem,seval,r,m,l,dI,w];refine ⟨dE bL bL,d,aU (λf=>?_) (λf=>?_)⟩
  .simp at f;have c:n=k:=by
    rcases bD n k with h|h
    .have:=i n g h;simp [qW,f] at this
    .omega
   subst c;simp [go_sem,seval,l,dI];exact ⟨dE bL bL,λh=>absurd f (h d)⟩
  .simp at f;simp [go_sem,seval];refine aU (λq=>?_) (λq=>?_)
   .simp at q;have c:n=k:=by
     rcases bD n k with h|h
     .have:=i n g h;simp [qW] at this;omega
     .omega
    subst c;simp [go_sem,seval];omega
   .simp at q;have c:n<k:=by
     rcases bD n k with h|h
     .exact h
     .have hh:n=k:=bL;subst hh;have:=o d;simp [qW] at this;omega
    simp [go_sem,seval,r,m,l,dI];exact ⟨dE bL bL,n+1,bL,bL,bL,bL⟩
 .simp at p;simp [go_sem,seval];omega
def signs:List ByteArray:=LH++[⟨#[123]⟩,⟨#[125]⟩,⟨#[40]⟩,⟨#[41]⟩,⟨#[91]⟩,⟨#[93]⟩,⟨#[44]⟩,⟨#[59]⟩,⟨#[58]⟩,⟨#[61]⟩,⟨#[43]⟩,⟨#[45]⟩,⟨#[42]⟩,⟨#[60]⟩,⟨#[62]⟩,⟨#[33]⟩,⟨#[38]⟩,⟨#[124]⟩,⟨#[46]⟩,⟨#[63]⟩]
theorem PB:Pua 283 [] (wV signs):=by
 refine aV (Tz.c0 func283 rfl ?_);simp [go_sem,seval,wV,cS,LH,signs]
theorem IF (s:ByteArray):Pua 222 [.agg [dI 1,.str s,dI 0]] (.str s):=by
 refine aV (Tz.c0 func222 rfl ?_);simp [go_sem,seval,dI]
theorem Rz:x7 false=qZ:=by grind [x7, qZ, Bool.or_assoc, Bool.or_comm]
def zK (s l:ByteArray):Bool:=decide ((l.size:Int)<=s.size)&&decide (s.extract 0 l.size=l)
def Cb (q:Int)(s:ByteArray):Int × ByteArray × Int × Int :=
  if (j7 (Ac s 0)||lM (Ac s 0))=true then
    (if lM (Ac s 0)=true then (if 9<iK (x7 true) s then (0,⟨#[]⟩,0,3) else (2,s.extract 0 (iK (x7 true) s),iK (x7 true) s,0))
     else (if 20<iK (x7 false) s then (0,⟨#[]⟩,0,3) else (1,s.extract 0 (iK (x7 false) s),iK (x7 false) s,0)))
  else if Ac s 0=34 then
    (if q=0 then (0,⟨#[]⟩,0,2) else if 60<q - 2 then (0,⟨#[]⟩,0,3) else (3,s.extract 1 (q - 1).toNat,q,0))
  else match signs.find? (zK s) with
    | some l=>(4,l,l.size,0)
    | none=>(0,⟨#[]⟩,0,2)
theorem US (s:ByteArray)(W:1<=s.size)(U:s.size<=100000)(q:Int)(O:0<=q)(N:q≠1)(M:q<=s.size)(P:Pua 282 [.str s,dI 0] (dI q)) :
  Pua 223 [.str s,dI 0] (.tup [.agg [dI (Cb q s).1,.str (Cb q s).2.1,dI 0],dI (Cb q s).2.2.1,dI (Cb q s).2.2.2]):=by
 have S:((s.data[0]?.getD 0).toNat:Int)=Ac s 0:=rfl;refine aV (Tz.cK ⟨λt=>t==4,λr=>match r with|22=>[(7,10),(8,10),(9,10)]|_=>[]⟩ func223 rfl ?_);simp [go_sem,seval,dI,S];refine ⟨bL,aB (DH _) rfl ?_⟩;simp [go_sem,seval];refine aN (λ_=>wE _) (λ_=>rfl) ?_;simp [go_sem,seval];refine aU (λf=>?_) (λf=>?_)
 .simp [go_sem,seval];refine aB (wE _) rfl ?_;simp [go_sem,seval];refine aB (UR s _ bL) rfl ?_;simp [go_sem,seval,dI];refine aB (wE _) rfl ?_;simp [go_sem,seval];refine aU (λu=>?_) (λu=>?_)
  .simp [go_sem,seval];rw [u];have L:=E8 (x7 true) s;refine aU (λh=>?_) (λh=>?_)
   .simp at h;simp [go_sem,seval,Cb,u,(bL:9<iK (x7 true) s)]
   .simp at h;simp [go_sem,seval,Cb,u,(bL:¬ 9<iK (x7 true) s)];exact ⟨dE bL bL,bL⟩
  .have g:lM (Ac s 0)=false:=by simpa using u
   simp [go_sem,seval];rw [g];have L:=E8 (x7 false) s;have o:j7 (Ac s 0)=true:=by simpa [g] using f
   refine aU (λh=>?_) (λh=>?_)
   .simp at h;simp [go_sem,seval,Cb,g,o,(bL:20<iK (x7 false) s)]
   .simp at h;simp [go_sem,seval,Cb,g,o,(bL:¬ 20<iK (x7 false) s)];exact ⟨dE bL bL,bL⟩
 .have hld':¬ (j7 (Ac s 0)||lM (Ac s 0))=true:=by simp at f;simp [f]
  simp [go_sem,seval];refine aU (λd=>?_) (λd=>?_)
  .simp at d;simp [go_sem,seval];refine aB P rfl ?_;simp [go_sem,seval,dI];have e:Cb q s=(if q=0 then (0,⟨#[]⟩,0,2) else if 60<q - 2 then (0,⟨#[]⟩,0,3) else (3,s.extract 1 (q - 1).toNat,q,0)):=by
    unfold Cb;rw [if_neg hld',if_pos d]
   rw [e];refine aU (λp=>?_) (λp=>?_)
   .simp at p;simp [go_sem,seval,p]
   .simp at p;simp [go_sem,seval,p];refine ⟨dE bL bL,f7 (λC=>?_) (λC=>?_)⟩
    .simp [go_sem,seval,C]
    .simp [go_sem,seval,C];exact ⟨dE bL bL,dE bL bL,dE bL bL,bL,bL⟩
  .simp at d;simp [go_sem,seval];refine aB PB rfl ?_;simp [go_sem,seval];have e:Cb q s=(match signs.find? (zK s) with|some l=>(4,l,l.size,0)|none=>(0,⟨#[]⟩,0,2)):=by
    unfold Cb;rw [if_neg hld',if_neg d]
   rw [e];refine fO (ι:=Nat) (λn e H=>(∃ E,H.get 0=some ⟨E,3,[[dI 0,.str ⟨#[]⟩,dI 0]],false⟩)/\n<=signs.length/\e 0=.str s/\e 1=dI 0/\e 4=.ptr 0 1 0 0/\e 12=wV signs/\e 13=dI n/\(∀ j l,j<n->signs[j]?=some l->zK s l=false)) (λn=>signs.length - n) 0 ew ?_;intro n e H ⟨⟨E,B⟩,V,G,v,D,k,i,z⟩;simp [go_sem,seval,k,i,dI,wV];intro F;refine f7 (λc=>?_) (λQ=>?_)
   .simp [go_sem,seval,G,v,k,i,dI,wV,c,cS];have I:signs[n].size<=2:=(show ∀ l∈signs,l.size<=2 by decide) _ (aC c);refine ⟨dE bL bL,λ_=>dE bL bL,aU (λA=>?_) (λA=>?_)⟩
    .have m:zK s signs[n]=true:=by simpa [zK] using A
     have R:signs.find? (zK s)=some signs[n]:=by
      rw [List.find?_eq_some_iff_getElem];refine ⟨m,n,c,rfl,λj y=>?_⟩;simpa using z j _ y (aA bL)
     simp [go_sem,seval,D,k,i,dI,B,wV,c,cS,R]
    .have m:zK s signs[n]=false:=by simpa [zK] using A
     simp [go_sem,seval,G,v,D,k,i,dI,B,wV];have K:signs.length=25:=rfl;refine ⟨dE bL bL,n+1,bL,bL,bL,λj l y o=>?_⟩;rcases bD j n with hj'|hj'
     .exact z j l hj' o
     .have:j=n:=bL;subst this;rw [aA c] at o;cases o;exact m
   .simp [go_sem,seval,D,dI,B];have:signs.find? (zK s)=none:=by
     rw [List.find?_eq_none];intro x J;obtain ⟨j,y,rfl⟩:=aM J;simpa using z j _ bL (aA y)
    simp [this]
theorem Wz (s:ByteArray)(b:¬ s.size=0)(q:Int):(decide ((Cb q s).2.2.2=0)&&(Cb q s).2.2.1==(s.size:Int)&&(Cb q s).1==1)=nH s:=by
 unfold Cb nH;by_cases a:j7 (Ac s 0)=true
 .have hdg:lM (Ac s 0)=false:=by simp [j7,lM] at *;omega
  simp only [hdg,a,Rz];grind
 grind
theorem PC (s:ByteArray)(f:s.size<=100000):Pua 152 [.agg [dI 1,.str s,dI 0]] (.bool (nH s)):=by
 by_cases b:s.size=0
 .refine aV (Tz.cK ⟨λt=>t==4,λ_=>[]⟩ func152 rfl ?_);simp [go_sem,seval,dI];refine aB (IF s) rfl ?_;simp [go_sem,seval];refine aU (λh=>?_) (λh=>?_)
  .simp [go_sem,seval,nH,b]
  .simp [sB,b] at h
 .obtain ⟨q,e,d,c,g⟩:=Nx s bL bL;refine aV (Tz.cK ⟨λt=>t==4,λ_=>[]⟩ func152 rfl ?_);simp [go_sem,seval,dI];refine aB (IF s) rfl ?_;simp [go_sem,seval];refine aU (λh=>?_) (λh=>?_)
  .simp [sB,b] at h
  .simp [go_sem,seval];refine aB (US s bL f q e d c g) rfl ?_;simp [go_sem,seval,dI];exact Wz s b q
theorem qS (s:ByteArray)(a:s.size<=100000):Pua 84 [.str s] (.bool (nH s)):=by
 refine aV (Tz.c0 func84 rfl ?_);simp [go_sem,seval];refine aB (PC s a) rfl ?_;simp [go_sem,seval]
@[go_sem] theorem sD (l:Xa0):D.T (l.map cI)=true:=dL cI (λ_=>rfl) l
@[go_sem] theorem Fu (l:List Edge):D.T (l.map Edge.c)=true:=dL _ Edge.U l
theorem KL (xs:Xa0)(g:FuncId)(b:Xa2)(p:Int->Bool)(t:D.N b=true)(s:∀ x∈xs,Pure prog g (.int .i64 x :: b) (.bool (p x))) :
  Pua 176 [.list (xs.map cI),.fn g b] (dI (Bk xs p)):=by
 refine aV (Tz.c0 func176 rfl ?_);simp [go_sem,seval,dI];intro l;refine fO (ι:=Nat) (λi e H=>H=.ak/\i<=xs.length/\e 0=.list (xs.map cI)/\e 1=.fn g b/\e 7=dI xs.length/\e 8=dI i/\(∀ j x,j<i->xs[j]?=some x->p x=false)) (λi=>xs.length - i) 0 ew ?_;intro i e H ⟨u,w,o,n,m,f,k⟩;subst u;simp [go_sem,seval,m,f,dI];refine f7 (λc=>?_) (λr=>?_)
 .have hgx:=s xs[i] (aC c);simp [go_sem,seval,o,n,f,dI,c,cI] at hgx ⊢;refine aB hgx (eD t) ?_;simp [go_sem,seval];refine aU (λh=>?_) (λh=>?_)
  .simp [go_sem,seval];rw [nD k c h]
  .simp [go_sem,seval,o,n,m,f,dI];refine ⟨dE bL bL,i+1,bL,bL,bL,λj x q v=>?_⟩;grind
 .simp [go_sem,seval];rw [nE λj x q=>k j x bL]
theorem iF (xs:Xa0)(g:FuncId)(a:Xa2)(p:Int->Bool)(c:D.N a=true)(d:D.U (.list (xs.map cI))=true)(e:∀ x∈xs,Pure prog g (.int .i64 x :: a) (.bool (p x))) :
  Pua 99 [.list (xs.map cI),.fn g a] (.bool (xs.any p)):=by
 refine aV (Tz.c0 func99 rfl ?_);simp [go_sem,seval];refine aB (KL xs g a p c e) (by simp only [D.N,d,fP];simp [D.U,c]) ?_;simp [go_sem,seval,dI,sU]
theorem G4 (xs:List Edge)(g:FuncId)(b:Xa2)(p:Edge->Bool)(v:D.N b=true)(u:∀ x∈xs,Pure prog g (.agg x.c :: b) (.bool (p x))) :
  Pua 177 [.list (xs.map Edge.c),.fn g b] (dI (Bk xs p)):=by
 refine aV (Tz.c0 func177 rfl ?_);simp [go_sem,seval,dI];intro n;refine fO (ι:=Nat) (λi e H=>H=.ak/\i<=xs.length/\e 0=.list (xs.map Edge.c)/\e 1=.fn g b/\e 7=dI xs.length/\e 8=dI i/\(∀ j x,j<i->xs[j]?=some x->p x=false)) (λi=>xs.length - i) 0 ew ?_;intro i e H ⟨w,y,r,q,o,m,l⟩;subst w;simp [go_sem,seval,o,m,dI];refine f7 (λd=>?_) (λt=>?_)
 .have hgx:=u xs[i] (aC d);simp [go_sem,seval,r,q,m,dI,d,Edge.c] at hgx ⊢;refine aB hgx (eD v) ?_;simp [go_sem,seval];refine aU (λh=>?_) (λh=>?_)
  .simp [go_sem,seval];rw [nD l d h]
  .simp [go_sem,seval,r,q,o,m,dI];refine ⟨dE bL bL,i+1,bL,bL,bL,λj x s k=>?_⟩;rcases bD j i with hj'|hj'
   .exact l j x hj' k
   .have:j=i:=bL;subst this;rw [aA d] at k;cases k;exact h
 .simp [go_sem,seval];rw [nE λj x s=>l j x bL]
theorem mS (xs:List Edge)(g:FuncId)(a:Xa2)(p:Edge->Bool)(d:D.N a=true)(e:D.U (.list (xs.map Edge.c))=true)(f:∀ x∈xs,Pure prog g (.agg x.c :: a) (.bool (p x))) :
  Pua 102 [.list (xs.map Edge.c),.fn g a] (.bool (xs.any p)):=by
 refine aV (Tz.c0 func102 rfl ?_);simp [go_sem,seval];refine aB (G4 xs g a p d f) (by simp only [D.N,e,fP];simp [D.U,d]) ?_;simp [go_sem,seval,dI,sU]
def jI (n m:Int):Bool:=decide (0<=n)&&decide (n<=m)
theorem D1 (n m:Int):Pua 101 [dI n,dI m] (.bool (jI n m)):=by
 refine aV (Tz.c0 func101 rfl ?_);simp [go_sem,seval,dI,jI]
def wR (x:Edge)(n:Int):Bool:=jI x.type 99&&jI x.from_ (n - 1)&&jI x.L (n - 1)
theorem Sv (x:Edge)(n:Int)(g:0<=n)(f:n<=1000000):Pua 104 [.agg x.c,dI n] (.bool (wR x n)):=by
 have e:∀ a b:Int,Pua 101 [.int .i64 a,.int .i64 b] (.bool (jI a b)):=D1;refine aV (Tz.c0 func104 rfl ?_);simp [go_sem,seval,dI,Edge.c];refine aB (e _ _) rfl ?_;simp [go_sem,seval];refine ⟨λ_=>dE bL bL,aN (λ_=>e _ _) (λ_=>rfl) ?_⟩;simp [go_sem,seval];refine ⟨λ_ _=>dE bL bL,aN (λ_=>e _ _) (λ_=>rfl) ?_⟩;simp [go_sem,seval,wR]
theorem NR (n:Int):Pua 100 [.int .i64 n] (.bool (!jI n 99)):=by
 have c:∀ a b:Int,Pua 101 [.int .i64 a,.int .i64 b] (.bool (jI a b)):=D1;refine aV (Tz.c0 func100 rfl ?_);simp [go_sem,seval];refine aB (c _ _) rfl ?_;simp [go_sem,seval]
theorem NQ (g:Graph)(d:g.i.length<=1000000)(x:Edge):Pua 103 [.agg x.c,.adr g.c] (.bool (!wR x g.i.length)):=by
 have b:=Sv x g.i.length bL bL;refine aV (Tz.c0 func103 rfl ?_);simp [go_sem,seval,dI,Edge.c,Graph.c,dLI];intro _;refine aB b rfl ?_;simp [go_sem,seval]
def graphF (g:Graph):Int :=
 if 40<g.i.length\/80<g.j.length then 3
 else if (g.i.any λn=>!jI n 99)=true then 6
 else if (g.j.any λx=>!wR x g.i.length)=true then 6
 else 0
theorem oG (g:Graph):Pua 50 [g.d] (dI (graphF g)):=by
 refine aV (Tz.c0 func50 rfl ?_);simp [go_sem,seval,dI,Graph.d,Graph.c,dLI];intro _ _;refine aU (λh=>?_) (λh=>?_)
 .have h':40<g.i.length\/80<g.j.length:=by simp at h;omega
  simp [go_sem,seval,graphF,h']
 .have h':¬ (40<g.i.length\/80<g.j.length):=by simp at h;omega
  have l:=iF g.i 100 [] (λn=>!jI n 99) rfl (by simp [D.U,sD]) (λn _=>NR n);have j:=mS g.j 103 [.adr g.c] (λx=>!wR x g.i.length) (by simp [D.N,D.U,Graph.c,sD,Fu,dLI]) (by simp [D.U,Fu]) (λx _=>NQ g bL x);simp only [Graph.c,dLI] at j;simp [go_sem,seval];refine aB l (by simp [D.N,D.U,sD]) ?_;simp [go_sem,seval];refine aU (λb=>?_) (λb=>?_)
  .have e:graphF g=6:=by unfold graphF;rw [if_neg h',if_pos b]
   simp [go_sem,seval,e]
  .simp [go_sem,seval];refine aB j (by simp [D.N,D.U,sD,Fu]) ?_;simp [go_sem,seval];refine aU (λi=>?_) (λi=>?_)
   .have e:graphF g=6:=by unfold graphF;rw [if_neg h',if_neg (by rw [b];simp),if_pos i]
    simp [go_sem,seval,e]
   .have e:graphF g=0:=by unfold graphF;rw [if_neg h',if_neg (by rw [b];simp),if_neg (by rw [i];simp)]
    simp [go_sem,seval,e]
theorem IB (n:Int):Pua 132 [.int .i64 n] (.bool (jI n 99)):=by
 refine aV (Tz.c0 func132 rfl ?_);simp [go_sem,seval,jI]
theorem Pw (x:Edge)(n:Int):Pua 133 [.agg x.c,.int .i64 n] (.bool (wR x n)):=by
 refine aV (Tz.c0 func133 rfl ?_);simp [go_sem,seval,Edge.c,dI];refine aB (IB _) rfl ?_;simp [go_sem,seval,wR,jI];grind
theorem dS {α:Type}(l:List α)(p:α->Bool)(i:Nat)(a:i<l.length):(l.take (i+1)).any p=((l.take i).any p||p l[i]):=by
 rw [aD a,xV];simp
theorem mJ (g:Graph):Pua 68 [g.d] (dI (graphF g)):=by
 refine aV (Tz.c0 func68 rfl ?_);simp [go_sem,seval,dI,Graph.d,Graph.c,dLI];intro _ _;refine aU (λh=>?_) (λh=>?_)
 .have h':40<g.i.length\/80<g.j.length:=by simp at h;omega
  simp [go_sem,seval,graphF,h']
 .have h':¬ (40<g.i.length\/80<g.j.length):=by simp at h;omega
  simp [go_sem,seval];refine fO (ι:=Nat) (λi e H=>i<=g.i.length/\e 1=.adr g.c/\e 3=dI i/\((g.i.take i).any λn=>!jI n 99)=false) (λi=>g.i.length - i) 0 (by simp [go_sem,seval,dI,Graph.c,dLI]) ?_;intro i e H ⟨v,l,t,r⟩;simp [go_sem,seval,l,t,dI,Graph.c,dLI];intro _;refine f7 (λf=>?_) (λp=>?_)
  .simp [go_sem,seval,l,t,dI,Graph.c,dLI,f,cI];refine aB (IB _) rfl ?_;simp [go_sem,seval];refine aU (λm=>?_) (λm=>?_)
   .have hany:(g.i.any λn=>!jI n 99)=true:=aZ.2 ⟨_,aC f,m⟩;have e:graphF g=6:=by unfold graphF;rw [if_neg h',if_pos hany]
    simp [go_sem,seval,e]
   .simp [go_sem,seval,l,t,dI,Graph.c,dLI];refine ⟨dE bL bL,i+1,bL,bL,bL,?_⟩;have:=dS g.i (λn=>!jI n 99) i f;rw [r,m] at this;simpa using this
  .simp [go_sem,seval];have o:(g.i.any λn=>!jI n 99)=false:=by rw [(bL:i=g.i.length),List.take_length] at r;exact r
   refine fO (ι:=Nat) (λk e H=>k<=g.j.length/\e 1=.adr g.c/\e 4=dI k/\((g.j.take k).any λx=>!wR x g.i.length)=false) (λk=>g.j.length - k) 0 (by simp [go_sem,seval,l,dI,Graph.c,dLI]) ?_;intro k e H ⟨u,l,s,q⟩;simp [go_sem,seval,l,s,dI,Graph.c,dLI];intro _;refine f7 (λf=>?_) (λp=>?_)
   .have hr:=Pw g.j[k] g.i.length;simp only [Edge.c,dI] at hr;simp [go_sem,seval,l,s,dI,Graph.c,dLI,f,Edge.c];refine aJ hr rfl ?_;simp [go_sem,seval];refine aU (λm=>?_) (λm=>?_)
    .have hany:(g.j.any λx=>!wR x g.i.length)=true:=aZ.2 ⟨_,aC f,m⟩;have e:graphF g=6:=by unfold graphF;rw [if_neg h',if_neg (by rw [o];simp),if_pos hany]
     simp [go_sem,seval,e]
    .simp [go_sem,seval,l,s,dI,Graph.c,dLI];refine ⟨dE bL bL,k+1,bL,bL,bL,?_⟩;have:=dS g.j (λx=>!wR x g.i.length) k f;rw [q,m] at this;simpa using this
   .have hb':(g.j.any λx=>!wR x g.i.length)=false:=by rw [(bL:k=g.j.length),List.take_length] at q;exact q
    have e:graphF g=0:=by unfold graphF;rw [if_neg h',if_neg (by rw [o];simp),if_neg (by rw [hb'];simp)]
    simp [go_sem,seval,e]
attribute [go_sem] dI dLI wV cI cS Attr.c NodeTy.c EdgeTy.c Types.c Types.d Edge.c Graph.c Graph.d
theorem JO (a b:Xa2):D.N (a++b)=(D.N a&&D.N b):=by
 induction a with
 | nil=>simp [D.N]
 | cons x a c=>simp [D.N,c,Bool.and_assoc]
@[go_sem] theorem ZE (a b:Xa1):D.T (a++b)=(D.T a&&D.T b):=by
 induction a with
 | nil=>simp [D.T]
 | cons x a c=>simp [D.T,c,Bool.and_assoc]
attribute [go_sem] JO
def inF (n low high:Int):Bool:=decide (low<=n)&&decide (n<=high)
theorem pF (n b a:Int):Pua 136 [dI n,dI b,dI a] (.bool (inF n b a)):=by
 refine Tz.p0 func136 rfl λQ c Y=>?_;have Y:=wa Y @inF.eq_1;exact wo (h:=c _ _ wy)
theorem P1 {l:List ByteArray}{i:Nat}(e:i<l.length):mem (l.take i) l[i]=true↔∃ j,j<i/\l[j]?=some l[i]:=by
 rw [mem_iff,uF];constructor
 .rintro ⟨j,d,b⟩;have a:j<l.length:=bL;exact ⟨j,bL,by rw [aA a,b]⟩
 grind
theorem lS {p:Nat->Prop}{k:Nat}(h:∀ j,j<k->p j)(hk:p k):∀ j,j<k+1->p j:=λj hj=>by
 rcases bD j k with h'|h'
 .exact h j h'
 .have:j=k:=bL;subst this;exact hk
theorem Py (l:List ByteArray)(y:∀ s∈l,s.size<=100000):Pua 266 [wV l] (dI (pU l)):=by
 refine Tz.p0 func266 rfl λQ m Y=>?_;refine dZ (λB=>?_) λB=>?_
 .exact wv (h:=m _ _ (by simp [go_sem,pU,(bL:20<l.length)]))
 .refine wv (h:=bA (λi e H=>(e 0=wV l/\e 3=dI i)/\(i<=l.length)/\(o7 (l.take i) (l.drop i)=pU l)) (λi=>l.length - i) 0 ⟨wg,wi,(by simp [pU,(bL:¬ 20<l.length)])⟩ λI t i e H q=>?_);obtain ⟨D,F,d⟩:=q;have Y:=wa Y D;refine dZ (λa=>?_) λa=>?_
  .rw [List.drop_eq_getElem_cons a] at d;have x:=y _ (aC a);have Y:=wa Y a;refine wo (h:=aB (qS _ er) wl ?_);refine dZ (λn=>?_) λn=>?_
   .exact wv (h:=m _ _ (by rw [<- d];simp [go_sem,o7,n]))
   .refine wv (h:=bA (λk e H=>(e 0=wV l/\e 3=dI i/\e 4=dI k)/\(k<=i)/\(∀ j,j<k->l[j]?≠some l[i])) (λk=>i - k) 0 ⟨wg,wi,(by intro j z;omega)⟩ λG r k e H p=>?_);obtain ⟨C,E,c⟩:=p;have Y:=wa Y C;refine dD (λu=>?_) λu=>?_
    .have hkl:k<l.length:=bL;have Y:=xa1 Y u hkl;refine dZ (λb=>?_) λb=>?_
     .exact wv (h:=m _ _ (by have f:mem (l.take i) l[i]=true:=(P1 a).2 ⟨k,u,by rw [aA hkl,b]⟩;rw [<- d];simp [go_sem,o7,n,f]))
     .exact wo (h:=wx r (k+1) ⟨wg,wj,(lS c (by rw [aA hkl];simpa using b))⟩)
    .have f:¬ mem (l.take i) l[i]=true:=λf=>by
      obtain ⟨j,z,A⟩:=(P1 a).1 f;exact c j bL A
     exact wo (h:=wx t (i+1) ⟨wg,wj,(by rw [<- d,o7,if_neg (fg n),if_neg f,aD a])⟩)
  .exact wv (h:=m _ _ (by rw [<- d,(bL:i=l.length)];simp [go_sem,o7]))
def GL (x:Attr):Int :=
 if pU x.ae≠0 then pU x.ae
 else if (if 0<x.ae.length then decide (x.am=0)&&decide (x.aw=x.ae.length - 1) else decide (-1000000<=x.am)&&decide (x.am<=x.aw)&&decide (x.aw<=1000000))=true then 0 else 6
theorem G2 (x:Attr)(g:x.ok):Pua 204 [.agg x.c] (dI (GL x)):=by
 have i:=g.bi;have f:x.ae=[]->pU x.ae=0:=λh=>by rw [h];rfl
 refine Tz.p0 func204 rfl λQ a Y=>?_;refine dZ (λd=>?_) λd=>?_
 .have hp:¬ 0<x.ae.length:=by simp [d]
  refine wo (h:=aB (pF _ _ _) wl ?_);refine wo (h:=aN (λj=>pF _ _ _) (λj=>wl) ?_);refine dZ (λe=>?_) λe=>?_
  .exact wv (h:=a _ _ (by simp [go_sem,GL,f d,hp];simp [inF] at e;omega))
  .exact wv (h:=a _ _ (by simp [go_sem,GL,f d,hp];simp [inF] at e;omega))
 .have hp:0<x.ae.length:=by cases l:x.ae<;>simp_all
  refine wv (h:=aB (Py x.ae g.ae) wl ?_);refine dD (λb=>?_) λb=>?_
  .exact wv (h:=a _ _ (by simp [go_sem,GL,b]))
  .refine dZ (λk=>?_) λk=>?_
   .exact wv (h:=a _ _ (by simp [go_sem,GL,b,hp];omega))
   .exact wv (h:=a _ _ (by simp [go_sem,GL,b,hp];omega))
theorem FL (t:Types)(a:Nat)(b:a<t.i.length)(c:parentsOK t.i a) :
  t.w a=(if 0<=t.i[a].I then t.w t.i[a].I.toNat else [])++t.i[a].w:=by
 have f:=c a _ (aT _) (aA b);by_cases d:0<=t.i[a].I
 .have hlt:t.i[a].I.toNat<a:=bL;have:=GJ t.i t.i[a].I.toNat a (t.i[a].I.toNat+1) (λj m h g=>c j m bL g) hlt bL;simp [Types.w,oJ,aA b,d,this]
 .simp [Types.w,oJ,aA b,d]
theorem Nw (t:Types)(a:Int)(b:a<0):Pua 203 [t.d,dI a] (.list []):=by
 refine Tz.pK ⟨λt=>t==7,λr=>match r with|3=>[(0,1),(0,2),(0,3),(0,5),(0,6),(0,7),(0,8),(0,10),(9,10),(0,11),(9,11),(0,13),(9,13),(0,14),(9,14),(0,15),(9,15)]|_=>[]⟩ func203 rfl (λQ c=>?_);have Y:=b;exact wv (h:=c _ _ wy)
theorem Gn (t:Types)(i:t.ok):∀ a:Nat,a<t.i.length->parentsOK t.i a->Pua 203 [t.d,dI a] (.list ((t.w a).map Attr.c)):=by
 intro a;induction a using Nat.strongRecOn with
 | _ a ih =>
 intro f g;have o:=g a _ (aT _) (aA f);have b:=vH t.i (λn p=>(i.i n p).bi) (a+1) a;have k:=i.bh;have e:=FL t a f g;have v:Pua 203 [t.d,dI t.i[a].I] (.list (((if 0<=t.i[a].I then t.w t.i[a].I.toNat else [])).map Attr.c)):=by
  by_cases l:0<=t.i[a].I
  .rw [if_pos l];have:=ih t.i[a].I.toNat bL bL (λj m y q=>g j m bL q);grind
  .rw [if_neg l];exact Nw t _ bL
 have s:(if 0<=t.i[a].I then t.w t.i[a].I.toNat else []).length+t.i[a].w.length<=2000000:=by
  have x:(t.w a).length<=1000 * (a+1):=b;rw [e,aO] at x;omega
 rw [e];generalize (if 0<=t.i[a].I then t.w t.i[a].I.toNat else [])=u at *;refine Tz.pK ⟨λt=>t==7,λr=>match r with|3=>[(0,1),(0,2),(0,3),(0,5),(0,6),(0,7),(0,8),(0,10),(9,10),(0,11),(9,11),(0,13),(9,13),(0,14),(9,14),(0,15),(9,15)]|_=>[]⟩ func203 rfl (λQ w=>?_);have Y:=xa1 (aA f) f ((show ¬ ((a:Int)<0) by omega));refine wo (h:=aJ (v) wl ?_);exact wo (h:=w _ _ wy)
theorem Gm (b a:Int):Pua 205 [dI b,dI a] (.bool (boundedF b a)):=by
 refine Tz.p0 func205 rfl λQ d Y=>?_;refine wo (h:=aB (pF _ _ _) wl ?_);refine wo (h:=aN (λc=>pF _ _ _) (λc=>wl) ?_);have Y:=xa1 Y @boundedF.eq_1 @inF.eq_1;exact wo (h:=d _ _ wy)
theorem wZ {α:Type}{l:List α}{p:α->Bool}{k i:Nat}(hk:k<i)(hl:k<l.length)(h:p l[k]=true):(l.take i).any p=true :=
 aZ.2 ⟨l[k],uF.2 ⟨k,bL,rfl⟩,h⟩
theorem tW {α:Type}{l:List α}{p:α->Bool}{k i:Nat}(h:(l.take k).any p=false)(a:k=i):(l.take i).any p=false:=by rw [<- a];exact h
def CB (l:List Attr)(k:Nat):Int:=match l[k]? with|some x=>dW x (l.take k)|none=>0
theorem Xy {l:List Attr}{k:Nat}(h:k<l.length):CB l k=if nH l[k].name=false then 2 else if ((l.take k).any λy=>decide (y.name=l[k].name))=true then 5 else GL l[k]:=by
 unfold CB;rw [aA h];rfl
theorem fG (f:Nat->Int){k n:Nat}(h:k<n):b6 f k (n - k)=if f k≠0 then f k else b6 f (k+1) (n - (k+1)):=by
 rw [(bL:n - k=n - (k+1)+1),b6]
theorem DO (t:Types)(i:Nat)(a:i<t.i.length):i7 t i =
  if nH t.i[i].name=false then 2
  else if ((t.i.take i).any λm=>decide (m.name=t.i[i].name))=true then 5
  else if (decide (t.i[i].I < -1)||decide ((i:Int)<=t.i[i].I))=true then 6
  else if 4<t.i[i].w.length then 3
  else if 8<(t.w i).length then 3
  else b6 (CB (t.w i)) ((t.w i).length - t.i[i].w.length) t.i[i].w.length:=by
 unfold i7;rw [aA a];rfl
theorem RV (t:Types)(B:t.ok)(i:Nat)(q:i<t.i.length)(hp:∀ j n,j<i->t.i[j]?=some n->n.I<j):Pua 130 [t.d,dI i] (dI (i7 t i)):=by
 have K:=B.i _ (aC q);have Z:=B.bh;have F:=DO t i q;have C:∀ x∈t.w i,x.ok:=zA t.i B.i _ _;have a1:=vH t.i (λn D=>(B.i n D).bi) (i+1) i;have a0:t.i[i].w.length<=(t.w i).length:=by simp [Types.w,oJ,aA q]
 refine Tz.pK ⟨λt=>t==5,λ_=>[]⟩ func130 rfl (λQ l=>?_);have Y:=wa (aA q) q;refine wo (h:=aB (qS _ K.name) wl ?_);refine dZ (λw=>?_) λw=>?_
 .exact wv (h:=l _ _ (.inl (fc F w)))
 .refine wv (h:=bA (λk e H=>(e 1=dI i/\e 2=.adr t.c/\e 5=.ptr 0 1 0 0/\e 6=dI k)/\(H.get 0=some ⟨100,4,[t.i[i].c],false⟩)/\(0<H.next)/\(k<=i)/\(((t.i.take k).any λm=>decide (m.name=t.i[i].name))=false)) (λk=>i - k) 0 ⟨wg,wn,wn,wi,bS⟩ λI0 R k e H N=>?_);obtain ⟨E0,G,A,hk,b⟩:=N;have Y:=xa2 Y E0 G (bU A);refine dD (λV=>?_) λV=>?_
  .have hkl:k<t.i.length:=bL;have Y:=xa1 Y V hkl;refine dZ (λU=>?_) λU=>?_
   .exact wv (h:=l _ _ (.inl (by have r:=wZ (p:=λm:NodeTy=>decide (m.name=t.i[i].name)) V hkl (cG U);rw [F,if_neg (fg w),if_pos r];simp [go_sem])))
   .exact wo (h:=wx R (k+1) ⟨wg,wn,wn,wj,(by rw [dS _ _ _ hkl,b];simpa using U)⟩)
  .have r:=tW b (bL:k=i);refine wo (h:=aB (pF _ _ _) wl ?_);refine dZ (λT=>?_) λT=>?_
   .exact wv (h:=l _ _ (.inl (by rw [F,if_neg (fg w),if_neg (fg r),if_pos (by simp [inF] at T;simp;omega)];simp [go_sem])))
   .have hr:¬ (decide (t.i[i].I < -1)||decide ((i:Int)<=t.i[i].I))=true:=by simp [inF] at T;simp;omega
    have J:parentsOK t.i i:=λj n hj D=>by
     rcases bD j i with h|h
     .exact hp j n h D
     .have:j=i:=bL;subst this;rw [aA q] at D;cases D;simp at hr;omega
    refine wv (h:=aB (Gn t B i q J) wl ?_);refine dZ (λW=>?_) λW=>?_
    .exact wv (h:=l _ _ (.inl (by rw [F,if_neg (fg w),if_neg (fg r),if_neg hr];simp [go_sem];omega)))
    .have hF2:i7 t i=b6 (CB (t.w i)) ((t.w i).length - t.i[i].w.length) t.i[i].w.length:=by rw [F,if_neg (fg w),if_neg (fg r),if_neg hr,if_neg bL,if_neg bL]
     refine wo (h:=bA (λk e H=>(e 1=dI i/\e 2=.adr t.c/\e 7=.list ((t.w i).map Attr.c)/\e 8=dI k)/\(k<=(t.w i).length)/\(b6 (CB (t.w i)) k ((t.w i).length - k)=i7 t i)) (λk=>(t.w i).length - k) ((t.w i).length - t.i[i].w.length) ⟨wg,bL,(by rw [hF2];congr 1;omega)⟩ λI2 P k e H M=>?_);obtain ⟨E2,hk,E⟩:=M;have Y:=wa Y E2;refine dZ (λa=>?_) λa=>?_
     .have hst:=fG (CB (t.w i)) a;rw [E] at hst;have S:=Xy a;have Y:=wa Y a;refine wo (h:=aB (qS _ (C _ (aC a)).name) wl ?_);refine dZ (λg=>?_) λg=>?_
      .refine wv (h:=?_);have f:CB (t.w i) k=2:=by rw [S,if_pos (fg g)]
       exact l _ _ (.inl (by rw [hst,f];simp [go_sem]))
      .refine wv (h:=bA (λj e H=>(e 1=dI i/\e 2=.adr t.c/\e 7=.list ((t.w i).map Attr.c)/\e 8=dI k/\e 9=dI j)/\(j<=k)/\((((t.w i).take j).any λy=>decide (y.name=(t.w i)[k].name))=false)) (λj=>k - j) 0 ⟨wg,wi,bS⟩ λI4 O j e H L=>?_);obtain ⟨E4,hj,b⟩:=L;have Y:=wa Y E4;refine dD (λv=>?_) λv=>?_
       .have hjl:j<(t.w i).length:=bL;have Y:=xa1 Y v hjl;refine dZ (λu=>?_) λu=>?_
        .refine wv (h:=?_);have r:=wZ (p:=λy:Attr=>decide (y.name=(t.w i)[k].name)) v hjl (cG u);have f:CB (t.w i) k=5:=by rw [S,if_neg (fg g),if_pos r]
         exact l _ _ (.inl (by rw [hst,f];simp [go_sem]))
        .exact wo (h:=wx O (j+1) ⟨wg,wj,(by rw [dS _ _ _ hjl,b];simpa using u)⟩)
       .have hb2:=tW b (bL:j=k);have f:CB (t.w i) k=GL (t.w i)[k]:=by rw [S,if_neg (fg g),if_neg (fg hb2)]
        rw [f] at hst;refine wo (h:=aB (G2 _ (C _ (aC a))) wl ?_);refine dZ (λs=>?_) λs=>?_
        .exact wv (h:=l _ _ (.inl (by rw [hst,if_pos (cG s)];simp [go_sem])))
        .exact wo (h:=wx P (k+1) ⟨wg,wj,(by rw [if_neg (fg s)] at hst;rw [<- hst])⟩)
     .exact wv (h:=l _ _ (.inl (by rw [<- E,(bL:(t.w i).length - k=0)];rfl)))
theorem Qu (t:Types)(i:Nat)(a:i<t.j.length):lC t i =
  if nH t.j[i].name=false then 2
  else if ((t.j.take i).any λy=>decide (y.name=t.j[i].name))=true then 5
  else if (insideF t t.j[i].from_&&insideF t t.j[i].L&&boundedF t.j[i].bo t.j[i].bg&&boundedF t.j[i].b4 t.j[i].bp)=true then 0 else 6:=by
 unfold lC;rw [aA a]
theorem zX (t:Types)(a:Int):inF a 0 ((t.i.length:Int) - 1)=insideF t a:=by
 simp only [inF,insideF];rw [bB];simp;omega
theorem RW (t:Types)(w:t.ok)(i:Nat)(q:i<t.j.length):Pua 131 [t.d,dI i] (dI (lC t i)):=by
 have x:=w.j _ (aC q);have D:=w.bh;have z:=w.cz;have u:=Qu t i q;refine Tz.pK ⟨λt=>t==5,λ_=>[]⟩ func131 rfl (λQ s=>?_);have Y:=wa (aA q) q;refine wo (h:=aB (qS _ x.name) wl ?_);refine dZ (λn=>?_) λn=>?_
 .exact wv (h:=s _ _ (fc u n))
 .refine wv (h:=bA (λk e H=>(e 1=dI i/\e 2=.adr t.c/\e 5=.ptr 0 1 0 0/\e 6=dI k)/\(H.get 0=some ⟨109,7,[t.j[i].c],false⟩)/\(0<H.next)/\(k<=i)/\(((t.j.take k).any λm=>decide (m.name=t.j[i].name))=false)) (λk=>i - k) 0 ⟨wg,wn,wn,wi,bS⟩ λL A k e H y=>?_);obtain ⟨F,o,g,J,j⟩:=y;have Y:=xa2 Y F o (bU g);refine dD (λC=>?_) λC=>?_
  .have hkl:k<t.j.length:=bL;have Y:=xa1 Y C hkl;refine dZ (λB=>?_) λB=>?_
   .exact wv (h:=s _ _ (by have r:=wZ (p:=λm:EdgeTy=>decide (m.name=t.j[i].name)) C hkl (cG B);rw [u,if_neg (fg n),if_pos r];simp [go_sem]))
   .exact wo (h:=wx A (k+1) ⟨wg,wn,wn,wj,(by rw [dS _ _ _ hkl,j];simpa using B)⟩)
  .have r:=tW j (bL:k=i);refine wo (h:=aB (pF _ _ _) wl ?_);refine wo (h:=aN (λl=>pF _ _ _) (λl=>wl) ?_);refine wo (h:=aN (λl=>Gm _ _) (λl=>wl) ?_);refine wo (h:=aN (λl=>Gm _ _) (λl=>wl) ?_);refine wo (h:=aU (λf=>?_) (λf=>?_))
   .skip
    simp only [zX] at f;exact wv (h:=s _ _ (by rw [u,if_neg (fg n),if_neg (fg r)];revert f;cases insideF t t.j[i].from_<;>cases insideF t t.j[i].L<;>cases boundedF t.j[i].bo t.j[i].bg<;>cases boundedF t.j[i].b4 t.j[i].bp<;>simp [go_sem]))
   .skip
    simp only [zX] at f;exact wv (h:=s _ _ (by rw [u,if_neg (fg n),if_neg (fg r)];revert f;cases insideF t t.j[i].from_<;>cases insideF t t.j[i].L<;>cases boundedF t.j[i].bo t.j[i].bg<;>cases boundedF t.j[i].b4 t.j[i].bp<;>simp [go_sem]))
theorem D3 (f:Nat->Int)(b:Nat->ByteArray)(a:ByteArray × Int){k n:Nat}(h:k<n):fA f b a k (n - k)=if f k≠0 then (b k,f k) else fA f b a (k+1) (n - (k+1)):=by
 rw [(bL:n - k=n - (k+1)+1),fA]
theorem qC (t:Types)(l:t.ok):Pua 67 [t.d] (.tup [.str (cW t).1,dI (cW t).2]):=by
 have y:=l.bh;have s:=l.cz;refine Tz.p0 func67 rfl λQ g Y=>?_;refine dZ (λo=>?_) λo=>?_
 .exact wv (h:=g _ _ (by simp [go_sem,cW,o]))
 .refine dZ (λD=>?_) λD=>?_
  .exact wv (h:=g _ _ (by simp [go_sem,cW,o,(bL:12<t.i.length\/20<t.j.length)]))
  .have e:cW t=fA (i7 t) t.ap (fA (lC t) t.ag (⟨#[]⟩,0) 0 t.j.length) 0 t.i.length:=by simp only [cW];rw [if_neg (cG o),if_neg bL]
   refine wv (h:=bA (λi e H=>(e 1=.adr t.c/\e 4=dI i)/\(i<=t.i.length)/\(∀ j,j<i->i7 t j=0)/\(fA (i7 t) t.ap (fA (lC t) t.ag (⟨#[]⟩,0) 0 t.j.length) i (t.i.length - i)=cW t)) (λi=>t.i.length - i) 0 ⟨wg,wi,(by intro j x;omega),(by rw [e];rfl)⟩ λI v i e H r=>?_);obtain ⟨F,C,w,a⟩:=r;have Y:=wa Y F;refine dZ (λk=>?_) λk=>?_
   .have hst:=a;rw [D3 _ _ _ k] at hst;have Y:=wa Y k;refine wv (h:=aB (RV t l i k (λj n x B=>zV t j n (w j x) B)) wl ?_);refine dD (λm=>?_) λm=>?_
    .exact wo (h:=g _ _ (by rw [if_pos (cG m)] at hst;simp [go_sem,<- hst,Types.ap,aA k]))
    .exact wo (h:=wx v (i+1) ⟨wg,wj,(lS w (cG m)),(by rw [if_neg (cG m)] at hst;exact hst)⟩)
   .have hE:fA (lC t) t.ag (⟨#[]⟩,0) 0 t.j.length=cW t:=by rw [<- a,(bL:t.i.length - i=0)];rfl
    refine wv (h:=bA (λi e H=>(e 1=.adr t.c/\e 6=dI i)/\(i<=t.j.length)/\(fA (lC t) t.ag (⟨#[]⟩,0) i (t.j.length - i)=cW t)) (λi=>t.j.length - i) 0 ⟨wg,wi,(hE)⟩ λG u i e H q=>?_);obtain ⟨E,C,a⟩:=q;have Y:=wa Y E;refine dZ (λb=>?_) λb=>?_
    .have hst:=a;rw [D3 _ _ _ b] at hst;have Y:=wa Y b;refine wv (h:=aB (RW t l i b) wl ?_);refine dD (λf=>?_) λf=>?_
     .exact wo (h:=g _ _ (by rw [if_pos (cG f)] at hst;simp [go_sem,<- hst,Types.ag,aA b]))
     .exact wo (h:=wx u (i+1) ⟨wg,wj,(by rw [if_neg (cG f)] at hst;exact hst)⟩)
    .exact wv (h:=g _ _ (by rw [<- a,(bL:t.j.length - i=0)];simp [go_sem,fA]))
theorem tT {f:Nat->Int}{nm:Nat->ByteArray}{last:ByteArray × Int}:∀ (n k:Nat),(fA f nm last k n).2=0->(∀ j,k<=j->j<k+n->f j=0)/\last.2=0
 | 0,k,h=>⟨λj h1 h2=>by omega,h⟩
 | n+1,k,h=>by
  unfold fA at h;split at h
  .rename_i hne;exact absurd h hne
  .rename_i hz;obtain ⟨a,b⟩:=tT n (k+1) h;refine ⟨λj h1 h2=>?_,b⟩;rcases Nat.eq_or_lt_of_le h1 with h3|h3
   .subst h3;exact bE λhne=>hz hne
   .exact a j h3 bL
structure Types.vl0 (t:Types):Prop where
 ne:0<t.i.length
 bh:t.i.length<=12
 cz:t.j.length<=20
 I:∀ (j:Nat) (n:NodeTy),t.i[j]?=some n->n.I<j
 am:∀ (j:Nat) (n:NodeTy),t.i[j]?=some n->-1<=n.I
 w:∀ j,j<t.i.length->(t.w j).length<=8
 dt:∀ x∈t.j,insideF t x.from_=true/\insideF t x.L=true
theorem pD {t:Types}(h:(cW t).2=0):t.vl0:=by
 unfold cW at h;split at h
 .simp at h
 .rename_i h0;split at h
  .simp at h
  .rename_i h1;obtain ⟨i,f⟩:=tT _ _ h;obtain ⟨f,_⟩:=tT _ _ f;have b:∀ j (a:j<t.i.length),i7 t j=0:=λj a=>i j bL bL;refine ⟨bL,bL,bL,λj n e=>?_,λj n e=>?_,λj a=>?_,λx g=>?_⟩
   .exact zV t j n (b j (aL.1 e).1) e
   .have a:=(aL.1 e).1;have d:=b j a;rw [DO t j a] at d;grind
   .have d:=b j a;rw [DO t j a] at d;grind
   .obtain ⟨j,a,rfl⟩:=aM g;have d:=f j bL bL;rw [Qu t j a] at d;grind
theorem Types.vl0.an {t:Types}(h:t.vl0)(a:Nat):parentsOK t.i a:=λj n _ hn=>h.I j n hn
def given2F (t:Types)(a b:Int):Int:=if (cW t).2≠0 then (cW t).2 else if (insideF t a&&insideF t b)=true then 0 else 6
theorem Gl (t:Types)(j:t.ok)(a b:Int):Pua 135 [t.d,dI a,dI b] (dI (given2F t a b)):=by
 have k:=j.bh;refine Tz.p0 func135 rfl λQ i Y=>?_;refine wv (h:=aB (qC t j) wl ?_);refine dD (λe=>?_) λe=>?_
 .have Y:=xa1 Y e @given2F.eq_1;exact wv (h:=i _ _ wy)
 .refine wo (h:=aB (pF _ _ _) wl ?_);refine wo (h:=aN (λl=>pF _ _ _) (λl=>wl) ?_);refine wo (h:=aU (λc=>?_) (λc=>?_))
  .skip
   simp only [zX] at c;exact wv (h:=i _ _ (by revert c;cases g:insideF t a<;>cases f:insideF t b<;>simp [go_sem,given2F,e,g,f]))
  .skip
   simp only [zX] at c;exact wv (h:=i _ _ (by revert c;cases g:insideF t a<;>cases f:insideF t b<;>simp [go_sem,given2F,e,g,f]))
def givenF (t:Types)(l:Xa0):Int:=if (cW t).2≠0 then (cW t).2 else if (l.any λa=>!insideF t a)=true then 6 else 0
theorem MW (t:Types)(a:Int):Pua 179 [dI a,.adr t.c] (.bool (!insideF t a)):=by
 refine Tz.p0 func179 rfl λQ b Y=>?_;have Y:=wa Y @insideF.eq_1;exact wo (h:=b _ _ wy)
theorem AQ (t:Types)(g:t.ok)(l:Xa0):Pua 106 [t.d,dLI l] (dI (givenF t l)):=by
 refine Tz.p0 func106 rfl λQ e Y=>?_;refine wv (h:=aB (nY t g) wl ?_);refine dD (λb=>?_) λb=>?_
 .have Y:=xa1 Y b @givenF.eq_1;exact wv (h:=e _ _ wy)
 .refine wv (h:=aB (iF l 179 [.adr t.c] (λa=>!insideF t a) eh eh (λa _=>MW t a)) wl ?_);refine dD (λf=>?_) λf=>?_
  .have Y:=xa2 Y b f @givenF.eq_1;exact wv (h:=e _ _ wy)
  .have Y:=xa2 Y b f @givenF.eq_1;exact wv (h:=e _ _ wy)
theorem Ma (t:Types)(a b:Int):givenF t [a,b]=given2F t a b:=by
 unfold givenF given2F;cases d:insideF t a<;>cases c:insideF t b<;>simp [d,c]
def I9 (nodes:List NodeTy):Nat->Nat->Xa0
 | 0,_=>[]
 | f+1,a=>match nodes[a]? with
  | none=>[]
  | some n=>(if 0<=n.I then I9 nodes f n.I.toNat else [])++[(a:Int)]
def Types.ao (t:Types)(a:Nat):Xa0:=I9 t.i (a+1) a
theorem Sf (b:List NodeTy):∀ a f g,parentsOK b a->a<f->a<g->I9 b f a=I9 b g a:=by
 intro a;induction a using Nat.strongRecOn with
 | _ a ih =>
  intro f g d l k;obtain ⟨f,rfl⟩:∃ f',f=f'+1:=⟨f - 1,bL⟩;obtain ⟨g,rfl⟩:∃ g',g=g'+1:=⟨g - 1,bL⟩;unfold I9;split
  .rfl
  .rename_i n hn;have:=d a n (aT _) hn;congr 1;split
   .exact ih n.I.toNat bL f g (λj m i e=>d j m bL e) bL bL
   .rfl
theorem Bh (t:Types)(a:Nat)(b:a<t.i.length)(c:parentsOK t.i a) :
  t.ao a=(if 0<=t.i[a].I then t.ao t.i[a].I.toNat else [])++[(a:Int)]:=by
 have e:=c a _ (aT _) (aA b);by_cases d:0<=t.i[a].I
 .have hlt:t.i[a].I.toNat<a:=bL;have:=Sf t.i t.i[a].I.toNat a (t.i[a].I.toNat+1) (λj m h f=>c j m bL f) hlt bL;simp [Types.ao,I9,aA b,d,this]
 .simp [Types.ao,I9,aA b,d]
end Go.Abs
end
