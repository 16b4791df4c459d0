/- Layer 4: types, continued. · Layer 4: types, edges. · Layer  -/
import Derived.Test.YtbgbahlipnaflaaGreatZuAF
import Derived.Test.YtbgbahlipnaflaaGreatZuAG
import Derived.Test.YtbgbahlipnaflaaGreatZuAA
set_option linter.unusedVariables false
set_option linter.unusedSimpArgs false
section
set_option maxRecDepth 100000
set_option maxHeartbeats 4000000
open Go Go.Proofs Tryz
namespace Go.Abs
attribute [go_sem] uG
@[go_sem] theorem acB (l:List ByteArray):D.R (l.map cS)=true:=dY cS (λ_=>rfl) l
theorem HV (xs:List NodeTy)(g:FuncId)(b:UN)(p:NodeTy->Bool)(u:D.J b=true)(t:∀ x∈xs,Pure prog g (.agg x.c :: b) (.bool (p x))) :
  Pua 282 [.list (xs.map NodeTy.c),.fn g b] (dI (Eg xs p)):=by
 refine aU (Tz.c0 func282 rfl ?_);simp [go_sem,seval,dI];intro m;refine gF (ι:=Nat) (λi e H=>H=.as/\i<=xs.length/\e 0=.list (xs.map NodeTy.c)/\e 1=.fn g b/\e 7=dI xs.length/\e 8=dI i/\(∀ j x,j<i->xs[j]?=some x->p x=false)) (λi=>xs.length - i) 0 (by simp [go_sem,seval,dI]) ?_;intro i e H ⟨v,y,q,o,n,k,l⟩;subst v;simp [go_sem,seval,n,k,dI];refine gP (λd=>?_) (λs=>?_)
 .have hgx:=t xs[i] (aC d);simp [go_sem,seval,q,o,k,dI,d,NodeTy.c] at hgx ⊢;refine aB hgx (by simp [go_sem,u]) ?_;simp [go_sem,seval];refine bA (λh=>?_) (λh=>?_)
  .simp [go_sem,seval];rw [rH l d h]
  .simp [go_sem,seval,q,o,n,k,dI];refine ⟨dU aD aD,i+1,aD,aD,aD,λj x r w=>?_⟩;grind
 .simp [go_sem,seval];rw [rI λj x r=>l j x aD]
theorem Do (xs:List NodeTy)(g:FuncId)(a:UN)(p:NodeTy->Bool)(d:D.J a=true)(e:D.Q (.list (xs.map NodeTy.c))=true)(f:∀ x∈xs,Pure prog g (.agg x.c :: a) (.bool (p x))) :
  Pua 217 [.list (xs.map NodeTy.c),.fn g a] (.bool (xs.any p)):=by
 refine aU (Tz.c0 func217 rfl ?_);simp [go_sem,seval];refine aB (HV xs g a p d f) (by simp only [D.J,e,iH];simp [D.Q,d]) ?_;simp [go_sem,seval,dI,uB]
theorem HW (xs:List EdgeTy)(g:FuncId)(b:UN)(p:EdgeTy->Bool)(u:D.J b=true)(t:∀ x∈xs,Pure prog g (.agg x.c :: b) (.bool (p x))) :
  Pua 286 [.list (xs.map EdgeTy.c),.fn g b] (dI (Eg xs p)):=by
 refine aU (Tz.c0 func286 rfl ?_);simp [go_sem,seval,dI];intro m;refine gF (ι:=Nat) (λi e H=>H=.as/\i<=xs.length/\e 0=.list (xs.map EdgeTy.c)/\e 1=.fn g b/\e 7=dI xs.length/\e 8=dI i/\(∀ j x,j<i->xs[j]?=some x->p x=false)) (λi=>xs.length - i) 0 (by simp [go_sem,seval,dI]) ?_;intro i e H ⟨v,y,q,o,n,k,l⟩;subst v;simp [go_sem,seval,n,k,dI];refine gP (λd=>?_) (λs=>?_)
 .have hgx:=t xs[i] (aC d);simp [go_sem,seval,q,o,k,dI,d,EdgeTy.c] at hgx ⊢;refine aB hgx (by simp [go_sem,u]) ?_;simp [go_sem,seval];refine bA (λh=>?_) (λh=>?_)
  .simp [go_sem,seval];rw [rH l d h]
  .simp [go_sem,seval,q,o,n,k,dI];refine ⟨dU aD aD,i+1,aD,aD,aD,λj x r w=>?_⟩;grind
 .simp [go_sem,seval];rw [rI λj x r=>l j x aD]
theorem Dp (xs:List EdgeTy)(g:FuncId)(a:UN)(p:EdgeTy->Bool)(d:D.J a=true)(e:D.Q (.list (xs.map EdgeTy.c))=true)(f:∀ x∈xs,Pure prog g (.agg x.c :: a) (.bool (p x))) :
  Pua 222 [.list (xs.map EdgeTy.c),.fn g a] (.bool (xs.any p)):=by
 refine aU (Tz.c0 func222 rfl ?_);simp [go_sem,seval];refine aB (HW xs g a p d f) (by simp only [D.J,e,iH];simp [D.Q,d]) ?_;simp [go_sem,seval,dI,uB]
@[go_sem] theorem wX (l:List NodeTy):D.R (l.map NodeTy.c)=true:=dY _ NodeTy.Q l
@[go_sem] theorem xC (l:List EdgeTy):D.R (l.map EdgeTy.c)=true:=dY _ EdgeTy.Q l
theorem Nl (x y:NodeTy):Pua 218 [.agg y.c,.adr x.c] (.bool (decide (y.name=x.name))):=by
 refine aU (Tz.c0 func218 rfl ?_);simp [go_sem,seval,NodeTy.c,dI]
theorem xN (nodes:List NodeTy)(h:∀ n∈nodes,n.ok):∀ f a,∀ x∈n6 nodes f a,x.ok
 | 0,a,x,hx=>by simp [n6] at hx
 | f+1,a,x,hx=>by
  unfold n6 at hx;split at hx
  .simp at hx
  .rename_i n hn;rcases aZ.1 hx with hx|hx
   .split at hx
    .exact xN nodes h f _ x hx
    .simp at hx
   .exact (h n (aK hn)).r x hx
def bV (f:Nat->Int):Nat->Nat->Int
 | _,0=>0
 | k,n+1=>if f k≠0 then f k else bV f (k+1) n
def iV (t:Types)(i:Nat):Int :=
 match t.h[i]? with
 | none=>0
 | some n =>
  if lA n.name=false then 2
  else if ((t.h.take i).any λm=>decide (m.name=n.name))=true then 5
  else if (decide (n.C < -1)||decide ((i:Int)<=n.C))=true then 6
  else if 4<n.r.length then 3
  else if 8<(t.r i).length then 3
  else bV (λk=>match (t.r i)[k]? with|some x=>d8 x ((t.r i).take k)|none=>0) ((t.r i).length - n.r.length) n.r.length
theorem PY (t:Types)(A:t.ok)(i:Nat)(g:i<t.h.length)(Q:∀ j n,j<i->t.h[j]?=some n->n.C<j):Pua 137 [t.d,dI i] (dI (iV t i)):=by
 have F:=A.h _ (aC g);refine aU (Tz.cK ⟨λt=>t==5,λ_=>[]⟩ func137 rfl ?_);simp [go_sem,seval,dI,Types.d,Types.c,NodeTy.c,g];refine aB (p6 _ F.name) rfl ?_;simp [go_sem,seval];refine bA (λm=>?_) (λm=>?_)
 .simp at m;simp [go_sem,seval,iV,aA g,m]
 .simp at m;simp [go_sem,seval];have U:=Do (t.h.take i) 218 [.adr t.h[i].c] (λy=>decide (y.name=t.h[i].name)) (by simp [D.J,D.Q,NodeTy.Q]) (by rw [D.Q];exact wX _) (λy _=>Nl t.h[i] y);refine ⟨⟨aD,by cases t.h<;>simp [NodeTy.c]⟩,vQ U (by simp [Jj,FL,gA,go_sem,NodeTy.c,dI,List.map_take]) (by simp only [D.J,D.Q,wX,NodeTy.Q];rfl) rfl ?_⟩;simp [go_sem,seval];refine bA (λr=>?_) (λr=>?_)
  .simp [go_sem,seval,iV,aA g,m,r]
  .simp [go_sem,seval];refine bA (λB=>?_) (λB=>?_)
   .have f:(decide (t.h[i].C < -1)||decide ((i:Int)<=t.h[i].C))=true:=by simpa using B
    simp [go_sem,seval];have e:iV t i=6:=by simp only [iV,aA g];rw [if_neg (by simp [m]),if_neg (by simp [r]),if_pos f]
    simp [e]
   .simp at B;simp [go_sem,seval];have f:¬ (decide (t.h[i].C < -1)||decide ((i:Int)<=t.h[i].C))=true:=by simp;omega
    intro P;refine bA (λN=>?_) (λN=>?_)
    .have h4':4<t.h[i].r.length:=by simp at N;omega
     simp [go_sem,seval];have e:iV t i=3:=by simp only [iV,aA g];rw [if_neg (by simp [m]),if_neg (by simp [r]),if_neg f,if_pos h4']
     simp [e]
    .have h4':¬ 4<t.h[i].r.length:=by simp at N;omega
     simp [go_sem,seval];have C:parentsOK t.h i:=λj n W p=>by
      rcases bX j i with h|h
      .exact Q j n h p
      .have:j=i:=aD;subst this;rw [aA g] at p;cases p;omega
     have v:=EH t A i g C;simp only [Types.d,Types.c,dI] at v;refine aB v.pure (by simp [D.J,D.Q,wX,xC]) ?_;simp [go_sem,seval];intro I;refine bA (λK=>?_) (λK=>?_)
     .have h8':8<(t.r i).length:=by simp at K;omega
      simp [go_sem,seval];have e:iV t i=3:=by simp only [iV,aA g];rw [if_neg (by simp [m]),if_neg (by simp [r]),if_neg f,if_neg h4',if_pos h8']
      simp [e]
     .have h8':¬ 8<(t.r i).length:=by simp at K;omega
      have e:iV t i=bV (λk=>match (t.r i)[k]? with|some x=>d8 x ((t.r i).take k)|none=>0) ((t.r i).length - t.h[i].r.length) t.h[i].r.length:=by
       simp only [iV,aA g];rw [if_neg (by simp [m]),if_neg (by simp [r]),if_neg f,if_neg h4',if_neg h8']
      have R:t.h[i].r.length<=(t.r i).length:=by simp [Types.r,n6,aA g]
      have E:∀ x∈t.r i,x.ok:=xN t.h A.h _ _;simp [go_sem,seval];refine λ_ _=>⟨dU aD aD,?_⟩;refine gF (ι:=Nat) (λk e H=>k<=(t.r i).length/\e 6=.list ((t.r i).map Attr.c)/\e 7=dI k /\
       bV (λk=>match (t.r i)[k]? with|some x=>d8 x ((t.r i).take k)|none=>0) k ((t.r i).length - k)=iV t i) (λk=>(t.r i).length - k) ((t.r i).length - t.h[i].r.length) ?_ ?_
      .simp [go_sem,seval,dI];refine ⟨aD,?_⟩;rw [e];congr 1;omega
      .intro k e' H ⟨S,M,L,s⟩;simp [go_sem,seval,M,L,dI];intro G;refine gP (λq=>?_) (λT=>?_)
       .simp [go_sem,seval,M,L,dI,q,Attr.c];have u:=FE (t.r i)[k] ((t.r i).take k) (E _ (aC q));simp only [Attr.c,dI,List.map_take] at u;have J:D.R (List.take k (List.map Attr.c (t.r i)))=true:=by rw [<- List.map_take];exact uG _
        refine ⟨⟨S,by cases t.r i<;>simp [Attr.c]⟩,aI u (by simp [D.J,D.Q,J,Vg]) ?_⟩;have o:bV (λk=>match (t.r i)[k]? with|some x=>d8 x ((t.r i).take k)|none=>0) k ((t.r i).length - k) =
          if d8 (t.r i)[k] ((t.r i).take k)≠0 then d8 (t.r i)[k] ((t.r i).take k) else bV (λk=>match (t.r i)[k]? with|some x=>d8 x ((t.r i).take k)|none=>0) (k+1) ((t.r i).length - (k+1)):=by
         rw [(aD:(t.r i).length - k=(t.r i).length - (k+1)+1),bV,aA q]
        rw [o] at s;simp [go_sem,seval];refine bA (λz=>?_) (λz=>?_)
        .have hz':d8 (t.r i)[k] ((t.r i).take k)≠0:=by simpa using z
         rw [if_pos hz'] at s;simp [go_sem,seval,s]
        .have hz':¬ d8 (t.r i)[k] ((t.r i).take k)≠0:=by simpa using z
         rw [if_neg hz'] at s;simp [go_sem,seval,M,L,dI];exact ⟨dU aD aD,k+1,aD,aD,aD,s⟩
       .simp [go_sem,seval];rw [<- s,(aD:(t.r i).length - k=0)];rfl
def boundedF (low high:Int):Bool:=(decide (0<=low)&&decide (low<=40))&&(decide (high = -1)||(decide (low<=high)&&decide (high<=40)))
theorem IY (b a:Int):Pua 224 [dI b,dI a] (.bool (boundedF b a)):=by
 refine aU (Tz.c0 func224 rfl ?_);simp [go_sem,seval,dI,boundedF];try omega
theorem No (t:Types)(a:Int):Pua 221 [dI a,.adr t.c] (.bool (decide (0<=a)&&decide (a<t.h.length))):=by
 refine aU (Tz.c0 func221 rfl ?_);simp [go_sem,seval,dI,Types.c]
theorem Nn (x y:EdgeTy):Pua 223 [.agg y.c,.adr x.c] (.bool (decide (y.name=x.name))):=by
 refine aU (Tz.c0 func223 rfl ?_);simp [go_sem,seval,EdgeTy.c,dI]
def insideF (t:Types)(a:Int):Bool:=decide (0<=a)&&decide (a<t.h.length)
def kV (t:Types)(i:Nat):Int :=
 match t.j[i]? with
 | none=>0
 | some x =>
  if lA x.name=false then 2
  else if ((t.j.take i).any λy=>decide (y.name=x.name))=true then 5
  else if (insideF t x.w&&insideF t x.M&&boundedF x.cn x.b7&&boundedF x.dc x.cp)=true then 0 else 6
theorem P0 (t:Types)(v:t.ok)(i:Nat)(k:i<t.j.length):Pua 138 [t.d,dI i] (dI (kV t i)):=by
 have s:=v.j _ (aC k);have m:D.R (List.map NodeTy.c t.h)=true:=wX _;have n:D.R (List.map EdgeTy.c t.j)=true:=xC _;have l:∀ a:Int,Pua 221 [.int .i64 a,.adr [.list (t.h.map NodeTy.c),.list (t.j.map EdgeTy.c)]] (.bool (insideF t a)):=No t;have o:∀ a b:Int,Pua 224 [.int .i64 a,.int .i64 b] (.bool (boundedF a b)):=IY;refine aU (Tz.cK ⟨λt=>t==5,λ_=>[]⟩ func138 rfl ?_);simp [go_sem,seval,dI,Types.d,Types.c,EdgeTy.c,k];refine aB (p6 _ s.name) rfl ?_;simp [go_sem,seval];refine bA (λj=>?_) (λj=>?_)
 .simp at j;simp [go_sem,seval,kV,aA k,j]
 .simp at j;simp [go_sem,seval];have w:=Dp (t.j.take i) 223 [.adr t.j[i].c] (λy=>decide (y.name=t.j[i].name)) (by simp [D.J,D.Q,EdgeTy.Q]) (by rw [D.Q];exact xC _) (λy _=>Nn t.j[i] y);refine ⟨⟨aD,by cases t.j<;>simp [EdgeTy.c]⟩,vQ w (by simp [Jj,FL,gA,go_sem,EdgeTy.c,dI,List.map_take]) (by simp only [D.J,D.Q,xC,EdgeTy.Q];rfl) rfl ?_⟩;simp [go_sem,seval];refine bA (λp=>?_) (λp=>?_)
  .simp [go_sem,seval,kV,aA k,j,p]
  .simp [go_sem,seval];refine aB (l _) (by simp [D.J,D.Q,m,n]) ?_;simp [go_sem,seval];refine aH (λ_=>l _) (λ_=>by simp [D.J,D.Q,m,n]) ?_;simp [go_sem,seval];refine bA (λq=>?_) (λq=>?_)
   .have e:kV t i=6:=by
     simp only [kV,aA k];rw [if_neg (by simp [j]),if_neg (by simp [p]),if_neg (by intro h;simp at h;simp [h] at q)]
    simp [go_sem,seval];refine bA (λ_=>?_) (λh=>?_)
    .simp [go_sem,seval,e]
    .rw [q] at h;cases h
   .simp [go_sem,seval];refine aB (o _ _) rfl ?_;simp [go_sem,seval];refine aH (λ_=>o _ _) (λ_=>rfl) ?_;simp [go_sem,seval];refine bA (λr=>?_) (λr=>?_)
    .have e:kV t i=6:=by
      simp only [kV,aA k];rw [if_neg (by simp [j]),if_neg (by simp [p]),if_neg (by intro h;simp at h;simp [h] at r)]
     simp [go_sem,seval,e]
    .have e:kV t i=0:=by
      simp only [kV,aA k];rw [if_neg (by simp [j]),if_neg (by simp [p]),if_pos (by simp at q r ⊢;simp [q,r])]
     simp [go_sem,seval,e]
theorem yD (t:Types)(j:Nat)(n:NodeTy)(h:iV t j=0)(a:t.h[j]?=some n):n.C<j:=by
 simp only [iV,a] at h;grind
def fG (f:Nat->Int)(nm:Nat->ByteArray)(last:ByteArray × Int):Nat->Nat->ByteArray × Int
 | _,0=>last
 | k,n+1=>if f k≠0 then (nm k,f k) else fG f nm last (k+1) n
def Types.ax (t:Types)(i:Nat):ByteArray:=match t.h[i]? with|some n=>n.name|none=>⟨#[]⟩
def Types.ag (t:Types)(i:Nat):ByteArray:=match t.j[i]? with|some n=>n.name|none=>⟨#[]⟩
def dA (t:Types):ByteArray × Int :=
 if t.h.length=0 then (⟨#[]⟩,7)
 else if 12<t.h.length\/20<t.j.length then (⟨#[]⟩,3)
 else fG (iV t) t.ax (fG (kV t) t.ag (⟨#[]⟩,0) 0 t.j.length) 0 t.h.length
theorem nM (t:Types)(z:t.ok):Pua 77 [t.d] (.tup [.str (dA t).1,dI (dA t).2]):=by
 refine aU (Tz.cK ⟨λt=>t==5||t==8,λ_=>[]⟩ func77 rfl ?_);simp [go_sem,seval,dI,Types.d,Types.c];intro A;refine bA (λq=>?_) (λq=>?_)
 .simp at q;simp [go_sem,seval,dA,q]
 .simp at q;simp [go_sem,seval];intro _ _;refine bA (λx=>?_) (λx=>?_)
  .have hb':12<t.h.length\/20<t.j.length:=by simp at x;omega
   simp [go_sem,seval,dA,q,hb']
  .have hb':¬ (12<t.h.length\/20<t.j.length):=by simp at x;omega
   have e:dA t=fG (iV t) t.ax (fG (kV t) t.ag (⟨#[]⟩,0) 0 t.j.length) 0 t.h.length:=by simp [dA,q,hb']
   simp [go_sem,seval];intro _;refine gF (ι:=Nat) (λi e H=>i<=t.h.length/\e 1=.adr t.c/\e 27=.list (t.h.map NodeTy.c)/\e 28=dI t.h.length/\e 29=dI i/\(∀ j,j<i->iV t j=0) /\
    fG (iV t) t.ax (fG (kV t) t.ag (⟨#[]⟩,0) 0 t.j.length) i (t.h.length - i)=dA t) (λi=>t.h.length - i) 0 (by simp [go_sem,seval,dI,Types.c,e]) ?_
   intro i G H ⟨F,p,v,u,o,y,b⟩;simp [go_sem,seval,u,o,dI,Types.c];refine gP (λg=>?_) (λw=>?_)
   .simp [go_sem,seval,p,v,o,dI,Types.c,NodeTy.c,g];have k:=PY t z i g (λj n B E=>yD t j n (y j B) E);simp only [Types.d,Types.c,dI] at k;have f:fG (iV t) t.ax (fG (kV t) t.ag (⟨#[]⟩,0) 0 t.j.length) i (t.h.length - i) =
      if iV t i≠0 then (t.ax i,iV t i) else fG (iV t) t.ax (fG (kV t) t.ag (⟨#[]⟩,0) 0 t.j.length) (i+1) (t.h.length - (i+1)):=by
     rw [(aD:t.h.length - i=t.h.length - (i+1)+1),fG]
    rw [f] at b;refine aB k (by simp [D.J,D.Q,wX,xC]) ?_;simp [go_sem,seval];refine bA (λl=>?_) (λl=>?_)
    .have hc':iV t i≠0:=by simpa using l
     rw [if_pos hc'] at b;simp [go_sem,seval,<- b,Types.ax,aA g]
    .have hc':¬ iV t i≠0:=by simpa using l
     rw [if_neg hc'] at b;simp [go_sem,seval,p,v,u,o,dI,Types.c];refine ⟨dU aD aD,i+1,aD,aD,aD,λj B=>?_,b⟩;rcases bX j i with hj'|hj'
     .exact y j hj'
     .have:j=i:=aD;subst this;simpa using hc'
   .simp [go_sem,seval,p,Types.c];intro _;rw [(aD:t.h.length - i=0)] at b;simp only [fG] at b;refine gF (ι:=Nat) (λi e H=>i<=t.j.length/\e 1=.adr t.c/\e 44=.list (t.j.map EdgeTy.c)/\e 45=dI t.j.length/\e 46=dI i /\
     fG (kV t) t.ag (⟨#[]⟩,0) i (t.j.length - i)=dA t) (λi=>t.j.length - i) 0 (by simp [go_sem,seval,p,dI,Types.c,b]) ?_
    intro i G H ⟨F,p,s,r,m,b⟩;simp [go_sem,seval,r,m,dI,Types.c];refine gP (λg=>?_) (λw=>?_)
    .simp [go_sem,seval,p,s,m,dI,Types.c,EdgeTy.c,g];have k:=P0 t z i g;simp only [Types.d,Types.c,dI] at k;have f:fG (kV t) t.ag (⟨#[]⟩,0) i (t.j.length - i) =
       if kV t i≠0 then (t.ag i,kV t i) else fG (kV t) t.ag (⟨#[]⟩,0) (i+1) (t.j.length - (i+1)):=by
      rw [(aD:t.j.length - i=t.j.length - (i+1)+1),fG]
     rw [f] at b;refine aB k (by simp [D.J,D.Q,wX,xC]) ?_;simp [go_sem,seval];refine bA (λl=>?_) (λl=>?_)
     .have hc':kV t i≠0:=by simpa using l
      rw [if_pos hc'] at b;simp [go_sem,seval,<- b,Types.ag,aA g]
     .have hc':¬ kV t i≠0:=by simpa using l
      rw [if_neg hc'] at b;simp [go_sem,seval,p,s,r,m,dI,Types.c];exact ⟨dU aD aD,i+1,aD,aD,aD,b⟩
    .rw [(aD:t.j.length - i=0)] at b;simp only [fG] at b;simp [go_sem,seval,<- b]
theorem CP (c:Int):Pua 342 [.int .u8 c] (.bool (jS c)):=by
 refine aU (Tz.c0 func342 rfl ?_);simp [go_sem,seval,jS,D.Q];try omega
theorem vB (c:Int):Pua 343 [.int .u8 c] (.bool (lK c)):=by
 refine aU (Tz.c0 func343 rfl ?_);simp [go_sem,seval,lK,D.Q]
def wN (digits:Bool)(c:Int):Bool:=lK c||(!digits&&(jS c||c==95))
theorem S0 (s:ByteArray)(i:Bool)(v:s.size<=1000000):Pua 344 [.str s,dI 0,.bool i] (dI (iB (wN i) s)):=by
 refine aU (Tz.c0 func344 rfl ?_);simp [go_sem,seval,dI];refine gF (ι:=Nat) (λn e H=>H=.as/\n<=s.size/\e 0=.str s/\e 1=dI 0/\e 2=.bool i/\e 7=dI n/\(∀ j,j<n->wN i (yQ s j)=true)) (λn=>s.size - n) 0 (by simp [go_sem,seval,dI]) ?_;intro n e H ⟨u,t,m,l,r,k,q⟩;subst u;have p:((s.data[n]?.getD 0).toNat:Int)=yQ s n:=rfl;simp [go_sem,seval,m,l,k,dI,p];refine ⟨dU aD aD,λ_=>dU aD aD,aH (λ_=>vB _) (λ_=>rfl) ?_⟩;simp [go_sem,seval,m,l,r,k,dI,p];refine ⟨λ_ _ _=>dU aD aD,λh _ _=>h,aH (λ_=>CP _) (λ_=>rfl) ?_⟩;simp [go_sem,seval,m,l,k,dI,p];refine ⟨λ_ _ _ _=>dU aD aD,λh _ _ _=>h,λa b c d=>⟨⟨⟨a,b⟩,c⟩,d⟩,λa b c=>⟨⟨a,b⟩,c⟩,λa b=>⟨a,b⟩,bA (λh=>?_) (λh=>?_)⟩
 .have hr:n<s.size/\wN i (yQ s n)=true:=by simpa [wN] using h
  simp [go_sem,seval,m,l,r,k,dI];refine ⟨dU aD aD,n+1,aD,aD,aD,λj w=>?_⟩;rcases bX j n with hj'|hj'
  .exact q j hj'
  .have:j=n:=aD;subst this;exact hr.2
 .have hr:n<s.size->wN i (yQ s n)=false:=by
   intro o;simp [o] at h;simp [wN];exact h
  simp [go_sem,seval,k,dI];rw [Kd _ s n q t hr]
theorem KW (p:Nat->Bool)(n:Nat):∀ d k,k+d=n->(∀ j,1<=j->j<k->p j=true)->1<=k->∃ k,1<=k/\k<=n/\(∀ j,1<=j->j<k->p j=true)/\(k<n->p k=false)
 | 0,k,h,hp,h1=>⟨k,h1,aD,hp,λh=>by omega⟩
 | d+1,k,h,hp,h1=>by
  cases hk:p k with
  | false=>exact ⟨k,h1,aD,hp,λ_=>hk⟩
  | true =>
   refine KW p n d (k+1) aD (λj hj hlt=>?_) aD;rcases bX j k with h|h
   .exact hp j hj h
   .have:j=k:=aD;subst this;exact hk
theorem Ma (s:ByteArray)(m:1<=s.size)(y:s.size<=1000000):∃ n:Int,0<=n/\n≠1/\n<=s.size/\Pua 345 [.str s,dI 0] (dI n):=by
 obtain ⟨k,v,u,i,o⟩:=KW (λj=>qG (yQ s j)) s.size (s.size - 1) 1 aD (λj h A=>by omega) aD;refine ⟨if k<s.size/\yQ s k=34 then k+1 else 0,by split<;>omega,by split<;>omega,by split<;>omega,aU (Tz.c0 func345 rfl ?_)⟩;simp [go_sem,seval,dI];refine gF (ι:=Nat) (λn e H=>H=.as/\1<=n/\n<=k/\e 0=.str s/\e 1=dI 0/\e 5=dI n) (λn=>s.size - n) 1 (by simp [go_sem,seval,dI];omega) ?_;intro n e H ⟨x,g,z,r,m,l⟩;subst x;have w:((s.data[n]?.getD 0).toNat:Int)=yQ s n:=rfl;simp [go_sem,seval,r,m,l,dI];refine ⟨dU aD aD,bA (λd=>?_) (λp=>?_)⟩
 .simp at d;simp [go_sem,seval,r,m,l,dI,w];refine ⟨dU aD aD,d,bA (λf=>?_) (λf=>?_)⟩
  .simp at f;have c:n=k:=by
    rcases bX n k with h|h
    .have:=i n g h;simp [qG,f] at this
    .omega
   subst c;simp [go_sem,seval,l,dI];exact ⟨dU aD aD,λh=>absurd f (h d)⟩
  .simp at f;simp [go_sem,seval];refine bA (λq=>?_) (λq=>?_)
   .simp at q;have c:n=k:=by
     rcases bX n k with h|h
     .have:=i n g h;simp [qG] at this;omega
     .omega
    subst c;simp [go_sem,seval];omega
   .simp at q;have c:n<k:=by
     rcases bX n k with h|h
     .exact h
     .have hh:n=k:=aD;subst hh;have:=o d;simp [qG] at this;omega
    simp [go_sem,seval,r,m,l,dI];exact ⟨dU aD aD,n+1,aD,aD,aD,aD⟩
 .simp at p;simp [go_sem,seval];omega
def signs:List ByteArray:=Kq++[⟨#[123]⟩,⟨#[125]⟩,⟨#[40]⟩,⟨#[41]⟩,⟨#[91]⟩,⟨#[93]⟩,⟨#[44]⟩,⟨#[59]⟩,⟨#[58]⟩,⟨#[61]⟩,⟨#[43]⟩,⟨#[45]⟩,⟨#[42]⟩,⟨#[60]⟩,⟨#[62]⟩,⟨#[33]⟩,⟨#[38]⟩,⟨#[124]⟩,⟨#[46]⟩,⟨#[63]⟩]
theorem Ot:Pua 346 [] (uS signs):=by
 refine aU (Tz.c0 func346 rfl ?_);simp [go_sem,seval,uS,cS,Kq,signs]
theorem Ht (s:ByteArray):Pua 275 [.agg [dI 1,.str s,dI 0]] (.str s):=by
 refine aU (Tz.c0 func275 rfl ?_);simp [go_sem,seval,dI]
theorem Qc:wN false=qI:=by grind [wN, qI, Bool.or_assoc, Bool.or_comm]
def xV (s l:ByteArray):Bool:=decide ((l.size:Int)<=s.size)&&decide (s.extract 0 l.size=l)
def A7 (q:Int)(s:ByteArray):Int × ByteArray × Int × Int :=
  if (jS (yQ s 0)||lK (yQ s 0))=true then
    (if lK (yQ s 0)=true then (if 9<iB (wN true) s then (0,⟨#[]⟩,0,3) else (2,s.extract 0 (iB (wN true) s),iB (wN true) s,0))
     else (if 20<iB (wN false) s then (0,⟨#[]⟩,0,3) else (1,s.extract 0 (iB (wN false) s),iB (wN false) s,0)))
  else if yQ s 0=34 then
    (if q=0 then (0,⟨#[]⟩,0,2) else if 60<q - 2 then (0,⟨#[]⟩,0,3) else (3,s.extract 1 (q - 1).toNat,q,0))
  else match signs.find? (xV s) with
    | some l=>(4,l,l.size,0)
    | none=>(0,⟨#[]⟩,0,2)
theorem S1 (s:ByteArray)(W:1<=s.size)(U:s.size<=100000)(q:Int)(O:0<=q)(N:q≠1)(M:q<=s.size)(P:Pua 345 [.str s,dI 0] (dI q)) :
  Pua 276 [.str s,dI 0] (.tup [.agg [dI (A7 q s).1,.str (A7 q s).2.1,dI 0],dI (A7 q s).2.2.1,dI (A7 q s).2.2.2]):=by
 have S:((s.data[0]?.getD 0).toNat:Int)=yQ s 0:=rfl;refine aU (Tz.cK ⟨λt=>t==4,λr=>match r with|22=>[(7,10),(8,10),(9,10)]|_=>[]⟩ func276 rfl ?_);simp [go_sem,seval,dI,S];refine ⟨aD,aB (CP _) rfl ?_⟩;simp [go_sem,seval];refine aH (λ_=>vB _) (λ_=>rfl) ?_;simp [go_sem,seval];refine bA (λf=>?_) (λf=>?_)
 .simp [go_sem,seval];refine aB (vB _) rfl ?_;simp [go_sem,seval];refine aB (S0 s _ aD) rfl ?_;simp [go_sem,seval,dI];refine aB (vB _) rfl ?_;simp [go_sem,seval];refine bA (λu=>?_) (λu=>?_)
  .simp [go_sem,seval];rw [u];have L:=D2 (wN true) s;refine bA (λh=>?_) (λh=>?_)
   .simp at h;simp [go_sem,seval,A7,u,(aD:9<iB (wN true) s)]
   .simp at h;simp [go_sem,seval,A7,u,(aD:¬ 9<iB (wN true) s)];exact ⟨dU aD aD,aD⟩
  .have g:lK (yQ s 0)=false:=by simpa using u
   simp [go_sem,seval];rw [g];have L:=D2 (wN false) s;have o:jS (yQ s 0)=true:=by simpa [g] using f
   refine bA (λh=>?_) (λh=>?_)
   .simp at h;simp [go_sem,seval,A7,g,o,(aD:20<iB (wN false) s)]
   .simp at h;simp [go_sem,seval,A7,g,o,(aD:¬ 20<iB (wN false) s)];exact ⟨dU aD aD,aD⟩
 .have hld':¬ (jS (yQ s 0)||lK (yQ s 0))=true:=by simp at f;simp [f]
  simp [go_sem,seval];refine bA (λd=>?_) (λd=>?_)
  .simp at d;simp [go_sem,seval];refine aB P rfl ?_;simp [go_sem,seval,dI];have e:A7 q s=(if q=0 then (0,⟨#[]⟩,0,2) else if 60<q - 2 then (0,⟨#[]⟩,0,3) else (3,s.extract 1 (q - 1).toNat,q,0)):=by
    unfold A7;rw [if_neg hld',if_pos d]
   rw [e];refine bA (λp=>?_) (λp=>?_)
   .simp at p;simp [go_sem,seval,p]
   .simp at p;simp [go_sem,seval,p];refine ⟨dU aD aD,gP (λC=>?_) (λC=>?_)⟩
    .simp [go_sem,seval,C]
    .simp [go_sem,seval,C];exact ⟨dU aD aD,dU aD aD,dU aD aD,aD,aD⟩
  .simp at d;simp [go_sem,seval];refine aB Ot rfl ?_;simp [go_sem,seval];have e:A7 q s=(match signs.find? (xV s) with|some l=>(4,l,l.size,0)|none=>(0,⟨#[]⟩,0,2)):=by
    unfold A7;rw [if_neg hld',if_neg d]
   rw [e];refine gF (ι:=Nat) (λn e H=>(∃ E,H.get 0=some ⟨E,3,[[dI 0,.str ⟨#[]⟩,dI 0]],false⟩)/\n<=signs.length/\e 0=.str s/\e 1=dI 0/\e 4=.ptr 0 1 0 0/\e 12=uS signs/\e 13=dI n/\(∀ j l,j<n->signs[j]?=some l->xV s l=false)) (λn=>signs.length - n) 0 (by simp [go_sem,seval,dI]) ?_;intro n e H ⟨⟨E,B⟩,V,G,v,D,k,i,z⟩;simp [go_sem,seval,k,i,dI,uS];intro F;refine gP (λc=>?_) (λQ=>?_)
   .simp [go_sem,seval,G,v,k,i,dI,uS,c,cS];have I:signs[n].size<=2:=(show ∀ l∈signs,l.size<=2 by decide) _ (aC c);refine ⟨dU aD aD,λ_=>dU aD aD,bA (λA=>?_) (λA=>?_)⟩
    .have m:xV s signs[n]=true:=by simpa [xV] using A
     have R:signs.find? (xV s)=some signs[n]:=by
      rw [List.find?_eq_some_iff_getElem];refine ⟨m,n,c,rfl,λj y=>?_⟩;simpa using z j _ y (aA aD)
     simp [go_sem,seval,D,k,i,dI,B,uS,c,cS,R]
    .have m:xV s signs[n]=false:=by simpa [xV] using A
     simp [go_sem,seval,G,v,D,k,i,dI,B,uS];have K:signs.length=25:=rfl;refine ⟨dU aD aD,n+1,aD,aD,aD,λj l y o=>?_⟩;rcases bX j n with hj'|hj'
     .exact z j l hj' o
     .have:j=n:=aD;subst this;rw [aA c] at o;cases o;exact m
   .simp [go_sem,seval,D,dI,B];have:signs.find? (xV s)=none:=by
     rw [List.find?_eq_none];intro x J;obtain ⟨j,y,rfl⟩:=aN J;simpa using z j _ aD (aA y)
    simp [this]
theorem UA (s:ByteArray)(b:¬ s.size=0)(q:Int):(decide ((A7 q s).2.2.2=0)&&(A7 q s).2.2.1==(s.size:Int)&&(A7 q s).1==1)=lA s:=by
 unfold A7 lA;by_cases a:jS (yQ s 0)=true
 .have hdg:lK (yQ s 0)=false:=by simp [jS,lK] at *;omega
  simp only [hdg,a,Qc];grind
 grind
theorem Ou (s:ByteArray)(f:s.size<=100000):Pua 199 [.agg [dI 1,.str s,dI 0]] (.bool (lA s)):=by
 by_cases b:s.size=0
 .refine aU (Tz.cK ⟨λt=>t==4,λ_=>[]⟩ func199 rfl ?_);simp [go_sem,seval,dI];refine aB (Ht s) rfl ?_;simp [go_sem,seval];refine bA (λh=>?_) (λh=>?_)
  .simp [go_sem,seval,lA,b]
  .simp [rU,b] at h
 .obtain ⟨q,e,d,c,g⟩:=Ma s aD aD;refine aU (Tz.cK ⟨λt=>t==4,λ_=>[]⟩ func199 rfl ?_);simp [go_sem,seval,dI];refine aB (Ht s) rfl ?_;simp [go_sem,seval];refine bA (λh=>?_) (λh=>?_)
  .simp [rU,b] at h
  .simp [go_sem,seval];refine aB (S1 s aD f q e d c g) rfl ?_;simp [go_sem,seval,dI];exact UA s b q
theorem qB (s:ByteArray)(a:s.size<=100000):Pua 121 [.str s] (.bool (lA s)):=by
 refine aU (Tz.c0 func121 rfl ?_);simp [go_sem,seval];refine aB (Ou s a) rfl ?_;simp [go_sem,seval]
@[go_sem] theorem rX (l:V2):D.R (l.map cI)=true:=dY cI (λ_=>rfl) l
@[go_sem] theorem Ei (l:List Edge):D.R (l.map Edge.c)=true:=dY _ Edge.Q l
theorem JD (xs:V2)(g:FuncId)(b:UN)(p:Int->Bool)(t:D.J b=true)(s:∀ x∈xs,Pure prog g (.int .i64 x :: b) (.bool (p x))) :
  Pua 230 [.list (xs.map cI),.fn g b] (dI (Eg xs p)):=by
 refine aU (Tz.c0 func230 rfl ?_);simp [go_sem,seval,dI];intro l;refine gF (ι:=Nat) (λi e H=>H=.as/\i<=xs.length/\e 0=.list (xs.map cI)/\e 1=.fn g b/\e 7=dI xs.length/\e 8=dI i/\(∀ j x,j<i->xs[j]?=some x->p x=false)) (λi=>xs.length - i) 0 (by simp [go_sem,seval,dI]) ?_;intro i e H ⟨u,w,o,n,m,f,k⟩;subst u;simp [go_sem,seval,m,f,dI];refine gP (λc=>?_) (λr=>?_)
 .have hgx:=s xs[i] (aC c);simp [go_sem,seval,o,n,f,dI,c,cI] at hgx ⊢;refine aB hgx (by simp [go_sem,t]) ?_;simp [go_sem,seval];refine bA (λh=>?_) (λh=>?_)
  .simp [go_sem,seval];rw [rH k c h]
  .simp [go_sem,seval,o,n,m,f,dI];refine ⟨dU aD aD,i+1,aD,aD,aD,λj x q v=>?_⟩;grind
 .simp [go_sem,seval];rw [rI λj x q=>k j x aD]
theorem g7 (xs:V2)(g:FuncId)(a:UN)(p:Int->Bool)(c:D.J a=true)(d:D.Q (.list (xs.map cI))=true)(e:∀ x∈xs,Pure prog g (.int .i64 x :: a) (.bool (p x))) :
  Pua 142 [.list (xs.map cI),.fn g a] (.bool (xs.any p)):=by
 refine aU (Tz.c0 func142 rfl ?_);simp [go_sem,seval];refine aB (JD xs g a p c e) (by simp only [D.J,d,iH];simp [D.Q,c]) ?_;simp [go_sem,seval,dI,uB]
theorem FT (xs:List Edge)(g:FuncId)(b:UN)(p:Edge->Bool)(v:D.J b=true)(u:∀ x∈xs,Pure prog g (.agg x.c :: b) (.bool (p x))) :
  Pua 352 [.list (xs.map Edge.c),.fn g b] (dI (Eg xs p)):=by
 refine aU (Tz.c0 func352 rfl ?_);simp [go_sem,seval,dI];intro n;refine gF (ι:=Nat) (λi e H=>H=.as/\i<=xs.length/\e 0=.list (xs.map Edge.c)/\e 1=.fn g b/\e 7=dI xs.length/\e 8=dI i/\(∀ j x,j<i->xs[j]?=some x->p x=false)) (λi=>xs.length - i) 0 (by simp [go_sem,seval,dI]) ?_;intro i e H ⟨w,y,r,q,o,m,l⟩;subst w;simp [go_sem,seval,o,m,dI];refine gP (λd=>?_) (λt=>?_)
 .have hgx:=u xs[i] (aC d);simp [go_sem,seval,r,q,m,dI,d,Edge.c] at hgx ⊢;refine aB hgx (by simp [go_sem,v]) ?_;simp [go_sem,seval];refine bA (λh=>?_) (λh=>?_)
  .simp [go_sem,seval];rw [rH l d h]
  .simp [go_sem,seval,r,q,o,m,dI];refine ⟨dU aD aD,i+1,aD,aD,aD,λj x s k=>?_⟩;rcases bX j i with hj'|hj'
   .exact l j x hj' k
   .have:j=i:=aD;subst this;rw [aA d] at k;cases k;exact h
 .simp [go_sem,seval];rw [rI λj x s=>l j x aD]
theorem mT (xs:List Edge)(g:FuncId)(a:UN)(p:Edge->Bool)(d:D.J a=true)(e:D.Q (.list (xs.map Edge.c))=true)(f:∀ x∈xs,Pure prog g (.agg x.c :: a) (.bool (p x))) :
  Pua 288 [.list (xs.map Edge.c),.fn g a] (.bool (xs.any p)):=by
 refine aU (Tz.c0 func288 rfl ?_);simp [go_sem,seval];refine aB (FT xs g a p d f) (by simp only [D.J,e,iH];simp [D.Q,d]) ?_;simp [go_sem,seval,dI,uB]
def jB (n m:Int):Bool:=decide (0<=n)&&decide (n<=m)
theorem Df (n m:Int):Pua 315 [dI n,dI m] (.bool (jB n m)):=by
 refine aU (Tz.c0 func315 rfl ?_);simp [go_sem,seval,dI,jB]
def vI (x:Edge)(n:Int):Bool:=jB x.type 99&&jB x.w (n - 1)&&jB x.M (n - 1)
theorem QU (x:Edge)(n:Int)(g:0<=n)(f:n<=1000000):Pua 317 [.agg x.c,dI n] (.bool (vI x n)):=by
 have e:∀ a b:Int,Pua 315 [.int .i64 a,.int .i64 b] (.bool (jB a b)):=Df;refine aU (Tz.c0 func317 rfl ?_);simp [go_sem,seval,dI,Edge.c];refine aB (e _ _) rfl ?_;simp [go_sem,seval];refine ⟨λ_=>dU aD aD,aH (λ_=>e _ _) (λ_=>rfl) ?_⟩;simp [go_sem,seval];refine ⟨λ_ _=>dU aD aD,aH (λ_=>e _ _) (λ_=>rfl) ?_⟩;simp [go_sem,seval,vI]
theorem Mt (n:Int):Pua 314 [.int .i64 n] (.bool (!jB n 99)):=by
 have c:∀ a b:Int,Pua 315 [.int .i64 a,.int .i64 b] (.bool (jB a b)):=Df;refine aU (Tz.c0 func314 rfl ?_);simp [go_sem,seval];refine aB (c _ _) rfl ?_;simp [go_sem,seval]
theorem Ms (g:Graph)(d:g.h.length<=1000000)(x:Edge):Pua 316 [.agg x.c,.adr g.c] (.bool (!vI x g.h.length)):=by
 have b:=QU x g.h.length aD aD;refine aU (Tz.c0 func316 rfl ?_);simp [go_sem,seval,dI,Edge.c,Graph.c,dLI];intro _;refine aB b rfl ?_;simp [go_sem,seval]
def graphF (g:Graph):Int :=
 if 40<g.h.length\/80<g.j.length then 3
 else if (g.h.any λn=>!jB n 99)=true then 6
 else if (g.j.any λx=>!vI x g.h.length)=true then 6
 else 0
theorem nW (g:Graph):Pua 236 [g.d] (dI (graphF g)):=by
 refine aU (Tz.c0 func236 rfl ?_);simp [go_sem,seval,dI,Graph.d,Graph.c,dLI];intro _ _;refine bA (λh=>?_) (λh=>?_)
 .have h':40<g.h.length\/80<g.j.length:=by simp at h;omega
  simp [go_sem,seval,graphF,h']
 .have h':¬ (40<g.h.length\/80<g.j.length):=by simp at h;omega
  have l:=g7 g.h 314 [] (λn=>!jB n 99) rfl (by simp [D.Q,rX]) (λn _=>Mt n);have j:=mT g.j 316 [.adr g.c] (λx=>!vI x g.h.length) (by simp [D.J,D.Q,Graph.c,rX,Ei,dLI]) (by simp [D.Q,Ei]) (λx _=>Ms g aD x);simp only [Graph.c,dLI] at j;simp [go_sem,seval];refine aB l (by simp [D.J,D.Q,rX]) ?_;simp [go_sem,seval];refine bA (λb=>?_) (λb=>?_)
  .have e:graphF g=6:=by unfold graphF;rw [if_neg h',if_pos b]
   simp [go_sem,seval,e]
  .simp [go_sem,seval];refine aB j (by simp [D.J,D.Q,rX,Ei]) ?_;simp [go_sem,seval];refine bA (λi=>?_) (λi=>?_)
   .have e:graphF g=6:=by unfold graphF;rw [if_neg h',if_neg (by rw [b];simp),if_pos i]
    simp [go_sem,seval,e]
   .have e:graphF g=0:=by unfold graphF;rw [if_neg h',if_neg (by rw [b];simp),if_neg (by rw [i];simp)]
    simp [go_sem,seval,e]
theorem Hq (n:Int):Pua 187 [.int .i64 n] (.bool (jB n 99)):=by
 refine aU (Tz.c0 func187 rfl ?_);simp [go_sem,seval,jB]
theorem Om (x:Edge)(n:Int):Pua 188 [.agg x.c,.int .i64 n] (.bool (vI x n)):=by
 refine aU (Tz.c0 func188 rfl ?_);simp [go_sem,seval,Edge.c,dI];refine aB (Hq _) rfl ?_;simp [go_sem,seval,vI,jB];grind
theorem eE {α:Type}(l:List α)(p:α->Bool)(i:Nat)(a:i<l.length):(l.take (i+1)).any p=((l.take i).any p||p l[i]):=by
 rw [List.take_succ_eq_append_getElem a,Cn];simp
theorem mM (g:Graph):Pua 106 [g.d] (dI (graphF g)):=by
 refine aU (Tz.c0 func106 rfl ?_);simp [go_sem,seval,dI,Graph.d,Graph.c,dLI];intro _ _;refine bA (λh=>?_) (λh=>?_)
 .have h':40<g.h.length\/80<g.j.length:=by simp at h;omega
  simp [go_sem,seval,graphF,h']
 .have h':¬ (40<g.h.length\/80<g.j.length):=by simp at h;omega
  simp [go_sem,seval];refine gF (ι:=Nat) (λi e H=>i<=g.h.length/\e 1=.adr g.c/\e 3=dI i/\((g.h.take i).any λn=>!jB n 99)=false) (λi=>g.h.length - i) 0 (by simp [go_sem,seval,dI,Graph.c,dLI]) ?_;intro i e H ⟨v,l,t,r⟩;simp [go_sem,seval,l,t,dI,Graph.c,dLI];intro _;refine gP (λf=>?_) (λp=>?_)
  .simp [go_sem,seval,l,t,dI,Graph.c,dLI,f,cI];refine aB (Hq _) rfl ?_;simp [go_sem,seval];refine bA (λm=>?_) (λm=>?_)
   .have hany:(g.h.any λn=>!jB n 99)=true:=bB.2 ⟨_,aC f,m⟩;have e:graphF g=6:=by unfold graphF;rw [if_neg h',if_pos hany]
    simp [go_sem,seval,e]
   .simp [go_sem,seval,l,t,dI,Graph.c,dLI];refine ⟨dU aD aD,i+1,aD,aD,aD,?_⟩;have:=eE g.h (λn=>!jB n 99) i f;rw [r,m] at this;simpa using this
  .simp [go_sem,seval];have o:(g.h.any λn=>!jB n 99)=false:=by rw [(aD:i=g.h.length),uN] at r;exact r
   refine gF (ι:=Nat) (λk e H=>k<=g.j.length/\e 1=.adr g.c/\e 4=dI k/\((g.j.take k).any λx=>!vI x g.h.length)=false) (λk=>g.j.length - k) 0 (by simp [go_sem,seval,l,dI,Graph.c,dLI]) ?_;intro k e H ⟨u,l,s,q⟩;simp [go_sem,seval,l,s,dI,Graph.c,dLI];intro _;refine gP (λf=>?_) (λp=>?_)
   .have hr:=Om g.j[k] g.h.length;simp only [Edge.c,dI] at hr;simp [go_sem,seval,l,s,dI,Graph.c,dLI,f,Edge.c];refine aI hr rfl ?_;simp [go_sem,seval];refine bA (λm=>?_) (λm=>?_)
    .have hany:(g.j.any λx=>!vI x g.h.length)=true:=bB.2 ⟨_,aC f,m⟩;have e:graphF g=6:=by unfold graphF;rw [if_neg h',if_neg (by rw [o];simp),if_pos hany]
     simp [go_sem,seval,e]
    .simp [go_sem,seval,l,s,dI,Graph.c,dLI];refine ⟨dU aD aD,k+1,aD,aD,aD,?_⟩;have:=eE g.j (λx=>!vI x g.h.length) k f;rw [q,m] at this;simpa using this
   .have hb':(g.j.any λx=>!vI x g.h.length)=false:=by rw [(aD:k=g.j.length),uN] at q;exact q
    have e:graphF g=0:=by unfold graphF;rw [if_neg h',if_neg (by rw [o];simp),if_neg (by rw [hb'];simp)]
    simp [go_sem,seval,e]
attribute [go_sem] dI dLI uS cI cS Attr.c NodeTy.c EdgeTy.c Types.c Types.d Edge.c Graph.c Graph.d
theorem yN (a b:UN):D.J (a++b)=(D.J a&&D.J b):=by
 induction a with
 | nil=>simp [D.J]
 | cons x a c=>simp [D.J,c,kY]
@[go_sem] theorem Xc (a b:UE):D.R (a++b)=(D.R a&&D.R b):=by
 induction a with
 | nil=>simp [D.R]
 | cons x a c=>simp [D.R,c,kY]
attribute [go_sem] yN
def inF (n low high:Int):Bool:=decide (low<=n)&&decide (n<=high)
theorem oY (n b a:Int):Pua 126 [dI n,dI b,dI a] (.bool (inF n b a)):=by
 refine Tz.p0 func126 rfl λQ c Y=>?_;have Y:=wa Y @inF.eq_1;exact wo (h:=c _ _ wy)
theorem OP {l:List ByteArray}{i:Nat}(e:i<l.length):mem (l.take i) l[i]=true↔∃ j,j<i/\l[j]?=some l[i]:=by
 rw [mem_iff,Fy];constructor
 .rintro ⟨j,d,b⟩;have a:j<l.length:=aD;exact ⟨j,aD,by rw [aA a,b]⟩
 grind
theorem lM {p:Nat->Prop}{k:Nat}(h:∀ j,j<k->p j)(hk:p k):∀ j,j<k+1->p j:=λj hj=>by
 rcases bX j k with h'|h'
 .exact h j h'
 .have:j=k:=aD;subst this;exact hk
theorem On (l:List ByteArray)(y:∀ s∈l,s.size<=100000):Pua 255 [uS l] (dI (pF l)):=by
 refine Tz.p0 func255 rfl λQ m Y=>?_;refine eJ (λB=>?_) λB=>?_
 .exact wv (h:=m _ _ (by simp [go_sem,pF,(aD:20<l.length)]))
 .refine wv (h:=bC (λi e H=>(e 0=uS l/\e 3=dI i)/\(i<=l.length)/\(oR (l.take i) (l.drop i)=pF l)) (λi=>l.length - i) 0 ⟨wg,wi,(by simp [pF,(aD:¬ 20<l.length)])⟩ λI t i e H q=>?_);obtain ⟨D,F,d⟩:=q;have Y:=wa Y D;refine eJ (λa=>?_) λa=>?_
  .rw [fR a] at d;have x:=y _ (aC a);have Y:=wa Y a;refine wo (h:=aB (qB _ (by assumption)) wl ?_);refine eJ (λn=>?_) λn=>?_
   .exact wv (h:=m _ _ (by rw [<- d];simp [go_sem,oR,n]))
   .refine wv (h:=bC (λk e H=>(e 0=uS l/\e 3=dI i/\e 4=dI k)/\(k<=i)/\(∀ j,j<k->l[j]?≠some l[i])) (λk=>i - k) 0 ⟨wg,wi,(by intro j z;omega)⟩ λG r k e H p=>?_);obtain ⟨C,E,c⟩:=p;have Y:=wa Y C;refine dR (λu=>?_) λu=>?_
    .have hkl:k<l.length:=aD;have Y:=xa1 Y u hkl;refine eJ (λb=>?_) λb=>?_
     .exact wv (h:=m _ _ (by have f:mem (l.take i) l[i]=true:=(OP a).2 ⟨k,u,by rw [aA hkl,b]⟩;rw [<- d];simp [go_sem,oR,n,f]))
     .exact wo (h:=wx r (k+1) ⟨wg,wj,(lM c (by rw [aA hkl];simpa using b))⟩)
    .have f:¬ mem (l.take i) l[i]=true:=λf=>by
      obtain ⟨j,z,A⟩:=(OP a).1 f;exact c j aD A
     exact wo (h:=wx t (i+1) ⟨wg,wj,(by rw [<- d,oR,if_neg (by simp [n]),if_neg f,List.take_succ_eq_append_getElem a])⟩)
  .exact wv (h:=m _ _ (by rw [<- d,(aD:i=l.length)];simp [go_sem,oR]))
def Fu (x:Attr):Int :=
 if pF x.af≠0 then pF x.af
 else if (if 0<x.af.length then decide (x.ap=0)&&decide (x.a8=x.af.length - 1) else decide (-1000000<=x.ap)&&decide (x.ap<=x.a8)&&decide (x.a8<=1000000))=true then 0 else 6
theorem FQ (x:Attr)(g:x.ok):Pua 164 [.agg x.c] (dI (Fu x)):=by
 have i:=g.b5;have f:x.af=[]->pF x.af=0:=λh=>by rw [h];rfl
 refine Tz.p0 func164 rfl λQ a Y=>?_;refine eJ (λd=>?_) λd=>?_
 .have hp:¬ 0<x.af.length:=by simp [d]
  refine wo (h:=aB (oY _ _ _) wl ?_);refine wo (h:=aH (λj=>oY _ _ _) (λj=>wl) ?_);refine eJ (λe=>?_) λe=>?_
  .exact wv (h:=a _ _ (by simp [go_sem,Fu,f d,hp];simp [inF] at e;omega))
  .exact wv (h:=a _ _ (by simp [go_sem,Fu,f d,hp];simp [inF] at e;omega))
 .have hp:0<x.af.length:=by cases l:x.af<;>simp_all
  refine wv (h:=aB (On x.af g.af) wl ?_);refine dR (λb=>?_) λb=>?_
  .exact wv (h:=a _ _ (by simp [go_sem,Fu,b]))
  .refine eJ (λk=>?_) λk=>?_
   .exact wv (h:=a _ _ (by simp [go_sem,Fu,b,hp];omega))
   .exact wv (h:=a _ _ (by simp [go_sem,Fu,b,hp];omega))
theorem Ev (t:Types)(a:Nat)(b:a<t.h.length)(c:parentsOK t.h a) :
  t.r a=(if 0<=t.h[a].C then t.r t.h[a].C.toNat else [])++t.h[a].r:=by
 have f:=c a _ (bF _) (aA b);by_cases d:0<=t.h[a].C
 .have hlt:t.h[a].C.toNat<a:=aD;have:=Fr t.h t.h[a].C.toNat a (t.h[a].C.toNat+1) (λj m h g=>c j m aD g) hlt aD;simp [Types.r,n6,aA b,d,this]
 .simp [Types.r,n6,aA b,d]
theorem L9 (t:Types)(a:Int)(b:a<0):Pua 56 [t.d,dI a] (.list []):=by
 refine Tz.pK ⟨λt=>t==7,λr=>match r with|3=>[(0,1),(0,2),(0,3),(0,5),(0,6),(0,7),(0,8),(0,10),(9,10),(0,11),(9,11),(0,13),(9,13),(0,14),(9,14),(0,15),(9,15)]|_=>[]⟩ func56 rfl (λQ c=>?_);have Y:=b;exact wv (h:=c _ _ wy)
theorem E7 (t:Types)(i:t.ok):∀ a:Nat,a<t.h.length->parentsOK t.h a->Pua 56 [t.d,dI a] (.list ((t.r a).map Attr.c)):=by
 intro a;induction a using Nat.strongRecOn with
 | _ a ih =>
 intro f g;have o:=g a _ (bF _) (aA f);have b:=uH t.h (λn p=>(i.h n p).b5) (a+1) a;have k:=i.ca;have e:=Ev t a f g;have v:Pua 56 [t.d,dI t.h[a].C] (.list (((if 0<=t.h[a].C then t.r t.h[a].C.toNat else [])).map Attr.c)):=by
  by_cases l:0<=t.h[a].C
  .rw [if_pos l];have:=ih t.h[a].C.toNat aD aD (λj m y q=>g j m aD q);grind
  .rw [if_neg l];exact L9 t _ aD
 have s:(if 0<=t.h[a].C then t.r t.h[a].C.toNat else []).length+t.h[a].r.length<=2000000:=by
  have x:(t.r a).length<=1000 * (a+1):=b;rw [e,aQ] at x;omega
 rw [e];generalize (if 0<=t.h[a].C then t.r t.h[a].C.toNat else [])=u at *;refine Tz.pK ⟨λt=>t==7,λr=>match r with|3=>[(0,1),(0,2),(0,3),(0,5),(0,6),(0,7),(0,8),(0,10),(9,10),(0,11),(9,11),(0,13),(9,13),(0,14),(9,14),(0,15),(9,15)]|_=>[]⟩ func56 rfl (λQ w=>?_);have Y:=xa1 (aA f) f ((show ¬ ((a:Int)<0) by omega));refine wo (h:=aI (v) wl ?_);exact wo (h:=w _ _ wy)
theorem EZ (b a:Int):Pua 165 [dI b,dI a] (.bool (boundedF b a)):=by
 refine Tz.p0 func165 rfl λQ d Y=>?_;refine wo (h:=aB (oY _ _ _) wl ?_);refine wo (h:=aH (λc=>oY _ _ _) (λc=>wl) ?_);have Y:=xa1 Y @boundedF.eq_1 @inF.eq_1;exact wo (h:=d _ _ wy)
theorem vT {α:Type}{l:List α}{p:α->Bool}{k i:Nat}(hk:k<i)(hl:k<l.length)(h:p l[k]=true):(l.take i).any p=true :=
 bB.2 ⟨l[k],Fy.2 ⟨k,aD,rfl⟩,h⟩
theorem tA {α:Type}{l:List α}{p:α->Bool}{k i:Nat}(h:(l.take k).any p=false)(a:k=i):(l.take i).any p=false:=by rw [<- a];exact h
def BB (l:List Attr)(k:Nat):Int:=match l[k]? with|some x=>d8 x (l.take k)|none=>0
theorem Vu {l:List Attr}{k:Nat}(h:k<l.length):BB l k=if lA l[k].name=false then 2 else if ((l.take k).any λy=>decide (y.name=l[k].name))=true then 5 else Fu l[k]:=by
 unfold BB;rw [aA h];rfl
theorem fN (f:Nat->Int){k n:Nat}(h:k<n):bV f k (n - k)=if f k≠0 then f k else bV f (k+1) (n - (k+1)):=by
 rw [(aD:n - k=n - (k+1)+1),bV]
theorem C3 (t:Types)(i:Nat)(a:i<t.h.length):iV t i =
  if lA t.h[i].name=false then 2
  else if ((t.h.take i).any λm=>decide (m.name=t.h[i].name))=true then 5
  else if (decide (t.h[i].C < -1)||decide ((i:Int)<=t.h[i].C))=true then 6
  else if 4<t.h[i].r.length then 3
  else if 8<(t.r i).length then 3
  else bV (BB (t.r i)) ((t.r i).length - t.h[i].r.length) t.h[i].r.length:=by
 unfold iV;rw [aA a];rfl
theorem Qw (t:Types)(B:t.ok)(i:Nat)(q:i<t.h.length)(hp:∀ j n,j<i->t.h[j]?=some n->n.C<j):Pua 88 [t.d,dI i] (dI (iV t i)):=by
 have K:=B.h _ (aC q);have Z:=B.ca;have F:=C3 t i q;have C:∀ x∈t.r i,x.ok:=xN t.h B.h _ _;have a1:=uH t.h (λn D=>(B.h n D).b5) (i+1) i;have a0:t.h[i].r.length<=(t.r i).length:=by simp [Types.r,n6,aA q]
 refine Tz.pK ⟨λt=>t==5,λ_=>[]⟩ func88 rfl (λQ l=>?_);have Y:=wa (aA q) q;refine wo (h:=aB (qB _ K.name) wl ?_);refine eJ (λw=>?_) λw=>?_
 .exact wv (h:=l _ _ (.inl (by simp [go_sem,F,w])))
 .refine wv (h:=bC (λk e H=>(e 1=dI i/\e 2=.adr t.c/\e 5=.ptr 0 1 0 0/\e 6=dI k)/\(H.get 0=some ⟨141,4,[t.h[i].c],false⟩)/\(0<H.next)/\(k<=i)/\(((t.h.take k).any λm=>decide (m.name=t.h[i].name))=false)) (λk=>i - k) 0 ⟨wg,wn,wn,wi,aE⟩ λI0 R k e H N=>?_);obtain ⟨E0,G,A,hk,b⟩:=N;have Y:=xa2 Y E0 G (cW A);refine dR (λV=>?_) λV=>?_
  .have hkl:k<t.h.length:=aD;have Y:=xa1 Y V hkl;refine eJ (λU=>?_) λU=>?_
   .exact wv (h:=l _ _ (.inl (by have r:=vT (p:=λm:NodeTy=>decide (m.name=t.h[i].name)) V hkl (bZ U);rw [F,if_neg (by simp [w]),if_pos r];simp [go_sem])))
   .exact wo (h:=wx R (k+1) ⟨wg,wn,wn,wj,(by rw [eE _ _ _ hkl,b];simpa using U)⟩)
  .have r:=tA b (aD:k=i);refine wo (h:=aB (oY _ _ _) wl ?_);refine eJ (λT=>?_) λT=>?_
   .exact wv (h:=l _ _ (.inl (by rw [F,if_neg (by simp [w]),if_neg (by simp [r]),if_pos (by simp [inF] at T;simp;omega)];simp [go_sem])))
   .have hr:¬ (decide (t.h[i].C < -1)||decide ((i:Int)<=t.h[i].C))=true:=by simp [inF] at T;simp;omega
    have J:parentsOK t.h i:=λj n hj D=>by
     rcases bX j i with h|h
     .exact hp j n h D
     .have:j=i:=aD;subst this;rw [aA q] at D;cases D;simp at hr;omega
    refine wv (h:=aB (E7 t B i q J) wl ?_);refine eJ (λW=>?_) λW=>?_
    .exact wv (h:=l _ _ (.inl (by rw [F,if_neg (by simp [w]),if_neg (by simp [r]),if_neg hr];simp [go_sem];omega)))
    .have hF2:iV t i=bV (BB (t.r i)) ((t.r i).length - t.h[i].r.length) t.h[i].r.length:=by rw [F,if_neg (by simp [w]),if_neg (by simp [r]),if_neg hr,if_neg aD,if_neg aD]
     refine wo (h:=bC (λk e H=>(e 1=dI i/\e 2=.adr t.c/\e 7=.list ((t.r i).map Attr.c)/\e 8=dI k)/\(k<=(t.r i).length)/\(bV (BB (t.r i)) k ((t.r i).length - k)=iV t i)) (λk=>(t.r i).length - k) ((t.r i).length - t.h[i].r.length) ⟨wg,aD,(by rw [hF2];congr 1;omega)⟩ λI2 P k e H M=>?_);obtain ⟨E2,hk,E⟩:=M;have Y:=wa Y E2;refine eJ (λa=>?_) λa=>?_
     .have hst:=fN (BB (t.r i)) a;rw [E] at hst;have S:=Vu a;have Y:=wa Y a;refine wo (h:=aB (qB _ (C _ (aC a)).name) wl ?_);refine eJ (λg=>?_) λg=>?_
      .refine wv (h:=?_);have f:BB (t.r i) k=2:=by rw [S,if_pos (by simp [g])]
       exact l _ _ (.inl (by rw [hst,f];simp [go_sem]))
      .refine wv (h:=bC (λj e H=>(e 1=dI i/\e 2=.adr t.c/\e 7=.list ((t.r i).map Attr.c)/\e 8=dI k/\e 9=dI j)/\(j<=k)/\((((t.r i).take j).any λy=>decide (y.name=(t.r i)[k].name))=false)) (λj=>k - j) 0 ⟨wg,wi,aE⟩ λI4 O j e H L=>?_);obtain ⟨E4,hj,b⟩:=L;have Y:=wa Y E4;refine dR (λv=>?_) λv=>?_
       .have hjl:j<(t.r i).length:=aD;have Y:=xa1 Y v hjl;refine eJ (λu=>?_) λu=>?_
        .refine wv (h:=?_);have r:=vT (p:=λy:Attr=>decide (y.name=(t.r i)[k].name)) v hjl (bZ u);have f:BB (t.r i) k=5:=by rw [S,if_neg (by simp [g]),if_pos r]
         exact l _ _ (.inl (by rw [hst,f];simp [go_sem]))
        .exact wo (h:=wx O (j+1) ⟨wg,wj,(by rw [eE _ _ _ hjl,b];simpa using u)⟩)
       .have hb2:=tA b (aD:j=k);have f:BB (t.r i) k=Fu (t.r i)[k]:=by rw [S,if_neg (by simp [g]),if_neg (by simp [hb2])]
        rw [f] at hst;refine wo (h:=aB (FQ _ (C _ (aC a))) wl ?_);refine eJ (λs=>?_) λs=>?_
        .exact wv (h:=l _ _ (.inl (by rw [hst,if_pos (bZ s)];simp [go_sem])))
        .exact wo (h:=wx P (k+1) ⟨wg,wj,(by rw [if_neg (by simp [s])] at hst;rw [<- hst])⟩)
     .exact wv (h:=l _ _ (.inl (by rw [<- E,(aD:(t.r i).length - k=0)];rfl)))
theorem Pg (t:Types)(i:Nat)(a:i<t.j.length):kV t i =
  if lA t.j[i].name=false then 2
  else if ((t.j.take i).any λy=>decide (y.name=t.j[i].name))=true then 5
  else if (insideF t t.j[i].w&&insideF t t.j[i].M&&boundedF t.j[i].cn t.j[i].b7&&boundedF t.j[i].dc t.j[i].cp)=true then 0 else 6:=by
 unfold kV;rw [aA a]
theorem yG (t:Types)(a:Int):inF a 0 ((t.h.length:Int) - 1)=insideF t a:=by
 simp only [inF,insideF];rw [aT];simp;omega
theorem Qx (t:Types)(w:t.ok)(i:Nat)(q:i<t.j.length):Pua 89 [t.d,dI i] (dI (kV t i)):=by
 have x:=w.j _ (aC q);have D:=w.ca;have z:=w.e2;have u:=Pg t i q;refine Tz.pK ⟨λt=>t==5,λ_=>[]⟩ func89 rfl (λQ s=>?_);have Y:=wa (aA q) q;refine wo (h:=aB (qB _ x.name) wl ?_);refine eJ (λn=>?_) λn=>?_
 .exact wv (h:=s _ _ (by simp [go_sem,u,n]))
 .refine wv (h:=bC (λk e H=>(e 1=dI i/\e 2=.adr t.c/\e 5=.ptr 0 1 0 0/\e 6=dI k)/\(H.get 0=some ⟨143,7,[t.j[i].c],false⟩)/\(0<H.next)/\(k<=i)/\(((t.j.take k).any λm=>decide (m.name=t.j[i].name))=false)) (λk=>i - k) 0 ⟨wg,wn,wn,wi,aE⟩ λL A k e H y=>?_);obtain ⟨F,o,g,J,j⟩:=y;have Y:=xa2 Y F o (cW g);refine dR (λC=>?_) λC=>?_
  .have hkl:k<t.j.length:=aD;have Y:=xa1 Y C hkl;refine eJ (λB=>?_) λB=>?_
   .exact wv (h:=s _ _ (by have r:=vT (p:=λm:EdgeTy=>decide (m.name=t.j[i].name)) C hkl (bZ B);rw [u,if_neg (by simp [n]),if_pos r];simp [go_sem]))
   .exact wo (h:=wx A (k+1) ⟨wg,wn,wn,wj,(by rw [eE _ _ _ hkl,j];simpa using B)⟩)
  .have r:=tA j (aD:k=i);refine wo (h:=aB (oY _ _ _) wl ?_);refine wo (h:=aH (λl=>oY _ _ _) (λl=>wl) ?_);refine wo (h:=aH (λl=>EZ _ _) (λl=>wl) ?_);refine wo (h:=aH (λl=>EZ _ _) (λl=>wl) ?_);refine wo (h:=bA (λf=>?_) (λf=>?_))
   .skip
    simp only [yG] at f;exact wv (h:=s _ _ (by rw [u,if_neg (by simp [n]),if_neg (by simp [r])];revert f;cases insideF t t.j[i].w<;>cases insideF t t.j[i].M<;>cases boundedF t.j[i].cn t.j[i].b7<;>cases boundedF t.j[i].dc t.j[i].cp<;>simp [go_sem]))
   .skip
    simp only [yG] at f;exact wv (h:=s _ _ (by rw [u,if_neg (by simp [n]),if_neg (by simp [r])];revert f;cases insideF t t.j[i].w<;>cases insideF t t.j[i].M<;>cases boundedF t.j[i].cn t.j[i].b7<;>cases boundedF t.j[i].dc t.j[i].cp<;>simp [go_sem]))
theorem Di (f:Nat->Int)(b:Nat->ByteArray)(a:ByteArray × Int){k n:Nat}(h:k<n):fG f b a k (n - k)=if f k≠0 then (b k,f k) else fG f b a (k+1) (n - (k+1)):=by
 rw [(aD:n - k=n - (k+1)+1),fG]
theorem pJ (t:Types)(l:t.ok):Pua 41 [t.d] (.tup [.str (dA t).1,dI (dA t).2]):=by
 have y:=l.ca;have s:=l.e2;refine Tz.p0 func41 rfl λQ g Y=>?_;refine eJ (λo=>?_) λo=>?_
 .exact wv (h:=g _ _ (by simp [go_sem,dA,o]))
 .refine eJ (λD=>?_) λD=>?_
  .exact wv (h:=g _ _ (by simp [go_sem,dA,o,(aD:12<t.h.length\/20<t.j.length)]))
  .have e:dA t=fG (iV t) t.ax (fG (kV t) t.ag (⟨#[]⟩,0) 0 t.j.length) 0 t.h.length:=by simp only [dA];rw [if_neg (bZ o),if_neg aD]
   refine wv (h:=bC (λi e H=>(e 1=.adr t.c/\e 4=dI i)/\(i<=t.h.length)/\(∀ j,j<i->iV t j=0)/\(fG (iV t) t.ax (fG (kV t) t.ag (⟨#[]⟩,0) 0 t.j.length) i (t.h.length - i)=dA t)) (λi=>t.h.length - i) 0 ⟨wg,wi,(by intro j x;omega),(by rw [e];rfl)⟩ λI v i e H r=>?_);obtain ⟨F,C,w,a⟩:=r;have Y:=wa Y F;refine eJ (λk=>?_) λk=>?_
   .have hst:=a;rw [Di _ _ _ k] at hst;have Y:=wa Y k;refine wv (h:=aB (Qw t l i k (λj n x B=>yD t j n (w j x) B)) wl ?_);refine dR (λm=>?_) λm=>?_
    .exact wo (h:=g _ _ (by rw [if_pos (bZ m)] at hst;simp [go_sem,<- hst,Types.ax,aA k]))
    .exact wo (h:=wx v (i+1) ⟨wg,wj,(lM w (bZ m)),(by rw [if_neg (bZ m)] at hst;exact hst)⟩)
   .have hE:fG (kV t) t.ag (⟨#[]⟩,0) 0 t.j.length=dA t:=by rw [<- a,(aD:t.h.length - i=0)];rfl
    refine wv (h:=bC (λi e H=>(e 1=.adr t.c/\e 6=dI i)/\(i<=t.j.length)/\(fG (kV t) t.ag (⟨#[]⟩,0) i (t.j.length - i)=dA t)) (λi=>t.j.length - i) 0 ⟨wg,wi,(hE)⟩ λG u i e H q=>?_);obtain ⟨E,C,a⟩:=q;have Y:=wa Y E;refine eJ (λb=>?_) λb=>?_
    .have hst:=a;rw [Di _ _ _ b] at hst;have Y:=wa Y b;refine wv (h:=aB (Qx t l i b) wl ?_);refine dR (λf=>?_) λf=>?_
     .exact wo (h:=g _ _ (by rw [if_pos (bZ f)] at hst;simp [go_sem,<- hst,Types.ag,aA b]))
     .exact wo (h:=wx u (i+1) ⟨wg,wj,(by rw [if_neg (bZ f)] at hst;exact hst)⟩)
    .exact wv (h:=g _ _ (by rw [<- a,(aD:t.j.length - i=0)];simp [go_sem,fG]))
theorem s7 {f:Nat->Int}{nm:Nat->ByteArray}{last:ByteArray × Int}:∀ (n k:Nat),(fG f nm last k n).2=0->(∀ j,k<=j->j<k+n->f j=0)/\last.2=0
 | 0,k,h=>⟨λj h1 h2=>by omega,h⟩
 | n+1,k,h=>by
  unfold fG at h;split at h
  .rename_i hne;exact absurd h hne
  .rename_i hz;obtain ⟨a,b⟩:=s7 n (k+1) h;refine ⟨λj h1 h2=>?_,b⟩;rcases Nat.eq_or_lt_of_le h1 with h3|h3
   .subst h3;exact aY λhne=>hz hne
   .exact a j h3 aD
structure Types.a7 (t:Types):Prop where
 ne:0<t.h.length
 ca:t.h.length<=12
 e2:t.j.length<=20
 C:∀ (j:Nat) (n:NodeTy),t.h[j]?=some n->n.C<j
 ap:∀ (j:Nat) (n:NodeTy),t.h[j]?=some n->-1<=n.C
 r:∀ j,j<t.h.length->(t.r j).length<=8
 eh:∀ x∈t.j,insideF t x.w=true/\insideF t x.M=true
theorem mX {t:Types}(h:(dA t).2=0):t.a7:=by
 unfold dA at h;split at h
 .simp at h
 .rename_i h0;split at h
  .simp at h
  .rename_i h1;obtain ⟨i,f⟩:=s7 _ _ h;obtain ⟨f,_⟩:=s7 _ _ f;have b:∀ j (a:j<t.h.length),iV t j=0:=λj a=>i j aD aD;refine ⟨aD,aD,aD,λj n e=>?_,λj n e=>?_,λj a=>?_,λx g=>?_⟩
   .exact yD t j n (b j (aO.1 e).1) e
   .have a:=(aO.1 e).1;have d:=b j a;rw [C3 t j a] at d;grind
   .have d:=b j a;rw [C3 t j a] at d;grind
   .obtain ⟨j,a,rfl⟩:=aN g;have d:=f j aD aD;rw [Pg t j a] at d;grind
theorem Types.a7.au {t:Types}(h:t.a7)(a:Nat):parentsOK t.h a:=λj n _ hn=>h.C j n hn
def given2F (t:Types)(a b:Int):Int:=if (dA t).2≠0 then (dA t).2 else if (insideF t a&&insideF t b)=true then 0 else 6
theorem EY (t:Types)(j:t.ok)(a b:Int):Pua 55 [t.d,dI a,dI b] (dI (given2F t a b)):=by
 have k:=j.ca;refine Tz.p0 func55 rfl λQ i Y=>?_;refine wv (h:=aB (pJ t j) wl ?_);refine dR (λe=>?_) λe=>?_
 .have Y:=xa1 Y e @given2F.eq_1;exact wv (h:=i _ _ wy)
 .refine wo (h:=aB (oY _ _ _) wl ?_);refine wo (h:=aH (λl=>oY _ _ _) (λl=>wl) ?_);refine wo (h:=bA (λc=>?_) (λc=>?_))
  .skip
   simp only [yG] at c;exact wv (h:=i _ _ (by revert c;cases g:insideF t a<;>cases f:insideF t b<;>simp [go_sem,given2F,e,g,f]))
  .skip
   simp only [yG] at c;exact wv (h:=i _ _ (by revert c;cases g:insideF t a<;>cases f:insideF t b<;>simp [go_sem,given2F,e,g,f]))
def givenF (t:Types)(l:V2):Int:=if (dA t).2≠0 then (dA t).2 else if (l.any λa=>!insideF t a)=true then 6 else 0
theorem Lx (t:Types)(a:Int):Pua 301 [dI a,.adr t.c] (.bool (!insideF t a)):=by
 refine Tz.p0 func301 rfl λQ b Y=>?_;have Y:=wa Y @insideF.eq_1;exact wo (h:=b _ _ wy)
theorem zP (t:Types)(g:t.ok)(l:V2):Pua 231 [t.d,dLI l] (dI (givenF t l)):=by
 refine Tz.p0 func231 rfl λQ e Y=>?_;refine wv (h:=aB (nM t g) wl ?_);refine dR (λb=>?_) λb=>?_
 .have Y:=xa1 Y b @givenF.eq_1;exact wv (h:=e _ _ wy)
 .refine wv (h:=aB (g7 l 301 [.adr t.c] (λa=>!insideF t a) (by simp [go_sem]) (by simp [go_sem]) (λa _=>Lx t a)) wl ?_);refine dR (λf=>?_) λf=>?_
  .have Y:=xa2 Y b f @givenF.eq_1;exact wv (h:=e _ _ wy)
  .have Y:=xa2 Y b f @givenF.eq_1;exact wv (h:=e _ _ wy)
theorem KN (t:Types)(a b:Int):givenF t [a,b]=given2F t a b:=by
 unfold givenF given2F;cases d:insideF t a<;>cases c:insideF t b<;>simp [d,c]
def HN (nodes:List NodeTy):Nat->Nat->V2
 | 0,_=>[]
 | f+1,a=>match nodes[a]? with
  | none=>[]
  | some n=>(if 0<=n.C then HN nodes f n.C.toNat else [])++[(a:Int)]
def Types.aw (t:Types)(a:Nat):V2:=HN t.h (a+1) a
theorem QI (b:List NodeTy):∀ a f g,parentsOK b a->a<f->a<g->HN b f a=HN b g a:=by
 intro a;induction a using Nat.strongRecOn with
 | _ a ih =>
  intro f g d l k;obtain ⟨f,rfl⟩:∃ f',f=f'+1:=⟨f - 1,aD⟩;obtain ⟨g,rfl⟩:∃ g',g=g'+1:=⟨g - 1,aD⟩;unfold HN;split
  .rfl
  .rename_i n hn;have:=d a n (bF _) hn;congr 1;split
   .exact ih n.C.toNat aD f g (λj m i e=>d j m aD e) aD aD
   .rfl
theorem Am (t:Types)(a:Nat)(b:a<t.h.length)(c:parentsOK t.h a) :
  t.aw a=(if 0<=t.h[a].C then t.aw t.h[a].C.toNat else [])++[(a:Int)]:=by
 have e:=c a _ (bF _) (aA b);by_cases d:0<=t.h[a].C
 .have hlt:t.h[a].C.toNat<a:=aD;have:=QI t.h t.h[a].C.toNat a (t.h[a].C.toNat+1) (λj m h f=>c j m aD f) hlt aD;simp [Types.aw,HN,aA b,d,this]
 .simp [Types.aw,HN,aA b,d]
end Go.Abs
end
