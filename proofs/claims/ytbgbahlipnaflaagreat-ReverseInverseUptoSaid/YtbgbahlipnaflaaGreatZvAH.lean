/- Layer 4: types, continued. · Layer 4: types, edges. · Layer  -/
import Derived.Test.YtbgbahlipnaflaaGreatZvAF
import Derived.Test.YtbgbahlipnaflaaGreatZvAG
import Derived.Test.YtbgbahlipnaflaaGreatZvAA
set_option linter.unusedVariables false
set_option linter.unusedSimpArgs false
section
set_option maxRecDepth 100000
set_option maxHeartbeats 4000000
open Go Go.Proofs Tryz
namespace Go.Abs
attribute [go_sem] vC
@[go_sem] theorem ahG (l:List ByteArray):D.R (l.map cS)=true:=d9 cS (λ_=>rfl) l
theorem JN (xs:List NodeTy)(g:FuncId)(b:UN)(p:NodeTy->Bool)(u:D.L b=true)(t:∀ x∈xs,Pure prog g (.agg x.c :: b) (.bool (p x))) :
  Pua 282 [.list (xs.map NodeTy.c),.fn g b] (dI (Ed xs p)):=by
 refine aX (Tz.c0 func282 rfl ?_);simp [go_sem,seval,dI];intro m;refine gH (ι:=Nat) (λi e H=>H=.as/\i<=xs.length/\e 0=.list (xs.map NodeTy.c)/\e 1=.fn g b/\e 7=dI xs.length/\e 8=dI i/\(∀ j x,j<i->xs[j]?=some x->p x=false)) (λi=>xs.length - i) 0 ii ?_;intro i e H ⟨v,y,q,o,n,k,l⟩;subst v;simp [go_sem,seval,n,k,dI];refine gK (λd=>?_) (λs=>?_)
 .have hgx:=t xs[i] (aC d);simp [go_sem,seval,q,o,k,dI,d,NodeTy.c] at hgx ⊢;refine aB hgx (iq u) ?_;simp [go_sem,seval];refine bB (λh=>?_) (λh=>?_)
  .simp [go_sem,seval];rw [pY l d h]
  .simp [go_sem,seval,q,o,n,k,dI];refine ⟨dW aD aD,i+1,aD,aD,aD,λj x r w=>?_⟩;grind
 .simp [go_sem,seval];rw [pZ λj x r=>l j x aD]
theorem Er (xs:List NodeTy)(g:FuncId)(a:UN)(p:NodeTy->Bool)(d:D.L a=true)(e:D.Q (.list (xs.map NodeTy.c))=true)(f:∀ x∈xs,Pure prog g (.agg x.c :: a) (.bool (p x))) :
  Pua 217 [.list (xs.map NodeTy.c),.fn g a] (.bool (xs.any p)):=by
 refine aX (Tz.c0 func217 rfl ?_);simp [go_sem,seval];refine aB (JN xs g a p d f) (by simp only [D.L,e,gW];simp [D.Q,d]) ?_;simp [go_sem,seval,dI,sU]
theorem JO (xs:List EdgeTy)(g:FuncId)(b:UN)(p:EdgeTy->Bool)(u:D.L b=true)(t:∀ x∈xs,Pure prog g (.agg x.c :: b) (.bool (p x))) :
  Pua 286 [.list (xs.map EdgeTy.c),.fn g b] (dI (Ed xs p)):=by
 refine aX (Tz.c0 func286 rfl ?_);simp [go_sem,seval,dI];intro m;refine gH (ι:=Nat) (λi e H=>H=.as/\i<=xs.length/\e 0=.list (xs.map EdgeTy.c)/\e 1=.fn g b/\e 7=dI xs.length/\e 8=dI i/\(∀ j x,j<i->xs[j]?=some x->p x=false)) (λi=>xs.length - i) 0 ii ?_;intro i e H ⟨v,y,q,o,n,k,l⟩;subst v;simp [go_sem,seval,n,k,dI];refine gK (λd=>?_) (λs=>?_)
 .have hgx:=t xs[i] (aC d);simp [go_sem,seval,q,o,k,dI,d,EdgeTy.c] at hgx ⊢;refine aB hgx (iq u) ?_;simp [go_sem,seval];refine bB (λh=>?_) (λh=>?_)
  .simp [go_sem,seval];rw [pY l d h]
  .simp [go_sem,seval,q,o,n,k,dI];refine ⟨dW aD aD,i+1,aD,aD,aD,λj x r w=>?_⟩;grind
 .simp [go_sem,seval];rw [pZ λj x r=>l j x aD]
theorem Es (xs:List EdgeTy)(g:FuncId)(a:UN)(p:EdgeTy->Bool)(d:D.L a=true)(e:D.Q (.list (xs.map EdgeTy.c))=true)(f:∀ x∈xs,Pure prog g (.agg x.c :: a) (.bool (p x))) :
  Pua 222 [.list (xs.map EdgeTy.c),.fn g a] (.bool (xs.any p)):=by
 refine aX (Tz.c0 func222 rfl ?_);simp [go_sem,seval];refine aB (JO xs g a p d f) (by simp only [D.L,e,gW];simp [D.Q,d]) ?_;simp [go_sem,seval,dI,sU]
@[go_sem] theorem x7 (l:List NodeTy):D.R (l.map NodeTy.c)=true:=d9 _ NodeTy.Q l
@[go_sem] theorem yI (l:List EdgeTy):D.R (l.map EdgeTy.c)=true:=d9 _ EdgeTy.Q l
theorem Po (x y:NodeTy):Pua 218 [.agg y.c,.adr x.c] (.bool (decide (y.name=x.name))):=by
 refine aX (Tz.c0 func218 rfl ?_);simp [go_sem,seval,NodeTy.c,dI]
theorem yT (nodes:List NodeTy)(h:∀ n∈nodes,n.ok):∀ f a,∀ x∈kV nodes f a,x.ok
 | 0,a,x,hx=>by simp [kV] at hx
 | f+1,a,x,hx=>by
  unfold kV at hx;split at hx
  .simp at hx
  .rename_i n hn;rcases aZ.1 hx with hx|hx
   .split at hx
    .exact yT nodes h f _ x hx
    .simp at hx
   .exact (h n (aL hn)).r x hx
def bW (f:Nat->Int):Nat->Nat->Int
 | _,0=>0
 | k,n+1=>if f k≠0 then f k else bW f (k+1) n
def i4 (t:Types)(i:Nat):Int :=
 match t.h[i]? with
 | none=>0
 | some n =>
  if lJ n.name=false then 2
  else if ((t.h.take i).any λm=>decide (m.name=n.name))=true then 5
  else if (decide (n.E < -1)||decide ((i:Int)<=n.E))=true then 6
  else if 4<n.r.length then 3
  else if 8<(t.r i).length then 3
  else bW (λk=>match (t.r i)[k]? with|some x=>eD x ((t.r i).take k)|none=>0) ((t.r i).length - n.r.length) n.r.length
theorem Sq (t:Types)(A:t.ok)(i:Nat)(g:i<t.h.length)(Q:∀ j n,j<i->t.h[j]?=some n->n.E<j):Pua 137 [t.d,dI i] (dI (i4 t i)):=by
 have F:=A.h _ (aC g);refine aX (Tz.cK ⟨λt=>t==5,λ_=>[]⟩ func137 rfl ?_);simp [go_sem,seval,dI,Types.d,Types.c,NodeTy.c,g];refine aB (qI _ F.name) rfl ?_;simp [go_sem,seval];refine bB (λm=>?_) (λm=>?_)
 .simp at m;simp [go_sem,seval,i4,aA g,m]
 .simp at m;simp [go_sem,seval];have U:=Er (t.h.take i) 218 [.adr t.h[i].c] (λy=>decide (y.name=t.h[i].name)) (by simp [D.L,D.Q,NodeTy.Q]) (by rw [D.Q];exact x7 _) (λy _=>Po t.h[i] y);refine ⟨⟨aD,by cases t.h<;>simp [NodeTy.c]⟩,s4 U (by simp [Lg,G4,gI,go_sem,NodeTy.c,dI,List.map_take]) (by simp only [D.L,D.Q,x7,NodeTy.Q];rfl) rfl ?_⟩;simp [go_sem,seval];refine bB (λr=>?_) (λr=>?_)
  .simp [go_sem,seval,i4,aA g,m,r]
  .simp [go_sem,seval];refine bB (λB=>?_) (λB=>?_)
   .have f:(decide (t.h[i].E < -1)||decide ((i:Int)<=t.h[i].E))=true:=by simpa using B
    simp [go_sem,seval];have e:i4 t i=6:=by simp only [i4,aA g];rw [if_neg (iw m),if_neg (iw r),if_pos f]
    simp [e]
   .simp at B;simp [go_sem,seval];have f:¬ (decide (t.h[i].E < -1)||decide ((i:Int)<=t.h[i].E))=true:=by simp;omega
    intro P;refine bB (λN=>?_) (λN=>?_)
    .have h4':4<t.h[i].r.length:=by simp at N;omega
     simp [go_sem,seval];have e:i4 t i=3:=by simp only [i4,aA g];rw [if_neg (iw m),if_neg (iw r),if_neg f,if_pos h4']
     simp [e]
    .have h4':¬ 4<t.h[i].r.length:=by simp at N;omega
     simp [go_sem,seval];have C:parentsOK t.h i:=λj n W p=>by
      rcases bX j i with h|h
      .exact Q j n h p
      .have:j=i:=aD;subst this;rw [aA g] at p;cases p;omega
     have v:=F3 t A i g C;simp only [Types.d,Types.c,dI] at v;refine aB v.pure (by simp [D.L,D.Q,x7,yI]) ?_;simp [go_sem,seval];intro I;refine bB (λK=>?_) (λK=>?_)
     .have h8':8<(t.r i).length:=by simp at K;omega
      simp [go_sem,seval];have e:i4 t i=3:=by simp only [i4,aA g];rw [if_neg (iw m),if_neg (iw r),if_neg f,if_neg h4',if_pos h8']
      simp [e]
     .have h8':¬ 8<(t.r i).length:=by simp at K;omega
      have e:i4 t i=bW (λk=>match (t.r i)[k]? with|some x=>eD x ((t.r i).take k)|none=>0) ((t.r i).length - t.h[i].r.length) t.h[i].r.length:=by
       simp only [i4,aA g];rw [if_neg (iw m),if_neg (iw r),if_neg f,if_neg h4',if_neg h8']
      have R:t.h[i].r.length<=(t.r i).length:=by simp [Types.r,kV,aA g]
      have E:∀ x∈t.r i,x.ok:=yT t.h A.h _ _;simp [go_sem,seval];refine λ_ _=>⟨dW aD aD,?_⟩;refine gH (ι:=Nat) (λk e H=>k<=(t.r i).length/\e 6=.list ((t.r i).map Attr.c)/\e 7=dI k /\
       bW (λk=>match (t.r i)[k]? with|some x=>eD x ((t.r i).take k)|none=>0) k ((t.r i).length - k)=i4 t i) (λk=>(t.r i).length - k) ((t.r i).length - t.h[i].r.length) ?_ ?_
      .simp [go_sem,seval,dI];refine ⟨aD,?_⟩;rw [e];congr 1;omega
      .intro k e' H ⟨S,M,L,s⟩;simp [go_sem,seval,M,L,dI];intro G;refine gK (λq=>?_) (λT=>?_)
       .simp [go_sem,seval,M,L,dI,q,Attr.c];have u:=GX (t.r i)[k] ((t.r i).take k) (E _ (aC q));simp only [Attr.c,dI,List.map_take] at u;have J:D.R (List.take k (List.map Attr.c (t.r i)))=true:=by rw [<- List.map_take];exact vC _
        refine ⟨⟨S,by cases t.r i<;>simp [Attr.c]⟩,aH u (by simp [D.L,D.Q,J,Yq]) ?_⟩;have o:bW (λk=>match (t.r i)[k]? with|some x=>eD x ((t.r i).take k)|none=>0) k ((t.r i).length - k) =
          if eD (t.r i)[k] ((t.r i).take k)≠0 then eD (t.r i)[k] ((t.r i).take k) else bW (λk=>match (t.r i)[k]? with|some x=>eD x ((t.r i).take k)|none=>0) (k+1) ((t.r i).length - (k+1)):=by
         rw [(aD:(t.r i).length - k=(t.r i).length - (k+1)+1),bW,aA q]
        rw [o] at s;simp [go_sem,seval];refine bB (λz=>?_) (λz=>?_)
        .have hz':eD (t.r i)[k] ((t.r i).take k)≠0:=by simpa using z
         rw [if_pos hz'] at s;simp [go_sem,seval,s]
        .have hz':¬ eD (t.r i)[k] ((t.r i).take k)≠0:=by simpa using z
         rw [if_neg hz'] at s;simp [go_sem,seval,M,L,dI];exact ⟨dW aD aD,k+1,aD,aD,aD,s⟩
       .simp [go_sem,seval];rw [<- s,(aD:(t.r i).length - k=0)];rfl
def boundedF (low high:Int):Bool:=(decide (0<=low)&&decide (low<=40))&&(decide (high = -1)||(decide (low<=high)&&decide (high<=40)))
theorem KW (b a:Int):Pua 224 [dI b,dI a] (.bool (boundedF b a)):=by
 refine aX (Tz.c0 func224 rfl ?_);simp [go_sem,seval,dI,boundedF];try omega
theorem Pr (t:Types)(a:Int):Pua 221 [dI a,.adr t.c] (.bool (decide (0<=a)&&decide (a<t.h.length))):=by
 refine aX (Tz.c0 func221 rfl ?_);simp [go_sem,seval,dI,Types.c]
theorem Pq (x y:EdgeTy):Pua 223 [.agg y.c,.adr x.c] (.bool (decide (y.name=x.name))):=by
 refine aX (Tz.c0 func223 rfl ?_);simp [go_sem,seval,EdgeTy.c,dI]
def insideF (t:Types)(a:Int):Bool:=decide (0<=a)&&decide (a<t.h.length)
def lF (t:Types)(i:Nat):Int :=
 match t.i[i]? with
 | none=>0
 | some x =>
  if lJ x.name=false then 2
  else if ((t.i.take i).any λy=>decide (y.name=x.name))=true then 5
  else if (insideF t x.w&&insideF t x.M&&boundedF x.cx x.ch&&boundedF x.dm x.cy)=true then 0 else 6
theorem Ss (t:Types)(v:t.ok)(i:Nat)(k:i<t.i.length):Pua 138 [t.d,dI i] (dI (lF t i)):=by
 have s:=v.i _ (aC k);have m:D.R (List.map NodeTy.c t.h)=true:=x7 _;have n:D.R (List.map EdgeTy.c t.i)=true:=yI _;have l:∀ a:Int,Pua 221 [.int .i64 a,.adr [.list (t.h.map NodeTy.c),.list (t.i.map EdgeTy.c)]] (.bool (insideF t a)):=Pr t;have o:∀ a b:Int,Pua 224 [.int .i64 a,.int .i64 b] (.bool (boundedF a b)):=KW;refine aX (Tz.cK ⟨λt=>t==5,λ_=>[]⟩ func138 rfl ?_);simp [go_sem,seval,dI,Types.d,Types.c,EdgeTy.c,k];refine aB (qI _ s.name) rfl ?_;simp [go_sem,seval];refine bB (λj=>?_) (λj=>?_)
 .simp at j;simp [go_sem,seval,lF,aA k,j]
 .simp at j;simp [go_sem,seval];have w:=Es (t.i.take i) 223 [.adr t.i[i].c] (λy=>decide (y.name=t.i[i].name)) (by simp [D.L,D.Q,EdgeTy.Q]) (by rw [D.Q];exact yI _) (λy _=>Pq t.i[i] y);refine ⟨⟨aD,by cases t.i<;>simp [EdgeTy.c]⟩,s4 w (by simp [Lg,G4,gI,go_sem,EdgeTy.c,dI,List.map_take]) (by simp only [D.L,D.Q,yI,EdgeTy.Q];rfl) rfl ?_⟩;simp [go_sem,seval];refine bB (λp=>?_) (λp=>?_)
  .simp [go_sem,seval,lF,aA k,j,p]
  .simp [go_sem,seval];refine aB (l _) (by simp [D.L,D.Q,m,n]) ?_;simp [go_sem,seval];refine aK (λ_=>l _) (λ_=>by simp [D.L,D.Q,m,n]) ?_;simp [go_sem,seval];refine bB (λq=>?_) (λq=>?_)
   .have e:lF t i=6:=by
     simp only [lF,aA k];rw [if_neg (iw j),if_neg (iw p),if_neg (by intro h;simp at h;simp [h] at q)]
    simp [go_sem,seval];refine bB (λ_=>?_) (λh=>?_)
    .simp [go_sem,seval,e]
    .rw [q] at h;cases h
   .simp [go_sem,seval];refine aB (o _ _) rfl ?_;simp [go_sem,seval];refine aK (λ_=>o _ _) (λ_=>rfl) ?_;simp [go_sem,seval];refine bB (λr=>?_) (λr=>?_)
    .have e:lF t i=6:=by
      simp only [lF,aA k];rw [if_neg (iw j),if_neg (iw p),if_neg (by intro h;simp at h;simp [h] at r)]
     simp [go_sem,seval,e]
    .have e:lF t i=0:=by
      simp only [lF,aA k];rw [if_neg (iw j),if_neg (iw p),if_pos (by simp at q r ⊢;simp [q,r])]
     simp [go_sem,seval,e]
theorem zF (t:Types)(j:Nat)(n:NodeTy)(h:i4 t j=0)(a:t.h[j]?=some n):n.E<j:=by
 simp only [i4,a] at h;grind
def fI (f:Nat->Int)(nm:Nat->ByteArray)(last:ByteArray × Int):Nat->Nat->ByteArray × Int
 | _,0=>last
 | k,n+1=>if f k≠0 then (nm k,f k) else fI f nm last (k+1) n
def Types.ay (t:Types)(i:Nat):ByteArray:=match t.h[i]? with|some n=>n.name|none=>⟨#[]⟩
def Types.ag (t:Types)(i:Nat):ByteArray:=match t.i[i]? with|some n=>n.name|none=>⟨#[]⟩
def dG (t:Types):ByteArray × Int :=
 if t.h.length=0 then (⟨#[]⟩,7)
 else if 12<t.h.length\/20<t.i.length then (⟨#[]⟩,3)
 else fI (i4 t) t.ay (fI (lF t) t.ag (⟨#[]⟩,0) 0 t.i.length) 0 t.h.length
theorem nZ (t:Types)(z:t.ok):Pua 77 [t.d] (.tup [.str (dG t).1,dI (dG t).2]):=by
 refine aX (Tz.cK ⟨λt=>t==5||t==8,λ_=>[]⟩ func77 rfl ?_);simp [go_sem,seval,dI,Types.d,Types.c];intro A;refine bB (λq=>?_) (λq=>?_)
 .simp at q;simp [go_sem,seval,dG,q]
 .simp at q;simp [go_sem,seval];intro _ _;refine bB (λx=>?_) (λx=>?_)
  .have hb':12<t.h.length\/20<t.i.length:=by simp at x;omega
   simp [go_sem,seval,dG,q,hb']
  .have hb':¬ (12<t.h.length\/20<t.i.length):=by simp at x;omega
   have e:dG t=fI (i4 t) t.ay (fI (lF t) t.ag (⟨#[]⟩,0) 0 t.i.length) 0 t.h.length:=by simp [dG,q,hb']
   simp [go_sem,seval];intro _;refine gH (ι:=Nat) (λi e H=>i<=t.h.length/\e 1=.adr t.c/\e 27=.list (t.h.map NodeTy.c)/\e 28=dI t.h.length/\e 29=dI i/\(∀ j,j<i->i4 t j=0) /\
    fI (i4 t) t.ay (fI (lF t) t.ag (⟨#[]⟩,0) 0 t.i.length) i (t.h.length - i)=dG t) (λi=>t.h.length - i) 0 (by simp [go_sem,seval,dI,Types.c,e]) ?_
   intro i G H ⟨F,p,v,u,o,y,b⟩;simp [go_sem,seval,u,o,dI,Types.c];refine gK (λg=>?_) (λw=>?_)
   .simp [go_sem,seval,p,v,o,dI,Types.c,NodeTy.c,g];have k:=Sq t z i g (λj n B E=>zF t j n (y j B) E);simp only [Types.d,Types.c,dI] at k;have f:fI (i4 t) t.ay (fI (lF t) t.ag (⟨#[]⟩,0) 0 t.i.length) i (t.h.length - i) =
      if i4 t i≠0 then (t.ay i,i4 t i) else fI (i4 t) t.ay (fI (lF t) t.ag (⟨#[]⟩,0) 0 t.i.length) (i+1) (t.h.length - (i+1)):=by
     rw [(aD:t.h.length - i=t.h.length - (i+1)+1),fI]
    rw [f] at b;refine aB k (by simp [D.L,D.Q,x7,yI]) ?_;simp [go_sem,seval];refine bB (λl=>?_) (λl=>?_)
    .have hc':i4 t i≠0:=by simpa using l
     rw [if_pos hc'] at b;simp [go_sem,seval,<- b,Types.ay,aA g]
    .have hc':¬ i4 t i≠0:=by simpa using l
     rw [if_neg hc'] at b;simp [go_sem,seval,p,v,u,o,dI,Types.c];refine ⟨dW aD aD,i+1,aD,aD,aD,λj B=>?_,b⟩;rcases bX j i with hj'|hj'
     .exact y j hj'
     .have:j=i:=aD;subst this;simpa using hc'
   .simp [go_sem,seval,p,Types.c];intro _;rw [(aD:t.h.length - i=0)] at b;simp only [fI] at b;refine gH (ι:=Nat) (λi e H=>i<=t.i.length/\e 1=.adr t.c/\e 44=.list (t.i.map EdgeTy.c)/\e 45=dI t.i.length/\e 46=dI i /\
     fI (lF t) t.ag (⟨#[]⟩,0) i (t.i.length - i)=dG t) (λi=>t.i.length - i) 0 (by simp [go_sem,seval,p,dI,Types.c,b]) ?_
    intro i G H ⟨F,p,s,r,m,b⟩;simp [go_sem,seval,r,m,dI,Types.c];refine gK (λg=>?_) (λw=>?_)
    .simp [go_sem,seval,p,s,m,dI,Types.c,EdgeTy.c,g];have k:=Ss t z i g;simp only [Types.d,Types.c,dI] at k;have f:fI (lF t) t.ag (⟨#[]⟩,0) i (t.i.length - i) =
       if lF t i≠0 then (t.ag i,lF t i) else fI (lF t) t.ag (⟨#[]⟩,0) (i+1) (t.i.length - (i+1)):=by
      rw [(aD:t.i.length - i=t.i.length - (i+1)+1),fI]
     rw [f] at b;refine aB k (by simp [D.L,D.Q,x7,yI]) ?_;simp [go_sem,seval];refine bB (λl=>?_) (λl=>?_)
     .have hc':lF t i≠0:=by simpa using l
      rw [if_pos hc'] at b;simp [go_sem,seval,<- b,Types.ag,aA g]
     .have hc':¬ lF t i≠0:=by simpa using l
      rw [if_neg hc'] at b;simp [go_sem,seval,p,s,r,m,dI,Types.c];exact ⟨dW aD aD,i+1,aD,aD,aD,b⟩
    .rw [(aD:t.i.length - i=0)] at b;simp only [fI] at b;simp [go_sem,seval,<- b]
theorem DL (c:Int):Pua 342 [.int .u8 c] (.bool (jY c)):=by
 refine aX (Tz.c0 func342 rfl ?_);simp [go_sem,seval,jY,D.Q];try omega
theorem wA (c:Int):Pua 343 [.int .u8 c] (.bool (lV c)):=by
 refine aX (Tz.c0 func343 rfl ?_);simp [go_sem,seval,lV,D.Q]
def xN (digits:Bool)(c:Int):Bool:=lV c||(!digits&&(jY c||c==95))
theorem VP (s:ByteArray)(i:Bool)(v:s.size<=1000000):Pua 344 [.str s,dI 0,.bool i] (dI (iH (xN i) s)):=by
 refine aX (Tz.c0 func344 rfl ?_);simp [go_sem,seval,dI];refine gH (ι:=Nat) (λn e H=>H=.as/\n<=s.size/\e 0=.str s/\e 1=dI 0/\e 2=.bool i/\e 7=dI n/\(∀ j,j<n->xN i (zS s j)=true)) (λn=>s.size - n) 0 ii ?_;intro n e H ⟨u,t,m,l,r,k,q⟩;subst u;have p:((s.data[n]?.getD 0).toNat:Int)=zS s n:=rfl;simp [go_sem,seval,m,l,k,dI,p];refine ⟨dW aD aD,λ_=>dW aD aD,aK (λ_=>wA _) (λ_=>rfl) ?_⟩;simp [go_sem,seval,m,l,r,k,dI,p];refine ⟨λ_ _ _=>dW aD aD,λh _ _=>h,aK (λ_=>DL _) (λ_=>rfl) ?_⟩;simp [go_sem,seval,m,l,k,dI,p];refine ⟨λ_ _ _ _=>dW aD aD,λh _ _ _=>h,λa b c d=>⟨⟨⟨a,b⟩,c⟩,d⟩,λa b c=>⟨⟨a,b⟩,c⟩,λa b=>⟨a,b⟩,bB (λh=>?_) (λh=>?_)⟩
 .have hr:n<s.size/\xN i (zS s n)=true:=by simpa [xN] using h
  simp [go_sem,seval,m,l,r,k,dI];refine ⟨dW aD aD,n+1,aD,aD,aD,λj w=>?_⟩;rcases bX j n with hj'|hj'
  .exact q j hj'
  .have:j=n:=aD;subst this;exact hr.2
 .have hr:n<s.size->xN i (zS s n)=false:=by
   intro o;simp [o] at h;simp [xN];exact h
  simp [go_sem,seval,k,dI];rw [Mg _ s n q t hr]
theorem M7 (p:Nat->Bool)(n:Nat):∀ d k,k+d=n->(∀ j,1<=j->j<k->p j=true)->1<=k->∃ k,1<=k/\k<=n/\(∀ j,1<=j->j<k->p j=true)/\(k<n->p k=false)
 | 0,k,h,hp,h1=>⟨k,h1,aD,hp,λh=>by omega⟩
 | d+1,k,h,hp,h1=>by
  cases hk:p k with
  | false=>exact ⟨k,h1,aD,hp,λ_=>hk⟩
  | true =>
   refine M7 p n d (k+1) aD (λj hj hlt=>?_) aD;rcases bX j k with h|h
   .exact hp j hj h
   .have:j=k:=aD;subst this;exact hk
theorem Ol (s:ByteArray)(m:1<=s.size)(y:s.size<=1000000):∃ n:Int,0<=n/\n≠1/\n<=s.size/\Pua 345 [.str s,dI 0] (dI n):=by
 obtain ⟨k,v,u,i,o⟩:=M7 (λj=>qV (zS s j)) s.size (s.size - 1) 1 aD (λj h A=>by omega) aD;refine ⟨if k<s.size/\zS s k=34 then k+1 else 0,by split<;>omega,by split<;>omega,by split<;>omega,aX (Tz.c0 func345 rfl ?_)⟩;simp [go_sem,seval,dI];refine gH (ι:=Nat) (λn e H=>H=.as/\1<=n/\n<=k/\e 0=.str s/\e 1=dI 0/\e 5=dI n) (λn=>s.size - n) 1 (by simp [go_sem,seval,dI];omega) ?_;intro n e H ⟨x,g,z,r,m,l⟩;subst x;have w:((s.data[n]?.getD 0).toNat:Int)=zS s n:=rfl;simp [go_sem,seval,r,m,l,dI];refine ⟨dW aD aD,bB (λd=>?_) (λp=>?_)⟩
 .simp at d;simp [go_sem,seval,r,m,l,dI,w];refine ⟨dW aD aD,d,bB (λf=>?_) (λf=>?_)⟩
  .simp at f;have c:n=k:=by
    rcases bX n k with h|h
    .have:=i n g h;simp [qV,f] at this
    .omega
   subst c;simp [go_sem,seval,l,dI];exact ⟨dW aD aD,λh=>absurd f (h d)⟩
  .simp at f;simp [go_sem,seval];refine bB (λq=>?_) (λq=>?_)
   .simp at q;have c:n=k:=by
     rcases bX n k with h|h
     .have:=i n g h;simp [qV] at this;omega
     .omega
    subst c;simp [go_sem,seval];omega
   .simp at q;have c:n<k:=by
     rcases bX n k with h|h
     .exact h
     .have hh:n=k:=aD;subst hh;have:=o d;simp [qV] at this;omega
    simp [go_sem,seval,r,m,l,dI];exact ⟨dW aD aD,n+1,aD,aD,aD,aD⟩
 .simp at p;simp [go_sem,seval];omega
def signs:List ByteArray:=Mx++[⟨#[123]⟩,⟨#[125]⟩,⟨#[40]⟩,⟨#[41]⟩,⟨#[91]⟩,⟨#[93]⟩,⟨#[44]⟩,⟨#[59]⟩,⟨#[58]⟩,⟨#[61]⟩,⟨#[43]⟩,⟨#[45]⟩,⟨#[42]⟩,⟨#[60]⟩,⟨#[62]⟩,⟨#[33]⟩,⟨#[38]⟩,⟨#[124]⟩,⟨#[46]⟩,⟨#[63]⟩]
theorem QC:Pua 346 [] (s7 signs):=by
 refine aX (Tz.c0 func346 rfl ?_);simp [go_sem,seval,s7,cS,Mx,signs]
theorem I8 (s:ByteArray):Pua 275 [.agg [dI 1,.str s,dI 0]] (.str s):=by
 refine aX (Tz.c0 func275 rfl ?_);simp [go_sem,seval,dI]
theorem SH:xN false=qY:=by grind [xN, qY, Bool.or_assoc, Bool.or_comm]
def y0 (s l:ByteArray):Bool:=decide ((l.size:Int)<=s.size)&&decide (s.extract 0 l.size=l)
def BU (q:Int)(s:ByteArray):Int × ByteArray × Int × Int :=
  if (jY (zS s 0)||lV (zS s 0))=true then
    (if lV (zS s 0)=true then (if 9<iH (xN true) s then (0,⟨#[]⟩,0,3) else (2,s.extract 0 (iH (xN true) s),iH (xN true) s,0))
     else (if 20<iH (xN false) s then (0,⟨#[]⟩,0,3) else (1,s.extract 0 (iH (xN false) s),iH (xN false) s,0)))
  else if zS s 0=34 then
    (if q=0 then (0,⟨#[]⟩,0,2) else if 60<q - 2 then (0,⟨#[]⟩,0,3) else (3,s.extract 1 (q - 1).toNat,q,0))
  else match signs.find? (y0 s) with
    | some l=>(4,l,l.size,0)
    | none=>(0,⟨#[]⟩,0,2)
theorem VQ (s:ByteArray)(W:1<=s.size)(U:s.size<=100000)(q:Int)(O:0<=q)(N:q≠1)(M:q<=s.size)(P:Pua 345 [.str s,dI 0] (dI q)) :
  Pua 276 [.str s,dI 0] (.tup [.agg [dI (BU q s).1,.str (BU q s).2.1,dI 0],dI (BU q s).2.2.1,dI (BU q s).2.2.2]):=by
 have S:((s.data[0]?.getD 0).toNat:Int)=zS s 0:=rfl;refine aX (Tz.cK ⟨λt=>t==4,λr=>match r with|22=>[(7,10),(8,10),(9,10)]|_=>[]⟩ func276 rfl ?_);simp [go_sem,seval,dI,S];refine ⟨aD,aB (DL _) rfl ?_⟩;simp [go_sem,seval];refine aK (λ_=>wA _) (λ_=>rfl) ?_;simp [go_sem,seval];refine bB (λf=>?_) (λf=>?_)
 .simp [go_sem,seval];refine aB (wA _) rfl ?_;simp [go_sem,seval];refine aB (VP s _ aD) rfl ?_;simp [go_sem,seval,dI];refine aB (wA _) rfl ?_;simp [go_sem,seval];refine bB (λu=>?_) (λu=>?_)
  .simp [go_sem,seval];rw [u];have L:=Fa (xN true) s;refine bB (λh=>?_) (λh=>?_)
   .simp at h;simp [go_sem,seval,BU,u,(aD:9<iH (xN true) s)]
   .simp at h;simp [go_sem,seval,BU,u,(aD:¬ 9<iH (xN true) s)];exact ⟨dW aD aD,aD⟩
  .have g:lV (zS s 0)=false:=by simpa using u
   simp [go_sem,seval];rw [g];have L:=Fa (xN false) s;have o:jY (zS s 0)=true:=by simpa [g] using f
   refine bB (λh=>?_) (λh=>?_)
   .simp at h;simp [go_sem,seval,BU,g,o,(aD:20<iH (xN false) s)]
   .simp at h;simp [go_sem,seval,BU,g,o,(aD:¬ 20<iH (xN false) s)];exact ⟨dW aD aD,aD⟩
 .have hld':¬ (jY (zS s 0)||lV (zS s 0))=true:=by simp at f;simp [f]
  simp [go_sem,seval];refine bB (λd=>?_) (λd=>?_)
  .simp at d;simp [go_sem,seval];refine aB P rfl ?_;simp [go_sem,seval,dI];have e:BU q s=(if q=0 then (0,⟨#[]⟩,0,2) else if 60<q - 2 then (0,⟨#[]⟩,0,3) else (3,s.extract 1 (q - 1).toNat,q,0)):=by
    unfold BU;rw [if_neg hld',if_pos d]
   rw [e];refine bB (λp=>?_) (λp=>?_)
   .simp at p;simp [go_sem,seval,p]
   .simp at p;simp [go_sem,seval,p];refine ⟨dW aD aD,gK (λC=>?_) (λC=>?_)⟩
    .simp [go_sem,seval,C]
    .simp [go_sem,seval,C];exact ⟨dW aD aD,dW aD aD,dW aD aD,aD,aD⟩
  .simp at d;simp [go_sem,seval];refine aB QC rfl ?_;simp [go_sem,seval];have e:BU q s=(match signs.find? (y0 s) with|some l=>(4,l,l.size,0)|none=>(0,⟨#[]⟩,0,2)):=by
    unfold BU;rw [if_neg hld',if_neg d]
   rw [e];refine gH (ι:=Nat) (λn e H=>(∃ E,H.get 0=some ⟨E,3,[[dI 0,.str ⟨#[]⟩,dI 0]],false⟩)/\n<=signs.length/\e 0=.str s/\e 1=dI 0/\e 4=.ptr 0 1 0 0/\e 12=s7 signs/\e 13=dI n/\(∀ j l,j<n->signs[j]?=some l->y0 s l=false)) (λn=>signs.length - n) 0 ii ?_;intro n e H ⟨⟨E,B⟩,V,G,v,D,k,i,z⟩;simp [go_sem,seval,k,i,dI,s7];intro F;refine gK (λc=>?_) (λQ=>?_)
   .simp [go_sem,seval,G,v,k,i,dI,s7,c,cS];have I:signs[n].size<=2:=(show ∀ l∈signs,l.size<=2 by decide) _ (aC c);refine ⟨dW aD aD,λ_=>dW aD aD,bB (λA=>?_) (λA=>?_)⟩
    .have m:y0 s signs[n]=true:=by simpa [y0] using A
     have R:signs.find? (y0 s)=some signs[n]:=by
      rw [List.find?_eq_some_iff_getElem];refine ⟨m,n,c,rfl,λj y=>?_⟩;simpa using z j _ y (aA aD)
     simp [go_sem,seval,D,k,i,dI,B,s7,c,cS,R]
    .have m:y0 s signs[n]=false:=by simpa [y0] using A
     simp [go_sem,seval,G,v,D,k,i,dI,B,s7];have K:signs.length=25:=rfl;refine ⟨dW aD aD,n+1,aD,aD,aD,λj l y o=>?_⟩;rcases bX j n with hj'|hj'
     .exact z j l hj' o
     .have:j=n:=aD;subst this;rw [aA c] at o;cases o;exact m
   .simp [go_sem,seval,D,dI,B];have:signs.find? (y0 s)=none:=by
     rw [List.find?_eq_none];intro x J;obtain ⟨j,y,rfl⟩:=aO J;simpa using z j _ aD (aA y)
    simp [this]
theorem XF (s:ByteArray)(b:¬ s.size=0)(q:Int):(decide ((BU q s).2.2.2=0)&&(BU q s).2.2.1==(s.size:Int)&&(BU q s).1==1)=lJ s:=by
 unfold BU lJ;by_cases a:jY (zS s 0)=true
 .have hdg:lV (zS s 0)=false:=by simp [jY,lV] at *;omega
  simp only [hdg,a,SH];grind
 grind
theorem QD (s:ByteArray)(f:s.size<=100000):Pua 199 [.agg [dI 1,.str s,dI 0]] (.bool (lJ s)):=by
 by_cases b:s.size=0
 .refine aX (Tz.cK ⟨λt=>t==4,λ_=>[]⟩ func199 rfl ?_);simp [go_sem,seval,dI];refine aB (I8 s) rfl ?_;simp [go_sem,seval];refine bB (λh=>?_) (λh=>?_)
  .simp [go_sem,seval,lJ,b]
  .simp [sF,b] at h
 .obtain ⟨q,e,d,c,g⟩:=Ol s aD aD;refine aX (Tz.cK ⟨λt=>t==4,λ_=>[]⟩ func199 rfl ?_);simp [go_sem,seval,dI];refine aB (I8 s) rfl ?_;simp [go_sem,seval];refine bB (λh=>?_) (λh=>?_)
  .simp [sF,b] at h
  .simp [go_sem,seval];refine aB (VQ s aD f q e d c g) rfl ?_;simp [go_sem,seval,dI];exact XF s b q
theorem qN (s:ByteArray)(a:s.size<=100000):Pua 121 [.str s] (.bool (lJ s)):=by
 refine aX (Tz.c0 func121 rfl ?_);simp [go_sem,seval];refine aB (QD s a) rfl ?_;simp [go_sem,seval]
@[go_sem] theorem sH (l:V2):D.R (l.map cI)=true:=d9 cI (λ_=>rfl) l
@[go_sem] theorem Fy (l:List Edge):D.R (l.map Edge.c)=true:=d9 _ Edge.Q l
theorem LE (xs:V2)(g:FuncId)(b:UN)(p:Int->Bool)(t:D.L b=true)(s:∀ x∈xs,Pure prog g (.int .i64 x :: b) (.bool (p x))) :
  Pua 230 [.list (xs.map cI),.fn g b] (dI (Ed xs p)):=by
 refine aX (Tz.c0 func230 rfl ?_);simp [go_sem,seval,dI];intro l;refine gH (ι:=Nat) (λi e H=>H=.as/\i<=xs.length/\e 0=.list (xs.map cI)/\e 1=.fn g b/\e 7=dI xs.length/\e 8=dI i/\(∀ j x,j<i->xs[j]?=some x->p x=false)) (λi=>xs.length - i) 0 ii ?_;intro i e H ⟨u,w,o,n,m,f,k⟩;subst u;simp [go_sem,seval,m,f,dI];refine gK (λc=>?_) (λr=>?_)
 .have hgx:=s xs[i] (aC c);simp [go_sem,seval,o,n,f,dI,c,cI] at hgx ⊢;refine aB hgx (iq t) ?_;simp [go_sem,seval];refine bB (λh=>?_) (λh=>?_)
  .simp [go_sem,seval];rw [pY k c h]
  .simp [go_sem,seval,o,n,m,f,dI];refine ⟨dW aD aD,i+1,aD,aD,aD,λj x q v=>?_⟩;grind
 .simp [go_sem,seval];rw [pZ λj x q=>k j x aD]
theorem iD (xs:V2)(g:FuncId)(a:UN)(p:Int->Bool)(c:D.L a=true)(d:D.Q (.list (xs.map cI))=true)(e:∀ x∈xs,Pure prog g (.int .i64 x :: a) (.bool (p x))) :
  Pua 142 [.list (xs.map cI),.fn g a] (.bool (xs.any p)):=by
 refine aX (Tz.c0 func142 rfl ?_);simp [go_sem,seval];refine aB (LE xs g a p c e) (by simp only [D.L,d,gW];simp [D.Q,c]) ?_;simp [go_sem,seval,dI,sU]
theorem Hb (xs:List Edge)(g:FuncId)(b:UN)(p:Edge->Bool)(v:D.L b=true)(u:∀ x∈xs,Pure prog g (.agg x.c :: b) (.bool (p x))) :
  Pua 352 [.list (xs.map Edge.c),.fn g b] (dI (Ed xs p)):=by
 refine aX (Tz.c0 func352 rfl ?_);simp [go_sem,seval,dI];intro n;refine gH (ι:=Nat) (λi e H=>H=.as/\i<=xs.length/\e 0=.list (xs.map Edge.c)/\e 1=.fn g b/\e 7=dI xs.length/\e 8=dI i/\(∀ j x,j<i->xs[j]?=some x->p x=false)) (λi=>xs.length - i) 0 ii ?_;intro i e H ⟨w,y,r,q,o,m,l⟩;subst w;simp [go_sem,seval,o,m,dI];refine gK (λd=>?_) (λt=>?_)
 .have hgx:=u xs[i] (aC d);simp [go_sem,seval,r,q,m,dI,d,Edge.c] at hgx ⊢;refine aB hgx (iq v) ?_;simp [go_sem,seval];refine bB (λh=>?_) (λh=>?_)
  .simp [go_sem,seval];rw [pY l d h]
  .simp [go_sem,seval,r,q,o,m,dI];refine ⟨dW aD aD,i+1,aD,aD,aD,λj x s k=>?_⟩;rcases bX j i with hj'|hj'
   .exact l j x hj' k
   .have:j=i:=aD;subst this;rw [aA d] at k;cases k;exact h
 .simp [go_sem,seval];rw [pZ λj x s=>l j x aD]
theorem nD (xs:List Edge)(g:FuncId)(a:UN)(p:Edge->Bool)(d:D.L a=true)(e:D.Q (.list (xs.map Edge.c))=true)(f:∀ x∈xs,Pure prog g (.agg x.c :: a) (.bool (p x))) :
  Pua 288 [.list (xs.map Edge.c),.fn g a] (.bool (xs.any p)):=by
 refine aX (Tz.c0 func288 rfl ?_);simp [go_sem,seval];refine aB (Hb xs g a p d f) (by simp only [D.L,e,gW];simp [D.Q,d]) ?_;simp [go_sem,seval,dI,sU]
def jH (n m:Int):Bool:=decide (0<=n)&&decide (n<=m)
theorem Ef (n m:Int):Pua 315 [dI n,dI m] (.bool (jH n m)):=by
 refine aX (Tz.c0 func315 rfl ?_);simp [go_sem,seval,dI,jH]
def wL (x:Edge)(n:Int):Bool:=jH x.type 99&&jH x.w (n - 1)&&jH x.M (n - 1)
theorem Tw (x:Edge)(n:Int)(g:0<=n)(f:n<=1000000):Pua 317 [.agg x.c,dI n] (.bool (wL x n)):=by
 have e:∀ a b:Int,Pua 315 [.int .i64 a,.int .i64 b] (.bool (jH a b)):=Ef;refine aX (Tz.c0 func317 rfl ?_);simp [go_sem,seval,dI,Edge.c];refine aB (e _ _) rfl ?_;simp [go_sem,seval];refine ⟨λ_=>dW aD aD,aK (λ_=>e _ _) (λ_=>rfl) ?_⟩;simp [go_sem,seval];refine ⟨λ_ _=>dW aD aD,aK (λ_=>e _ _) (λ_=>rfl) ?_⟩;simp [go_sem,seval,wL]
theorem OJ (n:Int):Pua 314 [.int .i64 n] (.bool (!jH n 99)):=by
 have c:∀ a b:Int,Pua 315 [.int .i64 a,.int .i64 b] (.bool (jH a b)):=Ef;refine aX (Tz.c0 func314 rfl ?_);simp [go_sem,seval];refine aB (c _ _) rfl ?_;simp [go_sem,seval]
theorem OI (g:Graph)(d:g.h.length<=1000000)(x:Edge):Pua 316 [.agg x.c,.adr g.c] (.bool (!wL x g.h.length)):=by
 have b:=Tw x g.h.length aD aD;refine aX (Tz.c0 func316 rfl ?_);simp [go_sem,seval,dI,Edge.c,Graph.c,dLI];intro _;refine aB b rfl ?_;simp [go_sem,seval]
def graphF (g:Graph):Int :=
 if 40<g.h.length\/80<g.i.length then 3
 else if (g.h.any λn=>!jH n 99)=true then 6
 else if (g.i.any λx=>!wL x g.h.length)=true then 6
 else 0
theorem oA (g:Graph):Pua 236 [g.d] (dI (graphF g)):=by
 refine aX (Tz.c0 func236 rfl ?_);simp [go_sem,seval,dI,Graph.d,Graph.c,dLI];intro _ _;refine bB (λh=>?_) (λh=>?_)
 .have h':40<g.h.length\/80<g.i.length:=by simp at h;omega
  simp [go_sem,seval,graphF,h']
 .have h':¬ (40<g.h.length\/80<g.i.length):=by simp at h;omega
  have l:=iD g.h 314 [] (λn=>!jH n 99) rfl (by simp [D.Q,sH]) (λn _=>OJ n);have j:=nD g.i 316 [.adr g.c] (λx=>!wL x g.h.length) (by simp [D.L,D.Q,Graph.c,sH,Fy,dLI]) (by simp [D.Q,Fy]) (λx _=>OI g aD x);simp only [Graph.c,dLI] at j;simp [go_sem,seval];refine aB l (by simp [D.L,D.Q,sH]) ?_;simp [go_sem,seval];refine bB (λb=>?_) (λb=>?_)
  .have e:graphF g=6:=by unfold graphF;rw [if_neg h',if_pos b]
   simp [go_sem,seval,e]
  .simp [go_sem,seval];refine aB j (by simp [D.L,D.Q,sH,Fy]) ?_;simp [go_sem,seval];refine bB (λi=>?_) (λi=>?_)
   .have e:graphF g=6:=by unfold graphF;rw [if_neg h',if_neg (by rw [b];simp),if_pos i]
    simp [go_sem,seval,e]
   .have e:graphF g=0:=by unfold graphF;rw [if_neg h',if_neg (by rw [b];simp),if_neg (by rw [i];simp)]
    simp [go_sem,seval,e]
theorem IY (n:Int):Pua 187 [.int .i64 n] (.bool (jH n 99)):=by
 refine aX (Tz.c0 func187 rfl ?_);simp [go_sem,seval,jH]
theorem Qx (x:Edge)(n:Int):Pua 188 [.agg x.c,.int .i64 n] (.bool (wL x n)):=by
 refine aX (Tz.c0 func188 rfl ?_);simp [go_sem,seval,Edge.c,dI];refine aB (IY _) rfl ?_;simp [go_sem,seval,wL,jH];grind
theorem eI {α:Type}(l:List α)(p:α->Bool)(i:Nat)(a:i<l.length):(l.take (i+1)).any p=((l.take i).any p||p l[i]):=by
 rw [List.take_succ_eq_append_getElem a,xI];simp
theorem lP (g:Graph):Pua 106 [g.d] (dI (graphF g)):=by
 refine aX (Tz.c0 func106 rfl ?_);simp [go_sem,seval,dI,Graph.d,Graph.c,dLI];intro _ _;refine bB (λh=>?_) (λh=>?_)
 .have h':40<g.h.length\/80<g.i.length:=by simp at h;omega
  simp [go_sem,seval,graphF,h']
 .have h':¬ (40<g.h.length\/80<g.i.length):=by simp at h;omega
  simp [go_sem,seval];refine gH (ι:=Nat) (λi e H=>i<=g.h.length/\e 1=.adr g.c/\e 3=dI i/\((g.h.take i).any λn=>!jH n 99)=false) (λi=>g.h.length - i) 0 (by simp [go_sem,seval,dI,Graph.c,dLI]) ?_;intro i e H ⟨v,l,t,r⟩;simp [go_sem,seval,l,t,dI,Graph.c,dLI];intro _;refine gK (λf=>?_) (λp=>?_)
  .simp [go_sem,seval,l,t,dI,Graph.c,dLI,f,cI];refine aB (IY _) rfl ?_;simp [go_sem,seval];refine bB (λm=>?_) (λm=>?_)
   .have hany:(g.h.any λn=>!jH n 99)=true:=bF.2 ⟨_,aC f,m⟩;have e:graphF g=6:=by unfold graphF;rw [if_neg h',if_pos hany]
    simp [go_sem,seval,e]
   .simp [go_sem,seval,l,t,dI,Graph.c,dLI];refine ⟨dW aD aD,i+1,aD,aD,aD,?_⟩;have:=eI g.h (λn=>!jH n 99) i f;rw [r,m] at this;simpa using this
  .simp [go_sem,seval];have o:(g.h.any λn=>!jH n 99)=false:=by rw [(aD:i=g.h.length),vK] at r;exact r
   refine gH (ι:=Nat) (λk e H=>k<=g.i.length/\e 1=.adr g.c/\e 4=dI k/\((g.i.take k).any λx=>!wL x g.h.length)=false) (λk=>g.i.length - k) 0 (by simp [go_sem,seval,l,dI,Graph.c,dLI]) ?_;intro k e H ⟨u,l,s,q⟩;simp [go_sem,seval,l,s,dI,Graph.c,dLI];intro _;refine gK (λf=>?_) (λp=>?_)
   .have hr:=Qx g.i[k] g.h.length;simp only [Edge.c,dI] at hr;simp [go_sem,seval,l,s,dI,Graph.c,dLI,f,Edge.c];refine aH hr rfl ?_;simp [go_sem,seval];refine bB (λm=>?_) (λm=>?_)
    .have hany:(g.i.any λx=>!wL x g.h.length)=true:=bF.2 ⟨_,aC f,m⟩;have e:graphF g=6:=by unfold graphF;rw [if_neg h',if_neg (by rw [o];simp),if_pos hany]
     simp [go_sem,seval,e]
    .simp [go_sem,seval,l,s,dI,Graph.c,dLI];refine ⟨dW aD aD,k+1,aD,aD,aD,?_⟩;have:=eI g.i (λx=>!wL x g.h.length) k f;rw [q,m] at this;simpa using this
   .have hb':(g.i.any λx=>!wL x g.h.length)=false:=by rw [(aD:k=g.i.length),vK] at q;exact q
    have e:graphF g=0:=by unfold graphF;rw [if_neg h',if_neg (by rw [o];simp),if_neg (by rw [hb'];simp)]
    simp [go_sem,seval,e]
attribute [go_sem] dI dLI s7 cI cS Attr.c NodeTy.c EdgeTy.c Types.c Types.d Edge.c Graph.c Graph.d
theorem zQ (a b:UN):D.L (a++b)=(D.L a&&D.L b):=by
 induction a with
 | nil=>simp [D.L]
 | cons x a c=>simp [D.L,c,mW]
@[go_sem] theorem aaW (a b:UE):D.R (a++b)=(D.R a&&D.R b):=by
 induction a with
 | nil=>simp [D.R]
 | cons x a c=>simp [D.R,c,mW]
attribute [go_sem] zQ
def inF (n low high:Int):Bool:=decide (low<=n)&&decide (n<=high)
theorem pH (n b a:Int):Pua 126 [dI n,dI b,dI a] (.bool (inF n b a)):=by
 refine Tz.p0 func126 rfl λQ c Y=>?_;have Y:=wa Y @inF.eq_1;exact wo (h:=c _ _ wy)
theorem QW {l:List ByteArray}{i:Nat}(e:i<l.length):mem (l.take i) l[i]=true↔∃ j,j<i/\l[j]?=some l[i]:=by
 rw [mem_iff,GS];constructor
 .rintro ⟨j,d,b⟩;have a:j<l.length:=aD;exact ⟨j,aD,by rw [aA a,b]⟩
 grind
theorem lX {p:Nat->Prop}{k:Nat}(h:∀ j,j<k->p j)(hk:p k):∀ j,j<k+1->p j:=λj hj=>by
 rcases bX j k with h'|h'
 .exact h j h'
 .have:j=k:=aD;subst this;exact hk
theorem Qz (l:List ByteArray)(y:∀ s∈l,s.size<=100000):Pua 255 [s7 l] (dI (pS l)):=by
 refine Tz.p0 func255 rfl λQ m Y=>?_;refine eP (λB=>?_) λB=>?_
 .exact wv (h:=m _ _ (by simp [go_sem,pS,(aD:20<l.length)]))
 .refine wv (h:=bA (λi e H=>(e 0=s7 l/\e 3=dI i)/\(i<=l.length)/\(o9 (l.take i) (l.drop i)=pS l)) (λi=>l.length - i) 0 ⟨wg,wi,(by simp [pS,(aD:¬ 20<l.length)])⟩ λI t i e H q=>?_);obtain ⟨D,F,d⟩:=q;have Y:=wa Y D;refine eP (λa=>?_) λa=>?_
  .rw [fV a] at d;have x:=y _ (aC a);have Y:=wa Y a;refine wo (h:=aB (qN _ ic) wl ?_);refine eP (λn=>?_) λn=>?_
   .exact wv (h:=m _ _ (by rw [<- d];simp [go_sem,o9,n]))
   .refine wv (h:=bA (λk e H=>(e 0=s7 l/\e 3=dI i/\e 4=dI k)/\(k<=i)/\(∀ j,j<k->l[j]?≠some l[i])) (λk=>i - k) 0 ⟨wg,wi,(by intro j z;omega)⟩ λG r k e H p=>?_);obtain ⟨C,E,c⟩:=p;have Y:=wa Y C;refine dR (λu=>?_) λu=>?_
    .have hkl:k<l.length:=aD;have Y:=xa1 Y u hkl;refine eP (λb=>?_) λb=>?_
     .exact wv (h:=m _ _ (by have f:mem (l.take i) l[i]=true:=(QW a).2 ⟨k,u,by rw [aA hkl,b]⟩;rw [<- d];simp [go_sem,o9,n,f]))
     .exact wo (h:=wx r (k+1) ⟨wg,wj,(lX c (by rw [aA hkl];simpa using b))⟩)
    .have f:¬ mem (l.take i) l[i]=true:=λf=>by
      obtain ⟨j,z,A⟩:=(QW a).1 f;exact c j aD A
     exact wo (h:=wx t (i+1) ⟨wg,wj,(by rw [<- d,o9,if_neg (iw n),if_neg f,List.take_succ_eq_append_getElem a])⟩)
  .exact wv (h:=m _ _ (by rw [<- d,(aD:i=l.length)];simp [go_sem,o9]))
def GN (x:Attr):Int :=
 if pS x.af≠0 then pS x.af
 else if (if 0<x.af.length then decide (x.ao=0)&&decide (x.az=x.af.length - 1) else decide (-1000000<=x.ao)&&decide (x.ao<=x.az)&&decide (x.az<=1000000))=true then 0 else 6
theorem G8 (x:Attr)(g:x.ok):Pua 164 [.agg x.c] (dI (GN x)):=by
 have i:=g.cf;have f:x.af=[]->pS x.af=0:=λh=>by rw [h];rfl
 refine Tz.p0 func164 rfl λQ a Y=>?_;refine eP (λd=>?_) λd=>?_
 .have hp:¬ 0<x.af.length:=by simp [d]
  refine wo (h:=aB (pH _ _ _) wl ?_);refine wo (h:=aK (λj=>pH _ _ _) (λj=>wl) ?_);refine eP (λe=>?_) λe=>?_
  .exact wv (h:=a _ _ (by simp [go_sem,GN,f d,hp];simp [inF] at e;omega))
  .exact wv (h:=a _ _ (by simp [go_sem,GN,f d,hp];simp [inF] at e;omega))
 .have hp:0<x.af.length:=by cases l:x.af<;>simp_all
  refine wv (h:=aB (Qz x.af g.af) wl ?_);refine dR (λb=>?_) λb=>?_
  .exact wv (h:=a _ _ (by simp [go_sem,GN,b]))
  .refine eP (λk=>?_) λk=>?_
   .exact wv (h:=a _ _ (by simp [go_sem,GN,b,hp];omega))
   .exact wv (h:=a _ _ (by simp [go_sem,GN,b,hp];omega))
theorem FL (t:Types)(a:Nat)(b:a<t.h.length)(c:parentsOK t.h a) :
  t.r a=(if 0<=t.h[a].E then t.r t.h[a].E.toNat else [])++t.h[a].r:=by
 have f:=c a _ (bC _) (aA b);by_cases d:0<=t.h[a].E
 .have hlt:t.h[a].E.toNat<a:=aD;have:=GL t.h t.h[a].E.toNat a (t.h[a].E.toNat+1) (λj m h g=>c j m aD g) hlt aD;simp [Types.r,kV,aA b,d,this]
 .simp [Types.r,kV,aA b,d]
theorem Ok (t:Types)(a:Int)(b:a<0):Pua 56 [t.d,dI a] (.list []):=by
 refine Tz.pK ⟨λt=>t==7,λr=>match r with|3=>[(0,1),(0,2),(0,3),(0,5),(0,6),(0,7),(0,8),(0,10),(9,10),(0,11),(9,11),(0,13),(9,13),(0,14),(9,14),(0,15),(9,15)]|_=>[]⟩ func56 rfl (λQ c=>?_);have Y:=b;exact wv (h:=c _ _ wy)
theorem Gp (t:Types)(i:t.ok):∀ a:Nat,a<t.h.length->parentsOK t.h a->Pua 56 [t.d,dI a] (.list ((t.r a).map Attr.c)):=by
 intro a;induction a using Nat.strongRecOn with
 | _ a ih =>
 intro f g;have o:=g a _ (bC _) (aA f);have b:=vD t.h (λn p=>(i.h n p).cf) (a+1) a;have k:=i.bz;have e:=FL t a f g;have v:Pua 56 [t.d,dI t.h[a].E] (.list (((if 0<=t.h[a].E then t.r t.h[a].E.toNat else [])).map Attr.c)):=by
  by_cases l:0<=t.h[a].E
  .rw [if_pos l];have:=ih t.h[a].E.toNat aD aD (λj m y q=>g j m aD q);grind
  .rw [if_neg l];exact Ok t _ aD
 have s:(if 0<=t.h[a].E then t.r t.h[a].E.toNat else []).length+t.h[a].r.length<=2000000:=by
  have x:(t.r a).length<=1000 * (a+1):=b;rw [e,aI] at x;omega
 rw [e];generalize (if 0<=t.h[a].E then t.r t.h[a].E.toNat else [])=u at *;refine Tz.pK ⟨λt=>t==7,λr=>match r with|3=>[(0,1),(0,2),(0,3),(0,5),(0,6),(0,7),(0,8),(0,10),(9,10),(0,11),(9,11),(0,13),(9,13),(0,14),(9,14),(0,15),(9,15)]|_=>[]⟩ func56 rfl (λQ w=>?_);have Y:=xa1 (aA f) f ((show ¬ ((a:Int)<0) by omega));refine wo (h:=aH (v) wl ?_);exact wo (h:=w _ _ wy)
theorem Gn (b a:Int):Pua 165 [dI b,dI a] (.bool (boundedF b a)):=by
 refine Tz.p0 func165 rfl λQ d Y=>?_;refine wo (h:=aB (pH _ _ _) wl ?_);refine wo (h:=aK (λc=>pH _ _ _) (λc=>wl) ?_);have Y:=xa1 Y @boundedF.eq_1 @inF.eq_1;exact wo (h:=d _ _ wy)
theorem wV {α:Type}{l:List α}{p:α->Bool}{k i:Nat}(hk:k<i)(hl:k<l.length)(h:p l[k]=true):(l.take i).any p=true :=
 bF.2 ⟨l[k],GS.2 ⟨k,aD,rfl⟩,h⟩
theorem tZ {α:Type}{l:List α}{p:α->Bool}{k i:Nat}(h:(l.take k).any p=false)(a:k=i):(l.take i).any p=false:=by rw [<- a];exact h
def Cu (l:List Attr)(k:Nat):Int:=match l[k]? with|some x=>eD x (l.take k)|none=>0
theorem YG {l:List Attr}{k:Nat}(h:k<l.length):Cu l k=if lJ l[k].name=false then 2 else if ((l.take k).any λy=>decide (y.name=l[k].name))=true then 5 else GN l[k]:=by
 unfold Cu;rw [aA h];rfl
theorem fR (f:Nat->Int){k n:Nat}(h:k<n):bW f k (n - k)=if f k≠0 then f k else bW f (k+1) (n - (k+1)):=by
 rw [(aD:n - k=n - (k+1)+1),bW]
theorem D0 (t:Types)(i:Nat)(a:i<t.h.length):i4 t i =
  if lJ t.h[i].name=false then 2
  else if ((t.h.take i).any λm=>decide (m.name=t.h[i].name))=true then 5
  else if (decide (t.h[i].E < -1)||decide ((i:Int)<=t.h[i].E))=true then 6
  else if 4<t.h[i].r.length then 3
  else if 8<(t.r i).length then 3
  else bW (Cu (t.r i)) ((t.r i).length - t.h[i].r.length) t.h[i].r.length:=by
 unfold i4;rw [aA a];rfl
theorem S5 (t:Types)(B:t.ok)(i:Nat)(q:i<t.h.length)(hp:∀ j n,j<i->t.h[j]?=some n->n.E<j):Pua 88 [t.d,dI i] (dI (i4 t i)):=by
 have K:=B.h _ (aC q);have Z:=B.bz;have F:=D0 t i q;have C:∀ x∈t.r i,x.ok:=yT t.h B.h _ _;have a1:=vD t.h (λn D=>(B.h n D).cf) (i+1) i;have a0:t.h[i].r.length<=(t.r i).length:=by simp [Types.r,kV,aA q]
 refine Tz.pK ⟨λt=>t==5,λ_=>[]⟩ func88 rfl (λQ l=>?_);have Y:=wa (aA q) q;refine wo (h:=aB (qN _ K.name) wl ?_);refine eP (λw=>?_) λw=>?_
 .exact wv (h:=l _ _ (.inl (iu F w)))
 .refine wv (h:=bA (λk e H=>(e 1=dI i/\e 2=.adr t.c/\e 5=.ptr 0 1 0 0/\e 6=dI k)/\(H.get 0=some ⟨141,4,[t.h[i].c],false⟩)/\(0<H.next)/\(k<=i)/\(((t.h.take k).any λm=>decide (m.name=t.h[i].name))=false)) (λk=>i - k) 0 ⟨wg,wn,wn,wi,aE⟩ λI0 R k e H N=>?_);obtain ⟨E0,G,A,hk,b⟩:=N;have Y:=xa2 Y E0 G (bS A);refine dR (λV=>?_) λV=>?_
  .have hkl:k<t.h.length:=aD;have Y:=xa1 Y V hkl;refine eP (λU=>?_) λU=>?_
   .exact wv (h:=l _ _ (.inl (by have r:=wV (p:=λm:NodeTy=>decide (m.name=t.h[i].name)) V hkl (bY U);rw [F,if_neg (iw w),if_pos r];simp [go_sem])))
   .exact wo (h:=wx R (k+1) ⟨wg,wn,wn,wj,(by rw [eI _ _ _ hkl,b];simpa using U)⟩)
  .have r:=tZ b (aD:k=i);refine wo (h:=aB (pH _ _ _) wl ?_);refine eP (λT=>?_) λT=>?_
   .exact wv (h:=l _ _ (.inl (by rw [F,if_neg (iw w),if_neg (iw r),if_pos (by simp [inF] at T;simp;omega)];simp [go_sem])))
   .have hr:¬ (decide (t.h[i].E < -1)||decide ((i:Int)<=t.h[i].E))=true:=by simp [inF] at T;simp;omega
    have J:parentsOK t.h i:=λj n hj D=>by
     rcases bX j i with h|h
     .exact hp j n h D
     .have:j=i:=aD;subst this;rw [aA q] at D;cases D;simp at hr;omega
    refine wv (h:=aB (Gp t B i q J) wl ?_);refine eP (λW=>?_) λW=>?_
    .exact wv (h:=l _ _ (.inl (by rw [F,if_neg (iw w),if_neg (iw r),if_neg hr];simp [go_sem];omega)))
    .have hF2:i4 t i=bW (Cu (t.r i)) ((t.r i).length - t.h[i].r.length) t.h[i].r.length:=by rw [F,if_neg (iw w),if_neg (iw r),if_neg hr,if_neg aD,if_neg aD]
     refine wo (h:=bA (λk e H=>(e 1=dI i/\e 2=.adr t.c/\e 7=.list ((t.r i).map Attr.c)/\e 8=dI k)/\(k<=(t.r i).length)/\(bW (Cu (t.r i)) k ((t.r i).length - k)=i4 t i)) (λk=>(t.r i).length - k) ((t.r i).length - t.h[i].r.length) ⟨wg,aD,(by rw [hF2];congr 1;omega)⟩ λI2 P k e H M=>?_);obtain ⟨E2,hk,E⟩:=M;have Y:=wa Y E2;refine eP (λa=>?_) λa=>?_
     .have hst:=fR (Cu (t.r i)) a;rw [E] at hst;have S:=YG a;have Y:=wa Y a;refine wo (h:=aB (qN _ (C _ (aC a)).name) wl ?_);refine eP (λg=>?_) λg=>?_
      .refine wv (h:=?_);have f:Cu (t.r i) k=2:=by rw [S,if_pos (iw g)]
       exact l _ _ (.inl (by rw [hst,f];simp [go_sem]))
      .refine wv (h:=bA (λj e H=>(e 1=dI i/\e 2=.adr t.c/\e 7=.list ((t.r i).map Attr.c)/\e 8=dI k/\e 9=dI j)/\(j<=k)/\((((t.r i).take j).any λy=>decide (y.name=(t.r i)[k].name))=false)) (λj=>k - j) 0 ⟨wg,wi,aE⟩ λI4 O j e H L=>?_);obtain ⟨E4,hj,b⟩:=L;have Y:=wa Y E4;refine dR (λv=>?_) λv=>?_
       .have hjl:j<(t.r i).length:=aD;have Y:=xa1 Y v hjl;refine eP (λu=>?_) λu=>?_
        .refine wv (h:=?_);have r:=wV (p:=λy:Attr=>decide (y.name=(t.r i)[k].name)) v hjl (bY u);have f:Cu (t.r i) k=5:=by rw [S,if_neg (iw g),if_pos r]
         exact l _ _ (.inl (by rw [hst,f];simp [go_sem]))
        .exact wo (h:=wx O (j+1) ⟨wg,wj,(by rw [eI _ _ _ hjl,b];simpa using u)⟩)
       .have hb2:=tZ b (aD:j=k);have f:Cu (t.r i) k=GN (t.r i)[k]:=by rw [S,if_neg (iw g),if_neg (iw hb2)]
        rw [f] at hst;refine wo (h:=aB (G8 _ (C _ (aC a))) wl ?_);refine eP (λs=>?_) λs=>?_
        .exact wv (h:=l _ _ (.inl (by rw [hst,if_pos (bY s)];simp [go_sem])))
        .exact wo (h:=wx P (k+1) ⟨wg,wj,(by rw [if_neg (iw s)] at hst;rw [<- hst])⟩)
     .exact wv (h:=l _ _ (.inl (by rw [<- E,(aD:(t.r i).length - k=0)];rfl)))
theorem Rz (t:Types)(i:Nat)(a:i<t.i.length):lF t i =
  if lJ t.i[i].name=false then 2
  else if ((t.i.take i).any λy=>decide (y.name=t.i[i].name))=true then 5
  else if (insideF t t.i[i].w&&insideF t t.i[i].M&&boundedF t.i[i].cx t.i[i].ch&&boundedF t.i[i].dm t.i[i].cy)=true then 0 else 6:=by
 unfold lF;rw [aA a]
theorem zJ (t:Types)(a:Int):inF a 0 ((t.h.length:Int) - 1)=insideF t a:=by
 simp only [inF,insideF];rw [aU];simp;omega
theorem S6 (t:Types)(w:t.ok)(i:Nat)(q:i<t.i.length):Pua 89 [t.d,dI i] (dI (lF t i)):=by
 have x:=w.i _ (aC q);have D:=w.bz;have z:=w.cV;have u:=Rz t i q;refine Tz.pK ⟨λt=>t==5,λ_=>[]⟩ func89 rfl (λQ s=>?_);have Y:=wa (aA q) q;refine wo (h:=aB (qN _ x.name) wl ?_);refine eP (λn=>?_) λn=>?_
 .exact wv (h:=s _ _ (iu u n))
 .refine wv (h:=bA (λk e H=>(e 1=dI i/\e 2=.adr t.c/\e 5=.ptr 0 1 0 0/\e 6=dI k)/\(H.get 0=some ⟨143,7,[t.i[i].c],false⟩)/\(0<H.next)/\(k<=i)/\(((t.i.take k).any λm=>decide (m.name=t.i[i].name))=false)) (λk=>i - k) 0 ⟨wg,wn,wn,wi,aE⟩ λL A k e H y=>?_);obtain ⟨F,o,g,J,j⟩:=y;have Y:=xa2 Y F o (bS g);refine dR (λC=>?_) λC=>?_
  .have hkl:k<t.i.length:=aD;have Y:=xa1 Y C hkl;refine eP (λB=>?_) λB=>?_
   .exact wv (h:=s _ _ (by have r:=wV (p:=λm:EdgeTy=>decide (m.name=t.i[i].name)) C hkl (bY B);rw [u,if_neg (iw n),if_pos r];simp [go_sem]))
   .exact wo (h:=wx A (k+1) ⟨wg,wn,wn,wj,(by rw [eI _ _ _ hkl,j];simpa using B)⟩)
  .have r:=tZ j (aD:k=i);refine wo (h:=aB (pH _ _ _) wl ?_);refine wo (h:=aK (λl=>pH _ _ _) (λl=>wl) ?_);refine wo (h:=aK (λl=>Gn _ _) (λl=>wl) ?_);refine wo (h:=aK (λl=>Gn _ _) (λl=>wl) ?_);refine wo (h:=bB (λf=>?_) (λf=>?_))
   .skip
    simp only [zJ] at f;exact wv (h:=s _ _ (by rw [u,if_neg (iw n),if_neg (iw r)];revert f;cases insideF t t.i[i].w<;>cases insideF t t.i[i].M<;>cases boundedF t.i[i].cx t.i[i].ch<;>cases boundedF t.i[i].dm t.i[i].cy<;>simp [go_sem]))
   .skip
    simp only [zJ] at f;exact wv (h:=s _ _ (by rw [u,if_neg (iw n),if_neg (iw r)];revert f;cases insideF t t.i[i].w<;>cases insideF t t.i[i].M<;>cases boundedF t.i[i].cx t.i[i].ch<;>cases boundedF t.i[i].dm t.i[i].cy<;>simp [go_sem]))
theorem Ei (f:Nat->Int)(b:Nat->ByteArray)(a:ByteArray × Int){k n:Nat}(h:k<n):fI f b a k (n - k)=if f k≠0 then (b k,f k) else fI f b a (k+1) (n - (k+1)):=by
 rw [(aD:n - k=n - (k+1)+1),fI]
theorem sO (t:Types)(l:t.ok):Pua 41 [t.d] (.tup [.str (dG t).1,dI (dG t).2]):=by
 have y:=l.bz;have s:=l.cV;refine Tz.p0 func41 rfl λQ g Y=>?_;refine eP (λo=>?_) λo=>?_
 .exact wv (h:=g _ _ (by simp [go_sem,dG,o]))
 .refine eP (λD=>?_) λD=>?_
  .exact wv (h:=g _ _ (by simp [go_sem,dG,o,(aD:12<t.h.length\/20<t.i.length)]))
  .have e:dG t=fI (i4 t) t.ay (fI (lF t) t.ag (⟨#[]⟩,0) 0 t.i.length) 0 t.h.length:=by simp only [dG];rw [if_neg (bY o),if_neg aD]
   refine wv (h:=bA (λi e H=>(e 1=.adr t.c/\e 4=dI i)/\(i<=t.h.length)/\(∀ j,j<i->i4 t j=0)/\(fI (i4 t) t.ay (fI (lF t) t.ag (⟨#[]⟩,0) 0 t.i.length) i (t.h.length - i)=dG t)) (λi=>t.h.length - i) 0 ⟨wg,wi,(by intro j x;omega),(by rw [e];rfl)⟩ λI v i e H r=>?_);obtain ⟨F,C,w,a⟩:=r;have Y:=wa Y F;refine eP (λk=>?_) λk=>?_
   .have hst:=a;rw [Ei _ _ _ k] at hst;have Y:=wa Y k;refine wv (h:=aB (S5 t l i k (λj n x B=>zF t j n (w j x) B)) wl ?_);refine dR (λm=>?_) λm=>?_
    .exact wo (h:=g _ _ (by rw [if_pos (bY m)] at hst;simp [go_sem,<- hst,Types.ay,aA k]))
    .exact wo (h:=wx v (i+1) ⟨wg,wj,(lX w (bY m)),(by rw [if_neg (bY m)] at hst;exact hst)⟩)
   .have hE:fI (lF t) t.ag (⟨#[]⟩,0) 0 t.i.length=dG t:=by rw [<- a,(aD:t.h.length - i=0)];rfl
    refine wv (h:=bA (λi e H=>(e 1=.adr t.c/\e 6=dI i)/\(i<=t.i.length)/\(fI (lF t) t.ag (⟨#[]⟩,0) i (t.i.length - i)=dG t)) (λi=>t.i.length - i) 0 ⟨wg,wi,(hE)⟩ λG u i e H q=>?_);obtain ⟨E,C,a⟩:=q;have Y:=wa Y E;refine eP (λb=>?_) λb=>?_
    .have hst:=a;rw [Ei _ _ _ b] at hst;have Y:=wa Y b;refine wv (h:=aB (S6 t l i b) wl ?_);refine dR (λf=>?_) λf=>?_
     .exact wo (h:=g _ _ (by rw [if_pos (bY f)] at hst;simp [go_sem,<- hst,Types.ag,aA b]))
     .exact wo (h:=wx u (i+1) ⟨wg,wj,(by rw [if_neg (bY f)] at hst;exact hst)⟩)
    .exact wv (h:=g _ _ (by rw [<- a,(aD:t.i.length - i=0)];simp [go_sem,fI]))
theorem tV {f:Nat->Int}{nm:Nat->ByteArray}{last:ByteArray × Int}:∀ (n k:Nat),(fI f nm last k n).2=0->(∀ j,k<=j->j<k+n->f j=0)/\last.2=0
 | 0,k,h=>⟨λj h1 h2=>by omega,h⟩
 | n+1,k,h=>by
  unfold fI at h;split at h
  .rename_i hne;exact absurd h hne
  .rename_i hz;obtain ⟨a,b⟩:=tV n (k+1) h;refine ⟨λj h1 h2=>?_,b⟩;rcases Nat.eq_or_lt_of_le h1 with h3|h3
   .subst h3;exact aY λhne=>hz hne
   .exact a j h3 aD
structure Types.aq (t:Types):Prop where
 ne:0<t.h.length
 bz:t.h.length<=12
 cV:t.i.length<=20
 E:∀ (j:Nat) (n:NodeTy),t.h[j]?=some n->n.E<j
 ao:∀ (j:Nat) (n:NodeTy),t.h[j]?=some n->-1<=n.E
 r:∀ j,j<t.h.length->(t.r j).length<=8
 bE:∀ x∈t.i,insideF t x.w=true/\insideF t x.M=true
theorem nI {t:Types}(h:(dG t).2=0):t.aq:=by
 unfold dG at h;split at h
 .simp at h
 .rename_i h0;split at h
  .simp at h
  .rename_i h1;obtain ⟨i,f⟩:=tV _ _ h;obtain ⟨f,_⟩:=tV _ _ f;have b:∀ j (a:j<t.h.length),i4 t j=0:=λj a=>i j aD aD;refine ⟨aD,aD,aD,λj n e=>?_,λj n e=>?_,λj a=>?_,λx g=>?_⟩
   .exact zF t j n (b j (aQ.1 e).1) e
   .have a:=(aQ.1 e).1;have d:=b j a;rw [D0 t j a] at d;grind
   .have d:=b j a;rw [D0 t j a] at d;grind
   .obtain ⟨j,a,rfl⟩:=aO g;have d:=f j aD aD;rw [Rz t j a] at d;grind
theorem Types.aq.ax {t:Types}(h:t.aq)(a:Nat):parentsOK t.h a:=λj n _ hn=>h.E j n hn
def given2F (t:Types)(a b:Int):Int:=if (dG t).2≠0 then (dG t).2 else if (insideF t a&&insideF t b)=true then 0 else 6
theorem Gm (t:Types)(j:t.ok)(a b:Int):Pua 55 [t.d,dI a,dI b] (dI (given2F t a b)):=by
 have k:=j.bz;refine Tz.p0 func55 rfl λQ i Y=>?_;refine wv (h:=aB (sO t j) wl ?_);refine dR (λe=>?_) λe=>?_
 .have Y:=xa1 Y e @given2F.eq_1;exact wv (h:=i _ _ wy)
 .refine wo (h:=aB (pH _ _ _) wl ?_);refine wo (h:=aK (λl=>pH _ _ _) (λl=>wl) ?_);refine wo (h:=bB (λc=>?_) (λc=>?_))
  .skip
   simp only [zJ] at c;exact wv (h:=i _ _ (by revert c;cases g:insideF t a<;>cases f:insideF t b<;>simp [go_sem,given2F,e,g,f]))
  .skip
   simp only [zJ] at c;exact wv (h:=i _ _ (by revert c;cases g:insideF t a<;>cases f:insideF t b<;>simp [go_sem,given2F,e,g,f]))
def givenF (t:Types)(l:V2):Int:=if (dG t).2≠0 then (dG t).2 else if (l.any λa=>!insideF t a)=true then 6 else 0
theorem NG (t:Types)(a:Int):Pua 301 [dI a,.adr t.c] (.bool (!insideF t a)):=by
 refine Tz.p0 func301 rfl λQ b Y=>?_;have Y:=wa Y @insideF.eq_1;exact wo (h:=b _ _ wy)
theorem Az (t:Types)(g:t.ok)(l:V2):Pua 231 [t.d,dLI l] (dI (givenF t l)):=by
 refine Tz.p0 func231 rfl λQ e Y=>?_;refine wv (h:=aB (nZ t g) wl ?_);refine dR (λb=>?_) λb=>?_
 .have Y:=xa1 Y b @givenF.eq_1;exact wv (h:=e _ _ wy)
 .refine wv (h:=aB (iD l 301 [.adr t.c] (λa=>!insideF t a) eq eq (λa _=>NG t a)) wl ?_);refine dR (λf=>?_) λf=>?_
  .have Y:=xa2 Y b f @givenF.eq_1;exact wv (h:=e _ _ wy)
  .have Y:=xa2 Y b f @givenF.eq_1;exact wv (h:=e _ _ wy)
theorem MW (t:Types)(a b:Int):givenF t [a,b]=given2F t a b:=by
 unfold givenF given2F;cases d:insideF t a<;>cases c:insideF t b<;>simp [d,c]
def JC (nodes:List NodeTy):Nat->Nat->V2
 | 0,_=>[]
 | f+1,a=>match nodes[a]? with
  | none=>[]
  | some n=>(if 0<=n.E then JC nodes f n.E.toNat else [])++[(a:Int)]
def Types.aw (t:Types)(a:Nat):V2:=JC t.h (a+1) a
theorem Tm (b:List NodeTy):∀ a f g,parentsOK b a->a<f->a<g->JC b f a=JC b g a:=by
 intro a;induction a using Nat.strongRecOn with
 | _ a ih =>
  intro f g d l k;obtain ⟨f,rfl⟩:∃ f',f=f'+1:=⟨f - 1,aD⟩;obtain ⟨g,rfl⟩:∃ g',g=g'+1:=⟨g - 1,aD⟩;unfold JC;split
  .rfl
  .rename_i n hn;have:=d a n (bC _) hn;congr 1;split
   .exact ih n.E.toNat aD f g (λj m i e=>d j m aD e) aD aD
   .rfl
theorem A0 (t:Types)(a:Nat)(b:a<t.h.length)(c:parentsOK t.h a) :
  t.aw a=(if 0<=t.h[a].E then t.aw t.h[a].E.toNat else [])++[(a:Int)]:=by
 have e:=c a _ (bC _) (aA b);by_cases d:0<=t.h[a].E
 .have hlt:t.h[a].E.toNat<a:=aD;have:=Tm t.h t.h[a].E.toNat a (t.h[a].E.toNat+1) (λj m h f=>c j m aD f) hlt aD;simp [Types.aw,JC,aA b,d,this]
 .simp [Types.aw,JC,aA b,d]
end Go.Abs
end
