/- Layer 1, the reference: names. · Layer 5: graphs. · Layer 5, -/
import Derived.Test.YtpdanmkcpjdmjaaGreatZkAG
import Derived.Test.YtpdanmkcpjdmjaaGreatZkAF
import Derived.Test.YtpdanmkcpjdmjaaGreatZkAA
set_option linter.unusedVariables false
set_option linter.unusedSimpArgs false
section
set_option maxRecDepth 100000
set_option maxHeartbeats 4000000
open Go Go.Proofs Tryz
namespace Go.Abs
theorem C3 (c:Int):Pua 375 [.int .u8 c] (.bool (jC c)):=by
 refine aU (Tz.c0 func375 rfl ?_);simp [go_sem,seval,jC,D.P];try omega
theorem u7 (c:Int):Pua 376 [.int .u8 c] (.bool (kK c)):=by
 refine aU (Tz.c0 func376 rfl ?_);simp [go_sem,seval,kK,D.P]
def wT (digits:Bool)(c:Int):Bool:=kK c||(!digits&&(jC c||c==95))
theorem TP (s:ByteArray)(i:Bool)(v:s.size<=1000000):Pua 377 [.str s,dI 0,.bool i] (dI (gQ (wT i) s)):=by
 refine aU (Tz.c0 func377 rfl ?_);simp [go_sem,seval,dI];refine fT (ι:=Nat) (λn e H=>H=.an/\n<=s.size/\e 0=.str s/\e 1=dI 0/\e 2=.bool i/\e 7=dI n/\(∀ j,j<n->wT i (yY s j)=true)) (λn=>s.size - n) 0 (by simp [go_sem,seval,dI]) ?_;intro n e H ⟨u,t,m,l,r,k,q⟩;subst u;have p:((s.data[n]?.getD 0).toNat:Int)=yY s n:=rfl;simp [go_sem,seval,m,l,k,dI,p];refine ⟨dL aD aD,λ_=>dL aD aD,aK (λ_=>u7 _) (λ_=>rfl) ?_⟩;simp [go_sem,seval,m,l,r,k,dI,p];refine ⟨λ_ _ _=>dL aD aD,λh _ _=>h,aK (λ_=>C3 _) (λ_=>rfl) ?_⟩;simp [go_sem,seval,m,l,k,dI,p];refine ⟨λ_ _ _ _=>dL aD aD,λh _ _ _=>h,λa b c d=>⟨⟨⟨a,b⟩,c⟩,d⟩,λa b c=>⟨⟨a,b⟩,c⟩,λa b=>⟨a,b⟩,bC (λh=>?_) (λh=>?_)⟩
 .have hr:n<s.size/\wT i (yY s n)=true:=by simpa [wT] using h
  simp [go_sem,seval,m,l,r,k,dI];refine ⟨dL aD aD,n+1,aD,aD,aD,λj w=>?_⟩;rcases cH j n with hj'|hj'
  .exact q j hj'
  .have:j=n:=aD;subst this;exact hr.2
 .have hr:n<s.size->wT i (yY s n)=false:=by
   intro o;simp [o] at h;simp [wT];exact h
  simp [go_sem,seval,k,dI];rw [KT _ s n q t hr]
theorem LJ (p:Nat->Bool)(n:Nat):∀ d k,k+d=n->(∀ j,1<=j->j<k->p j=true)->1<=k->∃ k,1<=k/\k<=n/\(∀ j,1<=j->j<k->p j=true)/\(k<n->p k=false)
 | 0,k,h,hp,h1=>⟨k,h1,aD,hp,λh=>by omega⟩
 | d+1,k,h,hp,h1=>by
  cases hk:p k with
  | false=>exact ⟨k,h1,aD,hp,λ_=>hk⟩
  | true =>
   refine LJ p n d (k+1) aD (λj hj hlt=>?_) aD;rcases cH j k with h|h
   .exact hp j hj h
   .have:j=k:=aD;subst this;exact hk
theorem MJ (s:ByteArray)(m:1<=s.size)(y:s.size<=1000000):∃ n:Int,0<=n/\n≠1/\n<=s.size/\Pua 378 [.str s,dI 0] (dI n):=by
 obtain ⟨k,v,u,i,o⟩:=LJ (λj=>pZ (yY s j)) s.size (s.size - 1) 1 aD (λj h A=>by omega) aD;refine ⟨if k<s.size/\yY s k=34 then k+1 else 0,by split<;>omega,by split<;>omega,by split<;>omega,aU (Tz.c0 func378 rfl ?_)⟩;simp [go_sem,seval,dI];refine fT (ι:=Nat) (λn e H=>H=.an/\1<=n/\n<=k/\e 0=.str s/\e 1=dI 0/\e 5=dI n) (λn=>s.size - n) 1 (by simp [go_sem,seval,dI];omega) ?_;intro n e H ⟨x,g,z,r,m,l⟩;subst x;have w:((s.data[n]?.getD 0).toNat:Int)=yY s n:=rfl;simp [go_sem,seval,r,m,l,dI];refine ⟨dL aD aD,bC (λd=>?_) (λp=>?_)⟩
 .simp at d;simp [go_sem,seval,r,m,l,dI,w];refine ⟨dL aD aD,d,bC (λf=>?_) (λf=>?_)⟩
  .simp at f;have c:n=k:=by
    rcases cH n k with h|h
    .have:=i n g h;simp [pZ,f] at this
    .omega
   subst c;simp [go_sem,seval,l,dI];exact ⟨dL aD aD,λh=>absurd f (h d)⟩
  .simp at f;simp [go_sem,seval];refine bC (λq=>?_) (λq=>?_)
   .simp at q;have c:n=k:=by
     rcases cH n k with h|h
     .have:=i n g h;simp [pZ] at this;omega
     .omega
    subst c;simp [go_sem,seval];omega
   .simp at q;have c:n<k:=by
     rcases cH n k with h|h
     .exact h
     .have hh:n=k:=aD;subst hh;have:=o d;simp [pZ] at this;omega
    simp [go_sem,seval,r,m,l,dI];exact ⟨dL aD aD,n+1,aD,aD,aD,aD⟩
 .simp at p;simp [go_sem,seval];omega
def signs:List ByteArray:=Lg++[⟨#[123]⟩,⟨#[125]⟩,⟨#[40]⟩,⟨#[41]⟩,⟨#[91]⟩,⟨#[93]⟩,⟨#[44]⟩,⟨#[59]⟩,⟨#[58]⟩,⟨#[61]⟩,⟨#[43]⟩,⟨#[45]⟩,⟨#[42]⟩,⟨#[60]⟩,⟨#[62]⟩,⟨#[33]⟩,⟨#[38]⟩,⟨#[124]⟩,⟨#[46]⟩,⟨#[63]⟩]
theorem OZ:Pua 379 [] (sK signs):=by
 refine aU (Tz.c0 func379 rfl ?_);simp [go_sem,seval,sK,cS,Lg,signs]
theorem H7 (s:ByteArray):Pua 356 [.agg [dI 1,.str s,dI 0]] (.str s):=by
 refine aU (Tz.c0 func356 rfl ?_);simp [go_sem,seval,dI]
theorem QN:wT false=p7:=by grind [wT, p7, Bool.or_assoc, Bool.or_comm]
def yA (s l:ByteArray):Bool:=decide ((l.size:Int)<=s.size)&&decide (s.extract 0 l.size=l)
def Bf (q:Int)(s:ByteArray):Int × ByteArray × Int × Int :=
  if (jC (yY s 0)||kK (yY s 0))=true then
    (if kK (yY s 0)=true then (if 9<gQ (wT true) s then (0,⟨#[]⟩,0,3) else (2,s.extract 0 (gQ (wT true) s),gQ (wT true) s,0))
     else (if 20<gQ (wT false) s then (0,⟨#[]⟩,0,3) else (1,s.extract 0 (gQ (wT false) s),gQ (wT false) s,0)))
  else if yY s 0=34 then
    (if q=0 then (0,⟨#[]⟩,0,2) else if 60<q - 2 then (0,⟨#[]⟩,0,3) else (3,s.extract 1 (q - 1).toNat,q,0))
  else match signs.find? (yA s) with
    | some l=>(4,l,l.size,0)
    | none=>(0,⟨#[]⟩,0,2)
theorem TQ (s:ByteArray)(W:1<=s.size)(U:s.size<=100000)(q:Int)(O:0<=q)(N:q≠1)(M:q<=s.size)(P:Pua 378 [.str s,dI 0] (dI q)) :
  Pua 357 [.str s,dI 0] (.tup [.agg [dI (Bf q s).1,.str (Bf q s).2.1,dI 0],dI (Bf q s).2.2.1,dI (Bf q s).2.2.2]):=by
 have S:((s.data[0]?.getD 0).toNat:Int)=yY s 0:=rfl;refine aU (Tz.cK ⟨λt=>t==4,λr=>match r with|22=>[(7,10),(8,10),(9,10)]|_=>[]⟩ func357 rfl ?_);simp [go_sem,seval,dI,S];refine ⟨aD,aB (C3 _) rfl ?_⟩;simp [go_sem,seval];refine aK (λ_=>u7 _) (λ_=>rfl) ?_;simp [go_sem,seval];refine bC (λf=>?_) (λf=>?_)
 .simp [go_sem,seval];refine aB (u7 _) rfl ?_;simp [go_sem,seval];refine aB (TP s _ aD) rfl ?_;simp [go_sem,seval,dI];refine aB (u7 _) rfl ?_;simp [go_sem,seval];refine bC (λu=>?_) (λu=>?_)
  .simp [go_sem,seval];rw [u];have L:=Ei (wT true) s;refine bC (λh=>?_) (λh=>?_)
   .simp at h;simp [go_sem,seval,Bf,u,(aD:9<gQ (wT true) s)]
   .simp at h;simp [go_sem,seval,Bf,u,(aD:¬ 9<gQ (wT true) s)];exact ⟨dL aD aD,aD⟩
  .have g:kK (yY s 0)=false:=by simpa using u
   simp [go_sem,seval];rw [g];have L:=Ei (wT false) s;have o:jC (yY s 0)=true:=by simpa [g] using f
   refine bC (λh=>?_) (λh=>?_)
   .simp at h;simp [go_sem,seval,Bf,g,o,(aD:20<gQ (wT false) s)]
   .simp at h;simp [go_sem,seval,Bf,g,o,(aD:¬ 20<gQ (wT false) s)];exact ⟨dL aD aD,aD⟩
 .have hld':¬ (jC (yY s 0)||kK (yY s 0))=true:=by simp at f;simp [f]
  simp [go_sem,seval];refine bC (λd=>?_) (λd=>?_)
  .simp at d;simp [go_sem,seval];refine aB P rfl ?_;simp [go_sem,seval,dI];have e:Bf q s=(if q=0 then (0,⟨#[]⟩,0,2) else if 60<q - 2 then (0,⟨#[]⟩,0,3) else (3,s.extract 1 (q - 1).toNat,q,0)):=by
    unfold Bf;rw [if_neg hld',if_pos d]
   rw [e];refine bC (λp=>?_) (λp=>?_)
   .simp at p;simp [go_sem,seval,p]
   .simp at p;simp [go_sem,seval,p];refine ⟨dL aD aD,f9 (λC=>?_) (λC=>?_)⟩
    .simp [go_sem,seval,C]
    .simp [go_sem,seval,C];exact ⟨dL aD aD,dL aD aD,dL aD aD,aD,aD⟩
  .simp at d;simp [go_sem,seval];refine aB OZ rfl ?_;simp [go_sem,seval];have e:Bf q s=(match signs.find? (yA s) with|some l=>(4,l,l.size,0)|none=>(0,⟨#[]⟩,0,2)):=by
    unfold Bf;rw [if_neg hld',if_neg d]
   rw [e];refine fT (ι:=Nat) (λn e H=>(∃ E,H.get 0=some ⟨E,3,[[dI 0,.str ⟨#[]⟩,dI 0]],false⟩)/\n<=signs.length/\e 0=.str s/\e 1=dI 0/\e 4=.ptr 0 1 0 0/\e 12=sK signs/\e 13=dI n/\(∀ j l,j<n->signs[j]?=some l->yA s l=false)) (λn=>signs.length - n) 0 (by simp [go_sem,seval,dI]) ?_;intro n e H ⟨⟨E,B⟩,V,G,v,D,k,i,z⟩;simp [go_sem,seval,k,i,dI,sK];intro F;refine f9 (λc=>?_) (λQ=>?_)
   .simp [go_sem,seval,G,v,k,i,dI,sK,c,cS];have I:signs[n].size<=2:=(show ∀ l∈signs,l.size<=2 by decide) _ (aC c);refine ⟨dL aD aD,λ_=>dL aD aD,bC (λA=>?_) (λA=>?_)⟩
    .have m:yA s signs[n]=true:=by simpa [yA] using A
     have R:signs.find? (yA s)=some signs[n]:=by
      rw [List.find?_eq_some_iff_getElem];refine ⟨m,n,c,rfl,λj y=>?_⟩;simpa using z j _ y (aA aD)
     simp [go_sem,seval,D,k,i,dI,B,sK,c,cS,R]
    .have m:yA s signs[n]=false:=by simpa [yA] using A
     simp [go_sem,seval,G,v,D,k,i,dI,B,sK];have K:signs.length=25:=rfl;refine ⟨dL aD aD,n+1,aD,aD,aD,λj l y o=>?_⟩;rcases cH j n with hj'|hj'
     .exact z j l hj' o
     .have:j=n:=aD;subst this;rw [aA c] at o;cases o;exact m
   .simp [go_sem,seval,D,dI,B];have:signs.find? (yA s)=none:=by
     rw [List.find?_eq_none];intro x J;obtain ⟨j,y,rfl⟩:=aQ J;simpa using z j _ aD (aA y)
    simp [this]
theorem Vr (s:ByteArray)(b:¬ s.size=0)(q:Int):(decide ((Bf q s).2.2.2=0)&&(Bf q s).2.2.1==(s.size:Int)&&(Bf q s).1==1)=lD s:=by
 unfold Bf lD;by_cases a:jC (yY s 0)=true
 .have hdg:kK (yY s 0)=false:=by simp [jC,kK] at *;omega
  simp only [hdg,a,QN];grind
 grind
theorem O0 (s:ByteArray)(f:s.size<=100000):Pua 320 [.agg [dI 1,.str s,dI 0]] (.bool (lD s)):=by
 by_cases b:s.size=0
 .refine aU (Tz.cK ⟨λt=>t==4,λ_=>[]⟩ func320 rfl ?_);simp [go_sem,seval,dI];refine aB (H7 s) rfl ?_;simp [go_sem,seval];refine bC (λh=>?_) (λh=>?_)
  .simp [go_sem,seval,lD,b]
  .simp [rM,b] at h
 .obtain ⟨q,e,d,c,g⟩:=MJ s aD aD;refine aU (Tz.cK ⟨λt=>t==4,λ_=>[]⟩ func320 rfl ?_);simp [go_sem,seval,dI];refine aB (H7 s) rfl ?_;simp [go_sem,seval];refine bC (λh=>?_) (λh=>?_)
  .simp [rM,b] at h
  .simp [go_sem,seval];refine aB (TQ s aD f q e d c g) rfl ?_;simp [go_sem,seval,dI];exact Vr s b q
theorem pQ (s:ByteArray)(a:s.size<=100000):Pua 263 [.str s] (.bool (lD s)):=by
 refine aU (Tz.c0 func263 rfl ?_);simp [go_sem,seval];refine aB (O0 s a) rfl ?_;simp [go_sem,seval]
@[go_sem] theorem rP (l:W3):D.O (l.map cI)=true:=dN cI (λ_=>rfl) l
@[go_sem] theorem EH (l:List Edge):D.O (l.map Edge.c)=true:=dN _ Edge.P l
theorem Kk (xs:W3)(g:FuncId)(b:UN)(p:Int->Bool)(t:D.L b=true)(s:∀ x∈xs,Pure prog g (.int .i64 x :: b) (.bool (p x))) :
  Pua 285 [.list (xs.map cI),.fn g b] (dI (ED xs p)):=by
 refine aU (Tz.c0 func285 rfl ?_);simp [go_sem,seval,dI];intro l;refine fT (ι:=Nat) (λi e H=>H=.an/\i<=xs.length/\e 0=.list (xs.map cI)/\e 1=.fn g b/\e 7=dI xs.length/\e 8=dI i/\(∀ j x,j<i->xs[j]?=some x->p x=false)) (λi=>xs.length - i) 0 (by simp [go_sem,seval,dI]) ?_;intro i e H ⟨u,w,o,n,m,f,k⟩;subst u;simp [go_sem,seval,m,f,dI];refine f9 (λc=>?_) (λr=>?_)
 .have hgx:=s xs[i] (aC c);simp [go_sem,seval,o,n,f,dI,c,cI] at hgx ⊢;refine aB hgx (by simp [go_sem,t]) ?_;simp [go_sem,seval];refine bC (λh=>?_) (λh=>?_)
  .simp [go_sem,seval];rw [q6 k c h]
  .simp [go_sem,seval,o,n,m,f,dI];refine ⟨dL aD aD,i+1,aD,aD,aD,λj x q v=>?_⟩;grind
 .simp [go_sem,seval];rw [q7 λj x q=>k j x aD]
theorem gM (xs:W3)(g:FuncId)(a:UN)(p:Int->Bool)(c:D.L a=true)(d:D.P (.list (xs.map cI))=true)(e:∀ x∈xs,Pure prog g (.int .i64 x :: a) (.bool (p x))) :
  Pua 209 [.list (xs.map cI),.fn g a] (.bool (xs.any p)):=by
 refine aU (Tz.c0 func209 rfl ?_);simp [go_sem,seval];refine aB (Kk xs g a p c e) (by simp only [D.L,d,gW];simp [D.P,c]) ?_;simp [go_sem,seval,dI,uA]
theorem Gq (xs:List Edge)(g:FuncId)(b:UN)(p:Edge->Bool)(v:D.L b=true)(u:∀ x∈xs,Pure prog g (.agg x.c :: b) (.bool (p x))) :
  Pua 293 [.list (xs.map Edge.c),.fn g b] (dI (ED xs p)):=by
 refine aU (Tz.c0 func293 rfl ?_);simp [go_sem,seval,dI];intro n;refine fT (ι:=Nat) (λi e H=>H=.an/\i<=xs.length/\e 0=.list (xs.map Edge.c)/\e 1=.fn g b/\e 7=dI xs.length/\e 8=dI i/\(∀ j x,j<i->xs[j]?=some x->p x=false)) (λi=>xs.length - i) 0 (by simp [go_sem,seval,dI]) ?_;intro i e H ⟨w,y,r,q,o,m,l⟩;subst w;simp [go_sem,seval,o,m,dI];refine f9 (λd=>?_) (λt=>?_)
 .have hgx:=u xs[i] (aC d);simp [go_sem,seval,r,q,m,dI,d,Edge.c] at hgx ⊢;refine aB hgx (by simp [go_sem,v]) ?_;simp [go_sem,seval];refine bC (λh=>?_) (λh=>?_)
  .simp [go_sem,seval];rw [q6 l d h]
  .simp [go_sem,seval,r,q,o,m,dI];refine ⟨dL aD aD,i+1,aD,aD,aD,λj x s k=>?_⟩;rcases cH j i with hj'|hj'
   .exact l j x hj' k
   .have:j=i:=aD;subst this;rw [aA d] at k;cases k;exact h
 .simp [go_sem,seval];rw [q7 λj x s=>l j x aD]
theorem mE (xs:List Edge)(g:FuncId)(a:UN)(p:Edge->Bool)(d:D.L a=true)(e:D.P (.list (xs.map Edge.c))=true)(f:∀ x∈xs,Pure prog g (.agg x.c :: a) (.bool (p x))) :
  Pua 224 [.list (xs.map Edge.c),.fn g a] (.bool (xs.any p)):=by
 refine aU (Tz.c0 func224 rfl ?_);simp [go_sem,seval];refine aB (Gq xs g a p d f) (by simp only [D.L,e,gW];simp [D.P,d]) ?_;simp [go_sem,seval,dI,uA]
def iQ (n m:Int):Bool:=decide (0<=n)&&decide (n<=m)
theorem Dy (n m:Int):Pua 241 [dI n,dI m] (.bool (iQ n m)):=by
 refine aU (Tz.c0 func241 rfl ?_);simp [go_sem,seval,dI,iQ]
def vK (x:Edge)(n:Int):Bool:=iQ x.type 99&&iQ x.w (n - 1)&&iQ x.M (n - 1)
theorem Ry (x:Edge)(n:Int)(g:0<=n)(f:n<=1000000):Pua 243 [.agg x.c,dI n] (.bool (vK x n)):=by
 have e:∀ a b:Int,Pua 241 [.int .i64 a,.int .i64 b] (.bool (iQ a b)):=Dy;refine aU (Tz.c0 func243 rfl ?_);simp [go_sem,seval,dI,Edge.c];refine aB (e _ _) rfl ?_;simp [go_sem,seval];refine ⟨λ_=>dL aD aD,aK (λ_=>e _ _) (λ_=>rfl) ?_⟩;simp [go_sem,seval];refine ⟨λ_ _=>dL aD aD,aK (λ_=>e _ _) (λ_=>rfl) ?_⟩;simp [go_sem,seval,vK]
theorem M8 (n:Int):Pua 240 [.int .i64 n] (.bool (!iQ n 99)):=by
 have c:∀ a b:Int,Pua 241 [.int .i64 a,.int .i64 b] (.bool (iQ a b)):=Dy;refine aU (Tz.c0 func240 rfl ?_);simp [go_sem,seval];refine aB (c _ _) rfl ?_;simp [go_sem,seval]
theorem M7 (g:Graph)(d:g.h.length<=1000000)(x:Edge):Pua 242 [.agg x.c,.adr g.c] (.bool (!vK x g.h.length)):=by
 have b:=Ry x g.h.length aD aD;refine aU (Tz.c0 func242 rfl ?_);simp [go_sem,seval,dI,Edge.c,Graph.c,dLI];intro _;refine aB b rfl ?_;simp [go_sem,seval]
def graphF (g:Graph):Int :=
 if 40<g.h.length\/80<g.i.length then 3
 else if (g.h.any λn=>!iQ n 99)=true then 6
 else if (g.i.any λx=>!vK x g.h.length)=true then 6
 else 0
theorem nD (g:Graph):Pua 156 [g.d] (dI (graphF g)):=by
 refine aU (Tz.c0 func156 rfl ?_);simp [go_sem,seval,dI,Graph.d,Graph.c,dLI];intro _ _;refine bC (λh=>?_) (λh=>?_)
 .have h':40<g.h.length\/80<g.i.length:=by simp at h;omega
  simp [go_sem,seval,graphF,h']
 .have h':¬ (40<g.h.length\/80<g.i.length):=by simp at h;omega
  have l:=gM g.h 240 [] (λn=>!iQ n 99) rfl (by simp [D.P,rP]) (λn _=>M8 n);have j:=mE g.i 242 [.adr g.c] (λx=>!vK x g.h.length) (by simp [D.L,D.P,Graph.c,rP,EH,dLI]) (by simp [D.P,EH]) (λx _=>M7 g aD x);simp only [Graph.c,dLI] at j;simp [go_sem,seval];refine aB l (by simp [D.L,D.P,rP]) ?_;simp [go_sem,seval];refine bC (λb=>?_) (λb=>?_)
  .have e:graphF g=6:=by unfold graphF;rw [if_neg h',if_pos b]
   simp [go_sem,seval,e]
  .simp [go_sem,seval];refine aB j (by simp [D.L,D.P,rP,EH]) ?_;simp [go_sem,seval];refine bC (λi=>?_) (λi=>?_)
   .have e:graphF g=6:=by unfold graphF;rw [if_neg h',if_neg (by rw [b];simp),if_pos i]
    simp [go_sem,seval,e]
   .have e:graphF g=0:=by unfold graphF;rw [if_neg h',if_neg (by rw [b];simp),if_neg (by rw [i];simp)]
    simp [go_sem,seval,e]
theorem HZ (n:Int):Pua 124 [.int .i64 n] (.bool (iQ n 99)):=by
 refine aU (Tz.c0 func124 rfl ?_);simp [go_sem,seval,iQ]
theorem OU (x:Edge)(n:Int):Pua 125 [.agg x.c,.int .i64 n] (.bool (vK x n)):=by
 refine aU (Tz.c0 func125 rfl ?_);simp [go_sem,seval,Edge.c,dI];refine aB (HZ _) rfl ?_;simp [go_sem,seval,vK,iQ];grind
theorem dU {α:Type}(l:List α)(p:α->Bool)(i:Nat)(a:i<l.length):(l.take (i+1)).any p=((l.take i).any p||p l[i]):=by
 rw [aE a,wQ];simp
theorem kH (g:Graph):Pua 78 [g.d] (dI (graphF g)):=by
 refine aU (Tz.c0 func78 rfl ?_);simp [go_sem,seval,dI,Graph.d,Graph.c,dLI];intro _ _;refine bC (λh=>?_) (λh=>?_)
 .have h':40<g.h.length\/80<g.i.length:=by simp at h;omega
  simp [go_sem,seval,graphF,h']
 .have h':¬ (40<g.h.length\/80<g.i.length):=by simp at h;omega
  simp [go_sem,seval];refine fT (ι:=Nat) (λi e H=>i<=g.h.length/\e 1=.adr g.c/\e 3=dI i/\((g.h.take i).any λn=>!iQ n 99)=false) (λi=>g.h.length - i) 0 (by simp [go_sem,seval,dI,Graph.c,dLI]) ?_;intro i e H ⟨v,l,t,r⟩;simp [go_sem,seval,l,t,dI,Graph.c,dLI];intro _;refine f9 (λf=>?_) (λp=>?_)
  .simp [go_sem,seval,l,t,dI,Graph.c,dLI,f,cI];refine aB (HZ _) rfl ?_;simp [go_sem,seval];refine bC (λm=>?_) (λm=>?_)
   .have hany:(g.h.any λn=>!iQ n 99)=true:=bD.2 ⟨_,aC f,m⟩;have e:graphF g=6:=by unfold graphF;rw [if_neg h',if_pos hany]
    simp [go_sem,seval,e]
   .simp [go_sem,seval,l,t,dI,Graph.c,dLI];refine ⟨dL aD aD,i+1,aD,aD,aD,?_⟩;have:=dU g.h (λn=>!iQ n 99) i f;rw [r,m] at this;simpa using this
  .simp [go_sem,seval];have o:(g.h.any λn=>!iQ n 99)=false:=by rw [(aD:i=g.h.length),KB] at r;exact r
   refine fT (ι:=Nat) (λk e H=>k<=g.i.length/\e 1=.adr g.c/\e 4=dI k/\((g.i.take k).any λx=>!vK x g.h.length)=false) (λk=>g.i.length - k) 0 (by simp [go_sem,seval,l,dI,Graph.c,dLI]) ?_;intro k e H ⟨u,l,s,q⟩;simp [go_sem,seval,l,s,dI,Graph.c,dLI];intro _;refine f9 (λf=>?_) (λp=>?_)
   .have hr:=OU g.i[k] g.h.length;simp only [Edge.c,dI] at hr;simp [go_sem,seval,l,s,dI,Graph.c,dLI,f,Edge.c];refine aI hr rfl ?_;simp [go_sem,seval];refine bC (λm=>?_) (λm=>?_)
    .have hany:(g.i.any λx=>!vK x g.h.length)=true:=bD.2 ⟨_,aC f,m⟩;have e:graphF g=6:=by unfold graphF;rw [if_neg h',if_neg (by rw [o];simp),if_pos hany]
     simp [go_sem,seval,e]
    .simp [go_sem,seval,l,s,dI,Graph.c,dLI];refine ⟨dL aD aD,k+1,aD,aD,aD,?_⟩;have:=dU g.i (λx=>!vK x g.h.length) k f;rw [q,m] at this;simpa using this
   .have hb':(g.i.any λx=>!vK x g.h.length)=false:=by rw [(aD:k=g.i.length),KB] at q;exact q
    have e:graphF g=0:=by unfold graphF;rw [if_neg h',if_neg (by rw [o];simp),if_neg (by rw [hb'];simp)]
    simp [go_sem,seval,e]
attribute [go_sem] dI dLI sK cI cS Attr.c NodeTy.c EdgeTy.c Types.c Types.d Edge.c Graph.c Graph.d
theorem yW (a b:UN):D.L (a++b)=(D.L a&&D.L b):=by
 induction a with
 | nil=>simp [D.L]
 | cons x a c=>simp [D.L,c,qI]
@[go_sem] theorem X5 (a b:UE):D.O (a++b)=(D.O a&&D.O b):=by
 induction a with
 | nil=>simp [D.O]
 | cons x a c=>simp [D.O,c,qI]
attribute [go_sem] yW
def inF (n low high:Int):Bool:=decide (low<=n)&&decide (n<=high)
theorem oE (n b a:Int):Pua 118 [dI n,dI b,dI a] (.bool (inF n b a)):=by
 refine Tz.p0 func118 rfl λQ c Y=>?_;have Y:=wa Y @inF.eq_1;exact wo (h:=c _ _ wy)
theorem Ph {l:List ByteArray}{i:Nat}(e:i<l.length):mem (l.take i) l[i]=true↔∃ j,j<i/\l[j]?=some l[i]:=by
 rw [mem_iff,F6];constructor
 .rintro ⟨j,d,b⟩;have a:j<l.length:=aD;exact ⟨j,aD,by rw [aA a,b]⟩
 grind
theorem kP {p:Nat->Prop}{k:Nat}(h:∀ j,j<k->p j)(hk:p k):∀ j,j<k+1->p j:=λj hj=>by
 rcases cH j k with h'|h'
 .exact h j h'
 .have:j=k:=aD;subst this;exact hk
theorem OW (l:List ByteArray)(y:∀ s∈l,s.size<=100000):Pua 355 [sK l] (dI (oN l)):=by
 refine Tz.p0 func355 rfl λQ m Y=>?_;refine d8 (λB=>?_) λB=>?_
 .exact wv (h:=m _ _ (by simp [go_sem,oN,(aD:20<l.length)]))
 .refine wv (h:=aY (λi e H=>(e 0=sK l/\e 3=dI i)/\(i<=l.length)/\(n5 (l.take i) (l.drop i)=oN l)) (λi=>l.length - i) 0 ⟨wg,wi,(by simp [oN,(aD:¬ 20<l.length)])⟩ λI t i e H q=>?_);obtain ⟨D,F,d⟩:=q;have Y:=wa Y D;refine d8 (λa=>?_) λa=>?_
  .rw [iB a] at d;have x:=y _ (aC a);have Y:=wa Y a;refine wo (h:=aB (pQ _ (by assumption)) wl ?_);refine d8 (λn=>?_) λn=>?_
   .exact wv (h:=m _ _ (by rw [<- d];simp [go_sem,n5,n]))
   .refine wv (h:=aY (λk e H=>(e 0=sK l/\e 3=dI i/\e 4=dI k)/\(k<=i)/\(∀ j,j<k->l[j]?≠some l[i])) (λk=>i - k) 0 ⟨wg,wi,(by intro j z;omega)⟩ λG r k e H p=>?_);obtain ⟨C,E,c⟩:=p;have Y:=wa Y C;refine dK (λu=>?_) λu=>?_
    .have hkl:k<l.length:=aD;have Y:=xa1 Y u hkl;refine d8 (λb=>?_) λb=>?_
     .exact wv (h:=m _ _ (by have f:mem (l.take i) l[i]=true:=(Ph a).2 ⟨k,u,by rw [aA hkl,b]⟩;rw [<- d];simp [go_sem,n5,n,f]))
     .exact wo (h:=wx r (k+1) ⟨wg,wj,(kP c (by rw [aA hkl];simpa using b))⟩)
    .have f:¬ mem (l.take i) l[i]=true:=λf=>by
      obtain ⟨j,z,A⟩:=(Ph a).1 f;exact c j aD A
     exact wo (h:=wx t (i+1) ⟨wg,wj,(by rw [<- d,n5,if_neg (by simp [n]),if_neg f,aE a])⟩)
  .exact wv (h:=m _ _ (by rw [<- d,(aD:i=l.length)];simp [go_sem,n5]))
def FZ (x:Attr):Int :=
 if oN x.ad≠0 then oN x.ad
 else if (if 0<x.ad.length then decide (x.aw=0)&&decide (x.ax=x.ad.length - 1) else decide (-1000000<=x.aw)&&decide (x.aw<=x.ax)&&decide (x.ax<=1000000))=true then 0 else 6
theorem Gl (x:Attr)(g:x.ok):Pua 316 [.agg x.c] (dI (FZ x)):=by
 have i:=g.bg;have f:x.ad=[]->oN x.ad=0:=λh=>by rw [h];rfl
 refine Tz.p0 func316 rfl λQ a Y=>?_;refine d8 (λd=>?_) λd=>?_
 .have hp:¬ 0<x.ad.length:=by simp [d]
  refine wo (h:=aB (oE _ _ _) wl ?_);refine wo (h:=aK (λj=>oE _ _ _) (λj=>wl) ?_);refine d8 (λe=>?_) λe=>?_
  .exact wv (h:=a _ _ (by simp [go_sem,FZ,f d,hp];simp [inF] at e;omega))
  .exact wv (h:=a _ _ (by simp [go_sem,FZ,f d,hp];simp [inF] at e;omega))
 .have hp:0<x.ad.length:=by cases l:x.ad<;>simp_all
  refine wv (h:=aB (OW x.ad g.ad) wl ?_);refine dK (λb=>?_) λb=>?_
  .exact wv (h:=a _ _ (by simp [go_sem,FZ,b]))
  .refine d8 (λk=>?_) λk=>?_
   .exact wv (h:=a _ _ (by simp [go_sem,FZ,b,hp];omega))
   .exact wv (h:=a _ _ (by simp [go_sem,FZ,b,hp];omega))
theorem EU (t:Types)(a:Nat)(b:a<t.h.length)(c:parentsOK t.h a) :
  t.r a=(if 0<=t.h[a].D then t.r t.h[a].D.toNat else [])++t.h[a].r:=by
 have f:=c a _ (aZ _) (aA b);by_cases d:0<=t.h[a].D
 .have hlt:t.h[a].D.toNat<a:=aD;have:=FX t.h t.h[a].D.toNat a (t.h[a].D.toNat+1) (λj m h g=>c j m aD g) hlt aD;simp [Types.r,jT,aA b,d,this]
 .simp [Types.r,jT,aA b,d]
theorem MI (t:Types)(a:Int)(b:a<0):Pua 117 [t.d,dI a] (.list []):=by
 refine Tz.pK ⟨λt=>t==7,λr=>match r with|3=>[(0,1),(0,2),(0,3),(0,5),(0,6),(0,7),(0,8),(0,10),(9,10),(0,11),(9,11),(0,13),(9,13),(0,14),(9,14),(0,15),(9,15)]|_=>[]⟩ func117 rfl (λQ c=>?_);have Y:=b;exact wv (h:=c _ _ wy)
theorem FB (t:Types)(i:t.ok):∀ a:Nat,a<t.h.length->parentsOK t.h a->Pua 117 [t.d,dI a] (.list ((t.r a).map Attr.c)):=by
 intro a;induction a using Nat.strongRecOn with
 | _ a ih =>
 intro f g;have o:=g a _ (aZ _) (aA f);have b:=uI t.h (λn p=>(i.h n p).bg) (a+1) a;have k:=i.aT;have e:=EU t a f g;have v:Pua 117 [t.d,dI t.h[a].D] (.list (((if 0<=t.h[a].D then t.r t.h[a].D.toNat else [])).map Attr.c)):=by
  by_cases l:0<=t.h[a].D
  .rw [if_pos l];have:=ih t.h[a].D.toNat aD aD (λj m y q=>g j m aD q);grind
  .rw [if_neg l];exact MI t _ aD
 have s:(if 0<=t.h[a].D then t.r t.h[a].D.toNat else []).length+t.h[a].r.length<=2000000:=by
  have x:(t.r a).length<=1000 * (a+1):=b;rw [e,aH] at x;omega
 rw [e];generalize (if 0<=t.h[a].D then t.r t.h[a].D.toNat else [])=u at *;refine Tz.pK ⟨λt=>t==7,λr=>match r with|3=>[(0,1),(0,2),(0,3),(0,5),(0,6),(0,7),(0,8),(0,10),(9,10),(0,11),(9,11),(0,13),(9,13),(0,14),(9,14),(0,15),(9,15)]|_=>[]⟩ func117 rfl (λQ w=>?_);have Y:=xa1 (aA f) f ((show ¬ ((a:Int)<0) by omega));refine wo (h:=aI (v) wl ?_);exact wo (h:=w _ _ wy)
theorem Fz (b a:Int):Pua 317 [dI b,dI a] (.bool (boundedF b a)):=by
 refine Tz.p0 func317 rfl λQ d Y=>?_;refine wo (h:=aB (oE _ _ _) wl ?_);refine wo (h:=aK (λc=>oE _ _ _) (λc=>wl) ?_);have Y:=xa1 Y @boundedF.eq_1 @inF.eq_1;exact wo (h:=d _ _ wy)
theorem vW {α:Type}{l:List α}{p:α->Bool}{k i:Nat}(hk:k<i)(hl:k<l.length)(h:p l[k]=true):(l.take i).any p=true :=
 bD.2 ⟨l[k],F6.2 ⟨k,aD,rfl⟩,h⟩
theorem tA {α:Type}{l:List α}{p:α->Bool}{k i:Nat}(h:(l.take k).any p=false)(a:k=i):(l.take i).any p=false:=by rw [<- a];exact h
def BL (l:List Attr)(k:Nat):Int:=match l[k]? with|some x=>dQ x (l.take k)|none=>0
theorem Wp {l:List Attr}{k:Nat}(h:k<l.length):BL l k=if lD l[k].name=false then 2 else if ((l.take k).any λy=>decide (y.name=l[k].name))=true then 5 else FZ l[k]:=by
 unfold BL;rw [aA h];rfl
theorem eV (f:Nat->Int){k n:Nat}(h:k<n):bU f k (n - k)=if f k≠0 then f k else bU f (k+1) (n - (k+1)):=by
 rw [(aD:n - k=n - (k+1)+1),bU]
theorem Dg (t:Types)(i:Nat)(a:i<t.h.length):iG t i =
  if lD t.h[i].name=false then 2
  else if ((t.h.take i).any λm=>decide (m.name=t.h[i].name))=true then 5
  else if (decide (t.h[i].D < -1)||decide ((i:Int)<=t.h[i].D))=true then 6
  else if 4<t.h[i].r.length then 3
  else if 8<(t.r i).length then 3
  else bU (BL (t.r i)) ((t.r i).length - t.h[i].r.length) t.h[i].r.length:=by
 unfold iG;rw [aA a];rfl
theorem Ra (t:Types)(B:t.ok)(i:Nat)(q:i<t.h.length)(hp:∀ j n,j<i->t.h[j]?=some n->n.D<j):Pua 258 [t.d,dI i] (dI (iG t i)):=by
 have K:=B.h _ (aC q);have Z:=B.aT;have F:=Dg t i q;have C:∀ x∈t.r i,x.ok:=xW t.h B.h _ _;have a1:=uI t.h (λn D=>(B.h n D).bg) (i+1) i;have a0:t.h[i].r.length<=(t.r i).length:=by simp [Types.r,jT,aA q]
 refine Tz.pK ⟨λt=>t==5,λ_=>[]⟩ func258 rfl (λQ l=>?_);have Y:=wa (aA q) q;refine wo (h:=aB (pQ _ K.name) wl ?_);refine d8 (λw=>?_) λw=>?_
 .exact wv (h:=l _ _ (.inl (by simp [go_sem,F,w])))
 .refine wv (h:=aY (λk e H=>(e 1=dI i/\e 2=.adr t.c/\e 5=.ptr 0 1 0 0/\e 6=dI k)/\(H.get 0=some ⟨130,4,[t.h[i].c],false⟩)/\(0<H.next)/\(k<=i)/\(((t.h.take k).any λm=>decide (m.name=t.h[i].name))=false)) (λk=>i - k) 0 ⟨wg,wn,wn,wi,dB⟩ λI0 R k e H N=>?_);obtain ⟨E0,G,A,hk,b⟩:=N;have Y:=xa2 Y E0 G (bL A);refine dK (λV=>?_) λV=>?_
  .have hkl:k<t.h.length:=aD;have Y:=xa1 Y V hkl;refine d8 (λU=>?_) λU=>?_
   .exact wv (h:=l _ _ (.inl (by have r:=vW (p:=λm:NodeTy=>decide (m.name=t.h[i].name)) V hkl (eQ U);rw [F,if_neg (by simp [w]),if_pos r];simp [go_sem])))
   .exact wo (h:=wx R (k+1) ⟨wg,wn,wn,wj,(by rw [dU _ _ _ hkl,b];simpa using U)⟩)
  .have r:=tA b (aD:k=i);refine wo (h:=aB (oE _ _ _) wl ?_);refine d8 (λT=>?_) λT=>?_
   .exact wv (h:=l _ _ (.inl (by rw [F,if_neg (by simp [w]),if_neg (by simp [r]),if_pos (by simp [inF] at T;simp;omega)];simp [go_sem])))
   .have hr:¬ (decide (t.h[i].D < -1)||decide ((i:Int)<=t.h[i].D))=true:=by simp [inF] at T;simp;omega
    have J:parentsOK t.h i:=λj n hj D=>by
     rcases cH j i with h|h
     .exact hp j n h D
     .have:j=i:=aD;subst this;rw [aA q] at D;cases D;simp at hr;omega
    refine wv (h:=aB (FB t B i q J) wl ?_);refine d8 (λW=>?_) λW=>?_
    .exact wv (h:=l _ _ (.inl (by rw [F,if_neg (by simp [w]),if_neg (by simp [r]),if_neg hr];simp [go_sem];omega)))
    .have hF2:iG t i=bU (BL (t.r i)) ((t.r i).length - t.h[i].r.length) t.h[i].r.length:=by rw [F,if_neg (by simp [w]),if_neg (by simp [r]),if_neg hr,if_neg aD,if_neg aD]
     refine wo (h:=aY (λk e H=>(e 1=dI i/\e 2=.adr t.c/\e 7=.list ((t.r i).map Attr.c)/\e 8=dI k)/\(k<=(t.r i).length)/\(bU (BL (t.r i)) k ((t.r i).length - k)=iG t i)) (λk=>(t.r i).length - k) ((t.r i).length - t.h[i].r.length) ⟨wg,aD,(by rw [hF2];congr 1;omega)⟩ λI2 P k e H M=>?_);obtain ⟨E2,hk,E⟩:=M;have Y:=wa Y E2;refine d8 (λa=>?_) λa=>?_
     .have hst:=eV (BL (t.r i)) a;rw [E] at hst;have S:=Wp a;have Y:=wa Y a;refine wo (h:=aB (pQ _ (C _ (aC a)).name) wl ?_);refine d8 (λg=>?_) λg=>?_
      .refine wv (h:=?_);have f:BL (t.r i) k=2:=by rw [S,if_pos (by simp [g])]
       exact l _ _ (.inl (by rw [hst,f];simp [go_sem]))
      .refine wv (h:=aY (λj e H=>(e 1=dI i/\e 2=.adr t.c/\e 7=.list ((t.r i).map Attr.c)/\e 8=dI k/\e 9=dI j)/\(j<=k)/\((((t.r i).take j).any λy=>decide (y.name=(t.r i)[k].name))=false)) (λj=>k - j) 0 ⟨wg,wi,dB⟩ λI4 O j e H L=>?_);obtain ⟨E4,hj,b⟩:=L;have Y:=wa Y E4;refine dK (λv=>?_) λv=>?_
       .have hjl:j<(t.r i).length:=aD;have Y:=xa1 Y v hjl;refine d8 (λu=>?_) λu=>?_
        .refine wv (h:=?_);have r:=vW (p:=λy:Attr=>decide (y.name=(t.r i)[k].name)) v hjl (eQ u);have f:BL (t.r i) k=5:=by rw [S,if_neg (by simp [g]),if_pos r]
         exact l _ _ (.inl (by rw [hst,f];simp [go_sem]))
        .exact wo (h:=wx O (j+1) ⟨wg,wj,(by rw [dU _ _ _ hjl,b];simpa using u)⟩)
       .have hb2:=tA b (aD:j=k);have f:BL (t.r i) k=FZ (t.r i)[k]:=by rw [S,if_neg (by simp [g]),if_neg (by simp [hb2])]
        rw [f] at hst;refine wo (h:=aB (Gl _ (C _ (aC a))) wl ?_);refine d8 (λs=>?_) λs=>?_
        .exact wv (h:=l _ _ (.inl (by rw [hst,if_pos (eQ s)];simp [go_sem])))
        .exact wo (h:=wx P (k+1) ⟨wg,wj,(by rw [if_neg (by simp [s])] at hst;rw [<- hst])⟩)
     .exact wv (h:=l _ _ (.inl (by rw [<- E,(aD:(t.r i).length - k=0)];rfl)))
theorem PM (t:Types)(i:Nat)(a:i<t.i.length):j8 t i =
  if lD t.i[i].name=false then 2
  else if ((t.i.take i).any λy=>decide (y.name=t.i[i].name))=true then 5
  else if (insideF t t.i[i].w&&insideF t t.i[i].M&&boundedF t.i[i].bx t.i[i].bi&&boundedF t.i[i].bW t.i[i].bz)=true then 0 else 6:=by
 unfold j8;rw [aA a]
theorem yR (t:Types)(a:Int):inF a 0 ((t.h.length:Int) - 1)=insideF t a:=by
 simp only [inF,insideF];rw [aS];simp;omega
theorem Rb (t:Types)(w:t.ok)(i:Nat)(q:i<t.i.length):Pua 259 [t.d,dI i] (dI (j8 t i)):=by
 have x:=w.i _ (aC q);have D:=w.aT;have z:=w.bI;have u:=PM t i q;refine Tz.pK ⟨λt=>t==5,λ_=>[]⟩ func259 rfl (λQ s=>?_);have Y:=wa (aA q) q;refine wo (h:=aB (pQ _ x.name) wl ?_);refine d8 (λn=>?_) λn=>?_
 .exact wv (h:=s _ _ (by simp [go_sem,u,n]))
 .refine wv (h:=aY (λk e H=>(e 1=dI i/\e 2=.adr t.c/\e 5=.ptr 0 1 0 0/\e 6=dI k)/\(H.get 0=some ⟨132,7,[t.i[i].c],false⟩)/\(0<H.next)/\(k<=i)/\(((t.i.take k).any λm=>decide (m.name=t.i[i].name))=false)) (λk=>i - k) 0 ⟨wg,wn,wn,wi,dB⟩ λL A k e H y=>?_);obtain ⟨F,o,g,J,j⟩:=y;have Y:=xa2 Y F o (bL g);refine dK (λC=>?_) λC=>?_
  .have hkl:k<t.i.length:=aD;have Y:=xa1 Y C hkl;refine d8 (λB=>?_) λB=>?_
   .exact wv (h:=s _ _ (by have r:=vW (p:=λm:EdgeTy=>decide (m.name=t.i[i].name)) C hkl (eQ B);rw [u,if_neg (by simp [n]),if_pos r];simp [go_sem]))
   .exact wo (h:=wx A (k+1) ⟨wg,wn,wn,wj,(by rw [dU _ _ _ hkl,j];simpa using B)⟩)
  .have r:=tA j (aD:k=i);refine wo (h:=aB (oE _ _ _) wl ?_);refine wo (h:=aK (λl=>oE _ _ _) (λl=>wl) ?_);refine wo (h:=aK (λl=>Fz _ _) (λl=>wl) ?_);refine wo (h:=aK (λl=>Fz _ _) (λl=>wl) ?_);refine wo (h:=bC (λf=>?_) (λf=>?_))
   .skip
    simp only [yR] at f;exact wv (h:=s _ _ (by rw [u,if_neg (by simp [n]),if_neg (by simp [r])];revert f;cases insideF t t.i[i].w<;>cases insideF t t.i[i].M<;>cases boundedF t.i[i].bx t.i[i].bi<;>cases boundedF t.i[i].bW t.i[i].bz<;>simp [go_sem]))
   .skip
    simp only [yR] at f;exact wv (h:=s _ _ (by rw [u,if_neg (by simp [n]),if_neg (by simp [r])];revert f;cases insideF t t.i[i].w<;>cases insideF t t.i[i].M<;>cases boundedF t.i[i].bx t.i[i].bi<;>cases boundedF t.i[i].bW t.i[i].bz<;>simp [go_sem]))
theorem DA (f:Nat->Int)(b:Nat->ByteArray)(a:ByteArray × Int){k n:Nat}(h:k<n):eY f b a k (n - k)=if f k≠0 then (b k,f k) else eY f b a (k+1) (n - (k+1)):=by
 rw [(aD:n - k=n - (k+1)+1),eY]
theorem r9 (t:Types)(l:t.ok):Pua 175 [t.d] (.tup [.str (cW t).1,dI (cW t).2]):=by
 have y:=l.aT;have s:=l.bI;refine Tz.p0 func175 rfl λQ g Y=>?_;refine d8 (λo=>?_) λo=>?_
 .exact wv (h:=g _ _ (by simp [go_sem,cW,o]))
 .refine d8 (λD=>?_) λD=>?_
  .exact wv (h:=g _ _ (by simp [go_sem,cW,o,(aD:12<t.h.length\/20<t.i.length)]))
  .have e:cW t=eY (iG t) t.as (eY (j8 t) t.ae (⟨#[]⟩,0) 0 t.i.length) 0 t.h.length:=by simp only [cW];rw [if_neg (eQ o),if_neg aD]
   refine wv (h:=aY (λi e H=>(e 1=.adr t.c/\e 4=dI i)/\(i<=t.h.length)/\(∀ j,j<i->iG t j=0)/\(eY (iG t) t.as (eY (j8 t) t.ae (⟨#[]⟩,0) 0 t.i.length) i (t.h.length - i)=cW t)) (λi=>t.h.length - i) 0 ⟨wg,wi,(by intro j x;omega),(by rw [e];rfl)⟩ λI v i e H r=>?_);obtain ⟨F,C,w,a⟩:=r;have Y:=wa Y F;refine d8 (λk=>?_) λk=>?_
   .have hst:=a;rw [DA _ _ _ k] at hst;have Y:=wa Y k;refine wv (h:=aB (Ra t l i k (λj n x B=>yO t j n (w j x) B)) wl ?_);refine dK (λm=>?_) λm=>?_
    .exact wo (h:=g _ _ (by rw [if_pos (eQ m)] at hst;simp [go_sem,<- hst,Types.as,aA k]))
    .exact wo (h:=wx v (i+1) ⟨wg,wj,(kP w (eQ m)),(by rw [if_neg (eQ m)] at hst;exact hst)⟩)
   .have hE:eY (j8 t) t.ae (⟨#[]⟩,0) 0 t.i.length=cW t:=by rw [<- a,(aD:t.h.length - i=0)];rfl
    refine wv (h:=aY (λi e H=>(e 1=.adr t.c/\e 6=dI i)/\(i<=t.i.length)/\(eY (j8 t) t.ae (⟨#[]⟩,0) i (t.i.length - i)=cW t)) (λi=>t.i.length - i) 0 ⟨wg,wi,(hE)⟩ λG u i e H q=>?_);obtain ⟨E,C,a⟩:=q;have Y:=wa Y E;refine d8 (λb=>?_) λb=>?_
    .have hst:=a;rw [DA _ _ _ b] at hst;have Y:=wa Y b;refine wv (h:=aB (Rb t l i b) wl ?_);refine dK (λf=>?_) λf=>?_
     .exact wo (h:=g _ _ (by rw [if_pos (eQ f)] at hst;simp [go_sem,<- hst,Types.ae,aA b]))
     .exact wo (h:=wx u (i+1) ⟨wg,wj,(by rw [if_neg (eQ f)] at hst;exact hst)⟩)
    .exact wv (h:=g _ _ (by rw [<- a,(aD:t.i.length - i=0)];simp [go_sem,eY]))
theorem s7 {f:Nat->Int}{nm:Nat->ByteArray}{last:ByteArray × Int}:∀ (n k:Nat),(eY f nm last k n).2=0->(∀ j,k<=j->j<k+n->f j=0)/\last.2=0
 | 0,k,h=>⟨λj h1 h2=>by omega,h⟩
 | n+1,k,h=>by
  unfold eY at h;split at h
  .rename_i hne;exact absurd h hne
  .rename_i hz;obtain ⟨a,b⟩:=s7 n (k+1) h;refine ⟨λj h1 h2=>?_,b⟩;rcases Nat.eq_or_lt_of_le h1 with h3|h3
   .subst h3;exact bB λhne=>hz hne
   .exact a j h3 aD
structure Types.aj (t:Types):Prop where
 ne:0<t.h.length
 aT:t.h.length<=12
 bI:t.i.length<=20
 D:∀ (j:Nat) (n:NodeTy),t.h[j]?=some n->n.D<j
 aw:∀ (j:Nat) (n:NodeTy),t.h[j]?=some n->-1<=n.D
 r:∀ j,j<t.h.length->(t.r j).length<=8
 aU:∀ x∈t.i,insideF t x.w=true/\insideF t x.M=true
theorem mW {t:Types}(h:(cW t).2=0):t.aj:=by
 unfold cW at h;split at h
 .simp at h
 .rename_i h0;split at h
  .simp at h
  .rename_i h1;obtain ⟨i,f⟩:=s7 _ _ h;obtain ⟨f,_⟩:=s7 _ _ f;have b:∀ j (a:j<t.h.length),iG t j=0:=λj a=>i j aD aD;refine ⟨aD,aD,aD,λj n e=>?_,λj n e=>?_,λj a=>?_,λx g=>?_⟩
   .exact yO t j n (b j (aP.1 e).1) e
   .have a:=(aP.1 e).1;have d:=b j a;rw [Dg t j a] at d;grind
   .have d:=b j a;rw [Dg t j a] at d;grind
   .obtain ⟨j,a,rfl⟩:=aQ g;have d:=f j aD aD;rw [PM t j a] at d;grind
theorem Types.aj.ap {t:Types}(h:t.aj)(a:Nat):parentsOK t.h a:=λj n _ hn=>h.D j n hn
def given2F (t:Types)(a b:Int):Int:=if (cW t).2≠0 then (cW t).2 else if (insideF t a&&insideF t b)=true then 0 else 6
theorem Fy (t:Types)(j:t.ok)(a b:Int):Pua 116 [t.d,dI a,dI b] (dI (given2F t a b)):=by
 have k:=j.aT;refine Tz.p0 func116 rfl λQ i Y=>?_;refine wv (h:=aB (r9 t j) wl ?_);refine dK (λe=>?_) λe=>?_
 .have Y:=xa1 Y e @given2F.eq_1;exact wv (h:=i _ _ wy)
 .refine wo (h:=aB (oE _ _ _) wl ?_);refine wo (h:=aK (λl=>oE _ _ _) (λl=>wl) ?_);refine wo (h:=bC (λc=>?_) (λc=>?_))
  .skip
   simp only [yR] at c;exact wv (h:=i _ _ (by revert c;cases g:insideF t a<;>cases f:insideF t b<;>simp [go_sem,given2F,e,g,f]))
  .skip
   simp only [yR] at c;exact wv (h:=i _ _ (by revert c;cases g:insideF t a<;>cases f:insideF t b<;>simp [go_sem,given2F,e,g,f]))
def givenF (t:Types)(l:W3):Int:=if (cW t).2≠0 then (cW t).2 else if (l.any λa=>!insideF t a)=true then 6 else 0
theorem Ma (t:Types)(a:Int):Pua 210 [dI a,.adr t.c] (.bool (!insideF t a)):=by
 refine Tz.p0 func210 rfl λQ b Y=>?_;have Y:=wa Y @insideF.eq_1;exact wo (h:=b _ _ wy)
theorem zZ (t:Types)(g:t.ok)(l:W3):Pua 144 [t.d,dLI l] (dI (givenF t l)):=by
 refine Tz.p0 func144 rfl λQ e Y=>?_;refine wv (h:=aB (mX t g) wl ?_);refine dK (λb=>?_) λb=>?_
 .have Y:=xa1 Y b @givenF.eq_1;exact wv (h:=e _ _ wy)
 .refine wv (h:=aB (gM l 210 [.adr t.c] (λa=>!insideF t a) (by simp [go_sem]) (by simp [go_sem]) (λa _=>Ma t a)) wl ?_);refine dK (λf=>?_) λf=>?_
  .have Y:=xa2 Y b f @givenF.eq_1;exact wv (h:=e _ _ wy)
  .have Y:=xa2 Y b f @givenF.eq_1;exact wv (h:=e _ _ wy)
theorem LE (t:Types)(a b:Int):givenF t [a,b]=given2F t a b:=by
 unfold givenF given2F;cases d:insideF t a<;>cases c:insideF t b<;>simp [d,c]
def Iw (nodes:List NodeTy):Nat->Nat->W3
 | 0,_=>[]
 | f+1,a=>match nodes[a]? with
  | none=>[]
  | some n=>(if 0<=n.D then Iw nodes f n.D.toNat else [])++[(a:Int)]
def Types.ao (t:Types)(a:Nat):W3:=Iw t.h (a+1) a
theorem Rq (b:List NodeTy):∀ a f g,parentsOK b a->a<f->a<g->Iw b f a=Iw b g a:=by
 intro a;induction a using Nat.strongRecOn with
 | _ a ih =>
  intro f g d l k;obtain ⟨f,rfl⟩:∃ f',f=f'+1:=⟨f - 1,aD⟩;obtain ⟨g,rfl⟩:∃ g',g=g'+1:=⟨g - 1,aD⟩;unfold Iw;split
  .rfl
  .rename_i n hn;have:=d a n (aZ _) hn;congr 1;split
   .exact ih n.D.toNat aD f g (λj m i e=>d j m aD e) aD aD
   .rfl
theorem As (t:Types)(a:Nat)(b:a<t.h.length)(c:parentsOK t.h a) :
  t.ao a=(if 0<=t.h[a].D then t.ao t.h[a].D.toNat else [])++[(a:Int)]:=by
 have e:=c a _ (aZ _) (aA b);by_cases d:0<=t.h[a].D
 .have hlt:t.h[a].D.toNat<a:=aD;have:=Rq t.h t.h[a].D.toNat a (t.h[a].D.toNat+1) (λj m h f=>c j m aD f) hlt aD;simp [Types.ao,Iw,aA b,d,this]
 .simp [Types.ao,Iw,aA b,d]
def Lz (t:Types)(k:Nat):W3:=if k=0 then [] else t.ao (k - 1)
theorem QV {xs a:W3}{i:Nat}(b:a.length=xs.length)(d:xs.length<=2 * i+1)(c:∀ j,j<xs.length->a[j]?=if j<i\/xs.length - i<=j then xs[xs.length - 1 - j]? else xs[j]?):a=xs.reverse:=by
 apply fL;grind
theorem Ok (G:AHeap)(d:Nat)(xs:W3)(w:G.get d=some ⟨3,1,xs.map cI,false⟩)(L:xs.length<=100000)(Q:D->AHeap->Prop)
  (I:∀ H',H'.get d=some ⟨3,1,xs.reverse.map cI,false⟩->(∀ j,j≠d->H'.get j=G.get j)->G.next<=H'.next->Q (.tup []) H'):ACalls prog 344 [.own d xs.length] G Q:=by
 refine (Tz.c0 func344 rfl ?_);try simp [go_sem,seval,w]
 repeat first|intro _|refine ⟨iD,?_⟩
 obtain ⟨x,g⟩:∃ x:Nat->eF->AHeap->Prop,∀ (i:Nat) (e:eF) (H:AHeap),x i e H↔(∃ b:W3,(e 0=.own d xs.length)/\(e 2=dI i)/\(e 3=dI ((xs.length:Int) - 1 - i))/\(H.get d=some ⟨3,1,b.map cI,false⟩)/\(∀ j,j≠d->H.get j=G.get j)/\(G.next<=H.next)/\(b.length=xs.length)/\(∀ j,j<xs.length->b[j]?=if j<i\/xs.length - i<=j then xs[xs.length - 1 - j]? else xs[j]?)):=⟨λi e H=>_,λ_ _ _=>Iff.rfl⟩;refine FJ x (λi=>xs.length - i) (0) ((g _ _ _).2 ⟨(xs),?_,?_,?_,(w),(λ_ _=>rfl),(aZ _),(by first|assumption|omega|(simp [go_sem,w];done)|(simp_all;done)),(by intro j h;simp;omega)⟩) ?_;iterate 3 (first|omega|(simp [go_sem,seval]<;>omega))
 intro i e H v;obtain ⟨b,n,m,l,C,p,t,r,q⟩:=(g _ _ _).1 v;have y:=xa1 n m l;try simp [go_sem,seval,y]
 refine bC (λk=>?_) (λk=>?_)
 .try simp [go_sem] at k
  have h:xs.length - 1 - i<b.length:=aD;have c:i<b.length:=aD;have s:((xs.length:Int) - 1 - i).toNat=xs.length - 1 - i:=aD;have f:∀ j,j<xs.length->((b.set i (b[xs.length - 1 - i]?.getD 0)).set (xs.length - 1 - i) (b[i]?.getD 0))[j]?=if j<i+1\/xs.length - (i+1)<=j then xs[xs.length - 1 - j]? else xs[j]?:=λj u=>by
   have k:=q j u;have F:=q i aD;have E:=q (xs.length - 1 - i) aD;rw [aA c] at F;rw [aA h] at E;rw [dA,dA,aA c,aA h];by_cases B:xs.length - 1 - i=j
   .rw [if_pos B,if_pos (by simp;omega),if_pos aD];simp only [Option.getD_some];rw [F,if_neg aD];congr 1;omega
   .rw [if_neg B];by_cases A:i=j
    .rw [if_pos A,if_pos aD,if_pos aD];simp only [Option.getD_some];rw [E,if_neg aD];congr 1;omega
    .rw [if_neg A,k];by_cases z:j<i\/xs.length - i<=j
     .rw [if_pos z,if_pos aD]
     .rw [if_neg z,if_neg aD]
  try simp [go_sem,seval,y,C,k,s,aA h,aA c,r,(aD:i≠xs.length - 1 - i)]
  repeat first|intro _|refine ⟨iD,?_⟩
  refine mI (i+1) aD ((g _ _ _).2 ⟨((b.set i (b[xs.length - 1 - i]?.getD 0)).set (xs.length - 1 - i) (b[i]?.getD 0)),?_,?_,?_,(by simp [go_sem,aA h,aA c]),(by intro j o;simp [go_sem,o,p j o]),(by simp [go_sem];omega),(by first|assumption|omega|(simp [go_sem,aA h,aA c,r];done)|(simp_all<;>omega)),(f)⟩)<;>first|omega|(simp [go_sem,seval,y]<;>omega)
 .try simp [go_sem] at k
  have:=QV r aD q;subst this;try simp [go_sem,seval]
  exact I _ C p t
theorem Qy (t:Types)(F:t.ok)(l:t.aj)(a:Nat)(J:a<t.h.length):Pua 304 [t.d,dI a] (.list ((t.ao a).map cI)):=by
 have w:=l.aT;refine Tz.pK ⟨λt=>t==5,λ_=>[]⟩ func304 rfl (λQ A=>?_);have Y:=trivial;refine wv (h:=aY (λk e H=>∃ b:W3,(e 2=.adr t.c/\e 1=dI ((k:Int) - 1)/\e 5=.own 0 b.length)/\(H.get 0=some ⟨3,1,b.map cI,false⟩)/\(0<H.next)/\(k<=t.h.length)/\(b.length+k<=12)/\(Lz t k++b.reverse=t.ao a)) (λk=>k) (a+1) ⟨([]),wg,wn,wn,wi,(by simp;omega),(by simp [Lz])⟩ λK s k e H r=>?_);obtain ⟨b,C,g,i,G,I,j⟩:=r;have Y:=xa2 Y C g (bL i);refine dK (λx=>?_) λx=>?_
 .have hk0:0<k:=aD;have f:k - 1<t.h.length:=aD;have u:=l.D (k - 1) _ (aA f);have v:=l.aw (k - 1) _ (aA f);have o:((k:Int) - 1).toNat=k - 1:=aD;have z:=As t (k - 1) f (l.ap _);have q:Lz t k=Lz t (t.h[k - 1].D+1).toNat++[(k:Int) - 1]:=by
   unfold Lz;grind
  have Y:=xa2 Y x o f;exact wo (h:=wx s ((t.h[k - 1].D+1).toNat) ⟨(b++[(k:Int) - 1]),wg,wn,wn,wj,(by simp;omega),(by rw [q] at j;rw [<- j];simp)⟩)
 .have hk0:k=0:=aD;subst hk0;have p:(t.ao a).length=b.length:=by rw [<- j];simp [Lz]
  have n:(b.map cI).reverse=(t.ao a).map cI:=by rw [<- List.map_reverse,<- j];rfl
  refine wv (h:=?_);unfold fE;refine Ok _ _ b g aD _ λL B _ _=>?_;exact wv (h:=A _ _ (by simp [go_sem,B,n,p]))
theorem G7 (t:Types)(f:t.ok)(e:t.aj)(a b:Int)(i:0<=a)(j:a<t.h.length):Pua 244 [t.d,dI a,dI b] (.bool (mem (t.ao a.toNat) b)):=by
 have c:=Qy t f e a.toNat aD;rw [Int.toNat_of_nonneg i] at c;refine Tz.p0 func244 rfl λQ g Y=>?_;refine wv (h:=aB (c) wl ?_);refine wv (h:=aB (fU _ _) wl ?_);exact wv (h:=g _ _ wy)
def o6 (t:Types)(edge a b:Int):Bool:=decide (given2F t a b=0)&&(decide (0<=edge)&&decide (edge<t.i.length)) &&
 (mem (t.ao a.toNat) (match t.i[edge.toNat]? with|some x=>x.w|none=>0)&&mem (t.ao b.toNat) (match t.i[edge.toNat]? with|some x=>x.M|none=>0))
theorem sE {t:Types}{a b:Int}(h:given2F t a b=0):t.aj/\(0<=a/\a<t.h.length)/\(0<=b/\b<t.h.length):=by
 unfold given2F at h;split at h
 .rename_i h1;exact absurd h h1
 .rename_i h1;split at h
  .rename_i h2;simp [insideF] at h2;exact ⟨mW (eQ h1),h2.1,h2.2⟩
  .cases h
theorem G8 (t:Types)(f:t.ok)(c a b:Int):Pua 158 [t.d,dI c,dI a,dI b] (.bool (o6 t c a b)):=by
 refine Tz.p0 func158 rfl λQ j Y=>?_;refine wo (h:=aB (zZ t f [a,b]) wl ?_);refine d8 (λe=>?_) λe=>?_
 .rw [LE] at e;exact wv (h:=j _ _ (by simp [go_sem,o6];intros;omega))
 .rw [LE] at e;obtain ⟨i,l,k⟩:=sE e.1.1;have g:c.toNat<t.i.length:=aD;have Y:=wa Y (aA g);refine wo (h:=aI (G7 t f i _ _ l.1 l.2) wl ?_);refine wo (h:=dO (λm=>G7 t f i _ _ k.1 k.2) (λm=>wl) ?_);exact wo (h:=j _ _ (by simp [go_sem,o6,e]))
theorem xC (l:W3)(x b:Int):mem (l++[x]) b=(mem l b||decide (b=x)):=by
 rw [aS,cZ,mem_iff,mem_iff];simp
theorem yP (b:Int):mem ([]:W3) b=false:=by rw [bQ];intro h;rw [mem_iff] at h;cases h
theorem XC (t:Types)(a b:Int)(g:a<0)(f:0<=b):Pua 119 [t.d,dI a,dI b] (.bool false):=by
 refine Tz.p0 func119 rfl λQ e _=>?_;have Y:=wa (aD:¬ 0<=a) (aD:¬ a=b);refine wo (h:=?_);refine dO (r:=.bool false) (λc=>by simp at c) (λc=>by simp at c) ?_;exact wo (h:=e _ _ wy)
theorem s4 (t:Types)(g:t.aj)(b:Int)(m:0<=b):∀ a:Nat,a<t.h.length->Pua 119 [t.d,dI a,dI b] (.bool (mem (t.ao a) b)):=by
 intro a;induction a using Nat.strongRecOn with
 | _ a ih =>
 intro c;have i:=g.D a _ (aA c);have e:=As t a c (g.ap a);have l:Pua 119 [t.d,dI t.h[a].D,dI b] (.bool (mem (if 0<=t.h[a].D then t.ao t.h[a].D.toNat else []) b)):=by
  by_cases j:0<=t.h[a].D
  .rw [if_pos j];grind
  .rw [if_neg j,yP];exact XC t _ _ aD m
 rw [e,xC];refine Tz.p0 func119 rfl λQ n _=>?_;have f:decide ((a:Int)=b)=decide (b=(a:Int)):=by rw [aS];simp;omega
 have Y:=wa (aA c) c;refine wo (h:=dO (λk=>l) (λk=>wl) ?_);exact wo (h:=n _ _ (.inl (by simp only [go_sem,f,Bool.or_comm])))
theorem yJ (t:Types)(m:t.ok)(c a b:Int):Pua 69 [t.d,dI c,dI a,dI b] (.bool (o6 t c a b)):=by
 have o:=m.bI;refine Tz.p0 func69 rfl λQ n Y=>?_;refine wo (h:=aB (Fy t m a b) wl ?_);refine wo (h:=aK (λl=>oE _ _ _) (λl=>wl) ?_);refine wo (h:=bC (λj=>?_) (λj=>?_))
 .skip
  simp [inF] at j;exact wv (h:=n _ _ (by simp [go_sem,o6];intros;omega))
 .skip
  simp [inF] at j;obtain ⟨k,q,p⟩:=sE j.1;have f:c.toNat<t.i.length:=aD;have e:=k.aU _ (aC f);simp [insideF] at e;have i:=s4 t k t.i[c.toNat].w e.1.1 a.toNat aD;have g:=s4 t k t.i[c.toNat].M e.2.1 b.toNat aD;rw [Int.toNat_of_nonneg q.1] at i;rw [Int.toNat_of_nonneg p.1] at g;have Y:=wa Y (aA f);refine wo (h:=aI (i) wl ?_);refine wo (h:=dO (λl=>g) (λl=>wl) ?_);exact wo (h:=n _ _ (by simp [go_sem,o6,j,aA f];omega))
attribute [go_sem] Slot.c Test.c Pattern.c Pattern.d Part.c Part.d Stage.c
theorem Eo {P:Program}{f:FuncId}{ty:TypeId}{sz:Nat}(g:Own P f [.nil] ty sz [])(m:Own P f [.ne] ty sz []):Own P f [.list []] ty sz []:=by
 refine ⟨g.1,λM w b e l=>?_⟩;obtain ⟨k,i⟩:=l;match b,k with
 | [v],_ =>
  have h:=i 0 v _ rfl rfl;cases h with
  | listN=>exact g.2 M w _ e ⟨rfl,λj u d a c=>by
    match j with
    | 0=>simp at a c;subst a;subst c;exact .nil
    | j+1=>simp at a⟩
  | list ad cap sz xs es hc hm=>exact m.2 M w _ e ⟨rfl,λj u d a c=>by
    match j with
    | 0=>simp at a c;subst a;subst c;exact .ne ad cap hm
    | j+1=>simp at a⟩
theorem RR:Own prog 99 [.nil] 3 1 []:=by
 refine Tz.oK ⟨λt=>t==2||t==5,λ_=>[]⟩ func99 rfl (λQ a=>?_);have Y:=trivial;refine wv (h:=?_);exact a _ _ _ (by simp [go_sem]<;>first|omega|(rw [aS];simp<;>omega)|(simp_all<;>omega)) (by simp [go_sem]<;>first|omega|(rw [aS];simp<;>omega)|(simp_all<;>omega))
theorem RP:Own prog 99 [.ne] 3 1 []:=by
 refine Tz.oK ⟨λt=>t==2||t==5,λ_=>[]⟩ func99 rfl (λQ a=>?_);have Y:=trivial;refine wo (h:=?_);exact a _ _ _ (by simp [go_sem]<;>first|omega|(rw [aS];simp<;>omega)|(simp_all<;>omega)) (by simp [go_sem]<;>first|omega|(rw [aS];simp<;>omega)|(simp_all<;>omega))
theorem RQ (l:W3)(c:l.length<=1000000)(a:l≠[]):Own prog 99 [.list (l.map cI)] 3 1 (l.map cI):=by
 refine Tz.oK ⟨λt=>t==2||t==5,λ_=>[]⟩ func99 rfl (λQ b=>?_);have Y:=a;refine wo (h:=?_);exact b _ _ _ (by simp [go_sem]<;>first|omega|(rw [aS];simp<;>omega)|(simp_all<;>omega)) (by simp [go_sem]<;>first|omega|(rw [aS];simp<;>omega)|(simp_all<;>omega))
theorem jK (l:W3)(b:l.length<=1000000):Own prog 99 [.list (l.map cI)] 3 1 (l.map cI):=by
 by_cases a:l=[]
 .subst a;exact Eo RR RP
 .exact RQ l b a
theorem RO:Own prog 146 [.nil] 9 1 []:=by
 refine Tz.oK ⟨λt=>t==2||t==5,λ_=>[]⟩ func146 rfl (λQ a=>?_);have Y:=trivial;refine wv (h:=?_);exact a _ _ _ (by simp [go_sem]<;>first|omega|(rw [aS];simp<;>omega)|(simp_all<;>omega)) (by simp [go_sem]<;>first|omega|(rw [aS];simp<;>omega)|(simp_all<;>omega))
theorem RM:Own prog 146 [.ne] 9 1 []:=by
 refine Tz.oK ⟨λt=>t==2||t==5,λ_=>[]⟩ func146 rfl (λQ a=>?_);have Y:=trivial;refine wo (h:=?_);exact a _ _ _ (by simp [go_sem]<;>first|omega|(rw [aS];simp<;>omega)|(simp_all<;>omega)) (by simp [go_sem]<;>first|omega|(rw [aS];simp<;>omega)|(simp_all<;>omega))
theorem RN (l:List ByteArray)(c:l.length<=1000000)(a:l≠[]):Own prog 146 [.list (l.map cS)] 9 1 (l.map cS):=by
 refine Tz.oK ⟨λt=>t==2||t==5,λ_=>[]⟩ func146 rfl (λQ b=>?_);have Y:=a;refine wo (h:=?_);exact b _ _ _ (by simp [go_sem]<;>first|omega|(rw [aS];simp<;>omega)|(simp_all<;>omega)) (by simp [go_sem]<;>first|omega|(rw [aS];simp<;>omega)|(simp_all<;>omega))
theorem Ut (l:List ByteArray)(b:l.length<=1000000):Own prog 146 [.list (l.map cS)] 9 1 (l.map cS):=by
 by_cases a:l=[]
 .subst a;exact Eo RO RM
 .exact RN l b a
def bI (t:Types)(a:Int):List Attr:=if given2F t a a=0 then t.r a.toNat else []
theorem tI (t:Types)(a:Int):givenF t [a]=given2F t a a:=by
 unfold givenF given2F;cases b:insideF t a<;>simp [b]
theorem uC {t:Types}{a:Int}(h:given2F t a a=0):t.aj/\0<=a/\a<t.h.length:=⟨(sE h).1,(sE h).2.1⟩
theorem oT (t:Types)(l:t.ok)(a:Int):Pua 98 [t.d,dI a] (.tup [.list ((bI t a).map Attr.c),dI (given2F t a a)]):=by
 refine Tz.p0 func98 rfl λQ r Y=>?_;refine wv (h:=aB (zZ t l [a]) wl ?_);refine dK (λf=>?_) λf=>?_
 .rw [tI] at f;exact wv (h:=r _ _ (by simp [go_sem,tI,bI,f]))
 .rw [tI] at f;obtain ⟨q,w,C⟩:=uC f;have j:=Fg t l a.toNat aD (q.ap _);rw [Int.toNat_of_nonneg w] at j;have m:∀ x∈t.r a.toNat,x.ok:=xW t.h l.h _ _;have v:=q.r a.toNat aD;refine wv (h:=lG (j) wl ?_);refine wo (h:=aY (λi e H=>(e 2=.adr t.c/\e 1=dI a/\e 7=.own 0 (t.r a.toNat).length/\e 20=dI (t.r a.toNat).length/\e 21=dI i)/\(H.get 0=some ⟨127,4,(t.r a.toNat).map Attr.c,false⟩)/\(0<H.next)/\(i<=(t.r a.toNat).length)) (λi=>(t.r a.toNat).length - i) 0 ⟨wg,(by simp [go_sem]),wn,wi⟩ λD o i e H n=>?_);obtain ⟨y,b,g,B⟩:=n;have Y:=xa2 Y y b (bL g);refine dK (λk=>?_) λk=>?_
  .have hset:((t.r a.toNat).map Attr.c).set i (((t.r a.toNat).map Attr.c)[i]'(eQ k))=(t.r a.toNat).map Attr.c:=List.set_getElem_self _;simp [go_sem] at hset;have Y:=wa Y k;refine wo (h:=aB ((Ut (t.r a.toNat)[i].ad (by have:=(m _ (aC k)).bg;omega)).pure) wl ?_);exact wo (h:=wx o (i+1) ⟨wg,(by simp [go_sem,hset]),wn,wj⟩)
  .exact wv (h:=r _ _ (by simp [go_sem,b,bI,f]))
theorem l7 (t:Types)(m:t.ok)(a:Int):Pua 68 [t.d,dI a] (.tup [.list ((bI t a).map Attr.c),dI (given2F t a a)]):=by
 refine Tz.pK ⟨λt=>t==7||t==10||t==31||t==1000000,λ_=>[]⟩ func68 rfl (λQ r=>?_);have Y:=trivial;refine wv (h:=aB (Fy t m a a) wl ?_);refine dK (λk=>?_) λk=>?_
 .exact wv (h:=r _ _ (by simp [go_sem,bI,k]))
 .obtain ⟨q,y,D⟩:=uC k;have g:=FB t m a.toNat aD (q.ap _);rw [Int.toNat_of_nonneg y] at g;have n:∀ x∈t.r a.toNat,x.ok:=xW t.h m.h _ _;have v:=q.r a.toNat aD;refine wv (h:=aB (g) wl ?_);refine wv (h:=aY (λi e H=>(e 2=.adr t.c/\e 1=dI a/\e 7=.own 0 ((t.r a.toNat).take i).length/\e 8=.list ((t.r a.toNat).map Attr.c)/\e 9=dI i)/\(H.get 0=some ⟨127,4,((t.r a.toNat).take i).map Attr.c,false⟩)/\(0<H.next)/\(i<=(t.r a.toNat).length)) (λi=>(t.r a.toNat).length - i) 0 ⟨wg,(by simp [go_sem]),wn,wi⟩ λE p i e H o=>?_);obtain ⟨z,b,f,C⟩:=o;have Y:=xa2 Y z b (bL f);refine d8 (λj=>?_) λj=>?_
  .have hts:=aE (l:=(t.r a.toNat).map Attr.c) (i:=i) (eQ j);simp [go_sem] at hts;have w:=(n _ (aC j)).bg;have Y:=wa Y j;exact wo (h:=wx p (i+1) ⟨wg,(by simp [go_sem,hts]),wn,wj⟩)
  .exact wv (h:=r _ _ (by simp [go_sem,b,bI,k,(aD:i=(t.r a.toNat).length)]))
def kD (t:Types)(a:Int):W3:=if given2F t a a=0 then ((List.range t.h.length).filter λ(b:Nat)=>mem (t.ao b) a).map λ(b:Nat)=>(b:Int) else []
theorem b7 (p:Nat->Bool)(i:Nat):((List.range (i+1)).filter p).map (λ(b:Nat)=>(b:Int))=((List.range i).filter p).map (λ(b:Nat)=>(b:Int))++(if p i=true then [(i:Int)] else []):=by
 rw [bS,jA,List.map_append];grind
theorem NU (t:Types)(u:t.ok)(a:Int):Pua 311 [t.d,dI a] (.tup [dLI (kD t a),dI (given2F t a a)]):=by
 refine Tz.pK ⟨λt=>t==7,λ_=>[]⟩ func311 rfl (λQ v=>?_);have Y:=trivial;refine wv (h:=aB (zZ t u [a]) wl ?_);refine dK (λj=>?_) λj=>?_
 .rw [tI] at j;exact wv (h:=v _ _ (by simp [go_sem,tI,kD,j]))
 .rw [tI] at j;obtain ⟨s,E,D⟩:=uC j;have C:=s.aT;refine wo (h:=aY (λi e H=>∃ g:W3,(e 2=.adr t.c/\e 1=dI a/\e 7=.own 0 g.length/\e 18=dI t.h.length/\e 19=dI i)/\(H.get 0=some ⟨3,1,g.map cI,false⟩)/\(0<H.next)/\(i<=t.h.length)/\(g.length<=i)/\(g=((List.range i).filter λ(b:Nat)=>mem (t.ao b) a).map (λ(b:Nat)=>(b:Int)))) (λi=>t.h.length - i) 0 ⟨([]),wg,wn,wn,wi,dB,(by rfl)⟩ λG m i e H o=>?_);obtain ⟨g,y,f,l,B,A,n⟩:=o;have Y:=xa2 Y y f (bL l);refine dK (λw=>?_) λw=>?_
  .have Y:=wa Y w;refine wv (h:=aB (G7 t u s i a aD aD) wl ?_);refine dK (λp=>?_) λp=>?_
   .have Y:=wa Y p;exact wo (h:=wx m (i+1) ⟨(g++(if mem (t.ao i) a=true then [(i:Int)] else [])),wg,wn,wn,wj,(by rw [aH];split<;>simp<;>omega),(by rw [b7,<- n])⟩)
   .have Y:=wa Y p;exact wo (h:=wx m (i+1) ⟨(g++(if mem (t.ao i) a=true then [(i:Int)] else [])),wg,wn,wn,wj,(by rw [aH];split<;>simp<;>omega),(by rw [b7,<- n])⟩)
  .exact wv (h:=v _ _ (by simp [go_sem,f,kD,j];rw [n,(aD:i=t.h.length)];simp))
end Go.Abs
end
