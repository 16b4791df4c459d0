/- Layers 6 (the reference) and 7: morphisms, parts. · Layer 22 -/
import Derived.Test.YtbgbahlipnaflaaGreatZvAG
import Derived.Test.YtbgbahlipnaflaaGreatZvAI
import Derived.Test.YtbgbahlipnaflaaGreatZvAA
set_option linter.unusedVariables false
set_option linter.unusedSimpArgs false
section
set_option maxRecDepth 100000
set_option maxHeartbeats 4000000
open Go Go.Proofs Tryz
namespace Go.Abs
theorem v7 (a b:Graph)(m:Part):Pua 206 [a.d,b.d,m.d] (dI (eR a b m)):=by
 refine Tz.pK ⟨λt=>t==11||t==12,λr=>match r with|21=>[(0,14),(1,14),(3,14),(4,14),(5,14),(6,14),(7,14),(8,14),(10,14),(11,14),(12,14),(13,14),(0,15),(1,15),(3,15),(4,15),(5,15),(6,15),(7,15),(8,15),(10,15),(11,15),(12,15),(13,15),(14,15),(5,16),(6,16),(7,16),(8,16),(10,16),(11,16),(12,16),(13,16)]|_=>[]⟩ func206 rfl (λQ n=>?_);have Y:=trivial;refine wv (h:=?_);refine aB (lP a) wl ?_;refine wv (h:=?_);refine wq (λs=>?_) λs=>?_
 .refine wv (h:=?_);exact n _ _ (.inl (by simp [go_sem,eR,s]))
 .refine wv (h:=?_);refine aB (lP b) wl ?_;refine wv (h:=?_);refine wq (λx=>?_) λx=>?_
  .refine wv (h:=?_);exact n _ _ (.inl (by simp [go_sem,eR,s,x]))
  .refine wv (h:=?_);repeat first|intro _|refine ⟨iS,?_⟩
   refine wq (λP=>?_) λP=>?_
   .refine wv (h:=?_);exact n _ _ (.inl (by simp [go_sem,eR,s,x,(aD:m.h.length≠a.h.length\/m.i.length≠a.i.length)]))
   .have y:eR a b m=(if bW (lT a b m) 0 a.h.length≠0 then bW (lT a b m) 0 a.h.length else bW (mapEE a b m) 0 a.i.length):=by
     unfold eR;rw [if_neg (iw s),if_neg (iw x),if_neg aD]
    have O:=bK s;have N:=bK x;have A:=(dY s).2;refine wv (h:=?_);refine bA (λi e H=>(e 3=.adr a.c/\e 4=.adr b.c/\e 5=.adr m.c/\e 9=dI i)/\(i<=a.h.length)/\(bW (lT a b m) i (a.h.length - i)=bW (lT a b m) 0 a.h.length)) (λi=>a.h.length - i) 0 ⟨wg,wi,(by rfl)⟩ λX E i e H C=>?_;obtain ⟨S,V,J⟩:=C;have Y:=wa Y S;refine wv (h:=?_);repeat first|intro _|refine ⟨iS,?_⟩
    refine wq (λo=>?_) λo=>?_
    .have hn:i<m.h.length:=aD;have f:=fR (lT a b m) o;rw [J] at f;have j:lT a b m i=(if m.h[i]<0\/(b.h.length:Int)<=m.h[i] then 6 else if b.h[m.h[i].toNat]?.getD 0≠a.h[i] then 13 else 0):=by simp only [lT,aA o,aA hn,Option.getD_some]
     have Y:=xa1 Y o hn;refine wv (h:=?_);repeat first|intro _|refine ⟨iS,?_⟩
     refine wq (λI=>?_) λI=>?_
     .rw [if_pos aD] at j;rw [j,if_pos aD] at f;refine wv (h:=?_);exact n _ _ (.inl (iu y f))
     .have hkb:m.h[i].toNat<b.h.length:=aD;rw [if_neg aD,aA hkb,Option.getD_some] at j;have Y:=wa Y (aA hkb);refine wv (h:=?_);repeat first|intro _|refine ⟨iS,?_⟩
      refine wq (λu=>?_) λu=>?_
      .rw [if_pos u] at j;rw [j,if_pos aD] at f;refine wv (h:=?_);exact n _ _ (.inl (iu y f))
      .rw [if_neg (bY u)] at j;rw [j,if_neg aD] at f;refine wv (h:=?_);repeat first|intro _|refine ⟨iS,?_⟩
       exact wx E (i+1) ⟨wg,wj,(f.symm)⟩
    .have hN0:bW (lT a b m) 0 a.h.length=0:=by rw [<- J,(aD:a.h.length - i=0)];rfl
     rw [hN0,if_neg aD] at y;refine wv (h:=?_);refine bA (λk e H=>(e 3=.adr a.c/\e 4=.adr b.c/\e 5=.adr m.c/\e 10=dI k)/\(k<=a.i.length)/\(bW (mapEE a b m) k (a.i.length - k)=eR a b m)) (λk=>a.i.length - k) 0 ⟨wg,wi,(y.symm)⟩ λW D k e H B=>?_;obtain ⟨R,U,K⟩:=B;have Y:=wa Y R;refine wv (h:=?_);repeat first|intro _|refine ⟨iS,?_⟩
     refine wq (λl=>?_) λl=>?_
     .have hn:k<m.i.length:=aD;have f:=fR (mapEE a b m) l;rw [K] at f;have T:=A _ (aC l);have w:a.i[k].w.toNat<m.h.length:=aD;have v:a.i[k].M.toNat<m.h.length:=aD;have g:mapEE a b m k=(if m.i[k]<0\/(b.i.length:Int)<=m.i[k] then 6 else if a.i[k].type≠(b.i[m.i[k].toNat]?.getD cH).type then 13 else if m.h[a.i[k].w.toNat]≠(b.i[m.i[k].toNat]?.getD cH).w\/m.h[a.i[k].M.toNat]≠(b.i[m.i[k].toNat]?.getD cH).M then 11 else 0):=by
       simp only [mapEE,aA l,aA hn,Option.getD_some,aA w,aA v]
      have Y:=xa3 Y l hn (aA w) (aA v);refine wv (h:=?_);repeat first|intro _|refine ⟨iS,?_⟩
      refine wq (λG=>?_) λG=>?_
      .rw [if_pos aD] at g;rw [g,if_pos aD] at f;refine wv (h:=?_);exact n _ _ (.inl (by simp [go_sem,<- f]))
      .have hkb:m.i[k].toNat<b.i.length:=aD;rw [if_neg aD,aA hkb,Option.getD_some] at g;have Y:=wa Y (aA hkb);refine wv (h:=?_);repeat first|intro _|refine ⟨iS,?_⟩
       refine wq (λq=>?_) λq=>?_
       .rw [if_pos q] at g;rw [g,if_pos aD] at f;refine wv (h:=?_);exact n _ _ (.inl (by simp [go_sem,<- f]))
       .rw [if_neg (bY q)] at g;refine wv (h:=?_);repeat first|intro _|refine ⟨iS,?_⟩
        refine wq (λF=>?_) λF=>?_
        .rw [if_pos aD] at g;rw [g,if_pos aD] at f;refine wv (h:=?_);exact n _ _ (.inl (by simp [go_sem,<- f]))
        .rw [if_neg aD] at g;rw [g,if_neg aD] at f;refine wv (h:=?_);repeat first|intro _|refine ⟨iS,?_⟩
         exact wx D (k+1) ⟨wg,wj,(f.symm)⟩
     .refine wv (h:=?_);exact n _ _ (.inl (by rw [<- K,(aD:a.i.length - k=0)];rfl))
theorem qM (l:V2):Pua 125 [dLI l] (.bool (decide l.Nodup)):=by
 refine Tz.p0 func125 rfl λQ s Y=>?_;refine wv (h:=bA (λi e H=>(e 0=dLI l/\e 3=dI i)/\(i<=l.length)/\(∀ (a b:Nat) (d:b<l.length),b<i->(c:a<b)->l[a]≠l[b])) (λi=>l.length - i) 0 ⟨wg,wi,(by intro a b d h;omega)⟩ λB o i e H j=>?_);obtain ⟨w,y,r⟩:=j;have Y:=wa Y w;refine wv (h:=?_);repeat first|intro _|refine ⟨iS,?_⟩
 refine wq (λu=>?_) λu=>?_
 .have Y:=wa Y u;refine wv (h:=bA (λk e H=>(e 0=dLI l/\e 3=dI i/\e 4=dI k)/\(k<=i)/\(∀ a,a<k->l[a]?≠some l[i])) (λk=>i - k) 0 ⟨wg,wi,(by intro a h;omega)⟩ λA n k e H g=>?_);obtain ⟨v,x,q⟩:=g;have Y:=wa Y v;refine dR (λt=>?_) λt=>?_
  .have hkl:k<l.length:=aD;have Y:=xa1 Y t hkl;refine eP (λp=>?_) λp=>?_
   .refine wv (h:=?_);have f:¬ l.Nodup:=λh=>by
     have:=(i6 h).1 p;omega
    exact s _ _ (iq f)
   .exact wo (h:=wx n (k+1) ⟨wg,wj,(by exact lX q (by rw [aA hkl];simpa using λm=>p m.symm))⟩)
  .have hd':∀ (a b:Nat) (d:b<l.length),b<i+1->(c:a<b)->l[a]≠l[b]:=λa b d h c=>by
    rcases bX b i with h'|h'
    .exact r a b d h' c
    .have:b=i:=aD;subst this;exact λm=>q a aD (by rw [aA aD,m])
   exact wo (h:=wx o (i+1) ⟨wg,wj,(by exact hd')⟩)
 .refine wv (h:=?_);have f:l.Nodup:=by
   rw [e8,dF];exact λa b z d c=>r a b d aD c
  exact s _ _ (iq f)
def KD (l:V2)(n:Int)(i:Nat):Int :=
 if l[i]?.getD 0<0\/n<=l[i]?.getD 0 then 6 else if 0<i/\l[i]?.getD 0<=l[i - 1]?.getD 0 then 12 else 0
def FP (l:V2)(n:Int):Int:=bW (KD l n) 0 l.length
theorem eU {f:Nat->Int}:∀ (n k:Nat),bW f k n=0->∀ j,k<=j->j<k+n->f j=0
 | 0,k,_=>λj h1 h2=>by omega
 | n+1,k,h=>λj h1 h2=>by
  unfold bW at h;split at h
  .rename_i hne;exact absurd h hne
  .rename_i hz;rcases Nat.eq_or_lt_of_le h1 with h3|h3
   .subst h3;exact aY λhne=>hz hne
   .exact eU n (k+1) h j h3 aD
theorem Dc {l:V2}{n:Int}(h:FP l n=0):(∀ x∈l,0<=x/\x<n)/\l.Pairwise (· < ·):=by
 have b:=eU _ _ h;have e:∀ i (a:i<l.length),(0<=l[i]/\l[i]<n)/\(∀ h0:0<i,l[i - 1]<l[i]):=λi a=>by
  have:=b i aD aD;unfold KD at this;grind
 refine ⟨λx c=>?_,dF.2 λi j a f d=>?_⟩
 .obtain ⟨i,a,rfl⟩:=aO c;exact (e i a).1
 .induction j with
  | zero=>omega
  | succ j ih =>
   grind
theorem Ca (l:V2)(n:Int):Pua 408 [dLI l,dI n] (dI (FP l n)):=by
 refine Tz.p0 func408 rfl λQ g Y=>?_;refine wv (h:=?_);repeat first|intro _|refine ⟨iS,?_⟩
 refine bA (λi e H=>(e 0=dLI l/\e 1=dI n/\e 7=dLI l/\e 8=dI l.length/\e 9=dI i)/\(i<=l.length)/\(bW (KD l n) i (l.length - i)=FP l n)) (λi=>l.length - i) 0 ⟨wg,wi,(by rfl)⟩ λv j i e H f=>?_;obtain ⟨r,u,m⟩:=f;have Y:=wa Y r;refine wv (h:=?_);refine wq (λc=>?_) λc=>?_
 .have hst:=fR (KD l n) c;rw [m] at hst;have a:KD l n i=(if l[i]<0\/n<=l[i] then 6 else if 0<i/\l[i]<=l[i - 1]?.getD 0 then 12 else 0):=by simp only [KD,aA c,Option.getD_some]
  have b:i - 1<l.length:=aD;rw [aA b,Option.getD_some] at a;have d:((i:Int) - 1).toNat=i - 1:=aD;have Y:=xa2 Y c d (aA b);refine wv (h:=?_);repeat first|intro _|refine ⟨iS,?_⟩
  refine wq (λq=>?_) λq=>?_
  .rw [if_pos aD] at a;rw [a,if_pos aD] at hst;refine wv (h:=?_);exact g _ _ (.inl (iq hst))
  .rw [if_neg aD] at a;refine wv (h:=?_);repeat first|intro _|refine ⟨iS,?_⟩
   refine wq (λp=>?_) λp=>?_
   .rw [if_pos aD] at a;rw [a,if_pos aD] at hst;refine wv (h:=?_);exact g _ _ (.inl (iq hst))
   .rw [if_neg aD] at a;rw [a,if_neg aD] at hst;refine wv (h:=?_);repeat first|intro _|refine ⟨iS,?_⟩
    exact wx j (i+1) ⟨wg,wj,(hst.symm)⟩
 .refine wv (h:=?_);exact g _ _ (.inl (by rw [<- m,(aD:l.length - i=0)];rfl))
theorem zX (l:V2)(n:Int):Pua 340 [dLI l,dI n] (dI (FP l n)):=by
 refine Tz.p0 func340 rfl λQ g Y=>?_;refine wv (h:=?_);refine bA (λi e H=>(e 0=dLI l/\e 1=dI n/\e 5=dI i)/\(i<=l.length)/\(bW (KD l n) i (l.length - i)=FP l n)) (λi=>l.length - i) 0 ⟨wg,wi,(by rfl)⟩ λv j i e H f=>?_;obtain ⟨r,u,m⟩:=f;have Y:=wa Y r;refine wv (h:=?_);repeat first|intro _|refine ⟨iS,?_⟩
 refine wq (λc=>?_) λc=>?_
 .have hst:=fR (KD l n) c;rw [m] at hst;have a:KD l n i=(if l[i]<0\/n<=l[i] then 6 else if 0<i/\l[i]<=l[i - 1]?.getD 0 then 12 else 0):=by simp only [KD,aA c,Option.getD_some]
  have b:i - 1<l.length:=aD;rw [aA b,Option.getD_some] at a;have d:((i:Int) - 1).toNat=i - 1:=aD;have Y:=xa2 Y c d (aA b);refine wv (h:=?_);repeat first|intro _|refine ⟨iS,?_⟩
  refine wq (λq=>?_) λq=>?_
  .rw [if_pos aD] at a;rw [a,if_pos aD] at hst;refine wv (h:=?_);exact g _ _ (.inl (iq hst))
  .rw [if_neg aD] at a;refine wv (h:=?_);repeat first|intro _|refine ⟨iS,?_⟩
   refine wq (λp=>?_) λp=>?_
   .rw [if_pos aD] at a;rw [a,if_pos aD] at hst;refine wv (h:=?_);exact g _ _ (.inl (iq hst))
   .rw [if_neg aD] at a;rw [a,if_neg aD] at hst;refine wv (h:=?_);repeat first|intro _|refine ⟨iS,?_⟩
    exact wx j (i+1) ⟨wg,wj,(hst.symm)⟩
 .refine wv (h:=?_);exact g _ _ (.inl (by rw [<- m,(aD:l.length - i=0)];rfl))
theorem Mo (l:V2)(v:Int):Pua 341 [dLI l,dI v] (.bool (mem l v)):=by
 refine Tz.p0 func341 rfl λQ m Y=>?_;refine wv (h:=bA (λi e H=>(e 0=dLI l/\e 1=dI v/\e 5=dI i)/\(i<=l.length)/\(∀ j,j<i->l[j]?≠some v)) (λi=>l.length - i) 0 ⟨wg,wi,(by intro j k;omega)⟩ λq f i e H d=>?_);obtain ⟨o,p,a⟩:=d;have Y:=wa Y o;refine wv (h:=?_);repeat first|intro _|refine ⟨iS,?_⟩
 refine wq (λb=>?_) λb=>?_
 .have Y:=wa Y b;refine eP (λg=>?_) λg=>?_
  .refine wv (h:=?_);have c:mem l v=true:=(mem_iff l v).2 (g ▸ aC b);exact m _ _ (iq c)
  .exact wo (h:=wx f (i+1) ⟨wg,wj,(by exact lX a (by rw [aA b];simpa using g))⟩)
 .refine wv (h:=?_);have c:mem l v=false:=by rw [bJ];intro h;obtain ⟨j,k,n⟩:=aO ((mem_iff l v).1 h);exact a j aD (by rw [aA k,n])
  exact m _ _ (iq c)
theorem Gl (l:V2)(v:Int):Pua 194 [dLI l,dI v] (dI (idx l v)):=by
 refine Tz.p0 func194 rfl λQ g Y=>?_;refine wv (h:=bA (λi e H=>(e 0=dLI l/\e 1=dI v/\e 5=dI i)/\(i<=l.length)/\(∀ j,j<i->l[j]?≠some v)) (λi=>l.length - i) 0 ⟨wg,wi,(by intro j k;omega)⟩ λo d i e H c=>?_);obtain ⟨m,n,a⟩:=c;have Y:=wa Y m;refine wv (h:=?_);repeat first|intro _|refine ⟨iS,?_⟩
 refine wq (λb=>?_) λb=>?_
 .have Y:=wa Y b;refine eP (λf=>?_) λf=>?_
  .exact wv (h:=g _ _ (by rw [yB a (by rw [aA b,f])];simp [go_sem]))
  .exact wo (h:=wx d (i+1) ⟨wg,wj,(by exact lX a (by rw [aA b];simpa using f))⟩)
 .exact wv (h:=g _ _ (by rw [Ec λj k=>a j aD];simp [go_sem]))
mutual
theorem l5 {p:Cond->Prop}(h:∀ c:Cond,(∀ k∈c.u,p k)->p c):∀ c:Cond,p c
 | .mk k l m q=>h _ (NB h l)
theorem NB {p:Cond->Prop}(h:∀ c:Cond,(∀ k∈c.u,p k)->p c):∀ l:List Cond,∀ k∈l,p k
 | []=>λk hk=>absurd hk (by simp)
 | c :: l=>λk hk=>by
  rcases aW.1 hk with h1|h1
  ·rw [h1];exact l5 h c
  ·exact NB h l k h1
end
def bareB (c:Cond):Bool:=decide ((c.map.h.length:Int)+c.map.i.length+c.o.j.h.length+c.o.j.i.length+c.o.l.length+c.o.G.length=0)&&decide (c.o.vars=0)
structure Cond.cD (c:Cond):Prop where
 m1:c.map.h.length<=1000000
 m2:c.map.i.length<=1000000
 p1:c.o.j.h.length<=1000000
 p2:c.o.j.i.length<=1000000
 p3:c.o.l.length<=1000000
 p4:c.o.G.length<=1000000
theorem Kk (c:Cond)(a:c.cD):Pua 398 [.agg c.c] (.bool (bareB c)):=by
 obtain ⟨j,i,g,f,e,d⟩:=a;refine Tz.pK ⟨λt=>t==3,λ_=>[]⟩ func398 rfl (λQ b=>?_);have Y:=@Cond.A;have Y:=wa Y @bareB.eq_1;exact wo (h:=b _ _ wy)
theorem JP (xs:List Cond)(g:FuncId)(b:UN)(p:Cond->Bool)(u:D.L b=true)(t:∀ x∈xs,Pure prog g (.agg x.c :: b) (.bool (p x))) :
  Pua 414 [.list (xs.map Cond.c),.fn g b] (dI (Ed xs p)):=by
 refine aX (Tz.c0 func414 rfl ?_);simp [go_sem,seval,dI];intro m;refine gH (ι:=Nat) (λi e H=>H=.as/\i<=xs.length/\e 0=.list (xs.map Cond.c)/\e 1=.fn g b/\e 7=dI xs.length/\e 8=dI i/\(∀ j x,j<i->xs[j]?=some x->p x=false)) (λi=>xs.length - i) 0 ii ?_;intro i e H ⟨v,z,q,o,n,k,l⟩;subst v;simp [go_sem,seval,n,k,dI];refine gK (λd=>?_) (λs=>?_)
 .have hgx:=t xs[i] (aC d);simp [go_sem,seval,q,o,k,dI,dLI,d,Cond.A] at hgx ⊢;refine aB hgx (iq u) ?_;simp [go_sem,seval];refine bB (λh=>?_) (λh=>?_)
  .simp [go_sem,seval];rw [pY l d h]
  .simp [go_sem,seval,q,o,n,k,dI];refine ⟨dW aD aD,i+1,aD,aD,aD,λj x r y=>?_⟩;grind
 .simp [go_sem,seval];rw [pZ λj x r=>l j x aD]
theorem Et (xs:List Cond)(g:FuncId)(a:UN)(p:Cond->Bool)(d:D.L a=true)(e:D.Q (.list (xs.map Cond.c))=true)(f:∀ x∈xs,Pure prog g (.agg x.c :: a) (.bool (p x))) :
  Pua 399 [.list (xs.map Cond.c),.fn g a] (.bool (xs.any p)):=by
 refine aX (Tz.c0 func399 rfl ?_);simp [go_sem,seval];refine aB (JP xs g a p d f) (by simp only [D.L,e,gW];simp [D.Q,d]) ?_;simp [go_sem,seval,dI,sU]
def tN (c:Cond):Bool :=
 if c.D=1 then decide ((c.u.length:Int)=0)&&bareB c
 else if c.D=2 then decide ((c.u.length:Int)=1)&&bareB c
 else if c.D=3\/c.D=4 then decide (1<=(c.u.length:Int))&&bareB c
 else decide (c.D=5)&&decide ((c.u.length:Int)=1)
mutual
def Pi:Cond->Bool
 | .mk k l m p=>tN (.mk k l m p)&&Y4 l
def Y4:List Cond->Bool
 | []=>true
 | c :: l=>Pi c&&Y4 l
end
theorem Y3 (l:List Cond):Y4 l=l.all Pi:=by
 induction l with
 | nil=>rfl
 | cons a l ih=>simp [Y4,ih]
theorem wW (c:Cond):Pi c=(tN c&&c.u.all Pi):=by cases c;simp [Pi,Y3,Cond.u]
mutual
def Cond.ok:Cond->Prop
 | .mk k l m p=>(Cond.mk k l m p).cD/\Cond.d3 l
def Cond.d3:List Cond->Prop
 | []=>True
 | c :: l=>c.ok/\Cond.d3 l
end
theorem Pc (l:List Cond):Cond.d3 l↔∀ c∈l,c.ok:=by
 induction l with
 | nil=>simp [Cond.d3]
 | cons a l ih=>simp [Cond.d3,ih]
theorem s5 (c:Cond):c.ok↔c.cD/\∀ k∈c.u,k.ok:=by cases c;simp [Cond.ok,Pc,Cond.u]
theorem wf1 (c:Cond)(h:Pua 360 [.agg c.c] (.bool (Pi c))):Pua 400 [.agg c.c] (.bool (!Pi c)):=by
 refine Tz.p0 func400 rfl λQ a _=>?_;have Y:=@Cond.A;refine wo (h:=aB ((by simpa [Cond.A,go_sem] using h)) wl ?_);exact wo (h:=a _ _ wy)
theorem Bh:∀ c:Cond,c.ok->Pua 360 [.agg c.c] (.bool (Pi c)):=by
 refine l5 λc s v=>?_;obtain ⟨t,u⟩:=(s5 c).1 v;have a:=Et c.u 400 [] (λk=>!Pi k) rfl eq (λk r=>wf1 k (s k r (u k r)));have e:∀ l:Int,l=c.D->Pua 398 [.agg [dI l,.list (c.u.map Cond.c),dLI c.map.h,dLI c.map.i,dLI c.o.j.h,.list (c.o.j.i.map Edge.c),.list (c.o.l.map Slot.c),dI c.o.vars,.list (c.o.G.map Test.c)]] (.bool (bareB c)):=by
  intro l m;have:=Kk c t;rwa [Cond.A,<- m] at this
 have b:(!(c.u.any λk=>!Pi k))=c.u.all Pi:=by simp [List.not_any_eq_all_not]
 refine Tz.p0 func360 rfl λQ g _=>?_;have Y:=@Cond.A;refine eP (λq=>?_) λq=>?_
 .have Y:=wa Y q;refine wo (h:=aK (λd=>(e _ aD)) (λd=>wl) ?_);refine wo (h:=aK (λd=>a) (λd=>wl) ?_);exact wo (h:=g _ _ (by simp [go_sem,wW,<- b,tN,Y]))
 .have Y:=wa Y q;refine dR (λp=>?_) λp=>?_
  .have Y:=wa Y p;refine wo (h:=aK (λd=>(e _ aD)) (λd=>wl) ?_);refine wo (h:=aK (λd=>a) (λd=>wl) ?_);exact wo (h:=g _ _ (by simp [go_sem,wW,<- b,tN,Y]))
  .have Y:=wa Y p;refine dR (λo=>?_) λo=>?_
   .have Y:=wa Y o;refine wo (h:=aK (λd=>(e _ aD)) (λd=>wl) ?_);refine wo (h:=aK (λd=>a) (λd=>wl) ?_);exact wo (h:=g _ _ (by simp [go_sem,wW,<- b,tN,Y]))
   .have Y:=wa Y o;refine dR (λn=>?_) λn=>?_
    .have Y:=wa Y n;refine wo (h:=aK (λd=>(e _ aD)) (λd=>wl) ?_);refine wo (h:=aK (λd=>a) (λd=>wl) ?_);exact wo (h:=g _ _ (by simp [go_sem,wW,<- b,tN,Y]))
    .have Y:=wa Y n;refine dR (λf=>?_) λf=>?_
     .have Y:=wa Y f;refine wo (h:=aK (λd=>a) (λd=>wl) ?_);exact wo (h:=g _ _ (by simp [go_sem,wW,<- b,tN,Y]))
     .have Y:=wa Y f;refine wo (h:=aK (λd=>a) (λd=>wl) ?_);exact wo (h:=g _ _ (by simp [go_sem,wW,<- b,tN,Y]))
mutual
def Cond.size:Cond->Nat
 | .mk _ l _ _=>1+Cond.aa l
def Cond.aa:List Cond->Nat
 | []=>0
 | c :: l=>c.size+Cond.aa l
end
mutual
def Cond.c4:Cond->Nat
 | .mk k l _ _=>Cond.bg l+(if k=5 then 1 else 0)
def Cond.bg:List Cond->Nat
 | []=>0
 | c :: l=>max c.c4 (Cond.bg l)
end
theorem Ir (l:List Cond)(c:Cond):Cond.aa (l++[c])=Cond.aa l+c.size:=by
 induction l with
 | nil=>simp [Cond.aa]
 | cons a l ih=>simp [Cond.aa,ih];omega
theorem Ng (l:List Cond)(c:Cond):Cond.bg (l++[c])=max (Cond.bg l) c.c4:=by
 induction l with
 | nil=>simp [Cond.bg]
 | cons a l ih=>simp only [dP,Cond.bg,ih];omega
theorem yZ (c:Cond):c.size=1+Cond.aa c.u:=by cases c;simp [Cond.size,Cond.u]
theorem Yp (c:Cond):c.c4=Cond.bg c.u+(if c.D=5 then 1 else 0):=by cases c;rw [Cond.c4];rfl
@[go_sem] theorem adE:Cond.aa []=0:=by simp [Cond.aa]
@[go_sem] theorem agQ:Cond.bg []=0:=by simp [Cond.bg]
theorem Dq {l:List Cond}{c:Cond}(h:c∈l):c.size<=Cond.aa l:=by
 induction l with
 | nil=>cases h
 | cons a l ih =>
  rcases aW.1 h with h1|h1
  .subst h1;simp only [Cond.aa];omega
  .have:=ih h1;simp only [Cond.aa];omega
theorem Iq (l:List Cond)(i:Nat):Cond.aa (l.take i)<=Cond.aa l:=by
 induction l generalizing i with
 | nil=>simp
 | cons a l ih=>cases i with
  | zero=>simp [Cond.aa]
  | succ i=>have:=ih i;simp only [vL,Cond.aa];omega
mutual
theorem TF:∀ c:Cond,c.c4<=c.size
 | .mk k l m p=>by have:=BI l;simp only [Cond.c4,Cond.size];split<;>omega
theorem BI:∀ l:List Cond,Cond.bg l<=Cond.aa l
 | []=>by simp [Cond.bg]
 | c :: l=>by have:=TF c;have:=BI l;simp only [Cond.bg,Cond.aa];omega
end
theorem LB (a b:Nat):(if (a:Int)<(b:Int) then (b:Int) else (a:Int))=((max a b:Nat):Int):=by split<;>omega
theorem Ew:∀ c:Cond,c.size<=1000000->Pua 361 [.agg c.c] (.tup [dI c.size,dI c.c4]):=by
 refine l5 λc A J=>?_;have f:=yZ c;have g:=Yp c;have D:=BI c.u;refine Tz.pK ⟨λt=>t==7,λ_=>[]⟩ func361 rfl (λQ y=>?_);try simp [go_sem,seval,Cond.A]
 repeat first|intro _|refine ⟨iS,?_⟩
 obtain ⟨w,m⟩:∃ w:Nat->eF->AHeap->Prop,∀ (i:Nat) (e:eF) (H:AHeap),w i e H↔((e 1=.adr c.c)/\(e 11=.list (c.u.map Cond.c))/\(e 12=dI c.u.length)/\(e 4=dI ((1+Cond.aa (c.u.take i):Nat):Int))/\(e 5=dI (Cond.bg (c.u.take i):Nat))/\(e 13=dI i)/\(i<=c.u.length)):=⟨λi e H=>_,λ_ _ _=>Iff.rfl⟩;refine Aa w (λi=>c.u.length - i) (0) ((m _ _ _).2 ⟨?_,?_,?_,?_,?_,?_,(by first|assumption|omega|(simp [go_sem,Cond.A];done)|(simp_all;done))⟩) ?_;iterate 6 (first|omega|(simp [go_sem,seval,Cond.A]<;>omega))
 intro i e H r;obtain ⟨p,l,k,d,b,j,I⟩:=(m _ _ _).1 r;have o:=xa2 p l k j;try simp [go_sem,seval,o]
 refine bB (λh=>?_) (λh=>?_)
 .try simp [go_sem] at h
  have C:=Dq (aC h);have F:=TF c.u[i];have q:=List.take_succ_eq_append_getElem h;have s:=Ir (c.u.take i) c.u[i];have u:=Ng (c.u.take i) c.u[i];have B:=Iq c.u (i+1);have x:Cond.aa (c.u.take (i+1))=Cond.aa (c.u.take i)+c.u[i].size:=by rw [q,s]
  have z:Cond.bg (c.u.take (i+1))=max (Cond.bg (c.u.take i)) c.u[i].c4:=by rw [q,u]
  have E:=BI (c.u.take i);try simp [go_sem,seval,Cond.A,o,h]
  repeat first|intro _|refine ⟨iS,?_⟩
  refine aB ((by have:=A _ (aC h) aD;rwa [Cond.A] at this)) (gt) ?_;try simp [go_sem,seval,o,d,b]
  repeat first|intro _|refine ⟨iS,?_⟩
  refine iO (i+1) aD ((m _ _ _).2 ⟨?_,?_,?_,?_,?_,?_,(by first|assumption|omega|(simp [go_sem,Cond.A,o,d,b,h,x,z,LB];done)|(simp_all<;>omega))⟩)<;>first|omega|(simp [go_sem,seval,Cond.A,o,x,z]<;>omega)
 .try simp [go_sem] at h
  have G:c.u.take i=c.u:=aG h;rw [G] at d b;try simp [go_sem,seval,Cond.A,o]
  refine bB (λn=>?_) (λn=>?_)
  .try simp [go_sem] at n
   try simp [go_sem,seval,d,b]
   repeat first|intro _|refine ⟨iS,?_⟩
   exact y _ _ (by first|(left;(simp [go_sem,f,g,n]);done)|(right;(simp [go_sem,f,g,n]);done))
  .try simp [go_sem] at n
   try simp [go_sem,seval,d,b]
   exact y _ _ (by first|(left;(simp [go_sem,f,g,n]);done)|(right;(simp [go_sem,f,g,n]);done))
def uS (c:Cond):Int:=if Pi c=false then 1 else if 12<c.size\/3<c.c4 then 3 else 0
theorem Hk (c:Cond)(e:c.ok)(d:c.size<=1000000):Pua 299 [.agg c.c] (dI (uS c)):=by
 refine Tz.p0 func299 rfl λQ b _=>?_;have Y:=@Cond.A;refine wo (h:=aB ((by have:=Bh c e;rwa [Cond.A] at this)) wl ?_);refine eP (λa=>?_) λa=>?_
 .exact wv (h:=b _ _ (by simp [go_sem,uS,a]))
 .refine wv (h:=aB ((by have:=Ew c d;rwa [Cond.A] at this)) wl ?_);refine eP (λf=>?_) λf=>?_
  .exact wv (h:=b _ _ (by simp [go_sem,uS,a];omega))
  .exact wv (h:=b _ _ (by simp [go_sem,uS,a];omega))
def pT (t:Types)(q:Pattern)(outer:Int):Int :=
 if c9 t q≠9 then c9 t q
 else if ((List.range q.vars.toNat).all λ(v:Nat)=>decide ((v:Int)<outer)||kW q v)=true then 0 else 9
theorem Gy {t:Types}{q:Pattern}{a:Int}(h:c9 t q=9)(c:0<=a)(b:∀ v:Int,a<=v->v<q.vars->kW q v=true):pT t q a=0:=by
 unfold pT;grind
theorem GA {t:Types}{q:Pattern}{a:Int}(h:c9 t q=9)(f:0<=a){v:Int}(e:a<=v)(d:v<q.vars)(c:kW q v=false):pT t q a=9:=by
 unfold pT;rw [if_neg aD,if_neg];intro b;rw [cF] at b;have:=b v.toNat ie;grind
theorem M9 {f:Nat->Int}{m:Int}(h0:(0:Int)≠m)(h:∀ j,f j≠m):∀ n k,bW f k n≠m
 | 0,k=>h0
 | n+1,k=>by unfold bW;split;exact h k;exact M9 h0 h n (k+1)
theorem CZ {f:Nat->Int}{nm:Nat->ByteArray}{last:ByteArray × Int}{m:Int}(h0:last.2≠m)(h:∀ j,f j≠m):∀ n k,(fI f nm last k n).2≠m
 | 0,k=>h0
 | n+1,k=>by unfold fI;split;exact h k;exact CZ h0 h n (k+1)
theorem ME:∀ (r l:List ByteArray),o9 l r≠9
 | [],l=>by simp [o9]
 | s :: r,l=>by
  unfold o9;split
  .decide
  .split
   .decide
   .exact ME r _
theorem V9 (l:List ByteArray):pS l≠9:=by grind [pS, ME]
theorem LQ (x:Attr)(l:List Attr):eD x l≠9:=by
 have:=V9 x.af;unfold eD;grind
theorem XN (t:Types)(i:Nat):i4 t i≠9:=by
 unfold i4;split
 .decide
 .repeat' split
  all_goals first|decide|skip
  refine M9 (by decide) (λj=>?_) _ _;split
  .exact LQ _ _
  .decide
theorem Ym (t:Types)(i:Nat):lF t i≠9:=by grind [lF]
theorem L0 (t:Types):(dG t).2≠9:=by
 unfold dG;split
 .decide
 .split
  .decide
  .exact CZ (CZ (by decide) (Ym t) _ _) (XN t) _ _
theorem C5 (s:Slot)(v:Int):Pua 401 [.agg s.c,.adr [dI v]] (.bool (decide (s.y.O=v))):=by
 refine Tz.p0 func401 rfl λQ a Y=>?_;exact wv (h:=a _ _ wy)
theorem JM (xs:List Slot)(g:FuncId)(b:UN)(p:Slot->Bool)(v:D.L b=true)(u:∀ x∈xs,Pure prog g (.agg x.c :: b) (.bool (p x))) :
  Pua 397 [.list (xs.map Slot.c),.fn g b] (dI (Ed xs p)):=by
 refine aX (Tz.c0 func397 rfl ?_);simp [go_sem,seval,dI];intro n;refine gH (ι:=Nat) (λi e H=>H=.as/\i<=xs.length/\e 0=.list (xs.map Slot.c)/\e 1=.fn g b/\e 7=dI xs.length/\e 8=dI i/\(∀ j x,j<i->xs[j]?=some x->p x=false)) (λi=>xs.length - i) 0 ii ?_;intro i e H ⟨w,y,r,q,o,m,l⟩;subst w;simp [go_sem,seval,o,m,dI];refine gK (λd=>?_) (λt=>?_)
 .have hgx:=u xs[i] (aC d);simp [go_sem,seval,r,q,m,dI,d,Slot.c] at hgx ⊢;refine aB hgx (iq v) ?_;simp [go_sem,seval];refine bB (λh=>?_) (λh=>?_)
  .simp [go_sem,seval];rw [pY l d h]
  .simp [go_sem,seval,r,q,o,m,dI];refine ⟨dW aD aD,i+1,aD,aD,aD,λj x s k=>?_⟩;rcases bX j i with hj'|hj'
   .exact l j x hj' k
   .have:j=i:=aD;subst this;rw [aA d] at k;cases k;exact h
 .simp [go_sem,seval];rw [pZ λj x s=>l j x aD]
theorem wR (xs:List Slot)(g:FuncId)(a:UN)(p:Slot->Bool)(d:D.L a=true)(e:D.Q (.list (xs.map Slot.c))=true)(f:∀ x∈xs,Pure prog g (.agg x.c :: a) (.bool (p x))) :
  Pua 357 [.list (xs.map Slot.c),.fn g a] (.bool (xs.any p)):=by
 refine aX (Tz.c0 func357 rfl ?_);simp [go_sem,seval];refine aB (JM xs g a p d f) (by simp only [D.L,e,gW];simp [D.Q,d]) ?_;simp [go_sem,seval,dI,sU]
theorem l7 {t : Types} {q : Pattern} (h : c9 t q = 9 \/ c9 t q = 0) : 0 <= q.vars /\ q.vars <= 12 := by
  have b := L0 t;unfold c9 at h;by_cases d : (dG t).2 = 0
  · rw [if_neg aD] at h
    by_cases c : graphF q.j = 0
    · rw [if_neg aD] at h
      split at h
      · omega
      · split at h
        · omega
        · rename_i h3; simp [inF] at h3; omega
    · rw [if_pos c] at h
      have h3 : graphF q.j ≠ 9 := by unfold graphF; repeat' split
                                     all_goals decide
      omega
  · grind
theorem Ev (t:Types)(z:t.ok)(q:Pattern)(a:Int)(x:0<=a):Pua 362 [t.d,q.d,dI a] (dI (pT t q a)):=by
 refine Tz.pK ⟨λt=>t==8,λ_=>[]⟩ func362 rfl (λQ n=>?_);have Y:=trivial;refine wv (h:=aB (pN t z q) wl ?_);refine dR (λg=>?_) λg=>?_
 .exact wv (h:=n _ _ (by simp [go_sem,pT,g]))
 .have l:=l7 (.inl g);refine wv (h:=bA (λv e H=>∃ i:Nat,(e 4=.adr q.c/\e 7=dI 9/\e 8=.ptr i 1 0 0)/\(H.get i=some ⟨3,1,[[dI (a+v)]],false⟩)/\(i<H.next)/\(∀ u:Int,a<=u->u<a+v->kW q u=true)) (λv=>(q.vars - a).toNat - v) 0 ⟨0,wg,wn,wn,(by intro u j l;omega)⟩ λC o v e H m=>?_);obtain ⟨i,B,f,b,w⟩:=m;have Y:=xa2 Y B f (bS b);refine dR (λr=>?_) λr=>?_
  .have hOv:(q.l.any λs=>decide (s.y.O=a+v))=kW q (a+v):=rfl;have Y:=xa1 Y r hOv;refine wo (h:=s4 ((wR q.l 401 [.adr [dI (a+v)]] (λs=>decide (s.y.O=a+v)) eq eq (λs _=>C5 s (a+v)))) wr wl rfl ?_);refine eP (λp=>?_) λp=>?_
   .exact wv (h:=n _ _ (by rw [GA g x (v:=a+v) aD r (bY p)];simp [go_sem]))
   .have ho':∀ u:Int,a<=u->u<a+((v+1:Nat):Int)->kW q u=true:=λu j l=>by
     by_cases A:u<a+v
     .exact w u j A
     .rw [(aD:u=a+v)];simpa using p
    exact wo (h:=wx o (v+1) ⟨H.next,wg,wn,wn,(ho')⟩)
  .exact wv (h:=n _ _ (by rw [Gy g x λu j l=>w u j aD];simp [go_sem]))
def kX (t:Types)(p:Pattern)(m:Part)(q:Pattern):Int :=
 if q.vars<p.vars then 20
 else if pT t q p.vars≠0 then pT t q p.vars
 else if eR p.j q.j m≠0 then eR p.j q.j m
 else if BW p.j q.j m=false then 1 else 0
mutual
def sS (t:Types):Pattern->Cond->Int
 | p,.mk k l m q=>if (if k=5 then kX t p m q else 0)≠0 then (if k=5 then kX t p m q else 0) else X6 t (if k=5 then q else p) l
def X6 (t:Types):Pattern->List Cond->Int
 | _,[]=>0
 | p,c :: l=>if sS t p c≠0 then sS t p c else X6 t p l
end
theorem ZE (t:Types)(p:Pattern)(l:List Cond):X6 t p l=iB (sS t p) l:=by
 induction l with
 | nil=>simp [X6,iB]
 | cons a l ih=>simp only [X6,iB,ih]
theorem HL (t:Types)(p:Pattern)(c:Cond):sS t p c=if (if c.D=5 then kX t p c.map c.o else 0)≠0 then (if c.D=5 then kX t p c.map c.o else 0) else iB (sS t (if c.D=5 then c.o else p)) c.u:=by
 cases c;simp only [sS,ZE];rfl
theorem Gz {t:Types}{q:Pattern}{o:Int}(h:pT t q o=0):0<=q.vars/\q.vars<=12:=by
 unfold pT at h;split at h
 .exact l7 (.inr h)
 .rename_i h1;exact l7 (t:=t) (.inl aD)
theorem FH (t:Types)(M:t.ok):∀ (c:Cond) (p:Pattern),0<=p.vars->p.vars<=12->Pua 300 [t.d,p.d,.agg c.c] (dI (sS t p c)):=by
 refine l5 λc G p y E=>?_;have j:=HL t p c;refine Tz.pK ⟨λt=>t==4||t==7||t==11,λ_=>[]⟩ func300 rfl (λQ l=>?_);have Y:=@Cond.A;refine dR (λB=>?_) λB=>?_
 .rw [if_pos B,if_pos B] at j;refine dR (λJ=>?_) λJ=>?_
  .exact wv (h:=l _ _ (by simp [go_sem,j,kX,J]))
  .refine wv (h:=aB (Ev t M c.o p.vars y) wl ?_);refine dR (λv=>?_) λv=>?_
   .exact wv (h:=l _ _ (by simp [go_sem,j,kX,v];omega))
   .refine wv (h:=aB (qW p.j c.o.j c.map) wl ?_);refine dR (λA=>?_) λA=>?_
    .exact wv (h:=l _ _ (by simp [go_sem,j,kX,v,A];omega))
    .have hm:=kS A;have O:=bK hm.1;refine wv (h:=?_);repeat first|intro _|refine ⟨iS,?_⟩
     refine aB (uY p.j c.o.j c.map aD aD) wl ?_;refine wv (h:=?_);repeat first|intro _|refine ⟨iS,?_⟩
     refine wq (λu=>?_) λu=>?_
     .exact wv (h:=l _ _ (by simp [go_sem,j,kX,v,A,u];omega))
     .have hE0:kX t p c.map c.o=0:=by simp [kX,v,A,u];omega
      rw [hE0,if_neg aD] at j;obtain ⟨w,g⟩:=c7 (c.o);have I:=Gz v;have n:0<=w.vars:=by rw [g];exact I.1
      have m:w.vars<=12:=by rw [g];exact I.2
      have r:sS t p c=iB (sS t w) c.u:=by rw [j,g]
      refine wv (h:=?_);repeat first|intro _|refine ⟨iS,?_⟩
      refine bA (λi e H=>(e 3=.adr t.c/\e 5=.adr c.c/\e 51=.list (c.u.map Cond.c)/\e 52=dI c.u.length/\e 4=.ptr 0 1 0 0/\e 53=dI i)/\(H.get 0=some ⟨33,5,[w.c],false⟩)/\(0<H.next)/\(i<=c.u.length)/\(iB (sS t w) (c.u.drop i)=sS t p c)) (λi=>c.u.length - i) 0 ⟨wg,(iq g),wn,wi,(r.symm)⟩ λP q i e H o=>?_;obtain ⟨F,f,b,N,z⟩:=o;have Y:=xa2 Y F f (bS b);refine dR (λa=>?_) λa=>?_
      .have hst:=z;rw [mA _ a] at hst;have Y:=wa Y a;refine wv (h:=?_);repeat first|intro _|refine ⟨iS,?_⟩
       refine aB ((by have:=G _ (aC a) w n m;rwa [Cond.A] at this)) wl ?_;refine wv (h:=?_);repeat first|intro _|refine ⟨iS,?_⟩
       refine wq (λs=>?_) λs=>?_
       .rw [if_pos aD] at hst;exact wv (h:=l _ _ (iq hst))
       .rw [if_neg aD] at hst;refine wv (h:=?_);repeat first|intro _|refine ⟨iS,?_⟩
        exact wx q (i+1) ⟨wg,cl,wn,wj,(hst)⟩
      .exact wv (h:=l _ _ (by rw [<- z,nM _ aD];simp [go_sem]))
 .rw [if_neg B,if_neg aD,if_neg B] at j;obtain ⟨w,g⟩:=c7 (p);have n:0<=w.vars:=by rw [g];exact y
  have m:w.vars<=12:=by rw [g];exact E
  have r:sS t p c=iB (sS t w) c.u:=by rw [j,g]
  refine wv (h:=?_);repeat first|intro _|refine ⟨iS,?_⟩
  refine bA (λi e H=>(e 3=.adr t.c/\e 5=.adr c.c/\e 51=.list (c.u.map Cond.c)/\e 52=dI c.u.length/\e 4=.ptr 0 1 0 0/\e 53=dI i)/\(H.get 0=some ⟨33,5,[w.c],false⟩)/\(0<H.next)/\(i<=c.u.length)/\(iB (sS t w) (c.u.drop i)=sS t p c)) (λi=>c.u.length - i) 0 ⟨wg,(iq g),wn,wi,(r.symm)⟩ λP q i e H o=>?_;obtain ⟨F,f,b,N,z⟩:=o;have Y:=xa2 Y F f (bS b);refine dR (λa=>?_) λa=>?_
  .have hst:=z;rw [mA _ a] at hst;have Y:=wa Y a;refine wv (h:=?_);repeat first|intro _|refine ⟨iS,?_⟩
   refine aB ((by have:=G _ (aC a) w n m;rwa [Cond.A] at this)) wl ?_;refine wv (h:=?_);repeat first|intro _|refine ⟨iS,?_⟩
   refine wq (λs=>?_) λs=>?_
   .rw [if_pos aD] at hst;exact wv (h:=l _ _ (iq hst))
   .rw [if_neg aD] at hst;refine wv (h:=?_);repeat first|intro _|refine ⟨iS,?_⟩
    exact wx q (i+1) ⟨wg,cl,wn,wj,(hst)⟩
  .exact wv (h:=l _ _ (by rw [<- z,nM _ aD];simp [go_sem]))
def condF (t:Types)(p:Pattern)(c:Cond):Int :=
 if c9 t p≠0 then c9 t p else if uS c≠0 then uS c else sS t p c
theorem Ad (t:Types)(f:t.ok)(p:Pattern)(c:Cond)(i:c.ok)(g:c.size<=1000000):Pua 229 [t.d,p.d,.agg c.c] (dI (condF t p c)):=by
 refine Tz.p0 func229 rfl λQ b _=>?_;have Y:=@Cond.A;refine wv (h:=aB (pN t f p) wl ?_);refine dR (λa=>?_) λa=>?_
 .have Y:=xa1 Y a @condF.eq_1;exact wv (h:=b _ _ wy)
 .have hv:=l7 (.inr a);refine wv (h:=aB ((by have:=Hk c i g;rwa [Cond.A] at this)) wl ?_);refine dR (λe=>?_) λe=>?_
  .have Y:=xa2 Y a e @condF.eq_1;exact wv (h:=b _ _ wy)
  .refine wv (h:=aB ((by have:=FH t f c p hv.1 hv.2;rwa [Cond.A] at this)) wl ?_);have Y:=xa2 Y a e @condF.eq_1;exact wv (h:=b _ _ wy)
theorem G7 (a b:Graph)(m:Part):Pua 214 [a.d,b.d,m.d] (.bool (BW a b m)):=by
 refine Tz.p0 func214 rfl λQ e Y=>?_;refine wo (h:=aB (v7 a b m) wl ?_);refine wo (h:=aK (λc=>qM m.h) (λc=>wl) ?_);refine wo (h:=aK (λc=>qM m.i) (λc=>wl) ?_);exact wo (h:=e _ _ (by simp [go_sem,BW,mW]))
theorem Ob (c:Cond)(a:c.cD):Pua 348 [.agg c.c] (.bool (bareB c)):=by
 obtain ⟨j,i,g,f,e,d⟩:=a;refine Tz.p0 func348 rfl λQ b _=>?_;have Y:=@Cond.A;exact wo (h:=b _ _ (by simp [go_sem,bareB];rw [aU];simp;omega))
theorem P9 (c:Cond)(m:c.cD):Pua 279 [.agg c.c] (.bool (tN c)):=by
 have a:∀ e:Int,e=c.D->Pua 348 [.agg [dI e,.list (c.u.map Cond.c),dLI c.map.h,dLI c.map.i,dLI c.o.j.h,.list (c.o.j.i.map Edge.c),.list (c.o.l.map Slot.c),dI c.o.vars,.list (c.o.G.map Test.c)]] (.bool (bareB c)):=by
  intro e f;have:=Ob c m;rwa [Cond.A,<- f] at this
 refine Tz.p0 func279 rfl λQ d _=>?_;have Y:=@Cond.A;refine dR (λl=>?_) λl=>?_
 .have Y:=wa Y l;refine wo (h:=aK (λb=>(a _ aD)) (λb=>wl) ?_);exact wo (h:=d _ _ (by simp [go_sem,tN,Y]))
 .have Y:=wa Y l;refine dR (λk=>?_) λk=>?_
  .have Y:=wa Y k;refine wo (h:=aK (λb=>(a _ aD)) (λb=>wl) ?_);exact wo (h:=d _ _ (by simp [go_sem,tN,Y]))
  .have Y:=wa Y k;refine dR (λj=>?_) λj=>?_
   .have Y:=wa Y j;refine wo (h:=aK (λb=>(a _ aD)) (λb=>wl) ?_);exact wo (h:=d _ _ (by simp [go_sem,tN,Y];rw [aU];simp;omega))
   .have Y:=wa Y j;refine dR (λi=>?_) λi=>?_
    .have Y:=wa Y i;refine wo (h:=aK (λb=>(a _ aD)) (λb=>wl) ?_);exact wo (h:=d _ _ (by simp [go_sem,tN,Y];rw [aU];simp;omega))
    .have Y:=wa Y i;refine dR (λg=>?_) λg=>?_
     .have Y:=wa Y g;exact wo (h:=d _ _ (by simp [go_sem,tN,Y];rw [aU];simp))
     .have Y:=wa Y g;exact wv (h:=d _ _ (by simp [go_sem,tN,Y]))
theorem IO:∀ c:Cond,c.ok->Pua 211 [.agg c.c] (.bool (Pi c)):=by
 refine l5 λc p s=>?_;obtain ⟨q,r⟩:=(s5 c).1 s;have g:=wW c;refine Tz.p0 func211 rfl λQ j _=>?_;have Y:=@Cond.A;refine wo (h:=aB ((by have:=P9 c q;rwa [Cond.A] at this)) wl ?_);refine eP (λd=>?_) λd=>?_
 .exact wv (h:=j _ _ (.inl (iu g d)))
 .refine wv (h:=bA (λi e H=>(e 1=.adr c.c/\e 3=dI i)/\(i<=c.u.length)/\(((c.u.take i).any λk=>!Pi k)=false)) (λi=>c.u.length - i) 0 ⟨wg,wi,(by rfl)⟩ λv l i e H f=>?_);obtain ⟨t,u,o⟩:=f;have Y:=wa Y t;refine wv (h:=?_);repeat first|intro _|refine ⟨iS,?_⟩
  refine wq (λb=>?_) λb=>?_
  .have Y:=wa Y b;refine wo (h:=aB ((by have:=p _ (aC b) (r _ (aC b));rwa [Cond.A] at this)) wl ?_);refine eP (λm=>?_) λm=>?_
   .refine wv (h:=?_);have a:c.u.all Pi=false:=by rw [bJ];intro h;rw [cF] at h;have:=h _ (aC b);rw [m] at this;cases this
    exact j _ _ (.inl (by simp only [go_sem,g,d,a,Bool.and_false]))
   .exact wo (h:=wx l (i+1) ⟨wg,wj,(by rw [eI _ _ _ b,o];simp [m])⟩)
  .refine wv (h:=?_);have n:=pO o b;have a:c.u.all Pi=true:=by simp at n ⊢;exact n
   exact j _ _ (.inl (by simp only [go_sem,g,d,a,Bool.and_true]))
theorem Lp:∀ c:Cond,c.size<=1000000->Pua 212 [.agg c.c] (.tup [dI c.size,dI c.c4]):=by
 refine l5 λc x F=>?_;have f:=yZ c;have g:=Yp c;have A:=BI c.u;refine Tz.p0 func212 rfl λQ v _=>?_;try simp [go_sem,seval,Cond.A]
 obtain ⟨t,j⟩:∃ t:Nat->eF->AHeap->Prop,∀ (i:Nat) (e:eF) (H:AHeap),t i e H↔((e 1=.adr c.c)/\(e 4=dI ((1+Cond.aa (c.u.take i):Nat):Int))/\(e 5=dI (Cond.bg (c.u.take i):Nat))/\(e 6=dI i)/\(i<=c.u.length)):=⟨λi e H=>_,λ_ _ _=>Iff.rfl⟩;refine Aa t (λi=>c.u.length - i) (0) ((j _ _ _).2 ⟨?_,?_,?_,?_,(by first|assumption|omega|(simp [go_sem,Cond.A];done)|(simp_all;done))⟩) ?_;iterate 4 (first|omega|(simp [go_sem,seval,Cond.A]<;>omega))
 intro i e H p;obtain ⟨n,d,b,m,E⟩:=(j _ _ _).1 p;have l:=xa0 n m;try simp [go_sem,seval,Cond.A,l]
 repeat first|intro _|refine ⟨iS,?_⟩
 refine bB (λh=>?_) (λh=>?_)
 .try simp [go_sem] at h
  have z:=Dq (aC h);have C:=TF c.u[i];have o:=List.take_succ_eq_append_getElem h;have q:=Ir (c.u.take i) c.u[i];have r:=Ng (c.u.take i) c.u[i];have y:=Iq c.u (i+1);have u:Cond.aa (c.u.take (i+1))=Cond.aa (c.u.take i)+c.u[i].size:=by rw [o,q]
  have w:Cond.bg (c.u.take (i+1))=max (Cond.bg (c.u.take i)) c.u[i].c4:=by rw [o,r]
  have B:=BI (c.u.take i);try simp [go_sem,seval,Cond.A,l,h]
  repeat first|intro _|refine ⟨iS,?_⟩
  refine aB ((by have:=x _ (aC h) aD;rwa [Cond.A] at this)) (gt) ?_;try simp [go_sem,seval,l,d,b]
  repeat first|intro _|refine ⟨iS,?_⟩
  refine iO (i+1) aD ((j _ _ _).2 ⟨?_,?_,?_,?_,(by first|assumption|omega|(simp [go_sem,Cond.A,l,d,b,h,u,w,LB];done)|(simp_all<;>omega))⟩)<;>first|omega|(simp [go_sem,seval,Cond.A,l,u,w]<;>omega)
 .try simp [go_sem] at h
  have D:c.u.take i=c.u:=aG h;rw [D] at d b;try simp [go_sem,seval,Cond.A,l]
  refine bB (λk=>?_) (λk=>?_)
  .try simp [go_sem] at k
   try simp [go_sem,seval,d,b]
   repeat first|intro _|refine ⟨iS,?_⟩
   exact v _ _ (by first|(left;(simp [go_sem,f,g,k]);done)|(right;(simp [go_sem,f,g,k]);done))
  .try simp [go_sem] at k
   try simp [go_sem,seval,d,b]
   exact v _ _ (by first|(left;(simp [go_sem,f,g,k]);done)|(right;(simp [go_sem,f,g,k]);done))
theorem Qc (c:Cond)(e:c.ok)(d:c.size<=1000000):Pua 133 [.agg c.c] (dI (uS c)):=by
 refine Tz.p0 func133 rfl λQ b _=>?_;have Y:=@Cond.A;refine wo (h:=aB ((by have:=IO c e;rwa [Cond.A] at this)) wl ?_);refine eP (λa=>?_) λa=>?_
 .exact wv (h:=b _ _ (by simp [go_sem,uS,a]))
 .refine wv (h:=aB ((by have:=Lp c d;rwa [Cond.A] at this)) wl ?_);refine eP (λf=>?_) λf=>?_
  .exact wv (h:=b _ _ (by simp [go_sem,uS,a];omega))
  .exact wv (h:=b _ _ (by simp [go_sem,uS,a];omega))
theorem Oc (p:Pattern)(v:Int):Pua 280 [p.d,dI v] (.bool (kW p v)):=by
 refine Tz.p0 func280 rfl λQ l Y=>?_;refine wv (h:=bA (λi e H=>(e 2=.adr p.c/\e 1=dI v/\e 5=dI i)/\(i<=p.l.length)/\(((p.l.take i).any λs=>decide (s.y.O=v))=false)) (λi=>p.l.length - i) 0 ⟨wg,wi,(by rfl)⟩ λo g i e H b=>?_);obtain ⟨m,n,k⟩:=b;have Y:=wa Y m;refine wv (h:=?_);repeat first|intro _|refine ⟨iS,?_⟩
 refine wq (λa=>?_) λa=>?_
 .have Y:=wa Y a;refine eP (λj=>?_) λj=>?_
  .refine wv (h:=?_);have f:kW p v=true:=bF.2 ⟨_,aC a,by simpa using j⟩;exact l _ _ (.inl (by simp only [go_sem,f]))
  .exact wo (h:=wx g (i+1) ⟨wg,wj,(by rw [eI _ _ _ a,k];simpa using j)⟩)
 .refine wv (h:=?_);have f:kW p v=false:=pO k a;exact l _ _ (.inl (by simp only [go_sem,f]))
def wK (t:Types)(o:Int)(q:Pattern):Int:=if q.vars<o then 20 else pT t q o
theorem Qa (t:Types)(x:t.ok)(o:Int)(r:0<=o)(q:Pattern):Pua 213 [t.d,dI o,q.d] (dI (wK t o q)):=by
 refine Tz.p0 func213 rfl λQ f Y=>?_;refine dR (λp=>?_) λp=>?_
 .exact wv (h:=f _ _ (by simp [go_sem,wK,p]))
 .refine wv (h:=aB (vX t x q) wl ?_);refine dR (λa=>?_) λa=>?_
  .exact wv (h:=f _ _ (by simp [go_sem,wK,pT,a];omega))
  .have g:=l7 (.inl a);have n:wK t o q=pT t q o:=by unfold wK;rw [if_neg aD]
   refine wv (h:=bA (λv e H=>(e 5=.adr q.c/\e 7=dI 9/\e 8=dI (o+v))/\(∀ u:Int,o<=u->u<o+v->kW q u=true)) (λv=>(q.vars - o).toNat - v) 0 ⟨wg,(by intro u b g;omega)⟩ λA j v e H i=>?_);obtain ⟨z,m⟩:=i;have Y:=wa Y z;refine dR (λl=>?_) λl=>?_
   .have Y:=wa Y l;refine wo (h:=aB (Oc q _) wl ?_);refine eP (λk=>?_) λk=>?_
    .exact wv (h:=f _ _ (by rw [n,GA a r (v:=o+v) aD l (bY k)];simp [go_sem]))
    .have ho':∀ u:Int,o<=u->u<o+((v+1:Nat):Int)->kW q u=true:=λu b g=>by
      by_cases y:u<o+v
      .exact m u b y
      .rw [(aD:u=o+v)];simpa using k
     exact wo (h:=wx j (v+1) ⟨wg,(ho')⟩)
   .exact wv (h:=f _ _ (by rw [n,Gy a r λu b g=>m u b aD];simp [go_sem]))
theorem SV (t:Types)(G:t.ok):∀ (c:Cond) (p:Pattern),0<=p.vars->p.vars<=12->Pua 134 [t.d,p.d,.agg c.c] (dI (sS t p c)):=by
 refine l5 λc D p u A=>?_;have j:=HL t p c;refine Tz.pK ⟨λt=>t==7,λ_=>[]⟩ func134 rfl (λQ n=>?_);have Y:=@Cond.A;refine dR (λx=>?_) λx=>?_
 .rw [if_pos x,if_pos x] at j;refine wv (h:=aB (Qa t G p.vars u c.o) wl ?_);refine dR (λr=>?_) λr=>?_
  .have hE:kX t p c.map c.o=wK t p.vars c.o:=by
    unfold kX;unfold wK at r ⊢;split
    .rfl
    .rename_i h';rw [if_neg h'] at r;rw [if_pos r]
   exact wv (h:=n _ _ (by rw [j,hE,if_pos aD];simp [go_sem]))
  .have hv0:¬ c.o.vars<p.vars/\pT t c.o p.vars=0:=by
    unfold wK at r;split at r
    .omega
    .exact ⟨by assumption,r⟩
   have F:=hv0.1;have z:=hv0.2;refine wv (h:=aB (v7 p.j c.o.j c.map) wl ?_);refine dR (λy=>?_) λy=>?_
   .exact wv (h:=n _ _ (by simp [go_sem,j,kX,z,y];omega))
   .refine wo (h:=aB (G7 p.j c.o.j c.map) wl ?_);refine eP (λB=>?_) λB=>?_
    .exact wv (h:=n _ _ (by simp [go_sem,j,kX,z,y,B];omega))
    .have hE0:kX t p c.map c.o=0:=by simp [kX,z,y,B];omega
     rw [hE0,if_neg aD] at j;obtain ⟨w,g⟩:=c7 (c.o);have E:=Gz z;have l:0<=w.vars:=by rw [g];exact E.1
     have k:w.vars<=12:=by rw [g];exact E.2
     have q:sS t p c=iB (sS t w) c.u:=by rw [j,g]
     refine wv (h:=bA (λi e H=>(e 3=.adr t.c/\e 5=.adr c.c/\e 7=.ptr 0 1 0 0/\e 10=dI i)/\(H.get 0=some ⟨33,5,[w.c],false⟩)/\(0<H.next)/\(i<=c.u.length)/\(iB (sS t w) (c.u.drop i)=sS t p c)) (λi=>c.u.length - i) 0 ⟨wg,(iq g),wn,wi,(by exact q.symm)⟩ λJ o i e H m=>?_);obtain ⟨C,f,b,I,v⟩:=m;have Y:=xa2 Y C f (bS b);refine wv (h:=?_);repeat first|intro _|refine ⟨iS,?_⟩
     refine wq (λa=>?_) λa=>?_
     .have hst:=v;rw [mA _ a] at hst;have Y:=wa Y a;refine wo (h:=aH ((by have:=D _ (aC a) w l k;rwa [Cond.A] at this)) wl ?_);refine eP (λs=>?_) λs=>?_
      .rw [if_pos aD] at hst;exact wv (h:=n _ _ (iq hst))
      .rw [if_neg aD] at hst;exact wo (h:=wx o (i+1) ⟨wg,cl,wn,wj,(by exact hst)⟩)
     .exact wv (h:=n _ _ (by rw [<- v,nM _ aD];simp [go_sem]))
 .rw [if_neg x,if_neg aD,if_neg x] at j;obtain ⟨w,g⟩:=c7 (p);have l:0<=w.vars:=by rw [g];exact u
  have k:w.vars<=12:=by rw [g];exact A
  have q:sS t p c=iB (sS t w) c.u:=by rw [j,g]
  refine wv (h:=bA (λi e H=>(e 3=.adr t.c/\e 5=.adr c.c/\e 7=.ptr 0 1 0 0/\e 10=dI i)/\(H.get 0=some ⟨33,5,[w.c],false⟩)/\(0<H.next)/\(i<=c.u.length)/\(iB (sS t w) (c.u.drop i)=sS t p c)) (λi=>c.u.length - i) 0 ⟨wg,(iq g),wn,wi,(by exact q.symm)⟩ λJ o i e H m=>?_);obtain ⟨C,f,b,I,v⟩:=m;have Y:=xa2 Y C f (bS b);refine wv (h:=?_);repeat first|intro _|refine ⟨iS,?_⟩
  refine wq (λa=>?_) λa=>?_
  .have hst:=v;rw [mA _ a] at hst;have Y:=wa Y a;refine wo (h:=aH ((by have:=D _ (aC a) w l k;rwa [Cond.A] at this)) wl ?_);refine eP (λs=>?_) λs=>?_
   .rw [if_pos aD] at hst;exact wv (h:=n _ _ (iq hst))
   .rw [if_neg aD] at hst;exact wo (h:=wx o (i+1) ⟨wg,cl,wn,wj,(by exact hst)⟩)
  .exact wv (h:=n _ _ (by rw [<- v,nM _ aD];simp [go_sem]))
theorem Gi (t:Types)(f:t.ok)(p:Pattern)(c:Cond)(i:c.ok)(g:c.size<=1000000):Pua 69 [t.d,p.d,.agg c.c] (dI (condF t p c)):=by
 refine Tz.p0 func69 rfl λQ b _=>?_;have Y:=@Cond.A;refine wv (h:=aB (vX t f p) wl ?_);refine dR (λa=>?_) λa=>?_
 .have Y:=xa1 Y a @condF.eq_1;exact wv (h:=b _ _ wy)
 .have hv:=l7 (.inr a);refine wv (h:=aB ((by have:=Qc c i g;rwa [Cond.A] at this)) wl ?_);refine dR (λe=>?_) λe=>?_
  .have Y:=xa2 Y a e @condF.eq_1;exact wv (h:=b _ _ wy)
  .refine wv (h:=aB ((by have:=SV t f c p hv.1 hv.2;rwa [Cond.A] at this)) wl ?_);have Y:=xa2 Y a e @condF.eq_1;exact wv (h:=b _ _ wy)
theorem tP (a:Int):Pua 332 [dI a] (.bool false):=by
 refine Tz.p0 func332 rfl λQ b Y=>?_;exact wv (h:=b _ _ wy)
theorem BL (a:Int):Pua 369 [dI a] (.bool false):=by
 refine Tz.p0 func369 rfl λQ b Y=>?_;exact wv (h:=b _ _ wy)
theorem Yt (a b:Int):Pua 309 [dI a,dI b] (.bool (decide (a<b))):=by
 refine Tz.p0 func309 rfl λQ d Y=>?_;refine wo (h:=aB (BL a) wl ?_);refine wo (h:=aK (λc=>BL b) (λc=>wl) ?_);exact wo (h:=d _ _ wy)
def pI (l:V2)(v:Int):Nat:=(l.takeWhile λy=>decide (y<v)).length
theorem Un {l:V2}{v:Int}{n:Nat}(h1:∀ j (hj:j<l.length),j<n->l[j]<v)(h2:n<=l.length)(h3:∀ hn:n<l.length,¬ l[n]<v):pI l v=n :=
 wY _ l n (λj x hj hx=>by
  obtain ⟨hjl,rfl⟩:=aQ.1 hx;simpa using h1 j hjl hj) h2 λx hx=>by
  obtain ⟨hjl,rfl⟩:=aQ.1 hx;simpa using h3 hjl
theorem agI (a b:Nat):((a:Int)+(b:Int)).fdiv 2=(((a+b) / 2:Nat):Int):=by grind
theorem wT (l:V2)(v:Int)(F:l.Pairwise (· < ·))(O:l.length<=1000000):Pua 250 [dLI l,dI v] (.tup [dI (pI l v),.bool (mem l v)]):=by
 have n:=dF.1 F;refine Tz.p0 func250 rfl λQ E _=>?_;have Y:=@agI;refine wo (h:=bA (λm e H=>∃ i:Nat,∃ j:Nat,(e 0=dLI l/\e 1=dI v/\e 6=dI l.length/\e 7=dI i/\e 8=dI j)/\(i<=j)/\(j<=l.length)/\(j - i<=m)/\(∀ a (h:a<l.length),a<i->l[a]<v)/\(∀ a (h:a<l.length),j<=a->¬ l[a]<v)) (λm=>m) l.length ⟨0,l.length,wg,aD,aD,aD,(by intro a h k;omega),(by intro a h k;omega)⟩ λR s m e H x=>?_);obtain ⟨i,j,M,P,I,G,A,z⟩:=x;have Y:=wa Y M;refine dR (λt=>?_) λt=>?_
 .have hk:(i+j) / 2<l.length:=aD;have u:(((i:Int)+(j:Int)) / 2).toNat=(i+j) / 2:=aD;have N:=UF (aD:0<=(i:Int)+(j:Int)) (aD:(i:Int)+(j:Int)<=18446744073709551615);have Y:=xa2 Y t u (aA hk);refine wo (h:=aB (Yt _ _) wl ?_);refine eP (λh5=>?_) λh5=>?_
  .obtain ⟨g,y⟩:∃ g:Nat,g=(i+j) / 2+1:=⟨_,rfl⟩;obtain ⟨f,w⟩:∃ f:Nat,f=j:=⟨_,rfl⟩;have r:∀ a (h:a<l.length),a<g->l[a]<v:=λa h k=>by
    rcases bX a ((i+j) / 2) with h1|h1
    .have:=n a _ h hk h1;omega
    .have:a=(i+j) / 2:=aD;subst this;exact h5
   have q:∀ a (h:a<l.length),f<=a->¬ l[a]<v:=λa h k=>z a h aD;exact wo (h:=wx s (m - 1) ⟨g,f,wg,aD,aD,aD,(r),(q)⟩)
  .obtain ⟨g,y⟩:∃ g:Nat,g=i:=⟨_,rfl⟩;obtain ⟨f,w⟩:∃ f:Nat,f=(i+j) / 2:=⟨_,rfl⟩;have r:∀ a (h:a<l.length),a<g->l[a]<v:=λa h k=>A a h aD;have q:∀ a (h:a<l.length),f<=a->¬ l[a]<v:=λa h k=>by
    rcases bX ((i+j) / 2) a with h1|h1
    .have:=n _ a hk h h1;omega
    .have:a=(i+j) / 2:=aD;subst this;omega
   exact wv (h:=wx s (m - 1) ⟨g,f,wg,aD,aD,aD,(r),(q)⟩)
 .have hij:j=i:=aD;have C:pI l v=i:=Un (λa h k=>A a h k) aD (λh=>z i h aD);have D:mem l v=(decide (i<l.length)&&(l[i]?.getD 0==v)):=by
   rw [aU,mem_iff];constructor
   .intro h;obtain ⟨a,h1,K⟩:=aO h;have t:i<=a:=Nat.le_of_not_lt λk=>by have:=A a h1 k;omega
    have J:a=i:=by
     rcases Nat.eq_or_lt_of_le t with h5|h5
     .exact h5.symm
     .have:=n i a aD h1 h5;exact absurd aD (z i aD aD)
    subst J;simp [h1,K]
   .intro h;simp only [aM,decide_eq_true_eq,beq_iff_eq] at h;rw [aA h.1,Option.getD_some] at h;rw [<- h.2];exact aC h.1
  by_cases o:i<l.length
  .have Y:=xa1 Y (aA o) o;refine wo (h:=aK (λp=>tP _) (λp=>wl) ?_);refine wo (h:=aK (λp=>tP _) (λp=>wl) ?_);exact wo (h:=E _ _ (by rw [C,D];simp [go_sem,Y];rw [aU];simp))
  .have Y:=wa Y o;refine wo (h:=aK (λp=>tP _) (λp=>wl) ?_);refine wo (h:=aK (λp=>tP _) (λp=>wl) ?_);exact wo (h:=E _ _ (by rw [C,D];simp [go_sem,Y]))
theorem Dk (l:V2)(v:Int)(a:l.Pairwise (· < ·))(b:l.length<=1000000):Pua 409 [dLI l,dI v] (.bool (mem l v)):=by
 refine Tz.p0 func409 rfl λQ c Y=>?_;refine wv (h:=aB (wT l v a b) wl ?_);exact wv (h:=c _ _ wy)
def Bf (g:Graph)(p:Part)(k:Int):Int:=if (mem p.h (g.i[k.toNat]?.getD cH).w&&mem p.h (g.i[k.toNat]?.getD cH).M)=true then 0 else 14
def sR (g:Graph)(p:Part):Int :=
 if FP p.h g.h.length≠0 then FP p.h g.h.length
 else if FP p.i g.i.length≠0 then FP p.i g.i.length
 else iB (Bf g p) p.i
def subF (g:Graph)(p:Part):Int:=if graphF g≠0 then graphF g else sR g p
theorem KY (g:Graph)(p:Part)(s:p.h.length<=1000000):Pua 378 [g.d,p.d] (dI (sR g p)):=by
 refine Tz.p0 func378 rfl λQ j Y=>?_;refine wv (h:=?_);repeat first|intro _|refine ⟨iS,?_⟩
 refine aB (Ca p.h _) wl ?_;refine wv (h:=?_);repeat first|intro _|refine ⟨iS,?_⟩
 refine wq (λf=>?_) λf=>?_
 .exact wv (h:=j _ _ (by simp [go_sem,sR,f]))
 .refine wv (h:=?_);repeat first|intro _|refine ⟨iS,?_⟩
  refine aB (Ca p.i _) wl ?_;refine wv (h:=?_);repeat first|intro _|refine ⟨iS,?_⟩
  refine wq (λm=>?_) λm=>?_
  .exact wv (h:=j _ _ (by simp [go_sem,sR,f,m]))
  .have hP:sR g p=iB (Bf g p) p.i:=by unfold sR;rw [if_neg (iw f),if_neg (iw m)]
   have r:=(Dc f).2;have n:=(Dc m).1;refine wv (h:=?_);repeat first|intro _|refine ⟨iS,?_⟩
   refine bA (λi e H=>(e 2=.adr g.c/\e 3=.adr p.c/\e 28=dLI p.i/\e 29=dI p.i.length/\e 30=dI i)/\(i<=p.i.length)/\(iB (Bf g p) (p.i.drop i)=sR g p)) (λi=>p.i.length - i) 0 ⟨wg,wi,(hP.symm)⟩ λC q i e H o=>?_;obtain ⟨y,B,v⟩:=o;have Y:=wa Y y;refine dR (λl=>?_) λl=>?_
   .have hst:=v;rw [mA _ l] at hst;have u:=n _ (aC l);have t:p.i[i].toNat<g.i.length:=aD;have k:Bf g p p.i[i]=if (mem p.h g.i[p.i[i].toNat].w&&mem p.h g.i[p.i[i].toNat].M)=true then 0 else 14:=by simp only [Bf,aA t,Option.getD_some]
    have Y:=xa1 Y l (aA t);refine wv (h:=?_);repeat first|intro _|refine ⟨iS,?_⟩
    refine aH (Dk p.h _ r s) wl ?_;refine wv (h:=?_);repeat first|intro _|refine ⟨iS,?_⟩
    refine dM (λx=>Dk p.h _ r s) (λx=>wl) ?_;refine wv (h:=?_);repeat first|intro _|refine ⟨iS,?_⟩
    refine wq (λb=>?_) λb=>?_
    .rw [if_neg (by rcases b with h|h<;>simp [h])] at k;rw [k,if_pos aD] at hst;exact wv (h:=j _ _ (by simp [go_sem,<- hst]))
    .rw [if_pos (iw b)] at k;rw [k,if_neg aD] at hst;refine wv (h:=?_);repeat first|intro _|refine ⟨iS,?_⟩
     exact wx q (i+1) ⟨wg,wj,(hst)⟩
   .exact wv (h:=j _ _ (by rw [<- v,nM _ aD];simp [go_sem]))
theorem AB (g:Graph)(p:Part)(c:p.h.length<=1000000):Pua 327 [g.d,p.d] (dI (subF g p)):=by
 refine Tz.p0 func327 rfl λQ b Y=>?_;refine wv (h:=aB (oA g) wl ?_);refine dR (λa=>?_) λa=>?_
 .have Y:=xa1 Y a @subF.eq_1;exact wv (h:=b _ _ wy)
 .refine wv (h:=aB (KY g p c) wl ?_);have Y:=xa1 Y a @subF.eq_1;exact wv (h:=b _ _ wy)
theorem Qt (g:Graph)(p:Part):Pua 273 [g.d,p.d] (dI (sR g p)):=by
 refine Tz.pK ⟨λt=>t==8,λr=>match r with|10=>[(0,9),(1,9),(2,9),(3,9),(5,9),(6,9),(7,9),(8,9)]|_=>[]⟩ func273 rfl (λQ b=>?_);have Y:=trivial;refine wo (h:=aB (zX p.h _) wl ?_);refine wv (h:=?_);repeat first|intro _|refine ⟨q,?_⟩
 refine wq (λl=>?_) λl=>?_
 .exact wv (h:=b _ _ (by simp [go_sem,sR,l]))
 .refine wo (h:=aB (zX p.i _) wl ?_);refine wv (h:=?_);repeat first|intro _|refine ⟨q,?_⟩
  refine wq (λk=>?_) λk=>?_
  .exact wv (h:=b _ _ (by simp [go_sem,sR,l,k]))
  .have hP:sR g p=iB (Bf g p) p.i:=by unfold sR;rw [if_neg (iw l),if_neg (iw k)]
   have m:=(Dc k).1;refine wv (h:=bA (λi e H=>(e 2=.adr g.c/\e 3=.adr p.c/\e 7=dI i)/\(i<=p.i.length)/\(iB (Bf g p) (p.i.drop i)=sR g p)) (λi=>p.i.length - i) 0 ⟨wg,wi,(hP.symm)⟩ λC o i e H n=>?_);obtain ⟨y,B,v⟩:=n;have Y:=wa Y y;refine wv (h:=?_);repeat first|intro _|refine ⟨q,?_⟩
   refine wq (λj=>?_) λj=>?_
   .have hst:=v;rw [mA _ j] at hst;have u:=m _ (aC j);have s:p.i[i].toNat<g.i.length:=aD;have f:Bf g p p.i[i]=if (mem p.h g.i[p.i[i].toNat].w&&mem p.h g.i[p.i[i].toNat].M)=true then 0 else 14:=by simp only [Bf,aA s,Option.getD_some]
    have Y:=xa1 Y j (aA s);refine wo (h:=aB (Mo p.h _) wl ?_);refine wo (h:=aK (λx=>Mo p.h _) (λx=>wl) ?_);refine wv (h:=?_);repeat first|intro _|refine ⟨q,?_⟩
    refine wq (λa=>?_) λa=>?_
    .rw [if_neg (by rcases a with h|h<;>simp [h])] at f;rw [f,if_pos aD] at hst;exact wv (h:=b _ _ (by simp [go_sem,<- hst]))
    .rw [if_pos (iw a)] at f;rw [f,if_neg aD] at hst;exact wo (h:=wx o (i+1) ⟨wg,wj,(hst)⟩)
   .exact wv (h:=b _ _ (by rw [<- v,nM _ aD];simp [go_sem]))
theorem AP (g:Graph)(p:Part):Pua 193 [g.d,p.d] (dI (subF g p)):=by
 refine Tz.p0 func193 rfl λQ b Y=>?_;refine wv (h:=aB (lP g) wl ?_);refine dR (λa=>?_) λa=>?_
 .have Y:=xa1 Y a @subF.eq_1;exact wv (h:=b _ _ wy)
 .refine wv (h:=aB (Qt g p) wl ?_);have Y:=xa1 Y a @subF.eq_1;exact wv (h:=b _ _ wy)
def gN (g:Graph)(n:Int):Int:=g.h[n.toNat]?.getD 0
def gEd (g:Graph)(p:Part)(k:Int):Edge:=⟨(g.i[k.toNat]?.getD cH).type,pI p.h (g.i[k.toNat]?.getD cH).w,pI p.h (g.i[k.toNat]?.getD cH).M⟩
def cJ (g:Graph)(p:Part):Graph:=if subF g p=0 then ⟨p.h.map (gN g),p.i.map (gEd g p)⟩ else ⟨[],[]⟩
def Gr (g:Graph)(p:Part):Part:=if subF g p=0 then p else ⟨[],[]⟩
theorem nQ {g:Graph}{p:Part}(h:subF g p=0):graphF g=0/\p.h.Pairwise (· < ·)/\(∀ n∈p.h,0<=n/\n<g.h.length)/\∀ k∈p.i,0<=k/\k<g.i.length:=by
 unfold subF sR at h;split at h
 .rename_i h1;exact absurd h h1
 .rename_i h1;split at h
  .rename_i h2;exact absurd h h2
  .rename_i h2;split at h
   .rename_i h3;exact absurd h h3
   .rename_i h3;have a:FP p.h g.h.length=0:=aD;have b:FP p.i g.i.length=0:=aD;exact ⟨aD,(Dc a).2,(Dc a).1,(Dc b).1⟩
theorem j8 {α β:Type}(f:α→β){l:List α}{i:Nat}(h:i<l.length):(l.take (i+1)).map f=(l.take i).map f++[f l[i]]:=by
 rw [List.take_succ_eq_append_getElem h,List.map_append];rfl
theorem lS {α β:Type}(f:α->β){l:List α}{i:Nat}(h:l.length<=i):(l.take i).map f=l.map f:=by
 rw [aG h]
theorem EZ (g:Graph)(p:Part)(hl:p.h.length<=1000000)(hle:p.i.length<=1000000):Pua 296 [g.d,p.d] (.tup [(cJ g p).d,(Gr g p).d,dI (subF g p)]):=by
 refine Tz.pK ⟨λt=>t==4||t==5||t==8||t==13,λr=>match r with|8=>[(0,7),(1,7)]|_=>[]⟩ func296 rfl (λQ hQ=>?_);have Y:=trivial;refine wv (h:=aB (AB g p hl) wl ?_);refine dR (λh2=>?_) λh2=>?_
 .exact wv (h:=hQ _ _ (by simp [go_sem,cJ,Gr,h2]))
 .obtain ⟨hg,hs,hin,hie⟩:=nQ h2;refine wo (h:=l9 (Ghosts.step (Ghosts.refl _) 2 0 0 3 1 _ _ (rfl) rfl rfl rfl) (λi e H=>∃ xs:V2,(e 2=.adr g.c/\e 3=.adr p.c/\e 4=.ptr 0 1 0 0/\e 5=.ptr 1 1 0 0/\e 8=.ptr 2 1 0 0/\e 23=dLI p.h/\e 24=dI p.h.length/\e 25=dI i)/\(H.get 0=some ⟨29,2,[[.nil,.nil]],false⟩)/\(0<H.next)/\(H.get 1=some ⟨36,2,[[.nil,.nil]],false⟩)/\(1<H.next)/\(H.get 2=some ⟨29,2,[[.own 3 xs.length,.nil]],false⟩)/\(2<H.next)/\(H.get 3=some ⟨3,1,xs.map cI,false⟩)/\(3<H.next)/\(i<=p.h.length)/\(xs=(p.h.take i).map (gN g))) (λi=>p.h.length - i) 0 ⟨([]),wg,wn,wn,wn,wn,wn,wn,wn,wn,wi,(by rfl)⟩ λI0 hI0 i e H hi0=>?_);obtain ⟨xs,E0,g0_0,n0_0,g1_0,n1_0,g2_0,n2_0,g3_0,n3_0,hi,hx⟩:=hi0;have Y:=xa8 Y E0 g0_0 (bS n0_0) g1_0 (bS n1_0) g2_0 (bS n2_0) g3_0 (bS n3_0);refine dR (λh6=>?_) λh6=>?_
  .have hin':=hin _ (aC h6);have hk:p.h[i].toNat<g.h.length:=aD;have hxl:xs.length=i:=by rw [hx];simp;omega
   have Y:=xa2 Y h6 (aA hk) @gN.eq_1;exact wo (h:=wx hI0 (i+1) ⟨(xs++[gN g p.h[i]]),wg,wn,wn,wn,wn,wn,wn,wn,wn,wj,(by rw [j8 _ h6,<- hx])⟩)
  .have hX:xs=p.h.map (gN g):=by rw [hx,lS _ aD]
   refine wo (h:=l9 (Ghosts.step (Ghosts.refl _) 2 0 1 145 3 _ _ (g2_0) rfl rfl rfl) (λk e H=>∃ j:Nat,∃ ys:List Edge,(e 2=.adr g.c/\e 3=.adr p.c/\e 4=.ptr 0 1 0 0/\e 5=.ptr 1 1 0 0/\e 8=.ptr 2 1 0 0/\e 41=dLI p.i/\e 42=dI p.i.length/\e 43=dI k)/\(H.get 0=some ⟨29,2,[[.nil,.nil]],false⟩)/\(0<H.next)/\(H.get 1=some ⟨36,2,[[.nil,.nil]],false⟩)/\(1<H.next)/\(H.get 2=some ⟨29,2,[[.own 3 xs.length,.own j ys.length]],false⟩)/\(2<H.next)/\(H.get 3=some ⟨3,1,xs.map cI,false⟩)/\(3<H.next)/\(H.get j=some ⟨145,3,ys.map Edge.c,false⟩)/\(j<H.next)/\(k<=p.i.length)/\(ys=(p.i.take k).map (gEd g p))/\(j≠0)/\(j≠1)/\(j≠2)/\(j≠3)) (λk=>p.i.length - k) 0 ⟨H.next,([]),wg,wn,wn,wn,wn,wn,wn,wn,wn,wn,wn,wi,(by rfl),aD,aD,aD,aD⟩ λI2 hI2 k e H hi2=>?_);obtain ⟨j,ys,E2,g0_2,n0_2,g1_2,n1_2,g2_2,n2_2,g3_2,n3_2,gj_2,nj_2,hk,hy,j0,j1,j2,j3⟩:=hi2;have Y:=xa7 Y E2 g0_2 (bS n0_2) g1_2 (bS n1_2) g2_2 (bS n2_2) (xb0 g3_2 (bS n3_2) gj_2 (bS nj_2) j0 j1 j2 j3 j0.symm j1.symm j2.symm j3.symm);refine dR (λh11=>?_) λh11=>?_
   .have hie':=hie _ (aC h11);have hke:p.i[k].toNat<g.i.length:=aD;have hyl:ys.length=k:=by rw [hy];simp;omega
    have Y:=xa2 Y h11 (aA hke) @gEd.eq_1;refine wo (h:=aB (wT p.h _ hs hl) wl ?_);refine wo (h:=aB (wT p.h _ hs hl) wl ?_);exact wo (h:=wx hI2 (k+1) ⟨j,(ys++[gEd g p p.i[k]]),wg,wn,wn,wn,wn,wn,wn,wn,wn,wn,wn,wj,(by rw [j8 _ h11,<- hy]),wj,wj,wj,wj⟩)
   .have hY:ys=p.i.map (gEd g p):=by rw [hy,lS _ aD]
    refine wv (h:=aH ((gL p.h hl).pure) wl ?_);refine wv (h:=aH ((gL p.i hle).pure) wl ?_);exact wv (h:=hQ _ _ (by simp [go_sem,Y,cJ,Gr,h2,hX,hY]))
end Go.Abs
end
