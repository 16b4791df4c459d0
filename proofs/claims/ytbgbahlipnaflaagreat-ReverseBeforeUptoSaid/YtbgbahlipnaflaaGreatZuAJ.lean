/- Layers 6 (the reference) and 7: morphisms, parts. · Layer 7: -/
import Derived.Test.YtbgbahlipnaflaaGreatZuAG
import Derived.Test.YtbgbahlipnaflaaGreatZuAI
import Derived.Test.YtbgbahlipnaflaaGreatZuAA
set_option linter.unusedVariables false
set_option linter.unusedSimpArgs false
section
set_option maxRecDepth 100000
set_option maxHeartbeats 4000000
open Go Go.Proofs Tryz
namespace Go.Abs
theorem u9 (a b:Graph)(m:Part):Pua 206 [a.d,b.d,m.d] (dI (eK a b m)):=by
 refine Tz.pK ⟨λt=>t==11||t==12,λr=>match r with|21=>[(0,14),(1,14),(3,14),(4,14),(5,14),(6,14),(7,14),(8,14),(10,14),(11,14),(12,14),(13,14),(0,15),(1,15),(3,15),(4,15),(5,15),(6,15),(7,15),(8,15),(10,15),(11,15),(12,15),(13,15),(14,15),(5,16),(6,16),(7,16),(8,16),(10,16),(11,16),(12,16),(13,16)]|_=>[]⟩ func206 rfl (λQ n=>?_);have Y:=trivial;refine wv (h:=?_);refine aB (mM a) wl ?_;refine wv (h:=?_);refine wq (λs=>?_) λs=>?_
 .refine wv (h:=?_);exact n _ _ (.inl (by simp [go_sem,eK,s]))
 .refine wv (h:=?_);refine aB (mM b) wl ?_;refine wv (h:=?_);refine wq (λx=>?_) λx=>?_
  .refine wv (h:=?_);exact n _ _ (.inl (by simp [go_sem,eK,s,x]))
  .refine wv (h:=?_);repeat first|intro _|refine ⟨iI,?_⟩
   refine wq (λP=>?_) λP=>?_
   .refine wv (h:=?_);exact n _ _ (.inl (by simp [go_sem,eK,s,x,(aD:m.h.length≠a.h.length\/m.j.length≠a.j.length)]))
   .have y:eK a b m=(if bV (lI a b m) 0 a.h.length≠0 then bV (lI a b m) 0 a.h.length else bV (mapEE a b m) 0 a.j.length):=by
     unfold eK;rw [if_neg (by simp [s]),if_neg (by simp [x]),if_neg aD]
    have O:=bI s;have N:=bI x;have A:=(dX s).2;refine wv (h:=?_);refine bC (λi e H=>(e 3=.adr a.c/\e 4=.adr b.c/\e 5=.adr m.c/\e 9=dI i)/\(i<=a.h.length)/\(bV (lI a b m) i (a.h.length - i)=bV (lI a b m) 0 a.h.length)) (λi=>a.h.length - i) 0 ⟨wg,wi,(by rfl)⟩ λX E i e H C=>?_;obtain ⟨S,V,J⟩:=C;have Y:=wa Y S;refine wv (h:=?_);repeat first|intro _|refine ⟨iI,?_⟩
    refine wq (λo=>?_) λo=>?_
    .have hn:i<m.h.length:=aD;have f:=fN (lI a b m) o;rw [J] at f;have j:lI a b m i=(if m.h[i]<0\/(b.h.length:Int)<=m.h[i] then 6 else if b.h[m.h[i].toNat]?.getD 0≠a.h[i] then 13 else 0):=by simp only [lI,aA o,aA hn,Option.getD_some]
     have Y:=xa1 Y o hn;refine wv (h:=?_);repeat first|intro _|refine ⟨iI,?_⟩
     refine wq (λI=>?_) λI=>?_
     .rw [if_pos aD] at j;rw [j,if_pos aD] at f;refine wv (h:=?_);exact n _ _ (.inl (by simp [go_sem,y,f]))
     .have hkb:m.h[i].toNat<b.h.length:=aD;rw [if_neg aD,aA hkb,Option.getD_some] at j;have Y:=wa Y (aA hkb);refine wv (h:=?_);repeat first|intro _|refine ⟨iI,?_⟩
      refine wq (λu=>?_) λu=>?_
      .rw [if_pos u] at j;rw [j,if_pos aD] at f;refine wv (h:=?_);exact n _ _ (.inl (by simp [go_sem,y,f]))
      .rw [if_neg (bZ u)] at j;rw [j,if_neg aD] at f;refine wv (h:=?_);repeat first|intro _|refine ⟨iI,?_⟩
       exact wx E (i+1) ⟨wg,wj,(f.symm)⟩
    .have hN0:bV (lI a b m) 0 a.h.length=0:=by rw [<- J,(aD:a.h.length - i=0)];rfl
     rw [hN0,if_neg aD] at y;refine wv (h:=?_);refine bC (λk e H=>(e 3=.adr a.c/\e 4=.adr b.c/\e 5=.adr m.c/\e 10=dI k)/\(k<=a.j.length)/\(bV (mapEE a b m) k (a.j.length - k)=eK a b m)) (λk=>a.j.length - k) 0 ⟨wg,wi,(y.symm)⟩ λW D k e H B=>?_;obtain ⟨R,U,K⟩:=B;have Y:=wa Y R;refine wv (h:=?_);repeat first|intro _|refine ⟨iI,?_⟩
     refine wq (λl=>?_) λl=>?_
     .have hn:k<m.j.length:=aD;have f:=fN (mapEE a b m) l;rw [K] at f;have T:=A _ (aC l);have w:a.j[k].w.toNat<m.h.length:=aD;have v:a.j[k].M.toNat<m.h.length:=aD;have g:mapEE a b m k=(if m.j[k]<0\/(b.j.length:Int)<=m.j[k] then 6 else if a.j[k].type≠(b.j[m.j[k].toNat]?.getD cY).type then 13 else if m.h[a.j[k].w.toNat]≠(b.j[m.j[k].toNat]?.getD cY).w\/m.h[a.j[k].M.toNat]≠(b.j[m.j[k].toNat]?.getD cY).M then 11 else 0):=by
       simp only [mapEE,aA l,aA hn,Option.getD_some,aA w,aA v]
      have Y:=xa3 Y l hn (aA w) (aA v);refine wv (h:=?_);repeat first|intro _|refine ⟨iI,?_⟩
      refine wq (λG=>?_) λG=>?_
      .rw [if_pos aD] at g;rw [g,if_pos aD] at f;refine wv (h:=?_);exact n _ _ (.inl (by simp [go_sem,<- f]))
      .have hkb:m.j[k].toNat<b.j.length:=aD;rw [if_neg aD,aA hkb,Option.getD_some] at g;have Y:=wa Y (aA hkb);refine wv (h:=?_);repeat first|intro _|refine ⟨iI,?_⟩
       refine wq (λq=>?_) λq=>?_
       .rw [if_pos q] at g;rw [g,if_pos aD] at f;refine wv (h:=?_);exact n _ _ (.inl (by simp [go_sem,<- f]))
       .rw [if_neg (bZ q)] at g;refine wv (h:=?_);repeat first|intro _|refine ⟨iI,?_⟩
        refine wq (λF=>?_) λF=>?_
        .rw [if_pos aD] at g;rw [g,if_pos aD] at f;refine wv (h:=?_);exact n _ _ (.inl (by simp [go_sem,<- f]))
        .rw [if_neg aD] at g;rw [g,if_neg aD] at f;refine wv (h:=?_);repeat first|intro _|refine ⟨iI,?_⟩
         exact wx D (k+1) ⟨wg,wj,(f.symm)⟩
     .refine wv (h:=?_);exact n _ _ (.inl (by rw [<- K,(aD:a.j.length - k=0)];rfl))
theorem qA (l:V2):Pua 125 [dLI l] (.bool (decide l.Nodup)):=by
 refine Tz.p0 func125 rfl λQ s Y=>?_;refine wv (h:=bC (λi e H=>(e 0=dLI l/\e 3=dI i)/\(i<=l.length)/\(∀ (a b:Nat) (d:b<l.length),b<i->(c:a<b)->l[a]≠l[b])) (λi=>l.length - i) 0 ⟨wg,wi,(by intro a b d h;omega)⟩ λB o i e H j=>?_);obtain ⟨w,y,r⟩:=j;have Y:=wa Y w;refine wv (h:=?_);repeat first|intro _|refine ⟨iI,?_⟩
 refine wq (λu=>?_) λu=>?_
 .have Y:=wa Y u;refine wv (h:=bC (λk e H=>(e 0=dLI l/\e 3=dI i/\e 4=dI k)/\(k<=i)/\(∀ a,a<k->l[a]?≠some l[i])) (λk=>i - k) 0 ⟨wg,wi,(by intro a h;omega)⟩ λA n k e H g=>?_);obtain ⟨v,x,q⟩:=g;have Y:=wa Y v;refine dR (λt=>?_) λt=>?_
  .have hkl:k<l.length:=aD;have Y:=xa1 Y t hkl;refine eJ (λp=>?_) λp=>?_
   .refine wv (h:=?_);have f:¬ l.Nodup:=λh=>by
     have:=(jZ h).1 p;omega
    exact s _ _ (by simp [go_sem,f])
   .exact wo (h:=wx n (k+1) ⟨wg,wj,(by exact lM q (by rw [aA hkl];simpa using λm=>p m.symm))⟩)
  .have hd':∀ (a b:Nat) (d:b<l.length),b<i+1->(c:a<b)->l[a]≠l[b]:=λa b d h c=>by
    rcases bX b i with h'|h'
    .exact r a b d h' c
    .have:b=i:=aD;subst this;exact λm=>q a aD (by rw [aA aD,m])
   exact wo (h:=wx o (i+1) ⟨wg,wj,(by exact hd')⟩)
 .refine wv (h:=?_);have f:l.Nodup:=by
   rw [eR,dD];exact λa b z d c=>r a b d aD c
  exact s _ _ (by simp [go_sem,f])
def IJ (l:V2)(n:Int)(i:Nat):Int :=
 if l[i]?.getD 0<0\/n<=l[i]?.getD 0 then 6 else if 0<i/\l[i]?.getD 0<=l[i - 1]?.getD 0 then 12 else 0
def Ey (l:V2)(n:Int):Int:=bV (IJ l n) 0 l.length
theorem eZ {f:Nat->Int}:∀ (n k:Nat),bV f k n=0->∀ j,k<=j->j<k+n->f j=0
 | 0,k,_=>λj h1 h2=>by omega
 | n+1,k,h=>λj h1 h2=>by
  unfold bV at h;split at h
  .rename_i hne;exact absurd h hne
  .rename_i hz;rcases Nat.eq_or_lt_of_le h1 with h3|h3
   .subst h3;exact aY λhne=>hz hne
   .exact eZ n (k+1) h j h3 aD
theorem Cj {l:V2}{n:Int}(h:Ey l n=0):(∀ x∈l,0<=x/\x<n)/\l.Pairwise (· < ·):=by
 have b:=eZ _ _ h;have e:∀ i (a:i<l.length),(0<=l[i]/\l[i]<n)/\(∀ h0:0<i,l[i - 1]<l[i]):=λi a=>by
  have:=b i aD aD;unfold IJ at this;grind
 refine ⟨λx c=>?_,dD.2 λi j a f d=>?_⟩
 .obtain ⟨i,a,rfl⟩:=aN c;exact (e i a).1
 .induction j with
  | zero=>omega
  | succ j ih =>
   grind
theorem Bh (l:V2)(n:Int):Pua 408 [dLI l,dI n] (dI (Ey l n)):=by
 refine Tz.p0 func408 rfl λQ g Y=>?_;refine wv (h:=?_);repeat first|intro _|refine ⟨iI,?_⟩
 refine bC (λi e H=>(e 0=dLI l/\e 1=dI n/\e 7=dLI l/\e 8=dI l.length/\e 9=dI i)/\(i<=l.length)/\(bV (IJ l n) i (l.length - i)=Ey l n)) (λi=>l.length - i) 0 ⟨wg,wi,(by rfl)⟩ λv j i e H f=>?_;obtain ⟨r,u,m⟩:=f;have Y:=wa Y r;refine wv (h:=?_);refine wq (λc=>?_) λc=>?_
 .have hst:=fN (IJ l n) c;rw [m] at hst;have a:IJ l n i=(if l[i]<0\/n<=l[i] then 6 else if 0<i/\l[i]<=l[i - 1]?.getD 0 then 12 else 0):=by simp only [IJ,aA c,Option.getD_some]
  have b:i - 1<l.length:=aD;rw [aA b,Option.getD_some] at a;have d:((i:Int) - 1).toNat=i - 1:=aD;have Y:=xa2 Y c d (aA b);refine wv (h:=?_);repeat first|intro _|refine ⟨iI,?_⟩
  refine wq (λq=>?_) λq=>?_
  .rw [if_pos aD] at a;rw [a,if_pos aD] at hst;refine wv (h:=?_);exact g _ _ (.inl (by simp [go_sem,hst]))
  .rw [if_neg aD] at a;refine wv (h:=?_);repeat first|intro _|refine ⟨iI,?_⟩
   refine wq (λp=>?_) λp=>?_
   .rw [if_pos aD] at a;rw [a,if_pos aD] at hst;refine wv (h:=?_);exact g _ _ (.inl (by simp [go_sem,hst]))
   .rw [if_neg aD] at a;rw [a,if_neg aD] at hst;refine wv (h:=?_);repeat first|intro _|refine ⟨iI,?_⟩
    exact wx j (i+1) ⟨wg,wj,(hst.symm)⟩
 .refine wv (h:=?_);exact g _ _ (.inl (by rw [<- m,(aD:l.length - i=0)];rfl))
theorem yV (l:V2)(n:Int):Pua 340 [dLI l,dI n] (dI (Ey l n)):=by
 refine Tz.p0 func340 rfl λQ g Y=>?_;refine wv (h:=?_);refine bC (λi e H=>(e 0=dLI l/\e 1=dI n/\e 5=dI i)/\(i<=l.length)/\(bV (IJ l n) i (l.length - i)=Ey l n)) (λi=>l.length - i) 0 ⟨wg,wi,(by rfl)⟩ λv j i e H f=>?_;obtain ⟨r,u,m⟩:=f;have Y:=wa Y r;refine wv (h:=?_);repeat first|intro _|refine ⟨iI,?_⟩
 refine wq (λc=>?_) λc=>?_
 .have hst:=fN (IJ l n) c;rw [m] at hst;have a:IJ l n i=(if l[i]<0\/n<=l[i] then 6 else if 0<i/\l[i]<=l[i - 1]?.getD 0 then 12 else 0):=by simp only [IJ,aA c,Option.getD_some]
  have b:i - 1<l.length:=aD;rw [aA b,Option.getD_some] at a;have d:((i:Int) - 1).toNat=i - 1:=aD;have Y:=xa2 Y c d (aA b);refine wv (h:=?_);repeat first|intro _|refine ⟨iI,?_⟩
  refine wq (λq=>?_) λq=>?_
  .rw [if_pos aD] at a;rw [a,if_pos aD] at hst;refine wv (h:=?_);exact g _ _ (.inl (by simp [go_sem,hst]))
  .rw [if_neg aD] at a;refine wv (h:=?_);repeat first|intro _|refine ⟨iI,?_⟩
   refine wq (λp=>?_) λp=>?_
   .rw [if_pos aD] at a;rw [a,if_pos aD] at hst;refine wv (h:=?_);exact g _ _ (.inl (by simp [go_sem,hst]))
   .rw [if_neg aD] at a;rw [a,if_neg aD] at hst;refine wv (h:=?_);repeat first|intro _|refine ⟨iI,?_⟩
    exact wx j (i+1) ⟨wg,wj,(hst.symm)⟩
 .refine wv (h:=?_);exact g _ _ (.inl (by rw [<- m,(aD:l.length - i=0)];rfl))
theorem Kj (l:V2)(v:Int):Pua 341 [dLI l,dI v] (.bool (mem l v)):=by
 refine Tz.p0 func341 rfl λQ m Y=>?_;refine wv (h:=bC (λi e H=>(e 0=dLI l/\e 1=dI v/\e 5=dI i)/\(i<=l.length)/\(∀ j,j<i->l[j]?≠some v)) (λi=>l.length - i) 0 ⟨wg,wi,(by intro j k;omega)⟩ λq f i e H d=>?_);obtain ⟨o,p,a⟩:=d;have Y:=wa Y o;refine wv (h:=?_);repeat first|intro _|refine ⟨iI,?_⟩
 refine wq (λb=>?_) λb=>?_
 .have Y:=wa Y b;refine eJ (λg=>?_) λg=>?_
  .refine wv (h:=?_);have c:mem l v=true:=(mem_iff l v).2 (g ▸ aC b);exact m _ _ (by simp [go_sem,c])
  .exact wo (h:=wx f (i+1) ⟨wg,wj,(by exact lM a (by rw [aA b];simpa using g))⟩)
 .refine wv (h:=?_);have c:mem l v=false:=by rw [bK];intro h;obtain ⟨j,k,n⟩:=aN ((mem_iff l v).1 h);exact a j aD (by rw [aA k,n])
  exact m _ _ (by simp [go_sem,c])
theorem EW (l:V2)(v:Int):Pua 194 [dLI l,dI v] (dI (idx l v)):=by
 refine Tz.p0 func194 rfl λQ g Y=>?_;refine wv (h:=bC (λi e H=>(e 0=dLI l/\e 1=dI v/\e 5=dI i)/\(i<=l.length)/\(∀ j,j<i->l[j]?≠some v)) (λi=>l.length - i) 0 ⟨wg,wi,(by intro j k;omega)⟩ λo d i e H c=>?_);obtain ⟨m,n,a⟩:=c;have Y:=wa Y m;refine wv (h:=?_);repeat first|intro _|refine ⟨iI,?_⟩
 refine wq (λb=>?_) λb=>?_
 .have Y:=wa Y b;refine eJ (λf=>?_) λf=>?_
  .exact wv (h:=g _ _ (by rw [w4 a (by rw [aA b,f])];simp [go_sem]))
  .exact wo (h:=wx d (i+1) ⟨wg,wj,(by exact lM a (by rw [aA b];simpa using f))⟩)
 .exact wv (h:=g _ _ (by rw [Dd λj k=>a j aD];simp [go_sem]))
theorem s4 (a:Int):Pua 332 [dI a] (.bool false):=by
 refine Tz.p0 func332 rfl λQ b Y=>?_;exact wv (h:=b _ _ wy)
theorem AY (a:Int):Pua 369 [dI a] (.bool false):=by
 refine Tz.p0 func369 rfl λQ b Y=>?_;exact wv (h:=b _ _ wy)
theorem Vj (a b:Int):Pua 309 [dI a,dI b] (.bool (decide (a<b))):=by
 refine Tz.p0 func309 rfl λQ d Y=>?_;refine wo (h:=aB (AY a) wl ?_);refine wo (h:=aH (λc=>AY b) (λc=>wl) ?_);exact wo (h:=d _ _ wy)
def oZ (l:V2)(v:Int):Nat:=(l.takeWhile λy=>decide (y<v)).length
theorem RH {l:V2}{v:Int}{n:Nat}(h1:∀ j (hj:j<l.length),j<n->l[j]<v)(h2:n<=l.length)(h3:∀ hn:n<l.length,¬ l[n]<v):oZ l v=n :=
 vW _ l n (λj x hj hx=>by
  obtain ⟨hjl,rfl⟩:=aO.1 hx;simpa using h1 j hjl hj) h2 λx hx=>by
  obtain ⟨hjl,rfl⟩:=aO.1 hx;simpa using h3 hjl
theorem abE (a b:Nat):((a:Int)+(b:Int)).fdiv 2=(((a+b) / 2:Nat):Int):=by grind
theorem vR (l:V2)(v:Int)(F:l.Pairwise (· < ·))(O:l.length<=1000000):Pua 250 [dLI l,dI v] (.tup [dI (oZ l v),.bool (mem l v)]):=by
 have n:=dD.1 F;refine Tz.p0 func250 rfl λQ E _=>?_;have Y:=@abE;refine wo (h:=bC (λm e H=>∃ i:Nat,∃ j:Nat,(e 0=dLI l/\e 1=dI v/\e 6=dI l.length/\e 7=dI i/\e 8=dI j)/\(i<=j)/\(j<=l.length)/\(j - i<=m)/\(∀ a (h:a<l.length),a<i->l[a]<v)/\(∀ a (h:a<l.length),j<=a->¬ l[a]<v)) (λm=>m) l.length ⟨0,l.length,wg,aD,aD,aD,(by intro a h k;omega),(by intro a h k;omega)⟩ λR s m e H x=>?_);obtain ⟨i,j,M,P,I,G,A,z⟩:=x;have Y:=wa Y M;refine dR (λt=>?_) λt=>?_
 .have hk:(i+j) / 2<l.length:=aD;have u:(((i:Int)+(j:Int)) / 2).toNat=(i+j) / 2:=aD;have N:=RW (aD:0<=(i:Int)+(j:Int)) (aD:(i:Int)+(j:Int)<=18446744073709551615);have Y:=xa2 Y t u (aA hk);refine wo (h:=aB (Vj _ _) wl ?_);refine eJ (λh5=>?_) λh5=>?_
  .obtain ⟨g,y⟩:∃ g:Nat,g=(i+j) / 2+1:=⟨_,rfl⟩;obtain ⟨f,w⟩:∃ f:Nat,f=j:=⟨_,rfl⟩;have r:∀ a (h:a<l.length),a<g->l[a]<v:=λa h k=>by
    rcases bX a ((i+j) / 2) with h1|h1
    .have:=n a _ h hk h1;omega
    .have:a=(i+j) / 2:=aD;subst this;exact h5
   have q:∀ a (h:a<l.length),f<=a->¬ l[a]<v:=λa h k=>z a h aD;exact wo (h:=wx s (m - 1) ⟨g,f,wg,aD,aD,aD,(r),(q)⟩)
  .obtain ⟨g,y⟩:∃ g:Nat,g=i:=⟨_,rfl⟩;obtain ⟨f,w⟩:∃ f:Nat,f=(i+j) / 2:=⟨_,rfl⟩;have r:∀ a (h:a<l.length),a<g->l[a]<v:=λa h k=>A a h aD;have q:∀ a (h:a<l.length),f<=a->¬ l[a]<v:=λa h k=>by
    rcases bX ((i+j) / 2) a with h1|h1
    .have:=n _ a hk h h1;omega
    .have:a=(i+j) / 2:=aD;subst this;omega
   exact wv (h:=wx s (m - 1) ⟨g,f,wg,aD,aD,aD,(r),(q)⟩)
 .have hij:j=i:=aD;have C:oZ l v=i:=RH (λa h k=>A a h k) aD (λh=>z i h aD);have D:mem l v=(decide (i<l.length)&&(l[i]?.getD 0==v)):=by
   rw [aT,mem_iff];constructor
   .intro h;obtain ⟨a,h1,K⟩:=aN h;have t:i<=a:=Nat.le_of_not_lt λk=>by have:=A a h1 k;omega
    have J:a=i:=by
     rcases Nat.eq_or_lt_of_le t with h5|h5
     .exact h5.symm
     .have:=n i a aD h1 h5;exact absurd aD (z i aD aD)
    subst J;simp [h1,K]
   .intro h;simp only [aL,decide_eq_true_eq,beq_iff_eq] at h;rw [aA h.1,Option.getD_some] at h;rw [<- h.2];exact aC h.1
  by_cases o:i<l.length
  .have Y:=xa1 Y (aA o) o;refine wo (h:=aH (λp=>s4 _) (λp=>wl) ?_);refine wo (h:=aH (λp=>s4 _) (λp=>wl) ?_);exact wo (h:=E _ _ (by rw [C,D];simp [go_sem,Y];rw [aT];simp))
  .have Y:=wa Y o;refine wo (h:=aH (λp=>s4 _) (λp=>wl) ?_);refine wo (h:=aH (λp=>s4 _) (λp=>wl) ?_);exact wo (h:=E _ _ (by rw [C,D];simp [go_sem,Y]))
theorem Cs (l:V2)(v:Int)(a:l.Pairwise (· < ·))(b:l.length<=1000000):Pua 409 [dLI l,dI v] (.bool (mem l v)):=by
 refine Tz.p0 func409 rfl λQ c Y=>?_;refine wv (h:=aB (vR l v a b) wl ?_);exact wv (h:=c _ _ wy)
def Aw (g:Graph)(p:Part)(k:Int):Int:=if (mem p.h (g.j[k.toNat]?.getD cY).w&&mem p.h (g.j[k.toNat]?.getD cY).M)=true then 0 else 14
def sA (g:Graph)(p:Part):Int :=
 if Ey p.h g.h.length≠0 then Ey p.h g.h.length
 else if Ey p.j g.j.length≠0 then Ey p.j g.j.length
 else g5 (Aw g p) p.j
def subF (g:Graph)(p:Part):Int:=if graphF g≠0 then graphF g else sA g p
theorem I7 (g:Graph)(p:Part)(s:p.h.length<=1000000):Pua 378 [g.d,p.d] (dI (sA g p)):=by
 refine Tz.p0 func378 rfl λQ j Y=>?_;refine wv (h:=?_);repeat first|intro _|refine ⟨iI,?_⟩
 refine aB (Bh p.h _) wl ?_;refine wv (h:=?_);repeat first|intro _|refine ⟨iI,?_⟩
 refine wq (λf=>?_) λf=>?_
 .exact wv (h:=j _ _ (by simp [go_sem,sA,f]))
 .refine wv (h:=?_);repeat first|intro _|refine ⟨iI,?_⟩
  refine aB (Bh p.j _) wl ?_;refine wv (h:=?_);repeat first|intro _|refine ⟨iI,?_⟩
  refine wq (λm=>?_) λm=>?_
  .exact wv (h:=j _ _ (by simp [go_sem,sA,f,m]))
  .have hP:sA g p=g5 (Aw g p) p.j:=by unfold sA;rw [if_neg (by simp [f]),if_neg (by simp [m])]
   have r:=(Cj f).2;have n:=(Cj m).1;refine wv (h:=?_);repeat first|intro _|refine ⟨iI,?_⟩
   refine bC (λi e H=>(e 2=.adr g.c/\e 3=.adr p.c/\e 28=dLI p.j/\e 29=dI p.j.length/\e 30=dI i)/\(i<=p.j.length)/\(g5 (Aw g p) (p.j.drop i)=sA g p)) (λi=>p.j.length - i) 0 ⟨wg,wi,(hP.symm)⟩ λC q i e H o=>?_;obtain ⟨y,B,v⟩:=o;have Y:=wa Y y;refine dR (λl=>?_) λl=>?_
   .have hst:=v;rw [lS _ l] at hst;have u:=n _ (aC l);have t:p.j[i].toNat<g.j.length:=aD;have k:Aw g p p.j[i]=if (mem p.h g.j[p.j[i].toNat].w&&mem p.h g.j[p.j[i].toNat].M)=true then 0 else 14:=by simp only [Aw,aA t,Option.getD_some]
    have Y:=xa1 Y l (aA t);refine wv (h:=?_);repeat first|intro _|refine ⟨iI,?_⟩
    refine aI (Cs p.h _ r s) wl ?_;refine wv (h:=?_);repeat first|intro _|refine ⟨iI,?_⟩
    refine dJ (λx=>Cs p.h _ r s) (λx=>wl) ?_;refine wv (h:=?_);repeat first|intro _|refine ⟨iI,?_⟩
    refine wq (λb=>?_) λb=>?_
    .rw [if_neg (by rcases b with h|h<;>simp [h])] at k;rw [k,if_pos aD] at hst;exact wv (h:=j _ _ (by simp [go_sem,<- hst]))
    .rw [if_pos (by simp [b])] at k;rw [k,if_neg aD] at hst;refine wv (h:=?_);repeat first|intro _|refine ⟨iI,?_⟩
     exact wx q (i+1) ⟨wg,wj,(hst)⟩
   .exact wv (h:=j _ _ (by rw [<- v,nA _ aD];simp [go_sem]))
theorem zR (g:Graph)(p:Part)(c:p.h.length<=1000000):Pua 327 [g.d,p.d] (dI (subF g p)):=by
 refine Tz.p0 func327 rfl λQ b Y=>?_;refine wv (h:=aB (nW g) wl ?_);refine dR (λa=>?_) λa=>?_
 .have Y:=xa1 Y a @subF.eq_1;exact wv (h:=b _ _ wy)
 .refine wv (h:=aB (I7 g p c) wl ?_);have Y:=xa1 Y a @subF.eq_1;exact wv (h:=b _ _ wy)
theorem Ok (g:Graph)(p:Part):Pua 273 [g.d,p.d] (dI (sA g p)):=by
 refine Tz.pK ⟨λt=>t==8,λr=>match r with|10=>[(0,9),(1,9),(2,9),(3,9),(5,9),(6,9),(7,9),(8,9)]|_=>[]⟩ func273 rfl (λQ b=>?_);have Y:=trivial;refine wo (h:=aB (yV p.h _) wl ?_);refine wv (h:=?_);repeat first|intro _|refine ⟨q,?_⟩
 refine wq (λl=>?_) λl=>?_
 .exact wv (h:=b _ _ (by simp [go_sem,sA,l]))
 .refine wo (h:=aB (yV p.j _) wl ?_);refine wv (h:=?_);repeat first|intro _|refine ⟨q,?_⟩
  refine wq (λk=>?_) λk=>?_
  .exact wv (h:=b _ _ (by simp [go_sem,sA,l,k]))
  .have hP:sA g p=g5 (Aw g p) p.j:=by unfold sA;rw [if_neg (by simp [l]),if_neg (by simp [k])]
   have m:=(Cj k).1;refine wv (h:=bC (λi e H=>(e 2=.adr g.c/\e 3=.adr p.c/\e 7=dI i)/\(i<=p.j.length)/\(g5 (Aw g p) (p.j.drop i)=sA g p)) (λi=>p.j.length - i) 0 ⟨wg,wi,(hP.symm)⟩ λC o i e H n=>?_);obtain ⟨y,B,v⟩:=n;have Y:=wa Y y;refine wv (h:=?_);repeat first|intro _|refine ⟨q,?_⟩
   refine wq (λj=>?_) λj=>?_
   .have hst:=v;rw [lS _ j] at hst;have u:=m _ (aC j);have s:p.j[i].toNat<g.j.length:=aD;have f:Aw g p p.j[i]=if (mem p.h g.j[p.j[i].toNat].w&&mem p.h g.j[p.j[i].toNat].M)=true then 0 else 14:=by simp only [Aw,aA s,Option.getD_some]
    have Y:=xa1 Y j (aA s);refine wo (h:=aB (Kj p.h _) wl ?_);refine wo (h:=aH (λx=>Kj p.h _) (λx=>wl) ?_);refine wv (h:=?_);repeat first|intro _|refine ⟨q,?_⟩
    refine wq (λa=>?_) λa=>?_
    .rw [if_neg (by rcases a with h|h<;>simp [h])] at f;rw [f,if_pos aD] at hst;exact wv (h:=b _ _ (by simp [go_sem,<- hst]))
    .rw [if_pos (by simp [a])] at f;rw [f,if_neg aD] at hst;exact wo (h:=wx o (i+1) ⟨wg,wj,(hst)⟩)
   .exact wv (h:=b _ _ (by rw [<- v,nA _ aD];simp [go_sem]))
theorem Ad (g:Graph)(p:Part):Pua 193 [g.d,p.d] (dI (subF g p)):=by
 refine Tz.p0 func193 rfl λQ b Y=>?_;refine wv (h:=aB (mM g) wl ?_);refine dR (λa=>?_) λa=>?_
 .have Y:=xa1 Y a @subF.eq_1;exact wv (h:=b _ _ wy)
 .refine wv (h:=aB (Ok g p) wl ?_);have Y:=xa1 Y a @subF.eq_1;exact wv (h:=b _ _ wy)
def gN (g:Graph)(n:Int):Int:=g.h[n.toNat]?.getD 0
def gEd (g:Graph)(p:Part)(k:Int):Edge:=⟨(g.j[k.toNat]?.getD cY).type,oZ p.h (g.j[k.toNat]?.getD cY).w,oZ p.h (g.j[k.toNat]?.getD cY).M⟩
def cO (g:Graph)(p:Part):Graph:=if subF g p=0 then ⟨p.h.map (gN g),p.j.map (gEd g p)⟩ else ⟨[],[]⟩
def E9 (g:Graph)(p:Part):Part:=if subF g p=0 then p else ⟨[],[]⟩
theorem nE {g:Graph}{p:Part}(h:subF g p=0):graphF g=0/\p.h.Pairwise (· < ·)/\(∀ n∈p.h,0<=n/\n<g.h.length)/\∀ k∈p.j,0<=k/\k<g.j.length:=by
 unfold subF sA at h;split at h
 .rename_i h1;exact absurd h h1
 .rename_i h1;split at h
  .rename_i h2;exact absurd h h2
  .rename_i h2;split at h
   .rename_i h3;exact absurd h h3
   .rename_i h3;have a:Ey p.h g.h.length=0:=aD;have b:Ey p.j g.j.length=0:=aD;exact ⟨aD,(Cj a).2,(Cj a).1,(Cj b).1⟩
theorem j5 {α β:Type}(f:α→β){l:List α}{i:Nat}(h:i<l.length):(l.take (i+1)).map f=(l.take i).map f++[f l[i]]:=by
 rw [List.take_succ_eq_append_getElem h,List.map_append];rfl
theorem lH {α β:Type}(f:α->β){l:List α}{i:Nat}(h:l.length<=i):(l.take i).map f=l.map f:=by
 rw [aG h]
theorem DY (g:Graph)(p:Part)(hl:p.h.length<=1000000)(hle:p.j.length<=1000000):Pua 296 [g.d,p.d] (.tup [(cO g p).d,(E9 g p).d,dI (subF g p)]):=by
 refine Tz.pK ⟨λt=>t==4||t==5||t==8||t==13,λr=>match r with|8=>[(0,7),(1,7)]|_=>[]⟩ func296 rfl (λQ hQ=>?_);have Y:=trivial;refine wv (h:=aB (zR g p hl) wl ?_);refine dR (λh2=>?_) λh2=>?_
 .exact wv (h:=hQ _ _ (by simp [go_sem,cO,E9,h2]))
 .obtain ⟨hg,hs,hin,hie⟩:=nE h2;refine wo (h:=rE (Ghosts.step (Ghosts.refl _) 2 0 0 3 1 _ _ (rfl) rfl rfl rfl) (λi e H=>∃ xs:V2,(e 2=.adr g.c/\e 3=.adr p.c/\e 4=.ptr 0 1 0 0/\e 5=.ptr 1 1 0 0/\e 8=.ptr 2 1 0 0/\e 23=dLI p.h/\e 24=dI p.h.length/\e 25=dI i)/\(H.get 0=some ⟨29,2,[[.nil,.nil]],false⟩)/\(0<H.next)/\(H.get 1=some ⟨36,2,[[.nil,.nil]],false⟩)/\(1<H.next)/\(H.get 2=some ⟨29,2,[[.own 3 xs.length,.nil]],false⟩)/\(2<H.next)/\(H.get 3=some ⟨3,1,xs.map cI,false⟩)/\(3<H.next)/\(i<=p.h.length)/\(xs=(p.h.take i).map (gN g))) (λi=>p.h.length - i) 0 ⟨([]),wg,wn,wn,wn,wn,wn,wn,wn,wn,wi,(by rfl)⟩ λI0 hI0 i e H hi0=>?_);obtain ⟨xs,E0,g0_0,n0_0,g1_0,n1_0,g2_0,n2_0,g3_0,n3_0,hi,hx⟩:=hi0;have Y:=xa8 Y E0 g0_0 (cW n0_0) g1_0 (cW n1_0) g2_0 (cW n2_0) g3_0 (cW n3_0);refine dR (λh6=>?_) λh6=>?_
  .have hin':=hin _ (aC h6);have hk:p.h[i].toNat<g.h.length:=aD;have hxl:xs.length=i:=by rw [hx];simp;omega
   have Y:=xa2 Y h6 (aA hk) @gN.eq_1;exact wo (h:=wx hI0 (i+1) ⟨(xs++[gN g p.h[i]]),wg,wn,wn,wn,wn,wn,wn,wn,wn,wj,(by rw [j5 _ h6,<- hx])⟩)
  .have hX:xs=p.h.map (gN g):=by rw [hx,lH _ aD]
   refine wo (h:=rE (Ghosts.step (Ghosts.refl _) 2 0 1 145 3 _ _ (g2_0) rfl rfl rfl) (λk e H=>∃ j:Nat,∃ ys:List Edge,(e 2=.adr g.c/\e 3=.adr p.c/\e 4=.ptr 0 1 0 0/\e 5=.ptr 1 1 0 0/\e 8=.ptr 2 1 0 0/\e 41=dLI p.j/\e 42=dI p.j.length/\e 43=dI k)/\(H.get 0=some ⟨29,2,[[.nil,.nil]],false⟩)/\(0<H.next)/\(H.get 1=some ⟨36,2,[[.nil,.nil]],false⟩)/\(1<H.next)/\(H.get 2=some ⟨29,2,[[.own 3 xs.length,.own j ys.length]],false⟩)/\(2<H.next)/\(H.get 3=some ⟨3,1,xs.map cI,false⟩)/\(3<H.next)/\(H.get j=some ⟨145,3,ys.map Edge.c,false⟩)/\(j<H.next)/\(k<=p.j.length)/\(ys=(p.j.take k).map (gEd g p))/\(j≠0)/\(j≠1)/\(j≠2)/\(j≠3)) (λk=>p.j.length - k) 0 ⟨H.next,([]),wg,wn,wn,wn,wn,wn,wn,wn,wn,wn,wn,wi,(by rfl),aD,aD,aD,aD⟩ λI2 hI2 k e H hi2=>?_);obtain ⟨j,ys,E2,g0_2,n0_2,g1_2,n1_2,g2_2,n2_2,g3_2,n3_2,gj_2,nj_2,hk,hy,j0,j1,j2,j3⟩:=hi2;have Y:=xa7 Y E2 g0_2 (cW n0_2) g1_2 (cW n1_2) g2_2 (cW n2_2) (xb0 g3_2 (cW n3_2) gj_2 (cW nj_2) j0 j1 j2 j3 j0.symm j1.symm j2.symm j3.symm);refine dR (λh11=>?_) λh11=>?_
   .have hie':=hie _ (aC h11);have hke:p.j[k].toNat<g.j.length:=aD;have hyl:ys.length=k:=by rw [hy];simp;omega
    have Y:=xa2 Y h11 (aA hke) @gEd.eq_1;refine wo (h:=aB (vR p.h _ hs hl) wl ?_);refine wo (h:=aB (vR p.h _ hs hl) wl ?_);exact wo (h:=wx hI2 (k+1) ⟨j,(ys++[gEd g p p.j[k]]),wg,wn,wn,wn,wn,wn,wn,wn,wn,wn,wn,wj,(by rw [j5 _ h11,<- hy]),wj,wj,wj,wj⟩)
   .have hY:ys=p.j.map (gEd g p):=by rw [hy,lH _ aD]
    refine wv (h:=aI ((gG p.h hl).pure) wl ?_);refine wv (h:=aI ((gG p.j hle).pure) wl ?_);exact wv (h:=hQ _ _ (by simp [go_sem,Y,cO,E9,h2,hX,hY]))
mutual
theorem jU {p:Cond->Prop}(h:∀ c:Cond,(∀ k∈c.u,p k)->p c):∀ c:Cond,p c
 | .mk k l m q=>h _ (Ls h l)
theorem Ls {p:Cond->Prop}(h:∀ c:Cond,(∀ k∈c.u,p k)->p c):∀ l:List Cond,∀ k∈l,p k
 | []=>λk hk=>absurd hk (by simp)
 | c :: l=>λk hk=>by
  rcases aV.1 hk with h1|h1
  ·rw [h1];exact jU h c
  ·exact Ls h l k h1
end
def bareB (c:Cond):Bool:=decide ((c.map.h.length:Int)+c.map.j.length+c.l.i.h.length+c.l.i.j.length+c.l.o.length+c.l.E.length=0)&&decide (c.l.vars=0)
structure Cond.cu (c:Cond):Prop where
 m1:c.map.h.length<=1000000
 m2:c.map.j.length<=1000000
 p1:c.l.i.h.length<=1000000
 p2:c.l.i.j.length<=1000000
 p3:c.l.o.length<=1000000
 p4:c.l.E.length<=1000000
theorem It (c:Cond)(a:c.cu):Pua 398 [.agg c.c] (.bool (bareB c)):=by
 obtain ⟨j,i,g,f,e,d⟩:=a;refine Tz.pK ⟨λt=>t==3,λ_=>[]⟩ func398 rfl (λQ b=>?_);have Y:=@Cond.x;have Y:=wa Y @bareB.eq_1;exact wo (h:=b _ _ wy)
theorem HX (xs:List Cond)(g:FuncId)(b:UN)(p:Cond->Bool)(u:D.J b=true)(t:∀ x∈xs,Pure prog g (.agg x.c :: b) (.bool (p x))) :
  Pua 414 [.list (xs.map Cond.c),.fn g b] (dI (Eg xs p)):=by
 refine aU (Tz.c0 func414 rfl ?_);simp [go_sem,seval,dI];intro m;refine gF (ι:=Nat) (λi e H=>H=.as/\i<=xs.length/\e 0=.list (xs.map Cond.c)/\e 1=.fn g b/\e 7=dI xs.length/\e 8=dI i/\(∀ j x,j<i->xs[j]?=some x->p x=false)) (λi=>xs.length - i) 0 (by simp [go_sem,seval,dI]) ?_;intro i e H ⟨v,z,q,o,n,k,l⟩;subst v;simp [go_sem,seval,n,k,dI];refine gP (λd=>?_) (λs=>?_)
 .have hgx:=t xs[i] (aC d);simp [go_sem,seval,q,o,k,dI,dLI,d,Cond.x] at hgx ⊢;refine aB hgx (by simp [go_sem,u]) ?_;simp [go_sem,seval];refine bA (λh=>?_) (λh=>?_)
  .simp [go_sem,seval];rw [rH l d h]
  .simp [go_sem,seval,q,o,n,k,dI];refine ⟨dU aD aD,i+1,aD,aD,aD,λj x r y=>?_⟩;grind
 .simp [go_sem,seval];rw [rI λj x r=>l j x aD]
theorem Dq (xs:List Cond)(g:FuncId)(a:UN)(p:Cond->Bool)(d:D.J a=true)(e:D.Q (.list (xs.map Cond.c))=true)(f:∀ x∈xs,Pure prog g (.agg x.c :: a) (.bool (p x))) :
  Pua 399 [.list (xs.map Cond.c),.fn g a] (.bool (xs.any p)):=by
 refine aU (Tz.c0 func399 rfl ?_);simp [go_sem,seval];refine aB (HX xs g a p d f) (by simp only [D.J,e,iH];simp [D.Q,d]) ?_;simp [go_sem,seval,dI,uB]
def sY (c:Cond):Bool :=
 if c.B=1 then decide ((c.u.length:Int)=0)&&bareB c
 else if c.B=2 then decide ((c.u.length:Int)=1)&&bareB c
 else if c.B=3\/c.B=4 then decide (1<=(c.u.length:Int))&&bareB c
 else decide (c.B=5)&&decide ((c.u.length:Int)=1)
mutual
def Nh:Cond->Bool
 | .mk k l m p=>sY (.mk k l m p)&&VS l
def VS:List Cond->Bool
 | []=>true
 | c :: l=>Nh c&&VS l
end
theorem VR (l:List Cond):VS l=l.all Nh:=by
 induction l with
 | nil=>rfl
 | cons a l ih=>simp [VS,ih]
theorem vV (c:Cond):Nh c=(sY c&&c.u.all Nh):=by cases c;simp [Nh,VR,Cond.u]
mutual
def Cond.ok:Cond->Prop
 | .mk k l m p=>(Cond.mk k l m p).cu/\Cond.dv l
def Cond.dv:List Cond->Prop
 | []=>True
 | c :: l=>c.ok/\Cond.dv l
end
theorem M8 (l:List Cond):Cond.dv l↔∀ c∈l,c.ok:=by
 induction l with
 | nil=>simp [Cond.dv]
 | cons a l ih=>simp [Cond.dv,ih]
theorem sH (c:Cond):c.ok↔c.cu/\∀ k∈c.u,k.ok:=by cases c;simp [Cond.ok,M8,Cond.u]
theorem wf1 (c:Cond)(h:Pua 360 [.agg c.c] (.bool (Nh c))):Pua 400 [.agg c.c] (.bool (!Nh c)):=by
 refine Tz.p0 func400 rfl λQ a _=>?_;have Y:=@Cond.x;refine wo (h:=aB ((by simpa [Cond.x,go_sem] using h)) wl ?_);exact wo (h:=a _ _ wy)
theorem Ay:∀ c:Cond,c.ok->Pua 360 [.agg c.c] (.bool (Nh c)):=by
 refine jU λc s v=>?_;obtain ⟨t,u⟩:=(sH c).1 v;have a:=Dq c.u 400 [] (λk=>!Nh k) rfl (by simp [go_sem]) (λk r=>wf1 k (s k r (u k r)));have e:∀ l:Int,l=c.B->Pua 398 [.agg [dI l,.list (c.u.map Cond.c),dLI c.map.h,dLI c.map.j,dLI c.l.i.h,.list (c.l.i.j.map Edge.c),.list (c.l.o.map Slot.c),dI c.l.vars,.list (c.l.E.map Test.c)]] (.bool (bareB c)):=by
  intro l m;have:=It c t;rwa [Cond.x,<- m] at this
 have b:(!(c.u.any λk=>!Nh k))=c.u.all Nh:=by simp [List.not_any_eq_all_not]
 refine Tz.p0 func360 rfl λQ g _=>?_;have Y:=@Cond.x;refine eJ (λq=>?_) λq=>?_
 .have Y:=wa Y q;refine wo (h:=aH (λd=>(e _ aD)) (λd=>wl) ?_);refine wo (h:=aH (λd=>a) (λd=>wl) ?_);exact wo (h:=g _ _ (by simp [go_sem,vV,<- b,sY,Y]))
 .have Y:=wa Y q;refine dR (λp=>?_) λp=>?_
  .have Y:=wa Y p;refine wo (h:=aH (λd=>(e _ aD)) (λd=>wl) ?_);refine wo (h:=aH (λd=>a) (λd=>wl) ?_);exact wo (h:=g _ _ (by simp [go_sem,vV,<- b,sY,Y]))
  .have Y:=wa Y p;refine dR (λo=>?_) λo=>?_
   .have Y:=wa Y o;refine wo (h:=aH (λd=>(e _ aD)) (λd=>wl) ?_);refine wo (h:=aH (λd=>a) (λd=>wl) ?_);exact wo (h:=g _ _ (by simp [go_sem,vV,<- b,sY,Y]))
   .have Y:=wa Y o;refine dR (λn=>?_) λn=>?_
    .have Y:=wa Y n;refine wo (h:=aH (λd=>(e _ aD)) (λd=>wl) ?_);refine wo (h:=aH (λd=>a) (λd=>wl) ?_);exact wo (h:=g _ _ (by simp [go_sem,vV,<- b,sY,Y]))
    .have Y:=wa Y n;refine dR (λf=>?_) λf=>?_
     .have Y:=wa Y f;refine wo (h:=aH (λd=>a) (λd=>wl) ?_);exact wo (h:=g _ _ (by simp [go_sem,vV,<- b,sY,Y]))
     .have Y:=wa Y f;refine wo (h:=aH (λd=>a) (λd=>wl) ?_);exact wo (h:=g _ _ (by simp [go_sem,vV,<- b,sY,Y]))
mutual
def Cond.size:Cond->Nat
 | .mk _ l _ _=>1+Cond.ac l
def Cond.ac:List Cond->Nat
 | []=>0
 | c :: l=>c.size+Cond.ac l
end
mutual
def Cond.cD:Cond->Nat
 | .mk k l _ _=>Cond.bf l+(if k=5 then 1 else 0)
def Cond.bf:List Cond->Nat
 | []=>0
 | c :: l=>max c.cD (Cond.bf l)
end
theorem GY (l:List Cond)(c:Cond):Cond.ac (l++[c])=Cond.ac l+c.size:=by
 induction l with
 | nil=>simp [Cond.ac]
 | cons a l ih=>simp [Cond.ac,ih];omega
theorem K9 (l:List Cond)(c:Cond):Cond.bf (l++[c])=max (Cond.bf l) c.cD:=by
 induction l with
 | nil=>simp [Cond.bf]
 | cons a l ih=>simp only [dN,Cond.bf,ih];omega
theorem xU (c:Cond):c.size=1+Cond.ac c.u:=by cases c;simp [Cond.size,Cond.u]
theorem Vf (c:Cond):c.cD=Cond.bf c.u+(if c.B=5 then 1 else 0):=by cases c;rw [Cond.cD];rfl
@[go_sem] theorem YJ:Cond.ac []=0:=by simp [Cond.ac]
@[go_sem] theorem abM:Cond.bf []=0:=by simp [Cond.bf]
theorem Cx {l:List Cond}{c:Cond}(h:c∈l):c.size<=Cond.ac l:=by
 induction l with
 | nil=>cases h
 | cons a l ih =>
  rcases aV.1 h with h1|h1
  .subst h1;simp only [Cond.ac];omega
  .have:=ih h1;simp only [Cond.ac];omega
theorem GX (l:List Cond)(i:Nat):Cond.ac (l.take i)<=Cond.ac l:=by
 induction l generalizing i with
 | nil=>simp
 | cons a l ih=>cases i with
  | zero=>simp [Cond.ac]
  | succ i=>have:=ih i;simp only [uO,Cond.ac];omega
mutual
theorem Q2:∀ c:Cond,c.cD<=c.size
 | .mk k l m p=>by have:=AW l;simp only [Cond.cD,Cond.size];split<;>omega
theorem AW:∀ l:List Cond,Cond.bf l<=Cond.ac l
 | []=>by simp [Cond.bf]
 | c :: l=>by have:=Q2 c;have:=AW l;simp only [Cond.bf,Cond.ac];omega
end
theorem JA (a b:Nat):(if (a:Int)<(b:Int) then (b:Int) else (a:Int))=((max a b:Nat):Int):=by split<;>omega
theorem Dt:∀ c:Cond,c.size<=1000000->Pua 361 [.agg c.c] (.tup [dI c.size,dI c.cD]):=by
 refine jU λc A J=>?_;have f:=xU c;have g:=Vf c;have D:=AW c.u;refine Tz.pK ⟨λt=>t==7,λ_=>[]⟩ func361 rfl (λQ y=>?_);try simp [go_sem,seval,Cond.x]
 repeat first|intro _|refine ⟨iI,?_⟩
 obtain ⟨w,m⟩:∃ w:Nat->eB->AHeap->Prop,∀ (i:Nat) (e:eB) (H:AHeap),w i e H↔((e 1=.adr c.c)/\(e 11=.list (c.u.map Cond.c))/\(e 12=dI c.u.length)/\(e 4=dI ((1+Cond.ac (c.u.take i):Nat):Int))/\(e 5=dI (Cond.bf (c.u.take i):Nat))/\(e 13=dI i)/\(i<=c.u.length)):=⟨λi e H=>_,λ_ _ _=>Iff.rfl⟩;refine yY w (λi=>c.u.length - i) (0) ((m _ _ _).2 ⟨?_,?_,?_,?_,?_,?_,(by first|assumption|omega|(simp [go_sem,Cond.x];done)|(simp_all;done))⟩) ?_;iterate 6 (first|omega|(simp [go_sem,seval,Cond.x]<;>omega))
 intro i e H r;obtain ⟨p,l,k,d,b,j,I⟩:=(m _ _ _).1 r;have o:=xa2 p l k j;try simp [go_sem,seval,o]
 refine bA (λh=>?_) (λh=>?_)
 .try simp [go_sem] at h
  have C:=Cx (aC h);have F:=Q2 c.u[i];have q:=List.take_succ_eq_append_getElem h;have s:=GY (c.u.take i) c.u[i];have u:=K9 (c.u.take i) c.u[i];have B:=GX c.u (i+1);have x:Cond.ac (c.u.take (i+1))=Cond.ac (c.u.take i)+c.u[i].size:=by rw [q,s]
  have z:Cond.bf (c.u.take (i+1))=max (Cond.bf (c.u.take i)) c.u[i].cD:=by rw [q,u]
  have E:=AW (c.u.take i);try simp [go_sem,seval,Cond.x,o,h]
  repeat first|intro _|refine ⟨iI,?_⟩
  refine aB ((by have:=A _ (aC h) aD;rwa [Cond.x] at this)) ((by first|rfl|(simp [go_sem];done))) ?_;try simp [go_sem,seval,o,d,b]
  repeat first|intro _|refine ⟨iI,?_⟩
  refine iW (i+1) aD ((m _ _ _).2 ⟨?_,?_,?_,?_,?_,?_,(by first|assumption|omega|(simp [go_sem,Cond.x,o,d,b,h,x,z,JA];done)|(simp_all<;>omega))⟩)<;>first|omega|(simp [go_sem,seval,Cond.x,o,x,z]<;>omega)
 .try simp [go_sem] at h
  have G:c.u.take i=c.u:=aG h;rw [G] at d b;try simp [go_sem,seval,Cond.x,o]
  refine bA (λn=>?_) (λn=>?_)
  .try simp [go_sem] at n
   try simp [go_sem,seval,d,b]
   repeat first|intro _|refine ⟨iI,?_⟩
   exact y _ _ (by first|(left;(simp [go_sem,f,g,n]);done)|(right;(simp [go_sem,f,g,n]);done))
  .try simp [go_sem] at n
   try simp [go_sem,seval,d,b]
   exact y _ _ (by first|(left;(simp [go_sem,f,g,n]);done)|(right;(simp [go_sem,f,g,n]);done))
def tW (c:Cond):Int:=if Nh c=false then 1 else if 12<c.size\/3<c.cD then 3 else 0
theorem F7 (c:Cond)(e:c.ok)(d:c.size<=1000000):Pua 299 [.agg c.c] (dI (tW c)):=by
 refine Tz.p0 func299 rfl λQ b _=>?_;have Y:=@Cond.x;refine wo (h:=aB ((by have:=Ay c e;rwa [Cond.x] at this)) wl ?_);refine eJ (λa=>?_) λa=>?_
 .exact wv (h:=b _ _ (by simp [go_sem,tW,a]))
 .refine wv (h:=aB ((by have:=Dt c d;rwa [Cond.x] at this)) wl ?_);refine eJ (λf=>?_) λf=>?_
  .exact wv (h:=b _ _ (by simp [go_sem,tW,a];omega))
  .exact wv (h:=b _ _ (by simp [go_sem,tW,a];omega))
def pG (t:Types)(q:Pattern)(outer:Int):Int :=
 if c8 t q≠9 then c8 t q
 else if ((List.range q.vars.toNat).all λ(v:Nat)=>decide ((v:Int)<outer)||kL q v)=true then 0 else 9
theorem Ff {t:Types}{q:Pattern}{a:Int}(h:c8 t q=9)(c:0<=a)(b:∀ v:Int,a<=v->v<q.vars->kL q v=true):pG t q a=0:=by
 unfold pG;grind
theorem Fh {t:Types}{q:Pattern}{a:Int}(h:c8 t q=9)(f:0<=a){v:Int}(e:a<=v)(d:v<q.vars)(c:kL q v=false):pG t q a=9:=by
 unfold pG;rw [if_neg aD,if_neg];intro b;rw [b9] at b;have:=b v.toNat (by simp;omega);grind
theorem KY {f:Nat->Int}{m:Int}(h0:(0:Int)≠m)(h:∀ j,f j≠m):∀ n k,bV f k n≠m
 | 0,k=>h0
 | n+1,k=>by unfold bV;split;exact h k;exact KY h0 h n (k+1)
theorem B6 {f:Nat->Int}{nm:Nat->ByteArray}{last:ByteArray × Int}{m:Int}(h0:last.2≠m)(h:∀ j,f j≠m):∀ n k,(fG f nm last k n).2≠m
 | 0,k=>h0
 | n+1,k=>by unfold fG;split;exact h k;exact B6 h0 h n (k+1)
theorem KB:∀ (r l:List ByteArray),oR l r≠9
 | [],l=>by simp [oR]
 | s :: r,l=>by
  unfold oR;split
  .decide
  .split
   .decide
   .exact KB r _
theorem Tk (l:List ByteArray):pF l≠9:=by grind [pF, KB]
theorem JP (x:Attr)(l:List Attr):d8 x l≠9:=by
 have:=Tk x.af;unfold d8;grind
theorem UI (t:Types)(i:Nat):iV t i≠9:=by
 unfold iV;split
 .decide
 .repeat' split
  all_goals first|decide|skip
  refine KY (by decide) (λj=>?_) _ _;split
  .exact JP _ _
  .decide
theorem Vb (t:Types)(i:Nat):kV t i≠9:=by grind [kV]
theorem JZ (t:Types):(dA t).2≠9:=by
 unfold dA;split
 .decide
 .split
  .decide
  .exact B6 (B6 (by decide) (Vb t) _ _) (UI t) _ _
theorem Cb (s:Slot)(v:Int):Pua 401 [.agg s.c,.adr [dI v]] (.bool (decide (s.y.O=v))):=by
 refine Tz.p0 func401 rfl λQ a Y=>?_;exact wv (h:=a _ _ wy)
theorem HU (xs:List Slot)(g:FuncId)(b:UN)(p:Slot->Bool)(v:D.J b=true)(u:∀ x∈xs,Pure prog g (.agg x.c :: b) (.bool (p x))) :
  Pua 397 [.list (xs.map Slot.c),.fn g b] (dI (Eg xs p)):=by
 refine aU (Tz.c0 func397 rfl ?_);simp [go_sem,seval,dI];intro n;refine gF (ι:=Nat) (λi e H=>H=.as/\i<=xs.length/\e 0=.list (xs.map Slot.c)/\e 1=.fn g b/\e 7=dI xs.length/\e 8=dI i/\(∀ j x,j<i->xs[j]?=some x->p x=false)) (λi=>xs.length - i) 0 (by simp [go_sem,seval,dI]) ?_;intro i e H ⟨w,y,r,q,o,m,l⟩;subst w;simp [go_sem,seval,o,m,dI];refine gP (λd=>?_) (λt=>?_)
 .have hgx:=u xs[i] (aC d);simp [go_sem,seval,r,q,m,dI,d,Slot.c] at hgx ⊢;refine aB hgx (by simp [go_sem,v]) ?_;simp [go_sem,seval];refine bA (λh=>?_) (λh=>?_)
  .simp [go_sem,seval];rw [rH l d h]
  .simp [go_sem,seval,r,q,o,m,dI];refine ⟨dU aD aD,i+1,aD,aD,aD,λj x s k=>?_⟩;rcases bX j i with hj'|hj'
   .exact l j x hj' k
   .have:j=i:=aD;subst this;rw [aA d] at k;cases k;exact h
 .simp [go_sem,seval];rw [rI λj x s=>l j x aD]
theorem vO (xs:List Slot)(g:FuncId)(a:UN)(p:Slot->Bool)(d:D.J a=true)(e:D.Q (.list (xs.map Slot.c))=true)(f:∀ x∈xs,Pure prog g (.agg x.c :: a) (.bool (p x))) :
  Pua 357 [.list (xs.map Slot.c),.fn g a] (.bool (xs.any p)):=by
 refine aU (Tz.c0 func357 rfl ?_);simp [go_sem,seval];refine aB (HU xs g a p d f) (by simp only [D.J,e,iH];simp [D.Q,d]) ?_;simp [go_sem,seval,dI,uB]
theorem lR {t : Types} {q : Pattern} (h : c8 t q = 9 \/ c8 t q = 0) : 0 <= q.vars /\ q.vars <= 12 := by
  have b := JZ t;unfold c8 at h;by_cases d : (dA t).2 = 0
  · rw [if_neg aD] at h
    by_cases c : graphF q.i = 0
    · rw [if_neg aD] at h
      split at h
      · omega
      · split at h
        · omega
        · rename_i h3; simp [inF] at h3; omega
    · rw [if_pos c] at h
      have h3 : graphF q.i ≠ 9 := by unfold graphF; repeat' split
                                     all_goals decide
      omega
  · grind
theorem Ds (t:Types)(z:t.ok)(q:Pattern)(a:Int)(x:0<=a):Pua 362 [t.d,q.d,dI a] (dI (pG t q a)):=by
 refine Tz.pK ⟨λt=>t==8,λ_=>[]⟩ func362 rfl (λQ n=>?_);have Y:=trivial;refine wv (h:=aB (pA t z q) wl ?_);refine dR (λg=>?_) λg=>?_
 .exact wv (h:=n _ _ (by simp [go_sem,pG,g]))
 .have l:=lR (.inl g);refine wv (h:=bC (λv e H=>∃ i:Nat,(e 4=.adr q.c/\e 7=dI 9/\e 8=.ptr i 1 0 0)/\(H.get i=some ⟨3,1,[[dI (a+v)]],false⟩)/\(i<H.next)/\(∀ u:Int,a<=u->u<a+v->kL q u=true)) (λv=>(q.vars - a).toNat - v) 0 ⟨0,wg,wn,wn,(by intro u j l;omega)⟩ λC o v e H m=>?_);obtain ⟨i,B,f,b,w⟩:=m;have Y:=xa2 Y B f (cW b);refine dR (λr=>?_) λr=>?_
  .have hOv:(q.o.any λs=>decide (s.y.O=a+v))=kL q (a+v):=rfl;have Y:=xa1 Y r hOv;refine wo (h:=vQ ((vO q.o 401 [.adr [dI (a+v)]] (λs=>decide (s.y.O=a+v)) (by simp [go_sem]) (by simp [go_sem]) (λs _=>Cb s (a+v)))) wr wl rfl ?_);refine eJ (λp=>?_) λp=>?_
   .exact wv (h:=n _ _ (by rw [Fh g x (v:=a+v) aD r (bZ p)];simp [go_sem]))
   .have ho':∀ u:Int,a<=u->u<a+((v+1:Nat):Int)->kL q u=true:=λu j l=>by
     by_cases A:u<a+v
     .exact w u j A
     .rw [(aD:u=a+v)];simpa using p
    exact wo (h:=wx o (v+1) ⟨H.next,wg,wn,wn,(ho')⟩)
  .exact wv (h:=n _ _ (by rw [Ff g x λu j l=>w u j aD];simp [go_sem]))
def kM (t:Types)(p:Pattern)(m:Part)(q:Pattern):Int :=
 if q.vars<p.vars then 20
 else if pG t q p.vars≠0 then pG t q p.vars
 else if eK p.i q.i m≠0 then eK p.i q.i m
 else if Ba p.i q.i m=false then 1 else 0
mutual
def sC (t:Types):Pattern->Cond->Int
 | p,.mk k l m q=>if (if k=5 then kM t p m q else 0)≠0 then (if k=5 then kM t p m q else 0) else UZ t (if k=5 then q else p) l
def UZ (t:Types):Pattern->List Cond->Int
 | _,[]=>0
 | p,c :: l=>if sC t p c≠0 then sC t p c else UZ t p l
end
theorem Ws (t:Types)(p:Pattern)(l:List Cond):UZ t p l=g5 (sC t p) l:=by
 induction l with
 | nil=>simp [UZ,g5]
 | cons a l ih=>simp only [UZ,g5,ih]
theorem Gs (t:Types)(p:Pattern)(c:Cond):sC t p c=if (if c.B=5 then kM t p c.map c.l else 0)≠0 then (if c.B=5 then kM t p c.map c.l else 0) else g5 (sC t (if c.B=5 then c.l else p)) c.u:=by
 cases c;simp only [sC,Ws];rfl
theorem Fg {t:Types}{q:Pattern}{o:Int}(h:pG t q o=0):0<=q.vars/\q.vars<=12:=by
 unfold pG at h;split at h
 .exact lR (.inr h)
 .rename_i h1;exact lR (t:=t) (.inl aD)
theorem Ep (t:Types)(M:t.ok):∀ (c:Cond) (p:Pattern),0<=p.vars->p.vars<=12->Pua 300 [t.d,p.d,.agg c.c] (dI (sC t p c)):=by
 refine jU λc G p y E=>?_;have j:=Gs t p c;refine Tz.pK ⟨λt=>t==4||t==7||t==11,λ_=>[]⟩ func300 rfl (λQ l=>?_);have Y:=@Cond.x;refine dR (λB=>?_) λB=>?_
 .rw [if_pos B,if_pos B] at j;refine dR (λJ=>?_) λJ=>?_
  .exact wv (h:=l _ _ (by simp [go_sem,j,kM,J]))
  .refine wv (h:=aB (Ds t M c.l p.vars y) wl ?_);refine dR (λv=>?_) λv=>?_
   .exact wv (h:=l _ _ (by simp [go_sem,j,kM,v];omega))
   .refine wv (h:=aB (qH p.i c.l.i c.map) wl ?_);refine dR (λA=>?_) λA=>?_
    .exact wv (h:=l _ _ (by simp [go_sem,j,kM,v,A];omega))
    .have hm:=kK A;have O:=bI hm.1;refine wv (h:=?_);repeat first|intro _|refine ⟨iI,?_⟩
     refine aB (t7 p.i c.l.i c.map aD aD) wl ?_;refine wv (h:=?_);repeat first|intro _|refine ⟨iI,?_⟩
     refine wq (λu=>?_) λu=>?_
     .exact wv (h:=l _ _ (by simp [go_sem,j,kM,v,A,u];omega))
     .have hE0:kM t p c.map c.l=0:=by simp [kM,v,A,u];omega
      rw [hE0,if_neg aD] at j;obtain ⟨w,g⟩:=c6 (c.l);have I:=Fg v;have n:0<=w.vars:=by rw [g];exact I.1
      have m:w.vars<=12:=by rw [g];exact I.2
      have r:sC t p c=g5 (sC t w) c.u:=by rw [j,g]
      refine wv (h:=?_);repeat first|intro _|refine ⟨iI,?_⟩
      refine bC (λi e H=>(e 3=.adr t.c/\e 5=.adr c.c/\e 51=.list (c.u.map Cond.c)/\e 52=dI c.u.length/\e 4=.ptr 0 1 0 0/\e 53=dI i)/\(H.get 0=some ⟨33,5,[w.c],false⟩)/\(0<H.next)/\(i<=c.u.length)/\(g5 (sC t w) (c.u.drop i)=sC t p c)) (λi=>c.u.length - i) 0 ⟨wg,(by simp [go_sem,g]),wn,wi,(r.symm)⟩ λP q i e H o=>?_;obtain ⟨F,f,b,N,z⟩:=o;have Y:=xa2 Y F f (cW b);refine dR (λa=>?_) λa=>?_
      .have hst:=z;rw [lS _ a] at hst;have Y:=wa Y a;refine wv (h:=?_);repeat first|intro _|refine ⟨iI,?_⟩
       refine aB ((by have:=G _ (aC a) w n m;rwa [Cond.x] at this)) wl ?_;refine wv (h:=?_);repeat first|intro _|refine ⟨iI,?_⟩
       refine wq (λs=>?_) λs=>?_
       .rw [if_pos aD] at hst;exact wv (h:=l _ _ (by simp [go_sem,hst]))
       .rw [if_neg aD] at hst;refine wv (h:=?_);repeat first|intro _|refine ⟨iI,?_⟩
        exact wx q (i+1) ⟨wg,(by simp [go_sem,Y]),wn,wj,(hst)⟩
      .exact wv (h:=l _ _ (by rw [<- z,nA _ aD];simp [go_sem]))
 .rw [if_neg B,if_neg aD,if_neg B] at j;obtain ⟨w,g⟩:=c6 (p);have n:0<=w.vars:=by rw [g];exact y
  have m:w.vars<=12:=by rw [g];exact E
  have r:sC t p c=g5 (sC t w) c.u:=by rw [j,g]
  refine wv (h:=?_);repeat first|intro _|refine ⟨iI,?_⟩
  refine bC (λi e H=>(e 3=.adr t.c/\e 5=.adr c.c/\e 51=.list (c.u.map Cond.c)/\e 52=dI c.u.length/\e 4=.ptr 0 1 0 0/\e 53=dI i)/\(H.get 0=some ⟨33,5,[w.c],false⟩)/\(0<H.next)/\(i<=c.u.length)/\(g5 (sC t w) (c.u.drop i)=sC t p c)) (λi=>c.u.length - i) 0 ⟨wg,(by simp [go_sem,g]),wn,wi,(r.symm)⟩ λP q i e H o=>?_;obtain ⟨F,f,b,N,z⟩:=o;have Y:=xa2 Y F f (cW b);refine dR (λa=>?_) λa=>?_
  .have hst:=z;rw [lS _ a] at hst;have Y:=wa Y a;refine wv (h:=?_);repeat first|intro _|refine ⟨iI,?_⟩
   refine aB ((by have:=G _ (aC a) w n m;rwa [Cond.x] at this)) wl ?_;refine wv (h:=?_);repeat first|intro _|refine ⟨iI,?_⟩
   refine wq (λs=>?_) λs=>?_
   .rw [if_pos aD] at hst;exact wv (h:=l _ _ (by simp [go_sem,hst]))
   .rw [if_neg aD] at hst;refine wv (h:=?_);repeat first|intro _|refine ⟨iI,?_⟩
    exact wx q (i+1) ⟨wg,(by simp [go_sem,Y]),wn,wj,(hst)⟩
  .exact wv (h:=l _ _ (by rw [<- z,nA _ aD];simp [go_sem]))
def condF (t:Types)(p:Pattern)(c:Cond):Int :=
 if c8 t p≠0 then c8 t p else if tW c≠0 then tW c else sC t p c
theorem y3 (t:Types)(f:t.ok)(p:Pattern)(c:Cond)(i:c.ok)(g:c.size<=1000000):Pua 229 [t.d,p.d,.agg c.c] (dI (condF t p c)):=by
 refine Tz.p0 func229 rfl λQ b _=>?_;have Y:=@Cond.x;refine wv (h:=aB (pA t f p) wl ?_);refine dR (λa=>?_) λa=>?_
 .have Y:=xa1 Y a @condF.eq_1;exact wv (h:=b _ _ wy)
 .have hv:=lR (.inr a);refine wv (h:=aB ((by have:=F7 c i g;rwa [Cond.x] at this)) wl ?_);refine dR (λe=>?_) λe=>?_
  .have Y:=xa2 Y a e @condF.eq_1;exact wv (h:=b _ _ wy)
  .refine wv (h:=aB ((by have:=Ep t f c p hv.1 hv.2;rwa [Cond.x] at this)) wl ?_);have Y:=xa2 Y a e @condF.eq_1;exact wv (h:=b _ _ wy)
attribute [go_sem] Rule.c Rule.d
@[go_sem] theorem adD (o:Option Attr)(e d b a:D):((Option.map Attr.c o).getD [e,d,b,a]).length=4:=by cases o<;>rfl
@[go_sem] theorem adB (o:Option NodeTy)(e d b a:D):((Option.map NodeTy.c o).getD [e,d,b,a]).length=4:=by cases o<;>rfl
@[go_sem] theorem Zd (o:Option EdgeTy)(h g f e d b a:D):((Option.map EdgeTy.c o).getD [h,g,f,e,d,b,a]).length=7:=by cases o<;>rfl
@[go_sem] theorem aa9 (o:Option Edge)(d b a:D):((Option.map Edge.c o).getD [d,b,a]).length=3:=by cases o<;>rfl
@[go_sem] theorem ac9 (o:Option Slot)(e d b a:D):((Option.map Slot.c o).getD [e,d,b,a]).length=4:=by cases o<;>rfl
@[go_sem] theorem ac8 (o:Option Test)(f e d b a:D):((Option.map Test.c o).getD [f,e,d,b,a]).length=5:=by cases o<;>rfl
@[go_sem] theorem aa8 (o:Option Stage)(b a:D):((Option.map Stage.c o).getD [b,a]).length=2:=by cases o<;>rfl
@[go_sem] theorem aeY (o:Option Int)(a:D):((Option.map cI o).getD [a]).length=1:=by cases o<;>rfl
@[go_sem] theorem aeW (o:Option ByteArray)(a:D):((Option.map cS o).getD [a]).length=1:=by cases o<;>rfl
@[go_sem] theorem adC (o:Option Bool)(a:D):((Option.map cB o).getD [a]).length=1:=by cases o<;>rfl
theorem NF (t:Types)(a:Int):Pua 355 [dI a,.adr t.c] (.bool (decide ((t.h.length:Int)<=a))):=by
 refine Tz.p0 func355 rfl λQ b Y=>?_;exact wo (h:=b _ _ wy)
theorem NE (t:Types)(x:Edge):Pua 356 [.agg x.c,.adr t.c] (.bool (decide ((t.j.length:Int)<=x.type))):=by
 refine Tz.p0 func356 rfl λQ a Y=>?_;exact wo (h:=a _ _ wy)
theorem Qd (t:Types)(g:Graph):Pua 294 [t.d,g.d] (.bool (fV t g)):=by
 have j:=g7 g.h 355 [.adr t.c] (λa=>decide ((t.h.length:Int)<=a)) (by simp [go_sem]) (by simp [go_sem]) (λa _=>NF t a);have i:=mT g.j 356 [.adr t.c] (λx=>decide ((t.j.length:Int)<=x.type)) (by simp [go_sem]) (by simp [go_sem]) (λx _=>NE t x);have e:fV t g=((!(g.h.any λn=>decide ((t.h.length:Int)<=n)))&&!(g.j.any λx=>decide ((t.j.length:Int)<=x.type))):=rfl;rw [e];refine Tz.p0 func294 rfl λQ f Y=>?_;refine wo (h:=aB (j) wl ?_);refine wo (h:=aH (λb=>i) (λb=>wl) ?_);exact wo (h:=f _ _ wy)
def sameSlot (x y:Slot):Bool:=decide (y.node=x.node)&&decide (y.H=x.H)
theorem Qe (x y:Slot):Pua 358 [.agg y.c,.adr x.c] (.bool (sameSlot x y)):=by
 refine Tz.p0 func358 rfl λQ a Y=>?_;have Y:=wa Y @sameSlot.eq_1;exact wo (h:=a _ _ wy)
def tV (t:Types)(p:Pattern)(i:Nat):Int:=match p.o[i]? with
 | some s=>if gX t p s≠0 then 6 else if ((p.o.take i).any (sameSlot s))=true then 5 else 0
 | none=>0
theorem AH {t:Types}{p:Pattern}{i:Nat}(h:i<p.o.length):tV t p i=if gX t p p.o[i]≠0 then 6 else if ((p.o.take i).any (sameSlot p.o[i]))=true then 5 else 0:=by
 unfold tV;rw [aA h]
theorem SI (t:Types)(l:t.ok)(r:Rule)(s:r.right.i.h.length<=1000)(i:Nat)(k:i<r.right.o.length):Pua 295 [t.d,r.d,dI i] (dI (tV t r.right i)):=by
 have a:=AH (t:=t) k;have e:=rQ l (r.right.B r.right.o[i].node);have b:=vO (r.right.o.take i) 358 [.adr r.right.o[i].c] (sameSlot r.right.o[i]) (by simp [go_sem]) (by simp only [D.Q];exact GT _) (λy _=>Qe r.right.o[i] y);refine Tz.pK ⟨λt=>t==7||t==10,λ_=>[]⟩ func295 rfl (λQ g=>?_);have Y:=wa (aA k) k;refine eJ (λq=>?_) λq=>?_
 .have hE:gX t r.right r.right.o[i]≠0:=by
   unfold gX;rw [if_neg];decide;intro h;simp [mI] at h;omega
  rw [if_pos hE] at a;exact wv (h:=g _ _ (by simp [go_sem,a]))
 .have hn:r.right.o[i].node.toNat<r.right.i.h.length:=aD;have f:r.right.B r.right.o[i].node=r.right.i.h[r.right.o[i].node.toNat]:=by simp [Pattern.B,hn]
  rw [f] at e;have Y:=xa1 Y (aA hn) f;refine wo (h:=aI (nO t l r.right.i.h[r.right.o[i].node.toNat]) wl ?_);refine eJ (λp=>?_) λp=>?_
  .have hE:gX t r.right r.right.o[i]≠0:=by
    unfold gX;rw [if_neg];decide;intro h;simp [mI,inF,f] at h;omega
   rw [if_pos hE] at a;exact wv (h:=g _ _ (by simp [go_sem,a]))
  .have hE:gX t r.right r.right.o[i]=0:=by
    unfold gX;rw [if_pos];simp [mI,inF,f];omega
   rw [if_neg aD] at a;have o:(i:Int)<=r.right.o.length:=aD;refine wo (h:=vQ (b) wr wl rfl ?_);refine eJ (λe=>?_) λe=>?_
   .exact wv (h:=g _ _ (by rw [a,if_pos (by rw [bB];exact e)];simp [go_sem]))
   .exact wv (h:=g _ _ (by rw [a,if_neg (by rw [bB];rintro ⟨x,n,m⟩;have:=e x n;rw [this] at m;cases m)];simp [go_sem]))
end Go.Abs
end
