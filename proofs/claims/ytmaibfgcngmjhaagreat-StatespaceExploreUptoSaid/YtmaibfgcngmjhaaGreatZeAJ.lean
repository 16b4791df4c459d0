/- Layers 6 (the reference) and 7: morphisms, parts. · Layer 7: -/
import Derived.Test.YtmaibfgcngmjhaaGreatZeAG
import Derived.Test.YtmaibfgcngmjhaaGreatZeAI
import Derived.Test.YtmaibfgcngmjhaaGreatZeAA
set_option linter.unusedVariables false
set_option linter.unusedSimpArgs false
section
set_option maxRecDepth 100000
set_option maxHeartbeats 4000000
open Go Go.Proofs Tryz
namespace Go.Abs
theorem wD (a b:Graph)(m:Part):Pua 161 [a.d,b.d,m.d] (dI (fD a b m)):=by
 refine Tz.pK ⟨λt=>t==11||t==12,λr=>match r with|21=>[(0,14),(1,14),(3,14),(4,14),(5,14),(6,14),(7,14),(8,14),(10,14),(11,14),(12,14),(13,14),(0,15),(1,15),(3,15),(4,15),(5,15),(6,15),(7,15),(8,15),(10,15),(11,15),(12,15),(13,15),(14,15),(5,16),(6,16),(7,16),(8,16),(10,16),(11,16),(12,16),(13,16)]|_=>[]⟩ func161 rfl (λQ n=>?_);have Y:=trivial;refine wv (h:=?_);refine aB (mJ a) wl ?_;refine wv (h:=?_);refine wq (λs=>?_) λs=>?_
 .refine wv (h:=?_);exact n _ _ (.inl (by simp [go_sem,fD,s]))
 .refine wv (h:=?_);refine aB (mJ b) wl ?_;refine wv (h:=?_);refine wq (λx=>?_) λx=>?_
  .refine wv (h:=?_);exact n _ _ (.inl (by simp [go_sem,fD,s,x]))
  .refine wv (h:=?_);repeat first|intro _|refine ⟨iV,?_⟩
   refine wq (λP=>?_) λP=>?_
   .refine wv (h:=?_);exact n _ _ (.inl (by simp [go_sem,fD,s,x,(bL:m.i.length≠a.i.length\/m.j.length≠a.j.length)]))
   .have y:fD a b m=(if b6 (mF a b m) 0 a.i.length≠0 then b6 (mF a b m) 0 a.i.length else b6 (jP a b m) 0 a.j.length):=by
     unfold fD;rw [if_neg (fg s),if_neg (fg x),if_neg bL]
    have O:=bW s;have N:=bW x;have A:=(eI s).2;refine wv (h:=?_);refine bA (λi e H=>(e 3=.adr a.c/\e 4=.adr b.c/\e 5=.adr m.c/\e 9=dI i)/\(i<=a.i.length)/\(b6 (mF a b m) i (a.i.length - i)=b6 (mF a b m) 0 a.i.length)) (λi=>a.i.length - i) 0 ⟨wg,wi,(by rfl)⟩ λX E i e H C=>?_;obtain ⟨S,V,J⟩:=C;have Y:=wa Y S;refine wv (h:=?_);repeat first|intro _|refine ⟨iV,?_⟩
    refine wq (λo=>?_) λo=>?_
    .have hn:i<m.i.length:=bL;have f:=fG (mF a b m) o;rw [J] at f;have j:mF a b m i=(if m.i[i]<0\/(b.i.length:Int)<=m.i[i] then 6 else if b.i[m.i[i].toNat]?.getD 0≠a.i[i] then 13 else 0):=by simp only [mF,aA o,aA hn,aF]
     have Y:=xa1 Y o hn;refine wv (h:=?_);repeat first|intro _|refine ⟨iV,?_⟩
     refine wq (λI=>?_) λI=>?_
     .rw [if_pos bL] at j;rw [j,if_pos bL] at f;refine wv (h:=?_);exact n _ _ (.inl (fc y f))
     .have hkb:m.i[i].toNat<b.i.length:=bL;rw [if_neg bL,aA hkb,aF] at j;have Y:=wa Y (aA hkb);refine wv (h:=?_);repeat first|intro _|refine ⟨iV,?_⟩
      refine wq (λu=>?_) λu=>?_
      .rw [if_pos u] at j;rw [j,if_pos bL] at f;refine wv (h:=?_);exact n _ _ (.inl (fc y f))
      .rw [if_neg (cG u)] at j;rw [j,if_neg bL] at f;refine wv (h:=?_);repeat first|intro _|refine ⟨iV,?_⟩
       exact wx E (i+1) ⟨wg,wj,(f.symm)⟩
    .have hN0:b6 (mF a b m) 0 a.i.length=0:=by rw [<- J,(bL:a.i.length - i=0)];rfl
     rw [hN0,if_neg bL] at y;refine wv (h:=?_);refine bA (λk e H=>(e 3=.adr a.c/\e 4=.adr b.c/\e 5=.adr m.c/\e 10=dI k)/\(k<=a.j.length)/\(b6 (jP a b m) k (a.j.length - k)=fD a b m)) (λk=>a.j.length - k) 0 ⟨wg,wi,(y.symm)⟩ λW D k e H B=>?_;obtain ⟨R,U,K⟩:=B;have Y:=wa Y R;refine wv (h:=?_);repeat first|intro _|refine ⟨iV,?_⟩
     refine wq (λl=>?_) λl=>?_
     .have hn:k<m.j.length:=bL;have f:=fG (jP a b m) l;rw [K] at f;have T:=A _ (aC l);have w:a.j[k].from_.toNat<m.i.length:=bL;have v:a.j[k].L.toNat<m.i.length:=bL;have g:jP a b m k=(if m.j[k]<0\/(b.j.length:Int)<=m.j[k] then 6 else if a.j[k].type≠(b.j[m.j[k].toNat]?.getD cK).type then 13 else if m.i[a.j[k].from_.toNat]≠(b.j[m.j[k].toNat]?.getD cK).from_\/m.i[a.j[k].L.toNat]≠(b.j[m.j[k].toNat]?.getD cK).L then 11 else 0):=by
       simp only [jP,aA l,aA hn,aF,aA w,aA v]
      have Y:=xa3 Y l hn (aA w) (aA v);refine wv (h:=?_);repeat first|intro _|refine ⟨iV,?_⟩
      refine wq (λG=>?_) λG=>?_
      .rw [if_pos bL] at g;rw [g,if_pos bL] at f;refine wv (h:=?_);exact n _ _ (.inl (by simp [go_sem,<- f]))
      .have hkb:m.j[k].toNat<b.j.length:=bL;rw [if_neg bL,aA hkb,aF] at g;have Y:=wa Y (aA hkb);refine wv (h:=?_);repeat first|intro _|refine ⟨iV,?_⟩
       refine wq (λq=>?_) λq=>?_
       .rw [if_pos q] at g;rw [g,if_pos bL] at f;refine wv (h:=?_);exact n _ _ (.inl (by simp [go_sem,<- f]))
       .rw [if_neg (cG q)] at g;refine wv (h:=?_);repeat first|intro _|refine ⟨iV,?_⟩
        refine wq (λF=>?_) λF=>?_
        .rw [if_pos bL] at g;rw [g,if_pos bL] at f;refine wv (h:=?_);exact n _ _ (.inl (by simp [go_sem,<- f]))
        .rw [if_neg bL] at g;rw [g,if_neg bL] at f;refine wv (h:=?_);repeat first|intro _|refine ⟨iV,?_⟩
         exact wx D (k+1) ⟨wg,wj,(f.symm)⟩
     .refine wv (h:=?_);exact n _ _ (.inl (by rw [<- K,(bL:a.j.length - k=0)];rfl))
theorem qR (l:Xa0):Pua 88 [dLI l] (.bool (decide l.Nodup)):=by
 refine Tz.p0 func88 rfl λQ s Y=>?_;refine wv (h:=bA (λi e H=>(e 0=dLI l/\e 3=dI i)/\(i<=l.length)/\(∀ (a b:Nat) (d:b<l.length),b<i->(c:a<b)->l[a]≠l[b])) (λi=>l.length - i) 0 ⟨wg,wi,(by intro a b d h;omega)⟩ λB o i e H j=>?_);obtain ⟨w,y,r⟩:=j;have Y:=wa Y w;refine wv (h:=?_);repeat first|intro _|refine ⟨iV,?_⟩
 refine wq (λu=>?_) λu=>?_
 .have Y:=wa Y u;refine wv (h:=bA (λk e H=>(e 0=dLI l/\e 3=dI i/\e 4=dI k)/\(k<=i)/\(∀ a,a<k->l[a]?≠some l[i])) (λk=>i - k) 0 ⟨wg,wi,(by intro a h;omega)⟩ λA n k e H g=>?_);obtain ⟨v,x,q⟩:=g;have Y:=wa Y v;refine dD (λt=>?_) λt=>?_
  .have hkl:k<l.length:=bL;have Y:=xa1 Y t hkl;refine dZ (λp=>?_) λp=>?_
   .refine wv (h:=?_);have f:¬ l.Nodup:=λh=>by
     have:=(vR h).1 p;omega
    exact s _ _ (eD f)
   .exact wo (h:=wx n (k+1) ⟨wg,wj,(by exact lS q (by rw [aA hkl];simpa using λm=>p m.symm))⟩)
  .have hd':∀ (a b:Nat) (d:b<l.length),b<i+1->(c:a<b)->l[a]≠l[b]:=λa b d h c=>by
    rcases bD b i with h'|h'
    .exact r a b d h' c
    .have:b=i:=bL;subst this;exact λm=>q a bL (by rw [aA bL,m])
   exact wo (h:=wx o (i+1) ⟨wg,wj,(by exact hd')⟩)
 .refine wv (h:=?_);have f:l.Nodup:=by
   rw [List.nodup_iff_pairwise_ne,cA];exact λa b z d c=>r a b d bL c
  exact s _ _ (eD f)
def JY (l:Xa0)(n:Int)(i:Nat):Int :=
 if l[i]?.getD 0<0\/n<=l[i]?.getD 0 then 6 else if 0<i/\l[i]?.getD 0<=l[i - 1]?.getD 0 then 12 else 0
def Hf (l:Xa0)(n:Int):Int:=b6 (JY l n) 0 l.length
theorem fF {f:Nat->Int}:∀ (n k:Nat),b6 f k n=0->∀ j,k<=j->j<k+n->f j=0
 | 0,k,_=>λj h1 h2=>by omega
 | n+1,k,h=>λj h1 h2=>by
  unfold b6 at h;split at h
  .rename_i hne;exact absurd h hne
  .rename_i hz;rcases Nat.eq_or_lt_of_le h1 with h3|h3
   .subst h3;exact bE λhne=>hz hne
   .exact fF n (k+1) h j h3 bL
theorem FR {l:Xa0}{n:Int}(h:Hf l n=0):(∀ x∈l,0<=x/\x<n)/\l.Pairwise (· < ·):=by
 have b:=fF _ _ h;have e:∀ i (a:i<l.length),(0<=l[i]/\l[i]<n)/\(∀ h0:0<i,l[i - 1]<l[i]):=λi a=>by
  have:=b i bL bL;unfold JY at this;grind
 refine ⟨λx c=>?_,cA.2 λi j a f d=>?_⟩
 .obtain ⟨i,a,rfl⟩:=aM c;exact (e i a).1
 .induction j with
  | zero=>omega
  | succ j ih =>
   grind
theorem Cm (l:Xa0)(n:Int):Pua 391 [dLI l,dI n] (dI (Hf l n)):=by
 refine Tz.p0 func391 rfl λQ g Y=>?_;refine wv (h:=?_);repeat first|intro _|refine ⟨iV,?_⟩
 refine bA (λi e H=>(e 0=dLI l/\e 1=dI n/\e 7=dLI l/\e 8=dI l.length/\e 9=dI i)/\(i<=l.length)/\(b6 (JY l n) i (l.length - i)=Hf l n)) (λi=>l.length - i) 0 ⟨wg,wi,(by rfl)⟩ λv j i e H f=>?_;obtain ⟨r,u,m⟩:=f;have Y:=wa Y r;refine wv (h:=?_);refine wq (λc=>?_) λc=>?_
 .have hst:=fG (JY l n) c;rw [m] at hst;have a:JY l n i=(if l[i]<0\/n<=l[i] then 6 else if 0<i/\l[i]<=l[i - 1]?.getD 0 then 12 else 0):=by simp only [JY,aA c,aF]
  have b:i - 1<l.length:=bL;rw [aA b,aF] at a;have d:((i:Int) - 1).toNat=i - 1:=bL;have Y:=xa2 Y c d (aA b);refine wv (h:=?_);repeat first|intro _|refine ⟨iV,?_⟩
  refine wq (λq=>?_) λq=>?_
  .rw [if_pos bL] at a;rw [a,if_pos bL] at hst;refine wv (h:=?_);exact g _ _ (.inl (eD hst))
  .rw [if_neg bL] at a;refine wv (h:=?_);repeat first|intro _|refine ⟨iV,?_⟩
   refine wq (λp=>?_) λp=>?_
   .rw [if_pos bL] at a;rw [a,if_pos bL] at hst;refine wv (h:=?_);exact g _ _ (.inl (eD hst))
   .rw [if_neg bL] at a;rw [a,if_neg bL] at hst;refine wv (h:=?_);repeat first|intro _|refine ⟨iV,?_⟩
    exact wx j (i+1) ⟨wg,wj,(hst.symm)⟩
 .refine wv (h:=?_);exact g _ _ (.inl (by rw [<- m,(bL:l.length - i=0)];rfl))
theorem Ai (l:Xa0)(n:Int):Pua 285 [dLI l,dI n] (dI (Hf l n)):=by
 refine Tz.p0 func285 rfl λQ g Y=>?_;refine wv (h:=?_);refine bA (λi e H=>(e 0=dLI l/\e 1=dI n/\e 5=dI i)/\(i<=l.length)/\(b6 (JY l n) i (l.length - i)=Hf l n)) (λi=>l.length - i) 0 ⟨wg,wi,(by rfl)⟩ λv j i e H f=>?_;obtain ⟨r,u,m⟩:=f;have Y:=wa Y r;refine wv (h:=?_);repeat first|intro _|refine ⟨iV,?_⟩
 refine wq (λc=>?_) λc=>?_
 .have hst:=fG (JY l n) c;rw [m] at hst;have a:JY l n i=(if l[i]<0\/n<=l[i] then 6 else if 0<i/\l[i]<=l[i - 1]?.getD 0 then 12 else 0):=by simp only [JY,aA c,aF]
  have b:i - 1<l.length:=bL;rw [aA b,aF] at a;have d:((i:Int) - 1).toNat=i - 1:=bL;have Y:=xa2 Y c d (aA b);refine wv (h:=?_);repeat first|intro _|refine ⟨iV,?_⟩
  refine wq (λq=>?_) λq=>?_
  .rw [if_pos bL] at a;rw [a,if_pos bL] at hst;refine wv (h:=?_);exact g _ _ (.inl (eD hst))
  .rw [if_neg bL] at a;refine wv (h:=?_);repeat first|intro _|refine ⟨iV,?_⟩
   refine wq (λp=>?_) λp=>?_
   .rw [if_pos bL] at a;rw [a,if_pos bL] at hst;refine wv (h:=?_);exact g _ _ (.inl (eD hst))
   .rw [if_neg bL] at a;rw [a,if_neg bL] at hst;refine wv (h:=?_);repeat first|intro _|refine ⟨iV,?_⟩
    exact wx j (i+1) ⟨wg,wj,(hst.symm)⟩
 .refine wv (h:=?_);exact g _ _ (.inl (by rw [<- m,(bL:l.length - i=0)];rfl))
theorem LA (l:Xa0)(v:Int):Pua 286 [dLI l,dI v] (.bool (mem l v)):=by
 refine Tz.p0 func286 rfl λQ m Y=>?_;refine wv (h:=bA (λi e H=>(e 0=dLI l/\e 1=dI v/\e 5=dI i)/\(i<=l.length)/\(∀ j,j<i->l[j]?≠some v)) (λi=>l.length - i) 0 ⟨wg,wi,(by intro j k;omega)⟩ λq f i e H d=>?_);obtain ⟨o,p,a⟩:=d;have Y:=wa Y o;refine wv (h:=?_);repeat first|intro _|refine ⟨iV,?_⟩
 refine wq (λb=>?_) λb=>?_
 .have Y:=wa Y b;refine dZ (λg=>?_) λg=>?_
  .refine wv (h:=?_);have c:mem l v=true:=(mem_iff l v).2 (g ▸ aC b);exact m _ _ (eD c)
  .exact wo (h:=wx f (i+1) ⟨wg,wj,(by exact lS a (by rw [aA b];simpa using g))⟩)
 .refine wv (h:=?_);have c:mem l v=false:=by rw [bP];intro h;obtain ⟨j,k,n⟩:=aM ((mem_iff l v).1 h);exact a j bL (by rw [aA k,n])
  exact m _ _ (eD c)
theorem Gk (l:Xa0)(v:Int):Pua 226 [dLI l,dI v] (dI (Ox l v)):=by
 refine Tz.p0 func226 rfl λQ g Y=>?_;refine wv (h:=bA (λi e H=>(e 0=dLI l/\e 1=dI v/\e 5=dI i)/\(i<=l.length)/\(∀ j,j<i->l[j]?≠some v)) (λi=>l.length - i) 0 ⟨wg,wi,(by intro j k;omega)⟩ λo d i e H c=>?_);obtain ⟨m,n,a⟩:=c;have Y:=wa Y m;refine wv (h:=?_);repeat first|intro _|refine ⟨iV,?_⟩
 refine wq (λb=>?_) λb=>?_
 .have Y:=wa Y b;refine dZ (λf=>?_) λf=>?_
  .exact wv (h:=g _ _ (by rw [yQ a (by rw [aA b,f])];simp [go_sem]))
  .exact wo (h:=wx d (i+1) ⟨wg,wj,(by exact lS a (by rw [aA b];simpa using f))⟩)
 .exact wv (h:=g _ _ (by rw [DZ λj k=>a j bL];simp [go_sem]))
theorem tL (a:Int):Pua 323 [dI a] (.bool false):=by
 refine Tz.p0 func323 rfl λQ b Y=>?_;exact wv (h:=b _ _ wy)
theorem BY (a:Int):Pua 119 [dI a] (.bool false):=by
 refine Tz.p0 func119 rfl λQ b Y=>?_;exact wv (h:=b _ _ wy)
theorem Xo (a b:Int):Pua 322 [dI a,dI b] (.bool (decide (a<b))):=by
 refine Tz.p0 func322 rfl λQ d Y=>?_;refine wo (h:=aB (BY a) wl ?_);refine wo (h:=aN (λc=>BY b) (λc=>wl) ?_);exact wo (h:=d _ _ wy)
def yI (l:Xa0)(v:Int):Nat:=(l.takeWhile λy=>decide (y<v)).length
theorem Ts {l:Xa0}{v:Int}{n:Nat}(h1:∀ j (hj:j<l.length),j<n->l[j]<v)(h2:n<=l.length)(h3:∀ hn:n<l.length,¬ l[n]<v):yI l v=n :=
 w6 _ l n (λj x hj hx=>by
  obtain ⟨hjl,rfl⟩:=aL.1 hx;simpa using h1 j hjl hj) h2 λx hx=>by
  obtain ⟨hjl,rfl⟩:=aL.1 hx;simpa using h3 hjl
theorem cV (a b:Nat):((a:Int)+(b:Int)).fdiv 2=(((a+b) / 2:Nat):Int):=by grind
theorem wX (l:Xa0)(v:Int)(F:l.Pairwise (· < ·))(O:l.length<=1000000):Pua 262 [dLI l,dI v] (.tup [dI (yI l v),.bool (mem l v)]):=by
 have n:=cA.1 F;refine Tz.p0 func262 rfl λQ E _=>?_;have Y:=@cV;refine wo (h:=bA (λm e H=>∃ i:Nat,∃ j:Nat,(e 0=dLI l/\e 1=dI v/\e 6=dI l.length/\e 7=dI i/\e 8=dI j)/\(i<=j)/\(j<=l.length)/\(j - i<=m)/\(∀ a (h:a<l.length),a<i->l[a]<v)/\(∀ a (h:a<l.length),j<=a->¬ l[a]<v)) (λm=>m) l.length ⟨0,l.length,wg,bL,bL,bL,(by intro a h k;omega),(by intro a h k;omega)⟩ λR s m e H x=>?_);obtain ⟨i,j,M,P,I,G,A,z⟩:=x;have Y:=wa Y M;refine dD (λt=>?_) λt=>?_
 .have hk:(i+j) / 2<l.length:=bL;have u:(((i:Int)+(j:Int)) / 2).toNat=(i+j) / 2:=bL;have N:=zW (bL:0<=(i:Int)+(j:Int)) (bL:(i:Int)+(j:Int)<=18446744073709551615);have Y:=xa2 Y t u (aA hk);refine wo (h:=aB (Xo _ _) wl ?_);refine dZ (λh5=>?_) λh5=>?_
  .obtain ⟨g,y⟩:∃ g:Nat,g=(i+j) / 2+1:=⟨_,rfl⟩;obtain ⟨f,w⟩:∃ f:Nat,f=j:=⟨_,rfl⟩;have r:∀ a (h:a<l.length),a<g->l[a]<v:=λa h k=>by
    rcases bD a ((i+j) / 2) with h1|h1
    .have:=n a _ h hk h1;omega
    .have:a=(i+j) / 2:=bL;subst this;exact h5
   have q:∀ a (h:a<l.length),f<=a->¬ l[a]<v:=λa h k=>z a h bL;exact wo (h:=wx s (m - 1) ⟨g,f,wg,bL,bL,bL,(r),(q)⟩)
  .obtain ⟨g,y⟩:∃ g:Nat,g=i:=⟨_,rfl⟩;obtain ⟨f,w⟩:∃ f:Nat,f=(i+j) / 2:=⟨_,rfl⟩;have r:∀ a (h:a<l.length),a<g->l[a]<v:=λa h k=>A a h bL;have q:∀ a (h:a<l.length),f<=a->¬ l[a]<v:=λa h k=>by
    rcases bD ((i+j) / 2) a with h1|h1
    .have:=n _ a hk h h1;omega
    .have:a=(i+j) / 2:=bL;subst this;omega
   exact wv (h:=wx s (m - 1) ⟨g,f,wg,bL,bL,bL,(r),(q)⟩)
 .have hij:j=i:=bL;have C:yI l v=i:=Ts (λa h k=>A a h k) bL (λh=>z i h bL);have D:mem l v=(decide (i<l.length)&&(l[i]?.getD 0==v)):=by
   rw [bB,mem_iff];constructor
   .intro h;obtain ⟨a,h1,K⟩:=aM h;have t:i<=a:=Nat.le_of_not_lt λk=>by have:=A a h1 k;omega
    have J:a=i:=by
     rcases Nat.eq_or_lt_of_le t with h5|h5
     .exact h5.symm
     .have:=n i a bL h1 h5;exact absurd bL (z i bL bL)
    subst J;simp [h1,K]
   .intro h;simp only [aR,decide_eq_true_eq,beq_iff_eq] at h;rw [aA h.1,aF] at h;rw [<- h.2];exact aC h.1
  by_cases o:i<l.length
  .have Y:=xa1 Y (aA o) o;refine wo (h:=aN (λp=>tL _) (λp=>wl) ?_);refine wo (h:=aN (λp=>tL _) (λp=>wl) ?_);exact wo (h:=E _ _ (by rw [C,D];simp [go_sem,Y];rw [bB];simp))
  .have Y:=wa Y o;refine wo (h:=aN (λp=>tL _) (λp=>wl) ?_);refine wo (h:=aN (λp=>tL _) (λp=>wl) ?_);exact wo (h:=E _ _ (by rw [C,D];simp [go_sem,Y]))
theorem Dk (l:Xa0)(v:Int)(a:l.Pairwise (· < ·))(b:l.length<=1000000):Pua 392 [dLI l,dI v] (.bool (mem l v)):=by
 refine Tz.p0 func392 rfl λQ c Y=>?_;refine wv (h:=aB (wX l v a b) wl ?_);exact wv (h:=c _ _ wy)
def Bt (g:Graph)(p:Part)(k:Int):Int:=if (mem p.i (g.j[k.toNat]?.getD cK).from_&&mem p.i (g.j[k.toNat]?.getD cK).L)=true then 0 else 14
def tF (g:Graph)(p:Part):Int :=
 if Hf p.i g.i.length≠0 then Hf p.i g.i.length
 else if Hf p.j g.j.length≠0 then Hf p.j g.j.length
 else iN (Bt g p) p.j
def subF (g:Graph)(p:Part):Int:=if graphF g≠0 then graphF g else tF g p
theorem Ki (g:Graph)(p:Part)(s:p.i.length<=1000000):Pua 367 [g.d,p.d] (dI (tF g p)):=by
 refine Tz.p0 func367 rfl λQ j Y=>?_;refine wv (h:=?_);repeat first|intro _|refine ⟨iV,?_⟩
 refine aB (Cm p.i _) wl ?_;refine wv (h:=?_);repeat first|intro _|refine ⟨iV,?_⟩
 refine wq (λf=>?_) λf=>?_
 .exact wv (h:=j _ _ (by simp [go_sem,tF,f]))
 .refine wv (h:=?_);repeat first|intro _|refine ⟨iV,?_⟩
  refine aB (Cm p.j _) wl ?_;refine wv (h:=?_);repeat first|intro _|refine ⟨iV,?_⟩
  refine wq (λm=>?_) λm=>?_
  .exact wv (h:=j _ _ (by simp [go_sem,tF,f,m]))
  .have hP:tF g p=iN (Bt g p) p.j:=by unfold tF;rw [if_neg (fg f),if_neg (fg m)]
   have r:=(FR f).2;have n:=(FR m).1;refine wv (h:=?_);repeat first|intro _|refine ⟨iV,?_⟩
   refine bA (λi e H=>(e 2=.adr g.c/\e 3=.adr p.c/\e 28=dLI p.j/\e 29=dI p.j.length/\e 30=dI i)/\(i<=p.j.length)/\(iN (Bt g p) (p.j.drop i)=tF g p)) (λi=>p.j.length - i) 0 ⟨wg,wi,(hP.symm)⟩ λC q i e H o=>?_;obtain ⟨y,B,v⟩:=o;have Y:=wa Y y;refine dD (λl=>?_) λl=>?_
   .have hst:=v;rw [lY _ l] at hst;have u:=n _ (aC l);have t:p.j[i].toNat<g.j.length:=bL;have k:Bt g p p.j[i]=if (mem p.i g.j[p.j[i].toNat].from_&&mem p.i g.j[p.j[i].toNat].L)=true then 0 else 14:=by simp only [Bt,aA t,aF]
    have Y:=xa1 Y l (aA t);refine wv (h:=?_);repeat first|intro _|refine ⟨iV,?_⟩
    refine aJ (Dk p.i _ r s) wl ?_;refine wv (h:=?_);repeat first|intro _|refine ⟨iV,?_⟩
    refine b9 (λx=>Dk p.i _ r s) (λx=>wl) ?_;refine wv (h:=?_);repeat first|intro _|refine ⟨iV,?_⟩
    refine wq (λb=>?_) λb=>?_
    .rw [if_neg (by rcases b with h|h<;>simp [h])] at k;rw [k,if_pos bL] at hst;exact wv (h:=j _ _ (by simp [go_sem,<- hst]))
    .rw [if_pos (fg b)] at k;rw [k,if_neg bL] at hst;refine wv (h:=?_);repeat first|intro _|refine ⟨iV,?_⟩
     exact wx q (i+1) ⟨wg,wj,(hst)⟩
   .exact wv (h:=j _ _ (by rw [<- v,nC _ bL];simp [go_sem]))
theorem AS (g:Graph)(p:Part)(c:p.i.length<=1000000):Pua 317 [g.d,p.d] (dI (subF g p)):=by
 refine Tz.p0 func317 rfl λQ b Y=>?_;refine wv (h:=aB (oG g) wl ?_);refine dD (λa=>?_) λa=>?_
 .have Y:=xa1 Y a @subF.eq_1;exact wv (h:=b _ _ wy)
 .refine wv (h:=aB (Ki g p c) wl ?_);have Y:=xa1 Y a @subF.eq_1;exact wv (h:=b _ _ wy)
theorem Pv (g:Graph)(p:Part):Pua 225 [g.d,p.d] (dI (tF g p)):=by
 refine Tz.pK ⟨λt=>t==8,λr=>match r with|10=>[(0,9),(1,9),(2,9),(3,9),(5,9),(6,9),(7,9),(8,9)]|_=>[]⟩ func225 rfl (λQ b=>?_);have Y:=trivial;refine wo (h:=aB (Ai p.i _) wl ?_);refine wv (h:=?_);repeat first|intro _|refine ⟨q,?_⟩
 refine wq (λl=>?_) λl=>?_
 .exact wv (h:=b _ _ (by simp [go_sem,tF,l]))
 .refine wo (h:=aB (Ai p.j _) wl ?_);refine wv (h:=?_);repeat first|intro _|refine ⟨q,?_⟩
  refine wq (λk=>?_) λk=>?_
  .exact wv (h:=b _ _ (by simp [go_sem,tF,l,k]))
  .have hP:tF g p=iN (Bt g p) p.j:=by unfold tF;rw [if_neg (fg l),if_neg (fg k)]
   have m:=(FR k).1;refine wv (h:=bA (λi e H=>(e 2=.adr g.c/\e 3=.adr p.c/\e 7=dI i)/\(i<=p.j.length)/\(iN (Bt g p) (p.j.drop i)=tF g p)) (λi=>p.j.length - i) 0 ⟨wg,wi,(hP.symm)⟩ λC o i e H n=>?_);obtain ⟨y,B,v⟩:=n;have Y:=wa Y y;refine wv (h:=?_);repeat first|intro _|refine ⟨q,?_⟩
   refine wq (λj=>?_) λj=>?_
   .have hst:=v;rw [lY _ j] at hst;have u:=m _ (aC j);have s:p.j[i].toNat<g.j.length:=bL;have f:Bt g p p.j[i]=if (mem p.i g.j[p.j[i].toNat].from_&&mem p.i g.j[p.j[i].toNat].L)=true then 0 else 14:=by simp only [Bt,aA s,aF]
    have Y:=xa1 Y j (aA s);refine wo (h:=aB (LA p.i _) wl ?_);refine wo (h:=aN (λx=>LA p.i _) (λx=>wl) ?_);refine wv (h:=?_);repeat first|intro _|refine ⟨q,?_⟩
    refine wq (λa=>?_) λa=>?_
    .rw [if_neg (by rcases a with h|h<;>simp [h])] at f;rw [f,if_pos bL] at hst;exact wv (h:=b _ _ (by simp [go_sem,<- hst]))
    .rw [if_pos (fg a)] at f;rw [f,if_neg bL] at hst;exact wo (h:=wx o (i+1) ⟨wg,wj,(hst)⟩)
   .exact wv (h:=b _ _ (by rw [<- v,nC _ bL];simp [go_sem]))
theorem A4 (g:Graph)(p:Part):Pua 159 [g.d,p.d] (dI (subF g p)):=by
 refine Tz.p0 func159 rfl λQ b Y=>?_;refine wv (h:=aB (mJ g) wl ?_);refine dD (λa=>?_) λa=>?_
 .have Y:=xa1 Y a @subF.eq_1;exact wv (h:=b _ _ wy)
 .refine wv (h:=aB (Pv g p) wl ?_);have Y:=xa1 Y a @subF.eq_1;exact wv (h:=b _ _ wy)
def gN (g:Graph)(n:Int):Int:=g.i[n.toNat]?.getD 0
def gEd (g:Graph)(p:Part)(k:Int):Edge:=⟨(g.j[k.toNat]?.getD cK).type,yI p.i (g.j[k.toNat]?.getD cK).from_,yI p.i (g.j[k.toNat]?.getD cK).L⟩
def dF (g:Graph)(p:Part):Graph:=if subF g p=0 then ⟨p.i.map (gN g),p.j.map (gEd g p)⟩ else ⟨[],[]⟩
def Gq (g:Graph)(p:Part):Part:=if subF g p=0 then p else ⟨[],[]⟩
theorem BI {g:Graph}{p:Part}(h:subF g p=0):graphF g=0/\p.i.Pairwise (· < ·)/\(∀ n∈p.i,0<=n/\n<g.i.length)/\∀ k∈p.j,0<=k/\k<g.j.length:=by
 unfold subF tF at h;split at h
 .rename_i h1;exact absurd h h1
 .rename_i h1;split at h
  .rename_i h2;exact absurd h h2
  .rename_i h2;split at h
   .rename_i h3;exact absurd h h3
   .rename_i h3;have a:Hf p.i g.i.length=0:=bL;have b:Hf p.j g.j.length=0:=bL;exact ⟨bL,(FR a).2,(FR a).1,(FR b).1⟩
theorem fN {α β:Type}(f:α→β){l:List α}{i:Nat}(h:i<l.length):(l.take (i+1)).map f=(l.take i).map f++[f l[i]]:=by
 rw [aD h,List.map_append];rfl
theorem lK {α β:Type}(f:α->β){l:List α}{i:Nat}(h:l.length<=i):(l.take i).map f=l.map f:=by
 rw [aH h]
theorem ET (g:Graph)(p:Part)(hl:p.i.length<=1000000)(hle:p.j.length<=1000000):Pua 297 [g.d,p.d] (.tup [(dF g p).d,(Gq g p).d,dI (subF g p)]):=by
 refine Tz.pK ⟨λt=>t==4||t==5||t==8||t==13,λr=>match r with|8=>[(0,7),(1,7)]|_=>[]⟩ func297 rfl (λQ hQ=>?_);have Y:=trivial;refine wv (h:=aB (AS g p hl) wl ?_);refine dD (λh2=>?_) λh2=>?_
 .exact wv (h:=hQ _ _ (by simp [go_sem,dF,Gq,h2]))
 .obtain ⟨hg,hs,hin,hie⟩:=BI h2;refine wo (h:=o8 (Ghosts.step (Ghosts.refl _) 2 0 0 3 1 _ _ (rfl) rfl rfl rfl) (λi e H=>∃ xs:Xa0,(e 2=.adr g.c/\e 3=.adr p.c/\e 4=.ptr 0 1 0 0/\e 5=.ptr 1 1 0 0/\e 8=.ptr 2 1 0 0/\e 23=dLI p.i/\e 24=dI p.i.length/\e 25=dI i)/\(H.get 0=some ⟨30,2,[[.nil,.nil]],false⟩)/\(0<H.next)/\(H.get 1=some ⟨55,2,[[.nil,.nil]],false⟩)/\(1<H.next)/\(H.get 2=some ⟨30,2,[[.own 3 xs.length,.nil]],false⟩)/\(2<H.next)/\(H.get 3=some ⟨3,1,xs.map cI,false⟩)/\(3<H.next)/\(i<=p.i.length)/\(xs=(p.i.take i).map (gN g))) (λi=>p.i.length - i) 0 ⟨([]),wg,wn,wn,wn,wn,wn,wn,wn,wn,wi,(by rfl)⟩ λI0 hI0 i e H hi0=>?_);obtain ⟨xs,E0,g0_0,n0_0,g1_0,n1_0,g2_0,n2_0,g3_0,n3_0,hi,hx⟩:=hi0;have Y:=xa8 Y E0 g0_0 (bU n0_0) g1_0 (bU n1_0) g2_0 (bU n2_0) g3_0 (bU n3_0);refine dD (λh6=>?_) λh6=>?_
  .have hin':=hin _ (aC h6);have hk:p.i[i].toNat<g.i.length:=bL;have hxl:xs.length=i:=by rw [hx];simp;omega
   have Y:=xa2 Y h6 (aA hk) @gN.eq_1;exact wo (h:=wx hI0 (i+1) ⟨(xs++[gN g p.i[i]]),wg,wn,wn,wn,wn,wn,wn,wn,wn,wj,(by rw [fN _ h6,<- hx])⟩)
  .have hX:xs=p.i.map (gN g):=by rw [hx,lK _ bL]
   refine wo (h:=o8 (Ghosts.step (Ghosts.refl _) 2 0 1 124 3 _ _ (g2_0) rfl rfl rfl) (λk e H=>∃ j:Nat,∃ ys:List Edge,(e 2=.adr g.c/\e 3=.adr p.c/\e 4=.ptr 0 1 0 0/\e 5=.ptr 1 1 0 0/\e 8=.ptr 2 1 0 0/\e 41=dLI p.j/\e 42=dI p.j.length/\e 43=dI k)/\(H.get 0=some ⟨30,2,[[.nil,.nil]],false⟩)/\(0<H.next)/\(H.get 1=some ⟨55,2,[[.nil,.nil]],false⟩)/\(1<H.next)/\(H.get 2=some ⟨30,2,[[.own 3 xs.length,.own j ys.length]],false⟩)/\(2<H.next)/\(H.get 3=some ⟨3,1,xs.map cI,false⟩)/\(3<H.next)/\(H.get j=some ⟨124,3,ys.map Edge.c,false⟩)/\(j<H.next)/\(k<=p.j.length)/\(ys=(p.j.take k).map (gEd g p))/\(j≠0)/\(j≠1)/\(j≠2)/\(j≠3)) (λk=>p.j.length - k) 0 ⟨H.next,([]),wg,wn,wn,wn,wn,wn,wn,wn,wn,wn,wn,wi,(by rfl),bL,bL,bL,bL⟩ λI2 hI2 k e H hi2=>?_);obtain ⟨j,ys,E2,g0_2,n0_2,g1_2,n1_2,g2_2,n2_2,g3_2,n3_2,gj_2,nj_2,hk,hy,j0,j1,j2,j3⟩:=hi2;have Y:=xa7 Y E2 g0_2 (bU n0_2) g1_2 (bU n1_2) g2_2 (bU n2_2) (xb0 g3_2 (bU n3_2) gj_2 (bU nj_2) j0 j1 j2 j3 j0.symm j1.symm j2.symm j3.symm);refine dD (λh11=>?_) λh11=>?_
   .have hie':=hie _ (aC h11);have hke:p.j[k].toNat<g.j.length:=bL;have hyl:ys.length=k:=by rw [hy];simp;omega
    have Y:=xa2 Y h11 (aA hke) @gEd.eq_1;refine wo (h:=aB (wX p.i _ hs hl) wl ?_);refine wo (h:=aB (wX p.i _ hs hl) wl ?_);exact wo (h:=wx hI2 (k+1) ⟨j,(ys++[gEd g p p.j[k]]),wg,wn,wn,wn,wn,wn,wn,wn,wn,wn,wn,wj,(by rw [fN _ h11,<- hy]),wj,wj,wj,wj⟩)
   .have hY:ys=p.j.map (gEd g p):=by rw [hy,lK _ bL]
    refine wv (h:=aJ ((jC p.i hl).pure) wl ?_);refine wv (h:=aJ ((jC p.j hle).pure) wl ?_);exact wv (h:=hQ _ _ (by simp [go_sem,Y,dF,Gq,h2,hX,hY]))
mutual
theorem lU {p:Cond->Prop}(h:∀ c:Cond,(∀ k∈c.y,p k)->p c):∀ c:Cond,p c
 | .mk k l m q=>h _ (MP h l)
theorem MP {p:Cond->Prop}(h:∀ c:Cond,(∀ k∈c.y,p k)->p c):∀ l:List Cond,∀ k∈l,p k
 | []=>λk hk=>absurd hk (by simp)
 | c :: l=>λk hk=>by
  rcases aP.1 hk with h1|h1
  ·rw [h1];exact lU h c
  ·exact MP h l k h1
end
def bareB (c:Cond):Bool:=decide ((c.map.i.length:Int)+c.map.j.length+c.u.o.i.length+c.u.o.j.length+c.u.q.length+c.u.R.length=0)&&decide (c.u.vars=0)
structure Cond.bq (c:Cond):Prop where
 m1:c.map.i.length<=1000000
 m2:c.map.j.length<=1000000
 p1:c.u.o.i.length<=1000000
 p2:c.u.o.j.length<=1000000
 p3:c.u.q.length<=1000000
 p4:c.u.R.length<=1000000
theorem JG (c:Cond)(a:c.bq):Pua 377 [.agg c.c] (.bool (bareB c)):=by
 obtain ⟨j,i,g,f,e,d⟩:=a;refine Tz.pK ⟨λt=>t==3,λ_=>[]⟩ func377 rfl (λQ b=>?_);have Y:=@Cond.F;have Y:=wa Y @bareB.eq_1;exact wo (h:=b _ _ wy)
theorem Jm (xs:List Cond)(g:FuncId)(b:Xa2)(p:Cond->Bool)(u:D.N b=true)(t:∀ x∈xs,Pure prog g (.agg x.c :: b) (.bool (p x))) :
  Pua 395 [.list (xs.map Cond.c),.fn g b] (dI (Bk xs p)):=by
 refine aV (Tz.c0 func395 rfl ?_);simp [go_sem,seval,dI];intro m;refine fO (ι:=Nat) (λi e H=>H=.ak/\i<=xs.length/\e 0=.list (xs.map Cond.c)/\e 1=.fn g b/\e 7=dI xs.length/\e 8=dI i/\(∀ j x,j<i->xs[j]?=some x->p x=false)) (λi=>xs.length - i) 0 ew ?_;intro i e H ⟨v,z,q,o,n,k,l⟩;subst v;simp [go_sem,seval,n,k,dI];refine f7 (λd=>?_) (λs=>?_)
 .have hgx:=t xs[i] (aC d);simp [go_sem,seval,q,o,k,dI,dLI,d,Cond.F] at hgx ⊢;refine aB hgx (eD u) ?_;simp [go_sem,seval];refine aU (λh=>?_) (λh=>?_)
  .simp [go_sem,seval];rw [nD l d h]
  .simp [go_sem,seval,q,o,n,k,dI];refine ⟨dE bL bL,i+1,bL,bL,bL,λj x r y=>?_⟩;grind
 .simp [go_sem,seval];rw [nE λj x r=>l j x bL]
theorem Ec (xs:List Cond)(g:FuncId)(a:Xa2)(p:Cond->Bool)(d:D.N a=true)(e:D.U (.list (xs.map Cond.c))=true)(f:∀ x∈xs,Pure prog g (.agg x.c :: a) (.bool (p x))) :
  Pua 378 [.list (xs.map Cond.c),.fn g a] (.bool (xs.any p)):=by
 refine aV (Tz.c0 func378 rfl ?_);simp [go_sem,seval];refine aB (Jm xs g a p d f) (by simp only [D.N,e,fP];simp [D.U,d]) ?_;simp [go_sem,seval,dI,sU]
def tJ (c:Cond):Bool :=
 if c.kind=1 then decide ((c.y.length:Int)=0)&&bareB c
 else if c.kind=2 then decide ((c.y.length:Int)=1)&&bareB c
 else if c.kind=3\/c.kind=4 then decide (1<=(c.y.length:Int))&&bareB c
 else decide (c.kind=5)&&decide ((c.y.length:Int)=1)
mutual
def Oz:Cond->Bool
 | .mk k l m p=>tJ (.mk k l m p)&&X2 l
def X2:List Cond->Bool
 | []=>true
 | c :: l=>Oz c&&X2 l
end
theorem X1 (l:List Cond):X2 l=l.all Oz:=by
 induction l with
 | nil=>rfl
 | cons a l ih=>simp [X2,ih]
theorem w5 (c:Cond):Oz c=(tJ c&&c.y.all Oz):=by cases c;simp [Oz,X1,Cond.y]
mutual
def Cond.ok:Cond->Prop
 | .mk k l m p=>(Cond.mk k l m p).bq/\Cond.cf l
def Cond.cf:List Cond->Prop
 | []=>True
 | c :: l=>c.ok/\Cond.cf l
end
theorem Oo (l:List Cond):Cond.cf l↔∀ c∈l,c.ok:=by
 induction l with
 | nil=>simp [Cond.cf]
 | cons a l ih=>simp [Cond.cf,ih]
theorem w4 (c:Cond):c.ok↔c.bq/\∀ k∈c.y,k.ok:=by cases c;simp [Cond.ok,Oo,Cond.y]
theorem wf1 (c:Cond)(h:Pua 338 [.agg c.c] (.bool (Oz c))):Pua 379 [.agg c.c] (.bool (!Oz c)):=by
 refine Tz.p0 func379 rfl λQ a _=>?_;have Y:=@Cond.F;refine wo (h:=aB ((by simpa [Cond.F,go_sem] using h)) wl ?_);exact wo (h:=a _ _ wy)
theorem Bw:∀ c:Cond,c.ok->Pua 338 [.agg c.c] (.bool (Oz c)):=by
 refine lU λc s v=>?_;obtain ⟨t,u⟩:=(w4 c).1 v;have a:=Ec c.y 379 [] (λk=>!Oz k) rfl eh (λk r=>wf1 k (s k r (u k r)));have e:∀ l:Int,l=c.kind->Pua 377 [.agg [dI l,.list (c.y.map Cond.c),dLI c.map.i,dLI c.map.j,dLI c.u.o.i,.list (c.u.o.j.map Edge.c),.list (c.u.q.map Slot.c),dI c.u.vars,.list (c.u.R.map Test.c)]] (.bool (bareB c)):=by
  intro l m;have:=JG c t;rwa [Cond.F,<- m] at this
 have b:(!(c.y.any λk=>!Oz k))=c.y.all Oz:=by simp [List.not_any_eq_all_not]
 refine Tz.p0 func338 rfl λQ g _=>?_;have Y:=@Cond.F;refine dZ (λq=>?_) λq=>?_
 .have Y:=wa Y q;refine wo (h:=aN (λd=>(e _ bL)) (λd=>wl) ?_);refine wo (h:=aN (λd=>a) (λd=>wl) ?_);exact wo (h:=g _ _ (by simp [go_sem,w5,<- b,tJ,Y]))
 .have Y:=wa Y q;refine dD (λp=>?_) λp=>?_
  .have Y:=wa Y p;refine wo (h:=aN (λd=>(e _ bL)) (λd=>wl) ?_);refine wo (h:=aN (λd=>a) (λd=>wl) ?_);exact wo (h:=g _ _ (by simp [go_sem,w5,<- b,tJ,Y]))
  .have Y:=wa Y p;refine dD (λo=>?_) λo=>?_
   .have Y:=wa Y o;refine wo (h:=aN (λd=>(e _ bL)) (λd=>wl) ?_);refine wo (h:=aN (λd=>a) (λd=>wl) ?_);exact wo (h:=g _ _ (by simp [go_sem,w5,<- b,tJ,Y]))
   .have Y:=wa Y o;refine dD (λn=>?_) λn=>?_
    .have Y:=wa Y n;refine wo (h:=aN (λd=>(e _ bL)) (λd=>wl) ?_);refine wo (h:=aN (λd=>a) (λd=>wl) ?_);exact wo (h:=g _ _ (by simp [go_sem,w5,<- b,tJ,Y]))
    .have Y:=wa Y n;refine dD (λf=>?_) λf=>?_
     .have Y:=wa Y f;refine wo (h:=aN (λd=>a) (λd=>wl) ?_);exact wo (h:=g _ _ (by simp [go_sem,w5,<- b,tJ,Y]))
     .have Y:=wa Y f;refine wo (h:=aN (λd=>a) (λd=>wl) ?_);exact wo (h:=g _ _ (by simp [go_sem,w5,<- b,tJ,Y]))
mutual
def Cond.size:Cond->Nat
 | .mk _ l _ _=>1+Cond.X l
def Cond.X:List Cond->Nat
 | []=>0
 | c :: l=>c.size+Cond.X l
end
mutual
def Cond.bv:Cond->Nat
 | .mk k l _ _=>Cond.ax l+(if k=5 then 1 else 0)
def Cond.ax:List Cond->Nat
 | []=>0
 | c :: l=>max c.bv (Cond.ax l)
end
theorem Ib (l:List Cond)(c:Cond):Cond.X (l++[c])=Cond.X l+c.size:=by
 induction l with
 | nil=>simp [Cond.X]
 | cons a l ih=>simp [Cond.X,ih];omega
theorem Mp (l:List Cond)(c:Cond):Cond.ax (l++[c])=max (Cond.ax l) c.bv:=by
 induction l with
 | nil=>simp [Cond.ax]
 | cons a l ih=>simp only [eV,Cond.ax,ih];omega
theorem v7 (c:Cond):c.size=1+Cond.X c.y:=by cases c;simp [Cond.size,Cond.y]
theorem Xk (c:Cond):c.bv=Cond.ax c.y+(if c.kind=5 then 1 else 0):=by cases c;rw [Cond.bv];rfl
@[go_sem] theorem ab4:Cond.X []=0:=by simp [Cond.X]
@[go_sem] theorem afO:Cond.ax []=0:=by simp [Cond.ax]
theorem Dr {l:List Cond}{c:Cond}(h:c∈l):c.size<=Cond.X l:=by
 induction l with
 | nil=>cases h
 | cons a l ih =>
  rcases aP.1 h with h1|h1
  .subst h1;simp only [Cond.X];omega
  .have:=ih h1;simp only [Cond.X];omega
theorem Ia (l:List Cond)(i:Nat):Cond.X (l.take i)<=Cond.X l:=by
 induction l generalizing i with
 | nil=>simp
 | cons a l ih=>cases i with
  | zero=>simp [Cond.X]
  | succ i=>have:=ih i;simp only [kV,Cond.X];omega
mutual
theorem SE:∀ c:Cond,c.bv<=c.size
 | .mk k l m p=>by have:=BX l;simp only [Cond.bv,Cond.size];split<;>omega
theorem BX:∀ l:List Cond,Cond.ax l<=Cond.X l
 | []=>by simp [Cond.ax]
 | c :: l=>by have:=SE c;have:=BX l;simp only [Cond.ax,Cond.X];omega
end
theorem KH (a b:Nat):(if (a:Int)<(b:Int) then (b:Int) else (a:Int))=((max a b:Nat):Int):=by split<;>omega
theorem Ef:∀ c:Cond,c.size<=1000000->Pua 339 [.agg c.c] (.tup [dI c.size,dI c.bv]):=by
 refine lU λc A J=>?_;have f:=v7 c;have g:=Xk c;have D:=BX c.y;refine Tz.pK ⟨λt=>t==7,λ_=>[]⟩ func339 rfl (λQ y=>?_);try simp [go_sem,seval,Cond.F]
 repeat first|intro _|refine ⟨iV,?_⟩
 obtain ⟨w,m⟩:∃ w:Nat->dO->AHeap->Prop,∀ (i:Nat) (e:dO) (H:AHeap),w i e H↔((e 1=.adr c.c)/\(e 11=.list (c.y.map Cond.c))/\(e 12=dI c.y.length)/\(e 4=dI ((1+Cond.X (c.y.take i):Nat):Int))/\(e 5=dI (Cond.ax (c.y.take i):Nat))/\(e 13=dI i)/\(i<=c.y.length)):=⟨λi e H=>_,λ_ _ _=>Iff.rfl⟩;refine tI w (λi=>c.y.length - i) (0) ((m _ _ _).2 ⟨?_,?_,?_,?_,?_,?_,(by first|assumption|omega|(simp [go_sem,Cond.F];done)|(simp_all;done))⟩) ?_;iterate 6 (first|omega|(simp [go_sem,seval,Cond.F]<;>omega))
 intro i e H r;obtain ⟨p,l,k,d,b,j,I⟩:=(m _ _ _).1 r;have o:=xa2 p l k j;try simp [go_sem,seval,o]
 refine aU (λh=>?_) (λh=>?_)
 .try simp [go_sem] at h
  have C:=Dr (aC h);have F:=SE c.y[i];have q:=aD h;have s:=Ib (c.y.take i) c.y[i];have u:=Mp (c.y.take i) c.y[i];have B:=Ia c.y (i+1);have x:Cond.X (c.y.take (i+1))=Cond.X (c.y.take i)+c.y[i].size:=by rw [q,s]
  have z:Cond.ax (c.y.take (i+1))=max (Cond.ax (c.y.take i)) c.y[i].bv:=by rw [q,u]
  have E:=BX (c.y.take i);try simp [go_sem,seval,Cond.F,o,h]
  repeat first|intro _|refine ⟨iV,?_⟩
  refine aB ((by have:=A _ (aC h) bL;rwa [Cond.F] at this)) (em) ?_;try simp [go_sem,seval,o,d,b]
  repeat first|intro _|refine ⟨iV,?_⟩
  refine gU (i+1) bL ((m _ _ _).2 ⟨?_,?_,?_,?_,?_,?_,(by first|assumption|omega|(simp [go_sem,Cond.F,o,d,b,h,x,z,KH];done)|(simp_all<;>omega))⟩)<;>first|omega|(simp [go_sem,seval,Cond.F,o,x,z]<;>omega)
 .try simp [go_sem] at h
  have G:c.y.take i=c.y:=aH h;rw [G] at d b;try simp [go_sem,seval,Cond.F,o]
  refine aU (λn=>?_) (λn=>?_)
  .try simp [go_sem] at n
   try simp [go_sem,seval,d,b]
   repeat first|intro _|refine ⟨iV,?_⟩
   exact y _ _ (by first|(left;(simp [go_sem,f,g,n]);done)|(right;(simp [go_sem,f,g,n]);done))
  .try simp [go_sem] at n
   try simp [go_sem,seval,d,b]
   exact y _ _ (by first|(left;(simp [go_sem,f,g,n]);done)|(right;(simp [go_sem,f,g,n]);done))
def uO (c:Cond):Int:=if Oz c=false then 1 else if 12<c.size\/3<c.bv then 3 else 0
theorem Hb (c:Cond)(e:c.ok)(d:c.size<=1000000):Pua 303 [.agg c.c] (dI (uO c)):=by
 refine Tz.p0 func303 rfl λQ b _=>?_;have Y:=@Cond.F;refine wo (h:=aB ((by have:=Bw c e;rwa [Cond.F] at this)) wl ?_);refine dZ (λa=>?_) λa=>?_
 .exact wv (h:=b _ _ (by simp [go_sem,uO,a]))
 .refine wv (h:=aB ((by have:=Ef c d;rwa [Cond.F] at this)) wl ?_);refine dZ (λf=>?_) λf=>?_
  .exact wv (h:=b _ _ (by simp [go_sem,uO,a];omega))
  .exact wv (h:=b _ _ (by simp [go_sem,uO,a];omega))
def pY (t:Types)(q:Pattern)(outer:Int):Int :=
 if c7 t q≠9 then c7 t q
 else if ((List.range q.vars.toNat).all λ(v:Nat)=>decide ((v:Int)<outer)||kS q v)=true then 0 else 9
theorem Gv {t:Types}{q:Pattern}{a:Int}(h:c7 t q=9)(c:0<=a)(b:∀ v:Int,a<=v->v<q.vars->kS q v=true):pY t q a=0:=by
 unfold pY;grind
theorem Gx {t:Types}{q:Pattern}{a:Int}(h:c7 t q=9)(f:0<=a){v:Int}(e:a<=v)(d:v<q.vars)(c:kS q v=false):pY t q a=9:=by
 unfold pY;rw [if_neg bL,if_neg];intro b;rw [cF] at b;have:=b v.toNat et;grind
theorem Ml {f:Nat->Int}{m:Int}(h0:(0:Int)≠m)(h:∀ j,f j≠m):∀ n k,b6 f k n≠m
 | 0,k=>h0
 | n+1,k=>by unfold b6;split;exact h k;exact Ml h0 h n (k+1)
theorem C3 {f:Nat->Int}{nm:Nat->ByteArray}{last:ByteArray × Int}{m:Int}(h0:last.2≠m)(h:∀ j,f j≠m):∀ n k,(fA f nm last k n).2≠m
 | 0,k=>h0
 | n+1,k=>by unfold fA;split;exact h k;exact C3 h0 h n (k+1)
theorem LT:∀ (r l:List ByteArray),o7 l r≠9
 | [],l=>by simp [o7]
 | s :: r,l=>by
  unfold o7;split
  .decide
  .split
   .decide
   .exact LT r _
theorem Va (l:List ByteArray):pU l≠9:=by grind [pU, LT]
theorem KZ (x:Attr)(l:List Attr):dW x l≠9:=by
 have:=Va x.ae;unfold dW;grind
theorem WK (t:Types)(i:Nat):i7 t i≠9:=by
 unfold i7;split
 .decide
 .repeat' split
  all_goals first|decide|skip
  refine Ml (by decide) (λj=>?_) _ _;split
  .exact KZ _ _
  .decide
theorem Xe (t:Types)(i:Nat):lC t i≠9:=by grind [lC]
theorem Lg (t:Types):(cW t).2≠9:=by
 unfold cW;split
 .decide
 .split
  .decide
  .exact C3 (C3 (by decide) (Xe t) _ _) (WK t) _ _
theorem C7 (s:Slot)(v:Int):Pua 380 [.agg s.c,.adr [dI v]] (.bool (decide (s.E.var=v))):=by
 refine Tz.p0 func380 rfl λQ a Y=>?_;exact wv (h:=a _ _ wy)
theorem Ji (xs:List Slot)(g:FuncId)(b:Xa2)(p:Slot->Bool)(v:D.N b=true)(u:∀ x∈xs,Pure prog g (.agg x.c :: b) (.bool (p x))) :
  Pua 376 [.list (xs.map Slot.c),.fn g b] (dI (Bk xs p)):=by
 refine aV (Tz.c0 func376 rfl ?_);simp [go_sem,seval,dI];intro n;refine fO (ι:=Nat) (λi e H=>H=.ak/\i<=xs.length/\e 0=.list (xs.map Slot.c)/\e 1=.fn g b/\e 7=dI xs.length/\e 8=dI i/\(∀ j x,j<i->xs[j]?=some x->p x=false)) (λi=>xs.length - i) 0 ew ?_;intro i e H ⟨w,y,r,q,o,m,l⟩;subst w;simp [go_sem,seval,o,m,dI];refine f7 (λd=>?_) (λt=>?_)
 .have hgx:=u xs[i] (aC d);simp [go_sem,seval,r,q,m,dI,d,Slot.c] at hgx ⊢;refine aB hgx (eD v) ?_;simp [go_sem,seval];refine aU (λh=>?_) (λh=>?_)
  .simp [go_sem,seval];rw [nD l d h]
  .simp [go_sem,seval,r,q,o,m,dI];refine ⟨dE bL bL,i+1,bL,bL,bL,λj x s k=>?_⟩;rcases bD j i with hj'|hj'
   .exact l j x hj' k
   .have:j=i:=bL;subst this;rw [aA d] at k;cases k;exact h
 .simp [go_sem,seval];rw [nE λj x s=>l j x bL]
theorem wW (xs:List Slot)(g:FuncId)(a:Xa2)(p:Slot->Bool)(d:D.N a=true)(e:D.U (.list (xs.map Slot.c))=true)(f:∀ x∈xs,Pure prog g (.agg x.c :: a) (.bool (p x))) :
  Pua 335 [.list (xs.map Slot.c),.fn g a] (.bool (xs.any p)):=by
 refine aV (Tz.c0 func335 rfl ?_);simp [go_sem,seval];refine aB (Ji xs g a p d f) (by simp only [D.N,e,fP];simp [D.U,d]) ?_;simp [go_sem,seval,dI,sU]
theorem lX {t : Types} {q : Pattern} (h : c7 t q = 9 \/ c7 t q = 0) : 0 <= q.vars /\ q.vars <= 12 := by
  have b := Lg t;unfold c7 at h;by_cases d : (cW t).2 = 0
  · rw [if_neg bL] at h
    by_cases c : graphF q.o = 0
    · rw [if_neg bL] at h
      split at h
      · omega
      · split at h
        · omega
        · rename_i h3; simp [inF] at h3; omega
    · rw [if_pos c] at h
      have h3 : graphF q.o ≠ 9 := by unfold graphF; repeat' split
                                     all_goals decide
      omega
  · grind
theorem Ee (t:Types)(z:t.ok)(q:Pattern)(a:Int)(x:0<=a):Pua 340 [t.d,q.d,dI a] (dI (pY t q a)):=by
 refine Tz.pK ⟨λt=>t==8,λ_=>[]⟩ func340 rfl (λQ n=>?_);have Y:=trivial;refine wv (h:=aB (pO t z q) wl ?_);refine dD (λg=>?_) λg=>?_
 .exact wv (h:=n _ _ (by simp [go_sem,pY,g]))
 .have l:=lX (.inl g);refine wv (h:=bA (λv e H=>∃ i:Nat,(e 4=.adr q.c/\e 7=dI 9/\e 8=.ptr i 1 0 0)/\(H.get i=some ⟨3,1,[[dI (a+v)]],false⟩)/\(i<H.next)/\(∀ u:Int,a<=u->u<a+v->kS q u=true)) (λv=>(q.vars - a).toNat - v) 0 ⟨0,wg,wn,wn,(by intro u j l;omega)⟩ λC o v e H m=>?_);obtain ⟨i,B,f,b,w⟩:=m;have Y:=xa2 Y B f (bU b);refine dD (λr=>?_) λr=>?_
  .have hOv:(q.q.any λs=>decide (s.E.var=a+v))=kS q (a+v):=rfl;have Y:=xa1 Y r hOv;refine wo (h:=mP ((wW q.q 380 [.adr [dI (a+v)]] (λs=>decide (s.E.var=a+v)) eh eh (λs _=>C7 s (a+v)))) wr wl rfl ?_);refine dZ (λp=>?_) λp=>?_
   .exact wv (h:=n _ _ (by rw [Gx g x (v:=a+v) bL r (cG p)];simp [go_sem]))
   .have ho':∀ u:Int,a<=u->u<a+((v+1:Nat):Int)->kS q u=true:=λu j l=>by
     by_cases A:u<a+v
     .exact w u j A
     .rw [(bL:u=a+v)];simpa using p
    exact wo (h:=wx o (v+1) ⟨H.next,wg,wn,wn,(ho')⟩)
  .exact wv (h:=n _ _ (by rw [Gv g x λu j l=>w u j bL];simp [go_sem]))
def kT (t:Types)(p:Pattern)(m:Part)(q:Pattern):Int :=
 if q.vars<p.vars then 20
 else if pY t q p.vars≠0 then pY t q p.vars
 else if fD p.o q.o m≠0 then fD p.o q.o m
 else if Jh p.o q.o m=false then 1 else 0
mutual
def sS (t:Types):Pattern->Cond->Int
 | p,.mk k l m q=>if (if k=5 then kT t p m q else 0)≠0 then (if k=5 then kT t p m q else 0) else W1 t (if k=5 then q else p) l
def W1 (t:Types):Pattern->List Cond->Int
 | _,[]=>0
 | p,c :: l=>if sS t p c≠0 then sS t p c else W1 t p l
end
theorem YL (t:Types)(p:Pattern)(l:List Cond):W1 t p l=iN (sS t p) l:=by
 induction l with
 | nil=>simp [W1,iN]
 | cons a l ih=>simp only [W1,iN,ih]
theorem Hx (t:Types)(p:Pattern)(c:Cond):sS t p c=if (if c.kind=5 then kT t p c.map c.u else 0)≠0 then (if c.kind=5 then kT t p c.map c.u else 0) else iN (sS t (if c.kind=5 then c.u else p)) c.y:=by
 cases c;simp only [sS,YL];rfl
theorem Gw {t:Types}{q:Pattern}{o:Int}(h:pY t q o=0):0<=q.vars/\q.vars<=12:=by
 unfold pY at h;split at h
 .exact lX (.inr h)
 .rename_i h1;exact lX (t:=t) (.inl bL)
theorem FC (t:Types)(M:t.ok):∀ (c:Cond) (p:Pattern),0<=p.vars->p.vars<=12->Pua 304 [t.d,p.d,.agg c.c] (dI (sS t p c)):=by
 refine lU λc G p y E=>?_;have j:=Hx t p c;refine Tz.pK ⟨λt=>t==4||t==7||t==11,λ_=>[]⟩ func304 rfl (λQ l=>?_);have Y:=@Cond.F;refine dD (λB=>?_) λB=>?_
 .rw [if_pos B,if_pos B] at j;refine dD (λJ=>?_) λJ=>?_
  .exact wv (h:=l _ _ (by simp [go_sem,j,kT,J]))
  .refine wv (h:=aB (Ee t M c.u p.vars y) wl ?_);refine dD (λv=>?_) λv=>?_
   .exact wv (h:=l _ _ (by simp [go_sem,j,kT,v];omega))
   .refine wv (h:=aB (qX p.o c.u.o c.map) wl ?_);refine dD (λA=>?_) λA=>?_
    .exact wv (h:=l _ _ (by simp [go_sem,j,kT,v,A];omega))
    .have hm:=pV A;have O:=bW hm.1;refine wv (h:=?_);repeat first|intro _|refine ⟨iV,?_⟩
     refine aB (uU p.o c.u.o c.map bL bL) wl ?_;refine wv (h:=?_);repeat first|intro _|refine ⟨iV,?_⟩
     refine wq (λu=>?_) λu=>?_
     .exact wv (h:=l _ _ (by simp [go_sem,j,kT,v,A,u];omega))
     .have hE0:kT t p c.map c.u=0:=by simp [kT,v,A,u];omega
      rw [hE0,if_neg bL] at j;obtain ⟨w,g⟩:=cY (c.u);have I:=Gw v;have n:0<=w.vars:=by rw [g];exact I.1
      have m:w.vars<=12:=by rw [g];exact I.2
      have r:sS t p c=iN (sS t w) c.y:=by rw [j,g]
      refine wv (h:=?_);repeat first|intro _|refine ⟨iV,?_⟩
      refine bA (λi e H=>(e 3=.adr t.c/\e 5=.adr c.c/\e 51=.list (c.y.map Cond.c)/\e 52=dI c.y.length/\e 4=.ptr 0 1 0 0/\e 53=dI i)/\(H.get 0=some ⟨52,5,[w.c],false⟩)/\(0<H.next)/\(i<=c.y.length)/\(iN (sS t w) (c.y.drop i)=sS t p c)) (λi=>c.y.length - i) 0 ⟨wg,(eD g),wn,wi,(r.symm)⟩ λP q i e H o=>?_;obtain ⟨F,f,b,N,z⟩:=o;have Y:=xa2 Y F f (bU b);refine dD (λa=>?_) λa=>?_
      .have hst:=z;rw [lY _ a] at hst;have Y:=wa Y a;refine wv (h:=?_);repeat first|intro _|refine ⟨iV,?_⟩
       refine aB ((by have:=G _ (aC a) w n m;rwa [Cond.F] at this)) wl ?_;refine wv (h:=?_);repeat first|intro _|refine ⟨iV,?_⟩
       refine wq (λs=>?_) λs=>?_
       .rw [if_pos bL] at hst;exact wv (h:=l _ _ (eD hst))
       .rw [if_neg bL] at hst;refine wv (h:=?_);repeat first|intro _|refine ⟨iV,?_⟩
        exact wx q (i+1) ⟨wg,cl,wn,wj,(hst)⟩
      .exact wv (h:=l _ _ (by rw [<- z,nC _ bL];simp [go_sem]))
 .rw [if_neg B,if_neg bL,if_neg B] at j;obtain ⟨w,g⟩:=cY (p);have n:0<=w.vars:=by rw [g];exact y
  have m:w.vars<=12:=by rw [g];exact E
  have r:sS t p c=iN (sS t w) c.y:=by rw [j,g]
  refine wv (h:=?_);repeat first|intro _|refine ⟨iV,?_⟩
  refine bA (λi e H=>(e 3=.adr t.c/\e 5=.adr c.c/\e 51=.list (c.y.map Cond.c)/\e 52=dI c.y.length/\e 4=.ptr 0 1 0 0/\e 53=dI i)/\(H.get 0=some ⟨52,5,[w.c],false⟩)/\(0<H.next)/\(i<=c.y.length)/\(iN (sS t w) (c.y.drop i)=sS t p c)) (λi=>c.y.length - i) 0 ⟨wg,(eD g),wn,wi,(r.symm)⟩ λP q i e H o=>?_;obtain ⟨F,f,b,N,z⟩:=o;have Y:=xa2 Y F f (bU b);refine dD (λa=>?_) λa=>?_
  .have hst:=z;rw [lY _ a] at hst;have Y:=wa Y a;refine wv (h:=?_);repeat first|intro _|refine ⟨iV,?_⟩
   refine aB ((by have:=G _ (aC a) w n m;rwa [Cond.F] at this)) wl ?_;refine wv (h:=?_);repeat first|intro _|refine ⟨iV,?_⟩
   refine wq (λs=>?_) λs=>?_
   .rw [if_pos bL] at hst;exact wv (h:=l _ _ (eD hst))
   .rw [if_neg bL] at hst;refine wv (h:=?_);repeat first|intro _|refine ⟨iV,?_⟩
    exact wx q (i+1) ⟨wg,cl,wn,wj,(hst)⟩
  .exact wv (h:=l _ _ (by rw [<- z,nC _ bL];simp [go_sem]))
def condF (t:Types)(p:Pattern)(c:Cond):Int :=
 if c7 t p≠0 then c7 t p else if uO c≠0 then uO c else sS t p c
theorem An (t:Types)(f:t.ok)(p:Pattern)(c:Cond)(i:c.ok)(g:c.size<=1000000):Pua 238 [t.d,p.d,.agg c.c] (dI (condF t p c)):=by
 refine Tz.p0 func238 rfl λQ b _=>?_;have Y:=@Cond.F;refine wv (h:=aB (pO t f p) wl ?_);refine dD (λa=>?_) λa=>?_
 .have Y:=xa1 Y a @condF.eq_1;exact wv (h:=b _ _ wy)
 .have hv:=lX (.inr a);refine wv (h:=aB ((by have:=Hb c i g;rwa [Cond.F] at this)) wl ?_);refine dD (λe=>?_) λe=>?_
  .have Y:=xa2 Y a e @condF.eq_1;exact wv (h:=b _ _ wy)
  .refine wv (h:=aB ((by have:=FC t f c p hv.1 hv.2;rwa [Cond.F] at this)) wl ?_);have Y:=xa2 Y a e @condF.eq_1;exact wv (h:=b _ _ wy)
attribute [go_sem] Rule.c Rule.d
@[go_sem] theorem ahD (o:Option Attr)(e d b a:D):((Option.map Attr.c o).getD [e,d,b,a]).length=4:=by cases o<;>rfl
@[go_sem] theorem ahB (o:Option NodeTy)(e d b a:D):((Option.map NodeTy.c o).getD [e,d,b,a]).length=4:=by cases o<;>rfl
@[go_sem] theorem acX (o:Option EdgeTy)(h g f e d b a:D):((Option.map EdgeTy.c o).getD [h,g,f,e,d,b,a]).length=7:=by cases o<;>rfl
@[go_sem] theorem afE (o:Option Edge)(d b a:D):((Option.map Edge.c o).getD [d,b,a]).length=3:=by cases o<;>rfl
@[go_sem] theorem ag9 (o:Option Slot)(e d b a:D):((Option.map Slot.c o).getD [e,d,b,a]).length=4:=by cases o<;>rfl
@[go_sem] theorem ag8 (o:Option Test)(f e d b a:D):((Option.map Test.c o).getD [f,e,d,b,a]).length=5:=by cases o<;>rfl
@[go_sem] theorem afD (o:Option Stage)(b a:D):((Option.map Stage.c o).getD [b,a]).length=2:=by cases o<;>rfl
@[go_sem] theorem aiW (o:Option Int)(a:D):((Option.map cI o).getD [a]).length=1:=by cases o<;>rfl
@[go_sem] theorem aiV (o:Option ByteArray)(a:D):((Option.map cS o).getD [a]).length=1:=by cases o<;>rfl
@[go_sem] theorem ahC (o:Option Bool)(a:D):((Option.map cB o).getD [a]).length=1:=by cases o<;>rfl
theorem O0 (t:Types)(a:Int):Pua 333 [dI a,.adr t.c] (.bool (decide ((t.i.length:Int)<=a))):=by
 refine Tz.p0 func333 rfl λQ b Y=>?_;exact wo (h:=b _ _ wy)
theorem OZ (t:Types)(x:Edge):Pua 334 [.agg x.c,.adr t.c] (.bool (decide ((t.j.length:Int)<=x.type))):=by
 refine Tz.p0 func334 rfl λQ a Y=>?_;exact wo (h:=a _ _ wy)
theorem RA (t:Types)(g:Graph):Pua 295 [t.d,g.d] (.bool (iB t g)):=by
 have j:=iF g.i 333 [.adr t.c] (λa=>decide ((t.i.length:Int)<=a)) eh eh (λa _=>O0 t a);have i:=mS g.j 334 [.adr t.c] (λx=>decide ((t.j.length:Int)<=x.type)) eh eh (λx _=>OZ t x);have e:iB t g=((!(g.i.any λn=>decide ((t.i.length:Int)<=n)))&&!(g.j.any λx=>decide ((t.j.length:Int)<=x.type))):=rfl;rw [e];refine Tz.p0 func295 rfl λQ f Y=>?_;refine wo (h:=aB (j) wl ?_);refine wo (h:=aN (λb=>i) (λb=>wl) ?_);exact wo (h:=f _ _ wy)
def sameSlot (x y:Slot):Bool:=decide (y.node=x.node)&&decide (y.Q=x.Q)
theorem RB (x y:Slot):Pua 336 [.agg y.c,.adr x.c] (.bool (sameSlot x y)):=by
 refine Tz.p0 func336 rfl λQ a Y=>?_;have Y:=wa Y @sameSlot.eq_1;exact wo (h:=a _ _ wy)
def zJ (t:Types)(p:Pattern)(i:Nat):Int:=match p.q[i]? with
 | some s=>if iM t p s≠0 then 6 else if ((p.q.take i).any (sameSlot s))=true then 5 else 0
 | none=>0
theorem EZ {t:Types}{p:Pattern}{i:Nat}(h:i<p.q.length):zJ t p i=if iM t p p.q[i]≠0 then 6 else if ((p.q.take i).any (sameSlot p.q[i]))=true then 5 else 0:=by
 unfold zJ;rw [aA h]
theorem Uy (t:Types)(l:t.ok)(r:Rule)(s:r.right.o.i.length<=1000)(i:Nat)(k:i<r.right.q.length):Pua 296 [t.d,r.d,dI i] (dI (zJ t r.right i)):=by
 have a:=EZ (t:=t) k;have e:=r8 l (r.right.kind r.right.q[i].node);have b:=wW (r.right.q.take i) 336 [.adr r.right.q[i].c] (sameSlot r.right.q[i]) eh (by simp only [D.U];exact H8 _) (λy _=>RB r.right.q[i] y);refine Tz.pK ⟨λt=>t==7||t==10,λ_=>[]⟩ func296 rfl (λQ g=>?_);have Y:=wa (aA k) k;refine dZ (λq=>?_) λq=>?_
 .have hE:iM t r.right r.right.q[i]≠0:=by
   unfold iM;rw [if_neg];decide;intro h;simp [mQ] at h;omega
  rw [if_pos hE] at a;exact wv (h:=g _ _ (eD a))
 .have hn:r.right.q[i].node.toNat<r.right.o.i.length:=bL;have f:r.right.kind r.right.q[i].node=r.right.o.i[r.right.q[i].node.toNat]:=by simp [Pattern.kind,hn]
  rw [f] at e;have Y:=xa1 Y (aA hn) f;refine wo (h:=aJ (sJ t l r.right.o.i[r.right.q[i].node.toNat]) wl ?_);refine dZ (λp=>?_) λp=>?_
  .have hE:iM t r.right r.right.q[i]≠0:=by
    unfold iM;rw [if_neg];decide;intro h;simp [mQ,inF,f] at h;omega
   rw [if_pos hE] at a;exact wv (h:=g _ _ (eD a))
  .have hE:iM t r.right r.right.q[i]=0:=by
    unfold iM;rw [if_pos];simp [mQ,inF,f];omega
   rw [if_neg bL] at a;have o:(i:Int)<=r.right.q.length:=bL;refine wo (h:=mP (b) wr wl rfl ?_);refine dZ (λe=>?_) λe=>?_
   .exact wv (h:=g _ _ (by rw [a,if_pos (by rw [aZ];exact e)];simp [go_sem]))
   .exact wv (h:=g _ _ (by rw [a,if_neg (by rw [aZ];rintro ⟨x,n,m⟩;have:=e x n;rw [this] at m;cases m)];simp [go_sem]))
end Go.Abs
end
