/- Layer 12: complements; layer 13: jointly surjective morphism -/
import Derived.Test.YthlnbehgghjppaaGreatZrAG
import Derived.Test.YthlnbehgghjppaaGreatZrAA
import Derived.Test.YthlnbehgghjppaaGreatZrAJ
import Derived.Test.YthlnbehgghjppaaGreatZrAI
set_option linter.unusedVariables false
set_option linter.unusedSimpArgs false
section
set_option maxRecDepth 100000
set_option maxHeartbeats 4000000
open Go Go.Proofs Tryz
namespace Go.Abs
def iJ (im keep:Xa0):Xa0:=((List.range im.length).filter λ(i:Nat)=>!mem keep i).map λi=>im[i]?.getD 0
def AZ (g:Graph)(me gone:Xa0)(k:Nat):Bool:=!mem me k&&(mem gone (g.i[k]?.getD bX).B||mem gone (g.i[k]?.getD bX).O)
def B0 (g:Graph)(me gone:Xa0):Xa0:=((List.range g.i.length).filter (AZ g me gone)).map λ(b:Nat)=>(b:Int)
def u4 (im keep:Xa0)(i k:Nat):Bool:=decide (im[i]?.getD 0=im[k]?.getD 0)&&(!mem keep i||!mem keep k)
def mQ (im keep:Xa0)(i j:Nat):List (Nat × Nat):=((List.range j).filter λb=>u4 im keep i (i+1+b)).map λb=>(i,i+1+b)
def Gu (im keep:Xa0)(n:Nat):List (Nat × Nat):=(List.range n).flatMap λi=>mQ im keep i (im.length - (i+1))
def sL (im keep:Xa0):List (Nat × Nat):=Gu im keep im.length
def cPr (p:Nat × Nat):Xa2:=[dI p.1,dI p.2]
@[go_sem] theorem Zn (p:Nat × Nat):D.N (cPr p)=true:=rfl
@[go_sem] theorem af0 (l:List (Nat × Nat)):D.V (l.map cPr)=true:=dU _ Zn l
theorem Pp (a keep:Xa0)(i j:Nat):mQ a keep i (j+1)=mQ a keep i j++(if u4 a keep i (i+1+j)=true then [(i,i+1+j)] else []):=by
 unfold mQ;rw [dM,jY,List.map_append];grind
theorem EL (a keep:Xa0)(n:Nat):Gu a keep (n+1)=Gu a keep n++mQ a keep n (a.length - (n+1)):=by
 unfold Gu;rw [dM,List.flatMap_append];simp
theorem Cy (a keep:Xa0)(i j:Nat):(mQ a keep i j).length<=j:=by
 unfold mQ;rw [bI];exact eI (dG _ _) eG
theorem xW (im keep:Xa0):∀ n,(Gu im keep n).length<=n * im.length
 | 0=>by simp [Gu]
 | n+1=>by
  have h1:=xW im keep n;have h2:=Cy im keep n (im.length - (n+1));rw [EL,aQ,Nat.add_mul];omega
theorem rM (a keep:Xa0){i:Nat}(h:i<a.length):((List.range (i+1)).filter λ(i:Nat)=>!mem keep i).map (λi=>a[i]?.getD 0)=((List.range i).filter λ(i:Nat)=>!mem keep i).map (λi=>a[i]?.getD 0)++(if (!mem keep i)=true then [a[i]] else []):=by
 rw [dM,jY,List.map_append];grind
theorem pS {a keep:Xa0}{x:Int}:x∈iJ a keep↔∃ i:Nat,i<a.length/\mem keep i=false/\a[i]?=some x:=by
 unfold iJ;grind
def compG (l g:Graph)(keep m:Part):Int:=if cY l g m≠0 then cY l g m else subF l keep
def jC (l g:Graph)(keep m:Part):Int :=
 if compG l g keep m≠0 then compG l g keep m
 else if 0<(sL m.h keep.h).length+(sL m.i keep.i).length then 15
 else if 0<(B0 g m.i (iJ m.h keep.h)).length then 14 else 0
def j4 (l g:Graph)(keep m:Part):Part:=if jC l g keep m=0 then ⟨aN (iJ m.h keep.h) g.h.length,aN (iJ m.i keep.i) g.i.length⟩ else ⟨[],[]⟩
def A0 (a b:Xa0)(n:Nat):Bool:=(List.range n).all λ(i:Nat)=>mem a i||mem b i
def jointB (a b x:Graph)(h k:Part):Bool:=decide (cY a x h=0)&&(decide (cY b x k=0)&&(A0 h.h k.h x.h.length&&A0 h.i k.i x.i.length))
theorem IL {a b:Xa0}{n:Nat}(h:(List.range n).all (λ(i:Nat)=>mem a i||mem b i)=true):(List.range (n+1)).all (λ(i:Nat)=>mem a i||mem b i)=(mem a n||mem b n):=by
 rw [dM,oY,h];simp
theorem Lu {a b:Xa0}{n i:Nat}(c:i<n)(h:(mem a i||mem b i)=false):A0 a b n=false:=by
 rw [aW];intro d;have:=b6.1 d i (bY.2 c);rw [h] at this;cases this
theorem rH (l:Xa0)(v:Int):Pua 246 [dLI l,dI v] (.bool (mem l v)):=by
 refine Tz.p0 func246 rfl λQ m Y=>?_;refine wv (h:=bC (λi e H=>(e 0=dLI l/\e 1=dI v/\e 5=dI i)/\(i<=l.length)/\(∀ j,j<i->l[j]?≠some v)) (λi=>l.length - i) 0 ⟨wg,wi,(by intro j k;omega)⟩ λu f i e H d=>?_);obtain ⟨p,s,a⟩:=d;have Y:=wa Y p;refine wv (h:=?_);repeat first|intro _|refine ⟨t,?_⟩
 refine wq (λb=>?_) λb=>?_
 .have Y:=wa Y b;refine wv (h:=?_);refine wq (λg=>?_) λg=>?_
  .refine wv (h:=?_);have c:mem l v=true:=(mem_iff l v).2 (g ▸ aC b);exact m _ _ (by simp [go_sem,c])
  .exact wo (h:=wx f (i+1) ⟨wg,wj,(iR a (by rw [aA b];simpa using g))⟩)
 .refine wv (h:=?_);have c:mem l v=false:=by rw [aW];intro h;obtain ⟨j,k,o⟩:=aO ((mem_iff l v).1 h);exact a j bZ (by rw [aA k,o])
  exact m _ _ (by simp [go_sem,c])
theorem Om (l:Xa0)(v:Int):Pua 245 [dLI l,dI v] (.bool (mem l v)):=by
 refine Tz.p0 func245 rfl λQ m Y=>?_;refine wv (h:=bC (λi e H=>(e 0=dLI l/\e 1=dI v/\e 5=dI i)/\(i<=l.length)/\(∀ j,j<i->l[j]?≠some v)) (λi=>l.length - i) 0 ⟨wg,wi,(by intro j k;omega)⟩ λq f i e H d=>?_);obtain ⟨o,p,a⟩:=d;have Y:=wa Y o;refine wv (h:=?_);repeat first|intro _|refine ⟨iF,?_⟩
 refine wq (λb=>?_) λb=>?_
 .have Y:=wa Y b;refine wv (h:=?_);repeat first|intro _|refine ⟨iF,?_⟩
  refine wq (λg=>?_) λg=>?_
  .refine wv (h:=?_);have c:mem l v=true:=(mem_iff l v).2 (g ▸ aC b);exact m _ _ (by simp [go_sem,c])
  .exact wo (h:=wx f (i+1) ⟨wg,wj,(by exact iR a (by rw [aA b];simpa using g))⟩)
 .refine wv (h:=?_);have c:mem l v=false:=by rw [aW];intro h;obtain ⟨j,k,n⟩:=aO ((mem_iff l v).1 h);exact a j bZ (by rw [aA k,n])
  exact m _ _ (by simp [go_sem,c])
theorem HC (l:Xa0)(n:Nat)(v:n<=1000000):Pua 164 [dI n,dLI l] (dLI (aN l n)):=by
 refine Tz.pK ⟨λt=>t==5,λ_=>[]⟩ func164 rfl (λQ r=>?_);have Y:=trivial;refine wv (h:=bC (λi e H=>∃ a:Xa0,(e 1=dLI l/\e 0=dI n/\e 5=.own 0 a.length/\e 6=dI i)/\(H.get 0=some ⟨3,1,a.map cI,false⟩)/\(0<H.next)/\(i<=n)/\(a.length<=i)/\(a=((List.range i).filter λ(b:Nat)=>!mem l b).map (λ(b:Nat)=>(b:Int)))) (λi=>n - i) 0 ⟨([]),wg,wn,wn,wi,eG,(by rfl)⟩ λz f i e H k=>?_);obtain ⟨a,s,g,d,x,w,j⟩:=k;have Y:=xa2 Y s g (bP d);refine c8 (λp=>?_) λp=>?_
 .have Y:=wa Y p;refine wo (h:=aB (rH l i) wl ?_);refine dW (λm=>?_) λm=>?_
  .have Y:=wa Y m;exact wo (h:=wx f (i+1) ⟨(a++(if (!mem l i)=true then [(i:Int)] else [])),wg,wn,wn,wj,(by rw [aQ];split<;>simp<;>omega),(by rw [b8,<- j])⟩)
  .have Y:=wa Y m;exact wo (h:=wx f (i+1) ⟨(a++(if (!mem l i)=true then [(i:Int)] else [])),wg,wn,wn,wj,(by rw [aQ];split<;>simp<;>omega),(by rw [b8,<- j])⟩)
 .exact wv (h:=r _ _ (by simp [go_sem,Y,aN];rw [j,(bZ:i=n)];simp))
theorem Ch (a keep:Xa0)(v:a.length<=1000000):Pua 165 [dLI a,dLI keep] (dLI (iJ a keep)):=by
 refine Tz.pK ⟨λt=>t==5,λ_=>[]⟩ func165 rfl (λQ r=>?_);have Y:=trivial;refine wv (h:=bC (λi e H=>∃ c:Xa0,(e 0=dLI a/\e 1=dLI keep/\e 5=.own 0 c.length/\e 6=dI i)/\(H.get 0=some ⟨3,1,c.map cI,false⟩)/\(0<H.next)/\(i<=a.length)/\(c.length<=i)/\(c=((List.range i).filter λ(b:Nat)=>!mem keep b).map (λi=>a[i]?.getD 0))) (λi=>a.length - i) 0 ⟨([]),wg,wn,wn,wi,eG,(by rfl)⟩ λz g i e H m=>?_);obtain ⟨c,s,k,f,x,w,l⟩:=m;have Y:=xa2 Y s k (bP f);refine dW (λj=>?_) λj=>?_
 .have Y:=xa1 Y j (aA j);refine wo (h:=aB (rH keep i) wl ?_);refine dW (λn=>?_) λn=>?_
  .have Y:=wa Y n;exact wo (h:=wx g (i+1) ⟨(c++(if (!mem keep i)=true then [a[i]] else [])),wg,wn,wn,wj,(by rw [aQ];split<;>simp<;>omega),(by rw [rM _ _ j,<- l])⟩)
  .have Y:=wa Y n;exact wo (h:=wx g (i+1) ⟨(c++(if (!mem keep i)=true then [a[i]] else [])),wg,wn,wn,wj,(by rw [aQ];split<;>simp<;>omega),(by rw [rM _ _ j,<- l])⟩)
 .refine wv (h:=?_);have q:iJ a keep=c:=by rw [l,(bZ:i=a.length)];rfl
  exact r _ _ (by simp [go_sem,Y,q])
theorem Pt {g:Graph}{me gone:Xa0}{k:Nat}(h:k<g.i.length):AZ g me gone k=(!mem me k&&(mem gone g.i[k].B||mem gone g.i[k].O)):=by
 unfold AZ;rw [aA h];rfl
theorem HD (l g:Graph)(keep m:Part)(y:m.h.length<=1000000)(p:g.i.length<=1000000):Pua 163 [l.d,g.d,keep.d,m.d] (dLI (B0 g m.i (iJ m.h keep.h))):=by
 obtain ⟨f,u⟩:=gI (iJ m.h keep.h);refine Tz.pK ⟨λt=>t==9,λ_=>[]⟩ func163 rfl (λQ A=>?_);have Y:=u;refine wv (h:=aB (Ch m.h keep.h y) wl ?_);refine wv (h:=bC (λk e H=>∃ a:Xa0,(e 5=.adr g.c/\e 7=.adr m.c/\e 10=dLI f/\e 9=.own 0 a.length/\e 11=dI k)/\(H.get 0=some ⟨3,1,a.map cI,false⟩)/\(0<H.next)/\(k<=g.i.length)/\(a.length<=k)/\(a=((List.range k).filter (AZ g m.i f)).map (λ(b:Nat)=>(b:Int)))) (λk=>g.i.length - k) 0 ⟨([]),wg,wn,wn,wi,eG,(by rfl)⟩ λJ n k e H s=>?_);obtain ⟨a,D,o,j,G,F,r⟩:=s;have Y:=xa2 Y D o (bP j);refine dW (λq=>?_) λq=>?_
 .have hdb:=Pt (me:=m.i) (gone:=f) q;have C:=rH f g.i[k].B;have B:=rH f g.i[k].O;have Y:=xa2 Y q (aA q) hdb;refine wo (h:=aB (rH m.i k) wl ?_);refine wo (h:=aG (λp=>C) (λp=>wl) ?_);refine wo (h:=aG (λp=>B) (λp=>wl) ?_);refine dW (λv=>?_) λv=>?_
  .have Y:=wa Y v;exact wo (h:=wx n (k+1) ⟨(a++(if AZ g m.i f k=true then [(k:Int)] else [])),wg,wn,wn,wj,(by rw [aQ];split<;>simp<;>omega),(by rw [b8,<- r])⟩)
  .have Y:=wa Y v;exact wo (h:=wx n (k+1) ⟨(a++(if AZ g m.i f k=true then [(k:Int)] else [])),wg,wn,wn,wj,(by rw [aQ];split<;>simp<;>omega),(by rw [b8,<- r])⟩)
 .refine wv (h:=?_);have z:B0 g m.i f=a:=by rw [r,(bZ:k=g.i.length)];rfl
  exact A _ _ (by simp [go_sem,Y,z])
theorem On (l g:Graph)(keep m:Part)(c:keep.h.length<=1000000):Pua 161 [l.d,g.d,keep.d,m.d] (dI (compG l g keep m)):=by
 refine Tz.p0 func161 rfl λQ b Y=>?_;refine wv (h:=aB (kA l g m) wl ?_);refine c8 (λa=>?_) λa=>?_
 .have Y:=xa1 Y a @compG.eq_1;exact wv (h:=b _ _ wy)
 .refine wv (h:=aB (vH l keep) wl ?_);have Y:=xa1 Y a @compG.eq_1;exact wv (h:=b _ _ wy)
theorem Vo {a keep:Xa0}{i k:Nat}(c:i<a.length)(b:k<a.length):u4 a keep i k=(decide (a[i]=a[k])&&(!mem keep i||!mem keep k)):=by
 unfold u4;rw [aA c,aA b];rfl
theorem tX (a keep:Xa0){i k:Nat}(h:i+1<=k):mQ a keep i (k+1 - (i+1))=mQ a keep i (k - (i+1))++(if u4 a keep i k=true then [(i,k)] else []):=by
 rw [show k+1 - (i+1)=(k - (i+1))+1 by omega,Pp,show i+1+(k - (i+1))=k by omega]
theorem w9 (a keep:Xa0)(A:a.length<=1000):Pua 162 [dLI a,dLI keep] (.list ((sL a keep).map cPr)):=by
 refine Tz.pK ⟨λt=>t==5,λ_=>[]⟩ func162 rfl (λQ G=>?_);have Y:=trivial;refine wv (h:=bC (λi e H=>∃ d:List (Nat × Nat),(e 0=dLI a/\e 1=dLI keep/\e 5=.own 0 d.length/\e 6=dI i)/\(H.get 0=some ⟨275,2,d.map cPr,false⟩)/\(0<H.next)/\(i<=a.length)/\(d=Gu a keep i)) (λi=>a.length - i) 0 ⟨([]),wg,wn,wn,wi,(by rfl)⟩ λP y i e H w=>?_);obtain ⟨d,K,o,l,L,s⟩:=w;have Y:=xa2 Y K o (bP l);refine dW (λg=>?_) λg=>?_
 .have Y:=xa1 Y g (aA g);refine wo (h:=bC (λk e H=>∃ b:List (Nat × Nat),(e 0=dLI a/\e 1=dLI keep/\e 5=.own 0 b.length/\e 6=dI i/\e 7=dI k)/\(H.get 0=some ⟨275,2,b.map cPr,false⟩)/\(0<H.next)/\(i+1<=k)/\(k<=a.length)/\(b=d++mQ a keep i (k - (i+1)))/\(b.length<=1000000)) (λk=>a.length - k) (i+1) ⟨d,wg,wn,wn,wi,wi,(by simp [mQ]),(by have:=xW a keep i;have:i * a.length<=1000 * 1000:=kZ bZ A;rw [s];omega)⟩ λO m k e H v=>?_);obtain ⟨b,J,n,j,E,D,r,C⟩:=v;have Y:=xa2 Y J n (bP j);refine dW (λu=>?_) λu=>?_
  .have hd:=Vo (keep:=keep) g u;have f:(b++(if u4 a keep i k=true then [(i,k)] else [])).length<=1000000:=by
    have I:b++(if u4 a keep i k=true then [(i,k)] else [])=Gu a keep i++mQ a keep i (k+1 - (i+1)):=by rw [tX _ _ bZ,<- List.append_assoc,r,s]
    rw [I,aQ];have N:=xW a keep i;have M:=Cy a keep i (k+1 - (i+1));have g:i * a.length+a.length<=1000 * 1000:=by
     have:=kZ (bZ:i+1<=1000) A;rw [Nat.add_mul] at this;omega
    omega
   have Y:=xa3 Y g (aA g) u (aA u);refine wo (h:=fX (λx=>rH keep i) (λx=>wl) ?_);refine wo (h:=fX (λx=>rH keep k) (λx=>wl) ?_);refine dW (λB=>?_) λB=>?_
   .have hdt:u4 a keep i k=true:=by rw [hd];simpa using B
    have Y:=xa1 Y hdt @cPr.eq_1;exact wo (h:=wx m (k+1) ⟨(b++(if u4 a keep i k=true then [(i,k)] else [])),wg,wn,wn,wj,wj,(by rw [tX _ _ bZ,<- List.append_assoc,<- r]),(f)⟩)
   .have hdf:u4 a keep i k=false:=by rw [hd,aW];intro F;simp at F;simp_all
    have Y:=wa Y hdf;exact wo (h:=wx m (k+1) ⟨(b++(if u4 a keep i k=true then [(i,k)] else [])),wg,wn,wn,wj,wj,(by rw [tX _ _ bZ,<- List.append_assoc,<- r]),(f)⟩)
  .have hJ:k=a.length:=bZ;subst hJ;subst r;exact wo (h:=wx y (i+1) ⟨(d++mQ a keep i (a.length - (i+1))),wg,wn,wn,wj,(by rw [EL,<- s])⟩)
 .have hX:sL a keep=d:=by rw [s,(bZ:i=a.length)];rfl
  exact wv (h:=G _ _ (by simp [go_sem,Y,hX]))
theorem DN {a keep:Xa0}(h:a.length<=1000):(sL a keep).length<=1000000:=by
 have c:=xW a keep a.length;have b:a.length * a.length<=1000 * 1000:=kZ h h;unfold sL;omega
theorem HE (l g:Graph)(keep m:Part)(p:keep.h.length<=1000000)(e:m.h.length<=1000)(c:m.i.length<=1000)(k:g.h.length<=1000000)(f:g.i.length<=1000000):Pua 86 [l.d,g.d,keep.d,m.d] (.tup [(j4 l g keep m).d,dI (jC l g keep m)]):=by
 have r:=DN (keep:=keep.h) e;have q:=DN (keep:=keep.i) c;refine Tz.pK ⟨λt=>t==8,λ_=>[]⟩ func86 rfl (λQ i=>?_);have Y:=trivial;refine wv (h:=aB (On l g keep m p) wl ?_);refine c8 (λj=>?_) λj=>?_
 .have a:jC l g keep m=compG l g keep m:=if_pos j;have b:j4 l g keep m=⟨[],[]⟩:=if_neg (by rw [a];exact j);exact wv (h:=i _ _ (by simp [go_sem,a,b]))
 .have a:jC l g keep m=if 0<(sL m.h keep.h).length+(sL m.i keep.i).length then 15 else if 0<(B0 g m.i (iJ m.h keep.h)).length then 14 else 0:=if_neg (by rw [j];simp)
  refine wo (h:=aI (w9 m.h keep.h e) wl ?_);refine wo (h:=aI (w9 m.i keep.i c) wl ?_);refine dW (λo=>?_) λo=>?_
  .rw [if_pos bZ] at a;have b:j4 l g keep m=⟨[],[]⟩:=if_neg (by rw [a];simp);exact wv (h:=i _ _ (by simp [go_sem,a,b]))
  .rw [if_neg (by first|omega|simp [o])] at a;refine wo (h:=aB (HD l g keep m bZ f) wl ?_);refine dW (λn=>?_) λn=>?_
   .rw [if_pos bZ] at a;have b:j4 l g keep m=⟨[],[]⟩:=if_neg (by rw [a];simp);exact wv (h:=i _ _ (by simp [go_sem,a,b]))
   .rw [if_neg (by first|omega|simp [n])] at a;have b:j4 l g keep m=⟨aN (iJ m.h keep.h) g.h.length,aN (iJ m.i keep.i) g.i.length⟩:=if_pos a;refine wo (h:=aI (Ch m.h keep.h bZ) wl ?_);refine wo (h:=aI (HC (iJ m.h keep.h) g.h.length k) wl ?_);refine wo (h:=aI (Ch m.i keep.i bZ) wl ?_);refine wo (h:=aI (HC (iJ m.i keep.i) g.i.length f) wl ?_);exact wo (h:=i _ _ (by simp [go_sem,a,b]))
theorem yA (a keep:Xa0)(A:a.length<=1000):Pua 227 [dLI a,dLI keep] (.list ((sL a keep).map cPr)):=by
 refine Tz.pK ⟨λt=>t==5,λ_=>[]⟩ func227 rfl (λQ G=>?_);have Y:=trivial;refine wo (h:=bC (λi e H=>∃ d:List (Nat × Nat),(e 0=dLI a/\e 1=dLI keep/\e 9=dI a.length/\e 5=.own 0 d.length/\e 10=dI i)/\(H.get 0=some ⟨275,2,d.map cPr,false⟩)/\(0<H.next)/\(i<=a.length)/\(d=Gu a keep i)) (λi=>a.length - i) 0 ⟨([]),wg,wn,wn,wi,(by rfl)⟩ λP y i e H w=>?_);obtain ⟨d,K,o,l,L,s⟩:=w;have Y:=xa2 Y K o (bP l);refine c8 (λg=>?_) λg=>?_
 .have Y:=xa1 Y g (aA g);refine wo (h:=bC (λk e H=>∃ b:List (Nat × Nat),(e 0=dLI a/\e 1=dLI keep/\e 9=dI a.length/\e 5=.own 0 b.length/\e 6=dI i/\e 10=dI i/\e 7=dI k)/\(H.get 0=some ⟨275,2,b.map cPr,false⟩)/\(0<H.next)/\(i+1<=k)/\(k<=a.length)/\(b=d++mQ a keep i (k - (i+1)))/\(b.length<=1000000)) (λk=>a.length - k) (i+1) ⟨d,wg,wn,wn,wi,wi,(by simp [mQ]),(by have:=xW a keep i;have:i * a.length<=1000 * 1000:=kZ bZ A;rw [s];omega)⟩ λO m k e H v=>?_);obtain ⟨b,J,n,j,E,D,r,C⟩:=v;have Y:=xa2 Y J n (bP j);refine dW (λu=>?_) λu=>?_
  .have hd:=Vo (keep:=keep) g u;have f:(b++(if u4 a keep i k=true then [(i,k)] else [])).length<=1000000:=by
    have I:b++(if u4 a keep i k=true then [(i,k)] else [])=Gu a keep i++mQ a keep i (k+1 - (i+1)):=by rw [tX _ _ bZ,<- List.append_assoc,r,s]
    rw [I,aQ];have N:=xW a keep i;have M:=Cy a keep i (k+1 - (i+1));have g:i * a.length+a.length<=1000 * 1000:=by
     have:=kZ (bZ:i+1<=1000) A;rw [Nat.add_mul] at this;omega
    omega
   have Y:=xa3 Y g (aA g) u (aA u);refine wo (h:=fX (λx=>eX keep i) (λx=>wl) ?_);refine wo (h:=fX (λx=>eX keep k) (λx=>wl) ?_);refine dW (λB=>?_) λB=>?_
   .have hdt:u4 a keep i k=true:=by rw [hd];simpa using B
    have Y:=xa1 Y hdt @cPr.eq_1;exact wo (h:=wx m (k+1) ⟨(b++(if u4 a keep i k=true then [(i,k)] else [])),wg,wn,wn,wj,wj,(by rw [tX _ _ bZ,<- List.append_assoc,<- r]),(f)⟩)
   .have hdf:u4 a keep i k=false:=by rw [hd,aW];intro F;simp at F;simp_all
    have Y:=wa Y hdf;exact wo (h:=wx m (k+1) ⟨(b++(if u4 a keep i k=true then [(i,k)] else [])),wg,wn,wn,wj,wj,(by rw [tX _ _ bZ,<- List.append_assoc,<- r]),(f)⟩)
  .have hJ:k=a.length:=bZ;subst hJ;subst r;exact wo (h:=wx y (i+1) ⟨(d++mQ a keep i (a.length - (i+1))),wg,wn,wn,wj,(by rw [EL,<- s])⟩)
 .have hX:sL a keep=d:=by rw [s,(bZ:i=a.length)];rfl
  exact wv (h:=G _ _ (by simp [go_sem,Y,hX]))
def vM (n:Nat)(l:Xa0):List Bool:=l.foldl (λacc x=>acc.set x.toNat true) (List.replicate n false)
theorem H7 (n:Nat)(l:Xa0)(x:Int):vM n (l++[x])=(vM n l).set x.toNat true:=by unfold vM;rw [GU];rfl
theorem ED (n:Nat)(l:Xa0):(vM n l).length=n:=by
 unfold vM;have:∀ (l:Xa0) (a:List Bool),a.length=n->(l.foldl (λb x=>b.set x.toNat true) a).length=n:=by
  intro l;induction l with
  | nil=>intro a h;exact h
  | cons x l ih=>intro a h;exact ih _ (eL h)
 grind
theorem TC (n:Nat):∀ (l:Xa0),(∀ x∈l,0<=x/\x<n)->∀ i:Nat,i<n->(vM n l)[i]?=some (mem l i):=by
 have:∀ (l:Xa0) (a:List Bool),a.length=n->(∀ x∈l,0<=x/\x<n)->∀ i:Nat,i<n->(l.foldl (λf x=>f.set x.toNat true) a)[i]?=some (a[i]?.getD false||mem l i):=by
  intro l;induction l with
  | nil=>intro a h _ i d;rw [List.foldl_nil,aA bZ,Ds];simp
  | cons x l ih =>
   intro a h e i d;have m:=e x eG;rw [wW,ih _ (eL h) (λy j=>e y (by simp [j])) i d];congr 1;have k:mem (x :: l) (i:Int)=(decide ((i:Int)=x)||mem l i):=by
    rw [aU,mem_iff,c5,mem_iff,decide_eq_true_eq,aS]
   rw [k];by_cases g:x.toNat=i
   .subst g;rw [zF bZ];grind
   .rw [s9 g];have:¬ ((i:Int)=x):=bZ;simp [this]
 intro l e i d;unfold vM;rw [this l _ eG e i d];simp [d]
theorem zR (n:Nat)(Z:n<=1000000)(d keep:Xa0)(S:d.length<=1000000)(A:∀ x∈d,0<=x/\x<n):Pua 145 [dI n,dLI d,dLI keep] (dLI (aN (iJ d keep) n)):=by
 refine Tz.pK ⟨λt=>t==14||t==10,λ_=>[]⟩ func145 rfl (λQ V=>?_);have Y:=trivial;refine wo (h:=bC (λi e H=>∃ a:Xa0,(e 0=dI n/\e 2=dLI keep/\e 15=dLI d/\e 16=dI d.length/\e 7=.own 0 n/\e 17=dI i)/\(H.get 0=some ⟨4,1,(vM n a).map cB,false⟩)/\(0<H.next)/\(i<=d.length)/\((vM n a).length=n)/\(a=((List.range i).filter λ(b:Nat)=>!mem keep b).map (λi=>d[i]?.getD 0))) (λi=>d.length - i) 0 ⟨([]),wg,(by simp [go_sem,vM,cB]),wn,wi,(ED _ _),(by rfl)⟩ λI0 D i e H K=>?_);obtain ⟨a,X,F,y,hi,L,I⟩:=K;have Y:=xa2 Y X F (bP y);refine c8 (λu=>?_) λu=>?_
 .have hb:=A _ (aC u);have N:d[i].toNat<(vM n a).length:=bZ;have Y:=xa2 Y u (aA u) (aA N);refine wo (h:=aB (eX keep i) wl ?_);refine dW (λO=>?_) λO=>?_
  .have Y:=wa Y O;exact wo (h:=wx D (i+1) ⟨(a++(if (!mem keep i)=true then [d[i]] else [])),wg,(by simp [go_sem,Y,H7,cB]),wn,wj,(ED _ _),(by rw [rM _ _ u,<- I])⟩)
  .have Y:=wa Y O;exact wo (h:=wx D (i+1) ⟨(a++(if (!mem keep i)=true then [d[i]] else [])),wg,(by simp [go_sem,Y]),wn,wj,(ED _ _),(by rw [rM _ _ u,<- I])⟩)
 .have B:iJ d keep=a:=by rw [I,(bZ:i=d.length)];rfl
  have M:∀ x∈a,0<=x/\x<n:=λx z=>by
   rw [<- B,pS] at z;obtain ⟨j,_,_,h⟩:=z;exact A x (aM h)
  refine wo (h:=bC (λk e H=>∃ m:Xa0,∃ c:Nat,(e 0=dI n/\e 2=dLI keep/\e 15=dLI d/\e 16=dI d.length/\e 30=.own 0 n/\e 31=dI n/\e 32=dI k/\e 10=.own c m.length)/\(H.get 0=some ⟨4,1,(vM n a).map cB,false⟩)/\(0<H.next)/\(H.get c=some ⟨3,1,m.map cI,false⟩)/\(c<H.next)/\(c≠0)/\(k<=n)/\(m.length<=k)/\(m=((List.range k).filter λ(b:Nat)=>!mem a b).map (λ(b:Nat)=>(b:Int)))) (λk=>n - k) 0 ⟨([]),H.next,wg,wn,wn,wn,wn,bZ,wi,eG,(by rfl)⟩ λI2 C k e H J=>?_);obtain ⟨m,c,W,E,w,l,g,U,hk,hl,o⟩:=J;have P:=dE (bZ:0≠c);have Y:=xa6 Y W E (bP w) l (bP g) L P;refine c8 (λq=>?_) λq=>?_
  .have hkm:k<(vM n a).length:=bZ;have T:(vM n a)[k]=mem a k:=by have:=TC n a M k q;rw [aA hkm] at this;exact Option.some.inj this
   have Y:=xa2 Y q (aA hkm) T;refine dW (λp=>?_) λp=>?_
   .have Y:=wa Y p;exact wo (h:=wx C (k+1) ⟨(m++(if (!mem a k)=true then [(k:Int)] else [])),c,wg,wn,wn,wn,wn,bZ,wj,(by rw [aQ];split<;>simp<;>omega),(by rw [b8,<- o])⟩)
   .have Y:=wa Y p;exact wo (h:=wx C (k+1) ⟨(m++(if (!mem a k)=true then [(k:Int)] else [])),c,wg,wn,wn,wn,wn,bZ,wj,(by rw [aQ];split<;>simp<;>omega),(by rw [b8,<- o])⟩)
  .exact wv (h:=V _ _ (by simp [go_sem,Y,B,aN];rw [o,(bZ:k=n)];simp))
def gluC (l g:Graph)(keep m:Part):Xa2:=[dLI l.h,.list (l.i.map Edge.c),dLI g.h,.list (g.i.map Edge.c),dLI keep.h,dLI keep.i,dLI m.h,dLI m.i]
theorem EP (l g:Graph)(keep m:Part)(c:keep.h.length<=1000000):Pua 142 [.agg (gluC l g keep m)] (dI (compG l g keep m)):=by
 refine Tz.p0 func142 rfl λQ b _=>?_;have Y:=@gluC.eq_1;refine wv (h:=aB (gQ l g m) wl ?_);refine c8 (λa=>?_) λa=>?_
 .have Y:=xa1 Y a @compG.eq_1;exact wv (h:=b _ _ wy)
 .refine wv (h:=aB (t8 l keep c) wl ?_);have Y:=xa1 Y a @compG.eq_1;exact wv (h:=b _ _ wy)
theorem CC (l g:Graph)(keep m:Part)(x:m.h.length<=1000000):Pua 228 [.agg (gluC l g keep m)] (dLI (iJ m.h keep.h)):=by
 refine Tz.pK ⟨λt=>t==3,λ_=>[]⟩ func228 rfl (λQ u=>?_);have Y:=@gluC.eq_1;refine wo (h:=bC (λi e H=>∃ a:Xa0,(e 1=.adr (gluC l g keep m)/\e 8=dLI m.h/\e 9=dI m.h.length/\e 3=.own 0 a.length/\e 10=dI i)/\(H.get 0=some ⟨3,1,a.map cI,false⟩)/\(0<H.next)/\(i<=m.h.length)/\(a.length<=i)/\(a=((List.range i).filter λ(b:Nat)=>!mem keep.h b).map (λi=>m.h[i]?.getD 0))) (λi=>m.h.length - i) 0 ⟨([]),wg,wn,wn,wi,eG,(by rfl)⟩ λB f i e H o=>?_);obtain ⟨a,v,k,d,z,y,n⟩:=o;have Y:=xa2 Y v k (bP d);refine c8 (λj=>?_) λj=>?_
 .have Y:=xa1 Y j (aA j);refine wo (h:=aB (eX keep.h i) wl ?_);refine dW (λp=>?_) λp=>?_
  .have Y:=wa Y p;exact wo (h:=wx f (i+1) ⟨(a++(if (!mem keep.h i)=true then [m.h[i]] else [])),wg,wn,wn,wj,(by rw [aQ];split<;>simp<;>omega),(by rw [rM _ _ j,<- n])⟩)
  .have Y:=wa Y p;exact wo (h:=wx f (i+1) ⟨(a++(if (!mem keep.h i)=true then [m.h[i]] else [])),wg,wn,wn,wj,(by rw [aQ];split<;>simp<;>omega),(by rw [rM _ _ j,<- n])⟩)
 .refine wv (h:=?_);have s:iJ m.h keep.h=a:=by rw [n,(bZ:i=m.h.length)];rfl
  exact u _ _ (by simp [go_sem,Y,s])
theorem BG (l g:Graph)(keep m:Part)(x:m.h.length<=1000000)(o:g.i.length<=1000000):Pua 144 [.agg (gluC l g keep m)] (dLI (B0 g m.i (iJ m.h keep.h))):=by
 obtain ⟨d,s⟩:=gI (iJ m.h keep.h);refine Tz.pK ⟨λt=>t==6||t==4,λ_=>[]⟩ func144 rfl (λQ z=>?_);have Y:=wa s @gluC.eq_1;refine wv (h:=aB ((by have:=CC l g keep m x;simp only [gluC] at this;exact this)) wl ?_);refine wo (h:=bC (λk e H=>∃ a:Xa0,(e 1=.adr (gluC l g keep m)/\e 3=dLI d/\e 11=.list (g.i.map Edge.c)/\e 12=dI g.i.length/\e 4=.own 0 a.length/\e 13=dI k)/\(H.get 0=some ⟨3,1,a.map cI,false⟩)/\(0<H.next)/\(k<=g.i.length)/\(a.length<=k)/\(a=((List.range k).filter (AZ g m.i d)).map (λ(b:Nat)=>(b:Int)))) (λk=>g.i.length - k) 0 ⟨([]),wg,wn,wn,wi,eG,(by rfl)⟩ λI j k e H r=>?_);obtain ⟨a,C,n,i,F,E,q⟩:=r;have Y:=xa2 Y C n (bP i);refine c8 (λp=>?_) λp=>?_
 .have hdb:=Pt (me:=m.i) (gone:=d) p;have B:=eX d g.i[k].B;have A:=eX d g.i[k].O;have Y:=xa3 Y p (aA p) hdb @Edge.c.eq_1;refine wo (h:=aB (eX m.i k) wl ?_);refine wo (h:=aG (λo=>B) (λo=>wl) ?_);refine wo (h:=aG (λo=>A) (λo=>wl) ?_);refine dW (λu=>?_) λu=>?_
  .have Y:=wa Y u;exact wo (h:=wx j (k+1) ⟨(a++(if AZ g m.i d k=true then [(k:Int)] else [])),wg,wn,wn,wj,(by rw [aQ];split<;>simp<;>omega),(by rw [b8,<- q])⟩)
  .have Y:=wa Y u;exact wo (h:=wx j (k+1) ⟨(a++(if AZ g m.i d k=true then [(k:Int)] else [])),wg,wn,wn,wj,(by rw [aQ];split<;>simp<;>omega),(by rw [b8,<- q])⟩)
 .refine wv (h:=?_);have y:B0 g m.i d=a:=by rw [q,(bZ:k=g.i.length)];rfl
  exact z _ _ (by simp [go_sem,Y,y])
theorem z8 (l g:Graph)(keep m:Part)(c:m.h.length<=1000)(b:m.i.length<=1000):Pua 143 [.agg (gluC l g keep m)] (.tup [.list ((sL m.h keep.h).map cPr),.list ((sL m.i keep.i).map cPr)]):=by
 refine Tz.p0 func143 rfl λQ a _=>?_;have Y:=@gluC.eq_1;refine wv (h:=aI (yA m.h keep.h c) wl ?_);refine wv (h:=aI (yA m.i keep.i b) wl ?_);exact wv (h:=a _ _ wy)
theorem jT {a b:Graph}{m:Part}(h:cY a b m=0):(∀ x∈m.h,0<=x/\x<b.h.length)/\∀ x∈m.i,0<=x/\x<b.i.length:=by
 obtain ⟨_,_,j,g⟩:=dA h;have d:cY a b m=(if bS (kO a b m) 0 a.h.length≠0 then bS (kO a b m) 0 a.h.length else bS (jA a b m) 0 a.i.length):=by
  obtain ⟨f,e,_,_⟩:=dA h;unfold cY;rw [if_neg (by simp [f]),if_neg (by simp [e]),if_neg bZ]
 rw [d] at h;split at h
 .rename_i h5;exact absurd h h5
 .rename_i h5;constructor
  .intro x hx;obtain ⟨i,c,rfl⟩:=aO hx;have:=fD _ _ (bZ:bS (kO a b m) 0 a.h.length=0) i bZ bZ;unfold kO at this;grind
  .intro x hx;obtain ⟨i,c,rfl⟩:=aO hx;have:=fD _ _ h i bZ bZ;unfold jA at this;grind
theorem wL (l g:Graph)(keep m:Part)(s:keep.h.length<=1000000)(i:m.h.length<=1000)(f:m.i.length<=1000)(o:g.h.length<=1000000)(k:g.i.length<=1000000):Pua 72 [l.d,g.d,keep.d,m.d] (.tup [(j4 l g keep m).d,dI (jC l g keep m)]):=by
 have v:=DN (keep:=keep.h) i;have u:=DN (keep:=keep.i) f;refine Tz.pK ⟨λt=>t==8||t==10,λ_=>[]⟩ func72 rfl (λQ n=>?_);have Y:=trivial;refine wv (h:=aB ((by have:=EP l g keep m s;simp only [gluC] at this;exact this)) wl ?_);refine c8 (λe=>?_) λe=>?_
 .have b:jC l g keep m=compG l g keep m:=if_pos e;have c:j4 l g keep m=⟨[],[]⟩:=if_neg (by rw [b];exact e);exact wv (h:=n _ _ (by simp [go_sem,b,c]))
 .have b:jC l g keep m=if 0<(sL m.h keep.h).length+(sL m.i keep.i).length then 15 else if 0<(B0 g m.i (iJ m.h keep.h)).length then 14 else 0:=if_neg (by rw [e];simp)
  have j:(∀ x∈m.h,0<=x/\x<g.h.length)/\∀ x∈m.i,0<=x/\x<g.i.length:=jT (a:=l) (by unfold compG at e;by_cases p:cY l g m=0;exact p;rw [if_pos p] at e;exact e);refine wv (h:=aB ((by have:=z8 l g keep m i f;simp only [gluC] at this;exact this)) wl ?_);refine dW (λr=>?_) λr=>?_
  .rw [if_pos bZ] at b;have c:j4 l g keep m=⟨[],[]⟩:=if_neg (by rw [b];simp);exact wv (h:=n _ _ (by simp [go_sem,b,c]))
  .rw [if_neg (by first|omega|simp [r])] at b;refine wo (h:=aB ((by have:=BG l g keep m bZ k;simp only [gluC] at this;exact this)) wl ?_);refine dW (λq=>?_) λq=>?_
   .rw [if_pos bZ] at b;have c:j4 l g keep m=⟨[],[]⟩:=if_neg (by rw [b];simp);exact wv (h:=n _ _ (by simp [go_sem,b,c]))
   .rw [if_neg (by first|omega|simp [q])] at b;have c:j4 l g keep m=⟨aN (iJ m.h keep.h) g.h.length,aN (iJ m.i keep.i) g.i.length⟩:=if_pos b;refine wo (h:=aI (zR g.h.length o m.h keep.h bZ j.1) wl ?_);refine wo (h:=aI (zR g.i.length k m.i keep.i bZ j.2) wl ?_);exact wo (h:=n _ _ (by simp [go_sem,b,c]))
theorem AV (n:Nat)(p:n<=1000000)(a b:Xa0):Pua 141 [dI n,dLI a,dLI b] (.bool (A0 a b n)):=by
 refine Tz.p0 func141 rfl λQ k Y=>?_;refine wv (h:=bC (λi e H=>(e 1=dLI a/\e 2=dLI b/\e 8=dI n/\e 9=dI i)/\(i<=n)/\((List.range i).all (λ(i:Nat)=>mem a i||mem b i)=true)) (λi=>n - i) 0 ⟨wg,wi,(by rfl)⟩ λr f i e H d=>?_);obtain ⟨o,q,j⟩:=d;have Y:=wa Y o;refine c8 (λg=>?_) λg=>?_
 .have Y:=wa Y g;refine wo (h:=aB (eX a i) wl ?_);refine wo (h:=aG (λl=>eX b i) (λl=>wl) ?_);refine dW (λc=>?_) λc=>?_
  .exact wv (h:=k _ _ (by simp [go_sem,Lu g (show (mem a i||mem b i)=false by simpa using c)]))
  .exact wo (h:=wx f (i+1) ⟨wg,wj,(by rw [IL j];simp at c ⊢;exact Decidable.or_iff_not_imp_left.2 λh=>c (eL h))⟩)
 .refine wv (h:=?_);have m:A0 a b n=true:=by rw [<- j,(bZ:i=n)];rfl
  exact k _ _ (by simp [go_sem,m])
theorem Db (n:Nat)(p:n<=1000000)(a b:Xa0):Pua 160 [dLI a,dLI b,dI n] (.bool (A0 a b n)):=by
 refine Tz.p0 func160 rfl λQ k Y=>?_;refine wv (h:=bC (λi e H=>(e 0=dLI a/\e 1=dLI b/\e 2=dI n/\e 7=dI i)/\(i<=n)/\((List.range i).all (λ(i:Nat)=>mem a i||mem b i)=true)) (λi=>n - i) 0 ⟨wg,wi,(by rfl)⟩ λr f i e H d=>?_);obtain ⟨o,q,j⟩:=d;have Y:=wa Y o;refine c8 (λg=>?_) λg=>?_
 .have Y:=wa Y g;refine wo (h:=aB (Om a i) wl ?_);refine wo (h:=aG (λl=>Om b i) (λl=>wl) ?_);refine dW (λc=>?_) λc=>?_
  .exact wv (h:=k _ _ (by simp [go_sem,Lu g (show (mem a i||mem b i)=false by simpa using c)]))
  .exact wo (h:=wx f (i+1) ⟨wg,wj,(by rw [IL j];simp at c ⊢;exact Decidable.or_iff_not_imp_left.2 λh=>c (eL h))⟩)
 .refine wv (h:=?_);have m:A0 a b n=true:=by rw [<- j,(bZ:i=n)];rfl
  exact k _ _ (by simp [go_sem,m])
theorem Iz (a b x:Graph)(h k:Part)(e:x.h.length<=1000000)(c:x.i.length<=1000000):Pua 71 [a.d,b.d,x.d,h.d,k.d] (.bool (jointB a b x h k)):=by
 refine Tz.p0 func71 rfl λQ i Y=>?_;refine wo (h:=aB (gQ a x h) wl ?_);refine wo (h:=aG (λf=>gQ b x k) (λf=>wl) ?_);refine dW (λg=>?_) λg=>?_
 .have Y:=xa1 Y g @jointB.eq_1;exact wv (h:=i _ _ wy)
 .refine wo (h:=aB (AV x.h.length e h.h k.h) wl ?_);refine wo (h:=aG (λf=>AV x.i.length c h.i k.i) (λf=>wl) ?_);have Y:=xa1 Y g @jointB.eq_1;exact wo (h:=i _ _ wy)
theorem JQ (a b x:Graph)(h k:Part)(f:x.h.length<=1000000)(e:x.i.length<=1000000):Pua 84 [a.d,b.d,x.d,h.d,k.d] (.bool (jointB a b x h k)):=by
 refine Tz.p0 func84 rfl λQ g Y=>?_;refine wo (h:=aB (kA a x h) wl ?_);refine wo (h:=aG (λc=>kA b x k) (λc=>wl) ?_);refine wo (h:=aG (λc=>Db x.h.length f h.h k.h) (λc=>wl) ?_);refine wo (h:=aG (λc=>Db x.i.length e h.i k.i) (λc=>wl) ?_);exact wo (h:=g _ _ (by simp [go_sem,jointB,gA]))
structure Ovl where
 j:Graph
 left:Part
 right:Part
def Ovl.c (o:Ovl):Xa2:=[dLI o.j.h,.list (o.j.i.map Edge.c),dLI o.left.h,dLI o.left.i,dLI o.right.h,dLI o.right.i]
def Ovl.d (o:Ovl):D:=.agg o.c
@[go_sem] theorem Ovl.W (o:Ovl):D.N o.c=true:=by simp [Ovl.c,D.N,D.W,qU,pT]
@[go_sem] theorem afI (o:Ovl):o.d.W=true:=by grind [Ovl.d, D.W, Ovl.W]
@[go_sem] theorem aeH (l:List Ovl):D.V (l.map Ovl.c)=true:=dU _ Ovl.W l
def qJ (n:Nat):Xa0:=(List.range n).map λ(k:Nat)=>(k:Int)
theorem KQ (i:Nat):qJ (i+1)=qJ i++[(i:Int)]:=by simp [qJ,dM]
theorem Do (n:Nat):(qJ n).length=n:=by simp [qJ]
theorem Dd (n:Nat)(l:n<=100000):Pua 271 [dI n] (dLI (qJ n)):=by
 refine Tz.pK ⟨λt=>t==3,λ_=>[]⟩ func271 rfl (λQ j=>?_);have Y:=trivial;refine wv (h:=bC (λi e H=>(e 0=dI n/\e 3=.own 0 i/\e 4=dI i)/\(H.get 0=some ⟨3,1,(qJ i).map cI,false⟩)/\(0<H.next)/\(i<=n)/\((qJ i).length=i)) (λi=>n - i) 0 ⟨wg,(by rfl),wn,wi,(by exact Do _)⟩ λo d i e H c=>?_);obtain ⟨k,b,a,m,g⟩:=c;have Y:=xa3 Y k b (bP a) g;refine c8 (λf=>?_) λf=>?_
 .have Y:=wa Y f;exact wo (h:=wx d (i+1) ⟨wg,(by simp [go_sem,Y,KQ]),wn,wj,(by exact Do _)⟩)
 .have hie:i=n:=bZ;subst hie;have Y:=wa Y f;exact wv (h:=j _ _ wy)
theorem Ux (g:Graph)(a:g.h.length<=100000)(b:g.i.length<=100000):Pua 193 [g.d] (Part.d ⟨qJ g.h.length,qJ g.i.length⟩):=by
 refine Tz.pK ⟨λt=>t==2,λ_=>[]⟩ func193 rfl (λQ c=>?_);have Y:=trivial;refine wo (h:=aI (Dd g.h.length a) wl ?_);refine wo (h:=aI (Dd g.i.length b) wl ?_);exact wo (h:=c _ _ wy)
theorem UL (n i:Nat)(b:i<n):(qJ i++List.replicate (n - i) 0).set i (i:Int)=qJ (i+1)++List.replicate (n - (i+1)) 0:=by
 obtain ⟨k,a⟩:∃ k,n - i=k+1:=⟨n - i - 1,bZ⟩;rw [a,(bZ:n - (i+1)=k),KQ,p5,nO _ _ (by rw [Do];omega),Do];simp
theorem xJ (n:Nat)(p:n<=100000):Pua 267 [dI n] (dLI (qJ n)):=by
 refine Tz.pK ⟨λt=>t==6,λ_=>[]⟩ func267 rfl (λQ m=>?_);have Y:=trivial;refine wo (h:=bC (λi e H=>∃ a:Xa0,(e 7=.own 0 n/\e 3=.own 0 n/\e 8=dI n/\e 9=dI i)/\(H.get 0=some ⟨3,1,a.map cI,false⟩)/\(0<H.next)/\(i<=n)/\(a.length=n)/\(a=qJ i++List.replicate (n - i) 0)) (λi=>n - i) 0 ⟨(List.replicate n 0),wg,(by simp [go_sem,cI]),wn,wi,(by simp),(by simp [qJ])⟩ λr g i e H f=>?_);obtain ⟨a,o,c,b,q,k,j⟩:=f;have Y:=xa3 Y o c (bP b) k;refine c8 (λd=>?_) λd=>?_
 .have hv:i<a.length:=bZ;have Y:=xa1 Y d (aA hv);exact wo (h:=wx g (i+1) ⟨(a.set i (i:Int)),wg,(by simp [go_sem,Y,bJ,cI]),wn,wj,(by simp [k]),(by rw [j];exact UL n i d)⟩)
 .have hie:i=n:=bZ;subst hie;have l:a=qJ i:=by rw [j];simp
  subst l;have Y:=wa Y d;exact wv (h:=m _ _ wy)
theorem Dr (g:Graph)(a:graphF g=0):Pua 185 [g.d] (.tup [Part.d ⟨qJ g.h.length,qJ g.i.length⟩,dI 0]):=by
 have c:=aY a;refine Tz.pK ⟨λt=>t==2,λ_=>[]⟩ func185 rfl (λQ b=>?_);have Y:=a;refine wv (h:=aB (lK g) wl ?_);refine wo (h:=aI (xJ g.h.length bZ) wl ?_);refine wo (h:=aI (xJ g.i.length bZ) wl ?_);exact wo (h:=b _ _ wy)
theorem PJ:Own prog 186 [.nil] 153 3 []:=by
 refine Tz.oK ⟨λt=>t==2||t==5,λ_=>[]⟩ func186 rfl (λQ a=>?_);have Y:=trivial;refine wv (h:=?_);exact a _ _ _ (by simp [go_sem]<;>first|omega|(rw [aU];simp<;>omega)|(simp_all<;>omega)) (by simp [go_sem]<;>first|omega|(rw [aU];simp<;>omega)|(simp_all<;>omega))
theorem PH:Own prog 186 [.ne] 153 3 []:=by
 refine Tz.oK ⟨λt=>t==2||t==5,λ_=>[]⟩ func186 rfl (λQ a=>?_);have Y:=trivial;refine wo (h:=?_);exact a _ _ _ (by simp [go_sem]<;>first|omega|(rw [aU];simp<;>omega)|(simp_all<;>omega)) (by simp [go_sem]<;>first|omega|(rw [aU];simp<;>omega)|(simp_all<;>omega))
theorem PI (l:List Edge)(d:l.length<=1000000)(a:l≠[]):Own prog 186 [.list (l.map Edge.c)] 153 3 (l.map Edge.c):=by
 refine Tz.oK ⟨λt=>t==2||t==5,λ_=>[]⟩ func186 rfl (λQ b=>?_);have Y:=a;refine wo (h:=?_);exact b _ _ _ (by simp [go_sem]<;>first|omega|(rw [aU];simp<;>omega)|(simp_all<;>omega)) (by simp [go_sem]<;>first|omega|(rw [aU];simp<;>omega)|(simp_all<;>omega))
theorem CD (l:List Edge)(b:l.length<=1000000):Own prog 186 [.list (l.map Edge.c)] 153 3 (l.map Edge.c):=by
 by_cases a:l=[]
 .subst a;exact EB PJ PH
 .exact PI l b a
def o8 (a b:Graph)(ns:Xa0):Nat->Xa0 × Xa0
 | 0=>(a.h,[])
 | i+1=>if ns[i]?.getD 0<0 then ((o8 a b ns i).1++[b.h[i]?.getD 0],(o8 a b ns i).2++[((o8 a b ns i).1.length:Int)]) else ((o8 a b ns i).1,(o8 a b ns i).2++[ns[i]?.getD 0])
def qP (b:Graph)(rn:Xa0)(i:Nat):Edge:=⟨(b.i[i]?.getD bX).type,rn[(b.i[i]?.getD bX).B.toNat]?.getD 0,rn[(b.i[i]?.getD bX).O.toNat]?.getD 0⟩
def qQ (a b:Graph)(rn es:Xa0):Nat->List Edge × Xa0
 | 0=>(a.i,[])
 | i+1=>if es[i]?.getD 0<0 then ((qQ a b rn es i).1++[qP b rn i],(qQ a b rn es i).2++[((qQ a b rn es i).1.length:Int)]) else ((qQ a b rn es i).1,(qQ a b rn es i).2++[es[i]?.getD 0])
def XI (a b:Graph)(ns es:Xa0):Ovl :=
 ⟨⟨(o8 a b ns ns.length).1,(qQ a b (o8 a b ns ns.length).2 es es.length).1⟩,⟨qJ a.h.length,qJ a.i.length⟩,⟨(o8 a b ns ns.length).2,(qQ a b (o8 a b ns ns.length).2 es es.length).2⟩⟩
theorem AQ (a b:Graph)(ns:Xa0):∀ i,(o8 a b ns i).2.length=i/\a.h.length<=(o8 a b ns i).1.length/\(o8 a b ns i).1.length<=a.h.length+i
 | 0=>⟨rfl,bD _,bD _⟩
 | i+1=>by
  have:=AQ a b ns i;simp only [o8];split<;>simp<;>omega
theorem Iq (a b:Graph)(rn es:Xa0):∀ i,(qQ a b rn es i).2.length=i/\a.i.length<=(qQ a b rn es i).1.length/\(qQ a b rn es i).1.length<=a.i.length+i
 | 0=>⟨rfl,bD _,bD _⟩
 | i+1=>by
  have:=Iq a b rn es i;simp only [qQ];split<;>simp<;>omega
theorem Mt (g:Graph)(b:g.h.length<=100000)(e:g.i.length<=100000):VS prog 176 [g.d] ⟨3,1,g.h.map cI,false⟩ ⟨153,3,g.i.map Edge.c,false⟩:=by
 refine abT (hcl1:=mO _) (hcl2:=pT _) (h:=λQ a=>?_);refine (Tz.cK ⟨λt=>t==2||t==3||t==7,λr=>match r with|1=>[(0,1),(0,2),(0,4),(1,4),(2,4),(3,4),(0,5),(3,5),(4,5),(0,6),(3,6),(4,6)]|_=>[]⟩ func176 rfl ?_);have Y:=trivial;refine wo (h:=?_);exact a _ _ _ _ _ bZ eG eG (by simp [go_sem]) (by simp [go_sem])
theorem JO (a b:Graph)(ha:graphF a=0)(hb:graphF b=0)(ns es:Xa0)(b9:ns.length=b.h.length)(he:es.length<=b.i.length):Pua 113 [a.d,b.d,dLI ns,dLI es] (XI a b ns es).d:=by
 have c1:=aY ha;have c0:=aY hb;have a9:∀ x∈b.i,(0<=x.B/\x.B<b.h.length)/\(0<=x.O/\x.O<b.h.length):=λx hx=>((dO hb).2 x hx).2;refine HN (by first|rfl|(simp [go_sem];done)) (λQ hQ=>ACalls.b1 2 (Tz.cK ⟨λt=>t==8||t==9||t==14||t==16,λr=>match r with|1=>[(1,2),(0,5),(1,5),(2,5),(3,5)]|8=>[(0,8),(1,8),(2,8)]|17=>[(0,20),(1,20),(2,20)]|_=>[]⟩ func113 rfl ?_));have Y:=trivial;refine wv (h:=?_);refine Pr 0 1 (Mt a bZ bZ) (by first|rfl|(simp [go_sem];done)) rfl bZ (by first|omega|simp [go_sem]) (by first|omega|simp [go_sem]) (by simp [j8,mV,v8,rW]) (by simp [j8,mV,v8,rW]) (by first|trivial|(simp [go_sem];done)|simp [go_sem,BH]) ?_;refine wv (h:=aI (Ux a bZ bZ) wl ?_);refine wv (h:=nE (Ghosts.step (Ghosts.refl _) 8 0 4 3 1 _ _ (rfl) rfl rfl rfl) (λi e H=>∃ p:Xa0,∃ f:Xa0,(e 2=dLI ns/\e 3=dLI es/\e 5=.adr b.c/\e 8=.ptr 2 1 0 0/\e 9=.ptr 8 1 0 0/\e 10=dI i)/\(H.get 2=some ⟨45,6,[[.nil,.nil,.nil,.nil,.nil,.nil]],false⟩)/\(2<H.next)/\(H.get 8=some ⟨45,6,[[.own 0 p.length,.own 1 a.i.length,dLI (qJ a.h.length),dLI (qJ a.i.length),.own 10 f.length,.nil]],false⟩)/\(8<H.next)/\(H.get 0=some ⟨3,1,p.map cI,false⟩)/\(0<H.next)/\(H.get 1=some ⟨153,3,a.i.map Edge.c,false⟩)/\(1<H.next)/\(H.get 10=some ⟨3,1,f.map cI,false⟩)/\(10<H.next)/\(i<=ns.length)/\((p,f)=o8 a b ns i)) (λi=>ns.length - i) 0 ⟨a.h,([]),wg,wn,wn,wn,wn,wn,wn,wn,wn,wn,wn,wi,(by rfl)⟩ λI0 a0 i e H b1=>?_);obtain ⟨p,f,E0,a4,M,C,K,a8,R,a6,O,G,E,hi,T⟩:=b1;have Y:=xb0 Y E0 a4 (bP M) C (bP K) a8 (bP R) a6 (bP O) G (bP E);refine kI (λh3=>?_) λh3=>?_
 .have hbn:i<b.h.length:=bZ;have w:=AQ a b ns i;rw [<- T] at w;simp only at w;have S:o8 a b ns (i+1)=if ns[i]<0 then (p++[b.h[i]],f++[(p.length:Int)]) else (p,f++[ns[i]]):=by simp only [o8,<- T,aA h3,aA hbn,aD]
  have Y:=xa2 Y h3 (aA h3) (aA hbn);refine kI (λh6=>?_) λh6=>?_
  .obtain ⟨y,n⟩:∃ x,x=p++[b.h[i]]:=⟨_,rfl⟩;obtain ⟨v,m⟩:∃ x,x=f++[(p.length:Int)]:=⟨_,rfl⟩;have o:(y,v)=o8 a b ns (i+1):=by rw [S,if_pos bZ,n,m]
   have Y:=xa1 Y n m;exact wp (h:=wx a0 (i+1) ⟨y,v,wg,wn,wn,wn,wn,wn,wn,wn,wn,wn,wn,wj,(by exact o)⟩)
  .obtain ⟨y,n⟩:∃ x,x=p:=⟨_,rfl⟩;obtain ⟨v,m⟩:∃ x,x=f++[ns[i]]:=⟨_,rfl⟩;have o:(y,v)=o8 a b ns (i+1):=by rw [S,if_neg bZ,n,m]
   have Y:=xa1 Y n m;exact wp (h:=wx a0 (i+1) ⟨y,v,wg,wn,wn,wn,wn,wn,wn,wn,wn,wn,wn,wj,(by exact o)⟩)
 .have hI:i=ns.length:=bZ;subst hI;have w:=AQ a b ns ns.length;rw [<- T] at w;simp only at w;refine wv (h:=nE (Ghosts.step (Ghosts.refl _) 8 0 5 3 1 _ _ (C) rfl rfl rfl) (λk e H=>∃ j:Nat,∃ u:List Edge,∃ z:Xa0,(e 2=dLI ns/\e 3=dLI es/\e 5=.adr b.c/\e 8=.ptr 2 1 0 0/\e 9=.ptr 8 1 0 0/\e 12=dI k)/\(H.get 2=some ⟨45,6,[[.nil,.nil,.nil,.nil,.nil,.nil]],false⟩)/\(2<H.next)/\(H.get 8=some ⟨45,6,[[.own 0 p.length,.own 1 u.length,dLI (qJ a.h.length),dLI (qJ a.i.length),.own 10 f.length,.own j z.length]],false⟩)/\(8<H.next)/\(H.get 0=some ⟨3,1,p.map cI,false⟩)/\(0<H.next)/\(H.get 1=some ⟨153,3,u.map Edge.c,false⟩)/\(1<H.next)/\(H.get 10=some ⟨3,1,f.map cI,false⟩)/\(10<H.next)/\(H.get j=some ⟨3,1,z.map cI,false⟩)/\(j<H.next)/\(10<j)/\(k<=es.length)/\((u,z)=qQ a b f es k)) (λk=>es.length - k) 0 ⟨H.next,a.i,([]),wg,wn,wn,wn,wn,wn,wn,wn,wn,wn,wn,wn,wn,bZ,wi,(by rfl)⟩ λI2 Z k e H b0=>?_);obtain ⟨j,u,z,E2,a3,L,a2,J,a7,P,a5,N,F,D,a1,I,hj,hk,A⟩:=b0;have b8:=xa2 (dE (bZ:2≠8)) (dE (bZ:2≠10)) (dE (bZ:2≠1)) (xb0 (dE (bZ:2≠0)) (dE (bZ:2≠j)) (dE (bZ:8≠10)) (dE (bZ:8≠1)) (dE (bZ:8≠0)) (dE (bZ:8≠j)) (dE (bZ:10≠1)) (dE (bZ:10≠0)) (dE (bZ:10≠j)) (dE (bZ:1≠0)) (dE (bZ:1≠j)) (dE (bZ:0≠j)));have Y:=xa2 Y E2 a3 (xb0 (bP L) a2 (bP J) a7 (bP P) a5 (bP N) F (bP D) a1 (bP I) b8);refine kI (λB=>?_) λB=>?_
  .have hbe:k<b.i.length:=bZ;have X:=Iq a b f es k;rw [<- A] at X;simp only at X;have c2:=a9 _ (aC hbe);have V:b.i[k].B.toNat<f.length:=bZ;have U:b.i[k].O.toNat<f.length:=bZ;have b2:qP b f k=⟨b.i[k].type,f[b.i[k].B.toNat],f[b.i[k].O.toNat]⟩:=by simp only [qP,aA hbe,aD,aA V,aA U]
   have W:qQ a b f es (k+1)=if es[k]<0 then (u++[qP b f k],z++[(u.length:Int)]) else (u,z++[es[k]]):=by simp only [qQ,<- A,aA B,aD]
   have Y:=xa4 Y B (aA B) (aA hbe) (aA V) (aA U);refine kI (λb7=>?_) λb7=>?_
   .obtain ⟨s,l⟩:∃ x,x=u++[qP b f k]:=⟨_,rfl⟩;obtain ⟨q,g⟩:∃ x,x=z++[(u.length:Int)]:=⟨_,rfl⟩;have o:(s,q)=qQ a b f es (k+1):=by rw [W,if_pos bZ,l,g]
    have Y:=xa3 Y l g b2 @Edge.c.eq_1;exact wp (h:=wx Z (k+1) ⟨j,s,q,wg,wn,wn,wn,wn,wn,wn,wn,wn,wn,wn,wn,wn,bZ,wj,(by exact o)⟩)
   .obtain ⟨s,l⟩:∃ x,x=u:=⟨_,rfl⟩;obtain ⟨q,g⟩:∃ x,x=z++[es[k]]:=⟨_,rfl⟩;have o:(s,q)=qQ a b f es (k+1):=by rw [W,if_neg bZ,l,g]
    have Y:=xa1 Y l g;exact wp (h:=wx Z (k+1) ⟨j,s,q,wg,wn,wn,wn,wn,wn,wn,wn,wn,wn,wn,wn,wn,bZ,wj,(by exact o)⟩)
  .have hK:k=es.length:=bZ;subst hK;have b4:(o8 a b ns ns.length).1=p:=by rw [<- T]
   have b3:(o8 a b ns ns.length).2=f:=by rw [<- T]
   have b6:(qQ a b f es es.length).1=u:=by rw [<- A]
   have b5:(qQ a b f es es.length).2=z:=by rw [<- A]
   exact wv (h:=hQ _ _ (by simp [go_sem,Y,XI,Ovl.d,Ovl.c,b4,b3,b6,b5]))
theorem DI (a b:Graph)(ha:graphF a=0)(hb:graphF b=0)(ns es:Xa0)(b9:ns.length=b.h.length)(he:es.length<=b.i.length):Pua 103 [a.d,b.d,dLI ns,dLI es] (XI a b ns es).d:=by
 have c1:=aY ha;have c0:=aY hb;have a9:∀ x∈b.i,(0<=x.B/\x.B<b.h.length)/\(0<=x.O/\x.O<b.h.length):=λx hx=>((dO hb).2 x hx).2;refine HN (by first|rfl|(simp [go_sem];done)) (λQ hQ=>ACalls.b1 2 (Tz.cK ⟨λt=>t==8||t==9||t==11||t==16||t==24||t==27,λr=>match r with|2=>[(2,3),(2,4),(2,7),(5,7),(0,9),(1,9),(2,9),(3,9),(4,9),(5,9),(7,9)]|8=>[(0,8),(1,8),(2,8)]|17=>[(0,20),(1,20),(2,20)]|_=>[]⟩ func103 rfl ?_));have Y:=trivial;refine wv (h:=aB (Dr a ha) wl ?_);refine wv (h:=?_);refine pV 0 (fS a.h bZ) (by first|rfl|(simp [go_sem];done)) rfl (by first|omega|simp [go_sem]) (by simp [j8,mV,v8,rW]) (by first|trivial|(simp [go_sem];done)|simp [go_sem,BH]) ?_;refine wv (h:=?_);refine pV 1 (CD a.i bZ) (by first|rfl|(simp [go_sem];done)) rfl (by first|omega|simp [go_sem]) (by simp [j8,mV,v8,rW]) (by first|trivial|(simp [go_sem];done)|simp [go_sem,BH]) ?_;refine wp (h:=nE (Ghosts.step (Ghosts.refl _) 13 0 4 3 1 _ _ (rfl) rfl rfl rfl) (λi e H=>∃ p:Xa0,∃ f:Xa0,(e 31=dLI ns/\e 32=dI ns.length/\e 3=dLI es/\e 5=.adr b.c/\e 8=.ptr 2 1 0 0/\e 11=.ptr 13 1 0 0/\e 33=dI i)/\(H.get 2=some ⟨45,6,[[.nil,.nil,.nil,.nil,.nil,.nil]],false⟩)/\(2<H.next)/\(H.get 13=some ⟨45,6,[[.own 0 p.length,.own 1 a.i.length,dLI (qJ a.h.length),dLI (qJ a.i.length),.own 15 f.length,.nil]],false⟩)/\(13<H.next)/\(H.get 0=some ⟨3,1,p.map cI,false⟩)/\(0<H.next)/\(H.get 1=some ⟨153,3,a.i.map Edge.c,false⟩)/\(1<H.next)/\(H.get 15=some ⟨3,1,f.map cI,false⟩)/\(15<H.next)/\(i<=ns.length)/\((p,f)=o8 a b ns i)) (λi=>ns.length - i) 0 ⟨a.h,([]),wg,wn,wn,wn,wn,wn,wn,wn,wn,wn,wn,wi,(by rfl)⟩ λI0 a1 i e H b1=>?_);obtain ⟨p,f,E0,a4,N,z,G,a8,S,a6,P,J,E,hi,U⟩:=b1;have Y:=xb0 Y E0 a4 (bP N) z (bP G) a8 (bP S) a6 (bP P) J (bP E);refine c8 (λh4=>?_) λh4=>?_
 .have hbn:i<b.h.length:=bZ;have w:=AQ a b ns i;rw [<- U] at w;simp only at w;have T:o8 a b ns (i+1)=if ns[i]<0 then (p++[b.h[i]],f++[(p.length:Int)]) else (p,f++[ns[i]]):=by simp only [o8,<- U,aA h4,aA hbn,aD]
  have Y:=xa2 Y h4 (aA h4) (aA hbn);refine kI (λh6=>?_) λh6=>?_
  .obtain ⟨y,n⟩:∃ x,x=p++[b.h[i]]:=⟨_,rfl⟩;obtain ⟨v,m⟩:∃ x,x=f++[(p.length:Int)]:=⟨_,rfl⟩;have o:(y,v)=o8 a b ns (i+1):=by rw [T,if_pos bZ,n,m]
   have Y:=xa1 Y n m;exact wp (h:=wx a1 (i+1) ⟨y,v,wg,wn,wn,wn,wn,wn,wn,wn,wn,wn,wn,wj,(by exact o)⟩)
  .obtain ⟨y,n⟩:∃ x,x=p:=⟨_,rfl⟩;obtain ⟨v,m⟩:∃ x,x=f++[ns[i]]:=⟨_,rfl⟩;have o:(y,v)=o8 a b ns (i+1):=by rw [T,if_neg bZ,n,m]
   have Y:=xa1 Y n m;exact wp (h:=wx a1 (i+1) ⟨y,v,wg,wn,wn,wn,wn,wn,wn,wn,wn,wn,wn,wj,(by exact o)⟩)
 .have hI:i=ns.length:=bZ;subst hI;have w:=AQ a b ns ns.length;rw [<- U] at w;simp only at w;refine wp (h:=nE (Ghosts.step (Ghosts.refl _) 13 0 5 3 1 _ _ (z) rfl rfl rfl) (λk e H=>∃ j:Nat,∃ u:List Edge,∃ A:Xa0,(e 31=dLI ns/\e 32=dI ns.length/\e 65=dLI es/\e 66=dI es.length/\e 3=dLI es/\e 5=.adr b.c/\e 8=.ptr 2 1 0 0/\e 11=.ptr 13 1 0 0/\e 67=dI k)/\(H.get 2=some ⟨45,6,[[.nil,.nil,.nil,.nil,.nil,.nil]],false⟩)/\(2<H.next)/\(H.get 13=some ⟨45,6,[[.own 0 p.length,.own 1 u.length,dLI (qJ a.h.length),dLI (qJ a.i.length),.own 15 f.length,.own j A.length]],false⟩)/\(13<H.next)/\(H.get 0=some ⟨3,1,p.map cI,false⟩)/\(0<H.next)/\(H.get 1=some ⟨153,3,u.map Edge.c,false⟩)/\(1<H.next)/\(H.get 15=some ⟨3,1,f.map cI,false⟩)/\(15<H.next)/\(H.get j=some ⟨3,1,A.map cI,false⟩)/\(j<H.next)/\(15<j)/\(k<=es.length)/\((u,A)=qQ a b f es k)) (λk=>es.length - k) 0 ⟨H.next,a.i,([]),wg,wn,wn,wn,wn,wn,wn,wn,wn,wn,wn,wn,wn,bZ,wi,(by rfl)⟩ λI2 a0 k e H b0=>?_);obtain ⟨j,u,A,E2,a3,M,K,F,a7,R,a5,O,I,D,a2,L,hj,hk,B⟩:=b0;have b8:=xa2 (dE (bZ:2≠13)) (dE (bZ:2≠15)) (dE (bZ:2≠1)) (xb0 (dE (bZ:2≠0)) (dE (bZ:2≠j)) (dE (bZ:13≠15)) (dE (bZ:13≠1)) (dE (bZ:13≠0)) (dE (bZ:13≠j)) (dE (bZ:15≠1)) (dE (bZ:15≠0)) (dE (bZ:15≠j)) (dE (bZ:1≠0)) (dE (bZ:1≠j)) (dE (bZ:0≠j)));have Y:=xa2 Y E2 a3 (xb0 (bP M) K (bP F) a7 (bP R) a5 (bP O) I (bP D) a2 (bP L) b8);refine c8 (λC=>?_) λC=>?_
  .have hbe:k<b.i.length:=bZ;have Z:=Iq a b f es k;rw [<- B] at Z;simp only at Z;have c2:=a9 _ (aC hbe);have W:b.i[k].B.toNat<f.length:=bZ;have V:b.i[k].O.toNat<f.length:=bZ;have b2:qP b f k=⟨b.i[k].type,f[b.i[k].B.toNat],f[b.i[k].O.toNat]⟩:=by simp only [qP,aA hbe,aD,aA W,aA V]
   have X:qQ a b f es (k+1)=if es[k]<0 then (u++[qP b f k],A++[(u.length:Int)]) else (u,A++[es[k]]):=by simp only [qQ,<- B,aA C,aD]
   have Y:=xa4 Y C (aA C) (aA hbe) (aA W) (aA V);refine kI (λb7=>?_) λb7=>?_
   .obtain ⟨s,l⟩:∃ x,x=u++[qP b f k]:=⟨_,rfl⟩;obtain ⟨q,g⟩:∃ x,x=A++[(u.length:Int)]:=⟨_,rfl⟩;have o:(s,q)=qQ a b f es (k+1):=by rw [X,if_pos bZ,l,g]
    have Y:=xa3 Y l g b2 @Edge.c.eq_1;exact wp (h:=wx a0 (k+1) ⟨j,s,q,wg,wn,wn,wn,wn,wn,wn,wn,wn,wn,wn,wn,wn,bZ,wj,(by exact o)⟩)
   .obtain ⟨s,l⟩:∃ x,x=u:=⟨_,rfl⟩;obtain ⟨q,g⟩:∃ x,x=A++[es[k]]:=⟨_,rfl⟩;have o:(s,q)=qQ a b f es (k+1):=by rw [X,if_neg bZ,l,g]
    have Y:=xa1 Y l g;exact wp (h:=wx a0 (k+1) ⟨j,s,q,wg,wn,wn,wn,wn,wn,wn,wn,wn,wn,wn,wn,wn,bZ,wj,(by exact o)⟩)
  .have hK:k=es.length:=bZ;subst hK;have b4:(o8 a b ns ns.length).1=p:=by rw [<- U]
   have b3:(o8 a b ns ns.length).2=f:=by rw [<- U]
   have b6:(qQ a b f es es.length).1=u:=by rw [<- B]
   have b5:(qQ a b f es es.length).2=A:=by rw [<- B]
   exact wv (h:=hQ _ _ (by simp [go_sem,Y,XI,Ovl.d,Ovl.c,b4,b3,b6,b5]))
@[go_sem] theorem abA (H:AHeap)(a b c d:Nat):iS H (.ptr a b c d)=.ptr a b c d:=rfl
@[go_sem] theorem Yn (a b c d:Nat):dQ (.ptr a b c d)=[]:=rfl
@[go_sem] theorem acG (H:AHeap)(i:Nat):(H.a7 i).next=H.next:=(Rc H i).2
@[go_sem] theorem ae5 (H:AHeap)(i j:Nat):(H.a7 i).get j=if j=i then (H.get i).map (λk=>{ k with fz:=true }) else H.get j:=by
 by_cases h:j=i
 .subst h;unfold AHeap.a7;cases a:H.get j<;>simp [AHeap.put,a]
 .rw [if_neg h,Lh H i j h]
theorem D1 {P:Program}{md:Nat->Bool}{ops:Array Oper}{a:List Oper}{e:d7}{c:Option Tmp}{K:d7->AHeap->Prop}{f:FuncId}{args args':Xa2}{H:AHeap}(m:args.map QU=args')(h:e8 P md ops a e c K f args' H):e8 P md ops a e c K f args H:=by
 subst m;unfold e8 at h ⊢;exact ⟨h.1,λo σ w b n g=>h.2 o σ w b n ⟨by simpa using g.len,λj u d l i=>by
  rw [aP,bN] at i;obtain ⟨y,k,rfl⟩:=i;exact MC (g.ad j u y l k)⟩⟩
theorem dN {β:Type}(f:β->Nat->β)(b:β)(n:Nat):(List.range (n+1)).foldl f b=f ((List.range n).foldl f b) n:=by
 rw [dM,GU];rfl
def Rh (y:Edge):Xa0:=[y.type,y.B,y.O]
def Xl (b:Graph)(ns:Xa0)(i:Nat):Xa0:=Rh (qP b ns i)
def Zd (a b:Graph)(ns es:Xa0)(j:Nat):Bool:=decide (Rh (a.i[j]?.getD bX)=Xl b ns es.length)&&!mem es j
def P5 (a b:Graph)(ns:Xa0):Nat->Xa0->List Ovl->List Ovl
 | 0,es,out=>if 2000<out.length then out else out++[XI a b ns es]
 | k+1,es,out=>if 2000<out.length then out else
  (List.range a.i.length).foldl (λout j=>if Zd a b ns es j=true then P5 a b ns k (es++[(j:Int)]) out else out) (P5 a b ns k (es++[-1]) out)
theorem UC (a b:Graph)(ns:Xa0)(k:Nat)(es:Xa0){c:List Ovl}(h:2000<c.length):P5 a b ns k es c=c:=by
 cases k<;>simp only [P5,if_pos h]
theorem HU (a b:Graph)(ns:Xa0):∀ (k:Nat) (es:Xa0) (c:List Ovl),c.length<=2001->(P5 a b ns k es c).length<=2001
 | 0,es,c,h=>by
  simp only [P5];split
  .exact h
  .simp;omega
 | k+1,es,c,h=>by
  simp only [P5];split
  .exact h
  .have:∀ (l:List Nat) (o:List Ovl),o.length<=2001->(l.foldl (λc j=>if Zd a b ns es j=true then P5 a b ns k (es++[(j:Int)]) c else c) o).length<=2001:=by
    intro l;induction l with
    | nil=>intro o d;exact d
    | cons j l ih =>
     intro o d;rw [wW];refine ih _ ?_;split
     .exact HU a b ns k _ _ d
     .exact d
   exact this _ _ (HU a b ns k _ _ h)
def YB (a b:Graph)(ns:Xa0)(j:Nat):Bool:=decide (a.h[j]?.getD 0=b.h[ns.length]?.getD 0)&&!mem ns j
def Nw (a b:Graph):Nat->Xa0->List Ovl->List Ovl
 | 0,ns,out=>if 2000<out.length then out else P5 a b ns b.i.length [] out
 | k+1,ns,out=>if 2000<out.length then out else
  (List.range a.h.length).foldl (λout j=>if YB a b ns j=true then Nw a b k (ns++[(j:Int)]) out else out) (Nw a b k (ns++[-1]) out)
theorem UB (a b:Graph)(k:Nat)(ns:Xa0){c:List Ovl}(h:2000<c.length):Nw a b k ns c=c:=by
 cases k<;>simp only [Nw,if_pos h]
theorem My (a b:Graph):∀ (k:Nat) (ns:Xa0) (c:List Ovl),c.length<=2001->(Nw a b k ns c).length<=2001
 | 0,ns,c,h=>by
  simp only [Nw];split
  .exact h
  .exact HU a b ns _ _ _ h
 | k+1,ns,c,h=>by
  simp only [Nw];split
  .exact h
  .have:∀ (l:List Nat) (o:List Ovl),o.length<=2001->(l.foldl (λc j=>if YB a b ns j=true then Nw a b k (ns++[(j:Int)]) c else c) o).length<=2001:=by
    intro l;induction l with
    | nil=>intro o d;exact d
    | cons j l ih =>
     intro o d;rw [wW];refine ih _ ?_;split
     .exact My a b k _ _ d
     .exact d
   exact this _ _ (My a b k _ _ h)
structure OvS (ty f o:Nat) (a b:Graph) (out:List Ovl) (H:AHeap):Prop where
 bf:H.get f=some ⟨ty,5,[[dLI a.h,.list (a.i.map Edge.c),dLI b.h,.list (b.i.map Edge.c),.own o out.length]],false⟩
 bo:H.get o=some ⟨45,6,out.map Ovl.c,false⟩
 le:out.length<=2001
@[go_sem] theorem XX (x:Edge):qY x.c=some (Rh x):=rfl
theorem MW (a b:Graph)(ha:graphF a=0)(hb:graphF b=0)(ns:Xa0)(a4:ns.length=b.h.length)(f o:Nat)(hd:f≠o) :
  ∀ (k:Nat) (es:Xa0) (i:List Ovl) (G:AHeap) (Q:D->AHeap->Prop),es.length+k=b.i.length->f<G.next->o<G.next->OvS 159 f o a b i G ->
  (∀ H',OvS 159 f o a b (P5 a b ns k es i) H'->(∀ j,j≠f->j≠o->j<G.next->H'.get j=G.get j)->G.next<=H'.next->Q (.tup []) H')->ACalls prog 209 [.ptr f 1 0 0,dLI ns,dLI es] G Q:=by
 have c1:=aY ha;have c0:=aY hb;have a7:∀ x∈b.i,(0<=x.B/\x.B<b.h.length)/\(0<=x.O/\x.O<b.h.length):=λx hx=>((dO hb).2 x hx).2;intro k;induction k using Nat.strongRecOn with
 | _ k ih =>
 intro es i G Q hk b0 a2 hF hQ;obtain ⟨gf,go,N⟩:=hF;have b1:=hd.symm;have ff:=bP b0;have fo:=bP a2;refine (Tz.cK ⟨λt=>t==6||t==7||t==9,λr=>match r with|2=>[(2,16),(3,16),(4,16)]|4=>[(0,13),(1,13),(3,13),(4,13),(5,13),(6,13),(8,13),(9,13),(10,13),(11,13)]|_=>[]⟩ func209 rfl ?_);have Y:=xa6 gf go hd b1 ff fo @Ovl.d.eq_1 @Ovl.c.eq_1;refine kI (λh0=>?_) λh0=>?_
 .have hfull:2000<i.length:=bZ;refine wv (h:=?_);exact hQ _ (by rw [UC _ _ _ _ _ hfull];exact ⟨gf,go,N⟩) (by intro j _ _ _;rfl) (bD _)
 .have hnf:¬ 2000<i.length:=bZ;refine kI (λl=>?_) λl=>?_
  .have hk0:k=0:=bZ;subst hk0;refine wp (h:=aI (DI a b ha hb ns es a4 bZ) wl ?_);refine wp (h:=?_);exact hQ _ (by simp only [P5];rw [if_neg hnf];exact ⟨by simp [go_sem,Y],by simp [go_sem,Y,Ovl.d],by simp;omega⟩) (by intro j l m z;simp [go_sem,l,m]) (by simp [go_sem]<;>omega)
  .obtain ⟨v,rfl⟩:∃ v,k=v+1:=⟨k - 1,bZ⟩;have E:es.length<b.i.length:=bZ;have c2:=a7 _ (aC E);have T:b.i[es.length].B.toNat<ns.length:=bZ;have O:b.i[es.length].O.toNat<ns.length:=bZ;have a9:qP b ns es.length=⟨b.i[es.length].type,ns[b.i[es.length].B.toNat],ns[b.i[es.length].O.toNat]⟩:=by simp only [qP,aA E,aD,aA T,aA O]
   have Y:=xa2 Y (aA E) (aA T) (aA O);refine wp (h:=i5 (fS es bZ) wl ?_);refine wp (h:=?_);refine tY (args':=[.ptr f 1 0 0,dLI ns,dLI (es++[-1])]) (by simp [go_sem,Y,dLI]) rfl ?_;unfold e8;refine ih v bZ (es++[-1]) i _ _ (by simp;omega) (by simp [go_sem];omega) (by simp [go_sem];omega) ⟨by simp [go_sem,Y],by simp [go_sem,Y],N⟩ (λH2 b4 S a6=>?_);obtain ⟨a1,Z,w⟩:=b4;obtain ⟨u,L⟩:∃ x,x=G.next+1+13:=⟨_,rfl⟩;have I:=S u bZ bZ (by simp [go_sem];omega);simp [go_sem,L,Y] at I;simp [go_sem] at a6;have P:∀ j,j≠f->j≠o->j<G.next->H2.get j=G.get j:=λj l m z=>by
    have e1:=bP z;rw [S j l m (by simp [go_sem];omega)];simp [go_sem,l,m,e1]
   obtain ⟨o1,M⟩:∃ x,x=P5 a b ns v (es++[-1]) i:=⟨_,rfl⟩;rw [<- M] at a1 Z w;rw [<- L] at I;have Y:=xa2 Y a1 Z I;refine wp (h:=bC (λj e H=>∃ p:List Ovl,(e 0=.ptr f 1 0 0/\e 1=dLI ns/\e 2=dLI es/\e 7=.ptr u 1 0 0/\e 78=.list (a.i.map Edge.c)/\e 79=dI a.i.length/\e 80=dI j)/\(H.get f=some ⟨159,5,[[dLI a.h,.list (a.i.map Edge.c),dLI b.h,.list (b.i.map Edge.c),.own o p.length]],false⟩)/\(f<H.next)/\(H.get o=some ⟨45,6,p.map Ovl.c,false⟩)/\(o<H.next)/\(H.get u=some ⟨153,3,[[dI b.i[es.length].type,dI ns[b.i[es.length].B.toNat],dI ns[b.i[es.length].O.toNat]]],false⟩)/\(u<H.next)/\(j<=a.i.length)/\(p.length<=2001)/\(p=(List.range j).foldl (λi j=>if Zd a b ns es j=true then P5 a b ns v (es++[(j:Int)]) i else i) o1)/\(∀ q,q≠f->q≠o->q<G.next->H.get q=G.get q)/\(G.next<=H.next)) (λj=>a.i.length - j) 0 ⟨o1,wg,wn,wn,wn,wn,wn,wn,wi,(by exact w),(by rfl),(by exact P),bZ⟩ λI0 U j e H a8=>?_);obtain ⟨p,E0,a0,K,X,J,F,B,hj,n,C,s,a3⟩:=a8;have b8:=xa1 (dE (bZ:u≠o)) (dE (bZ:u≠f)) (dE (bZ:o≠f));have Y:=xa7 Y E0 a0 (bP K) X (bP J) F (bP B) b8;refine c8 (λh7=>?_) λh7=>?_
   .have hEj:Zd a b ns es j=(decide (Rh a.i[j]=Rh (qP b ns es.length))&&!mem es j):=by unfold Zd Xl;rw [aA h7];rfl
    rw [a9] at hEj;have Y:=xa1 Y h7 (aA h7);refine wp (h:=aG (λhg=>eX es j) (λhg=>wl) ?_);refine kI (λh9=>?_) λh9=>?_
    .have hE:Zd a b ns es j=true:=by rw [hEj];simpa [Rh] using h9
     obtain ⟨A,g⟩:∃ x,x=P5 a b ns v (es++[(j:Int)]) p:=⟨_,rfl⟩;refine wp (h:=i5 (fS es bZ) wl ?_);refine wp (h:=?_);refine tY (args':=[.ptr f 1 0 0,dLI ns,dLI (es++[(j:Int)])]) (by simp [go_sem,Y,dLI]) rfl ?_;unfold e8;refine ih v bZ (es++[(j:Int)]) p _ _ (by simp;omega) (by simp [go_sem];omega) (by simp [go_sem];omega) ⟨by simp [go_sem,Y],by simp [go_sem,Y],n⟩ (λH3 V R a5=>?_);rw [<- g] at V;obtain ⟨b6,b5,b9⟩:=V;have W:=R u bZ bZ (by simp [go_sem];omega);simp [go_sem,Y] at W;simp [go_sem] at a5;have y:∀ j,j≠f->j≠o->j<G.next->H3.get j=G.get j:=λj l m z=>by
      have e1:=bP (bZ:j<H.next);rw [R j l m (by simp [go_sem];omega)];simp [go_sem,l,m,e1];exact s j l m z
     have b7:=xa1 (bP (bZ:f<H3.next)) (bP (bZ:o<H3.next)) (bP (bZ:u<H3.next));have Y:=xa4 Y b6 b5 W g b7;exact wp (h:=wx U (j+1) ⟨A,wg,wn,wn,wn,wn,wn,wn,wj,(by rw [g];first|exact n|exact HU _ _ _ _ _ _ n),(by rw [dN,<- C,g];first|rw [if_pos hE]|rw [if_neg (by rw [hE];simp)]),(by first|exact y|(intro q l m z;simp [go_sem,l,m,bP (bZ:q<H.next)];exact s q l m z)),(by first|omega|(simp [go_sem];omega))⟩)
    .have hE:Zd a b ns es j=false:=by rw [hEj,aW];intro b2;simp [Rh] at b2 h9;simp_all
     obtain ⟨A,g⟩:∃ x,x=p:=⟨_,rfl⟩;have Y:=wa Y g;exact wp (h:=wx U (j+1) ⟨A,wg,wn,wn,wn,wn,wn,wn,wj,(by rw [g];first|exact n|exact HU _ _ _ _ _ _ n),(by rw [dN,<- C,g];first|rw [if_pos hE]|rw [if_neg (by rw [hE];simp)]),(by first|exact y|(intro q l m z;simp [go_sem,l,m,bP (bZ:q<H.next)];exact s q l m z)),(by first|omega|(simp [go_sem];omega))⟩)
   .have hJ:j=a.i.length:=bZ;have b3:P5 a b ns (v+1) es i=p:=by simp only [P5];rw [if_neg hnf,<- M,C,hJ]
    refine wv (h:=?_);exact hQ _ (by rw [b3];exact ⟨by assumption,by assumption,n⟩) s a3
end Go.Abs
end
