/- Layer 24: rules, continued. · Layer 12: complements; layer 1 -/
import Derived.Test.YtmaibfgcngmjhaaGreatZeAG
import Derived.Test.YtmaibfgcngmjhaaGreatZeAA
import Derived.Test.YtmaibfgcngmjhaaGreatZeAJ
import Derived.Test.YtmaibfgcngmjhaaGreatZeAI
set_option linter.unusedVariables false
set_option linter.unusedSimpArgs false
section
set_option maxRecDepth 100000
set_option maxHeartbeats 4000000
open Go Go.Proofs Tryz
namespace Go.Abs
def jX (t:Types)(r:Rule):Int :=
 if graphF r.right.o≠0 then graphF r.right.o
 else if iB t r.right.o=false then 13
 else if r.right.vars≠r.left.vars\/0<r.right.R.length then 1
 else if 10<r.right.q.length then 3
 else b6 (zJ t r.right) 0 r.right.q.length
theorem RC (t:Types)(p:t.ok)(r:Rule):Pua 234 [t.d,r.d] (dI (jX t r)):=by
 refine Tz.p0 func234 rfl λQ b Y=>?_;refine wv (h:=aB (oG r.right.o) wl ?_);refine dD (λg=>?_) λg=>?_
 .exact wv (h:=b _ _ (.inl (by simp [go_sem,jX,g])))
 .have hg:=bW g;refine wo (h:=aB (RA t r.right.o) wl ?_);refine dZ (λf=>?_) λf=>?_
  .exact wv (h:=b _ _ (.inl (by simp [go_sem,jX,g,f])))
  .refine dZ (λl=>?_) λl=>?_
   .have hR:jX t r=1:=by unfold jX;rw [if_neg bL,if_neg (fg f),if_pos bL]
    exact wv (h:=b _ _ (.inl (eD hR)))
   .have h6':¬ (r.right.vars≠r.left.vars\/0<r.right.R.length):=by
     rintro (h|h)
     .exact h l.1
     .have:=l.2;simp [this] at h
    refine dZ (λq=>?_) λq=>?_
    .have hR:jX t r=3:=by unfold jX;rw [if_neg bL,if_neg (fg f),if_neg h6',if_pos bL]
     exact wv (h:=b _ _ (.inl (eD hR)))
    .have hR:jX t r=b6 (zJ t r.right) 0 r.right.q.length:=by unfold jX;rw [if_neg bL,if_neg (fg f),if_neg h6',if_neg bL]
     refine wo (h:=bA (λi e H=>(e 2=.adr t.c/\e 3=.adr r.c/\e 46=dI r.right.q.length/\e 47=dI i)/\(i<=r.right.q.length)/\(b6 (zJ t r.right) i (r.right.q.length - i)=jX t r)) (λi=>r.right.q.length - i) 0 ⟨wg,wi,(hR.symm)⟩ λx k i e H j=>?_);obtain ⟨s,w,n⟩:=j;have Y:=wa Y s;refine dD (λa=>?_) λa=>?_
     .have hst:=n;rw [fG _ a] at hst;have Y:=wa Y a;refine wv (h:=aB (Uy t p r bL i a) wl ?_);refine dD (λm=>?_) λm=>?_
      .rw [if_pos bL] at hst;exact wv (h:=b _ _ (.inl (eD hst)))
      .rw [if_neg bL] at hst;exact wo (h:=wx k (i+1) ⟨wg,wj,(hst)⟩)
     .exact wv (h:=b _ _ (.inl (by rw [<- n,(bL:r.right.q.length - i=0)];rfl)))
def dC (l:Xa0)(n:Nat):Xa0:=((List.range n).filter λ(i:Nat)=>!mem l i).map λ(b:Nat)=>(b:Int)
theorem mL {l:Xa0}{n:Nat}{x:Int}(h:x∈dC l n):0<=x/\x<n:=by
 simp only [dC,aS,dR,bN] at h;grind
theorem mM (l:Xa0)(n:Nat):(dC l n).length<=n:=by
 unfold dC;rw [bR];exact dA (iC _ _) bS
theorem Ga (l:Xa0)(n:Nat)(v:n<=1000000):Pua 300 [dLI l,dI n] (dLI (dC l n)):=by
 refine Tz.pK ⟨λt=>t==5,λ_=>[]⟩ func300 rfl (λQ r=>?_);have Y:=trivial;refine wv (h:=bA (λi e H=>∃ a:Xa0,(e 0=dLI l/\e 7=dI n/\e 5=.own 0 a.length/\e 8=dI i)/\(H.get 0=some ⟨3,1,a.map cI,false⟩)/\(0<H.next)/\(i<=n)/\(a.length<=i)/\(a=((List.range i).filter λ(b:Nat)=>!mem l b).map (λ(b:Nat)=>(b:Int)))) (λi=>n - i) 0 ⟨([]),wg,wn,wn,wi,bS,(by rfl)⟩ λz f i e H k=>?_);obtain ⟨a,s,g,d,x,w,j⟩:=k;have Y:=xa2 Y s g (bU d);refine dD (λp=>?_) λp=>?_
 .have Y:=wa Y p;refine wo (h:=aB (gX l i) wl ?_);refine dZ (λm=>?_) λm=>?_
  .have Y:=wa Y m;exact wo (h:=wx f (i+1) ⟨(a++(if (!mem l i)=true then [(i:Int)] else [])),wg,wn,wn,wj,eC,(by rw [dP,<- j])⟩)
  .have Y:=wa Y m;exact wo (h:=wx f (i+1) ⟨(a++(if (!mem l i)=true then [(i:Int)] else [])),wg,wn,wn,wj,eC,(by rw [dP,<- j])⟩)
 .exact wv (h:=r _ _ (by simp [go_sem,Y,dC];rw [j,(bL:i=n)];simp))
def keptF (r:Rule):Int :=
 if subF r.left.o r.G≠0 then subF r.left.o r.G
 else if fD (dF r.left.o r.G) r.right.o r.O≠0 then fD (dF r.left.o r.G) r.right.o r.O
 else if Jh (dF r.left.o r.G) r.right.o r.O=false then 11 else 0
structure Rule.ok (r:Rule):Prop where
 name:r.name.size<=100000
 k1:r.G.i.length<=1000000
 k2:r.G.j.length<=1000000
 i1:r.O.i.length<=1000000
 i2:r.O.j.length<=1000000
 cond:r.cond.ok
 size:r.cond.size<=1000000
theorem Uz (r:Rule)(k:r.ok):Pua 235 [r.d] (dI (keptF r)):=by
 obtain ⟨_,f,e,i,g,_,_⟩:=k;refine Tz.pK ⟨λt=>t==3||t==4,λ_=>[]⟩ func235 rfl (λQ b=>?_);have Y:=trivial;refine wv (h:=aB (ET r.left.o r.G f e) wl ?_);refine dD (λa=>?_) λa=>?_
 .have Y:=xa1 Y a @keptF.eq_1;exact wv (h:=b _ _ wy)
 .refine wv (h:=aB (qX (dF r.left.o r.G) r.right.o r.O) wl ?_);refine dD (λc=>?_) λc=>?_
  .have Y:=xa2 Y a c @keptF.eq_1;exact wv (h:=b _ _ wy)
  .refine wo (h:=aB (uU (dF r.left.o r.G) r.right.o r.O i g) wl ?_);refine dZ (λj=>?_) λj=>?_
   .have Y:=xa3 Y a c j @keptF.eq_1;exact wv (h:=b _ _ wy)
   .have Y:=xa3 Y a c j @keptF.eq_1;exact wv (h:=b _ _ wy)
def absB (t:Types)(g:Graph)(i:Int):Bool:=((t.i[(gN g i).toNat]?).map (·.cO)).getD false
def unfitB (t:Types)(g:Graph)(k:Int):Bool:=!qF t (g.j[k.toNat]?.getD cK).type (gN g (g.j[k.toNat]?.getD cK).from_) (gN g (g.j[k.toNat]?.getD cK).L)
def Bf (t:Types)(g:Graph)(nodes edges:Xa0):Bool:=(!(nodes.any (absB t g)))&&!(edges.any (unfitB t g))
theorem p9 {t:Types}{g:Graph}(b:graphF g=0)(h:iB t g=true):(∀ a∈g.i,0<=a/\a<t.i.length)/\∀ x∈g.j,(0<=x.type/\x.type<t.j.length)/\(0<=x.from_/\x.from_<g.i.length)/\(0<=x.L/\x.L<g.i.length):=by
 obtain ⟨d,c⟩:=eI b;simp [iB] at h;simp_all
theorem Ku (t:Types)(g:Graph)(l:graphF g=0)(j:iB t g=true)(i:Int)(f:0<=i)(e:i<g.i.length):Pua 301 [dI i,.adr t.c,.adr g.c] (.bool (absB t g i)):=by
 have a:i.toNat<g.i.length:=bL;have d:=(p9 l j).1 _ (aC a);have b:g.i[i.toNat].toNat<t.i.length:=bL;refine Tz.p0 func301 rfl λQ k _=>?_;have Y:=wa (aA a) (aA b);have Y:=xa1 Y @absB.eq_1 @gN.eq_1;exact wo (h:=k _ _ wy)
theorem Kt (t:Types)(d:t.ok)(g:Graph)(n:graphF g=0)(l:iB t g=true)(k:Int)(i:0<=k)(f:k<g.j.length):Pua 302 [dI k,.adr g.c,.adr t.c] (.bool (unfitB t g k)):=by
 have b:k.toNat<g.j.length:=bL;have e:=(p9 n l).2 _ (aC b);have j:g.j[k.toNat].from_.toNat<g.i.length:=bL;have a:g.j[k.toNat].L.toNat<g.i.length:=bL;refine Tz.pK ⟨λt=>t==5,λ_=>[]⟩ func302 rfl (λQ m=>?_);have Y:=xa1 (aA b) (aA j) (aA a);refine wo (h:=aJ (HM t d _ _ _) wl ?_);have Y:=xa1 Y @unfitB.eq_1 @gN.eq_1;exact wo (h:=m _ _ wy)
theorem Ni (t:Types)(o:t.ok)(g:Graph)(n:graphF g=0)(m:iB t g=true)(a b:Xa0)(e:∀ i∈a,0<=i/\i<g.i.length)(l:∀ k∈b,0<=k/\k<g.j.length):Pua 237 [t.d,g.d,dLI a,dLI b] (.bool (Bf t g a b)):=by
 have u:=iF a 301 [.adr t.c,.adr g.c] (absB t g) eh eh (λi j=>Ku t g n m i (e i j).1 (e i j).2);have s:=iF b 302 [.adr g.c,.adr t.c] (unfitB t g) eh eh (λk f=>Kt t o g n m k (l k f).1 (l k f).2);have r:Bf t g a b=((!(a.any (absB t g)))&&!(b.any (unfitB t g))):=rfl;rw [r];refine Tz.p0 func237 rfl λQ q Y=>?_;refine wo (h:=aB (u) wl ?_);refine wo (h:=aN (λp=>s) (λp=>wl) ?_);exact wo (h:=q _ _ wy)
def Rule.ac (r:Rule):Xa0:=dC r.O.i r.right.o.i.length
def Rule.av (r:Rule):Xa0:=dC r.O.j r.right.o.j.length
theorem Nj (r:Rule)(c:r.right.o.i.length<=1000000)(b:r.right.o.j.length<=1000000):Pua 236 [r.d] (.tup [dLI r.ac,dLI r.av]):=by
 refine Tz.p0 func236 rfl λQ a Y=>?_;refine wo (h:=aJ (Ga r.O.i _ c) wl ?_);refine wo (h:=aJ (Ga r.O.j _ b) wl ?_);have Y:=xa1 Y @Rule.ac.eq_1 @Rule.av.eq_1;exact wo (h:=a _ _ wy)
def ruleF (t:Types)(r:Rule):Int :=
 if (cW t).2≠0 then (cW t).2
 else if nH r.name=false then 2
 else if c7 t r.left≠0 then c7 t r.left
 else if jX t r≠0 then jX t r
 else if keptF r≠0 then keptF r
 else if Bf t r.right.o r.ac r.av=false then 13
 else condF t r.left r.cond
theorem Fb {t:Types}{r:Rule}(h:jX t r=0):graphF r.right.o=0/\iB t r.right.o=true:=by
 unfold jX at h;grind
theorem Ii (t:Types)(k:t.ok)(r:Rule)(m:r.ok):Pua 166 [t.d,r.d] (dI (ruleF t r)):=by
 have l:=An t k r.left r.cond m.cond m.size;rw [Cond.F] at l;refine Tz.p0 func166 rfl λQ e Y=>?_;refine wv (h:=aB (nY t k) wl ?_);refine dD (λc=>?_) λc=>?_
 .have Y:=xa1 Y c @ruleF.eq_1;exact wv (h:=e _ _ wy)
 .refine wo (h:=aB (qP r.name m.name) wl ?_);refine dZ (λf=>?_) λf=>?_
  .have Y:=xa2 Y c f @ruleF.eq_1;exact wv (h:=e _ _ wy)
  .refine wv (h:=aB (pO t k r.left) wl ?_);refine dD (λj=>?_) λj=>?_
   .have Y:=xa3 Y c f j @ruleF.eq_1;exact wv (h:=e _ _ wy)
   .refine wv (h:=aB (RC t k r) wl ?_);refine dD (λa=>?_) λa=>?_
    .have Y:=xa4 Y c f j a @ruleF.eq_1;exact wv (h:=e _ _ wy)
    .have hg:=Fb a;have o:=bW hg.1;refine wv (h:=aB (Uz r m) wl ?_);refine dD (λb=>?_) λb=>?_
     .have Y:=xa5 Y c f j a b @ruleF.eq_1;exact wv (h:=e _ _ wy)
     .refine wv (h:=aB (Nj r bL bL) wl ?_);refine wo (h:=aB (Ni t k r.right.o hg.1 hg.2 r.ac r.av (λi n=>mL n) (λi n=>mL n)) wl ?_);refine dZ (λg=>?_) λg=>?_
      .have Y:=xa6 Y c f j a b g @ruleF.eq_1;exact wv (h:=e _ _ wy)
      .refine wv (h:=aB (l) wl ?_);have Y:=xa6 Y c f j a b g @ruleF.eq_1;exact wv (h:=e _ _ wy)
def lO (im keep:Xa0):Xa0:=((List.range im.length).filter λ(i:Nat)=>!mem keep i).map λi=>im[i]?.getD 0
def Bu (g:Graph)(me gone:Xa0)(k:Nat):Bool:=!mem me k&&(mem gone (g.j[k]?.getD cK).from_||mem gone (g.j[k]?.getD cK).L)
def CA (g:Graph)(me gone:Xa0):Xa0:=((List.range g.j.length).filter (Bu g me gone)).map λ(b:Nat)=>(b:Int)
def xH (im keep:Xa0)(i k:Nat):Bool:=decide (im[i]?.getD 0=im[k]?.getD 0)&&(!mem keep i||!mem keep k)
def nI (im keep:Xa0)(i j:Nat):List (Nat × Nat):=((List.range j).filter λb=>xH im keep i (i+1+b)).map λb=>(i,i+1+b)
def JD (im keep:Xa0)(n:Nat):List (Nat × Nat):=(List.range n).flatMap λi=>nI im keep i (im.length - (i+1))
def u6 (im keep:Xa0):List (Nat × Nat):=JD im keep im.length
def cPr (p:Nat × Nat):Xa2:=[dI p.1,dI p.2]
@[go_sem] theorem abO (p:Nat × Nat):D.N (cPr p)=true:=rfl
@[go_sem] theorem ah6 (l:List (Nat × Nat)):D.T (l.map cPr)=true:=dL _ abO l
theorem Qw (a keep:Xa0)(i j:Nat):nI a keep i (j+1)=nI a keep i j++(if xH a keep i (i+1+j)=true then [(i,i+1+j)] else []):=by
 unfold nI;rw [c6,eU,List.map_append];grind
theorem Fx (a keep:Xa0)(n:Nat):JD a keep (n+1)=JD a keep n++nI a keep n (a.length - (n+1)):=by
 unfold JD;rw [c6,mW];simp
theorem C5 (a keep:Xa0)(i j:Nat):(nI a keep i j).length<=j:=by
 unfold nI;rw [bR];exact dA (iC _ _) bS
theorem yZ (im keep:Xa0):∀ n,(JD im keep n).length<=n * im.length
 | 0=>by simp [JD]
 | n+1=>by
  have h1:=yZ im keep n;have h2:=C5 im keep n (im.length - (n+1));rw [Fx,aO,Nat.add_mul];omega
theorem rX (a keep:Xa0){i:Nat}(h:i<a.length):((List.range (i+1)).filter λ(i:Nat)=>!mem keep i).map (λi=>a[i]?.getD 0)=((List.range i).filter λ(i:Nat)=>!mem keep i).map (λi=>a[i]?.getD 0)++(if (!mem keep i)=true then [a[i]] else []):=by
 rw [c6,eU,List.map_append];grind
theorem Fr {a keep:Xa0}{x:Int}:x∈lO a keep↔∃ i:Nat,i<a.length/\mem keep i=false/\a[i]?=some x:=by
 unfold lO;grind
def compG (l g:Graph)(keep m:Part):Int:=if fD l g m≠0 then fD l g m else subF l keep
def tK (l g:Graph)(keep m:Part):Int :=
 if compG l g keep m≠0 then compG l g keep m
 else if 0<(u6 m.i keep.i).length+(u6 m.j keep.j).length then 15
 else if 0<(CA g m.j (lO m.i keep.i)).length then 14 else 0
def u9 (l g:Graph)(keep m:Part):Part:=if tK l g keep m=0 then ⟨dC (lO m.i keep.i) g.i.length,dC (lO m.j keep.j) g.j.length⟩ else ⟨[],[]⟩
theorem rP (l:Xa0)(v:Int):Pua 328 [dLI l,dI v] (.bool (mem l v)):=by
 refine Tz.p0 func328 rfl λQ m Y=>?_;refine wv (h:=bA (λi e H=>(e 0=dLI l/\e 1=dI v/\e 5=dI i)/\(i<=l.length)/\(∀ j,j<i->l[j]?≠some v)) (λi=>l.length - i) 0 ⟨wg,wi,(by intro j k;omega)⟩ λu f i e H d=>?_);obtain ⟨p,s,a⟩:=d;have Y:=wa Y p;refine wv (h:=?_);repeat first|intro _|refine ⟨t,?_⟩
 refine wq (λb=>?_) λb=>?_
 .have Y:=wa Y b;refine wv (h:=?_);refine wq (λg=>?_) λg=>?_
  .refine wv (h:=?_);have c:mem l v=true:=(mem_iff l v).2 (g ▸ aC b);exact m _ _ (eD c)
  .exact wo (h:=wx f (i+1) ⟨wg,wj,(lS a (by rw [aA b];simpa using g))⟩)
 .refine wv (h:=?_);have c:mem l v=false:=by rw [bP];intro h;obtain ⟨j,k,o⟩:=aM ((mem_iff l v).1 h);exact a j bL (by rw [aA k,o])
  exact m _ _ (eD c)
theorem Iy (l:Xa0)(n:Nat)(v:n<=1000000):Pua 276 [dI n,dLI l] (dLI (dC l n)):=by
 refine Tz.pK ⟨λt=>t==5,λ_=>[]⟩ func276 rfl (λQ r=>?_);have Y:=trivial;refine wv (h:=bA (λi e H=>∃ a:Xa0,(e 1=dLI l/\e 0=dI n/\e 5=.own 0 a.length/\e 6=dI i)/\(H.get 0=some ⟨3,1,a.map cI,false⟩)/\(0<H.next)/\(i<=n)/\(a.length<=i)/\(a=((List.range i).filter λ(b:Nat)=>!mem l b).map (λ(b:Nat)=>(b:Int)))) (λi=>n - i) 0 ⟨([]),wg,wn,wn,wi,bS,(by rfl)⟩ λz f i e H k=>?_);obtain ⟨a,s,g,d,x,w,j⟩:=k;have Y:=xa2 Y s g (bU d);refine dD (λp=>?_) λp=>?_
 .have Y:=wa Y p;refine wo (h:=aB (rP l i) wl ?_);refine dZ (λm=>?_) λm=>?_
  .have Y:=wa Y m;exact wo (h:=wx f (i+1) ⟨(a++(if (!mem l i)=true then [(i:Int)] else [])),wg,wn,wn,wj,eC,(by rw [dP,<- j])⟩)
  .have Y:=wa Y m;exact wo (h:=wx f (i+1) ⟨(a++(if (!mem l i)=true then [(i:Int)] else [])),wg,wn,wn,wj,eC,(by rw [dP,<- j])⟩)
 .exact wv (h:=r _ _ (by simp [go_sem,Y,dC];rw [j,(bL:i=n)];simp))
theorem CR (a keep:Xa0)(v:a.length<=1000000):Pua 277 [dLI a,dLI keep] (dLI (lO a keep)):=by
 refine Tz.pK ⟨λt=>t==5,λ_=>[]⟩ func277 rfl (λQ r=>?_);have Y:=trivial;refine wv (h:=bA (λi e H=>∃ c:Xa0,(e 0=dLI a/\e 1=dLI keep/\e 5=.own 0 c.length/\e 6=dI i)/\(H.get 0=some ⟨3,1,c.map cI,false⟩)/\(0<H.next)/\(i<=a.length)/\(c.length<=i)/\(c=((List.range i).filter λ(b:Nat)=>!mem keep b).map (λi=>a[i]?.getD 0))) (λi=>a.length - i) 0 ⟨([]),wg,wn,wn,wi,bS,(by rfl)⟩ λz g i e H m=>?_);obtain ⟨c,s,k,f,x,w,l⟩:=m;have Y:=xa2 Y s k (bU f);refine dZ (λj=>?_) λj=>?_
 .have Y:=xa1 Y j (aA j);refine wo (h:=aB (rP keep i) wl ?_);refine dZ (λn=>?_) λn=>?_
  .have Y:=wa Y n;exact wo (h:=wx g (i+1) ⟨(c++(if (!mem keep i)=true then [a[i]] else [])),wg,wn,wn,wj,eC,(by rw [rX _ _ j,<- l])⟩)
  .have Y:=wa Y n;exact wo (h:=wx g (i+1) ⟨(c++(if (!mem keep i)=true then [a[i]] else [])),wg,wn,wn,wj,eC,(by rw [rX _ _ j,<- l])⟩)
 .refine wv (h:=?_);have q:lO a keep=c:=by rw [l,(bL:i=a.length)];rfl
  exact r _ _ (fe q)
theorem Qy {g:Graph}{me gone:Xa0}{k:Nat}(h:k<g.j.length):Bu g me gone k=(!mem me k&&(mem gone g.j[k].from_||mem gone g.j[k].L)):=by
 unfold Bu;rw [aA h];rfl
theorem Iz (l g:Graph)(keep m:Part)(y:m.i.length<=1000000)(p:g.j.length<=1000000):Pua 275 [l.d,g.d,keep.d,m.d] (dLI (CA g m.j (lO m.i keep.i))):=by
 obtain ⟨f,u⟩:=dY (lO m.i keep.i);refine Tz.pK ⟨λt=>t==9,λ_=>[]⟩ func275 rfl (λQ A=>?_);have Y:=u;refine wv (h:=aB (CR m.i keep.i y) wl ?_);refine wv (h:=bA (λk e H=>∃ a:Xa0,(e 5=.adr g.c/\e 7=.adr m.c/\e 10=dLI f/\e 9=.own 0 a.length/\e 11=dI k)/\(H.get 0=some ⟨3,1,a.map cI,false⟩)/\(0<H.next)/\(k<=g.j.length)/\(a.length<=k)/\(a=((List.range k).filter (Bu g m.j f)).map (λ(b:Nat)=>(b:Int)))) (λk=>g.j.length - k) 0 ⟨([]),wg,wn,wn,wi,bS,(by rfl)⟩ λJ n k e H s=>?_);obtain ⟨a,D,o,j,G,F,r⟩:=s;have Y:=xa2 Y D o (bU j);refine dZ (λq=>?_) λq=>?_
 .have hdb:=Qy (me:=m.j) (gone:=f) q;have C:=rP f g.j[k].from_;have B:=rP f g.j[k].L;have Y:=xa2 Y q (aA q) hdb;refine wo (h:=aB (rP m.j k) wl ?_);refine wo (h:=aN (λp=>C) (λp=>wl) ?_);refine wo (h:=aN (λp=>B) (λp=>wl) ?_);refine dZ (λv=>?_) λv=>?_
  .have Y:=wa Y v;exact wo (h:=wx n (k+1) ⟨(a++(if Bu g m.j f k=true then [(k:Int)] else [])),wg,wn,wn,wj,eC,(by rw [dP,<- r])⟩)
  .have Y:=wa Y v;exact wo (h:=wx n (k+1) ⟨(a++(if Bu g m.j f k=true then [(k:Int)] else [])),wg,wn,wn,wj,eC,(by rw [dP,<- r])⟩)
 .refine wv (h:=?_);have z:CA g m.j f=a:=by rw [r,(bL:k=g.j.length)];rfl
  exact A _ _ (fe z)
theorem Pu (l g:Graph)(keep m:Part)(c:keep.i.length<=1000000):Pua 273 [l.d,g.d,keep.d,m.d] (dI (compG l g keep m)):=by
 refine Tz.p0 func273 rfl λQ b Y=>?_;refine wv (h:=aB (wD l g m) wl ?_);refine dD (λa=>?_) λa=>?_
 .have Y:=xa1 Y a @compG.eq_1;exact wv (h:=b _ _ wy)
 .refine wv (h:=aB (A4 l keep) wl ?_);have Y:=xa1 Y a @compG.eq_1;exact wv (h:=b _ _ wy)
theorem Xi {a keep:Xa0}{i k:Nat}(c:i<a.length)(b:k<a.length):xH a keep i k=(decide (a[i]=a[k])&&(!mem keep i||!mem keep k)):=by
 unfold xH;rw [aA c,aA b];rfl
theorem uC (a keep:Xa0){i k:Nat}(h:i+1<=k):nI a keep i (k+1 - (i+1))=nI a keep i (k - (i+1))++(if xH a keep i k=true then [(i,k)] else []):=by
 rw [show k+1 - (i+1)=(k - (i+1))+1 by omega,Qw,show i+1+(k - (i+1))=k by omega]
theorem yE (a keep:Xa0)(A:a.length<=1000):Pua 274 [dLI a,dLI keep] (.list ((u6 a keep).map cPr)):=by
 refine Tz.pK ⟨λt=>t==5,λ_=>[]⟩ func274 rfl (λQ G=>?_);have Y:=trivial;refine wv (h:=bA (λi e H=>∃ d:List (Nat × Nat),(e 0=dLI a/\e 1=dLI keep/\e 5=.own 0 d.length/\e 6=dI i)/\(H.get 0=some ⟨362,2,d.map cPr,false⟩)/\(0<H.next)/\(i<=a.length)/\(d=JD a keep i)) (λi=>a.length - i) 0 ⟨([]),wg,wn,wn,wi,(by rfl)⟩ λP y i e H w=>?_);obtain ⟨d,K,o,l,L,s⟩:=w;have Y:=xa2 Y K o (bU l);refine dZ (λg=>?_) λg=>?_
 .have Y:=xa1 Y g (aA g);refine wo (h:=bA (λk e H=>∃ b:List (Nat × Nat),(e 0=dLI a/\e 1=dLI keep/\e 5=.own 0 b.length/\e 6=dI i/\e 7=dI k)/\(H.get 0=some ⟨362,2,b.map cPr,false⟩)/\(0<H.next)/\(i+1<=k)/\(k<=a.length)/\(b=d++nI a keep i (k - (i+1)))/\(b.length<=1000000)) (λk=>a.length - k) (i+1) ⟨d,wg,wn,wn,wi,wi,(by simp [nI]),(by have:=yZ a keep i;have:i * a.length<=1000 * 1000:=iY bL A;rw [s];omega)⟩ λO m k e H v=>?_);obtain ⟨b,J,n,j,E,D,r,C⟩:=v;have Y:=xa2 Y J n (bU j);refine dZ (λu=>?_) λu=>?_
  .have hd:=Xi (keep:=keep) g u;have f:(b++(if xH a keep i k=true then [(i,k)] else [])).length<=1000000:=by
    have I:b++(if xH a keep i k=true then [(i,k)] else [])=JD a keep i++nI a keep i (k+1 - (i+1)):=by rw [uC _ _ bL,<- List.append_assoc,r,s]
    rw [I,aO];have N:=yZ a keep i;have M:=C5 a keep i (k+1 - (i+1));have g:i * a.length+a.length<=1000 * 1000:=by
     have:=iY (bL:i+1<=1000) A;rw [Nat.add_mul] at this;omega
    omega
   have Y:=xa3 Y g (aA g) u (aA u);refine wo (h:=b9 (λx=>rP keep i) (λx=>wl) ?_);refine wo (h:=b9 (λx=>rP keep k) (λx=>wl) ?_);refine dZ (λB=>?_) λB=>?_
   .have hdt:xH a keep i k=true:=by rw [hd];simpa using B
    have Y:=xa1 Y hdt @cPr.eq_1;exact wo (h:=wx m (k+1) ⟨(b++(if xH a keep i k=true then [(i,k)] else [])),wg,wn,wn,wj,wj,(by rw [uC _ _ bL,<- List.append_assoc,<- r]),(f)⟩)
   .have hdf:xH a keep i k=false:=by rw [hd,bP];intro F;simp at F;simp_all
    have Y:=wa Y hdf;exact wo (h:=wx m (k+1) ⟨(b++(if xH a keep i k=true then [(i,k)] else [])),wg,wn,wn,wj,wj,(by rw [uC _ _ bL,<- List.append_assoc,<- r]),(f)⟩)
  .have hJ:k=a.length:=bL;subst hJ;subst r;exact wo (h:=wx y (i+1) ⟨(d++nI a keep i (a.length - (i+1))),wg,wn,wn,wj,(by rw [Fx,<- s])⟩)
 .have hX:u6 a keep=d:=by rw [s,(bL:i=a.length)];rfl
  exact wv (h:=G _ _ (fe hX))
theorem D8 {a keep:Xa0}(h:a.length<=1000):(u6 a keep).length<=1000000:=by
 have c:=yZ a keep a.length;have b:a.length * a.length<=1000 * 1000:=iY h h;unfold u6;omega
theorem Wp (l g:Graph)(keep m:Part)(p:keep.i.length<=1000000)(e:m.i.length<=1000)(c:m.j.length<=1000)(k:g.i.length<=1000000)(f:g.j.length<=1000000):Pua 215 [l.d,g.d,keep.d,m.d] (.tup [(u9 l g keep m).d,dI (tK l g keep m)]):=by
 have r:=D8 (keep:=keep.i) e;have q:=D8 (keep:=keep.j) c;refine Tz.pK ⟨λt=>t==8,λ_=>[]⟩ func215 rfl (λQ i=>?_);have Y:=trivial;refine wv (h:=aB (Pu l g keep m p) wl ?_);refine dD (λj=>?_) λj=>?_
 .have a:tK l g keep m=compG l g keep m:=if_pos j;have b:u9 l g keep m=⟨[],[]⟩:=if_neg (by rw [a];exact j);exact wv (h:=i _ _ (fc a b))
 .have a:tK l g keep m=if 0<(u6 m.i keep.i).length+(u6 m.j keep.j).length then 15 else if 0<(CA g m.j (lO m.i keep.i)).length then 14 else 0:=if_neg (by rw [j];simp)
  refine wo (h:=aJ (yE m.i keep.i e) wl ?_);refine wo (h:=aJ (yE m.j keep.j c) wl ?_);refine dZ (λo=>?_) λo=>?_
  .rw [if_pos bL] at a;have b:u9 l g keep m=⟨[],[]⟩:=if_neg (by rw [a];simp);exact wv (h:=i _ _ (fc a b))
  .rw [if_neg (by first|omega|simp [o])] at a;refine wo (h:=aB (Iz l g keep m bL f) wl ?_);refine dZ (λn=>?_) λn=>?_
   .rw [if_pos bL] at a;have b:u9 l g keep m=⟨[],[]⟩:=if_neg (by rw [a];simp);exact wv (h:=i _ _ (fc a b))
   .rw [if_neg (by first|omega|simp [n])] at a;have b:u9 l g keep m=⟨dC (lO m.i keep.i) g.i.length,dC (lO m.j keep.j) g.j.length⟩:=if_pos a;refine wo (h:=aJ (CR m.i keep.i bL) wl ?_);refine wo (h:=aJ (Iy (lO m.i keep.i) g.i.length k) wl ?_);refine wo (h:=aJ (CR m.j keep.j bL) wl ?_);refine wo (h:=aJ (Iy (lO m.j keep.j) g.j.length f) wl ?_);exact wo (h:=i _ _ (fc a b))
theorem y6 (a keep:Xa0)(A:a.length<=1000):Pua 318 [dLI a,dLI keep] (.list ((u6 a keep).map cPr)):=by
 refine Tz.pK ⟨λt=>t==5,λ_=>[]⟩ func318 rfl (λQ G=>?_);have Y:=trivial;refine wo (h:=bA (λi e H=>∃ d:List (Nat × Nat),(e 0=dLI a/\e 1=dLI keep/\e 9=dI a.length/\e 5=.own 0 d.length/\e 10=dI i)/\(H.get 0=some ⟨362,2,d.map cPr,false⟩)/\(0<H.next)/\(i<=a.length)/\(d=JD a keep i)) (λi=>a.length - i) 0 ⟨([]),wg,wn,wn,wi,(by rfl)⟩ λP y i e H w=>?_);obtain ⟨d,K,o,l,L,s⟩:=w;have Y:=xa2 Y K o (bU l);refine dD (λg=>?_) λg=>?_
 .have Y:=xa1 Y g (aA g);refine wo (h:=bA (λk e H=>∃ b:List (Nat × Nat),(e 0=dLI a/\e 1=dLI keep/\e 9=dI a.length/\e 5=.own 0 b.length/\e 6=dI i/\e 10=dI i/\e 7=dI k)/\(H.get 0=some ⟨362,2,b.map cPr,false⟩)/\(0<H.next)/\(i+1<=k)/\(k<=a.length)/\(b=d++nI a keep i (k - (i+1)))/\(b.length<=1000000)) (λk=>a.length - k) (i+1) ⟨d,wg,wn,wn,wi,wi,(by simp [nI]),(by have:=yZ a keep i;have:i * a.length<=1000 * 1000:=iY bL A;rw [s];omega)⟩ λO m k e H v=>?_);obtain ⟨b,J,n,j,E,D,r,C⟩:=v;have Y:=xa2 Y J n (bU j);refine dZ (λu=>?_) λu=>?_
  .have hd:=Xi (keep:=keep) g u;have f:(b++(if xH a keep i k=true then [(i,k)] else [])).length<=1000000:=by
    have I:b++(if xH a keep i k=true then [(i,k)] else [])=JD a keep i++nI a keep i (k+1 - (i+1)):=by rw [uC _ _ bL,<- List.append_assoc,r,s]
    rw [I,aO];have N:=yZ a keep i;have M:=C5 a keep i (k+1 - (i+1));have g:i * a.length+a.length<=1000 * 1000:=by
     have:=iY (bL:i+1<=1000) A;rw [Nat.add_mul] at this;omega
    omega
   have Y:=xa3 Y g (aA g) u (aA u);refine wo (h:=b9 (λx=>gX keep i) (λx=>wl) ?_);refine wo (h:=b9 (λx=>gX keep k) (λx=>wl) ?_);refine dZ (λB=>?_) λB=>?_
   .have hdt:xH a keep i k=true:=by rw [hd];simpa using B
    have Y:=xa1 Y hdt @cPr.eq_1;exact wo (h:=wx m (k+1) ⟨(b++(if xH a keep i k=true then [(i,k)] else [])),wg,wn,wn,wj,wj,(by rw [uC _ _ bL,<- List.append_assoc,<- r]),(f)⟩)
   .have hdf:xH a keep i k=false:=by rw [hd,bP];intro F;simp at F;simp_all
    have Y:=wa Y hdf;exact wo (h:=wx m (k+1) ⟨(b++(if xH a keep i k=true then [(i,k)] else [])),wg,wn,wn,wj,wj,(by rw [uC _ _ bL,<- List.append_assoc,<- r]),(f)⟩)
  .have hJ:k=a.length:=bL;subst hJ;subst r;exact wo (h:=wx y (i+1) ⟨(d++nI a keep i (a.length - (i+1))),wg,wn,wn,wj,(by rw [Fx,<- s])⟩)
 .have hX:u6 a keep=d:=by rw [s,(bL:i=a.length)];rfl
  exact wv (h:=G _ _ (fe hX))
def wK (n:Nat)(l:Xa0):List Bool:=l.foldl (λacc x=>acc.set x.toNat true) (List.replicate n false)
theorem IU (n:Nat)(l:Xa0)(x:Int):wK n (l++[x])=(wK n l).set x.toNat true:=by unfold wK;rw [eG];rfl
theorem Fm (n:Nat)(l:Xa0):(wK n l).length=n:=by
 unfold wK;have:∀ (l:Xa0) (a:List Bool),a.length=n->(l.foldl (λb x=>b.set x.toNat true) a).length=n:=by
  intro l;induction l with
  | nil=>intro a h;exact h
  | cons x l ih=>intro a h;exact ih _ (cG h)
 grind
theorem Ve (n:Nat):∀ (l:Xa0),(∀ x∈l,0<=x/\x<n)->∀ i:Nat,i<n->(wK n l)[i]?=some (mem l i):=by
 have:∀ (l:Xa0) (a:List Bool),a.length=n->(∀ x∈l,0<=x/\x<n)->∀ i:Nat,i<n->(l.foldl (λf x=>f.set x.toNat true) a)[i]?=some (a[i]?.getD false||mem l i):=by
  intro l;induction l with
  | nil=>intro a h _ i d;rw [List.foldl_nil,aA bL,DR];simp
  | cons x l ih =>
   intro a h e i d;have m:=e x bS;rw [iD,ih _ (cG h) (λy j=>e y (fg j)) i d];congr 1;have k:mem (x :: l) (i:Int)=(decide ((i:Int)=x)||mem l i):=by
    rw [bB,mem_iff,cX,mem_iff,decide_eq_true_eq,aP]
   rw [k];by_cases g:x.toNat=i
   .subst g;rw [MO bL];grind
   .rw [List.getElem?_set_ne g];have:¬ ((i:Int)=x):=bL;simp [this]
 intro l e i d;unfold wK;rw [this l _ bS e i d];simp [d]
theorem Ap (n:Nat)(Z:n<=1000000)(d keep:Xa0)(S:d.length<=1000000)(A:∀ x∈d,0<=x/\x<n):Pua 260 [dI n,dLI d,dLI keep] (dLI (dC (lO d keep) n)):=by
 refine Tz.pK ⟨λt=>t==14||t==10,λ_=>[]⟩ func260 rfl (λQ V=>?_);have Y:=trivial;refine wo (h:=bA (λi e H=>∃ a:Xa0,(e 0=dI n/\e 2=dLI keep/\e 15=dLI d/\e 16=dI d.length/\e 7=.own 0 n/\e 17=dI i)/\(H.get 0=some ⟨4,1,(wK n a).map cB,false⟩)/\(0<H.next)/\(i<=d.length)/\((wK n a).length=n)/\(a=((List.range i).filter λ(b:Nat)=>!mem keep b).map (λi=>d[i]?.getD 0))) (λi=>d.length - i) 0 ⟨([]),wg,(by simp [go_sem,wK,cB]),wn,wi,(Fm _ _),(by rfl)⟩ λI0 D i e H K=>?_);obtain ⟨a,X,F,y,hi,L,I⟩:=K;have Y:=xa2 Y X F (bU y);refine dD (λu=>?_) λu=>?_
 .have hb:=A _ (aC u);have N:d[i].toNat<(wK n a).length:=bL;have Y:=xa2 Y u (aA u) (aA N);refine wo (h:=aB (gX keep i) wl ?_);refine dZ (λO=>?_) λO=>?_
  .have Y:=wa Y O;exact wo (h:=wx D (i+1) ⟨(a++(if (!mem keep i)=true then [d[i]] else [])),wg,(by simp [go_sem,Y,IU,cB]),wn,wj,(Fm _ _),(by rw [rX _ _ u,<- I])⟩)
  .have Y:=wa Y O;exact wo (h:=wx D (i+1) ⟨(a++(if (!mem keep i)=true then [d[i]] else [])),wg,cl,wn,wj,(Fm _ _),(by rw [rX _ _ u,<- I])⟩)
 .have B:lO d keep=a:=by rw [I,(bL:i=d.length)];rfl
  have M:∀ x∈a,0<=x/\x<n:=λx z=>by
   rw [<- B,Fr] at z;obtain ⟨j,_,_,h⟩:=z;exact A x (aK h)
  refine wo (h:=bA (λk e H=>∃ m:Xa0,∃ c:Nat,(e 0=dI n/\e 2=dLI keep/\e 15=dLI d/\e 16=dI d.length/\e 30=.own 0 n/\e 31=dI n/\e 32=dI k/\e 10=.own c m.length)/\(H.get 0=some ⟨4,1,(wK n a).map cB,false⟩)/\(0<H.next)/\(H.get c=some ⟨3,1,m.map cI,false⟩)/\(c<H.next)/\(c≠0)/\(k<=n)/\(m.length<=k)/\(m=((List.range k).filter λ(b:Nat)=>!mem a b).map (λ(b:Nat)=>(b:Int)))) (λk=>n - k) 0 ⟨([]),H.next,wg,wn,wn,wn,wn,bL,wi,bS,(by rfl)⟩ λI2 C k e H J=>?_);obtain ⟨m,c,W,E,w,l,g,U,hk,hl,o⟩:=J;have P:=b8 (bL:0≠c);have Y:=xa6 Y W E (bU w) l (bU g) L P;refine dD (λq=>?_) λq=>?_
  .have hkm:k<(wK n a).length:=bL;have T:(wK n a)[k]=mem a k:=by have:=Ve n a M k q;rw [aA hkm] at this;exact Option.some.inj this
   have Y:=xa2 Y q (aA hkm) T;refine dZ (λp=>?_) λp=>?_
   .have Y:=wa Y p;exact wo (h:=wx C (k+1) ⟨(m++(if (!mem a k)=true then [(k:Int)] else [])),c,wg,wn,wn,wn,wn,bL,wj,eC,(by rw [dP,<- o])⟩)
   .have Y:=wa Y p;exact wo (h:=wx C (k+1) ⟨(m++(if (!mem a k)=true then [(k:Int)] else [])),c,wg,wn,wn,wn,wn,bL,wj,eC,(by rw [dP,<- o])⟩)
  .exact wv (h:=V _ _ (by simp [go_sem,Y,B,dC];rw [o,(bL:k=n)];simp))
def gluC (l g:Graph)(keep m:Part):Xa2:=[dLI l.i,.list (l.j.map Edge.c),dLI g.i,.list (g.j.map Edge.c),dLI keep.i,dLI keep.j,dLI m.i,dLI m.j]
theorem FD (l g:Graph)(keep m:Part)(c:keep.i.length<=1000000):Pua 257 [.agg (gluC l g keep m)] (dI (compG l g keep m)):=by
 refine Tz.p0 func257 rfl λQ b _=>?_;have Y:=@gluC.eq_1;refine wv (h:=aB (qX l g m) wl ?_);refine dD (λa=>?_) λa=>?_
 .have Y:=xa1 Y a @compG.eq_1;exact wv (h:=b _ _ wy)
 .refine wv (h:=aB (AS l keep c) wl ?_);have Y:=xa1 Y a @compG.eq_1;exact wv (h:=b _ _ wy)
theorem C8 (l g:Graph)(keep m:Part)(x:m.i.length<=1000000):Pua 319 [.agg (gluC l g keep m)] (dLI (lO m.i keep.i)):=by
 refine Tz.pK ⟨λt=>t==3,λ_=>[]⟩ func319 rfl (λQ u=>?_);have Y:=@gluC.eq_1;refine wo (h:=bA (λi e H=>∃ a:Xa0,(e 1=.adr (gluC l g keep m)/\e 8=dLI m.i/\e 9=dI m.i.length/\e 3=.own 0 a.length/\e 10=dI i)/\(H.get 0=some ⟨3,1,a.map cI,false⟩)/\(0<H.next)/\(i<=m.i.length)/\(a.length<=i)/\(a=((List.range i).filter λ(b:Nat)=>!mem keep.i b).map (λi=>m.i[i]?.getD 0))) (λi=>m.i.length - i) 0 ⟨([]),wg,wn,wn,wi,bS,(by rfl)⟩ λB f i e H o=>?_);obtain ⟨a,v,k,d,z,y,n⟩:=o;have Y:=xa2 Y v k (bU d);refine dD (λj=>?_) λj=>?_
 .have Y:=xa1 Y j (aA j);refine wo (h:=aB (gX keep.i i) wl ?_);refine dZ (λp=>?_) λp=>?_
  .have Y:=wa Y p;exact wo (h:=wx f (i+1) ⟨(a++(if (!mem keep.i i)=true then [m.i[i]] else [])),wg,wn,wn,wj,eC,(by rw [rX _ _ j,<- n])⟩)
  .have Y:=wa Y p;exact wo (h:=wx f (i+1) ⟨(a++(if (!mem keep.i i)=true then [m.i[i]] else [])),wg,wn,wn,wj,eC,(by rw [rX _ _ j,<- n])⟩)
 .refine wv (h:=?_);have s:lO m.i keep.i=a:=by rw [n,(bL:i=m.i.length)];rfl
  exact u _ _ (fe s)
theorem Ce (l g:Graph)(keep m:Part)(x:m.i.length<=1000000)(o:g.j.length<=1000000):Pua 259 [.agg (gluC l g keep m)] (dLI (CA g m.j (lO m.i keep.i))):=by
 obtain ⟨d,s⟩:=dY (lO m.i keep.i);refine Tz.pK ⟨λt=>t==6||t==4,λ_=>[]⟩ func259 rfl (λQ z=>?_);have Y:=wa s @gluC.eq_1;refine wv (h:=aB ((by have:=C8 l g keep m x;simp only [gluC] at this;exact this)) wl ?_);refine wo (h:=bA (λk e H=>∃ a:Xa0,(e 1=.adr (gluC l g keep m)/\e 3=dLI d/\e 11=.list (g.j.map Edge.c)/\e 12=dI g.j.length/\e 4=.own 0 a.length/\e 13=dI k)/\(H.get 0=some ⟨3,1,a.map cI,false⟩)/\(0<H.next)/\(k<=g.j.length)/\(a.length<=k)/\(a=((List.range k).filter (Bu g m.j d)).map (λ(b:Nat)=>(b:Int)))) (λk=>g.j.length - k) 0 ⟨([]),wg,wn,wn,wi,bS,(by rfl)⟩ λI j k e H r=>?_);obtain ⟨a,C,n,i,F,E,q⟩:=r;have Y:=xa2 Y C n (bU i);refine dD (λp=>?_) λp=>?_
 .have hdb:=Qy (me:=m.j) (gone:=d) p;have B:=gX d g.j[k].from_;have A:=gX d g.j[k].L;have Y:=xa3 Y p (aA p) hdb @Edge.c.eq_1;refine wo (h:=aB (gX m.j k) wl ?_);refine wo (h:=aN (λo=>B) (λo=>wl) ?_);refine wo (h:=aN (λo=>A) (λo=>wl) ?_);refine dZ (λu=>?_) λu=>?_
  .have Y:=wa Y u;exact wo (h:=wx j (k+1) ⟨(a++(if Bu g m.j d k=true then [(k:Int)] else [])),wg,wn,wn,wj,eC,(by rw [dP,<- q])⟩)
  .have Y:=wa Y u;exact wo (h:=wx j (k+1) ⟨(a++(if Bu g m.j d k=true then [(k:Int)] else [])),wg,wn,wn,wj,eC,(by rw [dP,<- q])⟩)
 .refine wv (h:=?_);have y:CA g m.j d=a:=by rw [q,(bL:k=g.j.length)];rfl
  exact z _ _ (fe y)
theorem AF (l g:Graph)(keep m:Part)(c:m.i.length<=1000)(b:m.j.length<=1000):Pua 258 [.agg (gluC l g keep m)] (.tup [.list ((u6 m.i keep.i).map cPr),.list ((u6 m.j keep.j).map cPr)]):=by
 refine Tz.p0 func258 rfl λQ a _=>?_;have Y:=@gluC.eq_1;refine wv (h:=aJ (y6 m.i keep.i c) wl ?_);refine wv (h:=aJ (y6 m.j keep.j b) wl ?_);exact wv (h:=a _ _ wy)
theorem BO {a b:Graph}{m:Part}(h:fD a b m=0):(∀ x∈m.i,0<=x/\x<b.i.length)/\∀ x∈m.j,0<=x/\x<b.j.length:=by
 obtain ⟨_,_,j,g⟩:=pV h;have d:fD a b m=(if b6 (mF a b m) 0 a.i.length≠0 then b6 (mF a b m) 0 a.i.length else b6 (jP a b m) 0 a.j.length):=by
  obtain ⟨f,e,_,_⟩:=pV h;unfold fD;rw [if_neg (fg f),if_neg (fg e),if_neg bL]
 rw [d] at h;split at h
 .rename_i h5;exact absurd h h5
 .rename_i h5;constructor
  .intro x hx;obtain ⟨i,c,rfl⟩:=aM hx;have:=fF _ _ (bL:b6 (mF a b m) 0 a.i.length=0) i bL bL;unfold mF at this;grind
  .intro x hx;obtain ⟨i,c,rfl⟩:=aM hx;have:=fF _ _ h i bL bL;unfold jP at this;grind
theorem KV (l g:Graph)(keep m:Part)(s:keep.i.length<=1000000)(i:m.i.length<=1000)(f:m.j.length<=1000)(o:g.i.length<=1000000)(k:g.j.length<=1000000):Pua 190 [l.d,g.d,keep.d,m.d] (.tup [(u9 l g keep m).d,dI (tK l g keep m)]):=by
 have v:=D8 (keep:=keep.i) i;have u:=D8 (keep:=keep.j) f;refine Tz.pK ⟨λt=>t==8||t==10,λ_=>[]⟩ func190 rfl (λQ n=>?_);have Y:=trivial;refine wv (h:=aB ((by have:=FD l g keep m s;simp only [gluC] at this;exact this)) wl ?_);refine dD (λe=>?_) λe=>?_
 .have b:tK l g keep m=compG l g keep m:=if_pos e;have c:u9 l g keep m=⟨[],[]⟩:=if_neg (by rw [b];exact e);exact wv (h:=n _ _ (fc b c))
 .have b:tK l g keep m=if 0<(u6 m.i keep.i).length+(u6 m.j keep.j).length then 15 else if 0<(CA g m.j (lO m.i keep.i)).length then 14 else 0:=if_neg (by rw [e];simp)
  have j:(∀ x∈m.i,0<=x/\x<g.i.length)/\∀ x∈m.j,0<=x/\x<g.j.length:=BO (a:=l) (by unfold compG at e;by_cases p:fD l g m=0;exact p;rw [if_pos p] at e;exact e);refine wv (h:=aB ((by have:=AF l g keep m i f;simp only [gluC] at this;exact this)) wl ?_);refine dZ (λr=>?_) λr=>?_
  .rw [if_pos bL] at b;have c:u9 l g keep m=⟨[],[]⟩:=if_neg (by rw [b];simp);exact wv (h:=n _ _ (fc b c))
  .rw [if_neg (by first|omega|simp [r])] at b;refine wo (h:=aB ((by have:=Ce l g keep m bL k;simp only [gluC] at this;exact this)) wl ?_);refine dZ (λq=>?_) λq=>?_
   .rw [if_pos bL] at b;have c:u9 l g keep m=⟨[],[]⟩:=if_neg (by rw [b];simp);exact wv (h:=n _ _ (fc b c))
   .rw [if_neg (by first|omega|simp [q])] at b;have c:u9 l g keep m=⟨dC (lO m.i keep.i) g.i.length,dC (lO m.j keep.j) g.j.length⟩:=if_pos b;refine wo (h:=aJ (Ap g.i.length o m.i keep.i bL j.1) wl ?_);refine wo (h:=aJ (Ap g.j.length k m.j keep.j bL j.2) wl ?_);exact wo (h:=n _ _ (fc b c))
def fewG (g:Graph):Bool:=decide ((g.i.length:Int)<=45)&&decide ((g.j.length:Int)<=90)
def fewP (p:Pattern):Bool:=fewG p.o&&decide ((p.q.length:Int)<=15)&&decide ((p.R.length:Int)<=15)
def fewPart (p:Part)(n:Int):Bool:=decide ((p.i.length:Int)+p.j.length<=n)
structure Part.le (p:Part):Prop where
 n:p.i.length<=1000000000000000
 e:p.j.length<=1000000000000000
theorem BN (g:Graph):Pua 45 [g.d] (.bool (fewG g)):=by
 refine Tz.p0 func45 rfl λQ a Y=>?_;have Y:=wa Y @fewG.eq_1;exact wo (h:=a _ _ wy)
theorem yD (p:Pattern):Pua 80 [p.d] (.bool (fewP p)):=by
 refine Tz.p0 func80 rfl λQ a Y=>?_;refine wo (h:=aB (BN p.o) wl ?_);have Y:=wa Y @fewP.eq_1;exact wo (h:=a _ _ wy)
theorem LB (p:Part)(a:p.le)(n:Int):Pua 82 [p.d,dI n] (.bool (fewPart p n)):=by
 obtain ⟨e,c⟩:=a;refine Tz.p0 func82 rfl λQ b Y=>?_;have Y:=wa Y @fewPart.eq_1;exact wo (h:=b _ _ wy)
theorem UP (p:Part)(a:p.le)(n:Int):Pua 81 [p.d,dI n] (.bool (fewPart p n)):=by
 obtain ⟨e,c⟩:=a;refine Tz.p0 func81 rfl λQ b Y=>?_;have Y:=wa Y @fewPart.eq_1;exact wo (h:=b _ _ wy)
mutual
def qY:Cond->Int->Int
 | .mk k l m p,b=>if (!fewP p||!fewPart m 140)=true then -1 else rL l (b - 1)
def rL:List Cond->Int->Int
 | [],b=>b
 | c :: l,b=>if 0<=b then rL l (qY c b) else b
end
theorem WP (c:Cond)(b:Int):qY c b=if (!fewP c.u||!fewPart c.map 140)=true then -1 else rL c.y (b - 1):=by cases c;rw [qY];rfl
mutual
theorem Jb:∀ (c:Cond) (b:Int),0<=b->-1<=qY c b/\qY c b<=b - 1
 | .mk k l m p,b,h=>by
  rw [qY];split
  ·omega
  ·exact Ja l (b - 1) (by omega)
theorem Ja:∀ (l:List Cond) (b:Int),-1<=b->-1<=rL l b/\rL l b<=b
 | [],b,h=>by rw [rL];omega
 | c :: l,b,h=>by
  rw [rL];split
  ·rename_i h0
   have h1:=Jb c b h0;have h2:=Ja l (qY c b) h1.1;omega
  ·omega
end
mutual
def Cond.le:Cond->Prop
 | .mk k l m p=>m.le/\Cond.cx l
def Cond.cx:List Cond->Prop
 | []=>True
 | c :: l=>c.le/\Cond.cx l
end
theorem Oq (l:List Cond):Cond.cx l↔∀ c∈l,c.le:=by
 induction l with
 | nil=>simp [Cond.cx]
 | cons a l ih=>simp [Cond.cx,ih]
theorem GP (c:Cond):c.le↔c.map.le/\∀ k∈c.y,k.le:=by cases c;simp [Cond.le,Oq,Cond.y,Cond.map]
mutual
theorem DT:∀ (c:Cond) (b:Int),0<=b->0<=qY c b->c.ok/\(c.size:Int)<=b - qY c b
 | .mk k l m p,b,h,h0=>by
  rw [qY] at h0 ⊢;split at h0
  ·omega
  ·rename_i h1
   rw [if_neg h1];have h2:=Qb l (b - 1) (by omega) h0;simp [fewP,fewG,fewPart] at h1;refine ⟨⟨⟨?_,?_,?_,?_,?_,?_⟩,h2.1⟩,?_⟩<;>simp only [Cond.map,Cond.u,Cond.size]<;>omega
theorem Qb:∀ (l:List Cond) (b:Int),-1<=b->0<=rL l b->Cond.cf l/\(Cond.X l:Int)<=b - rL l b
 | [],b,h,h0=>by simp [Cond.cf,Cond.X,rL]
 | c :: l,b,h,h0=>by
  rw [rL] at h0 ⊢;split at h0
  ·rename_i hb
   rw [if_pos hb];have h1:=Jb c b hb;have h2:=Ja l (qY c b) h1.1;have h3:=DT c b hb (by omega);have h4:=Qb l (qY c b) h1.1 h0;refine ⟨⟨h3.1,h4.1⟩,?_⟩;simp only [Cond.X];omega
  ·omega
end
theorem Sg {l:List Cond}{i:Nat}(h:i<l.length){b:Int}(a:0<=b):rL (l.drop i) b=rL (l.drop (i+1)) (qY l[i] b):=by
 rw [List.drop_eq_getElem_cons h,rL,if_pos a]
theorem Vk {l:List Cond}{i:Nat}{b:Int}(h:¬ (i<l.length/\0<=b)):rL (l.drop i) b=b:=by
 by_cases a:i<l.length
 .rw [List.drop_eq_getElem_cons a,rL,if_neg bL]
 .rw [iX bL,rL]
theorem RP:∀ c:Cond,c.le->∀ b:Int,0<=b->b<=1000->Pua 151 [.agg c.c,dI b] (dI (qY c b)):=by
 refine lU λc n r d t s=>?_;obtain ⟨o,p⟩:=(GP c).1 r;have a:=WP c d;refine Tz.p0 func151 rfl λQ k _=>?_;have Y:=@Cond.F;refine wo (h:=aB (yD c.u) wl ?_);refine wo (h:=aN (λq=>LB c.map o 140) (λq=>wl) ?_);refine dZ (λj=>?_) λj=>?_
 .rw [if_pos (cG j)] at a;exact wv (h:=k _ _ (eD a))
 .rw [if_neg (cG j)] at a;refine wv (h:=bA (λi e H=>∃ b:Int,(e 2=.adr c.c/\e 1=dI b/\e 5=dI i)/\(i<=c.y.length)/\(-1<=b/\b<d)/\(rL (c.y.drop i) b=qY c d)) (λi=>c.y.length - i) 0 ⟨((d - 1)),wg,wi,bL,(by exact a.symm)⟩ λy g i e H f=>?_);obtain ⟨b,v,w,x,l⟩:=f;have Y:=wa Y v;refine wv (h:=?_);repeat first|intro _|refine ⟨iV,?_⟩
  refine wq (λm=>?_) λm=>?_
  .have h5':i<c.y.length/\0<=b:=bL;have Y:=xa1 Y m h5'.1;refine wo (h:=aB ((by have:=n _ (aC h5'.1) (p _ (aC h5'.1)) b h5'.2 bL;rwa [Cond.F] at this)) wl ?_);exact wo (h:=wx g (i+1) ⟨(qY c.y[i] b),wg,wj,(by have:=Jb c.y[i] b h5'.2;omega),(by rw [<- l,Sg h5'.1 h5'.2])⟩)
  .have h5':¬ (i<c.y.length/\0<=b):=bL;refine wv (h:=?_);have u:qY c d=b:=by rw [<- l,Vk h5']
   exact k _ _ (eD u)
def fewC (c:Cond):Bool:=decide (0<=qY c 40)
theorem Ly (c:Cond)(a:c.le):Pua 83 [.agg c.c] (.bool (fewC c)):=by
 refine Tz.p0 func83 rfl λQ b _=>?_;have Y:=@Cond.F;refine wv (h:=aB ((by have:=RP c a 40 bL bL;rwa [Cond.F] at this)) wl ?_);have Y:=wa Y @fewC.eq_1;exact wv (h:=b _ _ wy)
def fewR (r:Rule):Bool:=decide ((r.name.size:Int)<=60)&&fewP r.left&&fewP r.right&&fewPart r.G 140&&fewPart r.O 140&&fewC r.cond
structure Rule.le (r:Rule):Prop where
 G:r.G.le
 O:r.O.le
 cond:r.cond.le
theorem Lx (r:Rule)(b:r.le):Pua 44 [r.d] (.bool (fewR r)):=by
 refine Tz.p0 func44 rfl λQ c Y=>?_;refine wo (h:=aN (λa=>yD r.left) (λa=>wl) ?_);refine wo (h:=aN (λa=>yD r.right) (λa=>wl) ?_);refine wo (h:=aN (λa=>UP r.G b.G 140) (λa=>wl) ?_);refine wo (h:=aN (λa=>LB r.O b.O 140) (λa=>wl) ?_);refine wo (h:=aN (λa=>(by have:=Ly r.cond b.cond;rwa [Cond.F] at this)) (λa=>wl) ?_);have Y:=wa Y @fewR.eq_1;exact wo (h:=c _ _ wy)
def Br (rs:List Rule):Bool:=decide ((rs.length:Int)<=8)&&!(rs.any λr=>!fewR r)
theorem UL (rs:List Rule)(l:∀ r∈rs,r.le):Pua 15 [.list (rs.map Rule.c)] (.bool (Br rs)):=by
 refine Tz.p0 func15 rfl λQ f Y=>?_;refine wv (h:=?_);repeat first|intro _|refine ⟨iV,?_⟩
 refine wq (λn=>?_) λn=>?_
 .refine wv (h:=?_);have d:Br rs=false:=by simp [Br];omega
  exact f _ _ (.inl (eD d))
 .refine wv (h:=bA (λi e H=>(e 0=.list (rs.map Rule.c)/\e 3=dI i)/\(i<=rs.length)/\(((rs.take i).any λr=>!fewR r)=false)) (λi=>rs.length - i) 0 ⟨wg,wi,(by rfl)⟩ λq g i e H b=>?_);obtain ⟨o,p,k⟩:=b;have Y:=wa Y o;refine wv (h:=?_);repeat first|intro _|refine ⟨iV,?_⟩
  refine wq (λa=>?_) λa=>?_
  .have Y:=wa Y a;refine wv (h:=?_);repeat first|intro _|refine ⟨iV,?_⟩
   refine aB (Lx rs[i] (l _ (aC a))) wl ?_;refine wv (h:=?_);repeat first|intro _|refine ⟨iV,?_⟩
   refine wq (λj=>?_) λj=>?_
   .refine wv (h:=?_);have d:(rs.any λr=>!fewR r)=true:=aZ.2 ⟨_,aC a,by simp [j]⟩;exact f _ _ (.inl (by simp only [go_sem,Br,d,CF,GT]))
   .refine wv (h:=?_);repeat first|intro _|refine ⟨iV,?_⟩
    exact wx g (i+1) ⟨wg,wj,(by rw [dS _ _ _ a,k];simp [j])⟩
  .have hN:=oW k a;refine wv (h:=?_);have m:decide ((rs.length:Int)<=8)=true:=by simp;omega
   exact f _ _ (.inl (by simp only [go_sem,Br,hN,m,GR,CG]))
structure Ovl where
 o:Graph
 left:Part
 right:Part
def Ovl.c (o:Ovl):Xa2:=[dLI o.o.i,.list (o.o.j.map Edge.c),dLI o.left.i,dLI o.left.j,dLI o.right.i,dLI o.right.j]
def Ovl.d (o:Ovl):D:=.agg o.c
@[go_sem] theorem Ovl.U (o:Ovl):D.N o.c=true:=by simp [Ovl.c,D.N,D.U,pA,yY]
@[go_sem] theorem Ovl.ea (o:Ovl):o.d.U=true:=by grind [Ovl.d, D.U, Ovl.U]
@[go_sem] theorem agS (l:List Ovl):D.T (l.map Ovl.c)=true:=dL _ Ovl.U l
def oF (n:Nat):Xa0:=(List.range n).map λ(k:Nat)=>(k:Int)
theorem WJ (n:Nat):(oF n).length=n:=by simp [oF]
theorem QI:Own prog 256 [.nil] 124 3 []:=by
 refine Tz.oK ⟨λt=>t==2||t==5,λ_=>[]⟩ func256 rfl (λQ a=>?_);have Y:=trivial;refine wv (h:=?_);exact a _ _ _ ez ez
theorem QG:Own prog 256 [.ne] 124 3 []:=by
 refine Tz.oK ⟨λt=>t==2||t==5,λ_=>[]⟩ func256 rfl (λQ a=>?_);have Y:=trivial;refine wo (h:=?_);exact a _ _ _ ez ez
theorem QH (l:List Edge)(d:l.length<=1000000)(a:l≠[]):Own prog 256 [.list (l.map Edge.c)] 124 3 (l.map Edge.c):=by
 refine Tz.oK ⟨λt=>t==2||t==5,λ_=>[]⟩ func256 rfl (λQ b=>?_);have Y:=a;refine wo (h:=?_);exact b _ _ _ ez ez
theorem JM (l:List Edge)(b:l.length<=1000000):Own prog 256 [.list (l.map Edge.c)] 124 3 (l.map Edge.c):=by
 by_cases a:l=[]
 .subst a;exact Fj QI QG
 .exact QH l b a
theorem GU {P:Program}{H:AHeap}{f:FuncId}{args:Xa2}{ty:TypeId}{sz:Nat}{es:Xa1}{Q:D->AHeap->Prop}(A:Own P f (args.map (jN H)) ty sz es)(x:D.N (args.map (jN H))=true)(K:∀ d∈es.flatten,d.flat=true)(N:Q (.list es) H):ACalls P f args H Q:=by
 refine ⟨A.1,λE σ w k o M=>?_⟩;obtain ⟨V,f2,Z,Y⟩:=fQ (args.flatMap eE) o;refine (A.2 (dK E (fH (args.flatMap eE) H) σ) w k (rS V) (iE (λ_ h=>h) (Dz o M _ λi h=>h) x)).mono λe G ⟨v,F,L,b,O,c,C,r,m⟩=>?_;obtain ⟨U,T,S⟩:=o.grow m.os m.tape m.output m.size m.block;have I:RepV (dK E H σ) g9 pT G v (.list es):=by
  rcases b.2 with ⟨l,R⟩|⟨g,y,W,a,X,n,s,t,z,q⟩
  .rw [l,bI R];exact .listN
  .rw [a];refine .list ⟨g,0,none⟩ y sz F es s t r c.len O (λj u p=>⟨λJ=>?_,b.cells (g:=g) (by simp [a,Value.ownBlock]) j u p⟩) (λj u d p B=>yT (c.Y j u d p B) (K d (aK B)));have:=rS o g J;omega
 exact ⟨v,.list es,H,σ,L,U,I.G wP,T,S,N⟩
theorem mO {P:Program}{md:Nat->Bool}{ops:Array Oper}{g:List (Nat × Nat)}{l i:Nat}{a:List Oper}{b:List (Nat × List Nat)}{e:dO}{c:Option Tmp}{K:dO->AHeap->Prop}{f:FuncId}{args args':Xa2}{H:AHeap}{ty:TypeId}{sz:Nat}{es:Xa1}
  (o:Own P f args' ty sz es) (r:args.map (jN H)=args') (j:D.N args'=true) (p:∀ d∈es.flatten,d.flat=true) {S:List Nat} (s:args.flatMap eE=S) (q:chk g i S b)
  (h:kQ P md ops g l (i+1) a ((i,S) :: b) (nB e c (.list es)) H K):pZ P md ops g l i a b e c K f args H:=by
 subst r s;unfold pZ;refine .inl ⟨.list es,_,λt k=>?_,q,h⟩;have m:=Dd k λx n=>n;exact GU (by rw [m];exact o) (by rw [m];exact j) p ⟨rfl,rfl⟩
theorem eP {β:Type}(f:β->Nat->β)(b:β)(n:Nat):(List.range (n+1)).foldl f b=f ((List.range n).foldl f b) n:=by
 rw [c6,eG];rfl
theorem Vi {t:Types}(b:t.vl0){a:Nat}(c:a<t.i.length):mem (t.ao a) a=true:=by
 rw [Bh t a c (b.an a),yM];simp
def cL (l:Xa0):Xa2:=[dLI l]
@[go_sem] theorem ae6 (l:Yb):D.T (l.map cL)=true:=dL cL (λx=>by simp [cL,go_sem]) l
attribute [go_sem] cL
@[go_sem] theorem ahA (o:Option Rule)(A z y x w v u t s r q p n m l k j i h g f e d b a:D):((Option.map Rule.c o).getD [A,z,y,x,w,v,u,t,s,r,q,p,n,m,l,k,j,i,h,g,f,e,d,b,a]).length=25:=by cases o<;>rfl
def aeD (mask:List Bool):List Nat:=(List.range mask.length).filter λi=>mask[i]?.getD false
theorem yV (a b:Xa0):Pua 13 [dLI a,dLI b] (.bool (decide (a=b))):=by
 refine Tz.p0 func13 rfl λQ g Y=>?_;refine wv (h:=?_);repeat first|intro _|refine ⟨o,?_⟩
 refine wq (λn=>?_) λn=>?_
 .refine wv (h:=?_);have c:a≠b:=by intro h;subst h;omega
  exact g _ _ (eD c)
 .refine wo (h:=bA (λi e H=>(e 0=dLI a/\e 1=dLI b/\e 12=dI a.length/\e 13=dI i)/\(i<=a.length)/\(a.take i=b.take i)) (λi=>a.length - i) 0 ⟨wg,wi,(by rfl)⟩ λt j i e H d=>?_);obtain ⟨p,s,f⟩:=d;have Y:=wa Y p;refine dD (λl=>?_) λl=>?_
  .have hib:i<b.length:=bL;have Y:=xa1 Y l hib;refine wv (h:=?_);repeat first|intro _|refine ⟨o,?_⟩
   refine wq (λk=>?_) λk=>?_
   .refine wv (h:=?_);have c:a≠b:=by intro h;subst h;exact k rfl
    exact g _ _ (eD c)
   .exact wo (h:=wx j (i+1) ⟨wg,wj,(by rw [aD l,aD hib,f,k])⟩)
  .rw [aH bL,aH bL] at f;exact wv (h:=g _ _ (eD f))
theorem Hz {r:Rule}(h:fewR r=true):r.ok:=by
 simp only [fewR,aR,decide_eq_true_eq] at h;obtain ⟨⟨⟨⟨⟨i,g⟩,f⟩,e⟩,d⟩,b⟩:=h;simp [fewPart] at e d;simp [fewC] at b;have c:=DT r.cond 40 bL b;exact ⟨bL,bL,bL,bL,bL,c.1,bL⟩
theorem SV {P:Program}{md:Nat->Bool}{ops:Array Oper}{a:List Oper}{e:dO}{b:Option Tmp}{K:dO->AHeap->Prop}{f:FuncId}{args args':Xa2}{H:AHeap}{ty:TypeId}{sz:Nat}{es:Xa1}
  (g:Own P f args' ty sz es) (j:args.map (jN H)=args') (c:D.N args'=true) (i:∀ d∈es.flatten,d.flat=true) (h:oM P md ops a (nB e b (.list es)) H K):dQ P md ops a e b K f args H:=by grind [dQ, GU]
theorem Ju (zs:Xa0):∀ d∈(zs.map cI).flatten,d.flat=true:=by
 intro d a;rw [BV,aS] at a;obtain ⟨x,_,rfl⟩:=a;rfl
def Tx:Xa0->Int
 | []=>0
 | a :: l=>if a≠0 then a else Tx l
theorem Wx {l:Xa0}{i:Nat}(h:i<l.length):Tx (l.drop i)=if l[i]≠0 then l[i] else Tx (l.drop (i+1)):=by
 rw [List.drop_eq_getElem_cons h];rfl
theorem SI (l:Xa0):Pua 63 [dLI l] (dI (Tx l)):=by
 refine Tz.p0 func63 rfl λQ f Y=>?_;refine wv (h:=?_);repeat first|intro _|refine ⟨iV,?_⟩
 refine bA (λi e H=>(e 6=dLI l/\e 7=dI l.length/\e 3=dI 0/\e 8=dI i)/\(i<=l.length)/\(Tx (l.drop i)=Tx l)) (λi=>l.length - i) 0 ⟨wg,wi,(by rfl)⟩ λq c i e H a=>?_;obtain ⟨m,p,b⟩:=a;have Y:=wa Y m;refine dD (λd=>?_) λd=>?_
 .have hst:=b;rw [Wx d] at hst;have Y:=wa Y d;refine wv (h:=?_);repeat first|intro _|refine ⟨iV,?_⟩
  refine wq (λk=>?_) λk=>?_
  .rw [if_pos bL] at hst;exact wv (h:=f _ _ (by simp [go_sem,<- hst]))
  .rw [if_neg bL] at hst;refine wv (h:=?_);repeat first|intro _|refine ⟨iV,?_⟩
   exact wx c (i+1) ⟨wg,wj,(hst)⟩
 .rw [iX bL] at b;exact wv (h:=f _ _ (by simp [go_sem,<- b,Tx]))
theorem Ks {P:Program}(w:World)(y z ty b:TypeId)(sz:Nat)(g o e m:Nat)(a:Addr)(d h n:Nat)(c:Array Value)(t:TypeId)(cs:List Value)
  (A:P.underlying y=some (.slice b)) (u:(P.info? b).map (·.size)=some sz)
  (D:w.heap[g]?=some (.cells c t (0,0))) (B:n=Nat.min d e) (s:cs.length=n * sz)
  (k:∀ j v,cs[j]?=some v->w.cell? (a.add j)=some v) (l:o+cs.length<=c.size) (E:∀ v∈cs,v.oneCell'=true) :
  (Builtin.copy_ #[y,z] ty #[.slice (some ⟨g,o,none⟩) e m,.slice (some a) d h]).run P w =
   .ok (goInt n) (w.setRow g (c.toList.take o++cs++c.toList.drop (o+cs.length)).toArray):=by
 have x:=run_loadCells_list (P:=P) w a cs k;have q:=run_storeCells_at P g o t cs 0 c w D (cG l) E;cases r:P.info? b with
 | none=>simp [r] at u
 | some i =>
  have C:i.size=sz:=by simpa [r] using u
  rw [s] at x;simp [Builtin.copy_,run_underlying A,Builtin.lenOf,Builtin.firstCells,sizeOf,typeInfo,r,C,<- B,x,q]
def cmp1 (a b:Int):Int:=if a<b then -1 else if b<a then 1 else 0
theorem lQ (a b:Int):Pua 64 [dI a,dI b] (dI (cmp1 a b)):=by
 refine Tz.p0 func64 rfl λQ e Y=>?_;refine wv (h:=aB (BY a) wl ?_);refine wv (h:=aB (BY b) wl ?_);refine dD (λd=>?_) λd=>?_
 .have Y:=xa1 Y d @cmp1.eq_1;exact wv (h:=e _ _ wy)
 .refine dD (λc=>?_) λc=>?_
  .have Y:=xa2 Y d c @cmp1.eq_1;exact wv (h:=e _ _ wy)
  .have Y:=xa2 Y d c @cmp1.eq_1;exact wv (h:=e _ _ wy)
theorem Ct (g:Graph)(k:g.i.length<=100000)(l:g.j.length<=100000)(G:AHeap)(Q:D->AHeap->Prop)
  (i:∀ a b H',G.next<=a->G.next<=b->a≠b->a<H'.next->b<H'.next->H'.get a=some ⟨3,1,g.i.map cI,false⟩->H'.get b=some ⟨124,3,g.j.map Edge.c,false⟩->(∀ j,j<G.next->H'.get j=G.get j)->G.next<=H'.next->Q (.agg [.own a g.i.length,.own b g.j.length]) H'):ACalls prog 30 [g.d] G Q:=by
 refine (Tz.cK ⟨λt=>t==2||t==3||t==7,λr=>match r with|1=>[(0,1),(0,2),(0,4),(1,4),(2,4),(3,4),(0,5),(3,5),(4,5),(0,6),(3,6),(4,6)]|_=>[]⟩ func30 rfl ?_);have e:=Yy G.next;have Y:=e;refine wo (h:=?_);exact i _ _ _ (by first|omega|(simp [go_sem]<;>omega)|(simp [go_sem,e]<;>omega)) (by first|omega|(simp [go_sem]<;>omega)|(simp [go_sem,e]<;>omega)) (by first|omega|(simp [go_sem]<;>omega)|(simp [go_sem,e]<;>omega)) (by first|omega|(simp [go_sem]<;>omega)|(simp [go_sem,e]<;>omega)) (by first|omega|(simp [go_sem]<;>omega)|(simp [go_sem,e]<;>omega)) (by simp [go_sem]<;>omega) (by simp [go_sem]<;>omega) (λj f=>by simp [go_sem,bU f]) (by first|omega|(simp [go_sem]<;>omega)|(simp [go_sem,e]<;>omega))
def kU (s:ByteArray):Bool:=decide (40<(s.size:Int))
def wY (x:Attr):Bool:=kU x.name||decide (25<(x.ae.length:Int))||x.ae.any kU
def sF (n:NodeTy):Bool:=kU n.name||n.w.any wY
def B5 (x:EdgeTy):Bool:=kU x.name
def jW (l:List NodeTy):Nat:=(l.map λn=>n.w.length).sum
def u0 (t:Types):Bool:=decide ((t.i.length:Int)<=20)&&decide ((t.j.length:Int)<=30)&&decide (jW t.i<=30)&&!(t.i.any sF)&&!(t.j.any B5)
@[go_sem,simp] theorem ZI:jW []=0:=rfl
theorem Oa (l:List NodeTy){i:Nat}(h:i<l.length):jW (l.take (i+1))=jW (l.take i)+l[i].w.length:=by
 unfold jW;rw [aD h,List.map_append,List.sum_append];simp
theorem S5 (l:List NodeTy)(i:Nat):jW (l.take i)≤jW l:=by
 have:jW l=jW (l.take i)+jW (l.drop i):=by
  unfold jW;rw [← List.sum_append,← List.map_append,List.take_append_drop]
 omega
theorem VN {l:List NodeTy}{n:NodeTy}(h:n∈l):n.w.length<=jW l:=by
 induction l with
 | nil=>cases h
 | cons a l ih =>
  have e:jW (a :: l)=a.w.length+jW l:=by simp [jW]
  grind
theorem NW {t:Types}(h:u0 t=true):t.ok:=by
 simp [u0] at h;obtain ⟨⟨⟨⟨k,j⟩,i⟩,f⟩,e⟩:=h;refine ⟨λn c=>?_,λx b=>⟨?_⟩,bL,bL⟩
 .have hl:=VN c;have:=f n c;simp [sF,kU] at this;refine ⟨bL,λx b=>?_,bL⟩;have d:=this.2 x b;simp [wY,kU] at d;refine ⟨bL,λs g=>?_,bL⟩;grind
 .have:=e x b;simp [B5,kU] at this;omega
theorem Fh (t:Types)(R:∀ n∈t.i,n.w.length<=1000000000000000):Pua 14 [t.d] (.bool (u0 t)):=by
 refine Tz.pK ⟨λt=>t==6,λ_=>[]⟩ func14 rfl (λQ u=>?_);have Y:=trivial;refine dZ (λW=>?_) λW=>?_
 .refine wv (h:=?_);have s:u0 t=false:=by simp [u0];omega
  exact u _ _ (eD s)
 .refine wv (h:=bA (λi e H=>(e 1=.adr t.c/\e 3=dI (jW (t.i.take i))/\e 4=dI i)/\(i<=t.i.length)/\(jW (t.i.take i)<=30)/\((t.i.take i).any sF=false)) (λi=>t.i.length - i) 0 ⟨wg,wi,(by simp [jW]),(by rfl)⟩ λI0 J i e H D=>?_);obtain ⟨E0,hi,S,P⟩:=D;have Y:=wa Y E0;refine dZ (λp=>?_) λp=>?_
  .have hst:=Oa t.i p;have T:=S5 t.i (i+1);have hn:=R _ (aC p);have Y:=xa1 Y p hst;refine dZ (λh8=>?_) λh8=>?_
   .refine wv (h:=?_);have s:u0 t=false:=by
     rcases h8 with h8|h8
     .simp [u0];omega
     .have:t.i.any sF=true:=aZ.2 ⟨_,aC p,by simp [sF,kU];omega⟩;simp [u0,this]
    exact u _ _ (eD s)
   .have U:kU t.i[i].name=false:=by simp [kU];omega
    refine wv (h:=bA (λk e H=>(e 1=.adr t.c/\e 3=dI (jW (t.i.take (i+1)))/\e 4=dI i/\e 5=dI k)/\(k<=t.i[i].w.length)/\((t.i[i].w.take k).any wY=false)) (λk=>t.i[i].w.length - k) 0 ⟨wg,wi,(by rfl)⟩ λI2 I k e H C=>?_);obtain ⟨E2,hk,s⟩:=C;have Y:=wa Y E2;refine dZ (λb=>?_) λb=>?_
    .have Y:=wa Y b;refine dZ (λM=>?_) λM=>?_
     .refine wv (h:=?_);have f:wY t.i[i].w[k]=true:=by simp [wY,kU];omega
      have g:t.i.any sF=true:=aZ.2 ⟨_,aC p,by unfold sF;rw [cX];right;exact aZ.2 ⟨_,aC b,f⟩⟩;have a:u0 t=false:=by simp [u0,g]
      exact u _ _ (eD a)
     .have V:kU t.i[i].w[k].name=false:=by simp [kU];omega
      refine wv (h:=bA (λm e H=>∃ j:Nat,(e 1=.adr t.c/\e 3=dI (jW (t.i.take (i+1)))/\e 4=dI i/\e 5=dI k/\e 6=.ptr j 1 0 0/\e 7=dI m)/\(H.get j=some ⟨107,4,[t.i[i].w[k].c],false⟩)/\(j<H.next)/\(m<=t.i[i].w[k].ae.length)/\((t.i[i].w[k].ae.take m).any kU=false)) (λm=>t.i[i].w[k].ae.length - m) 0 ⟨H.next,wg,wn,wn,wi,(by rfl)⟩ λI4 G m e H B=>?_);obtain ⟨j,E4,w,v,hm,O⟩:=B;have Y:=xa2 Y E4 w (bU v);refine dZ (λo=>?_) λo=>?_
      .have Y:=wa Y o;refine dZ (λL=>?_) λL=>?_
       .refine wv (h:=?_);have f:wY t.i[i].w[k]=true:=by unfold wY;rw [cX];right;exact aZ.2 ⟨_,aC o,by simp [kU];omega⟩
        have g:t.i.any sF=true:=aZ.2 ⟨_,aC p,by unfold sF;rw [cX];right;exact aZ.2 ⟨_,aC b,f⟩⟩;have a:u0 t=false:=by simp [u0,g]
        exact u _ _ (eD a)
       .exact wo (h:=wx G (m+1) ⟨j,wg,wn,wn,wj,(by rw [dS _ _ _ o,O];simp [kU];omega)⟩)
      .have hZ:=oW O o;exact wo (h:=wx I (k+1) ⟨wg,wj,(by rw [dS _ _ _ b,s];simp [wY,V,hZ];omega)⟩)
    .have hA:=oW s b;exact wo (h:=wx J (i+1) ⟨wg,wj,bL,(by rw [dS _ _ _ p,P];simp [sF,U,hA])⟩)
  .have E:=oW P p;rw [aH bL] at S;refine wv (h:=bA (λq e H=>(e 1=.adr t.c/\e 8=dI q)/\(q<=t.j.length)/\((t.j.take q).any B5=false)) (λq=>t.j.length - q) 0 ⟨wg,wi,(by rfl)⟩ λI6 F q e H A=>?_);obtain ⟨Z,hj,N⟩:=A;have Y:=wa Y Z;refine dZ (λl=>?_) λl=>?_
   .have Y:=wa Y l;refine dZ (λK=>?_) λK=>?_
    .refine wv (h:=?_);have g:t.j.any B5=true:=aZ.2 ⟨_,aC l,by simp [B5,kU];omega⟩;have a:u0 t=false:=by simp [u0,g]
     exact u _ _ (eD a)
    .exact wo (h:=wx F (q+1) ⟨wg,wj,(by rw [dS _ _ _ l,N];simp [B5,kU];omega)⟩)
   .have hEe:=oW N l;refine wv (h:=?_);have a:u0 t=true:=by simp only [u0,E,hEe];simp;omega
    exact u _ _ (eD a)
abbrev B2:=UInt8 × UInt8
def cP (x:B2):Xa2:=[.int .u8 (x.1.toNat:Int),.int .u8 (x.2.toNat:Int)]
@[go_sem] theorem abN (l:List B2):D.T (l.map cP)=true:=dL _ (λ_=>rfl) l
def EH:ByteArray:=⟨#[65,66,67,68,69,70]⟩
theorem mZ {l:Xa1}(h:∀ c∈l,gI c=c):eL l=l:=by
 rw [t8];conv=>rhs;rw [<- List.map_id l]
 exact bY h
def Attr.dr (x:Attr):Prop:=x.am<=x.aw/\-1000<=x.am/\x.aw<=1000
structure Types.ds (t:Types):Prop where
 ok:t.ok
 vl0:t.vl0
 dr:∀ a,(∀ x∈bZ t a,x.dr)/\(bZ t a).length<=8
def At (t:Types)(i:Nat):Bool:=match t.i[i]? with|some n=>n.cO|none=>false
def T6 (t:Types):Xa0:=((List.range t.i.length).filter λi=>!At t i).map λ(i:Nat)=>(i:Int)
def Zq (b:List Bool):Xa0:=(aeD b).map λ(i:Nat)=>(i:Int)
def ahW (xs:Xa0)(i j:Nat):Xa0:=(xs.set i (xs[j]?.getD 0)).set j (xs[i]?.getD 0)
def cU (x:UInt8):Xa2:=[.int .u8 (x.toNat:Int)]
@[go_sem] theorem SX (l:List UInt8):D.T (l.map cU)=true:=dL _ (λ_=>rfl) l
def adK (n:Nat)(l:List UInt8)(i:Nat):Nat:=((i:Int)+((l[i]?.getD 0).toNat:Int).tmod ((n:Int) - i)).toNat
def adJ (n:Nat)(l:List UInt8)(xs:Xa0)(i:Nat):Xa0:=ahW xs i (adK n l i)
def Te (n:Nat)(l:List UInt8):Xa0:=(List.range (min n l.length)).foldl (adJ n l) (oF n)
def ah3 (p xs:Xa0)(k:Nat):Xa0:=(List.range k).foldl (λacc i=>acc.set (p[i]?.getD 0).toNat (xs[i]?.getD 0)) xs
def ah2 (p:Xa0)(x:Edge):Edge:=⟨x.type,p[x.from_.toNat]?.getD 0,p[x.L.toNat]?.getD 0⟩
def ah5 (p q:Xa0)(es:List Edge)(k:Nat):List Edge:=(List.range k).foldl (λacc i=>acc.set (q[i]?.getD 0).toNat (ah2 p (es[i]?.getD ⟨0,0,0⟩))) es
def ah4 (g:Graph)(p q:Xa0):Graph:=if graphF g=0 then ⟨ah3 p g.i g.i.length,ah5 p q g.j g.j.length⟩ else ⟨[],[]⟩
end Go.Abs
end
