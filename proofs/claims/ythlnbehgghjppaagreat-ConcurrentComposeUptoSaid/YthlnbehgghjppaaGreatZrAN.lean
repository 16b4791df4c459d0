/- Layer 32, the plain law: complements, and the parts of the c -/
import Derived.Test.YthlnbehgghjppaaGreatZrAM
import Derived.Test.YthlnbehgghjppaaGreatZrAG
import Derived.Test.YthlnbehgghjppaaGreatZrAJ
import Derived.Test.YthlnbehgghjppaaGreatZrAA
import Derived.Test.YthlnbehgghjppaaGreatZrAL
set_option linter.unusedVariables false
set_option linter.unusedSimpArgs false
section
set_option maxRecDepth 100000
set_option maxHeartbeats 4000000
open Go Go.Proofs Tryz
namespace Go.Abs
theorem nD {f:Nat->Int}:∀ (n k:Nat),(∀ j,k<=j->j<k+n->f j=0)->bS f k n=0
 | 0,k,_=>rfl
 | n+1,k,h=>by
  unfold bS;rw [if_neg (by rw [h k (bD _) bZ];simp)];exact nD n (k+1) λj h1 h2=>h j bZ bZ
theorem VI {l:Xa0}{n:Int}(d:∀ x∈l,0<=x/\x<n)(c:l.Pairwise (· < ·)):EY l n=0:=by
 refine nD _ _ λj _ f=>?_;have a:j<l.length:=bZ;have e:=d _ (aC a);unfold Ja;rw [aA a,aD,if_neg bZ,if_neg];rintro ⟨g,b⟩;rw [aA (bZ:j - 1<l.length),aD] at b;have:=eD.1 c (j - 1) j bZ a bZ;omega
theorem RG {l:Xa0}(h:l.Pairwise (· < ·))(h0:∀ x∈l,0<=x):∀ i (hi:i<l.length),(i:Int)<=l[i]
 | 0,hi=>by have:=h0 _ (aC hi);omega
 | i+1,hi=>by
  have h1:=RG h h0 i bZ;have h2:=eD.1 h i (i+1) bZ hi bZ;omega
theorem GR {l:Xa0}{n:Nat}(h:l.Pairwise (· < ·))(a:∀ x∈l,0<=x/\x<n)(c:n<=1000):l.length<=1000:=by
 rcases Nat.eq_zero_or_pos l.length with h1|h1
 .omega
 .have h2:=RG h (λx b=>(a x b).1) (l.length - 1) bZ;have d:=a _ (aC (bZ:l.length - 1<l.length));omega
theorem O1 {α:Type}{f:α->Int}:∀ {l:List α},(∀ x∈l,f x=0)->iB f l=0
 | [],_=>rfl
 | x :: l,h=>by
  unfold iB;rw [if_neg (by rw [h x (eT ..)];simp)];exact O1 λy hy=>h y (cX _ hy)
def eA (g:Graph)(k:Int):Edge:=g.i[k.toNat]?.getD bX
def iA (l:Xa0)(k:Int):Int:=l[k.toNat]?.getD 0
theorem LZ {g:Graph}{p:Part}(i:graphF g=0)(h:∀ x∈p.h,0<=x/\x<g.h.length)(b:p.h.Pairwise (· < ·))(j:∀ x∈p.i,0<=x/\x<g.i.length)(c:p.i.Pairwise (· < ·))
  (a:∀ k∈p.i,(eA g k).B∈p.h/\(eA g k).O∈p.h):subF g p=0:=by
 unfold subF sC;rw [if_neg (by rw [i];simp),if_neg (by rw [VI h b];simp),if_neg (by rw [VI j c];simp)];refine O1 λk d=>?_;have f:=(mem_iff _ _).2 (a k d).1;have e:=(mem_iff _ _).2 (a k d).2;unfold eA at f e;unfold AY;rw [if_pos (by rw [f,e];rfl)]
theorem Ci (p:Nat->Bool)(n:Nat):(((List.range n).filter p).map λ(b:Nat)=>(b:Int)).Pairwise (· < ·):=by
 rw [List.pairwise_map];have h:((List.range n).filter p).Pairwise (· < ·):=List.Pairwise.filter _ List.pairwise_lt_range;exact h.imp λh=>by omega
theorem uE (p:Nat→Bool)(n:Nat)(x:Int):x∈(((List.range n).filter p).map fun (b:Nat)=>(b:Int))↔(0≤x∧x<n)∧p x.toNat=true:=by
 simp only [aV,f7,bY];constructor
 ·rintro ⟨a,⟨h1,h2⟩,rfl⟩;exact ⟨by omega,by simpa using h2⟩
 ·rintro ⟨⟨h1,h2⟩,h3⟩;exact ⟨x.toNat,⟨by omega,h3⟩,by omega⟩
theorem dC {l:Xa0}{n:Nat}{x:Int}:x∈aN l n↔(0<=x/\x<n)/\x∉l:=by
 unfold aN;rw [uE];constructor
 .rintro ⟨h,a⟩;refine ⟨h,λb=>?_⟩;rw [show ((x.toNat:Nat):Int)=x by omega,(mem_iff l x).2 b] at a;cases a
 .rintro ⟨h,a⟩;refine ⟨h,?_⟩;rw [show ((x.toNat:Nat):Int)=x by omega,b7,aW];exact λb=>a ((mem_iff l x).1 b)
theorem n3 (l:Xa0)(n:Nat):(aN l n).Pairwise (· < ·):=Ci _ n
theorem qM {l:Xa0}{n:Nat}{x:Int}:x∈O8 l n↔(0<=x/\x<n)/\x∈l:=by
 unfold O8;rw [uE];constructor
 .rintro ⟨h,a⟩;refine ⟨h,?_⟩;rw [show ((x.toNat:Nat):Int)=x by omega] at a;exact (mem_iff l x).1 a
 .rintro ⟨h,a⟩;refine ⟨h,?_⟩;rw [show ((x.toNat:Nat):Int)=x by omega];exact (mem_iff l x).2 a
theorem ML (l:Xa0)(n:Nat):(O8 l n).Pairwise (· < ·):=Ci _ n
theorem SL:∀ {l m:Xa0},l.Pairwise (· < ·)->m.Pairwise (· < ·)->(∀ x,x∈l↔x∈m)->l=m
 | [],[],_,_,_=>rfl
 | [],b :: m,_,_,h=>by have:=(h b).2 (eT ..);cases this
 | a :: l,[],_,_,h=>by have:=(h a).1 (eT ..);cases this
 | a :: l,b :: m,hl,hm,h=>by
  obtain ⟨h1,h2⟩:=List.pairwise_cons.1 hl;obtain ⟨h3,h4⟩:=List.pairwise_cons.1 hm;have hab:a=b:=by
   have q1:=(h a).1 (eT ..);have q2:=(h b).2 (eT ..);rw [aS] at q1 q2;rcases q1 with q1|q1
   .exact q1
   .rcases q2 with q2|q2
    .exact q2.symm
    .have h5:=h1 b q2;have h6:=h3 a q1;omega
  subst hab;congr 1;refine SL h2 h4 λx=>⟨λhx=>?_,λhx=>?_⟩
  .rcases aS.1 ((h x).1 (cX _ hx)) with rfl|h'
   .have:=h1 x hx;omega
   .exact h'
  .rcases aS.1 ((h x).2 (cX _ hx)) with rfl|h'
   .have:=h3 x hx;omega
   .exact h'
theorem Ku {xs:Xa0}{n:Nat}(j:∀ x∈xs,0<=x/\x<n)(l:xs.Nodup):kJ xs=O8 xs n:=by
 have e:(kJ xs).Perm xs:=List.mergeSort_perm _ _;have i:(kJ xs).Pairwise λa b=>decide (a<=b)=true:=List.pairwise_mergeSort (λa b c g f=>by simp at *;omega) (λa b=>by simp;omega) xs;have k:(kJ xs).Nodup:=e.nodup_iff.2 l;have d:(kJ xs).Pairwise (· < ·):=(i.and k).imp λ⟨g,f⟩=>by simp at g f;omega
 exact SL d (ML _ _) λx=>by rw [qM,e.mem_iff];exact ⟨λh=>⟨j x h,h⟩,λh=>h.2⟩
theorem KX {a b:Graph}{m:Part}(h:cY a b m=0):(∀ i,i<a.h.length->kO a b m i=0)/\∀ k,k<a.i.length->jA a b m k=0:=by
 obtain ⟨e,d,l,j⟩:=dA h;have c:cY a b m=(if bS (kO a b m) 0 a.h.length≠0 then bS (kO a b m) 0 a.h.length else bS (jA a b m) 0 a.i.length):=by
  unfold cY;rw [if_neg (by rw [e];simp),if_neg (by rw [d];simp),if_neg bZ]
 rw [c] at h;split at h
 .rename_i q;exact absurd h q
 .rename_i q;exact ⟨λi g=>fD a.h.length 0 (bZ:bS (kO a b m) 0 a.h.length=0) i bZ bZ,λk f=>fD a.i.length 0 h k bZ bZ⟩
theorem kM {a b:Graph}{m:Part}(h:cY a b m=0){i:Int}(d:0<=i)(c:i<a.h.length):(0<=iA m.h i/\iA m.h i<b.h.length)/\gN b (iA m.h i)=gN a i:=by
 have q:=(KX h).1 i.toNat bZ;unfold kO at q;split at q
 .cases q
 .rename_i q1;split at q
  .cases q
  .rename_i q2;exact ⟨by unfold iA;omega,by unfold gN iA;simpa using q2⟩
theorem pJ {a b:Graph}{m:Part}(h:cY a b m=0){k:Int}(e:0<=k)(d:k<a.i.length):(0<=iA m.i k/\iA m.i k<b.i.length)/\(eA a k).type=(eA b (iA m.i k)).type /\
  iA m.h (eA a k).B=(eA b (iA m.i k)).B/\iA m.h (eA a k).O=(eA b (iA m.i k)).O:=by
 have q:=(KX h).2 k.toNat bZ;unfold jA at q;split at q
 .cases q
 .rename_i q1;split at q
  .cases q
  .rename_i q2;split at q
   .cases q
   .rename_i q3;unfold eA iA;refine ⟨bZ,by simpa using q2,?_,?_⟩<;>exact bH λc=>q3 (by first|exact .inl c|exact .inr c)
theorem Bp {g:Graph}(c:graphF g=0){k:Int}(e:0<=k)(d:k<g.i.length):(0<=(eA g k).B/\(eA g k).B<g.h.length)/\(0<=(eA g k).O/\(eA g k).O<g.h.length)/\0<=(eA g k).type/\(eA g k).type<=99:=by
 have a:k.toNat<g.i.length:=bZ;have b:=(dO c).2 _ (aC a);unfold eA;rw [aA a,aD];exact ⟨b.2.1,b.2.2,b.1⟩
theorem Po {a keep:Xa0}(h:sL a keep=[]){i k:Nat}(c:i<k)(e:k<a.length):u4 a keep i k=false:=by
 rw [aW];intro d;have b:(i,k)∈sL a keep:=by
  unfold sL Gu;rw [cD];refine ⟨i,bY.2 bZ,?_⟩;unfold mQ;rw [aV];exact ⟨k - (i+1),f7.2 ⟨bY.2 bZ,by rw [show i+1+(k - (i+1))=k by omega];exact d⟩,by simp;omega⟩
 rw [h] at b;cases b
theorem Vn {a keep:Xa0}(h:sL a keep=[]){i k:Nat}(e:i<a.length)(d:k<a.length)(b:i≠k)(c:a[i]?.getD 0=a[k]?.getD 0):mem keep i=true/\mem keep k=true:=by
 rcases Nat.lt_or_gt_of_ne b with hlt|hlt
 .have:=Po h hlt d;unfold u4 at this;rw [c] at this;simpa using this
 .have:=Po h hlt e;unfold u4 at this;rw [c] at this;simp at this;exact ⟨this.2,this.1⟩
theorem KR {d keep:Xa0}(h:d.Nodup):sL d keep=[]:=by
 rw [pM];rintro ⟨i,k⟩ a;unfold sL Gu at a;rw [cD] at a;obtain ⟨j,c,a⟩:=a;unfold mQ at a;rw [aV] at a;obtain ⟨b,f,l⟩:=a;rw [f7,bY] at f;rw [bY] at c;have e:=f.2;unfold u4 at e;rw [aL,decide_eq_true_eq] at e;have g:=e.1;rw [aA c,aA (bZ:j+1+b<d.length),aD,aD] at g;have:=(j9 h).1 g;omega
theorem vZ {l g:Graph}{keep m:Part}(h:jC l g keep m=0):cY l g m=0/\subF l keep=0/\sL m.h keep.h=[]/\sL m.i keep.i=[]/\B0 g m.i (iJ m.h keep.h)=[]:=by
 unfold jC at h;split at h
 .rename_i q;exact absurd h q
 .rename_i q;have a:compG l g keep m=0:=bZ;unfold compG at a;split at h
  .cases h
  .rename_i q2;split at h
   .cases h
   .rename_i q3;have b:cY l g m=0/\subF l keep=0:=by
     split at a
     .rename_i q5;exact absurd a q5
     .rename_i q5;exact ⟨bZ,a⟩
    exact ⟨b.1,b.2,bQ bZ,bQ bZ,bQ bZ⟩
theorem oM {b keep:Xa0}(h:sL b keep=[]){j:Int}(l:0<=j)(k:j<b.length)(e:j∈keep):iA b j∉iJ b keep:=by
 intro d;obtain ⟨i,f,a,g⟩:=pS.1 d;have c:i≠j.toNat:=by
  rintro rfl;rw [show ((j.toNat:Nat):Int)=j by omega,(mem_iff _ _).2 e] at a;cases a
 have:=Vn h f (bZ:j.toNat<b.length) c (by rw [g];rfl);rw [a] at this;exact absurd this.1 eG
theorem MZ {l g:Graph}{keep m:Part}(h:jC l g keep m=0):subF g (j4 l g keep m)=0:=by
 obtain ⟨z,D,r,H,y⟩:=vZ h;unfold j4;rw [if_pos h];obtain ⟨w,A,E,F⟩:=dA z;refine LZ A (λx s=>eJ s) (n3 _ _) (λx s=>eJ s) (n3 _ _) λk G=>?_;obtain ⟨c,t⟩:=dC.1 G;have a:=Bp A c.1 c.2;by_cases o:k∈m.i
 .obtain ⟨i,v,p⟩:=aO o;have d:(i:Int)∈keep.i:=by
   refine bH λI=>t (pS.2 ⟨i,v,?_,?_⟩)
   .rw [aW];exact λf=>I ((mem_iff _ _).1 f)
   .rw [aA v,p]
  have j:=Bc D i d;have q:=Bp (k:=(i:Int)) w bZ bZ;have b:=pJ (k:=(i:Int)) z bZ bZ;have u:iA m.i i=k:=by unfold iA;simp [v,p]
  rw [u] at b;have C:=oM r q.1.1 bZ ((mem_iff _ _).1 j.1);have B:=oM r q.2.1.1 bZ ((mem_iff _ _).1 j.2);rw [b.2.2.1] at C;rw [b.2.2.2] at B;exact ⟨dC.2 ⟨a.1,C⟩,dC.2 ⟨a.2.1,B⟩⟩
 .have e:AZ g m.i (iJ m.h keep.h) k.toNat=false:=by
   rw [aW];intro e;have n:k∈B0 g m.i (iJ m.h keep.h):=by
    unfold B0;rw [uE];exact ⟨c,e⟩
   rw [y] at n;cases n
  unfold AZ at e;rw [show ((k.toNat:Nat):Int)=k by omega,show mem m.i k=false by rw [aW];exact λf=>o ((mem_iff _ _).1 f)] at e;simp only [Bool.not_false,iL,Bool.or_eq_false_iff] at e;exact ⟨dC.2 ⟨a.1,λf=>by have:=(mem_iff _ _).2 f;unfold eA at this;rw [e.1] at this;cases this⟩,dC.2 ⟨a.2.1,λf=>by have:=(mem_iff _ _).2 f;unfold eA at this;rw [e.2] at this;cases this⟩⟩
theorem Py {l g:Graph}{keep m:Part}(b:cY l g m=0)(c:subF l keep=0)(a:m.h.Nodup)(d:m.i.Nodup):jC l g keep m=0\/jC l g keep m=14:=by
 unfold jC;have e:compG l g keep m=0:=by unfold compG;rw [if_neg (by rw [b];simp),c]
 rw [if_neg (by rw [e];simp),KR a,KR d,if_neg eG];split
 .exact .inr rfl
 .exact .inl rfl
theorem r4 {a b:Graph}{m:Part}(h:jN a b m=true):cY a b m=0/\m.h.Nodup/\m.i.Nodup:=by
 simpa [jN] using h
theorem WP {t:Types}{r:Rule}(h:Rule.aa t r):subF r.right.j (Jj r)=0:=by
 obtain ⟨m,_,s,q⟩:=dA h.b2;refine LZ h.gr (λx f=>(qM.1 f).1) (ML _ _) (λx f=>(qM.1 f).1) (ML _ _) λk u=>?_;obtain ⟨d,g⟩:=qM.1 u;obtain ⟨j,w,i⟩:=aO g;have b:=pJ (k:=(j:Int)) h.b2 bZ bZ;have l:iA r.A.i j=k:=by unfold iA;simp [w,i]
 rw [l] at b;have a:=Bp (k:=(j:Int)) m bZ bZ;have e:=Bp h.gr d.1 d.2;have c:∀ v:Int,0<=v->v<(bG r.left.j r.u).h.length->iA r.A.h v∈r.A.h:=λv z y=>by
  have p:v.toNat<r.A.h.length:=bZ;unfold iA;rw [aA p,aD];exact aC p
 have o:=c _ a.1.1 a.1.2;have n:=c _ a.2.1.1 a.2.1.2;rw [b.2.2.1] at o;rw [b.2.2.2] at n;exact ⟨qM.2 ⟨e.1,o⟩,qM.2 ⟨e.2.1,n⟩⟩
theorem O5 {t:Types}{r:Rule}(h:Rule.aa t r):If r=Jj r:=by
 obtain ⟨_,c,b⟩:=r4 h.inj;have a:=jT h.b2;unfold If Jj;rw [Ku a.1 c,Ku a.2 b]
theorem Ie {t:Types}{r:Rule}(h:Rule.aa t r):r.u.h.length=r.A.h.length/\r.u.i.length=r.A.i.length:=by
 obtain ⟨_,_,b,a⟩:=dA h.b2;rw [b,a];unfold bG;rw [if_pos h.sub];simp
theorem xT {t:Types}{a b:Rule}(d:Rule.aa t a)(k:Rule.aa t b)(o:Ovl):mU a b o=eW a b o:=by
 unfold mU eW;rw [O5 d];split
 .rfl
 .rename_i m1;split
  .rfl
  .rename_i m2;split
   .rfl
   .rename_i m3;have c:jN a.right.j o.j o.left=true/\jN b.left.j o.j o.right=true:=by
     revert m3;cases jN a.right.j o.j o.left<;>cases jN b.left.j o.j o.right<;>simp
    obtain ⟨j,i,h⟩:=r4 c.1;obtain ⟨g,f,e⟩:=r4 c.2;have c1:=Py j (WP d) i h;have c2:=Py g k.sub f e;change (if jC a.right.j o.j (Jj a) o.left≠0\/_ then (14:Int) else 0)=if jC a.right.j o.j (Jj a) o.left≠0 then jC a.right.j o.j (Jj a) o.left else jC b.left.j o.j b.u o.right
    rcases c1 with c1|c1<;>rcases c2 with c2|c2<;>rw [c1,c2]<;>simp
theorem A4 {l g:Graph}{keep m:Part}(h:jC l g keep m=0):(j4 l g keep m).h.length<=1000/\(j4 l g keep m).i.length<=1000:=by
 obtain ⟨a,_⟩:=vZ h;obtain ⟨_,b,_,_⟩:=dA a;have:=aY b;unfold j4;rw [if_pos h];have d:=dJ (iJ m.h keep.h) g.h.length;have c:=dJ (iJ m.i keep.i) g.i.length;exact ⟨by show (aN _ _).length<=_;omega,by show (aN _ _).length<=_;omega⟩
structure GlueOk (a b:Rule) (o:Ovl):Prop where
 m1:cY a.right.j o.j o.left=0
 m2:cY b.left.j o.j o.right=0
 i1:jN a.right.j o.j o.left=true
 i2:jN b.left.j o.j o.right=true
 jo:jointB a.right.j b.left.j o.j o.left o.right=true
 c1:jC a.right.j o.j (Jj a) o.left=0
 c2:jC b.left.j o.j b.u o.right=0
theorem nZ {a b:Rule}{o:Ovl}(h:eW a b o=0):GlueOk a b o:=by
 have h':=h
 unfold eW at h
 split at h
 .rename_i q;exact absurd h q
 .rename_i q1
  split at h
  .rename_i q;exact absurd h q
  .rename_i q2
   split at h
   .cases h
   .rename_i q3
    split at h
    .rename_i q;exact absurd h q
    .rename_i q4
     have m3':jN a.right.j o.j o.left=true/\jN b.left.j o.j o.right=true/\jointB a.right.j b.left.j o.j o.left o.right=true:=by
      revert q3;cases jN a.right.j o.j o.left<;>cases jN b.left.j o.j o.right<;>cases jointB a.right.j b.left.j o.j o.left o.right<;>simp
     exact ⟨bZ,bZ,m3'.1,m3'.2.1,m3'.2.2,by show jC _ _ ⟨O8 _ _,O8 _ _⟩ _=0;omega,h⟩
theorem Wo {t:Types}{a b:Rule}{o:Ovl}(d:Rule.aa t a)(i:Rule.aa t b)(h:eW a b o=0):ROk a b o (bK a b o) (bW a b o):=by
 have g:=nZ h;obtain ⟨l,_⟩:=Ie d;obtain ⟨k,_⟩:=Ie i;obtain ⟨_,_,s,_⟩:=dA d.b2;obtain ⟨_,_,v,_⟩:=dA g.m1;obtain ⟨_,_,u,_⟩:=dA g.m2;have m:=(jT d.b2).1;have c:=fO i.sub;have f:=A4 g.c1;have e:=A4 g.c2;have p:bK a b o=j4 a.right.j o.j (Jj a) o.left:=if_pos h;have n:bW a b o=j4 b.left.j o.j b.u o.right:=if_pos h;have r:a.u.h.length<=1000:=GR (fO d.sub).2.1 (fO d.sub).2.2.1 (by have:=aY d.gl;omega);have q:b.u.h.length<=1000:=GR c.2.1 c.2.2.1 (by have:=aY i.gl;omega);rw [p,n];exact ⟨MZ g.c1,MZ g.c2,f.1,f.2,e.1,e.2,d.gl,i.gr,l,k,bZ,bZ,λx j=>by have:=m x j;omega,λx j=>by have:=c.2.2.1 x j;omega⟩
theorem NQ (av:Xa0)(b:Nat)(ns:Xa0)(j:Nat):∀ i,i<=ns.length->(∀ x∈ns,x.toNat≠j)->(Er av b ns i)[j]?=av[j]?
 | 0,_,_=>rfl
 | i+1,hi,h=>by
  unfold Er;have hx:=h _ (aC (bZ:i<ns.length));rw [aA (bZ:i<ns.length),aD,s9 hx];exact NQ av b ns j i bZ h
theorem RO {av:Xa0}{b:Nat}{ns:Xa0}(hp:ns.Pairwise (· < ·))(h0:∀ x∈ns,0<=x/\x<av.length){k:Nat}(hk:k<ns.length):∀ i,i<=ns.length->k<i->(Er av b ns i)[ns[k].toNat]?=some ((b+k:Nat):Int)
 | 0,_,h=>by omega
 | i+1,hi,h=>by
  unfold Er;have hi':i<ns.length:=bZ;rw [aA hi',aD];have hr:=h0 _ (aC hk);rcases bT k i with hlt|hge
  .have h1:=eD.1 hp k i hk hi' hlt;have h2:=h0 _ (aC hi');rw [s9 bZ];exact RO hp h0 hk i bZ hlt
  .obtain rfl:k=i:=bZ;rw [zF (by rw [Hf];omega)]
theorem VH {n:Nat}{keep:Xa0}(val:Nat->Int)(hd:keep.Nodup)(h0:∀ x∈keep,0<=x/\x<n){k:Nat}(hk:k<keep.length):∀ i,i<=keep.length->k<i->(T2 n keep val i)[keep[k].toNat]?=some (val k)
 | 0,_,h=>by omega
 | i+1,hi,h=>by
  unfold T2;have hi':i<keep.length:=bZ;rw [aA hi',aD];have hr:=h0 _ (aC hk);rcases bT k i with hlt|hge
  .have h2:=h0 _ (aC hi');have hne:keep[i]≠keep[k]:=λhe=>by have:=(j9 hd).1 he;omega
   rw [s9 bZ];exact VH val hd h0 hk i bZ hlt
  .obtain rfl:k=i:=bZ;rw [zF (by rw [Na];omega)]
theorem Cj {l:Xa0}:∀ (n j:Nat),j<n->mem l j=false->(aN l n)[(aN l j).length]?=some (j:Int)
 | 0,j,h,_=>by omega
 | n+1,j,h,hm=>by
  rw [wI];rcases bT j n with hlt|hge
  .have ih:=Cj n j hlt hm;rw [aR (aK.1 ih).1,ih]
  .obtain rfl:j=n:=bZ;simp [hm]
theorem Tr {n base:Nat}{p kept a c:Xa0}(s:kept.Nodup)(t:∀ x∈kept,0<=x/\x<n)(u:kept.length=a.length) :
  Er (T2 n kept (Jm p a c) kept.length) base (aN kept n) (aN kept n).length=Df base p kept (uL a c) n:=by
 have h:=Na n kept (Jm p a c) kept.length;refine f9 λj=>?_;by_cases m:j<n
 .have hR:(Df base p kept (uL a c) n)[j]?=some (JS base p kept (uL a c) j):=by simp [Df,m]
  rw [hR];unfold JS;by_cases e:mem kept j=true
  .rw [if_pos e];obtain ⟨r,d,g⟩:=qN e;have k:kept[(gS kept (j:Int)).toNat]=(j:Int):=by rw [aA d] at g;exact Option.some.inj g
   rw [NQ _ _ _ _ _ (bD _) (λx i o=>by
    have:=dC.1 i;exact this.2 (by rw [(bZ:x=(j:Int))];exact (mem_iff _ _).1 e))]
   have:=VH (Jm p a c) s t d kept.length (bD _) d;rw [k] at this;rw [show ((j:Int)).toNat=j by omega] at this;rw [this];have l:(gS kept (j:Int)).toNat<a.length:=bZ;congr 1;unfold Jm uL;congr 1;rw [aP,aA l];rfl
  .have hm':mem kept j=false:=by simpa using e
   rw [if_neg e];have q:=Cj n j m hm';obtain ⟨f,o⟩:=aK.1 q;have:=RO (av:=T2 n kept (Jm p a c) kept.length) (b:=base) (n3 kept n) (λx i=>by rw [h];exact eJ i) f _ (bD _) f;rw [o] at this;simpa using this
 .rw [b5 (by rw [Hf,h];omega),b5 (by rw [HP];omega)]
theorem Sl {g:Graph}{p:Part}{a:Graph}{kept:Part}{b c:Xa0}(e:kept.h.Nodup)(f:∀ x∈kept.h,0<=x/\x<a.h.length)(d:kept.h.length=b.length) :
  s8 g p a kept b c=fV g p a kept (uL b c):=by
 unfold s8 BO fV;rw [Tr e f d]
theorem mB {l:Xa0}(h:l.Pairwise (· < ·)):l.Nodup:=h.imp λh=>by omega
theorem xS {t:Types}{a b:Rule}{o:Ovl}(c:Rule.aa t a)(d:Rule.aa t b)(h:eW a b o=0):nG a b o=⟨a,b,o,bK a b o,bW a b o⟩:=by
 unfold nG bK bW;rw [xT c d,if_pos h,if_pos h,if_pos h,O5 c]
theorem agM {t:Types}{a b:Rule}{o:Ovl}(c:Rule.aa t a)(d:Rule.aa t b)(h:eW a b o=0):HOk o.j (bK a b o) a.left.j a.u a.A.h o.left.h:=by
 have r:=Wo c d h;exact ⟨r.sd,by have:=r.ld;omega,by have:=r.e7;omega,r.ga,(fO c.sub).2.2.1,r.ka,r.la,r.ia⟩
theorem agL {t:Types}{a b:Rule}{o:Ovl}(d:Rule.aa t a)(c:Rule.aa t b)(h:eW a b o=0):HOk o.j (bW a b o) b.right.j (vP b) b.u.h o.right.h:=by
 have r:=Wo d c h;exact ⟨r.sf,by have:=r.lf;omega,by have:=r.fp;omega,r.gb,(jT c.b2).1,r.kb.symm,by have:=r.kb;have:=r.lb;omega,r.ib⟩
theorem TL {t:Types}{a b:Rule}{o:Ovl}(e:Rule.aa t a)(d:Rule.aa t b)(h:eW a b o=0) :
  s8 o.j (bK a b o) a.left.j a.u a.A.h o.left.h=zZ a b o (bK a b o) (bW a b o) /\
  s8 o.j (bW a b o) b.right.j (vP b) b.u.h o.right.h=wE a b o (bK a b o) (bW a b o):=by
 have r:=Wo e d h;have c:=fO e.sub;refine ⟨Sl (mB c.2.1) c.2.2.1 r.ka,Sl (kept:=vP b) (r4 d.inj).2.1 (jT d.b2).1 r.kb.symm⟩
theorem Ny {t:Types}{a b:Rule}{o:Ovl}(d:Rule.aa t a)(c:Rule.aa t b)(h:eW a b o=0):tD (nG a b o)=gP a b o/\Cd (nG a b o)=lA a b o:=by
 obtain ⟨g,f⟩:=TL d c h;have e:tD (nG a b o)=gP a b o:=by
  have i:gP a b o=if (bigB (zZ a b o (bK a b o) (bW a b o))||bigB (wE a b o (bK a b o) (bW a b o)))=true then 3 else 0:=by unfold gP;rw [if_neg (by rw [h];simp)]
  rw [i,xS d c h];change (if (bigB (s8 o.j (bK a b o) a.left.j a.u a.A.h o.left.h)||bigB (s8 o.j (bW a b o) b.right.j (vP b) b.u.h o.right.h))=true then (3:Int) else 0)=_;rw [g,f]
 refine ⟨e,?_⟩;unfold Cd lA;rw [e,xS d c h];change (if _ then concOf (s8 o.j (bK a b o) a.left.j a.u a.A.h o.left.h) (s8 o.j (bW a b o) b.right.j (vP b) b.u.h o.right.h) (bK a b o) (bW a b o) else _)=_;rw [g,f]
theorem HW {t:Types}{r:Rule}(h:oneR t r=0):Rule.aa t r/\jP r=true/\ruleF t r=0:=by
 unfold oneR at h;split at h
 .rename_i q;exact absurd h q
 .rename_i q;split at h
  .cases h
  .rename_i q2;have a:ruleF t r=0:=bZ;exact ⟨vB a,by simpa using q2,a⟩
theorem jH {t:Types}{a b:Rule}(h:givenR t a b=0):Rule.aa t a/\Rule.aa t b:=by
 unfold givenR at h;split at h
 .rename_i q;exact absurd h q
 .split at h
  .rename_i q;exact absurd h q
  .rename_i q;exact ⟨(HW bZ).1,(HW h).1⟩
def VC (a b:Rule)(o:Ovl):Int:=if mU a b o≠0 then mU a b o else tD (nG a b o)
theorem VB {t:Types}{a b:Rule}{o:Ovl}(h:givenR t a b=0):VC a b o=gP a b o:=by
 obtain ⟨e,d⟩:=jH h;unfold VC;rw [xT e d];by_cases c:eW a b o=0
 .rw [if_neg (by rw [c];simp),(Ny e d c).1]
 .rw [if_pos c];unfold gP;rw [if_pos c]
theorem EF {g:Graph}(k:g.h.length<=40)(j:g.i.length<=80)(e:∀ a∈g.h,0<=a/\a<=99)
  (f:∀ x∈g.i,(0<=x.type/\x.type<=99)/\(0<=x.B/\x.B<g.h.length)/\(0<=x.O/\x.O<g.h.length)):graphF g=0:=by
 unfold graphF;rw [if_neg bZ,if_neg,if_neg]
 .rw [bF];rintro ⟨x,d,b⟩;have i:=f x d;have c:vR x g.h.length=true:=by simp [vR,jE];omega
  rw [c] at b;cases b
 .rw [bF];rintro ⟨a,h,b⟩;have i:=e a h;have c:jE a 99=true:=by simp [jE];omega
  rw [c] at b;cases b
theorem sS {g:Graph}{n:Int}(h0:0<=n)(h:n<g.h.length):gN g n∈g.h:=by
 unfold gN;rw [aA (bZ:n.toNat<g.h.length),aD];exact aC _
theorem AX {g:Graph}{n:Int}(h0:0<=n)(h:n<g.i.length):eA g n∈g.i:=by
 unfold eA;rw [aA (bZ:n.toNat<g.i.length),aD];exact aC _
theorem gB {l:Xa0}{n:Int}(h0:0<=n)(h:n<l.length):iA l n∈l:=by
 unfold iA;rw [aA (bZ:n.toNat<l.length),aD];exact aC _
theorem Nb {l:Xa0}{n:Nat}(h:l.Pairwise (· < ·))(a:∀ x∈l,0<=x/\x<n):l.length<=n:=by
 rcases Nat.eq_zero_or_pos l.length with h1|h1
 .omega
 .have h2:=RG h (λx b=>(a x b).1) (l.length - 1) bZ;have c:=a _ (aC (bZ:l.length - 1<l.length));omega
theorem nT {g:Graph}{p:Part}(h:subF g p=0):p.i.Pairwise (· < ·):=by
 unfold subF sC at h;split at h
 .rename_i q;exact absurd h q
 .split at h
  .rename_i q;exact absurd h q
  .split at h
   .rename_i q;exact absurd h q
   .rename_i q;exact (CH (bZ:EY p.i g.i.length=0)).2
theorem lC {l:Xa0}(f:l.Pairwise (· < ·)){v:Int}(e:v∈l):lH l v<l.length/\iA l (lH l v)=v/\gS l v=lH l v:=by
 have a:=(mem_iff l v).2 e;have d:=xN f a;obtain ⟨g,c,b⟩:=qN a;rw [d] at g c b;refine ⟨by simpa using c,?_,d⟩;unfold iA;rw [b];rfl
theorem nS {g:Graph}{p:Part}(h:subF g p=0){k:Int}(a:k∈p.i):(eA g k).B∈p.h/\(eA g k).O∈p.h:=by
 have:=Bc h k a;exact ⟨(mem_iff _ _).1 this.1,(mem_iff _ _).1 this.2⟩
theorem sU (g:Graph)(p:Part)(k:Int):gEd g p k=⟨(eA g k).type,lH p.h (eA g k).B,lH p.h (eA g k).O⟩:=rfl
theorem AH {α β:Type}(f:α->β)(l:List α)(d:α)(e:β){i:Nat}(h:i<l.length):((l.map f)[i]?).getD e=f ((l[i]?).getD d):=by simp [h]
theorem qS {g:Graph}{p:Part}(h:subF g p=0){i:Int}(b:0<=i)(a:i<p.h.length):gN (bG g p) i=gN g (iA p.h i):=by
 unfold bG;rw [if_pos h];exact AH (gN g) p.h 0 0 bZ
theorem DJ {g:Graph}{p:Part}(h:subF g p=0){i:Int}(b:0<=i)(a:i<p.i.length):eA (bG g p) i=gEd g p (iA p.i i):=by
 unfold bG;rw [if_pos h];exact AH (gEd g p) p.i 0 bX bZ
theorem mJ {g:Graph}{p:Part}(h:subF g p=0):(bG g p).h.length=p.h.length/\(bG g p).i.length=p.i.length:=by
 unfold bG;rw [if_pos h];simp
theorem X8 {g:Graph}{p:Part}(h:subF g p=0):p.h.length<=g.h.length/\p.i.length<=g.i.length:=by
 obtain ⟨_,c,b,a⟩:=fO h;exact ⟨Nb c b,Nb (nT h) a⟩
theorem Rf {g:Graph}{p:Part}(h:subF g p=0):graphF (bG g p)=0:=by
 obtain ⟨l,i,j,m⟩:=fO h;obtain ⟨q,v⟩:=mJ h;obtain ⟨u,t⟩:=X8 h;have r:=aY l;have c:=dO l;refine EF bZ bZ (λa f=>?_) (λx d=>?_)
 .unfold bG at f;rw [if_pos h,aV] at f;obtain ⟨n,b,rfl⟩:=f;exact c.1 _ (sS (j n b).1 (j n b).2)
 .rw [q];unfold bG at d;rw [if_pos h,aV] at d;obtain ⟨k,e,rfl⟩:=d;rw [sU];have s:=c.2 _ (AX (m k e).1 (m k e).2);have o:=nS h e;have y:=(lC i o.1).1;have w:=(lC i o.2).1;exact ⟨s.1,by show (0:Int)<=(lH _ _:Nat)/\((lH _ _:Nat):Int)<_;omega,by show (0:Int)<=(lH _ _:Nat)/\((lH _ _:Nat):Int)<_;omega⟩
theorem KY {a b:Graph}{m:Part}(l:graphF a=0)(j:graphF b=0)(p:m.h.length=a.h.length)(l2:m.i.length=a.i.length)
  (f:∀ i:Int,0<=i->i<a.h.length->(0<=iA m.h i/\iA m.h i<b.h.length)/\gN b (iA m.h i)=gN a i)
  (g:∀ k:Int,0<=k->k<a.i.length->(0<=iA m.i k/\iA m.i k<b.i.length)/\(eA a k).type=(eA b (iA m.i k)).type/\iA m.h (eA a k).B=(eA b (iA m.i k)).B/\iA m.h (eA a k).O=(eA b (iA m.i k)).O):cY a b m=0:=by
 unfold cY;rw [if_neg (by rw [l];simp),if_neg (by rw [j];simp),if_neg bZ];have n:bS (kO a b m) 0 a.h.length=0:=nD _ _ λi _ r=>by
  have:=f i bZ bZ;unfold iA gN at this;unfold kO;simp only [Int.toNat_natCast] at this;rw [if_neg bZ,if_neg (by rw [this.2];simp)]
 rw [if_neg (by rw [n];simp)];refine nD _ _ λk _ q=>?_;have:=g k bZ bZ;unfold iA eA at this;simp only [Int.toNat_natCast] at this;obtain ⟨o,e,d,c⟩:=this;unfold jA;rw [if_neg bZ,if_neg (by rw [e];simp),if_neg];rintro (h|h)
 .exact h d
 .exact h c
theorem Kq {t:Types}{g:Graph}(c:∀ a∈g.h,a<t.h.length)(d:∀ x∈g.i,x.type<t.i.length):eY t g=true:=by
 unfold eY;rw [aL,b7,b7,iK,iK];exact ⟨λa e=>by have:=c a e;simpa using this,λx b=>by have:=d x b;simpa using this⟩
/-! ### grown graphs -/
structure GOk (g:Graph) (p:Part) (more:Graph) (kept:Part) (im:Xa0):Prop where
 sub:subF g p=0
 gm:graphF more=0
 kl:kept.h.length<=im.length
 ip:∀ k:Int,0<=k->k<kept.h.length->iA im k∈p.h/\gN g (iA im k)=gN more (iA kept.h k)
section
variable {g:Graph} {p:Part} {more:Graph} {kept:Part} {im:Xa0}
def GOk.pl (g:Graph)(p:Part)(more:Graph)(kept:Part)(im:Xa0):Xa0:=Df p.h.length p.h kept.h im more.h.length
theorem qO (h:GOk g p more kept im):fV g p more kept im=⟨p.h.map (gN g)++(aN kept.h more.h.length).map (gN more),p.i.map (gEd g p)++(aN kept.i more.i.length).map λn=>qP more (GOk.pl g p more kept im) n.toNat⟩:=by
 unfold fV GOk.pl;rw [(mJ h.sub).1];unfold bG;rw [if_pos h.sub];rfl
theorem mP (h:GOk g p more kept im):(fV g p more kept im).h.length=p.h.length+(aN kept.h more.h.length).length/\(fV g p more kept im).i.length=p.i.length+(aN kept.i more.i.length).length:=by
 rw [qO h];simp
theorem VK {α:Type}(a b:List α){i:Nat}(h:i<a.length):(a++b)[i]?=a[i]?:=aR h
theorem VL {α:Type}(a b:List α){i:Nat}(h:a.length<=i):(a++b)[i]?=b[i - a.length]?:=aX h
theorem Bh (h:GOk g p more kept im){i:Int}(b:0<=i)(a:i<p.h.length):gN (fV g p more kept im) i=gN g (iA p.h i):=by
 rw [qO h];show (((p.h.map (gN g))++_)[i.toNat]?).getD 0=_;rw [VK _ _ (by simp;omega)];exact AH (gN g) p.h 0 0 bZ
theorem Sb (h:GOk g p more kept im){k:Nat}(a:k<(aN kept.h more.h.length).length):gN (fV g p more kept im) ((p.h.length+k:Nat):Int)=gN more (iA (aN kept.h more.h.length) k):=by
 rw [qO h];show (((p.h.map (gN g))++_)[((p.h.length+k:Nat):Int).toNat]?).getD 0=_;rw [VL _ _ (by simp;omega),bI,show ((p.h.length+k:Nat):Int).toNat - p.h.length=k by omega];exact AH (gN more) _ 0 0 a
theorem GO (h:GOk g p more kept im){i:Int}(b:0<=i)(a:i<p.i.length):eA (fV g p more kept im) i=gEd g p (iA p.i i):=by
 rw [qO h];show (((p.i.map (gEd g p))++_)[i.toNat]?).getD bX=_;rw [VK _ _ (by simp;omega)];exact AH (gEd g p) p.i 0 bX bZ
theorem W1 (h:GOk g p more kept im){k:Nat}(a:k<(aN kept.i more.i.length).length):eA (fV g p more kept im) ((p.i.length+k:Nat):Int)=qP more (GOk.pl g p more kept im) (iA (aN kept.i more.i.length) k).toNat:=by
 rw [qO h];show (((p.i.map (gEd g p))++_)[((p.i.length+k:Nat):Int).toNat]?).getD bX=_;rw [VL _ _ (by simp;omega),bI,show ((p.i.length+k:Nat):Int).toNat - p.i.length=k by omega];exact AH (λn=>qP more (GOk.pl g p more kept im) n.toNat) _ 0 bX a
theorem R4 (h:GOk g p more kept im){j:Int}(w:0<=j)(t:j<more.h.length):(0<=iA (GOk.pl g p more kept im) j/\iA (GOk.pl g p more kept im) j<(fV g p more kept im).h.length)/\gN (fV g p more kept im) (iA (GOk.pl g p more kept im) j)=gN more j:=by
 obtain ⟨u,n,s,v⟩:=fO h.sub;have m:iA (GOk.pl g p more kept im) j=JS p.h.length p.h kept.h im j.toNat:=by
  unfold iA GOk.pl Df;rw [aP,mW bZ];rfl
 rw [m];unfold JS;rw [show ((j.toNat:Nat):Int)=j by omega];by_cases b:mem kept.h j=true
 .rw [if_pos b];obtain ⟨l,r,k⟩:=qN b;have a:=h.ip (gS kept.h j) l bZ;change (0<=gS p.h (iA im (gS kept.h j))/\gS p.h (iA im (gS kept.h j))<_)/\gN _ (gS p.h (iA im (gS kept.h j)))=_;obtain ⟨q,i,f⟩:=lC n a.1;have d:iA kept.h (gS kept.h j)=j:=by unfold iA;rw [k];rfl
  rw [f];refine ⟨⟨bZ,by have:=(mP h).1;omega⟩,?_⟩;rw [Bh h bZ bZ,i,a.2,d]
 .have hm':mem kept.h j=false:=by simpa using b
  rw [if_neg b];have e:=Cj more.h.length j.toNat bZ (by rw [show ((j.toNat:Nat):Int)=j by omega];exact hm');obtain ⟨c,o⟩:=aK.1 e;refine ⟨⟨bZ,by have:=(mP h).1;omega⟩,?_⟩;rw [Sb h c];congr 1;unfold iA;rw [Int.toNat_natCast,e,aD];omega
theorem Sp {pl:Xa0}{n:Int}(h0:0<=n):qP more pl n.toNat=⟨(eA more n).type,iA pl (eA more n).B,iA pl (eA more n).O⟩:=rfl
theorem DB (h:GOk g p more kept im)(t:bigB (fV g p more kept im)=false):graphF (fV g p more kept im)=0:=by
 obtain ⟨s,l,m,o⟩:=fO h.sub;have f:=dO s;have c:=dO h.gm;have e:(fV g p more kept im).h.length<=40/\(fV g p more kept im).i.length<=80:=by simpa [bigB] using t
 have u:=mP h;refine EF e.1 e.2 (λa ha=>?_) (λx r=>?_)
 .rw [qO h] at ha;rcases bE.1 ha with ha|ha
  .obtain ⟨n,b,rfl⟩:=aV.1 ha;exact f.1 _ (sS (m n b).1 (m n b).2)
  .obtain ⟨n,b,rfl⟩:=aV.1 ha;have:=eJ b;exact c.1 _ (sS this.1 this.2)
 .have hx':=r;rw [qO h] at hx';rcases bE.1 hx' with hx'|hx'
  .obtain ⟨k,j,rfl⟩:=aV.1 hx';rw [sU];have d:=f.2 _ (AX (o k j).1 (o k j).2);have q:=nS h.sub j;have w:=(lC l q.1).1;have v:=(lC l q.2).1;exact ⟨d.1,by show (0:Int)<=(lH _ _:Nat)/\((lH _ _:Nat):Int)<_;omega,by show (0:Int)<=(lH _ _:Nat)/\((lH _ _:Nat):Int)<_;omega⟩
  .obtain ⟨n,b,rfl⟩:=aV.1 hx';have i:=eJ b;rw [Sp i.1];have d:=c.2 _ (AX i.1 i.2);exact ⟨d.1,(R4 h d.2.1.1 d.2.1.2).1,(R4 h d.2.2.1 d.2.2.2).1⟩
theorem FR {t:Types}(h:GOk g p more kept im)(m:eY t g=true)(l:eY t more=true):eY t (fV g p more kept im)=true:=by
 obtain ⟨o,q,f,j⟩:=fO h.sub;have d:=iW o m;have c:=iW h.gm l;refine Kq (λa ha=>?_) (λx hx=>?_)
 .rw [qO h] at ha;rcases bE.1 ha with ha|ha
  .obtain ⟨n,b,rfl⟩:=aV.1 ha;exact (d.1 _ (sS (f n b).1 (f n b).2)).2
  .obtain ⟨n,b,rfl⟩:=aV.1 ha;have:=eJ b;exact (c.1 _ (sS this.1 this.2)).2
 .rw [qO h] at hx;rcases bE.1 hx with hx|hx
  .obtain ⟨k,i,rfl⟩:=aV.1 hx;exact (d.2 _ (AX (j k i).1 (j k i).2)).1.2
  .obtain ⟨n,b,rfl⟩:=aV.1 hx;have e:=eJ b;exact (c.2 _ (AX e.1 e.2)).1.2
end
theorem GK {l:Xa0}{x:Int}(h:x∈l):∃ j:Int,(0<=j/\j<l.length)/\iA l j=x:=by
 obtain ⟨i,a,b⟩:=aO h;exact ⟨i,bZ,by unfold iA;simp [a,b]⟩
theorem Lv {a b:Xa0}{n:Nat}(h:A0 a b n=true){i:Int}(d:0<=i)(c:i<n):i∈a\/i∈b:=by
 have:=b6.1 h i.toNat (bY.2 bZ);rw [show ((i.toNat:Nat):Int)=i by omega,c5,mem_iff,mem_iff] at this;exact this
theorem ac2 {g:Graph}{i:Nat}(h:i<g.h.length):gN g i=g.h[i]:=by unfold gN;simp [h]
theorem adB {g:Graph}{i:Nat}(h:i<g.i.length):eA g i=g.i[i]:=by unfold eA;simp [h]
section
variable {t:Types} {a b:Rule} {o:Ovl}
theorem QR (m:Rule.aa t a)(l:Rule.aa t b)(g:GlueOk a b o):eY t o.j=true:=by
 have c:=g.jo;simp only [jointB,aL] at c;obtain ⟨_,_,p,n⟩:=c;have k:=iW m.gr m.tr;have h:=iW l.gl l.tl;obtain ⟨_,_,u,s⟩:=dA g.m1;obtain ⟨_,_,r,q⟩:=dA g.m2;refine Kq (λx e=>?_) (λx e=>?_)
 .obtain ⟨i,f,rfl⟩:=aO e;rw [<- ac2 f];rcases Lv p (i:=(i:Int)) bZ bZ with hm|hm
  .obtain ⟨j,c,d⟩:=GK hm;have:=(kM g.m1 c.1 bZ).2;rw [d] at this;rw [this];exact (k.1 _ (sS c.1 bZ)).2
  .obtain ⟨j,c,d⟩:=GK hm;have:=(kM g.m2 c.1 bZ).2;rw [d] at this;rw [this];exact (h.1 _ (sS c.1 bZ)).2
 .obtain ⟨i,f,rfl⟩:=aO e;rw [<- adB f];rcases Lv n (i:=(i:Int)) bZ bZ with hm|hm
  .obtain ⟨j,c,d⟩:=GK hm;have:=(pJ g.m1 c.1 bZ).2.1;rw [d] at this;rw [<- this];exact (k.2 _ (AX c.1 bZ)).1.2
  .obtain ⟨j,c,d⟩:=GK hm;have:=(pJ g.m2 c.1 bZ).2.1;rw [d] at this;rw [<- this];exact (h.2 _ (AX c.1 bZ)).1.2
theorem UT {l by_:Xa0}{k:Int}(h0:0<=k)(hk:k<l.length):iA (uL l by_) k=iA by_ (iA l k):=AH (i:=k.toNat) (λx:Int=>by_[x.toNat]?.getD 0) l 0 0 bZ
theorem xF (h:eW a b o=0):bK a b o=⟨aN (iJ o.left.h (Jj a).h) o.j.h.length,aN (iJ o.left.i (Jj a).i) o.j.i.length⟩:=by
 have g:=nZ h;unfold bK;rw [if_pos h];unfold j4;rw [if_pos g.c1]
theorem KJ (h:eW a b o=0):bW a b o=⟨aN (iJ o.right.h b.u.h) o.j.h.length,aN (iJ o.right.i b.u.i) o.j.i.length⟩:=by
 have g:=nZ h;unfold bW;rw [if_pos h];unfold j4;rw [if_pos g.c2]
theorem acZ (c:Rule.aa t a)(q:Rule.aa t b)(h:eW a b o=0):GOk o.j (bK a b o) a.left.j a.u (uL a.A.h o.left.h):=by
 have g:=nZ h;have r:=Wo c q h;obtain ⟨_,_,n,_,_⟩:=vZ g.c1;obtain ⟨_,_,s,_⟩:=dA g.m1;refine ⟨r.sd,c.gl,by rw [Dw,r.ka];exact bD _,λk j m=>?_⟩;have f:k<a.A.h.length:=by rw [<- r.ka];exact m
 rw [UT j f];have p:=gB j f;have i:=(jT c.b2).1 _ p;have d:=kM g.m1 i.1 i.2;have l:k<(bG a.left.j a.u).h.length:=by rw [(mJ c.sub).1];exact m
 have e:=kM c.b2 j l;rw [qS c.sub j m] at e;refine ⟨?_,by rw [d.2,e.2]⟩;rw [xF h];exact dC.2 ⟨d.1,oM n i.1 bZ (qM.2 ⟨i,p⟩)⟩
theorem Y0 (s:Rule.aa t a)(d:Rule.aa t b)(h:eW a b o=0):GOk o.j (bW a b o) b.right.j (vP b) (uL b.u.h o.right.h):=by
 have g:=nZ h;have r:=Wo s d h;obtain ⟨_,_,n,_,_⟩:=vZ g.c2;obtain ⟨_,_,u,_⟩:=dA g.m2;refine ⟨r.sf,d.gr,by rw [Dw,r.kb];exact bD _,λk i q=>?_⟩;have m:k<b.A.h.length:=q;have c:k<b.u.h.length:=by rw [r.kb];exact m
 rw [UT i c];have p:=gB i c;have j:=(fO d.sub).2.2.1 _ p;have e:=kM g.m2 j.1 j.2;have l:k<(bG b.left.j b.u).h.length:=by rw [(mJ d.sub).1];exact c
 have f:=kM d.b2 i l;rw [qS d.sub i c] at f;refine ⟨?_,by rw [e.2];exact f.2.symm⟩;rw [KJ h];exact dC.2 ⟨e.1,oM n j.1 bZ p⟩
end
/-! ### what is common to two parts -/
theorem l9 {d f:Xa0}{x:Int}:x∈mT d f d.length↔(0<=x/\x<d.length)/\iA d x∈f:=by
 unfold mT;rw [uE,mem_iff];rfl
theorem DZ (d f:Xa0):(mT d f d.length).Pairwise (· < ·):=Ci _ _
theorem GP (d f:Xa0):lY d f d.length=(mT d f d.length).map λx=>gS f (iA d x):=by
 unfold lY mT;rw [List.map_map];rfl
theorem M2 {d f:Xa0}{i:Int}(b:0<=i)(a:i<(mT d f d.length).length):iA (lY d f d.length) i=gS f (iA d (iA (mT d f d.length) i)):=by
 rw [GP];exact AH (λx=>gS f (iA d x)) _ 0 0 bZ
theorem Br (d f:Xa0):(lY d f d.length).length=(mT d f d.length).length:=by rw [GP,bI]
theorem U7 {l:Xa0}(h:l.Pairwise (· < ·)){x y:Int}(c:0<=x/\x<l.length)(b:0<=y/\y<l.length)(a:iA l x=iA l y):x=y:=by
 unfold iA at a;rw [aA (bZ:x.toNat<l.length),aA (bZ:y.toNat<l.length),aD,aD] at a;have:=(j9 (mB h)).1 a;omega
theorem IP {d f:Xa0}(n:d.Pairwise (· < ·))(c:f.Pairwise (· < ·)):(lY d f d.length).Nodup:=by
 rw [GP];show List.Pairwise _ _;rw [List.pairwise_map];refine (DZ d f).imp_of_mem λ {x y} k j l m=>?_;obtain ⟨i,h⟩:=l9.1 k;obtain ⟨g,e⟩:=l9.1 j;have b:=lC c h;have a:=lC c e;have:iA d x=iA d y:=by rw [<- b.2.1,<- a.2.1,<- b.2.2,<- a.2.2,m]
 have:=U7 n i g this;omega
section
variable {g:Graph} {d f:Part} {ml mr:Graph} {kl kr:Part} {il ir:Xa0}
theorem Px (a:GOk g d ml kl il)(o:subF g f=0)(p:bigB (fV g d ml kl il)=false):subF (fV g d ml kl il) ⟨mT d.h f.h d.h.length,mT d.i f.i d.i.length⟩=0:=by
 have e:=(fO a.sub).2.1;have q:=mP a;refine LZ (DB a p) (λx c=>?_) (DZ _ _) (λx c=>?_) (DZ _ _) λk n=>?_
 .have:=(l9.1 c).1;omega
 .have:=(l9.1 c).1;omega
 .obtain ⟨b,m⟩:=l9.1 n;rw [GO a b.1 b.2,sU];have i:=nS a.sub (gB b.1 b.2);have h:=nS o m;have l:=lC e i.1;have j:=lC e i.2;exact ⟨l9.2 ⟨⟨by show (0:Int)<=(lH _ _:Nat);omega,by show ((lH _ _:Nat):Int)<_;omega⟩,by show iA d.h (lH _ _:Nat)∈_;rw [l.2.1];exact h.1⟩,
   l9.2 ⟨⟨by show (0:Int)<=(lH _ _:Nat);omega,by show ((lH _ _:Nat):Int)<_;omega⟩,by show iA d.h (lH _ _:Nat)∈_;rw [j.2.1];exact h.2⟩⟩
theorem Rl (e:GOk g d ml kl il)(b:GOk g f mr kr ir)(I:bigB (fV g d ml kl il)=false)(H:bigB (fV g f mr kr ir)=false) :
  cY (bG (fV g d ml kl il) ⟨mT d.h f.h d.h.length,mT d.i f.i d.i.length⟩) (fV g f mr kr ir) ⟨lY d.h f.h d.h.length,lY d.i f.i d.i.length⟩=0:=by
 have n:=Px e b.sub I;obtain ⟨_,q,F,E⟩:=fO e.sub;obtain ⟨_,j,D,C⟩:=fO b.sub;have o:=nT b.sub;have B:=mP e;have A:=mP b;obtain ⟨s,r⟩:=mJ n;have h:∀ v:Int,v∈d.h->v∈f.h->iA (lY d.h f.h d.h.length) (lH (mT d.h f.h d.h.length) (lH d.h v))=lH f.h v:=λv G u=>by
  have t:=lC q G;have z:((lH d.h v:Nat):Int)∈mT d.h f.h d.h.length:=l9.2 ⟨⟨bZ,bZ⟩,by rw [t.2.1];exact u⟩;have y:=lC (DZ d.h f.h) z;rw [M2 bZ bZ,y.2.1,t.2.1,(lC j u).2.2]
 refine KY (Rf n) (DB b H) (by rw [s];exact Br _ _) (by rw [r];exact Br _ _) (λi c m=>?_) (λk c l=>?_)
 .rw [s] at m;have a:=l9.1 (gB c m);have p:=lC j a.2;show (0<=iA (lY d.h f.h d.h.length) i/\iA (lY d.h f.h d.h.length) i<_)/\gN _ (iA (lY d.h f.h d.h.length) i)=_;rw [M2 c m,p.2.2];refine ⟨⟨bZ,bZ⟩,?_⟩;rw [Bh b bZ bZ,p.2.1,qS n c m];exact (Bh e a.1.1 a.1.2).symm
 .rw [r] at l;have a:=l9.1 (gB c l);have p:=lC o a.2;show (0<=iA (lY d.i f.i d.i.length) k/\iA (lY d.i f.i d.i.length) k<_)/\_=(eA _ (iA (lY d.i f.i d.i.length) k)).type/\_=(eA _ (iA (lY d.i f.i d.i.length) k)).B/\_=(eA _ (iA (lY d.i f.i d.i.length) k)).O;rw [M2 c l,p.2.2];refine ⟨⟨bZ,bZ⟩,?_⟩;rw [GO b bZ bZ,p.2.1,DJ n c l,sU,sU];show (eA _ (iA (mT d.i f.i d.i.length) k)).type=_/\_=((lH f.h _:Nat):Int)/\_=((lH f.h _:Nat):Int);rw [GO e a.1.1 a.1.2,sU];have x:=nS e.sub (gB a.1.1 a.1.2);have w:=nS b.sub a.2;exact ⟨rfl,h _ x.1 w.1,h _ x.2 w.2⟩
end
theorem OU {t:Types}{g:Graph}{ns es:Xa0}(h:sE t g ns es=true):(∀ i∈ns,absB t g i=false)/\∀ k∈es,unfitB t g k=false:=by
 unfold sE at h;rw [aL,b7,b7,iK,iK] at h;exact ⟨λi b=>by simpa using h.1 i b,λk a=>by simpa using h.2 k a⟩
theorem UP {t:Types}{g:Graph}{ns es:Xa0}(d:∀ i∈ns,absB t g i=false)(c:∀ k∈es,unfitB t g k=false):sE t g ns es=true:=by
 unfold sE;rw [aL,b7,b7,iK,iK];exact ⟨λi b=>by rw [d i b];simp,λk a=>by rw [c k a];simp⟩
theorem SM {t:Types}{g g':Graph}{i j:Int}(h:gN g i=gN g' j):absB t g i=absB t g' j:=by unfold absB;rw [h]
theorem Ko {t:Types}{g g':Graph}{i j:Int}(c:(eA g i).type=(eA g' j).type)(b:gN g (eA g i).B=gN g' (eA g' j).B)(a:gN g (eA g i).O=gN g' (eA g' j).O):unfitB t g i=unfitB t g' j:=by
 show (!oR t (eA g i).type (gN g (eA g i).B) (gN g (eA g i).O)) = !oR t (eA g' j).type (gN g' (eA g' j).B) (gN g' (eA g' j).O);rw [c,b,a]
theorem FS {d f:Xa0}(l:d.Pairwise (· < ·))(e:f.Pairwise (· < ·)){m:Nat}{i:Int}(j:i∈aN (lY d f d.length) (f.length+m)):((0<=i/\i<f.length)/\iA f i∉d)\/∃ k,k<m/\i=((f.length+k:Nat):Int):=by
 obtain ⟨c,g⟩:=dC.1 j;rcases Int.lt_or_le i f.length with a|hge
 .refine .inl ⟨⟨c.1,a⟩,λh=>g ?_⟩;have p:=lC l h;have b:=gB c.1 a;have q:=lC e b;rw [GP,aV];refine ⟨lH d (iA f i),l9.2 ⟨⟨bZ,bZ⟩,by rw [p.2.1];exact b⟩,?_⟩;rw [p.2.1,q.2.2];exact U7 e ⟨bZ,bZ⟩ ⟨c.1,a⟩ q.2.1
 .exact .inr ⟨i.toNat - f.length,bZ,bZ⟩
section
variable {t:Types} {a b:Rule} {o:Ovl}
theorem Yz (h:eW a b o=0){n:Int}(m:0<=n/\n<o.j.h.length)(d:n∉(bK a b o).h):∃ j,j∈a.Y/\iA o.left.h j=n:=by
 have g:=nZ h;obtain ⟨_,_,q,p⟩:=dA g.m1;rw [xF h] at d;have k:n∈iJ o.left.h (Jj a).h:=bH λc=>d (dC.2 ⟨m,c⟩);obtain ⟨i,r,e,l⟩:=pS.1 k;refine ⟨i,dC.2 ⟨⟨bZ,bZ⟩,λc=>?_⟩,by unfold iA;rw [Int.toNat_natCast,l];rfl⟩;have f:=(mem_iff (Jj a).h (i:Int)).2 (qM.2 ⟨⟨bZ,bZ⟩,c⟩);rw [f] at e;cases e
theorem YA (h:eW a b o=0){n:Int}(m:0<=n/\n<o.j.i.length)(d:n∉(bK a b o).i):∃ j,j∈a.am/\iA o.left.i j=n:=by
 have g:=nZ h;obtain ⟨_,_,q,p⟩:=dA g.m1;rw [xF h] at d;have k:n∈iJ o.left.i (Jj a).i:=bH λc=>d (dC.2 ⟨m,c⟩);obtain ⟨i,r,e,l⟩:=pS.1 k;refine ⟨i,dC.2 ⟨⟨bZ,bZ⟩,λc=>?_⟩,by unfold iA;rw [Int.toNat_natCast,l];rfl⟩;have f:=(mem_iff (Jj a).i (i:Int)).2 (qM.2 ⟨⟨bZ,bZ⟩,c⟩);rw [f] at e;cases e
theorem TT (x:Rule.aa t a)(w:Rule.aa t b)(h:eW a b o=0) :
  sE t (wE a b o (bK a b o) (bW a b o)) (aN (lY (bK a b o).h (bW a b o).h (bK a b o).h.length) (wE a b o (bK a b o) (bW a b o)).h.length) (aN (lY (bK a b o).i (bW a b o).i (bK a b o).i.length) (wE a b o (bK a b o) (bW a b o)).i.length)=true:=by
 have g:=nZ h;have r:=Wo x w h;have f:=Y0 x w h;have K:=mP f;obtain ⟨_,G,S,R⟩:=fO r.sd;obtain ⟨_,s,D,C⟩:=fO r.sf;have F:=nT r.sd;have B:=nT r.sf;have J:=OU x.ek;have I:=OU w.ek;obtain ⟨_,Q,U,T⟩:=dA g.m1;refine UP (λi A=>?_) (λi A=>?_)
 .have q:i∈aN (lY (bK a b o).h (bW a b o).h (bK a b o).h.length) ((bW a b o).h.length+(aN (vP b).h b.right.j.h.length).length):=by rw [<- K.1];exact A
  rcases FS G s q with ⟨m,H⟩|⟨k,u,rfl⟩
  .obtain ⟨j,v,E⟩:=Yz h (D _ (gB m.1 m.2)) H;have d:=eJ v;have z:=(kM g.m1 d.1 d.2).2;rw [<- J.1 j v];refine SM ?_;rw [<- z,E];exact Bh f m.1 m.2
  .rw [<- I.1 _ (gB (l:=b.Y) (n:=(k:Int)) bZ (by have:k<b.Y.length:=u;omega))];exact SM (Sb f u)
 .have q:i∈aN (lY (bK a b o).i (bW a b o).i (bK a b o).i.length) ((bW a b o).i.length+(aN (vP b).i b.right.j.i.length).length):=by rw [<- K.2];exact A
  rcases FS F B q with ⟨m,H⟩|⟨k,u,rfl⟩
  .have hem:=gB m.1 m.2;obtain ⟨j,v,E⟩:=YA h (C _ hem) H;have d:=eJ v;have e:=pJ g.m1 d.1 d.2;have c:=Bp x.gr d.1 d.2;have P:=(kM g.m1 c.1.1 c.1.2).2;have O:=(kM g.m1 c.2.1.1 c.2.1.2).2;rw [E] at e;have p:eA (wE a b o (bK a b o) (bW a b o)) i=gEd o.j (bW a b o) (iA (bW a b o).i i):=GO f m.1 m.2;have L:=nS r.sf hem;have N:=lC s L.1;have M:=lC s L.2;rw [<- J.2 j v];refine Ko ?_ ?_ ?_
   .rw [p,sU];exact e.2.1.symm
   .rw [p,sU,<- P,e.2.2.1];have:=Bh f (i:=((lH (bW a b o).h (eA o.j (iA (bW a b o).i i)).B:Nat):Int)) bZ bZ;rw [N.2.1] at this;exact this
   .rw [p,sU,<- O,e.2.2.2];have:=Bh f (i:=((lH (bW a b o).h (eA o.j (iA (bW a b o).i i)).O:Nat):Int)) bZ bZ;rw [M.2.1] at this;exact this
  .have hm:=gB (l:=b.am) (n:=(k:Int)) bZ (by have:k<b.am.length:=u;omega);have y:=eJ hm;have c:=Bp w.gr y.1 y.2;rw [<- I.2 _ hm];have p:eA (wE a b o (bK a b o) (bW a b o)) (((bW a b o).i.length+k:Nat):Int)=qP b.right.j (GOk.pl o.j (bW a b o) b.right.j (vP b) (uL b.u.h o.right.h)) (iA b.am k).toNat:=W1 f u;rw [Sp y.1] at p;refine Ko ?_ ?_ ?_
   .rw [p]
   .rw [p];exact (R4 f c.1.1 c.1.2).2
   .rw [p];exact (R4 f c.2.1.1 c.2.1.2).2
theorem pN (h:gP a b o=0):eW a b o=0/\bigB (zZ a b o (bK a b o) (bW a b o))=false/\bigB (wE a b o (bK a b o) (bW a b o))=false:=by
 unfold gP at h;split at h
 .rename_i q;exact absurd h q
 .rename_i q;split at h
  .cases h
  .rename_i q2;rw [Bool.not_eq_true,Bool.or_eq_false_iff] at q2;exact ⟨bZ,q2.1,q2.2⟩
theorem HR {g:Graph}(a:(cQ t).2=0)(c:graphF g=0)(b:eY t g=true):c6 t ⟨g,[],0,[]⟩=0:=by
 unfold c6;rw [if_neg (by rw [a];simp),if_neg (by show ¬ graphF g≠0;rw [c];simp),if_neg (by show ¬ eY t g=false;rw [b];simp),if_neg (by show ¬ inF 0 0 12=false;decide),if_neg eG,if_neg (by simp [iB]),if_neg (by show ¬ lN 0 []≠0;decide),if_neg (by show ¬ mem (kV (0:Int).toNat []) false=true;decide)]
theorem TS (h:givenR t a b=0)(p:gP a b o=0):ruleF t (lA a b o)=0:=by
 obtain ⟨d,f⟩:=jH h;obtain ⟨i,m,u⟩:=pN p;have g:=nZ i;have r:=Wo d f i;have c:=acZ d f i;have e:=Y0 d f i;have n:=QR d f g;have y:lA a b o=concOf (zZ a b o (bK a b o) (bW a b o)) (wE a b o (bK a b o) (bW a b o)) (bK a b o) (bW a b o):=by unfold lA;rw [if_pos p]
 have D:graphF (zZ a b o (bK a b o) (bW a b o))=0:=DB c m;have C:graphF (wE a b o (bK a b o) (bW a b o))=0:=DB e u;have x:eY t (zZ a b o (bK a b o) (bW a b o))=true:=FR c n d.tl;have w:eY t (wE a b o (bK a b o) (bW a b o))=true:=FR e n f.tr;have z:subF (zZ a b o (bK a b o) (bW a b o)) ⟨mT (bK a b o).h (bW a b o).h (bK a b o).h.length,mT (bK a b o).i (bW a b o).i (bK a b o).i.length⟩=0:=Px c r.sf m;have s:cY (bG (zZ a b o (bK a b o) (bW a b o)) ⟨mT (bK a b o).h (bW a b o).h (bK a b o).h.length,mT (bK a b o).i (bW a b o).i (bK a b o).i.length⟩) (wE a b o (bK a b o) (bW a b o)) ⟨lY (bK a b o).h (bW a b o).h (bK a b o).h.length,lY (bK a b o).i (bW a b o).i (bK a b o).i.length⟩=0:=Rl c e m u;have B:jN (bG (zZ a b o (bK a b o) (bW a b o)) ⟨mT (bK a b o).h (bW a b o).h (bK a b o).h.length,mT (bK a b o).i (bW a b o).i (bK a b o).i.length⟩) (wE a b o (bK a b o) (bW a b o)) ⟨lY (bK a b o).h (bW a b o).h (bK a b o).h.length,lY (bK a b o).i (bW a b o).i (bK a b o).i.length⟩=true:=by
  simp only [jN,aL,decide_eq_true_eq];exact ⟨s,IP (fO r.sd).2.1 (fO r.sf).2.1,IP (nT r.sd) (nT r.sf)⟩
 have A:=TT d f i;have q:=HR d.v D x;rw [y];generalize zZ a b o (bK a b o) (bW a b o)=L at *;generalize wE a b o (bK a b o) (bW a b o)=R at *;unfold ruleF;rw [if_neg (by rw [d.v];simp),if_neg (by show ¬ mN concName=false;decide),if_neg (by show ¬ c6 t ⟨L,[],0,[]⟩≠0;rw [q];simp),if_neg,if_neg,if_neg]
 .show condF t ⟨L,[],0,[]⟩ zH=0;unfold condF;rw [if_neg (by rw [q];simp),if_neg (by decide)];rfl
 .intro hh;have k:=A.symm.trans hh;cases k
 .have hk:keptF (concOf L R (bK a b o) (bW a b o))=0:=by
   unfold keptF;rw [if_neg (λj=>j z),if_neg (λj=>j s)];refine if_neg λj=>?_;have l:=B.symm.trans j;cases l
  rw [hk];simp
 .show ¬ iX t _≠0;unfold iX;rw [if_neg (by show ¬ graphF R≠0;rw [C];simp),if_neg (by show ¬ eY t R=false;rw [w];simp),if_neg (by simp [concOf]),if_neg (by simp [concOf])];simp [concOf,bS]
end
theorem w4 {t:Types}{a b:Rule}{o:Ovl}(h:givenR t a b=0)(c:eW a b o=0):ROk a b o (bK a b o) (bW a b o):=by
 obtain ⟨e,d⟩:=jH h;exact Wo e d c
theorem OC {t:Types}{a b:Rule}{o:Ovl}(h:wF t a b o=0):ruleF t (nA t a b o)=0:=by
 unfold wF at h;split at h
 .rename_i q;exact absurd h q
 .rename_i q;unfold nA;rw [if_neg q];exact TS bZ h
theorem SB (d f:Xa0):(mT d f d.length).length<=d.length:=A5 _ _ _
theorem Uy {t:Types}{a b:Rule}{o:Ovl}(h:wF t a b o=0):(nA t a b o).ok:=by
 unfold wF at h;split at h
 .rename_i q;exact absurd h q
 .rename_i q;obtain ⟨e,d⟩:=jH (t:=t) (a:=a) (b:=b) bZ;obtain ⟨c,p,n⟩:=pN h;have r:=Wo e d c;unfold nA;rw [if_neg q];have f:lA a b o=concOf (zZ a b o (bK a b o) (bW a b o)) (wE a b o (bK a b o) (bW a b o)) (bK a b o) (bW a b o):=by unfold lA;rw [if_pos h]
  rw [f];have m:=SB (bK a b o).h (bW a b o).h;have l:=SB (bK a b o).i (bW a b o).i;have k:=Br (bK a b o).h (bW a b o).h;have j:=Br (bK a b o).i (bW a b o).i;have i:=r.ld;have g:=r.e7;refine ⟨by show concName.size<=100000;decide,by show (mT _ _ _).length<=_;omega,by show (mT _ _ _).length<=_;omega,by show (lY _ _ _).length<=_;omega,by show (lY _ _ _).length<=_;omega,?_,?_⟩
  .show Cond.ok zH;refine ⟨⟨by decide,by decide,by decide,by decide,by decide,by decide⟩,trivial⟩
  .show Cond.size zH<=1000000;decide
theorem Ge {P:Program}{H:AHeap}{f:FuncId}{args:Xa2}{ty:TypeId}{sz:Nat}{es:Xa1}{Q:D->AHeap->Prop}(A:Own P f (args.map (iS H)) ty sz es)(x:D.N (args.map (iS H))=true)(K:∀ d∈es.flatten,d.az=true)(N:Q (.list es) H):ACalls P f args H Q:=by
 refine ⟨A.1,λE σ w k o M=>?_⟩;obtain ⟨V,f2,Z,Y⟩:=fW (args.flatMap dQ) o;refine (A.2 (dD E (fJ (args.flatMap dQ) H) σ) w k (sR V) (dR (λ_ h=>h) (Am o M _ λi h=>h) x)).mono λe G ⟨v,F,L,b,O,c,C,r,m⟩=>?_;obtain ⟨U,T,S⟩:=o.grow m.os m.tape m.output m.size m.block;have I:RepV (dD E H σ) g8 sD G v (.list es):=by
  rcases b.2 with ⟨l,R⟩|⟨g,y,W,a,X,n,s,t,z,q⟩
  .rw [l,bQ R];exact .listN
  .rw [a];refine .list ⟨g,0,none⟩ y sz F es s t r c.len O (λj u p=>⟨λJ=>?_,b.cells (g:=g) (by simp [a,Value.ownBlock]) j u p⟩) (λj u d p B=>AU (c.ad j u d p B) (K d (aM B)));have:=sR o g J;omega
 exact ⟨v,.list es,H,σ,L,U,I.u AL,T,S,N⟩
theorem n7 {P:Program}{md:Nat->Bool}{ops:Array Oper}{g:List (Nat × Nat)}{l i:Nat}{a:List Oper}{b:List (Nat × List Nat)}{e:d7}{c:Option Tmp}{K:d7->AHeap->Prop}{f:FuncId}{args args':Xa2}{H:AHeap}{ty:TypeId}{sz:Nat}{es:Xa1}
  (o:Own P f args' ty sz es) (r:args.map (iS H)=args') (j:D.N args'=true) (p:∀ d∈es.flatten,d.az=true) {S:List Nat} (s:args.flatMap dQ=S) (q:BH g i S b)
  (h:j5 P md ops g l (i+1) a ((i,S) :: b) (pE e c (.list es)) H K):mR P md ops g l i a b e c K f args H:=by
 subst r s;unfold mR;refine .inl ⟨.list es,_,λt k=>?_,q,h⟩;have m:=zC k λx n=>n;exact Ge (by rw [m];exact o) (by rw [m];exact j) p ⟨rfl,rfl⟩
theorem K9 {t:Types}(b:t.av){a:Nat}(c:a<t.h.length):mem (t.ao a) a=true:=by
 rw [AJ t a c (b.ap a),xK];simp
def cL (l:Xa0):Xa2:=[dLI l]
@[go_sem] theorem acQ (l:Yb):D.V (l.map cL)=true:=dU cL (λx=>by simp [cL,go_sem]) l
attribute [go_sem] cL
@[go_sem] theorem ae0 (o:Option Rule)(A z y x w v u t s r q p n m l k j i h g f e d b a:D):((Option.map Rule.c o).getD [A,z,y,x,w,v,u,t,s,r,q,p,n,m,l,k,j,i,h,g,f,e,d,b,a]).length=25:=by cases o<;>rfl
def abQ (mask:List Bool):List Nat:=(List.range mask.length).filter λi=>mask[i]?.getD false
theorem l8 (a b:Xa0):Pua 66 [dLI a,dLI b] (.bool (decide (a=b))):=by
 refine Tz.p0 func66 rfl λQ g Y=>?_;refine wv (h:=?_);repeat first|intro _|refine ⟨iF,?_⟩
 refine wq (λm=>?_) λm=>?_
 .refine wv (h:=?_);have c:a≠b:=by intro h;subst h;omega
  exact g _ _ (by simp [go_sem,c])
 .refine wo (h:=bC (λi e H=>(e 0=dLI a/\e 1=dLI b/\e 12=dI a.length/\e 13=dI i)/\(i<=a.length)/\(a.take i=b.take i)) (λi=>a.length - i) 0 ⟨wg,wi,(by rfl)⟩ λp j i e H d=>?_);obtain ⟨n,o,f⟩:=d;have Y:=wa Y n;refine c8 (λl=>?_) λl=>?_
  .have hib:i<b.length:=bZ;have Y:=xa1 Y l hib;refine wv (h:=?_);repeat first|intro _|refine ⟨iF,?_⟩
   refine wq (λk=>?_) λk=>?_
   .refine wv (h:=?_);have c:a≠b:=by intro h;subst h;exact k rfl
    exact g _ _ (by simp [go_sem,c])
   .exact wo (h:=wx j (i+1) ⟨wg,wj,(by rw [aF l,aF hib,f,k])⟩)
  .rw [aH bZ,aH bZ] at f;exact wv (h:=g _ _ (by simp [go_sem,f]))
theorem WX {r:Rule}(h:fewR r=true):r.ok:=by
 simp only [fewR,aL,decide_eq_true_eq] at h;obtain ⟨⟨⟨⟨⟨i,g⟩,f⟩,e⟩,d⟩,b⟩:=h;simp [fewPart] at e d;simp [fewC] at b;have c:=Dv r.cond 40 bZ b;exact ⟨bZ,bZ,bZ,bZ,bZ,c.1,bZ⟩
theorem Rx {P:Program}{md:Nat->Bool}{ops:Array Oper}{a:List Oper}{e:d7}{b:Option Tmp}{K:d7->AHeap->Prop}{f:FuncId}{args args':Xa2}{H:AHeap}{ty:TypeId}{sz:Nat}{es:Xa1}
  (g:Own P f args' ty sz es) (j:args.map (iS H)=args') (c:D.N args'=true) (i:∀ d∈es.flatten,d.az=true) (h:oO P md ops a (pE e b (.list es)) H K):e8 P md ops a e b K f args H:=by grind [e8, Ge]
theorem Ll (zs:Xa0):∀ d∈(zs.map cI).flatten,d.az=true:=by
 intro d a;rw [Bn,aV] at a;obtain ⟨x,_,rfl⟩:=a;rfl
def VZ:Xa0->Int
 | []=>0
 | a :: l=>if a≠0 then a else VZ l
theorem UD {l:Xa0}{i:Nat}(h:i<l.length):VZ (l.drop i)=if l[i]≠0 then l[i] else VZ (l.drop (i+1)):=by
 rw [fI h];rfl
theorem Zm (l:Xa0):Pua 392 [dLI l] (dI (VZ l)):=by
 refine Tz.p0 func392 rfl λQ f Y=>?_;refine wv (h:=?_);repeat first|intro _|refine ⟨iF,?_⟩
 refine bC (λi e H=>(e 6=dLI l/\e 7=dI l.length/\e 3=dI 0/\e 8=dI i)/\(i<=l.length)/\(VZ (l.drop i)=VZ l)) (λi=>l.length - i) 0 ⟨wg,wi,(by rfl)⟩ λq c i e H a=>?_;obtain ⟨m,p,b⟩:=a;have Y:=wa Y m;refine c8 (λd=>?_) λd=>?_
 .have hst:=b;rw [UD d] at hst;have Y:=wa Y d;refine wv (h:=?_);repeat first|intro _|refine ⟨iF,?_⟩
  refine wq (λk=>?_) λk=>?_
  .rw [if_pos bZ] at hst;exact wv (h:=f _ _ (by simp [go_sem,<- hst]))
  .rw [if_neg bZ] at hst;refine wv (h:=?_);repeat first|intro _|refine ⟨iF,?_⟩
   exact wx c (i+1) ⟨wg,wj,(hst)⟩
 .rw [iT bZ] at b;exact wv (h:=f _ _ (by simp [go_sem,<- b,VZ]))
theorem JA {P:Program}(w:World)(y z ty b:TypeId)(sz:Nat)(g o e m:Nat)(a:Addr)(d h n:Nat)(c:Array Value)(t:TypeId)(cs:List Value)
  (A:P.underlying y=some (.slice b)) (u:(P.info? b).map (·.size)=some sz)
  (D:w.heap[g]?=some (.cells c t (0,0))) (B:n=Nat.min d e) (s:cs.length=n * sz)
  (k:∀ j v,cs[j]?=some v->w.cell? (a.add j)=some v) (l:o+cs.length<=c.size) (E:∀ v∈cs,v.oneCell'=true) :
  (Builtin.copy_ #[y,z] ty #[.slice (some ⟨g,o,none⟩) e m,.slice (some a) d h]).run P w =
   .ok (goInt n) (w.setRow g (c.toList.take o++cs++c.toList.drop (o+cs.length)).toArray):=by
 have x:=run_loadCells_list (P:=P) w a cs k;have q:=run_storeCells_at P g o t cs 0 c w D (eL l) E;cases r:P.info? b with
 | none=>simp [r] at u
 | some i =>
  have C:i.size=sz:=by simpa [r] using u
  rw [s] at x;simp [Builtin.copy_,run_underlying A,Builtin.lenOf,Builtin.firstCells,sizeOf,typeInfo,r,C,<- B,x,q]
def cmp1 (a b:Int):Int:=if a<b then -1 else if b<a then 1 else 0
theorem PE (a b:Int):Pua 393 [dI a,dI b] (dI (cmp1 a b)):=by
 refine Tz.p0 func393 rfl λQ e Y=>?_;refine wv (h:=aB (Bs a) wl ?_);refine wv (h:=aB (Bs b) wl ?_);refine c8 (λd=>?_) λd=>?_
 .have Y:=xa1 Y d @cmp1.eq_1;exact wv (h:=e _ _ wy)
 .refine c8 (λc=>?_) λc=>?_
  .have Y:=xa2 Y d c @cmp1.eq_1;exact wv (h:=e _ _ wy)
  .have Y:=xa2 Y d c @cmp1.eq_1;exact wv (h:=e _ _ wy)
theorem BT (g:Graph)(k:g.h.length<=100000)(l:g.i.length<=100000)(G:AHeap)(Q:D->AHeap->Prop)
  (i:∀ a b H',G.next<=a->G.next<=b->a≠b->a<H'.next->b<H'.next->H'.get a=some ⟨3,1,g.h.map cI,false⟩->H'.get b=some ⟨153,3,g.i.map Edge.c,false⟩->(∀ j,j<G.next->H'.get j=G.get j)->G.next<=H'.next->Q (.agg [.own a g.h.length,.own b g.i.length]) H'):ACalls prog 176 [g.d] G Q:=by
 refine (Tz.cK ⟨λt=>t==2||t==3||t==7,λr=>match r with|1=>[(0,1),(0,2),(0,4),(1,4),(2,4),(3,4),(0,5),(3,5),(4,5),(0,6),(3,6),(4,6)]|_=>[]⟩ func176 rfl ?_);have e:=nxs G.next;have Y:=e;refine wo (h:=?_);exact i _ _ _ (by first|omega|(simp [go_sem]<;>omega)|(simp [go_sem,e]<;>omega)) (by first|omega|(simp [go_sem]<;>omega)|(simp [go_sem,e]<;>omega)) (by first|omega|(simp [go_sem]<;>omega)|(simp [go_sem,e]<;>omega)) (by first|omega|(simp [go_sem]<;>omega)|(simp [go_sem,e]<;>omega)) (by first|omega|(simp [go_sem]<;>omega)|(simp [go_sem,e]<;>omega)) (by simp [go_sem]<;>omega) (by simp [go_sem]<;>omega) (λj f=>by simp [go_sem,bP f]) (by first|omega|(simp [go_sem]<;>omega)|(simp [go_sem,e]<;>omega))
theorem pA (a b:Graph)(Q:D->AHeap->Prop)(k:∀ H',rA a b≠0->Q (.tup [.nil,dI (rA a b)]) H')
  (A:∀ o n H',rA a b=0->n=(Wt a b).length->H'.get o=some ⟨45,6,(Wt a b).map Ovl.c,false⟩->o<H'.next->Q (.tup [.own o n,dI 0]) H'):ACalls prog 57 [a.d,b.d] .an Q:=by
 obtain ⟨s,g⟩:=fH ([a,b]);refine (Tz.cK ⟨λt=>t==7||t==45,λ_=>[]⟩ func57 rfl ?_);have Y:=trivial;refine wo (h:=bC (λi e H=>∃ l:Xa1,(e 2=.adr a.c/\e 3=.adr b.c/\e 12=.list l/\e 13=dI 2/\e 14=dI i)/\(i<=2)/\(l=s.map Graph.c)/\(∀ j x,j<i->s[j]?=some x->graphF x=0)) (λi=>2 - i) 0 ⟨([a.c,b.c]),wg,wi,(by rw [g];rfl),(by intro j x P;omega)⟩ λW E i e H C=>?_);obtain ⟨l,U,V,J,w⟩:=C;have Y:=wa Y U;refine c8 (λL=>?_) λL=>?_
 .have hgl:i<s.length:=by rw [g];simp;omega
  have Y:=xa3 Y L J (aA hgl) @Graph.c.eq_1;refine wo (h:=aB (lK s[i]) wl ?_);refine dW (λr=>?_) λr=>?_
  .have hE:rA a b=graphF s[i]:=by
    subst g;rcases (bZ:i=0\/i=1) with rfl|rfl
    .exact if_pos (eL r)
    .unfold rA;rw [if_neg (by have:=w 0 a bZ rfl;omega),if_pos (eL r)];rfl
   refine wv (h:=?_)
   (have:=k;rw [hE] at this;exact this _ (eL r))
  .exact wo (h:=wx E (i+1) ⟨l,wg,wj,(by exact J),(by intro j x P z;rcases bT j i with h|h;exact w j x h z;obtain rfl:j=i:=bZ;rw [aA hgl] at z;cases z;exact r)⟩)
 .have hA:graphF a=0:=w 0 a bZ (by rw [g];rfl);have G:graphF b=0:=w 1 b bZ (by rw [g];rfl);have O:=aY hA;have N:=aY G;have p:¬ graphF a≠0:=by rw [hA];simp
  have m:¬ graphF b≠0:=by rw [G];simp
  refine dW (λS=>?_) λS=>?_
  .have hE:rA a b=3:=by unfold rA;rw [if_neg p,if_neg m,if_pos bZ]
   refine wv (h:=?_)
   (have:=k;rw [hE] at this;exact this _ eG)
  .have hE8:¬ (40<a.h.length+b.h.length\/80<a.i.length+b.i.length):=bZ;refine wv (h:=?_);refine tK (.step (.refl _) H.next 0 4 45 6 _ _ (by simp [go_sem];rfl) rfl rfl rfl) ?_;simp [go_sem];refine D1 (args':=[.ptr H.next 1 0 0,dLI []]) (by simp [go_sem,dLI,QU]) ?_;unfold e8;refine MV a b hA G H.next (H.next+1) bZ b.h.length [] [] _ _ eG (by simp [go_sem]) (by simp [go_sem]) ⟨by simp [go_sem],by simp [go_sem],by simp⟩ (λT F R B=>?_);obtain ⟨v,u,q⟩:=F;have M:H.next+1<T.next:=by have h:=B;simp [go_sem] at h;omega
   obtain ⟨y,f⟩:∃ x,x=Nw a b b.h.length [] []:=⟨_,rfl⟩;rw [<- f] at v u q;have Y:=xa1 Y v u;refine dW (λI=>?_) λI=>?_
   .have hE:rA a b=3:=by unfold rA;rw [if_neg p,if_neg m,if_neg hE8,<- f,if_pos bZ]
    refine wv (h:=?_)
    (have:=k;rw [hE] at this;exact this _ eG)
   .have hE:rA a b=0:=by unfold rA;rw [if_neg p,if_neg m,if_neg hE8,<- f,if_neg bZ]
    have K:Wt a b=y:=by unfold Wt;rw [if_pos hE,f]
    refine wv (h:=?_);exact A _ _ _ hE (by rw [K]) (by rw [K];assumption) bZ
end Go.Abs
end
