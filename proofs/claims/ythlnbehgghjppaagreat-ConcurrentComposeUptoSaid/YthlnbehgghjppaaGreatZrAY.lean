/- Layer 32: the matches of the two steps of a concurrent step, -/
import Derived.Test.YthlnbehgghjppaaGreatZrAG
import Derived.Test.YthlnbehgghjppaaGreatZrAA
import Derived.Test.YthlnbehgghjppaaGreatZrAX
import Derived.Test.YthlnbehgghjppaaGreatZrAN
import Derived.Test.YthlnbehgghjppaaGreatZrAT
import Derived.OpenShut
import Derived.Test.YthlnbehgghjppaaGreatRows
set_option linter.unusedVariables false
set_option linter.unusedSimpArgs false
section
set_option maxRecDepth 100000
set_option maxHeartbeats 4000000
open Go Go.Proofs Tryz
namespace Go.Abs
def JZ (m d left keep into:Xa0)(i:Nat):Int:=if mem keep i=true then iA m (gS d (iA left (iA into (gS keep i)))) else iA m ((d.length+(aN keep i).length:Nat):Int)
def BD (m d left keep into:Xa0)(n:Nat):Xa0:=(List.range n).map (JZ m d left keep into)
def Eo (m d left track com:Xa0)(e:Int):Int:=if mem d e=true then iA track (iA m (gS d e)) else iA com (gS left e)
def SZ (m d left right track com:Xa0):Xa0:=right.map (Eo m d left track com)
structure FstOk (m d left keep into:Xa0) (n:Nat):Prop where
 kl:keep.length=into.length
 kn:∀ x∈keep,0<=x/\x<n
 kd:keep.Nodup
 eo:∀ x∈into,0<=x/\x<left.length
 bm:∀ x∈into,mem d (iA left x)=true
 ml:m.length=d.length+(aN keep n).length
 nn:n<=1000
 kk:keep.length<=1000
 dl:d.length<=1000
theorem WV {l:Xa0}{i:Nat}{v:Int}(h:l[i]?=some v):iA l (i:Nat)=v:=by unfold iA;rw [Int.toNat_natCast,h];rfl
theorem TM (m d a keep b:Xa0)(i:Nat):BD m d a keep b (i+1)=BD m d a keep b i++[JZ m d a keep b i]:=by simp [BD,dM]
theorem DE (m d a keep b:Xa0)(n:Nat):(BD m d a keep b n).length=n:=by simp [BD]
theorem Mz (l:Xa0){i n:Nat}(h:i<=n):(aN l i).length<=(aN l n).length:=by
 induction n with
 | zero=>rw [(bZ:i=0)];exact bD _
 | succ n ih =>
  rcases bT i (n+1) with h1|h1
  .refine eI (ih bZ) ?_;rw [jG,aQ];omega
  .rw [(bZ:i=n+1)];exact bD _
theorem Sh {l:Xa0}{v:Int}(h:mem l v=true):0<=gS l v/\(gS l v).toNat<l.length:=⟨(qN h).1,(qN h).2.1⟩
structure SndOk (m d left right track com:Xa0):Prop where
 a:∀ e∈right,mem d e=true->(gS d e).toNat<m.length/\0<=iA m (gS d e)/\iA m (gS d e)<track.length
 b:∀ e∈right,mem d e=false->mem left e=true
 c:com.length=left.length
 l:right.length<=1000
def Y5 (m d left keep into:Xa0)(k:Nat):List (Int × Int):=(List.range k).map λ(i:Nat)=>(iA keep i,iA m (gS d (iA left (iA into i))))
def fsQ (m d keep:Xa0)(n k:Nat):List (Int × Int):=(List.range k).map λ(i:Nat)=>(iA (aN keep n) i,iA m ((d.length+i:Nat):Int))
theorem Vg (m d a keep b:Xa0)(k:Nat):Y5 m d a keep b (k+1)=Y5 m d a keep b k++[(iA keep k,iA m (gS d (iA a (iA b k))))]:=by simp [Y5,dM]
theorem Vf (m d keep:Xa0)(n k:Nat):fsQ m d keep n (k+1)=fsQ m d keep n k++[(iA (aN keep n) k,iA m ((d.length+k:Nat):Int))]:=by simp [fsQ,dM]
def fsL (m d left keep into:Xa0)(n:Nat):Xa0:=jR (fsQ m d keep n (aN keep n).length) (jR (Y5 m d left keep into keep.length) (List.replicate n 0))
theorem Y6 {m d b keep c:Xa0}{n:Nat}(h:FstOk m d b keep c n):fsL m d b keep c n=BD m d b keep c n:=by
 unfold fsL;rw [<- S0];refine UR (by rw [jQ,DE];simp) λp o=>?_;rw [jQ,fA] at o;have e:iA (BD m d b keep c n) p=JZ m d b keep c p:=by
  unfold iA BD;rw [Int.toNat_natCast,aP,mW o];rfl
 rw [e];have y:∀ i:Nat,i<(aN keep n).length->∃ q:Nat,iA (aN keep n) i=q/\q<n/\mem keep q=false/\(aN keep q).length=i:=λi g=>by
  have r:iA (aN keep n) i∈aN keep n:=gB bZ bZ;obtain ⟨w,k⟩:=dC.1 r;refine ⟨(iA (aN keep n) i).toNat,bZ,bZ,?_,?_⟩
  .rw [aW];intro f;rw [show (((iA (aN keep n) i).toNat:Nat):Int)=iA (aN keep n) i by omega] at f;exact k ((mem_iff _ _).1 f)
  .have hf:mem keep ((iA (aN keep n) i).toNat:Nat)=false:=by
    rw [aW];intro f;rw [show (((iA (aN keep n) i).toNat:Nat):Int)=iA (aN keep n) i by omega] at f;exact k ((mem_iff _ _).1 f)
   have j:=tU (l:=keep) n (iA (aN keep n) i).toNat bZ hf;have s:=(aK.1 j).1;refine MO (mB (n3 keep n)) s g ?_;rw [WV j];omega
 refine (RQ (R:=λa v=>v=JZ m d b keep c a.toNat) _ _ (λq hq=>?_) p (eL o) (.inr ?_)).trans (by rw [Int.toNat_natCast])
 .rcases bE.1 hq with hq|hq
  .obtain ⟨i,g,rfl⟩:=aV.1 hq;have t:=bY.1 g;have r:iA keep i∈keep:=gB bZ bZ;have x:=h.kn _ r;refine ⟨?_,x.1⟩;simp only;unfold JZ;rw [show (((iA keep i).toNat:Nat):Int)=iA keep i by omega,if_pos ((mem_iff _ _).2 r),YM h.kd t]
  .obtain ⟨i,g,rfl⟩:=aV.1 hq;obtain ⟨q,w,k,u,z⟩:=y i (bY.1 g);simp only;rw [w];refine ⟨?_,bZ⟩;unfold JZ;rw [Int.toNat_natCast,if_neg (by rw [u];simp),z]
 .by_cases f:mem keep p=true
  .obtain ⟨w,k,u⟩:=qN f;refine ⟨_,List.mem_append_left _ (aV.2 ⟨(gS keep p).toNat,bY.2 k,Prod.ext ?_ rfl⟩)⟩;show iA keep ((gS keep p).toNat:Nat)=p;unfold iA;rw [Int.toNat_natCast,u];rfl
  .have hf:mem keep p=false:=by simpa using f
   have j:=tU (l:=keep) n p o hf;have s:=(aK.1 j).1;refine ⟨_,List.mem_append_right _ (aV.2 ⟨(aN keep p).length,bY.2 s,Prod.ext ?_ rfl⟩)⟩;show iA (aN keep n) ((aN keep p).length:Nat)=p;unfold iA;rw [Int.toNat_natCast,j];rfl
theorem Jb {t:Types}{a b:Rule}{o:Ovl}{s:Stp26}(w:wF t a b o=0)(f:s.x.ok)(Q:yC t s=true)(v:s.x=nA t a b o) :
  (FstOk s.X.m.h (bK a b o).h o.left.h a.u.h a.A.h a.left.j.h.length/\FstOk s.X.m.i (bK a b o).i o.left.i a.u.i a.A.i a.left.j.i.length) /\
  ((∀ e∈o.right.h,mem (bK a b o).h e=false->mem o.left.h e=true)/\∀ e∈o.right.i,mem (bK a b o).i e=false->mem o.left.i e=true) /\
  ((∀ x∈s.X.m.h,0<=x/\x<s.D.j.h.length)/\∀ x∈s.X.m.i,0<=x/\x<s.D.j.i.length) /\
  (o.left.h.length=a.right.j.h.length/\o.left.i.length=a.right.j.i.length)/\(o.right.h.length<=1000/\o.right.i.length<=1000)/\eW a b o=0/\Rule.aa t a/\Rule.aa t b:=by
 unfold wF at w;split at w
 .rename_i q;exact absurd w q
 .rename_i q;obtain ⟨h,C⟩:=jH (t:=t) (a:=a) (b:=b) bZ;obtain ⟨r,_,_⟩:=pN w;have g:=nZ r;obtain ⟨_,K⟩:=IW f Q;obtain ⟨P,O⟩:=Ie h;obtain ⟨_,_,la,lb⟩:=dA h.b2;obtain ⟨_,_,N,M⟩:=dA g.m1;obtain ⟨_,_,l3,l4⟩:=dA g.m2;have y:=jT h.b2;have p:=fO h.sub;have u:=nT h.sub;obtain ⟨x1,Z⟩:=mJ h.sub;have G:=acZ h C r;obtain ⟨L,J⟩:=mP G;have T:=aY h.gl;have R:=aY h.gr;have U:=aY C.gl;obtain ⟨_,_,Y,X,_⟩:=vZ g.c1;obtain ⟨I,H⟩:=A4 g.c1;have z:=xF r;have D:bK a b o=j4 a.right.j o.j (Jj a) o.left:=if_pos r;rw [<- D] at I H;have W:s.x.left.j=zZ a b o (bK a b o) (bW a b o):=by
   rw [v];unfold nA;rw [if_neg q];unfold lA;rw [if_pos w];rfl
  have m1:s.X.m.h.length=s.x.left.j.h.length:=K.S.hm.len;have m2:s.X.m.i.length=s.x.left.j.i.length:=K.S.hm.bz;rw [W] at m1 m2;have F:=jT g.m1;have E:=jT g.m2;have B:∀ x∈a.A.h,mem (bK a b o).h (iA o.left.h x)=true:=λx d=>by
   have f:=y.1 x d;rw [mem_iff,z];refine dC.2 ⟨F.1 _ (gB f.1 bZ),oM Y f.1 bZ (qM.2 ⟨f,d⟩)⟩
  have A:∀ x∈a.A.i,mem (bK a b o).i (iA o.left.i x)=true:=λx d=>by
   have f:=y.2 x d;rw [mem_iff,z];refine dC.2 ⟨F.2 _ (gB f.1 bZ),oM X f.1 bZ (qM.2 ⟨f,d⟩)⟩
  have k:∀ {l c:Xa0} {n:Nat} {e:Int},(0<=e/\e<n)->mem (aN (iJ l c) n) e=false->mem l e=true:=λ {l c n e} f j=>by
   have:e∈iJ l c:=bH λV=>by
    rw [(mem_iff _ _).2 (dC.2 ⟨f,V⟩)] at j;cases j
   obtain ⟨i,_,_,d⟩:=pS.1 this;exact (mem_iff _ _).2 (aM d)
  refine ⟨⟨⟨P,p.2.2.1,mB p.2.1,λx d=>by have:=y.1 x d;omega,B,by rw [m1];exact L,bZ,GR p.2.1 p.2.2.1 bZ,I⟩,
   ⟨O,p.2.2.2,mB u,λx d=>by have:=y.2 x d;omega,A,by rw [m2];exact J,bZ,GR u p.2.2.2 bZ,H⟩⟩,
   ⟨λe v j=>k (E.1 e v) (by rw [z] at j;exact j),λe v j=>k (E.2 e v) (by rw [z] at j;exact j)⟩,⟨K.S.ep,K.S.fc⟩,⟨N,M⟩,⟨bZ,bZ⟩,r,h,C⟩
theorem LJ {t:Types}{a b:Rule}{o:Ovl}{s:Stp26}{v:Stp26}{m:Mat}(q:wF t a b o=0)(k:s.x.ok)(n:yC t s=true)(p:s.x=nA t a b o)(f:v=uA t a s.D m) :
  SndOk s.X.m.h (bK a b o).h o.left.h o.right.h v.Q.h v.M.h/\SndOk s.X.m.i (bK a b o).i o.left.i o.right.i v.Q.i v.M.i:=by
 obtain ⟨⟨y,x⟩,⟨w,u⟩,⟨h,g⟩,⟨B,A⟩,⟨j,i⟩,_⟩:=Jb q k n p;have z:v.Q.h.length=s.D.j.h.length/\v.Q.i.length=s.D.j.i.length:=by
  rw [f];exact ⟨kD _ _,kD _ _⟩
 have C:v.M.h.length=a.right.j.h.length/\v.M.i.length=a.right.j.i.length:=by
  rw [f];exact ⟨by show (B5 _ _ _ _ _).length=_;simp [B5],by show (B5 _ _ _ _ _).length=_;simp [B5]⟩
 refine ⟨⟨λe _ c=>?_,w,bZ,j⟩,⟨λe _ c=>?_,u,bZ,i⟩⟩
 .obtain ⟨d,r⟩:=Sh c;have:=y.ml;have:=h _ (gB (l:=s.X.m.h) d bZ);exact ⟨bZ,bZ,bZ⟩
 .obtain ⟨d,r⟩:=Sh c;have:=x.ml;have:=g _ (gB (l:=s.X.m.i) d bZ);exact ⟨bZ,bZ,bZ⟩
theorem Vd {m d b keep a:Xa0}{n i:Nat}(h:FstOk m d b keep a n)(g:mem keep i=true) :
  ∃ (c:(gS keep i).toNat<a.length) (f:(a[(gS keep i).toNat]).toNat<b.length) (e:(gS d b[(a[(gS keep i).toNat]).toNat]).toNat<m.length),
   0<=gS keep i/\0<=a[(gS keep i).toNat]/\0<=gS d b[(a[(gS keep i).toNat]).toNat]/\JZ m d b keep a i=m[(gS d b[(a[(gS keep i).toNat]).toNat]).toNat]:=by
 obtain ⟨q,s,_⟩:=qN g;have c:(gS keep i).toNat<a.length:=by have:=h.kl;omega
 have l:=h.eo _ (aC c);have f:(a[(gS keep i).toNat]).toNat<b.length:=bZ;have j:=h.bm _ (aC c);have k:iA b a[(gS keep i).toNat]=b[(a[(gS keep i).toNat]).toNat]:=by unfold iA;rw [aA f];rfl
 rw [k] at j;obtain ⟨p,r,_⟩:=qN j;have e:(gS d b[(a[(gS keep i).toNat]).toNat]).toNat<m.length:=by have:=h.ml;omega
 refine ⟨c,f,e,q,l.1,p,?_⟩;have o:iA a (gS keep i)=a[(gS keep i).toNat]:=by unfold iA;rw [aA c];rfl
 unfold JZ;rw [if_pos g,o,k];unfold iA;rw [aA e];rfl
theorem Ve {m d a keep b:Xa0}{n i g:Nat}(h:FstOk m d a keep b n)(f:i<n)(c:mem keep i=false)(e:g=d.length+(aN keep i).length) :
  ∃ h1:g<m.length,JZ m d a keep b i=m[g]/\g+1=d.length+(aN keep (i+1)).length:=by
 have j:(aN keep (i+1)).length=(aN keep i).length+1:=by rw [jG];simp [c]
 have k:=Mz keep (bZ:i+1<=n);have h1:g<m.length:=by have:=h.ml;omega
 refine ⟨h1,?_,bZ⟩;unfold JZ;rw [if_neg (by rw [c];simp),<- e];exact lX h1
theorem Vc {keep:Xa0}{i:Nat}(a:mem keep i=true):aN keep (i+1)=aN keep i:=by rw [jG];simp [a]
theorem Y4 {m d b keep a:Xa0}{n k:Nat}(h:FstOk m d b keep a n)(i:k<keep.length) :
  ∃ (c:k<a.length) (g:a[k].toNat<b.length) (f:(gS d b[a[k].toNat]).toNat<m.length),
   (0<=keep[k]/\keep[k].toNat<n)/\0<=a[k]/\0<=gS d b[a[k].toNat]/\(iA keep k,iA m (gS d (iA b (iA a k))))=(keep[k],m[(gS d b[a[k].toNat]).toNat]):=by
 have c:k<a.length:=by have:=h.kl;omega
 have o:=h.eo _ (aC c);have g:a[k].toNat<b.length:=bZ;have j:=h.bm _ (aC c);have l:iA b a[k]=b[a[k].toNat]:=by unfold iA;rw [aA g];rfl
 rw [l] at j;obtain ⟨p,q,_⟩:=qN j;have f:(gS d b[a[k].toNat]).toNat<m.length:=by have:=h.ml;omega
 have e:=h.kn _ (aC i);refine ⟨c,g,f,⟨e.1,bZ⟩,o.1,p,Prod.ext (lX i) ?_⟩;show iA m (gS d (iA b (iA a k)))=_;rw [lX c,l];unfold iA;rw [aA f];rfl
theorem Y3 {m d a keep b O:Xa0}{n k:Nat}(h:FstOk m d a keep b n)(c:O=aN keep n)(e:k<O.length) :
  ∃ h1:d.length+k<m.length,(0<=O[k]/\O[k].toNat<n)/\(iA (aN keep n) k,iA m ((d.length+k:Nat):Int))=(O[k],m[d.length+k]):=by
 have h1:d.length+k<m.length:=by have:=h.ml;rw [<- c] at this;omega
 have f:0<=O[k]/\O[k]<n:=(dC.1 (show O[k]∈aN keep n by rw [<- c];exact aC e)).1;exact ⟨h1,⟨f.1,bZ⟩,by rw [<- c,lX e,lX h1]⟩
theorem Ur {m d f c b g:Xa0}{e:Int}(h:SndOk m d f c b g)(o:e∈c)(i:mem d e=true) :
  ∃ (q:(gS d e).toNat<m.length) (j:(m[(gS d e).toNat]).toNat<b.length),0<=gS d e/\0<=m[(gS d e).toNat]/\Eo m d f b g e=b[(m[(gS d e).toNat]).toNat]:=by
 obtain ⟨n,l,p⟩:=h.a e o i;have k:iA m (gS d e)=m[(gS d e).toNat]:=by unfold iA;rw [aA n];rfl
 rw [k] at l p;have j:(m[(gS d e).toNat]).toNat<b.length:=bZ;refine ⟨n,j,(qN i).1,l,?_⟩;unfold Eo;rw [if_pos i,k];unfold iA;rw [aA j];rfl
theorem RM {m d a g f i:Xa0}{e:Int}(h:SndOk m d a g f i)(k:e∈g)(j:mem d e=false) :
  ∃ h1:(gS a e).toNat<i.length,0<=gS a e/\Eo m d a f i e=i[(gS a e).toNat]:=by
 obtain ⟨l,n,_⟩:=qN (h.b e k j);have h1:(gS a e).toNat<i.length:=by have:=h.c;omega
 refine ⟨h1,l,?_⟩;unfold Eo;rw [if_neg (by rw [j];simp)];unfold iA;rw [aA h1];rfl
theorem Ft (m d a keep b:Xa0)(n:Nat)(h:FstOk m d a keep b n):Pua 37 [dI n,dLI keep,dLI b,dLI a,dLI d,dLI m] (dLI (BD m d a keep b n)):=by
 have G:=h.nn;have I:=h.dl;refine Tz.pK ⟨λt=>t==13,λ_=>[]⟩ func37 rfl (λQ J=>?_);have Y:=trivial;refine wp (h:=bC (λi e H=>∃ g:Nat,∃ k:Xa0,(e 0=dI n/\e 1=dLI keep/\e 2=dLI b/\e 3=dLI a/\e 4=dLI d/\e 5=dLI m/\e 13=.own 0 k.length/\e 14=dI g/\e 15=dI i)/\(H.get 0=some ⟨3,1,k.map cI,false⟩)/\(0<H.next)/\(i<=n)/\(g=d.length+(aN keep i).length)/\(k=BD m d a keep b i)/\(k.length=i)) (λi=>n - i) 0 ⟨d.length,([]),wg,wn,wn,wi,(by simp [aN]),(by rfl),(by rfl)⟩ λR q i e H y=>?_);obtain ⟨g,k,L,s,p,P,B,v,E⟩:=y;have Y:=xa2 Y L s (bP p);refine c8 (λA=>?_) λA=>?_
 .have hF:=TM m d a keep b i;have F:=dJ keep i;have Y:=wa Y A;refine wv (h:=aB (iP keep i) wl ?_);refine c8 (λK=>?_) λK=>?_
  .have hm7:mem keep i=true:=by simp [mem];omega
   obtain ⟨u,D,C,O,N,M,w⟩:=Vd h hm7;obtain ⟨r,f⟩:∃ x,x=g:=⟨_,rfl⟩;have l:r=d.length+(aN keep (i+1)).length:=by rw [f,Vc hm7];exact B
   obtain ⟨o,c⟩:∃ x,x=k++[m[(gS d a[(b[(gS keep i).toNat]).toNat]).toNat]]:=⟨_,rfl⟩;have j:o=BD m d a keep b (i+1):=by rw [c,hF,w,<- v]
   have Y:=xa4 Y c f (aA u) (aA D) (aA C);refine wp (h:=aB (iP d a[(b[(gS keep i).toNat]).toNat]) wl ?_);exact wp (h:=wx q (i+1) ⟨r,o,wg,wn,wn,wj,(by exact l),(by exact j),(by rw [j,DE])⟩)
  .have hm7:mem keep i=false:=by rw [aW];simp [mem];omega
   obtain ⟨u,w,z⟩:=Ve h A hm7 B;obtain ⟨r,f⟩:∃ x,x=g+1:=⟨_,rfl⟩;have l:r=d.length+(aN keep (i+1)).length:=by rw [f];exact z
   obtain ⟨o,c⟩:∃ x,x=k++[m[g]]:=⟨_,rfl⟩;have j:o=BD m d a keep b (i+1):=by rw [c,hF,w,<- v]
   have Y:=xa2 Y c f (aA u);exact wp (h:=wx q (i+1) ⟨r,o,wg,wn,wn,wj,(by exact l),(by exact j),(by rw [j,DE])⟩)
 .have hI:i=n:=bZ;subst hI;exact wv (h:=J _ _ (by simp [go_sem,Y,v]))
theorem C4 (m d c a b f:Xa0)(h:SndOk m d c a b f):Pua 38 [dLI a,dLI c,dLI d,dLI m,dLI b,dLI f] (dLI (SZ m d c a b f)):=by
 have I:=h.l;refine Tz.pK ⟨λt=>t==13,λ_=>[]⟩ func38 rfl (λQ D=>?_);have Y:=trivial;refine wv (h:=bC (λi e H=>∃ k:Xa0,(e 0=dLI a/\e 1=dLI c/\e 2=dLI d/\e 3=dLI m/\e 4=dLI b/\e 5=dLI f/\e 13=.own 0 k.length/\e 14=dI i)/\(H.get 0=some ⟨3,1,k.map cI,false⟩)/\(0<H.next)/\(i<=a.length)/\(k.length=i)/\(k=(a.take i).map (Eo m d c b f))) (λi=>a.length - i) 0 ⟨([]),wg,wn,wn,wi,(by rfl),(by rfl)⟩ λK p i e H w=>?_);obtain ⟨k,F,r,o,J,B,u⟩:=w;have Y:=xa2 Y F r (bP o);refine kI (λq=>?_) λq=>?_
 .have hr3:=aC q;have y:=dB (Eo m d c b f) q;have Y:=xa1 Y q (aA q);refine wp (h:=aB (iP d a[i]) wl ?_);refine kI (λE=>?_) λE=>?_
  .have hm6:mem d a[i]=true:=by simp [mem];omega
   obtain ⟨s,A,z,G,v⟩:=Ur h hr3 hm6;obtain ⟨n,g⟩:∃ x,x=k++[b[(m[(gS d a[i]).toNat]).toNat]]:=⟨_,rfl⟩;have j:n=(a.take (i+1)).map (Eo m d c b f):=by rw [g,y,v,<- u]
   have Y:=xa2 Y g (aA s) (aA A);exact wp (h:=wx p (i+1) ⟨n,wg,wn,wn,wj,(by rw [j];simp;omega),(by exact j)⟩)
  .have hm6:mem d a[i]=false:=by rw [aW];simp [mem];omega
   obtain ⟨s,z,v⟩:=RM h hr3 hm6;obtain ⟨n,g⟩:∃ x,x=k++[f[(gS c a[i]).toNat]]:=⟨_,rfl⟩;have j:n=(a.take (i+1)).map (Eo m d c b f):=by rw [g,y,v,<- u]
   have Y:=xa1 Y g (aA s);refine wp (h:=aB (iP c a[i]) wl ?_);exact wp (h:=wx p (i+1) ⟨n,wg,wn,wn,wj,(by rw [j];simp;omega),(by exact j)⟩)
 .refine wv (h:=?_);have C:SZ m d c a b f=k:=by rw [u,dV _ bZ];rfl
  exact D _ _ (by simp [go_sem,Y,C])
theorem rD (m d left keep into:Xa0)(n:Nat)(h:FstOk m d left keep into n):Pua 30 [dLI m,dLI d,dLI left,dLI keep,dLI into,dI n] (dLI (BD m d left keep into n)):=by
 have hnn:=h.nn
 have hdl:=h.dl
 have hkk:=h.kk
 have cO:=iN keep n bZ
 have hOl:=dJ keep n
 obtain ⟨O,hO⟩:=fH (aN keep n)
 rw [<- hO] at cO hOl
 refine Tz.pK ⟨λt=>t==13,λ_=>[]⟩ func30 rfl (λQ hQ=>?_)
 try simp [go_sem,seval]
 repeat first|intro _|refine ⟨gX,?_⟩
 obtain ⟨I0,hI0⟩:∃ I0:Nat->d7->AHeap->Prop,∀ (k:Nat) (e:d7) (H:AHeap),I0 k e H↔(∃ xs:Xa0,(e 0=dLI m)/\(e 1=dLI d)/\(e 2=dLI left)/\(e 3=dLI keep)/\(e 4=dLI into)/\(e 5=dI n)/\(e 13=.own 0 n)/\(e 20=dLI keep)/\(e 21=dI keep.length)/\(e 22=dI k)/\(H.get 0=some ⟨3,1,xs.map cI,false⟩)/\(0<H.next)/\(k<=keep.length)/\(xs=jR (Y5 m d left keep into k) (List.replicate n 0))/\(xs.length=n)):=⟨λk e H=>_,λ_ _ _=>Iff.rfl⟩
 refine uJ I0 (λk=>keep.length - k) (0) ((hI0 _ _ _).2 ⟨((List.replicate n 0)),?_,?_,?_,?_,?_,?_,?_,?_,?_,?_,?_,?_,(by first|assumption|omega|(simp [go_sem];done)|(simp_all;done)),(by rfl),(by simp)⟩) ?_
 iterate 12 (first|omega|(simp [go_sem,seval]<;>omega))
 intro k e H hi0
 obtain ⟨xs,q0_0,q1_0,q2_0,q3_0,q4_0,q5_0,q13_0,q20_0,q21_0,q22_0,g0_0,n0_0,hk,hx,hxl⟩:=(hI0 _ _ _).1 hi0
 have x0:=bP n0_0
 have F0:=xb0 q0_0 q1_0 q2_0 q3_0 q4_0 q5_0 q13_0 q20_0 q21_0 q22_0 g0_0 x0
 try simp [go_sem,seval,F0]
 refine bA (λh3=>?_) (λh3=>?_)
 .try simp [go_sem] at h3
  obtain ⟨q1,q2,q3,⟨z0,z1⟩,z2,z3,hv⟩:=Y4 h h3
  have hks:keep[k].toNat<xs.length:=bZ
  obtain ⟨ys,hys'⟩:∃ x,x=xs.set keep[k].toNat m[(gS d left[into[k].toNat]).toNat]:=⟨_,rfl⟩
  have hys:ys=jR (Y5 m d left keep into (k+1)) (List.replicate n 0):=by rw [hys',Vg,pF,hv,<- hx]
  try simp [go_sem,seval,F0,h3,hys',hxl,bJ,aA h3,aA hks,aA q1,aA q2,aA q3]
  repeat first|intro _|refine ⟨gX,?_⟩
  refine aB (oL d left[into[k].toNat]) ((by first|rfl|(simp [go_sem,<- List.map_take,<- List.map_drop,F0,h3,hys',hxl,bJ,aA h3,aA hks,aA q1,aA q2,aA q3];done))) ?_
  try simp [go_sem,seval,F0,h3,hys',hxl,bJ,aA h3,aA hks,aA q1,aA q2,aA q3]
  repeat first|intro _|refine ⟨gX,?_⟩
  refine g9 (k+1) bZ ((hI0 _ _ _).2 ⟨(ys),?_,?_,?_,?_,?_,?_,?_,?_,?_,?_,?_,?_,(by first|assumption|omega|(simp [go_sem,F0,h3,hys',hxl,bJ,aA h3,aA hks,aA q1,aA q2,aA q3];done)|(simp_all<;>omega)),(by exact hys),(by rw [hys,jQ,fA])⟩)<;>first|omega|(simp [go_sem,seval,F0,h3,hys',hxl,bJ,aA h3,aA hks,aA q1,aA q2,aA q3]<;>omega)
 .try simp [go_sem] at h3
  have hX:xs=jR (Y5 m d left keep into keep.length) (List.replicate n 0):=by rw [hx,(bZ:k=keep.length)]
  try simp [go_sem,seval,F0]
  repeat first|intro _|refine ⟨gX,?_⟩
  refine aB (cO) ((by first|rfl|(simp [go_sem,<- List.map_take,<- List.map_drop,F0];done))) ?_
  try simp [go_sem,seval,F0]
  repeat first|intro _|refine ⟨gX,?_⟩
  obtain ⟨I2,hI2⟩:∃ I2:Nat->d7->AHeap->Prop,∀ (k:Nat) (e:d7) (H:AHeap),I2 k e H↔(∃ zs:Xa0,(e 0=dLI m)/\(e 1=dLI d)/\(e 2=dLI left)/\(e 3=dLI keep)/\(e 4=dLI into)/\(e 5=dI n)/\(e 13=.own 0 n)/\(e 45=dLI O)/\(e 46=dI O.length)/\(e 47=dI k)/\(H.get 0=some ⟨3,1,zs.map cI,false⟩)/\(0<H.next)/\(k<=O.length)/\(zs=jR (fsQ m d keep n k) xs)/\(zs.length=n)):=⟨λk e H=>_,λ_ _ _=>Iff.rfl⟩
  refine uJ I2 (λk=>O.length - k) (0) ((hI2 _ _ _).2 ⟨(xs),?_,?_,?_,?_,?_,?_,?_,?_,?_,?_,(by simp [go_sem,F0]),?_,(by first|assumption|omega|(simp [go_sem,F0];done)|(simp_all;done)),(by rfl),(by exact hxl)⟩) ?_
  iterate 11 (first|omega|(simp [go_sem,seval,F0]<;>omega))
  intro k e H hi2
  obtain ⟨zs,q0_2,q1_2,q2_2,q3_2,q4_2,q5_2,q13_2,q45_2,q46_2,q47_2,g0_2,n0_2,hk,hy,hyl⟩:=(hI2 _ _ _).1 hi2
  have x0:=bP n0_2
  have F2:=xa9 q0_2 q1_2 q2_2 q3_2 q4_2 q5_2 q13_2 q45_2 q46_2 q47_2 x0
  try simp [go_sem,seval,F2,g0_2]
  refine bA (λh8=>?_) (λh8=>?_)
  .try simp [go_sem] at h8
   obtain ⟨q1,⟨z0,z1⟩,hv⟩:=Y3 h hO h8
   have hks:O[k].toNat<zs.length:=bZ
   have hdk:((d.length:Int)+(k:Int)).toNat=d.length+k:=bZ
   have hdk2:((k:Int)+(d.length:Int)).toNat=d.length+k:=bZ
   obtain ⟨ys,hys'⟩:∃ x,x=zs.set O[k].toNat m[d.length+k]:=⟨_,rfl⟩
   have hys:ys=jR (fsQ m d keep n (k+1)) xs:=by rw [hys',Vf,pF,hv,<- hy]
   try simp [go_sem,seval,F2,g0_2,h8,hys',hyl,hdk,hdk2,bJ,aA h8,aA hks,aA q1]
   repeat first|intro _|refine ⟨gX,?_⟩
   refine g9 (k+1) bZ ((hI2 _ _ _).2 ⟨(ys),?_,?_,?_,?_,?_,?_,?_,?_,?_,?_,(by simp [go_sem,F2,g0_2,h8,hys',hyl,hdk,hdk2,bJ,aA h8,aA hks,aA q1]),?_,(by first|assumption|omega|(simp [go_sem,F2,g0_2,h8,hys',hyl,hdk,hdk2,bJ,aA h8,aA hks,aA q1,h3];done)|(simp_all<;>omega)),(by exact hys),(by rw [hys,jQ];exact hxl)⟩)<;>first|omega|(simp [go_sem,seval,F2,g0_2,h8,hys',hyl,hdk,hdk2,bJ,aA h8,aA hks,aA q1]<;>omega)
  .try simp [go_sem] at h8
   have hE:zs=BD m d left keep into n:=by rw [hy,(bZ:k=O.length),hO,hX];exact Y6 h
   have hEl:=DE m d left keep into n
   rw [hE] at g0_2
   try simp [go_sem,seval,F2,g0_2,g0_2]
   exact hQ _ _ (by first|(left;(simp [go_sem,F2,g0_2,g0_2,hEl,dLI]);done)|(right;(simp [go_sem,F2,g0_2,g0_2,hEl,dLI]);done))
theorem qV (m d c a b f:Xa0)(h:SndOk m d c a b f):Pua 31 [dLI m,dLI d,dLI c,dLI a,dLI b,dLI f] (dLI (SZ m d c a b f)):=by
 have I:=h.l;refine Tz.pK ⟨λt=>t==13,λ_=>[]⟩ func31 rfl (λQ D=>?_);have Y:=trivial;refine wp (h:=bC (λi e H=>∃ k:Xa0,(e 0=dLI m/\e 1=dLI d/\e 2=dLI c/\e 4=dLI b/\e 5=dLI f/\e 17=dLI a/\e 18=dI a.length/\e 13=.own 0 k.length/\e 19=dI i)/\(H.get 0=some ⟨3,1,k.map cI,false⟩)/\(0<H.next)/\(i<=a.length)/\(k.length=i)/\(k=(a.take i).map (Eo m d c b f))) (λi=>a.length - i) 0 ⟨([]),wg,wn,wn,wi,(by rfl),(by rfl)⟩ λK p i e H w=>?_);obtain ⟨k,F,r,o,J,B,u⟩:=w;have Y:=xa2 Y F r (bP o);refine c8 (λq=>?_) λq=>?_
 .have hr3:=aC q;have y:=dB (Eo m d c b f) q;have Y:=xa1 Y q (aA q);refine wp (h:=aB (oL d a[i]) wl ?_);refine kI (λE=>?_) λE=>?_
  .have hm6:mem d a[i]=true:=by simp [mem];omega
   obtain ⟨s,A,z,G,v⟩:=Ur h hr3 hm6;obtain ⟨n,g⟩:∃ x,x=k++[b[(m[(gS d a[i]).toNat]).toNat]]:=⟨_,rfl⟩;have j:n=(a.take (i+1)).map (Eo m d c b f):=by rw [g,y,v,<- u]
   have Y:=xa2 Y g (aA s) (aA A);exact wp (h:=wx p (i+1) ⟨n,wg,wn,wn,wj,(by rw [j];simp;omega),(by exact j)⟩)
  .have hm6:mem d a[i]=false:=by rw [aW];simp [mem];omega
   obtain ⟨s,z,v⟩:=RM h hr3 hm6;obtain ⟨n,g⟩:∃ x,x=k++[f[(gS c a[i]).toNat]]:=⟨_,rfl⟩;have j:n=(a.take (i+1)).map (Eo m d c b f):=by rw [g,y,v,<- u]
   have Y:=xa1 Y g (aA s);refine wp (h:=aB (oL c a[i]) wl ?_);exact wp (h:=wx p (i+1) ⟨n,wg,wn,wn,wj,(by rw [j];simp;omega),(by exact j)⟩)
 .refine wv (h:=?_);have C:SZ m d c a b f=k:=by rw [u,dV _ bZ];rfl
  exact D _ _ (by simp [go_sem,Y,C])
def Ud (a b:Rule)(o:Ovl)(s:Stp26):Part:=⟨BD s.X.m.h (bK a b o).h o.left.h a.u.h a.A.h a.left.j.h.length,BD s.X.m.i (bK a b o).i o.left.i a.u.i a.A.i a.left.j.i.length⟩
def V8 (a b:Rule)(o:Ovl)(s v:Stp26):Part:=⟨SZ s.X.m.h (bK a b o).h o.left.h o.right.h v.Q.h v.M.h,SZ s.X.m.i (bK a b o).i o.left.i o.right.i v.Q.i v.M.i⟩
def Xh (t:Types)(a b:Rule)(o:Ovl)(s:Stp26):Stp26:=g7 t a s.D ⟨Ud a b o s,[]⟩
def anF (t:Types)(a b:Rule)(o:Ovl)(s:Stp26):Int:=oB t a s.D ⟨Ud a b o s,[]⟩
def anT (t:Types)(a b:Rule)(o:Ovl)(s:Stp26):Stp26:=g7 t b (Xh t a b o s).after ⟨V8 a b o s (Xh t a b o s),[]⟩
def anG (t:Types)(a b:Rule)(o:Ovl)(s:Stp26):Int:=oB t b (Xh t a b o s).after ⟨V8 a b o s (Xh t a b o s),[]⟩
def Xi (t:Types)(a b:Rule)(o:Ovl)(s:Stp26):Int :=
 if wF t a b o≠0 then wF t a b o else if yC t s=false then 1 else if s.x≠nA t a b o then 11 else if anF t a b o s≠0 then anF t a b o s else anG t a b o s
def Xk (t:Types)(a b:Rule)(o:Ovl)(s:Stp26):Stp26:=if Xi t a b o s=0 then Xh t a b o s else gW
def Xj (t:Types)(a b:Rule)(o:Ovl)(s:Stp26):Stp26:=if Xi t a b o s=0 then anT t a b o s else gW
theorem CB (t:Types)(X:t.ok)(a b:Rule)(o:Ovl)(s:Stp26)(ha:a.ok)(hb:b.ok)(a1:a.aq)(a0:b.aq)(hr:s.x.ok) :
  Pua 9 [t.d,a.d,b.d,o.d,.agg s.c] (.tup [.agg (Xk t a b o s).c,.agg (Xj t a b o s).c,dI (Xi t a b o s)]):=by
 have cR:=sW t X a b o ha hb a1 a0;have K:=pB a b o ha hb;have cK:=Ah t X s hr rfl rfl;obtain ⟨B,W⟩:=fH (yC t s);have V:(decide (oB t s.x s.D s.X=0)&&decide (g7 t s.x s.D s.X=s))=B:=W.symm;rw [V] at cK;obtain ⟨R,hR⟩:=fH (nA t a b o);obtain ⟨E,hE⟩:=fH (wF t a b o);obtain ⟨d,M⟩:=fH (bK a b o);obtain ⟨f,hf⟩:=fH (bW a b o);obtain ⟨x,z⟩:∃ e,e=anF t a b o s:=⟨_,rfl⟩;obtain ⟨O,H⟩:∃ e,e=anG t a b o s:=⟨_,rfl⟩;obtain ⟨v,L⟩:=fH (Xh t a b o s);obtain ⟨w,hw⟩:=fH (anT t a b o s);obtain ⟨Z,T⟩:=fH (Xi t a b o s);have p:Z=if E≠0 then E else if B=false then 1 else if s.x≠R then 11 else if x≠0 then x else O:=by rw [T,hE,W,hR,z,H];rfl
 have z1:¬ E=0->Z=E:=λh=>by rw [p,if_pos h]
 have z2:E=0->B=false->Z=1:=λi g=>by rw [p,if_neg (λq=>q i),if_pos g]
 have z3:E=0->B=true->¬ s.x=R->Z=11:=λi g j=>by rw [p,if_neg (λq=>q i),if_neg (by rw [g];simp),if_pos j]
 have z4:E=0->B=true->s.x=R->¬ x=0->Z=x:=λi g j u=>by rw [p,if_neg (λq=>q i),if_neg (by rw [g];simp),if_neg (λq=>q j),if_pos u]
 have z5:E=0->B=true->s.x=R->x=0->Z=O:=λi g j u=>by rw [p,if_neg (λq=>q i),if_neg (by rw [g];simp),if_neg (λq=>q j),if_neg (λq=>q u)]
 clear p;have hA:Xk t a b o s=if Z=0 then v else gW:=by rw [T,L];rfl
 have U:Xj t a b o s=if Z=0 then w else gW:=by rw [T,hw];rfl
 have n:E=0->B=true->s.x=R->_:=λi g j=>Jb (t:=t) (a:=a) (b:=b) (o:=o) (s:=s) (by rw [<- hE];exact i) hr (by rw [<- W];exact g) (by rw [<- hR];exact j);have cG:E=0->B=true->s.x=R->Pua 28 [a.d,b.d,o.d] (.tup [Glued.dd ⟨a,b,o,d,f⟩,dI 0]):=λi g j=>by
  obtain ⟨_,_,_,_,_,hp,S,P⟩:=n i g j;rw [xS S P hp,xT S P,hp,<- M,<- hf] at K;exact K
 obtain ⟨m1,G⟩:∃ m,m=(Ud a b o s).h:=⟨_,rfl⟩;obtain ⟨m2,F⟩:∃ m,m=(Ud a b o s).i:=⟨_,rfl⟩;obtain ⟨n1,D⟩:∃ m,m=(V8 a b o s v).h:=⟨_,rfl⟩;obtain ⟨n2,C⟩:∃ m,m=(V8 a b o s v).i:=⟨_,rfl⟩;have a5:E=0->B=true->s.x=R->Pua 30 [dLI s.X.m.h,dLI d.h,dLI o.left.h,dLI a.u.h,dLI a.A.h,dI a.left.j.h.length] (dLI m1):=λi g j=>by
  rw [G,M];exact rD _ _ _ _ _ _ (n i g j).1.1
 have a4:E=0->B=true->s.x=R->Pua 30 [dLI s.X.m.i,dLI d.i,dLI o.left.i,dLI a.u.i,dLI a.A.i,dI a.left.j.i.length] (dLI m2):=λi g j=>by
  rw [F,M];exact rD _ _ _ _ _ _ (n i g j).1.2
 have A:E=0->B=true->s.x=R->x=0->_:=λi g j u=>LJ (t:=t) (a:=a) (b:=b) (o:=o) (s:=s) (v:=v) (m:=⟨Ud a b o s,[]⟩) (by rw [<- hE];exact i) hr (by rw [<- W];exact g) (by rw [<- hR];exact j) (by rw [L];unfold Xh g7;rw [if_pos (by rw [<- u,z];rfl)]);have a3:E=0->B=true->s.x=R->x=0->Pua 31 [dLI s.X.m.h,dLI d.h,dLI o.left.h,dLI o.right.h,dLI v.Q.h,dLI v.M.h] (dLI n1):=λi g j u=>by
  rw [D,M];exact qV _ _ _ _ _ _ (A i g j u).1
 have a2:E=0->B=true->s.x=R->x=0->Pua 31 [dLI s.X.m.i,dLI d.i,dLI o.left.i,dLI o.right.i,dLI v.Q.i,dLI v.M.i] (dLI n2):=λi g j u=>by
  rw [C,M];exact qV _ _ _ _ _ _ (A i g j u).2
 have l:=(tA t X a ha s.D ⟨Ud a b o s,[]⟩ (v:=v) (e:=x) L z);have k:=(tA t X b hb v.after ⟨V8 a b o s v,[]⟩ (v:=w) (e:=O) (by rw [hw,L];rfl) (by rw [H,L];rfl));rw [show (⟨Ud a b o s,[]⟩:Mat)=⟨⟨m1,m2⟩,[]⟩ by rw [G,F]] at l;rw [show (⟨V8 a b o s v,[]⟩:Mat)=⟨⟨n1,n2⟩,[]⟩ by rw [D,C]] at k;have l:=l.de (Kp t a s.D m1 m2);have k:=k.de (Kp t b v.after n1 n2);have cS:=Hl s.x R;rw [<- hR,<- hE] at cR;rw [hA,U,<- T];simp only [Stp26.c,Rule.c,Mat.c,Host.c,dP,dS] at cK l k;unfold Rule.d Host.d at l k;simp only [Rule.c,Host.c] at l k;clear hA U T L hw z H n A G F D C W V M hf K;refine Tz.pK ⟨λt=>t==10||t==11||t==13||t==15||t==16||t==17||t==18,λr=>match r with|12=>[(0,50),(1,50),(2,50),(3,50),(4,50),(5,50),(6,50),(7,50),(8,50),(9,50),(10,50),(11,50),(12,50),(13,50),(14,50),(15,50),(16,50),(17,50),(18,50),(19,50),(20,50),(21,50),(22,50),(23,50),(24,50),(25,50),(26,50),(27,50),(28,50),(29,50),(30,50),(31,50),(32,50),(33,50),(34,50),(35,50),(36,50),(37,50),(38,50),(39,50),(40,50),(41,50),(42,50),(43,50),(46,50)]|15=>[(0,46),(1,46),(2,46),(3,46),(4,46),(5,46),(6,46),(7,46),(8,46),(9,46),(10,46),(11,46),(12,46),(13,46),(14,46),(15,46),(16,46),(17,46),(18,46),(19,46),(20,46),(21,46),(22,46),(23,46),(24,46),(25,46),(26,46),(27,46),(28,46),(29,46),(30,46),(31,46),(32,46),(33,46),(34,46),(35,46),(36,46),(37,46),(38,46),(39,46),(42,46)]|18=>[(1,2)]|_=>[]⟩ func9 rfl (λQ N=>?_);have Y:=xa8 @Stp26.c.eq_1 @Rule.c.eq_1 @Mat.c.eq_1 @Host.c.eq_1 @Ovl.d.eq_1 @Ovl.c.eq_1 @Part.c.eq_1 @Part.d.eq_1 @Glued.dd.eq_1 @Glued.c.eq_1;refine lZ (h:=aB (cR) wl ?_);refine lZ (h:=wq (λg=>?_) λg=>?_)
 .have hne:¬ E=0:=by simpa using g
  have y:Z=E:=z1 hne;exact lZ (h:=N _ _ (by simp [go_sem,y,hne,gW,eM,mL,fZ,Stp26.c,Rule.c,Mat.c,Host.c,Cond.F,Cond.w,Cond.map,Cond.n,dLI,dI]))
 .have hg1:E=0:=by simpa using g
  refine oP (h:=aB (cK) wl ?_);refine oP (h:=wq (λu=>?_) λu=>?_)
  .have y:Z=1:=z2 hg1 (eL u);exact lZ (h:=N _ _ (by simp [go_sem,y,gW,eM,mL,fZ,Stp26.c,Rule.c,Mat.c,Host.c,Cond.F,Cond.w,Cond.map,Cond.n,dLI,dI]))
  .have hg2:B=true:=by simpa using u
   refine oP (h:=aB (cS) wl ?_);refine oP (h:=wq (λh6=>?_) λh6=>?_)
   .have y:Z=11:=z3 hg1 hg2 (eL h6);exact lZ (h:=N _ _ (by simp [go_sem,y,gW,eM,mL,fZ,Stp26.c,Rule.c,Mat.c,Host.c,Cond.F,Cond.w,Cond.map,Cond.n,dLI,dI]))
   .have hg3:s.x=R:=by simpa using h6
    refine lZ (h:=aB (cG hg1 hg2 hg3) wl ?_);refine oP (h:=aI (a5 hg1 hg2 hg3) wl ?_);refine oP (h:=aI (a4 hg1 hg2 hg3) wl ?_);refine oP (h:=aI (l) wl ?_);refine oP (h:=wq (λJ=>?_) λJ=>?_)
    .have hne:¬ x=0:=by simpa using J
     have y:Z=x:=z4 hg1 hg2 hg3 hne;exact lZ (h:=N _ _ (by simp [go_sem,y,hne,gW,eM,mL,fZ,Stp26.c,Rule.c,Mat.c,Host.c,Cond.F,Cond.w,Cond.map,Cond.n,dLI,dI]))
    .have hg4:x=0:=by simpa using J
     refine lZ (h:=aI (a3 hg1 hg2 hg3 hg4) wl ?_);refine lZ (h:=aI (a2 hg1 hg2 hg3 hg4) wl ?_);refine lZ (h:=aI (k) wl ?_);refine lZ (h:=wq (λI=>?_) λI=>?_)
     .have hne:¬ O=0:=by simpa using I
      have y:Z=O:=z5 hg1 hg2 hg3 hg4;exact lZ (h:=N _ _ (by simp [go_sem,y,hne,gW,eM,mL,fZ,Stp26.c,Rule.c,Mat.c,Host.c,Cond.F,Cond.w,Cond.map,Cond.n,dLI,dI]))
     .have hg5:O=0:=by simpa using I
      have y:Z=0:=by rw [z5 hg1 hg2 hg3 hg4];exact hg5
      exact lZ (h:=N _ _ (by simp [go_sem,y,Stp26.c,Rule.c,Mat.c,Host.c]))
theorem JF (t:Types)(U:t.ok)(a b:Rule)(o:Ovl)(s:Stp26)(ha:a.ok)(hb:b.ok)(a1:a.aq)(a0:b.aq)(hr:s.x.ok)(hC:CmpA t s) :
  Pua 10 [t.d,a.d,b.d,o.d,.agg s.c] (.tup [.agg (Xk t a b o s).c,.agg (Xj t a b o s).c,dI (Xi t a b o s)]):=by
 have cR:=QC t U a b o ha hb a1 a0 (λi g=>w4 i g);have cP:=Fp a b o ha hb;have cK:=yW t U s hr rfl rfl hC.b hC.a;obtain ⟨B,T⟩:=fH (yC t s);have S:(decide (oB t s.x s.D s.X=0)&&decide (g7 t s.x s.D s.X=s))=B:=T.symm;rw [S] at cK;obtain ⟨R,V⟩:=fH (nA t a b o);obtain ⟨E,W⟩:=fH (wF t a b o);obtain ⟨d,L⟩:=fH (bK a b o);obtain ⟨f,hf⟩:=fH (bW a b o);obtain ⟨u,z⟩:∃ e,e=anF t a b o s:=⟨_,rfl⟩;obtain ⟨N,H⟩:∃ e,e=anG t a b o s:=⟨_,rfl⟩;obtain ⟨v,K⟩:=fH (Xh t a b o s);obtain ⟨w,hw⟩:=fH (anT t a b o s);obtain ⟨Z,O⟩:=fH (Xi t a b o s);have n:Z=if E≠0 then E else if B=false then 1 else if s.x≠R then 11 else if u≠0 then u else N:=by rw [O,W,T,V,z,H];rfl
 have z1:¬ E=0->Z=E:=λh=>by rw [n,if_pos h]
 have z2:E=0->B=false->Z=1:=λi g=>by rw [n,if_neg (λq=>q i),if_pos g]
 have z3:E=0->B=true->¬ s.x=R->Z=11:=λi g j=>by rw [n,if_neg (λq=>q i),if_neg (by rw [g];simp),if_pos j]
 have z4:E=0->B=true->s.x=R->¬ u=0->Z=u:=λi g j p=>by rw [n,if_neg (λq=>q i),if_neg (by rw [g];simp),if_neg (λq=>q j),if_pos p]
 have z5:E=0->B=true->s.x=R->u=0->Z=N:=λi g j p=>by rw [n,if_neg (λq=>q i),if_neg (by rw [g];simp),if_neg (λq=>q j),if_neg (λq=>q p)]
 clear n;have hA:Xk t a b o s=if Z=0 then v else gW:=by rw [O,K];rfl
 have P:Xj t a b o s=if Z=0 then w else gW:=by rw [O,hw];rfl
 have y:E=0->B=true->s.x=R->_:=λi g j=>Jb (t:=t) (a:=a) (b:=b) (o:=o) (s:=s) (by rw [<- W];exact i) hr (by rw [<- T];exact g) (by rw [<- V];exact j);rw [<- L,<- hf] at cP;obtain ⟨m1,G⟩:∃ m,m=(Ud a b o s).h:=⟨_,rfl⟩;obtain ⟨m2,F⟩:∃ m,m=(Ud a b o s).i:=⟨_,rfl⟩;obtain ⟨n1,D⟩:∃ m,m=(V8 a b o s v).h:=⟨_,rfl⟩;obtain ⟨X,C⟩:∃ m,m=(V8 a b o s v).i:=⟨_,rfl⟩;have a5:E=0->B=true->s.x=R->Pua 37 [dI a.left.j.h.length,dLI a.u.h,dLI a.A.h,dLI o.left.h,dLI d.h,dLI s.X.m.h] (dLI m1):=λi g j=>by
  rw [G,L];exact Ft _ _ _ _ _ _ (y i g j).1.1
 have a4:E=0->B=true->s.x=R->Pua 37 [dI a.left.j.i.length,dLI a.u.i,dLI a.A.i,dLI o.left.i,dLI d.i,dLI s.X.m.i] (dLI m2):=λi g j=>by
  rw [F,L];exact Ft _ _ _ _ _ _ (y i g j).1.2
 have A:E=0->B=true->s.x=R->u=0->_:=λi g j p=>LJ (t:=t) (a:=a) (b:=b) (o:=o) (s:=s) (v:=v) (m:=⟨Ud a b o s,[]⟩) (by rw [<- W];exact i) hr (by rw [<- T];exact g) (by rw [<- V];exact j) (by rw [K];unfold Xh g7;rw [if_pos (by rw [<- p,z];rfl)]);have a3:E=0->B=true->s.x=R->u=0->Pua 38 [dLI o.right.h,dLI o.left.h,dLI d.h,dLI s.X.m.h,dLI v.Q.h,dLI v.M.h] (dLI n1):=λi g j p=>by
  rw [D,L];exact C4 _ _ _ _ _ _ (A i g j p).1
 have a2:E=0->B=true->s.x=R->u=0->Pua 38 [dLI o.right.i,dLI o.left.i,dLI d.i,dLI s.X.m.i,dLI v.Q.i,dLI v.M.i] (dLI X):=λi g j p=>by
  rw [C,L];exact C4 _ _ _ _ _ _ (A i g j p).2
 have l:=(GS t U a ha s.D ⟨Ud a b o s,[]⟩ (v:=v) (e:=u) K z);have k:=(GS t U b hb v.after ⟨V8 a b o s v,[]⟩ (v:=w) (e:=N) (by rw [hw,K];rfl) (by rw [H,K];rfl));rw [show (⟨Ud a b o s,[]⟩:Mat)=⟨⟨m1,m2⟩,[]⟩ by rw [G,F]] at l;rw [show (⟨V8 a b o s v,[]⟩:Mat)=⟨⟨n1,X⟩,[]⟩ by rw [D,C]] at k;have l:=l.de (Kp t a s.D m1 m2);have k:=k.de (Kp t b v.after n1 X);have cS:=Fw R s.x;rw [<- V,<- W] at cR;rw [hA,P,<- O];simp only [Stp26.c,Rule.c,Mat.c,Host.c,dP,dS] at cK l k;unfold Rule.d Host.d at l k;simp only [Rule.c,Host.c] at l k;clear hA P O K hw z H y A G F D C T S L hf;refine Tz.pK ⟨λt=>t==10||t==11||t==13||t==15||t==16||t==18||t==19||t==20,λr=>match r with|10=>[(0,48),(1,48),(2,48),(3,48),(4,48),(5,48),(6,48),(7,48),(8,48),(9,48),(10,48),(11,48),(12,48),(13,48),(14,48),(15,48),(16,48),(17,48),(18,48),(19,48),(20,48),(21,48),(22,48),(23,48),(24,48),(25,48),(26,48),(27,48),(28,48),(29,48),(30,48),(31,48),(32,48),(33,48),(34,48),(35,48),(36,48),(37,48),(38,48),(39,48),(40,48),(41,48),(44,48)]|13=>[(0,44),(1,44),(2,44),(3,44),(4,44),(5,44),(6,44),(7,44),(8,44),(9,44),(10,44),(11,44),(12,44),(13,44),(14,44),(15,44),(16,44),(17,44),(18,44),(19,44),(20,44),(21,44),(22,44),(23,44),(24,44),(25,44),(26,44),(27,44),(28,44),(29,44),(30,44),(31,44),(32,44),(33,44),(34,44),(35,44),(36,44),(37,44),(40,44)]|16=>[(1,2)]|_=>[]⟩ func10 rfl (λQ M=>?_);have Y:=xa6 @Stp26.c.eq_1 @Rule.c.eq_1 @Mat.c.eq_1 @Host.c.eq_1 @Ovl.d.eq_1 @Ovl.c.eq_1 @Part.c.eq_1 @Part.d.eq_1;refine lZ (h:=aB (cR) wl ?_);refine lZ (h:=wq (λg=>?_) λg=>?_)
 .have hne:¬ E=0:=by simpa using g
  have x:Z=E:=z1 hne;exact lZ (h:=M _ _ (by simp [go_sem,x,hne,gW,eM,mL,fZ,Stp26.c,Rule.c,Mat.c,Host.c,Cond.F,Cond.w,Cond.map,Cond.n,dLI,dI]))
 .have hg1:E=0:=by simpa using g
  refine oP (h:=aB (cK) wl ?_);refine oP (h:=wq (λp=>?_) λp=>?_)
  .have x:Z=1:=z2 hg1 (eL p);exact lZ (h:=M _ _ (by simp [go_sem,x,gW,eM,mL,fZ,Stp26.c,Rule.c,Mat.c,Host.c,Cond.F,Cond.w,Cond.map,Cond.n,dLI,dI]))
  .have hg2:B=true:=by simpa using p
   refine oP (h:=aB (cS) wl ?_);refine oP (h:=wq (λh6=>?_) λh6=>?_)
   .have x:Z=11:=z3 hg1 hg2 (λq=>(show ¬ R=s.x by simpa using h6) q.symm);exact lZ (h:=M _ _ (by simp [go_sem,x,gW,eM,mL,fZ,Stp26.c,Rule.c,Mat.c,Host.c,Cond.F,Cond.w,Cond.map,Cond.n,dLI,dI]))
   .have hg3:s.x=R:=(show R=s.x by simpa using h6).symm;refine lZ (h:=aB (cP) wl ?_);refine oP (h:=aI (a5 hg1 hg2 hg3) wl ?_);refine oP (h:=aI (a4 hg1 hg2 hg3) wl ?_);refine oP (h:=aI (l) wl ?_);refine oP (h:=wq (λJ=>?_) λJ=>?_)
    .have hne:¬ u=0:=by simpa using J
     have x:Z=u:=z4 hg1 hg2 hg3 hne;exact lZ (h:=M _ _ (by simp [go_sem,x,hne,gW,eM,mL,fZ,Stp26.c,Rule.c,Mat.c,Host.c,Cond.F,Cond.w,Cond.map,Cond.n,dLI,dI]))
    .have hg4:u=0:=by simpa using J
     refine lZ (h:=aI (a3 hg1 hg2 hg3 hg4) wl ?_);refine lZ (h:=aI (a2 hg1 hg2 hg3 hg4) wl ?_);refine lZ (h:=aI (k) wl ?_);refine lZ (h:=wq (λI=>?_) λI=>?_)
     .have hne:¬ N=0:=by simpa using I
      have x:Z=N:=z5 hg1 hg2 hg3 hg4;exact lZ (h:=M _ _ (by simp [go_sem,x,hne,gW,eM,mL,fZ,Stp26.c,Rule.c,Mat.c,Host.c,Cond.F,Cond.w,Cond.map,Cond.n,dLI,dI]))
     .have hg5:N=0:=by simpa using I
      have x:Z=0:=by rw [z5 hg1 hg2 hg3 hg4];exact hg5
      exact lZ (h:=M _ _ (by simp [go_sem,x,Stp26.c,Rule.c,Mat.c,Host.c]))
structure CaseC where
 t:Types
 a:Rule
 b:Rule
def CaseC.c (x:CaseC):Xa2:=x.t.c++x.a.c++x.b.c
section
variable {H:Type} {enc:TypeId × Value→H} {w:World} {base:Nat} {spare:Nat→Bool} {held:Bool} {bulk:DataW H→Nat} {B:Nat}
theorem af7 (hB:Bulk bulk):∀ n,Opens enc prog w base spare held bulk B n 43 CaseC.c (λx=>(∀ n∈x.t.h,n.y.length<=B)/\x.a.bd B/\x.b.bd B)
 | 0=>Opens.zero
 | n+1=>(eF hB underlying43 (by kernel_rfl) (bB (abY hB n) (bB (Yv hB n) (bB (Yv hB n) (fF))))).map (λp=>⟨p.1,p.2.1,p.2.2.1⟩) (λp=>by simp [CaseC.c]) (λp h=>⟨h.1.2.2,h.2.1,h.2.2.1⟩)
theorem af6 (hB:Bulk bulk):∀ n,Opens enc prog w base spare held bulk B n 45 Ovl.c (λx=>(x.left.h.length<=B/\x.left.i.length<=B)/\(x.right.h.length<=B/\x.right.i.length<=B))
 | 0=>Opens.zero
 | n+1=>(eF hB underlying45 (by kernel_rfl) (bB (Yx hB n) (bB (QT hB n) (bB (QT hB n) (fF))))).map (λp=>⟨p.1,p.2.1,p.2.2.1⟩) (λp=>by simp [Ovl.c,Graph.c,Part.c]) (λp h=>⟨h.2.1,h.2.2.1⟩)
end
theorem xM (t:Types)(p:∀ n∈t.h,n.y.length<=1000000000000000)(a b:Rule)(L:a.le)(K:b.le)(o:Ovl)(J:o.left.le)(I:o.right.le)(s:Stp26){B:Nat}(F:B<=1000000000000000)(D:s.bd B) :
  Pua 3 [.agg (t.c++a.c++b.c),o.d,.agg s.c] (.bool true):=by
 have C:=zI t p s (Stp26.a8 F D);obtain ⟨z,y⟩:=fH (Cn t s);rw [<- y] at C;have j:mE t a=true->mE t b=true->z=true->t.ok/\(a.ok/\a.aq)/\(b.ok/\b.aq)/\s.x.ok:=λg k q=>by
  unfold mE at g k;simp only [aL] at g k;exact ⟨DG g.1.1,uN g.1.2,uN k.1.2,(Lb (by rw [<- y];exact q)).2⟩
 have H:mE t a=true->mE t b=true->z=true->Pua 9 [t.d,a.d,b.d,o.d,.agg s.c] (.tup [.agg (Xk t a b o s).c,.agg (Xj t a b o s).c,dI (Xi t a b o s)]):=λg k q=>by
  obtain ⟨A,w,r,x⟩:=j g k q;exact CB t A a b o s w.1 r.1 w.2 r.2 x
 have G:mE t a=true->mE t b=true->z=true->Pua 10 [t.d,a.d,b.d,o.d,.agg s.c] (.tup [.agg (Xk t a b o s).c,.agg (Xj t a b o s).c,dI (Xi t a b o s)]):=λg k q=>by
  obtain ⟨A,w,r,x⟩:=j g k q;exact JF t A a b o s w.1 r.1 w.2 r.2 x (M4 F D x)
 have m:=vD (Xk t a b o s) (Xk t a b o s) (λi _ _=>rR _) (λi _ _=>rR _);have l:=vD (Xj t a b o s) (Xj t a b o s) (λi _ _=>rR _) (λi _ _=>rR _);generalize Xk t a b o s=u at *;generalize Xj t a b o s=v at *;generalize Xi t a b o s=e at *;rw [show decide (u=u)=true by simp] at m;rw [show decide (v=v)=true by simp] at l;simp only [Stp26.c,Rule.c,Mat.c,Host.c,dP,dS] at C H G m l;clear y j;refine Tz.pK ⟨λt=>t==7||t==8||t==10||t==11,λ_=>[]⟩ func3 rfl (λQ E=>?_);have Y:=xa5 @Types.c.eq_1 @Rule.c.eq_1 @Ovl.d.eq_1 @Ovl.c.eq_1 @Stp26.c.eq_1 @Mat.c.eq_1 @Host.c.eq_1;refine oP (h:=aB (vN) wl ?_);refine oP (h:=aG (λf=>Q1 t p a b L K) (λf=>wl) ?_);refine oP (h:=aG (λf=>Ew o J I) (λf=>wl) ?_);refine oP (h:=aG (λf=>C) (λf=>wl) ?_);refine oP (h:=wq (λg=>?_) λg=>?_)
 .refine lZ (h:=aB (vN) wl ?_);have Y:=wa Y g;exact lZ (h:=E _ _ wy)
 .have f:mE t a=true/\mE t b=true/\z=true:=by
   revert g;cases mE t a<;>cases mE t b<;>cases Y9 o<;>cases z<;>simp
  refine lZ (h:=aB (H f.1 f.2.1 f.2.2) wl ?_);refine lZ (h:=aB (G f.1 f.2.1 f.2.2) wl ?_);refine oP (h:=aG (λf=>m) (λf=>wl) ?_);refine oP (h:=aG (λf=>l) (λf=>wl) ?_);have Y:=wa Y g;exact oP (h:=E _ _ wy)
end Go.Abs
end
section
namespace Go.Proofs.YthlnbehgghjppaaGreat.bulks
open Go.Abs
theorem one_le {H:Type}(d:DataW H):1<=Rows.uptoBulk d:=by
 cases d with
 | lit l=>cases l<;>simp [Rows.uptoBulk]
 | _=>simp [Rows.uptoBulk]
theorem mem_le {H:Type}{d:DataW H}:∀ {l:List (DataW H)},d∈l->Rows.uptoBulk d<=Rows.uptoBulkAll l
 | [],h=>by cases h
 | x :: r,h=>by
  simp only [Rows.uptoBulkAll];rcases aS.1 h with rfl|h
  .omega
  .have:=mem_le h;omega
theorem len_le {H:Type}:∀ l:List (DataW H),l.length<=Rows.uptoBulkAll l
 | []=>by simp [Rows.uptoBulkAll]
 | x :: r=>by have:=one_le x;have:=len_le r;simp only [Rows.uptoBulkAll,e9];omega
theorem ok {H:Type}:Go.Abs.Bulk (Rows.uptoBulk (H:=H)) where
 len e s:=by have:=len_le e;simp only [Rows.uptoBulk];omega
 el e s d h:=by have:=mem_le h;simp only [Rows.uptoBulk];omega
 part l d h:=by have:=mem_le h;simp only [Rows.uptoBulk];omega
 str s:=by simp [Rows.uptoBulk]
theorem bound {H:Type}{l:List (DataW H)}(hk:Rows.uptoSmall H l=true):∀ d∈l,Rows.uptoBulk d<=1048576:=λd hd=>by
 have h:=of_decide_eq_true hk;have:=mem_le hd;omega
end Go.Proofs.YthlnbehgghjppaaGreat.bulks
end
