/- Layer 32: what Compose works with: factor.Through, ahead, be -/
import Derived.Test.YthlnbehgghjppaaGreatZrAG
import Derived.Test.YthlnbehgghjppaaGreatZrAA
import Derived.Test.YthlnbehgghjppaaGreatZrAX
import Derived.Test.YthlnbehgghjppaaGreatZrAY
set_option linter.unusedVariables false
set_option linter.unusedSimpArgs false
section
set_option maxRecDepth 100000
set_option maxHeartbeats 4000000
open Go Go.Proofs Tryz
namespace Go.Abs
def nQ (h k:Xa0):Xa0:=k.map (gS h)
def Ca (h k:Xa0):Xa0:=h++k.filter λx=>!mem h x
def Qj (a b:Graph)(h k:Part):Ovl:=XI a b (nQ h.h k.h) (nQ h.i k.i)
def NJ (h k:Part):Part:=⟨Ca h.h k.h,Ca h.i k.i⟩
theorem wY (h k:Xa0):(nQ h k).length=k.length:=by simp [nQ]
theorem RL {h k:Xa0}{i:Nat}(a:i<k.length):(nQ h k)[i]?.getD 0=gS h k[i]:=by simp [nQ,a]
theorem lE {h k:Xa0}{i:Nat}(b:i<k.length):((k.take (i+1)).filter λx=>!mem h x)=((k.take i).filter λx=>!mem h x)++(if gS h k[i]<0 then [k[i]] else []):=by
 rw [rP _ b];congr 1;by_cases a:mem h k[i]=true
 .have:=(qN a).1;rw [if_neg (by rw [a];simp),if_neg bZ]
 .have hf:mem h k[i]=false:=by simpa using a
  have:gS h k[i]<0:=by simp [mem] at hf;omega
  rw [if_pos (by rw [hf];rfl),if_pos this]
theorem Pe (a b:Graph)(h k:Xa0):∀ i,i<=k.length->(o8 a b (nQ h k) i).1.length=a.h.length+((k.take i).filter λx=>!mem h x).length
 | 0,_=>by simp [o8]
 | i+1,hi=>by
  have ih:=Pe a b h k i bZ;rw [lE bZ];simp only [o8,RL (h:=h) (k:=k) (i:=i) bZ];split
  .simp;omega
  .simp;omega
theorem Pf (a b:Graph)(rn h k:Xa0):∀ i,i<=k.length->(qQ a b rn (nQ h k) i).1.length=a.i.length+((k.take i).filter λx=>!mem h x).length
 | 0,_=>by simp [qQ]
 | i+1,hi=>by
  have ih:=Pf a b rn h k i bZ;rw [lE bZ];simp only [qQ,RL (h:=h) (k:=k) (i:=i) bZ];split
  .simp;omega
  .simp;omega
theorem Wi {a b:Graph}{h k:Part}(f:h.h.length=a.h.length)(e:h.i.length=a.i.length) :
  (NJ h k).h.length=(Qj a b h k).j.h.length/\(NJ h k).i.length=(Qj a b h k).j.i.length:=by
 have d:=Pe a b h.h k.h k.h.length (bD _);have c:=Pf a b (o8 a b (nQ h.h k.h) (nQ h.h k.h).length).2 h.i k.i k.i.length (bD _);rw [uX] at d c;constructor
 .show (Ca _ _).length=(o8 a b (nQ h.h k.h) (nQ h.h k.h).length).1.length;rw [wY,d];simp [Ca];omega
 .show (Ca _ _).length=(qQ a b _ (nQ h.i k.i) (nQ h.i k.i).length).1.length;rw [wY h.i,c];simp [Ca];omega
theorem NI {h k:Xa0}{n:Nat}(h1:∀ x∈h,0<=x/\x<n)(h2:∀ x∈k,0<=x/\x<n):∀ x∈Ca h k,0<=x/\x<n:=λx hx=>by
 rcases bE.1 hx with hx|hx
 .exact h1 x hx
 .exact h2 x (f7.1 hx).1
def Jc (rest track:Xa0)(x:Int):Int:=gS track (iA rest x)
def E7 (d rest track keep mm:Xa0):Xa0:=d.map (Jc rest track)++(aN keep mm.length).map (iA mm)
def P8 (track first second:Xa0)(k:Nat):List (Int × Int):=((List.range k).filter λ(i:Nat)=>decide (0<=iA track i)).map λ(i:Nat)=>(iA track i,iA second (iA first i))
def XT (second rest:Xa0)(e:Int):Int:=iA second (iA rest e)
def Uc (second f rest into last:Xa0):Xa0:=f.map (XT second rest)++(aN into last.length).map (iA last)
def VD (com ends:Xa0)(k:Nat):List (Int × Int):=(List.range k).map λ(i:Nat)=>(iA com i,iA ends i)
def V7 (track first second com f rest into last:Xa0)(n:Nat):Xa0:=jR (VD com (Uc second f rest into last) com.length) (jR (P8 track first second track.length) (List.replicate n 0))
structure BhOk (track first second com f rest into last:Xa0) (n:Nat):Prop where
 ta:∀ i:Nat,i<track.length->0<=iA track i->iA track i<n/\i<first.length/\0<=iA first i/\iA first i<second.length
 fa:∀ e∈f,(0<=e/\e<rest.length)/\0<=iA rest e/\iA rest e<second.length
 ca:com.length=f.length+(aN into last.length).length
 cr:∀ x∈com,0<=x/\x<n
 nn:n<=1000
 fl:f.length<=1000
 ll:last.length<=1000
 tl:track.length<=1000
theorem PQ (a c b:Xa0)(k:Nat):P8 a c b (k+1)=P8 a c b k++(if 0<=iA a k then [(iA a k,iA b (iA c k))] else []):=by
 unfold P8;rw [dM,jY,List.map_append];congr 1;by_cases h:0<=iA a k
 .rw [if_pos h];simp [h]
 .rw [if_neg h];simp [h]
theorem I7 (b a:Xa0)(k:Nat):VD b a (k+1)=VD b a k++[(iA b k,iA a k)]:=by simp [VD,dM]
theorem Xe (a f d c b:Xa0):(Uc a f d c b).length=f.length+(aN c b.length).length:=by simp [Uc]
theorem SJ (b c a h f d g e:Xa0)(n:Nat):(V7 b c a h f d g e n).length=n:=by unfold V7;rw [jQ,jQ,fA]
theorem Zt {a f b d c:Xa0}{i:Nat}(h:i<f.length):iA (Uc a f b d c) i=XT a b f[i]:=by
 unfold iA Uc;rw [Int.toNat_natCast,aR (eL h),aP,aA h];rfl
theorem Zu {c f d b a:Xa0}{i:Nat}(h:i<(aN b a.length).length):iA (Uc c f d b a) ((f.length+i:Nat):Int)=iA a (aN b a.length)[i]:=by
 unfold Uc;conv=>lhs;unfold iA
 rw [Int.toNat_natCast,aX eG,bI,mC,aP,aA h];rfl
theorem Bl {l:Xa0}{k:Int}(h:k.toNat<l.length):iA l k=l[k.toNat]:=by unfold iA;rw [aA h];rfl
theorem VN {d a:Xa0}{i:Nat}(h:∀ x∈d,0<=x/\x<a.length)(b:i<d.length):∃ h1:d[i].toNat<a.length,0<=d[i]/\iA a d[i]=a[d[i].toNat]:=by
 have:=h _ (aC b);have h1:d[i].toNat<a.length:=bZ;exact ⟨h1,this.1,Bl h1⟩
theorem adJ {c a b l f d g e:Xa0}{n i:Nat}(h:BhOk c a b l f d g e n)(m:i<c.length)(o:0<=c[i]) :
  ∃ (t:i<a.length) (j:a[i].toNat<b.length),0<=a[i]/\c[i].toNat<n/\P8 c a b (i+1)=P8 c a b i++[(c[i],b[a[i].toNat])]:=by
 have k:=lX m;obtain ⟨u,r,q,s⟩:=h.ta i m (by rw [k];exact o);have p:=lX r;rw [p] at q s;have j:a[i].toNat<b.length:=bZ;refine ⟨r,j,q,bZ,?_⟩;rw [PQ,if_pos (by rw [k];exact o),k,p,Bl j]
theorem XR {a c b:Xa0}{i:Nat}(d:i<a.length)(e:a[i]<0):P8 a c b (i+1)=P8 a c b i:=by
 rw [PQ,if_neg (by rw [lX d];omega),cZ]
theorem adK {c d a l f b g e:Xa0}{n i:Nat}(h:BhOk c d a l f b g e n)(p:i<f.length) :
  ∃ (k:f[i].toNat<b.length) (j:b[f[i].toNat].toNat<a.length),0<=f[i]/\0<=b[f[i].toNat]/\XT a b f[i]=a[b[f[i].toNat].toNat]:=by
 obtain ⟨⟨r,s⟩,o,q⟩:=h.fa _ (aC p);have k:f[i].toNat<b.length:=bZ;have m:=Bl k;rw [m] at o q;have j:b[f[i].toNat].toNat<a.length:=bZ;exact ⟨k,j,r,o,by unfold XT;rw [m,Bl j]⟩
theorem Zs {g j a b f c e d:Xa0}{n i:Nat}(h:BhOk g j a b f c e d n)(k:i<b.length):(0<=b[i]/\b[i].toNat<n)/\i<(Uc a f c e d).length:=by
 have:=h.cr _ (aC k);have:=h.ca;rw [Xe];omega
theorem Fu (d b a keep g:Xa0)(h:∀ x∈d,0<=x/\x<b.length)(S:d.length<=1000)(O:g.length<=1000):Pua 52 [dLI d,dLI b,dLI a,dLI g,dLI keep] (dLI (E7 d b a keep g)):=by
 refine Tz.pK ⟨λt=>t==11,λ_=>[]⟩ func52 rfl (λQ I=>?_);have Y:=trivial;refine wv (h:=bC (λi e H=>∃ k:Xa0,(e 0=dLI d/\e 1=dLI b/\e 2=dLI a/\e 3=dLI g/\e 4=dLI keep/\e 11=.own 0 k.length/\e 12=dI i)/\(H.get 0=some ⟨3,1,k.map cI,false⟩)/\(0<H.next)/\(i<=d.length)/\(k.length=i)/\(k=(d.take i).map (Jc b a))) (λi=>d.length - i) 0 ⟨([]),wg,wn,wn,wi,(by rfl),(by rfl)⟩ λU B i e H A=>?_);obtain ⟨k,M,s,o,R,F,C⟩:=A;have Y:=xa2 Y M s (bP o);refine kI (λq=>?_) λq=>?_
 .obtain ⟨D,N,G⟩:=VN h q;have u:=dB (Jc b a) q;obtain ⟨m,c⟩:∃ x,x=k++[gS a b[d[i].toNat]]:=⟨_,rfl⟩;have f:m=(d.take (i+1)).map (Jc b a):=by rw [c,u,<- C];unfold Jc;rw [G]
  have Y:=xa3 Y q c (aA q) (aA D);refine wp (h:=aB (iP a b[d[i].toNat]) wl ?_);exact wp (h:=wx B (i+1) ⟨m,wg,wn,wn,wj,(by rw [f];simp;omega),(by exact f)⟩)
 .have hX:k=d.map (Jc b a):=by rw [C,dV _ bZ]
  refine wv (h:=bC (λj e H=>∃ l:Xa0,(e 0=dLI d/\e 1=dLI b/\e 2=dLI a/\e 3=dLI g/\e 4=dLI keep/\e 11=.own 0 l.length/\e 13=dI j)/\(H.get 0=some ⟨3,1,l.map cI,false⟩)/\(0<H.next)/\(j<=g.length)/\(l=k++(aN keep j).map (iA g))/\(l.length<=d.length+j)) (λj=>g.length - j) 0 ⟨k,wg,(by simp [go_sem,Y]),wn,wi,(by simp [aN]),bZ⟩ λT p j e H z=>?_);obtain ⟨l,L,r,n,P,w,E⟩:=z;have Y:=xa2 Y L r (bP n);refine kI (λv=>?_) λv=>?_
  .have u:=jG keep j;have y:=lX v;have Y:=xa1 Y v (aA v);refine wv (h:=aB (iP keep j) wl ?_);refine c8 (λK=>?_) λK=>?_
   .have hf:mem keep j=false:=by rw [aW];simp [mem];omega
    obtain ⟨m,c⟩:∃ x,x=l++[g[j]]:=⟨_,rfl⟩;have f:m=k++(aN keep (j+1)).map (iA g):=by rw [c,u,hf,w];simp [y]
    have Y:=wa Y c;exact wp (h:=wx p (j+1) ⟨m,wg,(by simp [go_sem,Y]),wn,wj,(by exact f),(by rw [f];have:=dJ keep (j+1);simp;omega)⟩)
   .have hf:mem keep j=true:=by simp [mem];omega
    obtain ⟨m,c⟩:∃ x,x=l:=⟨_,rfl⟩;have f:m=k++(aN keep (j+1)).map (iA g):=by rw [c,u,hf,w];simp
    have Y:=wa Y c;exact wp (h:=wx p (j+1) ⟨m,wg,(by simp [go_sem,Y]),wn,wj,(by exact f),(by rw [f];have:=dJ keep (j+1);simp;omega)⟩)
  .have hJ:j=g.length:=bZ;have J:E7 d b a keep g=l:=by unfold E7;rw [w,hX,hJ]
   exact wv (h:=I _ _ (by simp [go_sem,Y,J]))
theorem x9 (d b a keep f:Xa0)(h:∀ x∈d,0<=x/\x<b.length)(U:d.length<=1000)(R:f.length<=1000):Pua 45 [dLI d,dLI b,dLI a,dLI keep,dLI f] (dLI (E7 d b a keep f)):=by
 have I:=iN keep f.length bZ;have C:=dJ keep f.length;have p:∀ x∈aN keep f.length,0<=x/\x<f.length:=λx w=>(dC.1 w).1;obtain ⟨O,G⟩:=fH (aN keep f.length);rw [<- G] at I C p;refine Tz.pK ⟨λt=>t==11,λ_=>[]⟩ func45 rfl (λQ L=>?_);have Y:=trivial;refine wp (h:=bC (λi e H=>∃ j:Xa0,(e 0=dLI d/\e 1=dLI b/\e 2=dLI a/\e 3=dLI keep/\e 4=dLI f/\e 11=.own 0 j.length/\e 16=dLI d/\e 17=dI d.length/\e 18=dI i)/\(H.get 0=some ⟨3,1,j.map cI,false⟩)/\(0<H.next)/\(i<=d.length)/\(j.length=i)/\(j=(d.take i).map (Jc b a))) (λi=>d.length - i) 0 ⟨([]),wg,wn,wn,wi,(by rfl),(by rfl)⟩ λW E i e H A=>?_);obtain ⟨j,N,u,o,T,K,w⟩:=A;have Y:=xa2 Y N u (bP o);refine c8 (λr=>?_) λr=>?_
 .obtain ⟨v,P,y⟩:=VN h r;have B:=dB (Jc b a) r;obtain ⟨m,c⟩:∃ x,x=j++[gS a b[d[i].toNat]]:=⟨_,rfl⟩;have g:m=(d.take (i+1)).map (Jc b a):=by rw [c,B,<- w];unfold Jc;rw [y]
  have Y:=xa3 Y r c (aA r) (aA v);refine wp (h:=aB (oL a b[d[i].toNat]) wl ?_);exact wp (h:=wx E (i+1) ⟨m,wg,wn,wn,wj,(by rw [g];simp;omega),(by exact g)⟩)
 .have hX:j=d.map (Jc b a):=by rw [w,dV _ bZ]
  refine wp (h:=aB (I) wl ?_);refine wp (h:=bC (λk e H=>∃ l:Xa0,(e 0=dLI d/\e 1=dLI b/\e 2=dLI a/\e 3=dLI keep/\e 4=dLI f/\e 11=.own 0 l.length/\e 35=dLI O/\e 36=dI O.length/\e 37=dI k)/\(H.get 0=some ⟨3,1,l.map cI,false⟩)/\(0<H.next)/\(k<=O.length)/\(l=j++(O.take k).map (iA f))/\(l.length=d.length+k)) (λk=>O.length - k) 0 ⟨j,wg,(by simp [go_sem,Y]),wn,wi,(by simp),bZ⟩ λV D k e H z=>?_);obtain ⟨l,M,s,n,S,F,J⟩:=z;have Y:=xa2 Y M s (bP n);refine c8 (λq=>?_) λq=>?_
  .have hr:=p _ (aC q);have v:O[k].toNat<f.length:=bZ;have y:=Bl v;have B:=dB (iA f) q;obtain ⟨m,c⟩:∃ x,x=l++[f[O[k].toNat]]:=⟨_,rfl⟩;have g:m=j++(O.take (k+1)).map (iA f):=by rw [c,B,F,y,List.append_assoc]
   have Y:=xa3 Y q c (aA q) (aA v);exact wp (h:=wx D (k+1) ⟨m,wg,(by simp [go_sem,Y]),wn,wj,(by exact g),(by rw [g];simp;omega)⟩)
  .have hE:E7 d b a keep f=l:=by unfold E7;rw [F,hX,<- G,dV _ bZ]
   exact wv (h:=L _ _ (by simp [go_sem,Y,hE]))
theorem C7 (track first second com f rest into last:Xa0)(n:Nat)(h:BhOk track first second com f rest into last n):Pua 53 [dI n,dLI track,dLI first,dLI second,dLI com,dLI f,dLI rest,dLI last,dLI into] (dLI (V7 track first second com f rest into last n)):=by
 have hnn:=h.nn
 have hfl:=h.fl
 have hll:=h.ll
 have htl:=h.tl
 have hOl:=dJ into last.length
 have hcl:=h.ca
 refine Tz.pK ⟨λt=>t==19||t==21,λ_=>[]⟩ func53 rfl (λQ hQ=>?_)
 try simp [go_sem,seval]
 repeat first|intro _|refine ⟨gX,?_⟩
 obtain ⟨I0,hI0⟩:∃ I0:Nat->d7->AHeap->Prop,∀ (i:Nat) (e:d7) (H:AHeap),I0 i e H↔(∃ xs:Xa0,(e 1=dLI track)/\(e 2=dLI first)/\(e 3=dLI second)/\(e 4=dLI com)/\(e 5=dLI f)/\(e 6=dLI rest)/\(e 7=dLI last)/\(e 8=dLI into)/\(e 19=.own 0 n)/\(e 20=dI i)/\(H.get 0=some ⟨3,1,xs.map cI,false⟩)/\(0<H.next)/\(i<=track.length)/\(xs=jR (P8 track first second i) (List.replicate n 0))/\(xs.length=n)):=⟨λi e H=>_,λ_ _ _=>Iff.rfl⟩
 refine uJ I0 (λi=>track.length - i) (0) ((hI0 _ _ _).2 ⟨((List.replicate n 0)),?_,?_,?_,?_,?_,?_,?_,?_,?_,?_,?_,?_,(by first|assumption|omega|(simp [go_sem];done)|(simp_all;done)),(by rfl),(by simp)⟩) ?_
 iterate 12 (first|omega|(simp [go_sem,seval]<;>omega))
 intro i e H hi0
 obtain ⟨xs,q1_0,q2_0,q3_0,q4_0,q5_0,q6_0,q7_0,q8_0,q19_0,q20_0,g0_0,n0_0,hi,hx,hxl⟩:=(hI0 _ _ _).1 hi0
 have x0:=bP n0_0
 have F0:=xb0 q1_0 q2_0 q3_0 q4_0 q5_0 q6_0 q7_0 q8_0 q19_0 q20_0 g0_0 x0
 try simp [go_sem,seval,F0]
 repeat first|intro _|refine ⟨gX,?_⟩
 refine bA (λh3=>?_) (λh3=>?_)
 .try simp [go_sem] at h3
  try simp [go_sem,seval,F0,h3,aA h3]
  repeat first|intro _|refine ⟨gX,?_⟩
  refine bA (λh5=>?_) (λh5=>?_)
  .try simp [go_sem] at h5
   obtain ⟨q1,q2,z1,z2,hv⟩:=adJ h h3 h5
   have hks:track[i].toNat<xs.length:=bZ
   obtain ⟨ys,hys'⟩:∃ x,x=xs.set track[i].toNat second[first[i].toNat]:=⟨_,rfl⟩
   have hys:ys=jR (P8 track first second (i+1)) (List.replicate n 0):=by rw [hys',hv,pF,<- hx]
   try simp [go_sem,seval,F0,h3,aA h3,hys',hxl,bJ,aA hks,aA q1,aA q2]
   repeat first|intro _|refine ⟨gX,?_⟩
   refine g9 (i+1) bZ ((hI0 _ _ _).2 ⟨(ys),?_,?_,?_,?_,?_,?_,?_,?_,?_,?_,?_,?_,(by first|assumption|omega|(simp [go_sem,F0,h3,aA h3,hys',hxl,bJ,aA hks,aA q1,aA q2,h5];done)|(simp_all<;>omega)),(by exact hys),(by rw [hys,jQ,fA])⟩)<;>first|omega|(simp [go_sem,seval,F0,h3,aA h3,hys',hxl,bJ,aA hks,aA q1,aA q2]<;>omega)
  .try simp [go_sem] at h5
   obtain ⟨ys,hys'⟩:∃ x,x=xs:=⟨_,rfl⟩
   have hys:ys=jR (P8 track first second (i+1)) (List.replicate n 0):=by rw [hys',XR h3 bZ,<- hx]
   try simp [go_sem,seval,F0,h3,aA h3,hys']
   repeat first|intro _|refine ⟨gX,?_⟩
   refine g9 (i+1) bZ ((hI0 _ _ _).2 ⟨(ys),?_,?_,?_,?_,?_,?_,?_,?_,?_,?_,?_,?_,(by first|assumption|omega|(simp [go_sem,F0,h3,aA h3,hys',h5];done)|(simp_all<;>omega)),(by exact hys),(by rw [hys,jQ,fA])⟩)<;>first|omega|(simp [go_sem,seval,F0,h3,aA h3,hys']<;>omega)
 .try simp [go_sem] at h3
  have hX:xs=jR (P8 track first second track.length) (List.replicate n 0):=by rw [hx,(bZ:i=track.length)]
  try simp [go_sem,seval,F0]
  obtain ⟨I2,hI2⟩:∃ I2:Nat->d7->AHeap->Prop,∀ (i:Nat) (e:d7) (H:AHeap),I2 i e H↔(∃ q:Nat,∃ es:Xa0,(e 1=dLI track)/\(e 2=dLI first)/\(e 3=dLI second)/\(e 4=dLI com)/\(e 5=dLI f)/\(e 6=dLI rest)/\(e 7=dLI last)/\(e 8=dLI into)/\(e 19=.own 0 n)/\(e 21=.own q es.length)/\(e 22=dI i)/\(H.get 0=some ⟨3,1,xs.map cI,false⟩)/\(0<H.next)/\(H.get q=some ⟨3,1,es.map cI,false⟩)/\(q<H.next)/\(0<q)/\(i<=f.length)/\(es.length=i)/\(es=(f.take i).map (XT second rest))):=⟨λi e H=>_,λ_ _ _=>Iff.rfl⟩
  refine uJ I2 (λi=>f.length - i) (0) ((hI2 _ _ _).2 ⟨(H.next),([]),?_,?_,?_,?_,?_,?_,?_,?_,?_,?_,?_,?_,?_,?_,?_,bZ,(by first|assumption|omega|(simp [go_sem,F0];done)|(simp_all;done)),(by rfl),(by rfl)⟩) ?_
  iterate 15 (first|omega|(simp [go_sem,seval,F0]<;>omega))
  intro i e H hi2
  obtain ⟨q,es,q1_2,q2_2,q3_2,q4_2,q5_2,q6_2,q7_2,q8_2,q19_2,q21_2,q22_2,g0_2,n0_2,gq_2,nq_2,hq,hi,hel,he⟩:=(hI2 _ _ _).1 hi2
  have x0:=bP n0_2
  have xq:=bP nq_2
  have F2:=xa2 q1_2 q2_2 q3_2 (xb0 q4_2 q5_2 q6_2 q7_2 q8_2 q19_2 q21_2 q22_2 g0_2 gq_2 x0 xq)
  have di1:=dE (bZ:0≠q)
  try simp [go_sem,seval,F2,di1]
  repeat first|intro _|refine ⟨gX,?_⟩
  refine bA (λh9=>?_) (λh9=>?_)
  .try simp [go_sem] at h9
   obtain ⟨q1,q2,z1,z2,hv⟩:=adK h h9
   have hS:=dB (XT second rest) h9
   obtain ⟨ys,hys'⟩:∃ x,x=es++[second[rest[f[i].toNat].toNat]]:=⟨_,rfl⟩
   have hys:ys=(f.take (i+1)).map (XT second rest):=by rw [hys',hS,<- he,hv]
   try simp [go_sem,seval,F2,di1,h9,hys',aA h9,aA q1,aA q2]
   repeat first|intro _|refine ⟨gX,?_⟩
   refine g9 (i+1) bZ ((hI2 _ _ _).2 ⟨(q),(ys),?_,?_,?_,?_,?_,?_,?_,?_,?_,?_,?_,?_,?_,?_,?_,bZ,(by first|assumption|omega|(simp [go_sem,F2,di1,h9,hys',aA h9,aA q1,aA q2,h3];done)|(simp_all<;>omega)),(by rw [hys];simp;omega),(by exact hys)⟩)<;>first|omega|(simp [go_sem,seval,F2,di1,h9,hys',aA h9,aA q1,aA q2]<;>omega)
  .try simp [go_sem] at h9
   have hE1:es=f.map (XT second rest):=by rw [he,dV _ bZ]
   try simp [go_sem,seval,F2,di1]
   obtain ⟨I4,hI4⟩:∃ I4:Nat->d7->AHeap->Prop,∀ (j:Nat) (e:d7) (H:AHeap),I4 j e H↔(∃ zs:Xa0,(e 1=dLI track)/\(e 2=dLI first)/\(e 3=dLI second)/\(e 4=dLI com)/\(e 5=dLI f)/\(e 6=dLI rest)/\(e 7=dLI last)/\(e 8=dLI into)/\(e 19=.own 0 n)/\(e 21=.own q zs.length)/\(e 23=dI j)/\(H.get 0=some ⟨3,1,xs.map cI,false⟩)/\(0<H.next)/\(H.get q=some ⟨3,1,zs.map cI,false⟩)/\(q<H.next)/\(j<=last.length)/\(zs=es++(aN into j).map (iA last))/\(zs.length<=f.length+j)):=⟨λj e H=>_,λ_ _ _=>Iff.rfl⟩
   refine uJ I4 (λj=>last.length - j) (0) ((hI4 _ _ _).2 ⟨(es),?_,?_,?_,?_,?_,?_,?_,?_,?_,?_,?_,(by simp [go_sem,F2,di1]),?_,(by simp [go_sem,F2,di1]),?_,(by first|assumption|omega|(simp [go_sem,F2,di1];done)|(simp_all;done)),(by simp [aN]),bZ⟩) ?_
   iterate 13 (first|omega|(simp [go_sem,seval,F2,di1]<;>omega))
   intro j e H hi4
   obtain ⟨zs,q1_4,q2_4,q3_4,q4_4,q5_4,q6_4,q7_4,q8_4,q19_4,q21_4,q23_4,g0_4,n0_4,gq_4,nq_4,hj,hy,hyl⟩:=(hI4 _ _ _).1 hi4
   have x0:=bP n0_4
   have xq:=bP nq_4
   have F4:=xa2 q1_4 q2_4 q3_4 (xb0 q4_4 q5_4 q6_4 q7_4 q8_4 q19_4 q21_4 q23_4 g0_4 gq_4 x0 xq)
   have di2:=dE (bZ:0≠q)
   try simp [go_sem,seval,di1,F4,di2]
   repeat first|intro _|refine ⟨gX,?_⟩
   refine bA (λh13=>?_) (λh13=>?_)
   .try simp [go_sem] at h13
    have hS:=jG into j
    have hvj:=lX h13
    try simp [go_sem,seval,di1,F4,di2,h13,aA h13]
    refine aB (iP into j) ((by first|rfl|(simp [go_sem,<- List.map_take,<- List.map_drop,di1,F4,di2,h13,aA h13];done))) ?_
    try simp [go_sem,seval,di1,F4,di2,h13,aA h13]
    refine bA (λh15=>?_) (λh15=>?_)
    .try simp [go_sem] at h15
     have hf:mem into j=false:=by rw [aW];simp [mem];omega
     obtain ⟨ys,hys'⟩:∃ x,x=zs++[last[j]]:=⟨_,rfl⟩
     have hys:ys=es++(aN into (j+1)).map (iA last):=by rw [hys',hS,hf,hy];simp [hvj]
     try simp [go_sem,seval,di1,F4,di2,h13,aA h13,hys']
     repeat first|intro _|refine ⟨gX,?_⟩
     refine g9 (j+1) bZ ((hI4 _ _ _).2 ⟨(ys),?_,?_,?_,?_,?_,?_,?_,?_,?_,?_,?_,(by simp [go_sem,di1,F4,di2,h13,aA h13,hys']),?_,(by simp [go_sem,di1,F4,di2,h13,aA h13,hys']),?_,(by first|assumption|omega|(simp [go_sem,di1,F4,di2,h13,aA h13,hys',h3,h9,h15];done)|(simp_all<;>omega)),(by exact hys),(by rw [hys];have:=dJ into (j+1);simp;omega)⟩)<;>first|omega|(simp [go_sem,seval,di1,F4,di2,h13,aA h13,hys']<;>omega)
    .try simp [go_sem] at h15
     have hf:mem into j=true:=by simp [mem];omega
     obtain ⟨ys,hys'⟩:∃ x,x=zs:=⟨_,rfl⟩
     have hys:ys=es++(aN into (j+1)).map (iA last):=by rw [hys',hS,hf,hy];simp
     try simp [go_sem,seval,di1,F4,di2,h13,aA h13,hys']
     repeat first|intro _|refine ⟨gX,?_⟩
     refine g9 (j+1) bZ ((hI4 _ _ _).2 ⟨(ys),?_,?_,?_,?_,?_,?_,?_,?_,?_,?_,?_,(by simp [go_sem,di1,F4,di2,h13,aA h13,hys']),?_,(by simp [go_sem,di1,F4,di2,h13,aA h13,hys']),?_,(by first|assumption|omega|(simp [go_sem,di1,F4,di2,h13,aA h13,hys',h3,h9,h15];done)|(simp_all<;>omega)),(by exact hys),(by rw [hys];have:=dJ into (j+1);simp;omega)⟩)<;>first|omega|(simp [go_sem,seval,di1,F4,di2,h13,aA h13,hys']<;>omega)
   .try simp [go_sem] at h13
    have hE2:zs=Uc second f rest into last:=by unfold Uc;rw [hy,hE1,(bZ:j=last.length)]
    try simp [go_sem,seval,di1,F4,di2]
    obtain ⟨I6,hI6⟩:∃ I6:Nat->d7->AHeap->Prop,∀ (i:Nat) (e:d7) (H:AHeap),I6 i e H↔(∃ vs:Xa0,(e 1=dLI track)/\(e 2=dLI first)/\(e 3=dLI second)/\(e 4=dLI com)/\(e 5=dLI f)/\(e 6=dLI rest)/\(e 7=dLI last)/\(e 8=dLI into)/\(e 19=.own 0 n)/\(e 21=.own q zs.length)/\(e 24=dI i)/\(H.get 0=some ⟨3,1,vs.map cI,false⟩)/\(0<H.next)/\(H.get q=some ⟨3,1,zs.map cI,false⟩)/\(q<H.next)/\(i<=com.length)/\(vs=jR (VD com zs i) xs)/\(vs.length=n)):=⟨λi e H=>_,λ_ _ _=>Iff.rfl⟩
    refine uJ I6 (λi=>com.length - i) (0) ((hI6 _ _ _).2 ⟨(xs),?_,?_,?_,?_,?_,?_,?_,?_,?_,?_,?_,(by simp [go_sem,di1,F4,di2]),?_,(by simp [go_sem,di1,F4,di2]),?_,(by first|assumption|omega|(simp [go_sem,di1,F4,di2];done)|(simp_all;done)),(by rfl),(by exact hxl)⟩) ?_
    iterate 13 (first|omega|(simp [go_sem,seval,di1,F4,di2]<;>omega))
    intro i e H hi6
    obtain ⟨vs,q1_6,q2_6,q3_6,q4_6,q5_6,q6_6,q7_6,q8_6,q19_6,q21_6,q24_6,g0_6,n0_6,gq_6,nq_6,hi,hw,hwl⟩:=(hI6 _ _ _).1 hi6
    have x0:=bP n0_6
    have xq:=bP nq_6
    have F6:=xa2 q1_6 q2_6 q3_6 (xb0 q4_6 q5_6 q6_6 q7_6 q8_6 q19_6 q21_6 q24_6 g0_6 gq_6 x0 xq)
    have di3:=dE (bZ:0≠q)
    try simp [go_sem,seval,di1,di2,F6,di3]
    repeat first|intro _|refine ⟨gX,?_⟩
    refine bA (λh18=>?_) (λh18=>?_)
    .try simp [go_sem] at h18
     obtain ⟨⟨z0,z1⟩,z2⟩:=Zs h h18
     rw [<- hE2] at z2
     have hks:com[i].toNat<vs.length:=bZ
     obtain ⟨ys,hys'⟩:∃ x,x=vs.set com[i].toNat zs[i]:=⟨_,rfl⟩
     have hys:ys=jR (VD com zs (i+1)) xs:=by rw [hys',I7,pF,lX h18,lX z2,<- hw]
     try simp [go_sem,seval,di1,di2,F6,di3,h18,hys',hwl,bJ,aA h18,aA hks,aA z2]
     repeat first|intro _|refine ⟨gX,?_⟩
     refine g9 (i+1) bZ ((hI6 _ _ _).2 ⟨(ys),?_,?_,?_,?_,?_,?_,?_,?_,?_,?_,?_,(by simp [go_sem,di1,di2,F6,di3,h18,hys',hwl,bJ,aA h18,aA hks,aA z2]),?_,(by simp [go_sem,di1,di2,F6,di3,h18,hys',hwl,bJ,aA h18,aA hks,aA z2]),?_,(by first|assumption|omega|(simp [go_sem,di1,di2,F6,di3,h18,hys',hwl,bJ,aA h18,aA hks,aA z2,h3,h9,h13];done)|(simp_all<;>omega)),(by exact hys),(by rw [hys,jQ];exact hxl)⟩)<;>first|omega|(simp [go_sem,seval,di1,di2,F6,di3,h18,hys',hwl,bJ,aA h18,aA hks,aA z2]<;>omega)
    .try simp [go_sem] at h18
     have hE:vs=V7 track first second com f rest into last n:=by unfold V7;rw [hw,(bZ:i=com.length),hE2,hX]
     have hEl:=SJ track first second com f rest into last n
     try simp [go_sem,seval,di1,di2,F6,di3]
     exact hQ _ _ (by first|(left;(simp [go_sem,di1,di2,F6,di3,<- hE,hwl,dLI]);done)|(right;(simp [go_sem,di1,di2,F6,di3,<- hE,hwl,dLI]);done))
theorem vY (track first second com f rest into last:Xa0)(n:Nat)(h:BhOk track first second com f rest into last n):Pua 46 [dLI first,dLI second,dLI track,dLI com,dLI f,dLI rest,dLI into,dLI last,dI n] (dLI (V7 track first second com f rest into last n)):=by
 have hnn:=h.nn
 have hfl:=h.fl
 have hll:=h.ll
 have htl:=h.tl
 have hcl:=h.ca
 have cO:=iN into last.length bZ
 have hOl:=dJ into last.length
 have hOi:∀ x∈aN into last.length,0<=x/\x<last.length:=λx hx=>(dC.1 hx).1
 have hXh:∀ k (hk:k<(aN into last.length).length),iA (Uc second f rest into last) ((f.length+k:Nat):Int)=iA last (aN into last.length)[k]:=λk hk=>Zu hk
 obtain ⟨O,hO⟩:=fH (aN into last.length)
 rw [<- hO] at cO hOl hOi hcl
 obtain ⟨X,hXX⟩:=fH (Uc second f rest into last)
 refine Tz.pK ⟨λt=>t==19,λ_=>[]⟩ func46 rfl (λQ hQ=>?_)
 try simp [go_sem,seval]
 repeat first|intro _|refine ⟨gX,?_⟩
 obtain ⟨I0,hI0⟩:∃ I0:Nat->d7->AHeap->Prop,∀ (i:Nat) (e:d7) (H:AHeap),I0 i e H↔(∃ xs:Xa0,(e 0=dLI first)/\(e 1=dLI second)/\(e 2=dLI track)/\(e 3=dLI com)/\(e 4=dLI f)/\(e 5=dLI rest)/\(e 6=dLI into)/\(e 7=dLI last)/\(e 19=.own 0 n)/\(e 28=dLI track)/\(e 29=dI track.length)/\(e 30=dI i)/\(H.get 0=some ⟨3,1,xs.map cI,false⟩)/\(0<H.next)/\(i<=track.length)/\(xs=jR (P8 track first second i) (List.replicate n 0))/\(xs.length=n)):=⟨λi e H=>_,λ_ _ _=>Iff.rfl⟩
 refine uJ I0 (λi=>track.length - i) (0) ((hI0 _ _ _).2 ⟨((List.replicate n 0)),?_,?_,?_,?_,?_,?_,?_,?_,?_,?_,?_,?_,?_,?_,(by first|assumption|omega|(simp [go_sem];done)|(simp_all;done)),(by rfl),(by simp)⟩) ?_
 iterate 14 (first|omega|(simp [go_sem,seval]<;>omega))
 intro i e H hi0
 obtain ⟨xs,q0_0,q1_0,q2_0,q3_0,q4_0,q5_0,q6_0,q7_0,q19_0,q28_0,q29_0,q30_0,g0_0,n0_0,hi,hx,hxl⟩:=(hI0 _ _ _).1 hi0
 have x0:=bP n0_0
 have F0:=xa1 q0_0 q1_0 (xb0 q2_0 q3_0 q4_0 q5_0 q6_0 q7_0 q19_0 q28_0 q29_0 q30_0 g0_0 x0)
 try simp [go_sem,seval,F0]
 refine bA (λh3=>?_) (λh3=>?_)
 .try simp [go_sem] at h3
  try simp [go_sem,seval,F0,h3,aA h3]
  repeat first|intro _|refine ⟨gX,?_⟩
  refine bA (λh5=>?_) (λh5=>?_)
  .try simp [go_sem] at h5
   obtain ⟨q1,q2,z1,z2,hv⟩:=adJ h h3 h5
   have hks:track[i].toNat<xs.length:=bZ
   obtain ⟨ys,hys'⟩:∃ x,x=xs.set track[i].toNat second[first[i].toNat]:=⟨_,rfl⟩
   have hys:ys=jR (P8 track first second (i+1)) (List.replicate n 0):=by rw [hys',hv,pF,<- hx]
   try simp [go_sem,seval,F0,h3,aA h3,hys',hxl,bJ,aA hks,aA q1,aA q2]
   repeat first|intro _|refine ⟨gX,?_⟩
   refine g9 (i+1) bZ ((hI0 _ _ _).2 ⟨(ys),?_,?_,?_,?_,?_,?_,?_,?_,?_,?_,?_,?_,?_,?_,(by first|assumption|omega|(simp [go_sem,F0,h3,aA h3,hys',hxl,bJ,aA hks,aA q1,aA q2,h5];done)|(simp_all<;>omega)),(by exact hys),(by rw [hys,jQ,fA])⟩)<;>first|omega|(simp [go_sem,seval,F0,h3,aA h3,hys',hxl,bJ,aA hks,aA q1,aA q2]<;>omega)
  .try simp [go_sem] at h5
   obtain ⟨ys,hys'⟩:∃ x,x=xs:=⟨_,rfl⟩
   have hys:ys=jR (P8 track first second (i+1)) (List.replicate n 0):=by rw [hys',XR h3 bZ,<- hx]
   try simp [go_sem,seval,F0,h3,aA h3,hys']
   repeat first|intro _|refine ⟨gX,?_⟩
   refine g9 (i+1) bZ ((hI0 _ _ _).2 ⟨(ys),?_,?_,?_,?_,?_,?_,?_,?_,?_,?_,?_,?_,?_,?_,(by first|assumption|omega|(simp [go_sem,F0,h3,aA h3,hys',h5];done)|(simp_all<;>omega)),(by exact hys),(by rw [hys,jQ,fA])⟩)<;>first|omega|(simp [go_sem,seval,F0,h3,aA h3,hys']<;>omega)
 .try simp [go_sem] at h3
  have hX:xs=jR (P8 track first second track.length) (List.replicate n 0):=by rw [hx,(bZ:i=track.length)]
  try simp [go_sem,seval,F0]
  repeat first|intro _|refine ⟨gX,?_⟩
  obtain ⟨I2,hI2⟩:∃ I2:Nat->d7->AHeap->Prop,∀ (i:Nat) (e:d7) (H:AHeap),I2 i e H↔(∃ zs:Xa0,(e 0=dLI first)/\(e 1=dLI second)/\(e 2=dLI track)/\(e 3=dLI com)/\(e 4=dLI f)/\(e 5=dLI rest)/\(e 6=dLI into)/\(e 7=dLI last)/\(e 19=.own 0 n)/\(e 48=dLI f)/\(e 49=dI f.length)/\(e 50=dI i)/\(H.get 0=some ⟨3,1,zs.map cI,false⟩)/\(0<H.next)/\(i<=f.length)/\(zs=jR (VD com X i) xs)/\(zs.length=n)):=⟨λi e H=>_,λ_ _ _=>Iff.rfl⟩
  refine uJ I2 (λi=>f.length - i) (0) ((hI2 _ _ _).2 ⟨(xs),?_,?_,?_,?_,?_,?_,?_,?_,?_,?_,?_,?_,(by simp [go_sem,F0]),?_,(by first|assumption|omega|(simp [go_sem,F0];done)|(simp_all;done)),(by rfl),(by exact hxl)⟩) ?_
  iterate 13 (first|omega|(simp [go_sem,seval,F0]<;>omega))
  intro i e H hi2
  obtain ⟨zs,q0_2,q1_2,q2_2,q3_2,q4_2,q5_2,q6_2,q7_2,q19_2,q48_2,q49_2,q50_2,g0_2,n0_2,hi,hy,hyl⟩:=(hI2 _ _ _).1 hi2
  have x0:=bP n0_2
  have F2:=xa1 q0_2 q1_2 (xb0 q2_2 q3_2 q4_2 q5_2 q6_2 q7_2 q19_2 q48_2 q49_2 q50_2 g0_2 x0)
  try simp [go_sem,seval,F2]
  refine bA (λh9=>?_) (λh9=>?_)
  .try simp [go_sem] at h9
   obtain ⟨q1,q2,z1,z2,hv⟩:=adK h h9
   have hc:i<com.length:=bZ
   obtain ⟨⟨z3,z4⟩,_⟩:=Zs h hc
   have hks:com[i].toNat<zs.length:=bZ
   obtain ⟨ys,hys'⟩:∃ x,x=zs.set com[i].toNat second[rest[f[i].toNat].toNat]:=⟨_,rfl⟩
   have hys:ys=jR (VD com X (i+1)) xs:=by rw [hys',I7,pF,lX hc,hXX,Zt h9,hv,<- hXX,<- hy]
   try simp [go_sem,seval,F2,h9,hys',hyl,bJ,aA h9,aA hc,aA hks,aA q1,aA q2]
   repeat first|intro _|refine ⟨gX,?_⟩
   refine g9 (i+1) bZ ((hI2 _ _ _).2 ⟨(ys),?_,?_,?_,?_,?_,?_,?_,?_,?_,?_,?_,?_,(by simp [go_sem,F2,h9,hys',hyl,bJ,aA h9,aA hc,aA hks,aA q1,aA q2]),?_,(by first|assumption|omega|(simp [go_sem,F2,h9,hys',hyl,bJ,aA h9,aA hc,aA hks,aA q1,aA q2,h3];done)|(simp_all<;>omega)),(by exact hys),(by rw [hys,jQ];exact hxl)⟩)<;>first|omega|(simp [go_sem,seval,F2,h9,hys',hyl,bJ,aA h9,aA hc,aA hks,aA q1,aA q2]<;>omega)
  .try simp [go_sem] at h9
   have hZ:zs=jR (VD com X f.length) xs:=by rw [hy,(bZ:i=f.length)]
   try simp [go_sem,seval,F2]
   repeat first|intro _|refine ⟨gX,?_⟩
   refine aB (cO) ((by first|rfl|(simp [go_sem,<- List.map_take,<- List.map_drop,F2];done))) ?_
   try simp [go_sem,seval,F2]
   repeat first|intro _|refine ⟨gX,?_⟩
   obtain ⟨I4,hI4⟩:∃ I4:Nat->d7->AHeap->Prop,∀ (k:Nat) (e:d7) (H:AHeap),I4 k e H↔(∃ vs:Xa0,(e 0=dLI first)/\(e 1=dLI second)/\(e 2=dLI track)/\(e 3=dLI com)/\(e 4=dLI f)/\(e 5=dLI rest)/\(e 6=dLI into)/\(e 7=dLI last)/\(e 19=.own 0 n)/\(e 72=dLI O)/\(e 73=dI O.length)/\(e 74=dI k)/\(H.get 0=some ⟨3,1,vs.map cI,false⟩)/\(0<H.next)/\(k<=O.length)/\(vs=jR (VD com X (f.length+k)) xs)/\(vs.length=n)):=⟨λk e H=>_,λ_ _ _=>Iff.rfl⟩
   refine uJ I4 (λk=>O.length - k) (0) ((hI4 _ _ _).2 ⟨(zs),?_,?_,?_,?_,?_,?_,?_,?_,?_,?_,?_,?_,(by simp [go_sem,F2]),?_,(by first|assumption|omega|(simp [go_sem,F2];done)|(simp_all;done)),(by exact hZ),(by exact hyl)⟩) ?_
   iterate 13 (first|omega|(simp [go_sem,seval,F2]<;>omega))
   intro k e H hi4
   obtain ⟨vs,q0_4,q1_4,q2_4,q3_4,q4_4,q5_4,q6_4,q7_4,q19_4,q72_4,q73_4,q74_4,g0_4,n0_4,hk,hw,hwl⟩:=(hI4 _ _ _).1 hi4
   have x0:=bP n0_4
   have F4:=xa1 q0_4 q1_4 (xb0 q2_4 q3_4 q4_4 q5_4 q6_4 q7_4 q19_4 q72_4 q73_4 q74_4 g0_4 x0)
   try simp [go_sem,seval,F4]
   refine bA (λh14=>?_) (λh14=>?_)
   .try simp [go_sem] at h14
    have hr:=hOi _ (aC h14)
    have q1:O[k].toNat<last.length:=bZ
    have hc:f.length+k<com.length:=bZ
    obtain ⟨⟨z3,z4⟩,_⟩:=Zs h hc
    have hks:com[f.length+k].toNat<vs.length:=bZ
    have hdk:((f.length:Int)+(k:Int)).toNat=f.length+k:=bZ
    have hdk2:((k:Int)+(f.length:Int)).toNat=f.length+k:=bZ
    have hv:iA X ((f.length+k:Nat):Int)=last[O[k].toNat]:=by
     subst hO;rw [hXX,hXh k h14,Bl q1]
    obtain ⟨ys,hys'⟩:∃ x,x=vs.set com[f.length+k].toNat last[O[k].toNat]:=⟨_,rfl⟩
    have hys:ys=jR (VD com X (f.length+(k+1))) xs:=by rw [hys',<- Nat.add_assoc,I7,pF,lX hc,hv,<- hw]
    try simp [go_sem,seval,F4,h14,hys',hwl,hdk,hdk2,bJ,aA h14,aA hc,aA hks,aA q1]
    repeat first|intro _|refine ⟨gX,?_⟩
    refine g9 (k+1) bZ ((hI4 _ _ _).2 ⟨(ys),?_,?_,?_,?_,?_,?_,?_,?_,?_,?_,?_,?_,(by simp [go_sem,F4,h14,hys',hwl,hdk,hdk2,bJ,aA h14,aA hc,aA hks,aA q1]),?_,(by first|assumption|omega|(simp [go_sem,F4,h14,hys',hwl,hdk,hdk2,bJ,aA h14,aA hc,aA hks,aA q1,h3,h9];done)|(simp_all<;>omega)),(by exact hys),(by rw [hys,jQ];exact hxl)⟩)<;>first|omega|(simp [go_sem,seval,F4,h14,hys',hwl,hdk,hdk2,bJ,aA h14,aA hc,aA hks,aA q1]<;>omega)
   .try simp [go_sem] at h14
    have hE:vs=V7 track first second com f rest into last n:=by unfold V7;rw [hw,(bZ:f.length+k=com.length),hX,hXX]
    have hEl:=SJ track first second com f rest into last n
    try simp [go_sem,seval,F4]
    exact hQ _ _ (by first|(left;(simp [go_sem,F4,<- hE,hwl,dLI]);done)|(right;(simp [go_sem,F4,<- hE,hwl,dLI]);done))
theorem Lg:∀ (u:List (Nat × Blk)) (H:AHeap),(∀ p∈u,H.get p.1=some { p.2 with fz:=false }/\p.2.fz=true)->(u.map (·.1)).Nodup->fJ (u.map (·.1)) H=H.U u
 | [],_,_,_=>rfl
 | p :: u,H,h,hn=>by
  rw [gJ,gZ] at hn;obtain ⟨h1,h2⟩:=h p (eT ..);have e:H.a7 p.1=H.put p.1 p.2:=by
   unfold AHeap.a7;rw [h1];obtain ⟨q,ty,sz,es,fz⟩:=p;simp only at h2;subst h2;rfl
  show fJ (u.map (·.1)) (H.a7 p.1)=(H.put p.1 p.2).U u;rw [e];refine Lg u _ (λr hr=>⟨?_,(h r (cX _ hr)).2⟩) hn.2;rw [<- (h r (cX _ hr)).1];have hne:¬ r.1=p.1:=λhe=>hn.1 (he ▸ jD hr);simp [AHeap.put,hne]
theorem MX {P:Program}{md:Nat->Bool}{ops:Array Oper}{j:List (Nat × Nat)}{m i:Nat}{a:List Oper}{d:List (Nat × List Nat)}{e:d7}{c:Option Tmp}{K:d7->AHeap->Prop}{f:FuncId}{args args':Xa2}{H:AHeap}{r:D}(u:List (Nat × Blk))
  (b:Pure P f args' r) (w:args.map (iS H)=args') (l:D.N args'=true) (q:args.flatMap dQ=u.map (·.1)) (n:∀ p∈u,H.get p.1=some { p.2 with fz:=false }/\p.2.fz=true) (t:(u.map (·.1)).Nodup) (k:CJ md c=true)
  (v:BH j i (u.map (·.1)) d) (h:j5 P md ops j m (i+1) a ((i,u.map (·.1)) :: d) (pE e c r) (H.U u) K):mR P md ops j m i a d e c K f args H:=by
 subst w;unfold mR;refine Or.inr ⟨k,r,u.map (·.1),u,[],λp b=>jD b,(λ_ h=>by cases h),λy g _=>?_,by simpa using v,by simpa [AHeap.af] using h⟩;have o:=zC g λx s=>q ▸ s;refine Nr (by rw [o];exact b) (by rw [o];exact l) ⟨rfl,?_⟩;rw [q];exact Lg u y (λp b=>⟨(g p.1 (jD b)).trans (n p b).1,(n p b).2⟩) t
theorem BZ (l h:Xa0)(r:l.length<=100000):Pua 102 [dLI l,dLI h] (dLI (nQ h l)):=by
 refine Tz.pK ⟨λt=>t==5,λ_=>[]⟩ func102 rfl (λQ p=>?_);have Y:=trivial;refine wp (h:=bC (λi e H=>∃ b:Xa0,(e 1=dLI h/\e 5=.own 0 b.length/\e 8=dLI l/\e 9=dI l.length/\e 10=dI i)/\(H.get 0=some ⟨3,1,b.map cI,false⟩)/\(0<H.next)/\(i<=l.length)/\(b.length=i)/\(b=(l.take i).map (gS h))) (λi=>l.length - i) 0 ⟨([]),wg,wn,wn,wi,(by rfl),(by rfl)⟩ λu k i e H j=>?_);obtain ⟨b,q,f,c,s,o,n⟩:=j;have Y:=xa2 Y q f (bP c);refine c8 (λg=>?_) λg=>?_
 .have hS:=dB (gS h) g;obtain ⟨m,a⟩:∃ x,x=b++[gS h l[i]]:=⟨_,rfl⟩;have d:m=(l.take (i+1)).map (gS h):=by rw [a,hS,<- n]
  have Y:=xa2 Y g a (aA g);refine wp (h:=aB (oL h l[i]) wl ?_);exact wp (h:=wx k (i+1) ⟨m,wg,wn,wn,wj,(by rw [d];simp;omega),(by exact d)⟩)
 .have hE:nQ h l=b:=by unfold nQ;rw [n,dV _ bZ]
  exact wv (h:=p _ _ (by simp [go_sem,Y,hE]))
theorem Fy (l:Xa0)(v:Int):Pua 112 [dLI l,dI v] (dI (gS l v)):=by
 refine Tz.p0 func112 rfl λQ g Y=>?_;refine wv (h:=bC (λi e H=>(e 0=dLI l/\e 1=dI v/\e 5=dI i)/\(i<=l.length)/\(∀ j,j<i->l[j]?≠some v)) (λi=>l.length - i) 0 ⟨wg,wi,(by intro j k;omega)⟩ λo d i e H c=>?_);obtain ⟨m,n,a⟩:=c;have Y:=wa Y m;refine wv (h:=?_);repeat first|intro _|refine ⟨iF,?_⟩
 refine wq (λb=>?_) λb=>?_
 .have Y:=wa Y b;refine wv (h:=?_);repeat first|intro _|refine ⟨iF,?_⟩
  refine wq (λf=>?_) λf=>?_
  .exact wv (h:=g _ _ (by rw [sI a (by rw [aA b,f])];simp [go_sem]))
  .exact wo (h:=wx d (i+1) ⟨wg,wj,(by exact iR a (by rw [aA b];simpa using f))⟩)
 .exact wv (h:=g _ _ (by rw [xO λj k=>a j bZ];simp [go_sem]))
theorem Iy (a b x:Graph)(h k:Part)(h1:jN a x h=true)(h2:jN b x k=true):Pua 43 [a.d,b.d,x.d,h.d,k.d] (.tup [(Qj a b h k).d,(NJ h k).d,dI 0]):=by
 obtain ⟨m1,_⟩:=r4 h1;obtain ⟨m2,_⟩:=r4 h2;obtain ⟨ha,hx,c2,c1⟩:=dA m1;obtain ⟨hb,_,c0,b9⟩:=dA m2;have c4:=aY ha;have c3:=aY hb;have a9:=gQ a x h;have a8:=gQ b x k;have b3:=iY a x h bZ bZ;have b2:=iY b x k bZ bZ;rw [m1] at a9;rw [m2] at a8;rw [h1] at b3;rw [h2] at b2;have b1:=BZ k.h h.h bZ;have b0:=BZ k.i h.i bZ;have b4:=wY h.h k.h;have b6:=wY h.i k.i;have cG:=DI a b ha hb (nQ h.h k.h) (nQ h.i k.i) bZ bZ;have P:∀ i (C:i<k.h.length),(nQ h.h k.h)[i]?=some (gS h.h k.h[i]):=λi C=>by simp [nQ,C]
 have S:∀ i (C:i<k.i.length),(nQ h.i k.i)[i]?=some (gS h.i k.i[i]):=λi C=>by simp [nQ,C]
 obtain ⟨O,hO⟩:=fH (XI a b (nQ h.h k.h) (nQ h.i k.i));have U:Qj a b h k=O:=hO.symm;rw [<- hO] at cG;rw [U];obtain ⟨D,N⟩:∃ x,x=nQ h.h k.h:=⟨_,rfl⟩;obtain ⟨es,R⟩:∃ x,x=nQ h.i k.i:=⟨_,rfl⟩;rw [<- N] at b1 cG b4 P;rw [<- R] at b0 cG b6 S;clear hO U N R;refine HN (by first|rfl|(simp [go_sem];done)) (λQ hQ=>ACalls.b1 2 (Tz.cK ⟨λt=>t==10||t==11||t==17||t==18||t==72||t==75,λr=>match r with|9=>[(4,5),(4,6),(4,7),(4,8)]|11=>[(2,3),(2,4),(0,7),(1,7),(2,7),(3,7),(4,7),(5,7)]|16=>[(0,7),(1,7)]|22=>[(0,7),(1,7)]|24=>[(1,2)]|_=>[]⟩ func43 rfl ?_));have Y:=wa @Ovl.d.eq_1 @Ovl.c.eq_1;refine wv (h:=aB (a9) wl ?_);refine wv (h:=aB (a8) wl ?_);refine wp (h:=aB (b3) wl ?_);refine wp (h:=aG (λhg=>b2) (λhg=>wl) ?_);refine wp (h:=aI (b1) wl ?_);refine wp (h:=aI (b0) wl ?_);refine wp (h:=aB (cG) wl ?_);refine wp (h:=?_);refine pV 0 (fS h.h bZ) (by first|rfl|(simp [go_sem];done)) rfl (by first|omega|simp [go_sem]) (by simp [j8,mV,v8,rW]) (by first|trivial|(simp [go_sem];done)|simp [go_sem,BH]) ?_;refine wp (h:=?_);refine pV 1 (fS h.i bZ) (by first|rfl|(simp [go_sem];done)) rfl (by first|omega|simp [go_sem]) (by simp [j8,mV,v8,rW]) (by first|trivial|(simp [go_sem];done)|simp [go_sem,BH]) ?_;refine wp (h:=bC (λi e H=>∃ n:Xa0,(e 8=.adr h.c/\e 9=.adr k.c/\e 10=.ptr 2 1 0 0/\e 11=.ptr 3 1 0 0/\e 15=dLI D/\e 16=dLI es/\e 17=.ptr 16 1 0 0/\e 18=.ptr 24 1 0 0/\e 77=dLI D/\e 78=dI D.length/\e 79=dI i)/\(H.get 0=some ⟨3,1,n.map cI,false⟩)/\(0<H.next)/\(H.get 1=some ⟨3,1,h.i.map cI,false⟩)/\(1<H.next)/\(H.get 2=some ⟨45,6,[[.nil,.nil,.nil,.nil,.nil,.nil]],false⟩)/\(2<H.next)/\(H.get 3=some ⟨36,2,[[.nil,.nil]],false⟩)/\(3<H.next)/\(H.get 16=some ⟨45,6,[[dLI O.j.h,.list (O.j.i.map Edge.c),dLI O.left.h,dLI O.left.i,dLI O.right.h,dLI O.right.i]],false⟩)/\(16<H.next)/\(H.get 24=some ⟨36,2,[[.own 0 n.length,.own 1 h.i.length]],false⟩)/\(24<H.next)/\(i<=k.h.length)/\(n=h.h++(k.h.take i).filter (λx=>!mem h.h x))/\(n.length<=h.h.length+i)) (λi=>k.h.length - i) 0 ⟨h.h,wg,wn,wn,wn,wn,wn,wn,wn,wn,wn,wn,wn,wn,wi,(by simp),bZ⟩ λI0 W i e H b5=>?_);obtain ⟨n,E0,a7,M,a5,K,a3,I,a1,F,B,w,z,u,C,hx,b8⟩:=b5;have Y:=xa1 Y E0 (xb0 a7 (bP M) a5 (bP K) a3 (bP I) a1 (bP F) B (bP w) z (bP u));refine c8 (λp=>?_) λp=>?_
 .have m:i<k.h.length:=bZ;have T:=lE (h:=h.h) m;have hv:D[i]=gS h.h k.h[i]:=by have:=P i m;rw [aA p] at this;exact Option.some.inj this
  have Y:=xa3 Y p (aA p) hv (aA m);refine kI (λZ=>?_) λZ=>?_
  .obtain ⟨l,f⟩:∃ x,x=n++[k.h[i]]:=⟨_,rfl⟩;have g:l=h.h++(k.h.take (i+1)).filter (λx=>!mem h.h x):=by rw [f,T,if_pos Z,hx,List.append_assoc]
   have Y:=wa Y f;exact wp (h:=wx W (i+1) ⟨l,wg,wn,wn,wn,wn,wn,wn,wn,wn,wn,wn,wn,wn,wj,(by exact g),(by rw [g];simp;have:=dG (λx=>!mem h.h x) (k.h.take (i+1));simp at this;omega)⟩)
  .obtain ⟨l,f⟩:∃ x,x=n:=⟨_,rfl⟩;have g:l=h.h++(k.h.take (i+1)).filter (λx=>!mem h.h x):=by rw [f,T,if_neg bZ,cZ,<- hx]
   have Y:=wa Y f;exact wp (h:=wx W (i+1) ⟨l,wg,wn,wn,wn,wn,wn,wn,wn,wn,wn,wn,wn,wn,wj,(by exact g),(by rw [g];simp;have:=dG (λx=>!mem h.h x) (k.h.take (i+1));simp at this;omega)⟩)
 .have hX:n=Ca h.h k.h:=by unfold Ca;rw [hx,aH bZ]
  refine wp (h:=bC (λj e H=>∃ q:Xa0,(e 8=.adr h.c/\e 9=.adr k.c/\e 10=.ptr 2 1 0 0/\e 11=.ptr 3 1 0 0/\e 15=dLI D/\e 16=dLI es/\e 17=.ptr 16 1 0 0/\e 18=.ptr 24 1 0 0/\e 97=dLI es/\e 98=dI es.length/\e 99=dI j)/\(H.get 0=some ⟨3,1,n.map cI,false⟩)/\(0<H.next)/\(H.get 1=some ⟨3,1,q.map cI,false⟩)/\(1<H.next)/\(H.get 2=some ⟨45,6,[[.nil,.nil,.nil,.nil,.nil,.nil]],false⟩)/\(2<H.next)/\(H.get 3=some ⟨36,2,[[.nil,.nil]],false⟩)/\(3<H.next)/\(H.get 16=some ⟨45,6,[[dLI O.j.h,.list (O.j.i.map Edge.c),dLI O.left.h,dLI O.left.i,dLI O.right.h,dLI O.right.i]],false⟩)/\(16<H.next)/\(H.get 24=some ⟨36,2,[[.own 0 n.length,.own 1 q.length]],false⟩)/\(24<H.next)/\(j<=k.i.length)/\(q=h.i++(k.i.take j).filter (λx=>!mem h.i x))/\(q.length<=h.i.length+j)) (λj=>k.i.length - j) 0 ⟨h.i,wg,wn,wn,wn,wn,wn,wn,wn,wn,wn,wn,wn,wn,wi,(by simp),bZ⟩ λI2 V j e H m=>?_);obtain ⟨q,E2,a6,L,a4,J,a2,G,a0,E,A,v,y,s,hj,hz,b7⟩:=m;have Y:=xa1 Y E2 (xb0 a6 (bP L) a4 (bP J) a2 (bP G) a0 (bP E) A (bP v) y (bP s));refine c8 (λo=>?_) λo=>?_
  .have hj2:j<k.i.length:=bZ;have T:=lE (h:=h.i) hj2;have hv:es[j]=gS h.i k.i[j]:=by have:=S j hj2;rw [aA o] at this;exact Option.some.inj this
   have Y:=xa3 Y o (aA o) hv (aA hj2);refine kI (λX=>?_) λX=>?_
   .obtain ⟨l,f⟩:∃ x,x=q++[k.i[j]]:=⟨_,rfl⟩;have g:l=h.i++(k.i.take (j+1)).filter (λx=>!mem h.i x):=by rw [f,T,if_pos X,hz,List.append_assoc]
    have Y:=wa Y f;exact wp (h:=wx V (j+1) ⟨l,wg,wn,wn,wn,wn,wn,wn,wn,wn,wn,wn,wn,wn,wj,(by exact g),(by rw [g];simp;have:=dG (λx=>!mem h.i x) (k.i.take (j+1));simp at this;omega)⟩)
   .obtain ⟨l,f⟩:∃ x,x=q:=⟨_,rfl⟩;have g:l=h.i++(k.i.take (j+1)).filter (λx=>!mem h.i x):=by rw [f,T,if_neg bZ,cZ,<- hz]
    have Y:=wa Y f;exact wp (h:=wx V (j+1) ⟨l,wg,wn,wn,wn,wn,wn,wn,wn,wn,wn,wn,wn,wn,wj,(by exact g),(by rw [g];simp;have:=dG (λx=>!mem h.i x) (k.i.take (j+1));simp at this;omega)⟩)
  .have hZ:q=Ca h.i k.i:=by unfold Ca;rw [hz,aH bZ]
   exact wv (h:=hQ _ _ (by simp [go_sem,Y,NJ,<- hX,<- hZ,Part.d,Part.c]))
theorem JP (a b x:Graph)(h k:Part)(h1:jN a x h=true)(h2:jN b x k=true):Pua 50 [a.d,b.d,x.d,h.d,k.d] (.tup [(Qj a b h k).d,(NJ h k).d,dI 0]):=by
 obtain ⟨m1,_⟩:=r4 h1;obtain ⟨m2,_⟩:=r4 h2;obtain ⟨ha,hx,f7,f6⟩:=dA m1;obtain ⟨hb,_,f5,f4⟩:=dA m2;have f9:=aY ha;have f8:=aY hb;have e5:=kA a x h;have e4:=kA b x k;have e7:=mZ a x h;have e6:=mZ b x k;rw [m1] at e5;rw [m2] at e4;rw [h1] at e7;rw [h2] at e6;have I:=wY h.h k.h;have K:=wY h.i k.i;have cG:=JO a b ha hb (nQ h.h k.h) (nQ h.i k.i) bZ bZ;obtain ⟨O,hO⟩:=fH (XI a b (nQ h.h k.h) (nQ h.i k.i));have d4:Qj a b h k=O:=hO.symm;rw [<- hO] at cG;rw [d4];clear hO d4 I K;refine Tz.pK ⟨λt=>t==10||t==11||t==15||t==16||t==17||t==52||t==56||t==131,λr=>match r with|9=>[(0,1),(0,2),(0,4),(1,4),(2,4),(3,4),(0,5),(3,5),(4,5),(0,6),(3,6),(4,6),(0,9),(1,9),(2,9),(3,9),(4,9),(5,9),(6,9),(7,9)]|16=>[(0,7),(1,7)]|22=>[(0,7),(1,7)]|23=>[(4,5),(5,6)]|_=>[]⟩ func50 rfl (λQ hQ=>?_);try simp [go_sem,seval,Ovl.d,Ovl.c,AHeap.U]
 refine aB (e5) ((by first|rfl|(simp [go_sem,<- List.map_take,<- List.map_drop,Ovl.d,Ovl.c,AHeap.U];done))) ?_;try simp [go_sem,seval,Ovl.d,Ovl.c,AHeap.U]
 refine aB (e4) ((by first|rfl|(simp [go_sem,<- List.map_take,<- List.map_drop,Ovl.d,Ovl.c,AHeap.U];done))) ?_;try simp [go_sem,seval,Ovl.d,Ovl.c,AHeap.U]
 repeat first|intro _|refine ⟨gX,?_⟩
 refine aB (e7) ((by first|rfl|(simp [go_sem,<- List.map_take,<- List.map_drop,Ovl.d,Ovl.c,AHeap.U];done))) ?_;try simp [go_sem,seval,Ovl.d,Ovl.c,AHeap.U]
 repeat first|intro _|refine ⟨gX,?_⟩
 refine aG (λhg=>e6) (λhg=>(by first|rfl|(simp [go_sem,<- List.map_take,<- List.map_drop,Ovl.d,Ovl.c,AHeap.U];done))) ?_;try simp [go_sem,seval,Ovl.d,Ovl.c,AHeap.U]
 repeat first|intro _|refine ⟨gX,?_⟩
 obtain ⟨I0,M⟩:∃ I0:Nat->d7->AHeap->Prop,∀ (i:Nat) (e:d7) (H:AHeap),I0 i e H↔(∃ w:Xa0,∃ E:Xa0,(e 5=.adr a.c)/\(e 6=.adr b.c)/\(e 8=.adr h.c)/\(e 9=.adr k.c)/\(e 10=.ptr 0 1 0 0)/\(e 11=.ptr 1 1 0 0)/\(e 15=.ptr 11 1 0 0)/\(e 16=.own 13 w.length)/\(e 17=.own 14 0)/\(e 18=dI i)/\(H.get 0=some ⟨45,6,[[.nil,.nil,.nil,.nil,.nil,.nil]],false⟩)/\(0<H.next)/\(H.get 1=some ⟨36,2,[[.nil,.nil]],false⟩)/\(1<H.next)/\(H.get 2=some ⟨3,1,E.map cI,false⟩)/\(2<H.next)/\(H.get 6=some ⟨3,1,h.i.map cI,false⟩)/\(6<H.next)/\(H.get 11=some ⟨36,2,[[.own 2 E.length,.own 6 h.i.length]],false⟩)/\(11<H.next)/\(H.get 13=some ⟨3,1,w.map cI,false⟩)/\(13<H.next)/\(H.get 14=some ⟨3,1,[],false⟩)/\(14<H.next)/\(i<=k.h.length)/\(w.length=i)/\(w=(k.h.take i).map (gS h.h))/\(E=h.h++(k.h.take i).filter (λx=>!mem h.h x))/\(E.length<=h.h.length+i)):=⟨λi e H=>_,λ_ _ _=>Iff.rfl⟩;refine uJ I0 (λi=>k.h.length - i) (0) ((M _ _ _).2 ⟨([]),(h.h),?_,?_,?_,?_,?_,?_,?_,?_,?_,?_,?_,?_,?_,?_,?_,?_,?_,?_,?_,?_,?_,?_,?_,?_,(by first|assumption|omega|(simp [go_sem,Ovl.d,Ovl.c,AHeap.U];done)|(simp_all;done)),(by rfl),(by rfl),(by simp),bZ⟩) ?_;iterate 24 (first|omega|(simp [go_sem,seval,Ovl.d,Ovl.c,AHeap.U]<;>omega))
 intro i e H e9;obtain ⟨w,E,c5,c3,c1,b9,a5,a3,a1,Z,X,V,e3,d3,e1,d1,d9,c9,d6,c7,b7,b1,b5,a9,b3,a7,hi,I,hn,hx,f3⟩:=(M _ _ _).1 e9;have x0:=bP d3;have x1:=bP d1;have x2:=bP c9;have x6:=bP c7;have T:=bP b1;have S:=bP a9;have R:=bP a7;have B:=xa0 c5 (xb0 c3 c1 b9 a5 a3 a1 Z X V e3 e1 (xb0 d9 d6 b7 b5 b3 x0 x1 x2 x6 T S R));try simp [go_sem,seval,Ovl.d,Ovl.c,AHeap.U,B]
 repeat first|intro _|refine ⟨gX,?_⟩
 refine bA (λm=>?_) (λm=>?_)
 .try simp [go_sem] at m
  have hS:=lE (h:=h.h) m;have hM:=dB (gS h.h) m;obtain ⟨F,q⟩:∃ x,x=w++[gS h.h k.h[i]]:=⟨_,rfl⟩;have G:F=(k.h.take (i+1)).map (gS h.h):=by rw [q,hM,<- hn]
  have f0:F.length=i+1:=by rw [q];simp [I]
  have p:∀ c:D,(w.map cI++[[c]])[i]?=some [c]:=λc=>by rw [aX (by simp;omega)];simp [I]
  have l:∀ (c:D) (h:i<(w.map cI++[[c]]).length),(w.map cI++[[c]])[i]=[c]:=λc h=>by rw [List.getElem_append_right (by simp;omega)];simp
  have o:i<w.length+1:=bZ;have g:(i:Int)<(w.length:Int)+1:=bZ;try simp [go_sem,seval,Ovl.d,Ovl.c,AHeap.U,B,m,q,p,l,o,g,aA m]
  repeat first|intro _|refine ⟨gX,?_⟩
  refine aI (Fy h.h k.h[i]) ((by first|rfl|(simp [go_sem,<- List.map_take,<- List.map_drop,Ovl.d,Ovl.c,AHeap.U,B,m,q,p,l,o,g,aA m];done))) ?_;try simp [go_sem,seval,Ovl.d,Ovl.c,AHeap.U,B,m,q,p,l,o,g,aA m]
  repeat first|intro _|refine ⟨gX,?_⟩
  refine bA (λz=>?_) (λz=>?_)
  .try simp [go_sem] at z
   obtain ⟨C,f⟩:∃ x,x=E++[k.h[i]]:=⟨_,rfl⟩;have u:C=h.h++(k.h.take (i+1)).filter (λx=>!mem h.h x):=by rw [f,hS,if_pos z,hx,List.append_assoc]
   try simp [go_sem,seval,Ovl.d,Ovl.c,AHeap.U,B,m,q,p,l,o,g,aA m,f]
   repeat first|intro _|refine ⟨gX,?_⟩
   refine g9 (i+1) bZ ((M _ _ _).2 ⟨(F),(C),?_,?_,?_,?_,?_,?_,?_,?_,?_,?_,?_,?_,?_,?_,?_,?_,?_,?_,?_,?_,?_,?_,?_,?_,(by first|assumption|omega|(simp [go_sem,Ovl.d,Ovl.c,AHeap.U,B,m,q,p,l,o,g,aA m,f,z];done)|(simp_all<;>omega)),(by rw [G];simp;omega),(by exact G),(by exact u),(by rw [u];simp;have:=dG (λx=>!mem h.h x) (k.h.take (i+1));simp at this;omega)⟩)<;>first|omega|(simp [go_sem,seval,Ovl.d,Ovl.c,AHeap.U,B,m,q,p,l,o,g,aA m,f]<;>omega)
  .try simp [go_sem] at z
   obtain ⟨C,f⟩:∃ x,x=E:=⟨_,rfl⟩;have u:C=h.h++(k.h.take (i+1)).filter (λx=>!mem h.h x):=by rw [f,hS,if_neg bZ,cZ,<- hx]
   try simp [go_sem,seval,Ovl.d,Ovl.c,AHeap.U,B,m,q,p,l,o,g,aA m,f]
   repeat first|intro _|refine ⟨gX,?_⟩
   refine g9 (i+1) bZ ((M _ _ _).2 ⟨(F),(C),?_,?_,?_,?_,?_,?_,?_,?_,?_,?_,?_,?_,?_,?_,?_,?_,?_,?_,?_,?_,?_,?_,?_,?_,(by first|assumption|omega|(simp [go_sem,Ovl.d,Ovl.c,AHeap.U,B,m,q,p,l,o,g,aA m,f,z];done)|(simp_all<;>omega)),(by rw [G];simp;omega),(by exact G),(by exact u),(by rw [u];simp;have:=dG (λx=>!mem h.h x) (k.h.take (i+1));simp at this;omega)⟩)<;>first|omega|(simp [go_sem,seval,Ovl.d,Ovl.c,AHeap.U,B,m,q,p,l,o,g,aA m,f]<;>omega)
 .try simp [go_sem] at m
  have hX:E=Ca h.h k.h:=by unfold Ca;rw [hx,aH bZ]
  have hN:w=nQ h.h k.h:=by unfold nQ;rw [hn,dV _ bZ]
  try simp [go_sem,seval,Ovl.d,Ovl.c,AHeap.U,B]
  obtain ⟨I2,L⟩:∃ I2:Nat->d7->AHeap->Prop,∀ (j:Nat) (e:d7) (H:AHeap),I2 j e H↔(∃ A:Xa0,∃ P:Xa0,(e 5=.adr a.c)/\(e 6=.adr b.c)/\(e 8=.adr h.c)/\(e 9=.adr k.c)/\(e 10=.ptr 0 1 0 0)/\(e 11=.ptr 1 1 0 0)/\(e 15=.ptr 11 1 0 0)/\(e 16=.own 13 w.length)/\(e 17=.own 14 A.length)/\(e 19=dI j)/\(H.get 0=some ⟨45,6,[[.nil,.nil,.nil,.nil,.nil,.nil]],false⟩)/\(0<H.next)/\(H.get 1=some ⟨36,2,[[.nil,.nil]],false⟩)/\(1<H.next)/\(H.get 2=some ⟨3,1,E.map cI,false⟩)/\(2<H.next)/\(H.get 6=some ⟨3,1,P.map cI,false⟩)/\(6<H.next)/\(H.get 11=some ⟨36,2,[[.own 2 E.length,.own 6 P.length]],false⟩)/\(11<H.next)/\(H.get 13=some ⟨3,1,w.map cI,false⟩)/\(13<H.next)/\(H.get 14=some ⟨3,1,A.map cI,false⟩)/\(14<H.next)/\(j<=k.i.length)/\(A.length=j)/\(A=(k.i.take j).map (gS h.i))/\(P=h.i++(k.i.take j).filter (λx=>!mem h.i x))/\(P.length<=h.i.length+j)):=⟨λj e H=>_,λ_ _ _=>Iff.rfl⟩;refine uJ I2 (λj=>k.i.length - j) (0) ((L _ _ _).2 ⟨([]),(h.i),?_,?_,?_,?_,?_,?_,?_,?_,?_,?_,?_,?_,?_,?_,?_,?_,?_,?_,?_,?_,?_,?_,?_,?_,(by first|assumption|omega|(simp [go_sem,Ovl.d,Ovl.c,AHeap.U,B];done)|(simp_all;done)),(by rfl),(by rfl),(by simp),bZ⟩) ?_;iterate 24 (first|omega|(simp [go_sem,seval,Ovl.d,Ovl.c,AHeap.U,B]<;>omega))
  intro j e H e8;obtain ⟨A,P,c4,c2,c0,b8,a4,a2,a0,Y,W,U,e2,d2,e0,d0,d8,c8,d5,c6,b6,b0,b4,a8,b2,a6,hj,K,he,hz,f2⟩:=(L _ _ _).1 e8;have x0:=bP d2;have x1:=bP d0;have x2:=bP c8;have x6:=bP c6;have T:=bP b0;have S:=bP a8;have R:=bP a6;have v:=xa0 c4 (xb0 c2 c0 b8 a4 a2 a0 Y W U e2 e0 (xb0 d8 d5 b6 b4 b2 x0 x1 x2 x6 T S R));try simp [go_sem,seval,Ovl.d,Ovl.c,AHeap.U,v]
  repeat first|intro _|refine ⟨gX,?_⟩
  refine bA (λn=>?_) (λn=>?_)
  .try simp [go_sem] at n
   have hS:=lE (h:=h.i) n;have hM:=dB (gS h.i) n;obtain ⟨N,s⟩:∃ x,x=A++[gS h.i k.i[j]]:=⟨_,rfl⟩;have J:N=(k.i.take (j+1)).map (gS h.i):=by rw [s,hM,<- he]
   have f1:N.length=j+1:=by rw [s];simp [K]
   have p:∀ c:D,(A.map cI++[[c]])[j]?=some [c]:=λc=>by rw [aX (by simp;omega)];simp [K]
   have l:∀ (c:D) (h:j<(A.map cI++[[c]]).length),(A.map cI++[[c]])[j]=[c]:=λc h=>by rw [List.getElem_append_right (by simp;omega)];simp
   have o:j<A.length+1:=bZ;have g:(j:Int)<(A.length:Int)+1:=bZ;try simp [go_sem,seval,Ovl.d,Ovl.c,AHeap.U,v,n,s,p,l,o,g,aA n]
   repeat first|intro _|refine ⟨gX,?_⟩
   refine aI (Fy h.i k.i[j]) ((by first|rfl|(simp [go_sem,<- List.map_take,<- List.map_drop,Ovl.d,Ovl.c,AHeap.U,v,n,s,p,l,o,g,aA n];done))) ?_;try simp [go_sem,seval,Ovl.d,Ovl.c,AHeap.U,v,n,s,p,l,o,g,aA n]
   repeat first|intro _|refine ⟨gX,?_⟩
   refine bA (λy=>?_) (λy=>?_)
   .try simp [go_sem] at y
    obtain ⟨C,f⟩:∃ x,x=P++[k.i[j]]:=⟨_,rfl⟩;have u:C=h.i++(k.i.take (j+1)).filter (λx=>!mem h.i x):=by rw [f,hS,if_pos y,hz,List.append_assoc]
    try simp [go_sem,seval,Ovl.d,Ovl.c,AHeap.U,v,n,s,p,l,o,g,aA n,f]
    repeat first|intro _|refine ⟨gX,?_⟩
    refine g9 (j+1) bZ ((L _ _ _).2 ⟨(N),(C),?_,?_,?_,?_,?_,?_,?_,?_,?_,?_,?_,?_,?_,?_,?_,?_,?_,?_,?_,?_,?_,?_,?_,?_,(by first|assumption|omega|(simp [go_sem,Ovl.d,Ovl.c,AHeap.U,v,n,s,p,l,o,g,aA n,f,m,y];done)|(simp_all<;>omega)),(by rw [J];simp;omega),(by exact J),(by exact u),(by rw [u];simp;have:=dG (λx=>!mem h.i x) (k.i.take (j+1));simp at this;omega)⟩)<;>first|omega|(simp [go_sem,seval,Ovl.d,Ovl.c,AHeap.U,v,n,s,p,l,o,g,aA n,f]<;>omega)
   .try simp [go_sem] at y
    obtain ⟨C,f⟩:∃ x,x=P:=⟨_,rfl⟩;have u:C=h.i++(k.i.take (j+1)).filter (λx=>!mem h.i x):=by rw [f,hS,if_neg bZ,cZ,<- hz]
    try simp [go_sem,seval,Ovl.d,Ovl.c,AHeap.U,v,n,s,p,l,o,g,aA n,f]
    repeat first|intro _|refine ⟨gX,?_⟩
    refine g9 (j+1) bZ ((L _ _ _).2 ⟨(N),(C),?_,?_,?_,?_,?_,?_,?_,?_,?_,?_,?_,?_,?_,?_,?_,?_,?_,?_,?_,?_,?_,?_,?_,?_,(by first|assumption|omega|(simp [go_sem,Ovl.d,Ovl.c,AHeap.U,v,n,s,p,l,o,g,aA n,f,m,y];done)|(simp_all<;>omega)),(by rw [J];simp;omega),(by exact J),(by exact u),(by rw [u];simp;have:=dG (λx=>!mem h.i x) (k.i.take (j+1));simp at this;omega)⟩)<;>first|omega|(simp [go_sem,seval,Ovl.d,Ovl.c,AHeap.U,v,n,s,p,l,o,g,aA n,f]<;>omega)
  .try simp [go_sem] at n
   have hZ:P=Ca h.i k.i:=by unfold Ca;rw [hz,aH bZ]
   have hE:A=nQ h.i k.i:=by unfold nQ;rw [he,dV _ bZ]
   rw [<- hN,<- hE] at cG;try simp [go_sem,seval,Ovl.d,Ovl.c,AHeap.U,v]
   refine MX [(13,⟨3,1,w.map cI,true⟩),(14,⟨3,1,A.map cI,true⟩)] cG (by simp [go_sem,Ovl.d,Ovl.c,AHeap.U,v]) (by first|rfl|(simp [go_sem];done)) (by simp [go_sem]) (by simp [Ovl.d,Ovl.c,AHeap.U,v]) eG rfl (by first|trivial|(simp [go_sem];done)|simp [go_sem,BH]) ?_;try simp [go_sem,seval,Ovl.d,Ovl.c,AHeap.U,v]
   repeat first|intro _|refine ⟨gX,?_⟩
   exact hQ _ _ (by first|(left;(simp [go_sem,Ovl.d,Ovl.c,AHeap.U,v,NJ,<- hX,<- hZ,Part.d,Part.c]);done)|(right;(simp [go_sem,Ovl.d,Ovl.c,AHeap.U,v,NJ,<- hX,<- hZ,Part.d,Part.c]);done))
end Go.Abs
end
