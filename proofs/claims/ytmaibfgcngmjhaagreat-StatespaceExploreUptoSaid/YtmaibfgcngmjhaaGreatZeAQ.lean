/- Layer 26 of the reference: grow in a region that draws its o -/
import Derived.Test.YtmaibfgcngmjhaaGreatZeAP
import Derived.Test.YtmaibfgcngmjhaaGreatZeAK
import Derived.Test.YtmaibfgcngmjhaaGreatZeAO
import Derived.Test.YtmaibfgcngmjhaaGreatZeAG
import Derived.Test.YtmaibfgcngmjhaaGreatZeAA
set_option linter.unusedVariables false
set_option linter.unusedSimpArgs false
section
set_option maxRecDepth 100000
set_option maxHeartbeats 4000000
open Go Go.Proofs Tryz
namespace Go.Abs
def Ss (t:Types)(r:Rule)(c:Part)(x0:Host)(a b V:Nat)(qs ns:List Nat):List (Nat × Blk) :=
 [(a,⟨3,1,(kP t r c x0).o.i.map cI,false⟩),(b,⟨124,3,(kP t r c x0).o.j.map Edge.c,false⟩),(V,⟨27,1,mA (qs++ns) (kP t r c x0).values,false⟩)]
def W8 (t:Types)(r:Rule)(ns:List Nat):List (Nat × Blk):=UC ns (r.ac.map λk=>pW t (gN r.right.o k))
theorem TU {H H':AHeap}{t:Types}{r:Rule}{c:Part}{m:Host}{G a b V:Nat}{f ns:List Nat}(hh:HH H G a b V f m)(E:∀ j∈a :: b :: V :: f,H'.get j=H.get j)(F:ns.length=r.ac.length)(w:(a :: b :: V :: (f++ns)).Nodup)
  (B:∀ j∈a :: b :: V :: (f++ns),j<H'.next):HH ((H'.ai (Ss t r c m a b V f ns)).ad (W8 t r ns)) 0 a b V (f++ns) (kP t r c m)/\((H'.ai (Ss t r c m a b V f ns)).ad (W8 t r ns)).next=H'.next /\
   (∀ j,j∉a :: b :: V :: (f++ns)->((H'.ai (Ss t r c m a b V f ns)).ad (W8 t r ns)).get j=H'.get j)/\(∀ j,((H'.ai (Ss t r c m a b V f ns)).ad (W8 t r ns)).J j↔H'.J j\/j∈ns):=by
 have l:(W8 t r ns).map (·.1)=ns:=Io (cG F);have y:=hh.ab;have n:∀ j∈ns,j≠a/\j≠b/\j≠V/\j∉f:=λj g=>by
  have h:=w;simp only [gC,aP,aQ,not_or,gG] at h;exact ⟨λe=>h.1.2.2.2 (e ▸ g),λe=>h.2.1.2.2 (e ▸ g),λe=>h.2.2.1.2 (e ▸ g),λz=>h.2.2.2.2.2 j z j g rfl⟩
 have I:((W8 t r ns).map (·.1)).Nodup:=by
  rw [l];have h:=w;simp only [gC,gG] at h;exact h.2.2.2.2.1
 have d:∀ j,j∉ns->((H'.ai (Ss t r c m a b V f ns)).ad (W8 t r ns)).get j=(H'.ai (Ss t r c m a b V f ns)).get j:=λj g=>qD _ _ _ (by rw [l];exact g);have A:((H'.ai (Ss t r c m a b V f ns)).ad (W8 t r ns)).next=H'.next:=by
  rw [rR _ _ λp u=>?_,yF];rw [yF];refine B p.1 ?_;have:p.1∈ns:=by rw [<- l];exact qI u
  simp [this]
 have o:(kP t r c m).values=m.values++r.ac.map (λk=>pW t (gN r.right.o k)):=rfl;refine ⟨⟨?_,?_,?_,?_,λi q v C D=>?_,w,λj g=>⟨dN _,by rw [A];exact B j g⟩⟩,A,λj g=>?_,λj=>?_⟩
 .rw [d a λx=>(n a x).1 rfl];simp [AHeap.ai,AHeap.put,Ss,y.1,y.2.1]
 .rw [d b λx=>(n b x).2.1 rfl];simp [AHeap.ai,AHeap.put,Ss,y.2.2]
 .rw [d V λx=>(n V x).2.2.1 rfl];simp [AHeap.ai,AHeap.put,Ss]
 .rw [o,aO,aO,bR,hh.len,F]
 .by_cases hi:i<f.length
  .rw [aY hi] at C;rw [o,aY (by rw [<- hh.len];exact hi)] at D;have z:=aK C;have s:=hh.qn z;rw [d q λx=>(n q x).2.2.2 z,zT _ _ _ (λp u=>?_),E q (hh.ay z)]
   .exact hh.gq i q v C D
   .simp only [Ss,aP,dU,or_false] at u;rcases u with rfl|rfl|rfl
    .exact Ne.symm s.1
    .exact Ne.symm s.2.1
    .exact Ne.symm s.2.2
  .rw [bF bL] at C;rw [o,bF (by rw [<- hh.len];omega),<- hh.len] at D;exact yG _ _ I (O3 C D)
 .simp only [aP,aQ,not_or] at g;rw [d j g.2.2.2.2,zT _ _ _ λp u=>?_];simp only [Ss,aP,dU,or_false] at u;rcases u with rfl|rfl|rfl
  .exact Ne.symm g.1
  .exact Ne.symm g.2.1
  .exact Ne.symm g.2.2.1
 .rw [uS,l,Ny]
theorem ACalls.wf {P:Program}{f:FuncId}{args:Xa2}{H:AHeap}{Q:D->AHeap->Prop}(he:XZ P f)(h:(∀ j,H.J j->j<H.next)->(∀ j,¬ H.J j->H.get j=none)->ACalls P f args H Q):ACalls P f args H Q :=
 ⟨he,λM0 σ w vals hR ha=>(h hR.bb λj hj=>(hR.bf j hj).2).2 M0 σ w vals hR ha⟩
theorem Qx {md:Nat->Bool}{ops:Array Oper}{Q:List (Nat × Nat)}{O i:Nat}{A:List Oper}{F:List (Nat × List Nat)}{e:dO}{D:Option Tmp}{K:dO->AHeap->Prop}{H:AHeap}
  (t:Types) (ht:t.ok) (r:Rule) (hR:RuleV t r) (f:Host) (c:Part) (hc:c.i.length=r.right.o.i.length) (hs:f.o.i.length<=1000/\f.o.j.length<=1000/\f.values.length<=1000)
  (lo a b V:Nat) (g ns:List Nat) (hh:HH H lo a b V g f) (X:ns.length=r.ac.length) (I:(a :: b :: V :: (g++ns)).Nodup) (U:O<=H.next) (J:∀ j∈ns,j<O/\¬ H.J j)
  (W:EI md D=true) (a1:chk Q i (a :: b :: V :: (g++ns)) F)
  (hK:∀ E,HH E 0 a b V (g++ns) (kP t r c f)->(∀ j,j∉a :: b :: V :: (g++ns)->E.get j=H.get j)->(∀ j,E.J j↔H.J j\/j∈ns)->E.next=H.next ->
   kQ prog md ops Q O (i+1) A ((i,a :: b :: V :: (g++ns)) :: F) (nB e D (.agg [.own a (kP t r c f).o.i.length,.own b (kP t r c f).o.j.length,.own V (kP t r c f).values.length])) E K) :
  pZ prog md ops Q O i A F e D K 147 [t.d,r.d,.agg [.own a f.o.i.length,.own b f.o.j.length,.own V f.values.length],c.d] H:=by
 have o:(W8 t r ns).map (·.1)=ns:=Io (cG X);have M:=(Ge t ht r hR f c hc hs H lo a b V g hh (λ_ _=>True) (λ_ _ _ _ _ _=>trivial)).1;unfold pZ;refine Or.inr ⟨W,.agg [.own a (kP t r c f).o.i.length,.own b (kP t r c f).o.j.length,.own V (kP t r c f).values.length],a :: b :: V :: g,Ss t r c f a b V g ns,W8 t r ns,λp w=>?_,λp w=>J p.1 (by rw [<- o];exact qI w),λx s y=>?_,?_,?_⟩
 .simp only [Ss,aP,dU,or_false] at w;rcases w with rfl|rfl|rfl<;>simp
 .refine ACalls.wf M λn B=>?_;have L:∀ j∈ns,j<x.next/\¬ x.J j:=λj m=>by
   rw [<- o,aS] at m;obtain ⟨p,w,rfl⟩:=m;exact y p w
  have a0:∀ j∈a :: b :: V :: g,∃ k,H.get j=some k:=λj m=>by
   simp only [aP] at m;rcases m with rfl|rfl|rfl|hq
   .exact ⟨_,hh.ga⟩
   .exact ⟨_,hh.gb⟩
   .exact ⟨_,hh.gV⟩
   .obtain ⟨p,w,rfl⟩:=aM hq;exact ⟨_,hh.gq p _ _ (aA w) (aA (by rw [<- hh.len];exact w))⟩
  have z:∀ j∈a :: b :: V :: g,x.J j:=λj m=>bE λhn=>by
   obtain ⟨k,hk⟩:=a0 j m;have:=s j m;rw [hk,B j hn] at this;cases this
  have Z:HH x 0 a b V g f:=⟨(s a hh.a6).trans hh.ga,(s b hh.a2).trans hh.gb,(s V hh.ba).trans hh.gV,hh.len,λi q v h1 h2=>(s q (hh.ay (aK h1))).trans (hh.gq i q v h1 h2),hh.nd,λj m=>⟨dN _,n j (z j m)⟩⟩;have C:∀ j∈a :: b :: V :: (g++ns),j<x.next:=λj m=>by
   simp only [aP,aQ] at m;rcases m with h|h|h|h|h
   .exact n j (z j (by simp [h]))
   .exact n j (z j (by simp [h]))
   .exact n j (z j (by simp [h]))
   .exact n j (z j (by simp [h]))
   .exact (L j h).1
  obtain ⟨g1,g2,g3,g4⟩:=TU (t:=t) (r:=r) (c:=c) hh s X I C;refine ACalls.exact (E:=(x.ai (Ss t r c f a b V g ns)).ad (W8 t r ns)) (Ge t ht r hR f c hc hs x 0 a b V g Z (λd P=>∃ u,(∀ j∈u,x.next<=j)/\HH P 0 a b V (g++u) (kP t r c f)/\(∀ j,j<x.next->j∉a :: b :: V :: g->P.get j=x.get j)/\d=.agg [.own a (kP t r c f).o.i.length,.own b (kP t r c f).o.j.length,.own V (kP t r c f).values.length]) (λu P T S R _=>⟨u,T,S,R,rfl⟩)) ?_;rintro _ _ d P ⟨u,T,S,R,rfl⟩;refine HH.exact g1 S n B (by rw [g2];exact aT _) (λj=>?_) (λj m Y=>R j (n j m) λhm=>Y (by simp only [aP,aQ] at hm ⊢;rcases hm with h|h|h|h<;>simp [h])) g3 (λp j j1 N G=>?_)
  .rw [g4];constructor
   .rintro (h|h)
    .exact .inl h
    .exact .inr (by simp [h])
   .rintro (h|h)
    .exact .inl h
    .simp only [aP,aQ] at h;rcases h with h|h|h|h|h
     .exact .inl (z j (by simp [h]))
     .exact .inl (z j (by simp [h]))
     .exact .inl (z j (by simp [h]))
     .exact .inl (z j (by simp [h]))
     .exact .inr h
  .have ea:∀ l:List Nat,a :: b :: V :: (g++l)=(a :: b :: V :: g)++l:=λl=>rfl;rw [ea] at N G;by_cases w:p<(a :: b :: V :: g).length
   .rw [aY w] at N G;rw [N] at G;cases G
    exact ⟨λ_=>rfl,λh=>h⟩
   .rw [bF bL] at N G;have m1:=L j (aK N);have m2:=T j1 (aK G);exact ⟨λh=>absurd h m1.2,λ_ h=>by have:=n j1 h;omega⟩
 .rw [o];exact a1
 .rw [o];have C:∀ j∈a :: b :: V :: (g++ns),j<H.next:=λj m=>by
   simp only [aP,aQ] at m;rcases m with h|h|h|h|h
   .exact (hh.W j (by simp [h])).2
   .exact (hh.W j (by simp [h])).2
   .exact (hh.W j (by simp [h])).2
   .exact (hh.W j (by simp [h])).2
   .exact cH (J j h).1 U
  obtain ⟨g1,g2,g3,g4⟩:=TU (t:=t) (r:=r) (c:=c) hh (λ_ _=>rfl) X I C;exact hK _ g1 g3 g4 g2
structure Rule.ef (r:Rule):Prop where
 s1:r.left.q.length<=1000000
 t1:r.left.R.length<=1000000
 s2:r.right.q.length<=1000000
theorem aaQ {l:Xa0}{v:Int}(h:mem l v=true):0<=Ox l v/\(Ox l v).toNat<l.length/\l[(Ox l v).toNat]?=some v:=by
 obtain ⟨i,e,f⟩:=aM ((mem_iff l v).1 h);have b:0<=Ox l v:=by simpa [mem] using h
 unfold Ox at b ⊢;cases a:l.findIdx? (λx=>decide (x=v)) with
 | none=>rw [a] at b;simp at b
 | some k =>
  rw [gS] at a;obtain ⟨d,c,_⟩:=a;simp only [decide_eq_true_eq] at c;exact ⟨by simp,by simpa using d,by simp [d,c]⟩
theorem rY {f:Nat->Int}:∀ (n k:Nat),(∀ j,k<=j->j<k+n->f j=0)->b6 f k n=0
 | 0,k,_=>rfl
 | n+1,k,h=>by
  unfold b6;rw [if_neg (by rw [h k (aT _) bL];simp)];exact rY n (k+1) λj h1 h2=>h j bL bL
theorem XB {l:Xa0}{n:Int}(d:∀ x∈l,0<=x/\x<n)(c:l.Pairwise (· < ·)):Hf l n=0:=by
 refine rY _ _ λj _ f=>?_;have a:j<l.length:=bL;have e:=d _ (aC a);unfold JY;rw [aA a,aF,if_neg bL,if_neg];rintro ⟨g,b⟩;rw [aA (bL:j - 1<l.length),aF] at b;have:=cA.1 c (j - 1) j bL a bL;omega
theorem XD {l:Xa0}(h:l.Pairwise (· < ·))(h0:∀ x∈l,0<=x):∀ i (hi:i<l.length),(i:Int)<=l[i]
 | 0,hi=>by have:=h0 _ (aC hi);omega
 | i+1,hi=>by
  have h1:=XD h h0 i bL;have h2:=cA.1 h i (i+1) bL hi bL;omega
theorem Qa {α:Type}{f:α->Int}:∀ {l:List α},(∀ x∈l,f x=0)->iN f l=0
 | [],_=>rfl
 | x :: l,h=>by
  unfold iN;rw [if_neg (by rw [h x (j5 ..)];simp)];exact Qa λy hy=>h y (cZ _ hy)
def eA (g:Graph)(k:Int):Edge:=g.j[k.toNat]?.getD cK
def iA (l:Xa0)(k:Int):Int:=l[k.toNat]?.getD 0
theorem Yc {g:Graph}{p:Part}(i:graphF g=0)(h:∀ x∈p.i,0<=x/\x<g.i.length)(b:p.i.Pairwise (· < ·))(j:∀ x∈p.j,0<=x/\x<g.j.length)(c:p.j.Pairwise (· < ·))
  (a:∀ k∈p.j,(eA g k).from_∈p.i/\(eA g k).L∈p.i):subF g p=0:=by
 unfold subF tF;rw [if_neg (by rw [i];simp),if_neg (by rw [XB h b];simp),if_neg (by rw [XB j c];simp)];refine Qa λk d=>?_;have f:=(mem_iff _ _).2 (a k d).1;have e:=(mem_iff _ _).2 (a k d).2;unfold eA at f e;unfold Bt;rw [if_pos (by rw [f,e];rfl)]
theorem RX (p:Nat->Bool)(n:Nat):(((List.range n).filter p).map λ(b:Nat)=>(b:Int)).Pairwise (· < ·):=by
 rw [kW];have h:((List.range n).filter p).Pairwise (· < ·):=List.Pairwise.filter _ List.pairwise_lt_range;exact h.imp λh=>by omega
theorem II (p:Nat→Bool)(n:Nat)(x:Int):x∈(((List.range n).filter p).map fun (b:Nat)=>(b:Int))↔(0≤x∧x<n)∧p x.toNat=true:=by
 simp only [aS,dR,bN];constructor
 ·rintro ⟨a,⟨h1,h2⟩,rfl⟩;exact ⟨by omega,by simpa using h2⟩
 ·rintro ⟨⟨h1,h2⟩,h3⟩;exact ⟨x.toNat,⟨by omega,h3⟩,by omega⟩
theorem oE {l:Xa0}{n:Nat}{x:Int}:x∈dC l n↔(0<=x/\x<n)/\x∉l:=by
 unfold dC;rw [II];constructor
 .rintro ⟨h,a⟩;refine ⟨h,λb=>?_⟩;rw [show ((x.toNat:Nat):Int)=x by omega,(mem_iff l x).2 b] at a;cases a
 .rintro ⟨h,a⟩;refine ⟨h,?_⟩;rw [show ((x.toNat:Nat):Int)=x by omega,b7,bP];exact λb=>a ((mem_iff l x).1 b)
theorem wI (l:Xa0)(n:Nat):(dC l n).Pairwise (· < ·):=RX _ n
theorem LV {a b:Graph}{m:Part}(h:fD a b m=0):(∀ i,i<a.i.length->mF a b m i=0)/\∀ k,k<a.j.length->jP a b m k=0:=by
 obtain ⟨e,d,l,j⟩:=pV h;have c:fD a b m=(if b6 (mF a b m) 0 a.i.length≠0 then b6 (mF a b m) 0 a.i.length else b6 (jP a b m) 0 a.j.length):=by
  unfold fD;rw [if_neg (by rw [e];simp),if_neg (by rw [d];simp),if_neg bL]
 rw [c] at h;split at h
 .rename_i q;exact absurd h q
 .rename_i q;exact ⟨λi g=>fF a.i.length 0 (bL:b6 (mF a b m) 0 a.i.length=0) i bL bL,λk f=>fF a.j.length 0 h k bL bL⟩
theorem R6 {a b:Graph}{m:Part}(h:fD a b m=0){i:Int}(d:0<=i)(c:i<a.i.length):(0<=iA m.i i/\iA m.i i<b.i.length)/\gN b (iA m.i i)=gN a i:=by
 have q:=(LV h).1 i.toNat bL;unfold mF at q;split at q
 .cases q
 .rename_i q1;split at q
  .cases q
  .rename_i q2;exact ⟨by unfold iA;omega,by unfold gN iA;simpa using q2⟩
theorem R7 {a b:Graph}{m:Part}(h:fD a b m=0){k:Int}(e:0<=k)(d:k<a.j.length):(0<=iA m.j k/\iA m.j k<b.j.length)/\(eA a k).type=(eA b (iA m.j k)).type /\
  iA m.i (eA a k).from_=(eA b (iA m.j k)).from_/\iA m.i (eA a k).L=(eA b (iA m.j k)).L:=by
 have q:=(LV h).2 k.toNat bL;unfold jP at q;split at q
 .cases q
 .rename_i q1;split at q
  .cases q
  .rename_i q2;split at q
   .cases q
   .rename_i q3;unfold eA iA;refine ⟨bL,by simpa using q2,?_,?_⟩<;>exact bE λc=>q3 (by first|exact .inl c|exact .inr c)
theorem T1 {g:Graph}(c:graphF g=0){k:Int}(e:0<=k)(d:k<g.j.length):(0<=(eA g k).from_/\(eA g k).from_<g.i.length)/\(0<=(eA g k).L/\(eA g k).L<g.i.length)/\0<=(eA g k).type/\(eA g k).type<=99:=by
 have a:k.toNat<g.j.length:=bL;have b:=(eI c).2 _ (aC a);unfold eA;rw [aA a,aF];exact ⟨b.2.1,b.2.2,b.1⟩
theorem Qv {a keep:Xa0}(h:u6 a keep=[]){i k:Nat}(c:i<k)(e:k<a.length):xH a keep i k=false:=by
 rw [bP];intro d;have b:(i,k)∈u6 a keep:=by
  unfold u6 JD;rw [bM];refine ⟨i,bN.2 bL,?_⟩;unfold nI;rw [aS];exact ⟨k - (i+1),dR.2 ⟨bN.2 bL,by rw [show i+1+(k - (i+1))=k by omega];exact d⟩,by simp;omega⟩
 rw [h] at b;cases b
theorem Xh {a keep:Xa0}(h:u6 a keep=[]){i k:Nat}(e:i<a.length)(d:k<a.length)(b:i≠k)(c:a[i]?.getD 0=a[k]?.getD 0):mem keep i=true/\mem keep k=true:=by
 rcases Nat.lt_or_gt_of_ne b with hlt|hlt
 .have:=Qv h hlt d;unfold xH at this;rw [c] at this;simpa using this
 .have:=Qv h hlt e;unfold xH at this;rw [c] at this;simp at this;exact ⟨this.2,this.1⟩
theorem N0 {l g:Graph}{keep m:Part}(h:tK l g keep m=0):fD l g m=0/\subF l keep=0/\u6 m.i keep.i=[]/\u6 m.j keep.j=[]/\CA g m.j (lO m.i keep.i)=[]:=by
 unfold tK at h;split at h
 .rename_i q;exact absurd h q
 .rename_i q;have a:compG l g keep m=0:=bL;unfold compG at a;split at h
  .cases h
  .rename_i q2;split at h
   .cases h
   .rename_i q3;have b:fD l g m=0/\subF l keep=0:=by
     split at a
     .rename_i q5;exact absurd a q5
     .rename_i q5;exact ⟨bL,a⟩
    exact ⟨b.1,b.2,bI bL,bI bL,bI bL⟩
theorem BT {b keep:Xa0}(h:u6 b keep=[]){j:Int}(l:0<=j)(k:j<b.length)(e:j∈keep):iA b j∉lO b keep:=by
 intro d;obtain ⟨i,f,a,g⟩:=Fr.1 d;have c:i≠j.toNat:=by
  rintro rfl;rw [show ((j.toNat:Nat):Int)=j by omega,(mem_iff _ _).2 e] at a;cases a
 have:=Xh h f (bL:j.toNat<b.length) c (by rw [g];rfl);rw [a] at this;exact absurd this.1 bS
theorem YW {l g:Graph}{keep m:Part}(h:tK l g keep m=0):subF g (u9 l g keep m)=0:=by
 obtain ⟨z,D,r,H,y⟩:=N0 h;unfold u9;rw [if_pos h];obtain ⟨w,A,E,F⟩:=pV z;refine Yc A (λx s=>mL s) (wI _ _) (λx s=>mL s) (wI _ _) λk G=>?_;obtain ⟨c,t⟩:=oE.1 G;have a:=T1 A c.1 c.2;by_cases o:k∈m.j
 .obtain ⟨i,v,p⟩:=aM o;have d:(i:Int)∈keep.j:=by
   refine bE λI=>t (Fr.2 ⟨i,v,?_,?_⟩)
   .rw [bP];exact λf=>I ((mem_iff _ _).1 f)
   .rw [aA v,p]
  have j:=EU D i d;have q:=T1 (k:=(i:Int)) w bL bL;have b:=R7 (k:=(i:Int)) z bL bL;have u:iA m.j i=k:=by unfold iA;simp [v,p]
  rw [u] at b;have C:=BT r q.1.1 bL ((mem_iff _ _).1 j.1);have B:=BT r q.2.1.1 bL ((mem_iff _ _).1 j.2);rw [b.2.2.1] at C;rw [b.2.2.2] at B;exact ⟨oE.2 ⟨a.1,C⟩,oE.2 ⟨a.2.1,B⟩⟩
 .have e:Bu g m.j (lO m.i keep.i) k.toNat=false:=by
   rw [bP];intro e;have n:k∈CA g m.j (lO m.i keep.i):=by
    unfold CA;rw [II];exact ⟨c,e⟩
   rw [y] at n;cases n
  unfold Bu at e;rw [show ((k.toNat:Nat):Int)=k by omega,show mem m.j k=false by rw [bP];exact λf=>o ((mem_iff _ _).1 f)] at e;simp only [GR,fP,Ci] at e;exact ⟨oE.2 ⟨a.1,λf=>by have:=(mem_iff _ _).2 f;unfold eA at this;rw [e.1] at this;cases this⟩,oE.2 ⟨a.2.1,λf=>by have:=(mem_iff _ _).2 f;unfold eA at this;rw [e.2] at this;cases this⟩⟩
theorem Vv {g:Graph}(k:g.i.length<=40)(j:g.j.length<=80)(e:∀ a∈g.i,0<=a/\a<=99)
  (f:∀ x∈g.j,(0<=x.type/\x.type<=99)/\(0<=x.from_/\x.from_<g.i.length)/\(0<=x.L/\x.L<g.i.length)):graphF g=0:=by
 unfold graphF;rw [if_neg bL,if_neg,if_neg]
 .rw [aZ];rintro ⟨x,d,b⟩;have i:=f x d;have c:wR x g.i.length=true:=by simp [wR,jI];omega
  rw [c] at b;cases b
 .rw [aZ];rintro ⟨a,h,b⟩;have i:=e a h;have c:jI a 99=true:=by simp [jI];omega
  rw [c] at b;cases b
theorem Xa {g:Graph}{n:Int}(h0:0<=n)(h:n<g.i.length):gN g n∈g.i:=by
 unfold gN;rw [aA (bL:n.toNat<g.i.length),aF];exact aC _
theorem abH {g:Graph}{n:Int}(h0:0<=n)(h:n<g.j.length):eA g n∈g.j:=by
 unfold eA;rw [aA (bL:n.toNat<g.j.length),aF];exact aC _
theorem XC {l:Xa0}{n:Nat}(h:l.Pairwise (· < ·))(a:∀ x∈l,0<=x/\x<n):l.length<=n:=by
 rcases Nat.eq_zero_or_pos l.length with h1|h1
 .omega
 .have h2:=XD h (λx b=>(a x b).1) (l.length - 1) bL;have c:=a _ (aC (bL:l.length - 1<l.length));omega
theorem Wt {l:Xa0}(f:l.Pairwise (· < ·)){v:Int}(e:v∈l):yI l v<l.length/\iA l (yI l v)=v/\Ox l v=yI l v:=by
 have a:=(mem_iff l v).2 e;have d:=DY f a;obtain ⟨g,c,b⟩:=aaQ a;rw [d] at g c b;refine ⟨by simpa using c,?_,d⟩;unfold iA;rw [b];rfl
theorem OQ {g:Graph}{p:Part}(h:subF g p=0){k:Int}(a:k∈p.j):(eA g k).from_∈p.i/\(eA g k).L∈p.i:=by
 have:=EU h k a;exact ⟨(mem_iff _ _).1 this.1,(mem_iff _ _).1 this.2⟩
theorem aa8 (g:Graph)(p:Part)(k:Int):gEd g p k=⟨(eA g k).type,yI p.i (eA g k).from_,yI p.i (eA g k).L⟩:=rfl
theorem aaG {α β:Type}(f:α->β)(l:List α)(d:α)(e:β){i:Nat}(h:i<l.length):((l.map f)[i]?).getD e=f ((l[i]?).getD d):=by simp [h]
theorem NX {g:Graph}{p:Part}(h:subF g p=0){i:Int}(b:0<=i)(a:i<p.i.length):gN (dF g p) i=gN g (iA p.i i):=by
 unfold dF;rw [if_pos h];exact aaG (gN g) p.i 0 0 bL
theorem LE (c:Part)(vs:Xa0)(l:List Slot)(s:Slot)(vals:Yb):xE c vs (l++[s]) vals=(xE c vs l vals).set (f9 c s) (((xE c vs l vals)[f9 c s]?.getD []).set s.Q.toNat (dJ s.E vs)):=by unfold xE;rw [eG];rfl
theorem uQ (c:Part)(vs:Xa0):∀ (l:List Slot) (vals:Yb),(xE c vs l vals).length=vals.length/\∀ n:Nat,((xE c vs l vals)[n]?.getD []).length=(vals[n]?.getD []).length
 | [],vals=>⟨rfl,λ_=>rfl⟩
 | s :: l,vals=>by
  obtain ⟨h1,h2⟩:=uQ c vs l (vals.set (f9 c s) ((vals[f9 c s]?.getD []).set s.Q.toNat (dJ s.E vs)));have e:xE c vs (s :: l) vals=xE c vs l (vals.set (f9 c s) ((vals[f9 c s]?.getD []).set s.Q.toNat (dJ s.E vs))):=rfl;rw [e];refine ⟨by rw [h1,iZ],λn=>?_⟩;rw [h2 n,cT];split
  .rename_i hn;subst hn;split
   .simp
   .rename_i hn;rw [bC bL]
  .rfl
def xL (c:Part)(vs:Xa0)(l:List Slot)(i k:Nat):Bool:=match l[k]?,l[i]? with|some a,some b=>FG c vs a b|_,_=>false
theorem y8 (c:Part)(vs:Xa0)(l:List Slot):z8 c vs l=(List.range l.length).any λi=>(List.range i).any λk=>xL c vs l i k:=rfl
structure PutOk (t:Types) (r:Rule) (x:Host) (c:Part):Prop where
 U:c.i.length=r.right.o.i.length
 bi:x.o.i.length<=2000/\x.o.j.length<=2000/\x.values.length<=2000
 spot:∀ s∈r.right.q,0<=c.i[s.node.toNat]?.getD 0/\f9 c s<x.values.length/\f9 c s<x.o.i.length
 Q:∀ s∈r.right.q,s.Q<(x.values[f9 c s]?.getD []).length/\s.Q<(bZ t (x.o.i[f9 c s]?.getD 0)).length
theorem RL (t:Types)(ht:t.ok)(r:Rule)(hR:RuleV t r)(f:Host)(c:Part)(hP:PutOk t r f c)(vs:Xa0)(a0:vs.length=r.left.vars.toNat)(Z:Sm vs)
  (G:AHeap) (lo a b V:Nat) (w:List Nat) (m:HH G lo a b V w f) (Q:D->AHeap->Prop)
  (L:∀ H',xF t f.o c vs r.right.q≠0->(∀ j,j<G.next->j∉a :: b :: V :: w->H'.get j=G.get j)->G.next<=H'.next->Q (.tup [.agg [.nil,.nil,.nil],dI (xF t f.o c vs r.right.q)]) H')
  (hQ:∀ H',xF t f.o c vs r.right.q=0->(∀ j,j<G.next->j∉a :: b :: V :: w->H'.get j=G.get j)->G.next<=H'.next->Q (.tup [Host.d ⟨f.o,xE c vs r.right.q f.values⟩,dI 0]) H') :
  ACalls prog 148 [t.d,r.d,.agg [.own a f.o.i.length,.own b f.o.j.length,.own V f.values.length],c.d,dLI vs] G Q:=by
 have g2:=eI hR.gr;have g7:=m.W a m.a6;have g4:=m.W b m.a2;have g8:=m.W V m.ba;have g6:=m.ab;have s:=hR.q;have c2:=hR.bi;obtain ⟨l,hl⟩:=cY (r.right.q);rw [<- hl] at L hQ s c2;have n:=hP.spot;have K:=hP.Q;rw [<- hl] at n K;have g3:=hP.U;obtain ⟨Q',N⟩:∃ Q':D->AHeap->Prop,∀ d H',Q' d H'↔Q (jT H' d) (fH (Cx H' d) H'):=⟨_,λ_ _=>Iff.rfl⟩;refine ACalls.bw ?_;rw [show (λd H'=>Q (jT H' d) (fH (Cx H' d) H'))=Q' from funext λd=>funext λH'=>propext (N d H').symm];refine (Tz.cK ⟨λt=>t==7||t==10,λ_=>[]⟩ func148 rfl ?_);have Y:=xa2 @Part.d.eq_1 @Part.c.eq_1 (Eq.symm hl) @Term.c.eq_1;refine wv (h:=bA (λi e H=>∃ X:Nat,∃ R:Nat,(e 5=.adr t.c/\e 6=.adr r.c/\e 8=.adr c.c/\e 4=dLI vs/\e 12=.list (l.map Slot.c)/\e 7=.ptr X 1 0 0/\e 10=.ptr R 1 0 0/\e 13=dI i)/\(H.get X=some ⟨33,3,[[.own a f.o.i.length,.own b f.o.j.length,.own V f.values.length]],false⟩)/\(X<H.next)/\(H.get R=some ⟨33,3,[[.nil,.nil,.nil]],false⟩)/\(R<H.next)/\(i<=l.length)/\(HH H lo a b V w f)/\(∀ j∈a :: b :: V :: w,j≠X/\j≠R)/\(G.next<=X/\X<R)/\(∀ p q,p<i->q<p->xL c vs l p q=false)/\(∀ j,j<G.next->j∉a :: b :: V :: w->H.get j=G.get j)/\(G.next<=H.next)) (λi=>l.length - i) 0 ⟨G.next,(G.next+1),wg,wn,wn,wn,wn,wi,(by exact m.same eq (λj u=>by have:=(m.W j u).2;simp [go_sem,bU this])),(by intro j u;have:=(m.W j u).2;omega),bL,(by intro p q hp;omega),(by intro j u _;simp [go_sem,bU u]),eq⟩ λI0 e8 i e H d7=>?_);obtain ⟨X,R,E0,gX_0,nX_0,gR_0,nR_0,hi,hh,a5,e4,hC,hG,b3⟩:=d7;have f5:=xa8 (b8 (bL:R≠X)) (b8 (bL:R≠V)) (b8 (bL:R≠b)) (b8 (bL:R≠a)) (b8 (bL:X≠V)) (b8 (bL:X≠b)) (b8 (bL:X≠a)) (b8 (bL:V≠b)) (b8 (bL:V≠a)) (b8 (bL:b≠a));have Y:=xa5 Y E0 gX_0 (bU nX_0) gR_0 (bU nR_0) f5;refine jH (λh3=>?_) λh3=>?_
 .have hlm:=aC h3;have a6:=(s _ hlm).2.2;have d3:=(s _ hlm).1;have z:l[i].node.toNat<c.i.length:=bL;have Y:=xa3 Y h3 (aA h3) @Slot.c.eq_1 (aA z);refine wp (h:=aB (kM l[i].E vs (by rw [a0];exact a6) Z) wl ?_);refine wp (h:=bA (λk e H=>(e 5=.adr t.c/\e 6=.adr r.c/\e 8=.adr c.c/\e 4=dLI vs/\e 12=.list (l.map Slot.c)/\e 7=.ptr X 1 0 0/\e 10=.ptr R 1 0 0/\e 13=dI i/\e 14=dI (dJ l[i].E vs)/\e 16=dI k)/\(H.get X=some ⟨33,3,[[.own a f.o.i.length,.own b f.o.j.length,.own V f.values.length]],false⟩)/\(X<H.next)/\(H.get R=some ⟨33,3,[[.nil,.nil,.nil]],false⟩)/\(R<H.next)/\(k<=i)/\(HH H lo a b V w f)/\(∀ q,q<k->xL c vs l i q=false)/\(∀ j,j<G.next->j∉a :: b :: V :: w->H.get j=G.get j)/\(G.next<=H.next)) (λk=>i - k) 0 ⟨wg,wn,wn,wn,wn,wi,(by exact hh.same ei (λ_ _=>rfl)),(by intro q P;omega),(by exact hG),(by first|exact b3|(simp [go_sem];omega))⟩ λI2 e7 k e H d6=>?_);obtain ⟨E2,gX_2,nX_2,gR_2,nR_2,hk,c1,c6,a8,a3⟩:=d6;have f4:=xa8 (b8 (bL:R≠X)) (b8 (bL:R≠V)) (b8 (bL:R≠b)) (b8 (bL:R≠a)) (b8 (bL:X≠V)) (b8 (bL:X≠b)) (b8 (bL:X≠a)) (b8 (bL:V≠b)) (b8 (bL:V≠a)) (b8 (bL:b≠a));have Y:=xa5 Y E2 gX_2 (bU nX_2) gR_2 (bU nR_2) f4;refine dD (λh7=>?_) λh7=>?_
  .have hkl:k<l.length:=bL;have a4:=aC hkl;have e5:=(s _ a4).2.2;have g1:=(s _ a4).1;have J:l[k].node.toNat<c.i.length:=bL;have d1:=(n _ hlm).1;have d0:=(n _ a4).1;rw [aA z,aF] at d1;rw [aA J,aF] at d0;have c5:xL c vs l i k=(decide (c.i[l[k].node.toNat]=c.i[l[i].node.toNat])&&(decide (l[k].Q=l[i].Q)&&decide (dJ l[k].E vs≠dJ l[i].E vs))):=by
    unfold xL FG f9;simp only [aA hkl,aA h3,aA z,aA J,aF];rw [show (decide ((c.i[l[k].node.toNat]).toNat=(c.i[l[i].node.toNat]).toNat))=decide (c.i[l[k].node.toNat]=c.i[l[i].node.toNat]) from by rw [decide_eq_decide];omega]
   have Y:=xa2 Y h7 (aA hkl) (aA J);refine wp (h:=aB (kM l[k].E vs (by rw [a0];exact e5) Z) wl ?_);refine jH (λI=>?_) λI=>?_
   .have hB:z8 c vs l=true:=by
     rw [y8,aZ];refine ⟨i,by simpa using h3,?_⟩;rw [aZ];refine ⟨k,by simpa using h7,?_⟩;rw [c5];simp at I ⊢;exact ⟨I.1.1,I.1.2,λe=>I.2 e.symm⟩
    have hE:xF t f.o c vs l=11:=by unfold xF;rw [if_pos hB]
    refine wv (h:=?_);rw [hE] at L;refine (N _ _).2 ?_;simp only [jT,kZ,oR,fM,Cx,Jo,G6,mC,gA,kG,iO,vS,dG,fH];exact L _ (by decide) (λj u o=>by simp [go_sem,(bL:j≠R)];exact a8 j u o) (by first|(simp [go_sem];omega)|exact a3)
   .have hCk:xL c vs l i k=false:=by
     rw [c5,bP];intro A;simp at A;exact A.2.2 (I A.1 A.2.1).symm
    exact wp (h:=wx e7 (k+1) ⟨wg,wn,wn,wn,wn,wj,(by exact c1.same ei (λ_ _=>rfl)),(by intro q P;rcases bD q k with hqk|hqk;exact c6 q hqk;(obtain rfl:q=k:=bL;exact hCk)),(by exact a8),(by first|exact a3|(simp [go_sem];omega))⟩)
  .exact wp (h:=wx e8 (i+1) ⟨X,R,wg,wn,wn,wn,wn,wj,(by exact c1),(by exact a5),(by exact e4),(by intro p q hp P;rcases bD p i with hpi|hpi;exact hC p q hpi P;(obtain rfl:p=i:=bL;exact c6 q bL)),(by exact a8),(by exact a3)⟩)
 .have hB:z8 c vs l=false:=by
   rw [y8,bP];intro A;rw [aZ] at A;obtain ⟨p,hp,A⟩:=A;rw [aZ] at A;obtain ⟨q,P,A⟩:=A;rw [bN] at hp P;rw [hC p q bL P] at A;cases A
  have O:xF t f.o c vs l=if l.any (Ba t f.o c vs)=true then 6 else 0:=by unfold xF;rw [if_neg (by rw [hB];simp)]
  refine wv (h:=bA (λi e H=>∃ x:Host,(e 5=.adr t.c/\e 6=.adr r.c/\e 8=.adr c.c/\e 4=dLI vs/\e 12=.list (l.map Slot.c)/\e 7=.ptr X 1 0 0/\e 10=.ptr R 1 0 0/\e 19=dI i)/\(H.get X=some ⟨33,3,[[.own a f.o.i.length,.own b f.o.j.length,.own V f.values.length]],false⟩)/\(X<H.next)/\(H.get R=some ⟨33,3,[[.nil,.nil,.nil]],false⟩)/\(R<H.next)/\(i<=l.length)/\(x=⟨f.o,xE c vs (l.take i) f.values⟩)/\(HH H lo a b V w x)/\((l.take i).any (Ba t f.o c vs)=false)/\(∀ j,j<G.next->j∉a :: b :: V :: w->H.get j=G.get j)/\(G.next<=H.next)) (λi=>l.length - i) 0 ⟨f,wg,wn,wn,wn,wn,wi,(by rfl),(by exact hh),(by rfl),(by exact hG),(by exact b3)⟩ λI4 e6 i e H b9=>?_);obtain ⟨x,E4,gX_4,nX_4,gR_4,nR_4,b9,hx,g,hO,a7,b7⟩:=b9;have f3:=xa8 (b8 (bL:R≠X)) (b8 (bL:R≠V)) (b8 (bL:R≠b)) (b8 (bL:R≠a)) (b8 (bL:X≠V)) (b8 (bL:X≠b)) (b8 (bL:X≠a)) (b8 (bL:V≠b)) (b8 (bL:V≠a)) (b8 (bL:b≠a));have Y:=xa5 Y E4 gX_4 (bU nX_4) gR_4 (bU nR_4) f3;refine jH (λF=>?_) λF=>?_
  .have hlm:=aC F;have a6:=(s _ hlm).2.2;have d3:=(s _ hlm).1;have g5:=(s _ hlm).2.1;have z:l[i].node.toNat<c.i.length:=bL;obtain ⟨s1,s2,s3⟩:=n _ hlm;obtain ⟨a1,a2⟩:=K _ hlm;have c9:f9 c l[i]=(c.i[l[i].node.toNat]).toNat:=by unfold f9;rw [aA z];rfl
   rw [aA z,aF] at s1;have b2:=uQ c vs (l.take i) f.values;have C:x.o=f.o:=by rw [hx]
   have U:x.values=xE c vs (l.take i) f.values:=by rw [hx]
   have W:x.values.length=f.values.length:=by rw [U];exact b2.1
   have b5:f9 c l[i]<x.values.length:=bL;have b6:f9 c l[i]<x.o.i.length:=by rw [C];exact s3
   have d4:f9 c l[i]<w.length:=by rw [g.len];exact b5
   obtain ⟨q,P⟩:=cY (w[f9 c l[i]]);obtain ⟨v,hv⟩:=cY (x.values[f9 c l[i]]);have e1:w[f9 c l[i]]?=some q:=by rw [aA d4,P]
   have e2:x.values[f9 c l[i]]?=some v:=by rw [aA b5,hv]
   have b1:=t6 e1 e2;have d8:=g.gq _ _ _ e1 e2;have f6:v.length=(f.values[f9 c l[i]]?.getD []).length:=by rw [<- b2.2,<- U,e2];rfl
   have e3:l[i].Q.toNat<v.length:=bL;obtain ⟨nd,b4⟩:∃ y,y=x.o.i[f9 c l[i]]:=⟨_,rfl⟩;have S:f.o.i[f9 c l[i]]?.getD 0=nd:=by rw [b4,<- C,aA b6];rfl
   rw [S] at a2;have c3:l[i].Q.toNat<(bZ t nd).length:=bL;have B:q∈w:=aK e1;have f7:=g.W q (g.ay B);have g0:=a5 q (g.ay B);have f8:=g.qn B;have c4:Ba t f.o c vs l[i]=(decide (dJ l[i].E vs<(bZ t nd)[l[i].Q.toNat].am)||decide ((bZ t nd)[l[i].Q.toNat].aw<dJ l[i].E vs)):=by unfold Ba;rw [S,aA c3];rfl
   have f0:=g.ga;have e9:=g.gb;have f1:=g.gV;have d9:f.o.i.length=x.o.i.length:=by rw [C]
   have d2:=kI g.len;have f2:=xa2 (b8 (bL:R≠X)) (b8 (bL:R≠V)) (b8 (bL:R≠b)) (xb0 (b8 (bL:R≠a)) (b8 (bL:R≠q)) (b8 (bL:X≠V)) (b8 (bL:X≠b)) (b8 (bL:X≠a)) (b8 (bL:X≠q)) (b8 (bL:V≠b)) (b8 (bL:V≠a)) (b8 (bL:V≠q)) (b8 (bL:b≠a)) (b8 (bL:b≠q)) (b8 (bL:a≠q)));have Y:=xa7 Y F (aA F) @Slot.c.eq_1 (aA z) (Eq.symm c9) f0 e9 (xb0 f1 b1 d8 d2 (aA b6) (Eq.symm b4) (aA c3) (aA e3) @Attr.c.eq_1 W.symm d9 f2);refine wp (h:=aB (kM l[i].E vs (by rw [a0];exact a6) Z) wl ?_);refine wp (h:=aJ (sP t ht nd) wl ?_);refine jH (λa9=>?_) λa9=>?_
   .have A:l.any (Ba t f.o c vs)=true:=aZ.2 ⟨_,hlm,by rw [c4];simpa using a9⟩;rw [if_pos A] at O;refine wv (h:=?_);rw [O] at L;refine (N _ _).2 ?_;simp only [jT,kZ,oR,fM,Cx,Jo,G6,mC,gA,kG,iO,vS,dG,fH];exact L _ (by decide) (λj u o=>by simp [go_sem,(bL:j≠R)];exact a7 j u o) (by first|(simp [go_sem];omega)|exact b7)
   .have hOi:Ba t f.o c vs l[i]=false:=by rw [c4];simpa using a9
    obtain ⟨x2,b0⟩:∃ y:Host,y=⟨x.o,x.values.set (f9 c l[i]) (v.set l[i].Q.toNat (dJ l[i].E vs))⟩:=⟨_,rfl⟩;have c7:x2=⟨f.o,xE c vs (l.take (i+1)) f.values⟩:=by
     rw [b0,aD F,LE,<- U,e2,C];rfl
    exact wp (h:=wx e6 (i+1) ⟨x2,wg,wn,wn,wn,wn,wj,(by exact c7),(by rw [b0];exact g.cn ei e1 e2 bS (by simp [go_sem,Y,c8,cI]) (λj u d5=>by simp [go_sem,d5])),(by rw [aD F,xV,hO];simp [hOi]),(by intro j u o;simp [go_sem,show j≠q from λe=>o (e ▸ g.ay B)];exact a7 j u o),eq⟩)
  .rw [aH bL] at hO hx;rw [if_neg (by rw [hO];simp)] at O;have C:x.o=f.o:=by rw [hx]
   have W:x.values.length=f.values.length:=by rw [hx];exact (uQ c vs l f.values).1
   refine wv (h:=?_);refine (N _ _).2 ?_;obtain ⟨E,M⟩:=cY (H.put R ⟨33,3,[[.own a f.o.i.length,.own b f.o.j.length,.own V f.values.length]],false⟩);have c0:HH E lo a b V w x:=g.same (by rw [M];simp [go_sem]) (λj u=>by rw [M];simp [go_sem,(a5 j u).2]);rw [<- M];have hd:=c0.bw;rw [C,W] at hd;have T:=c0.d7 f.o.i.length f.o.j.length f.values.length 0;simp only [dI] at T;have e0:kZ E (D.int .i64 0)=.int .i64 0:=rfl;simp only [jT,gA,kG,hd,e0];rw [hx];refine hQ _ O (λj u o=>?_) ?_
   .rw [C1 _ _ j (λhm=>o (T _ hm)),M];simp [go_sem,(bL:j≠R)];exact a7 j u o
   .rw [(z6 _ E).2,M];simp [go_sem];exact b7
theorem MG {l:Xa0}(hn:l.Nodup){p:Nat}(hp:p<l.length):∀ n,n<=l.length->jG l n l[p]=if p<n then (p:Int) else -1
 | 0,_=>rfl
 | n+1,h=>by
  rw [r6,MG hn hp n bL,aA bL,aF];by_cases he:n=p
  .subst he;rw [if_pos rfl,if_pos bL]
  .rw [if_neg (λe=>he ((vR hn).1 e))];by_cases h2:p<n
   .rw [if_pos h2,if_pos bL]
   .rw [if_neg h2,if_neg bL]
theorem By {l:Xa0}(b:l.Nodup){p:Nat}(a:p<l.length):jG l l.length l[p]=p:=by rw [MG b a _ (aT _),if_pos a]
theorem B7 {l:Xa0}{v:Int}(h:v∉l):∀ n,n<=l.length->jG l n v = -1
 | 0,_=>rfl
 | n+1,hl=>by
  rw [r6,B7 h n bL,aA bL,aF,if_neg];exact λe=>h (e ▸ aC _)
theorem MH {l:Xa0}(b:l.Nodup)(v:Int):decide (jG l l.length v<0) = !mem l v:=by
 by_cases h:v∈l
 .obtain ⟨p,a,rfl⟩:=aM h;rw [By b a,(mem_iff _ _).2 h];simp
 .rw [B7 h _ (aT _),bP.2 λc=>h ((mem_iff _ _).1 c)];rfl
theorem TF {l:Xa0}(a:l.Nodup)(i:Nat):CU l i=(dC l i).length:=by
 unfold CU dC;rw [bR];congr 1;exact List.filter_congr λj _=>MH a j
theorem LJ {l:Xa0}:∀ (n j:Nat),j<n->mem l j=false->(dC l n)[(dC l j).length]?=some (j:Int)
 | n+1,j,hj,hm=>by
  rw [qU];by_cases h:j=n
  .subst h;rw [if_neg (by rw [hm];simp),bF (aT _)];simp
  .have:=LJ n j bL hm;rw [aY (aL.1 this).1];exact this
theorem FS {l:Xa0}(h:l.Pairwise (· < ·)):l.Nodup:=h.imp λh=>by omega
structure StepIn (t:Types) (r:Rule) (h:Host) (m:Mat):Prop where
 hR:RuleV t r
 ho:HostOk t h
 hm:MOk t r.left.o h.o m.m
 hc:tK (sR r.left.o h.o m.m) h.o r.G m.m=0
section
variable {t:Types} {r:Rule} {h:Host} {m:Mat}
theorem Rq (c:RuleV t r)(b:HostOk t h)(a:tA t r h m=0):StepIn t r h m:=by
 unfold tA at a;split at a
 .cases a
 .rename_i h1;split at a
  .exact absurd a er
  .split at a
   .cases a
   .exact ⟨c,b,uV (uD (cG h1)).2,a⟩
theorem StepIn.rest (S:StepIn t r h m):dB r h m=⟨dC (lO m.m.i r.G.i) h.o.i.length,dC (lO m.m.j r.G.j) h.o.j.length⟩:=by unfold dB u9;rw [if_pos S.hc]
theorem StepIn.sub (S:StepIn t r h m):subF h.o (dB r h m)=0:=YW S.hc
theorem StepIn.bs (S:StepIn t r h m):(dB r h m).i.Pairwise (· < ·):=by rw [S.rest];exact wI _ _
theorem StepIn.cM (S:StepIn t r h m):(dB r h m).j.Pairwise (· < ·):=by rw [S.rest];exact wI _ _
theorem StepIn.b3 (S:StepIn t r h m):∀ x∈(dB r h m).i,0<=x/\x<h.o.i.length:=(BI S.sub).2.2.1
theorem StepIn.c4 (S:StepIn t r h m):∀ x∈(dB r h m).j,0<=x/\x<h.o.j.length:=(BI S.sub).2.2.2
theorem StepIn.len (S:StepIn t r h m):(dB r h m).i.length<=40/\(dB r h m).j.length<=80:=by
 have a:=bW S.ho.gg;have c:=XC S.bs S.b3;have b:=XC S.cM S.c4;omega
theorem StepIn.dv (S:StepIn t r h m):u6 m.m.i r.G.i=[]/\u6 m.m.j r.G.j=[]:=⟨(N0 S.hc).2.2.1,(N0 S.hc).2.2.2.1⟩
theorem StepIn.ch (S:StepIn t r h m){k:Int}(a:k∈r.G.i):iA m.m.i k∈(dB r h m).i:=by
 have c:=S.hR.G;have g:=S.hm.len;have b:=c.2.1 k a;have f:=BT S.dv.1 b.1 bL a;rw [S.rest];have d:=(S.hm.bn k.toNat bL bL).1;have e:iA m.m.i k=m.m.i[k.toNat]' bL:=by unfold iA;rw [aA bL];rfl
 exact oE.2 ⟨by rw [e];exact d,f⟩
theorem StepIn.bl (S:StepIn t r h m):(dM t r h m).o.i=(dB r h m).i.map (gN h.o)++r.ac.map (gN r.right.o):=by
 unfold dM kP dF;rw [if_pos S.sub]
theorem StepIn.cN (S:StepIn t r h m):(dM t r h m).o.j=(dB r h m).j.map (gEd h.o (dB r h m))++r.av.map (λk=>freshE (r4 r h m) (r.right.o.j[k.toNat]?.getD cK)):=by
 unfold dM kP dF;rw [if_pos S.sub]
theorem ZG:(dM t r h m).values=(dB r h m).i.map (λk=>h.values[k.toNat]?.getD [])++r.ac.map (λk=>pW t (gN r.right.o k)):=rfl
theorem StepIn.ci (S:StepIn t r h m):r.O.i.Nodup/\r.O.j.Nodup:=by
 have:=S.hR.inj;unfold Jh at this;simp only [aR,decide_eq_true_eq] at this;exact this.2
theorem StepIn.cg (S:StepIn t r h m){p:Nat}(c:p<r.O.i.length)(b:p<r.G.i.length):gN r.right.o r.O.i[p]=gN r.left.o r.G.i[p]:=by
 have d:(dF r.left.o r.G).i.length=r.G.i.length:=by unfold dF;rw [if_pos S.hR.sub];simp
 have a:=(R6 S.hR.mo (i:=(p:Int)) bL bL).2;rw [NX S.hR.sub bL bL] at a;simpa [iA,aA c,aA b] using a
theorem StepIn.dg (S:StepIn t r h m){i:Nat}(o:i<r.right.o.i.length):∃ n:Nat,(r4 r h m).i[i]?=some (n:Int)/\∃ hn:n<(dM t r h m).o.i.length,Ab t r.right.o.i[i] ((dM t r h m).o.i[n])=true:=by
 obtain ⟨K,A,J,I,H⟩:=S.hR.G;have E:=S.hm.len;have k:=S.ci.1;have z:(r4 r h m).i[i]?=some (Mt r.G.i r.O.i (rH m.m.i (pP r h m).i) (dB r h m).i.length i):=by
  unfold r4 Hd;simp [o]
 rw [z];have u:=S.bl;have w:=pD S.hR.vf;have D:=(p9 S.hR.gr S.hR.tr).1 _ (aC o);by_cases hm:(i:Int)∈r.O.i
 .obtain ⟨p,B,C⟩:=aM hm;have s:p<r.G.i.length:=bL;have G:=A _ (aC s);have d:r.G.i[p].toNat<m.m.i.length:=bL;have L:=S.ch (aC s);obtain ⟨n,hn,g⟩:=aM L;have M:=S.b3 _ (aC hn);have l:iA m.m.i r.G.i[p]=m.m.i[r.G.i[p].toNat]:=by unfold iA;rw [aA d];rfl
  have e:Mt r.G.i r.O.i (rH m.m.i (pP r h m).i) (dB r h m).i.length i=n:=by
   unfold Mt;rw [<- C,By k B,if_pos bL];rw [(bL:(p:Int).toNat=p),aA s,aF];unfold rH pP uK;rw [aW,aA d,fS,aF];rw [<- l,<- g];simp only;rw [B6 _ bL,aF,show (((dB r h m).i[n].toNat:Nat):Int)=(dB r h m).i[n] by omega,By (FS S.bs) hn]
  refine ⟨n,by rw [e],by rw [u];simp;omega,?_⟩;have c:=S.cg B s;rw [C] at c;have x:gN r.right.o (i:Int)=r.right.o.i[i]:=by simp [gN,aA o]
  have j:r.G.i[p].toNat<r.left.o.i.length:=bL;have y:gN r.left.o r.G.i[p]=r.left.o.i[r.G.i[p].toNat]:=by simp [gN,aA j]
  rw [x,y] at c;rw [c];have q:=(S.hm.bn _ d j).2;have v:(dM t r h m).o.i[n]?=some (h.o.i[(m.m.i[r.G.i[p].toNat]).toNat]?.getD 0):=by
   rw [u,aY (cG hn),aW,aA hn,fS,g,l];rfl
  obtain ⟨_,b⟩:=aL.1 v;rw [b];exact q
 .have hmf:mem r.O.i i=false:=bP.2 λh=>hm ((mem_iff _ _).1 h);have e:Mt r.G.i r.O.i (rH m.m.i (pP r h m).i) (dB r h m).i.length i=(((dB r h m).i.length+(dC r.O.i i).length:Nat):Int):=by
   unfold Mt;rw [if_neg (by rw [B7 hm _ (aT _)];omega),TF k]
  have f:=LJ r.right.o.i.length i o hmf;have F:(dC r.O.i i).length<r.ac.length:=(aL.1 f).1;refine ⟨(dB r h m).i.length+(dC r.O.i i).length,by rw [e],by rw [u];simp;omega,?_⟩;have v:(dM t r h m).o.i[(dB r h m).i.length+(dC r.O.i i).length]?=some r.right.o.i[i]:=by
   rw [u,bF bS,bR,xS,aW];have:r.ac[(dC r.O.i i).length]?=some (i:Int):=f;rw [this];simp [gN,aA o]
  obtain ⟨_,b⟩:=aL.1 v;rw [b];unfold Ab;have:=Vi w (a:=(r.right.o.i[i]).toNat) bL;rw [show (((r.right.o.i[i]).toNat:Nat):Int)=r.right.o.i[i] by omega] at this;exact this
theorem StepIn.cu (S:StepIn t r h m):(dM t r h m).values.length=(dM t r h m).o.i.length:=by rw [S.bl,ZG];simp
theorem WQ {k:Int}(b:(cW t).2=0)(f:0<=k)(e:k<t.i.length)(c:At t k.toNat=false):iW t k (pW t k)=0:=by
 unfold iW;rw [if_neg bL,if_neg (by rw [c];simp),if_neg (by simp [pW])];refine rY _ _ λj _ d=>?_;have a:j<(bZ t k).length:=bL;unfold DS pW;rw [aW,aA a,fS,aF,aF,if_neg];have:=(Ev b k _ (aC a)).le;omega
theorem StepIn.bm (S:StepIn t r h m):∀ k∈r.ac,(0<=gN r.right.o k/\gN r.right.o k<t.i.length)/\At t (gN r.right.o k).toNat=false:=λk hk=>by
 have hr:=mL hk;have hin:=(p9 S.hR.gr S.hR.tr).1 _ (Xa hr.1 hr.2);refine ⟨hin,?_⟩;have:=S.hR.d3;unfold Bf at this;rw [aR,b7,iP] at this;have h1:=this.1 k hk;unfold absB at h1;unfold At;rw [aA (bL:(gN r.right.o k).toNat<t.i.length)] at h1 ⊢;simpa using h1
theorem StepIn.node (S:StepIn t r h m):∀ (n:Nat) (h1:n<(dM t r h m).o.i.length) (h2:n<(dM t r h m).values.length),iW t (dM t r h m).o.i[n] (dM t r h m).values[n]=0:=λn h1 h2=>by
 have e1:=S.bl;have e2:(dM t r h m).values=_:=ZG;have g1:(dM t r h m).o.i[n]?=some (dM t r h m).o.i[n]:=aA h1;have g2:(dM t r h m).values[n]?=some (dM t r h m).values[n]:=aA h2;generalize (dM t r h m).o.i[n]=x at *;generalize (dM t r h m).values[n]=y at *;rw [e1] at g1;rw [e2] at g2;by_cases hn:n<(dB r h m).i.length
 .rw [aY (cG hn),aW,aA hn] at g1 g2;simp only [fS,bG] at g1 g2;have hv:=S.b3 _ (aC hn);have hl:=S.ho.vl;have a1:(dB r h m).i[n].toNat<h.o.i.length:=bL;have a2:(dB r h m).i[n].toNat<h.values.length:=bL;rw [aA a2] at g2;unfold gN at g1;rw [aA a1] at g1;have:=S.ho.nd _ a1 a2;rw [<- g1,<- g2];exact this
 .have l1:((dB r h m).i.map (gN h.o)).length=(dB r h m).i.length:=bS;have l2:((dB r h m).i.map λk=>h.values[k.toNat]?.getD []).length=(dB r h m).i.length:=bS;rw [bF bL,l1,aW,bQ] at g1;rw [bF bL,l2,aW,bQ] at g2;obtain ⟨k,hk,rfl⟩:=g1;obtain ⟨k',hk',rfl⟩:=g2;rw [hk] at hk';cases hk'
  obtain ⟨⟨b1,b2⟩,b3⟩:=S.bm k (aK hk);exact WQ S.hR.vf b1 b2 b3
theorem StepIn.di (S:StepIn t r h m):∀ a∈(dM t r h m).o.i,0<=a/\a<t.i.length:=λa ha=>by
 rw [S.bl,aQ,aS,aS] at ha;rcases ha with ⟨k,hk,rfl⟩|⟨k,hk,rfl⟩
 .exact Gz S.ho _ (Xa (S.b3 k hk).1 (S.b3 k hk).2)
 .exact (S.bm k hk).1
theorem StepIn.put (S:StepIn t r h m):PutOk t r (dM t r h m) (r4 r h m):=by
 have v:=S.len;have w:=bW S.hR.gr;have q:r.ac.length<=r.right.o.i.length:=mM _ _;have p:r.av.length<=r.right.o.j.length:=mM _ _;have y:(dM t r h m).o.i.length<=80:=by rw [S.bl];simp;omega
 have z:(dM t r h m).o.j.length<=160:=by rw [S.cN];simp;omega
 have x:=S.cu;have d:∀ s∈r.right.q,∃ n:Nat,(r4 r h m).i[s.node.toNat]?=some (n:Int)/\∃ a:n<(dM t r h m).o.i.length,s.Q<(bZ t (dM t r h m).o.i[n]).length:=λs e=>by
  obtain ⟨⟨C,B⟩,l,A⟩:=S.hR.q s e;have k:s.node.toNat<r.right.o.i.length:=bL;obtain ⟨n,c,a,g⟩:=S.dg k;refine ⟨n,c,a,?_⟩;rw [aA k,aF] at l;have b:=(p9 S.hR.gr S.hR.tr).1 _ (aC k);have i:=(uY (S.node n a bL)).1;have j:=(S.di _ (aC a)).1;rw [uE S.hR.vf b.1 b.2] at l;rw [uE S.hR.vf j i];unfold Ab at g;obtain ⟨u,o⟩:=MI (pD S.hR.vf) ((dM t r h m).o.i[n]).toNat bL (r.right.o.i[s.node.toNat]).toNat (by rw [Int.toNat_of_nonneg b.1];exact g);rw [o,aO];omega
 refine ⟨by simp [r4,Hd],⟨bL,bL,bL⟩,λs e=>?_,λs e=>?_⟩
 .obtain ⟨n,c,a,g⟩:=d s e;have:f9 (r4 r h m) s=n:=by unfold f9;rw [c];simp
  rw [this,c];exact ⟨by simp,bL,a⟩
 .obtain ⟨n,c,a,g⟩:=d s e;have:f9 (r4 r h m) s=n:=by unfold f9;rw [c];simp
  have f:n<(dM t r h m).values.length:=bL;rw [this,aA f,aA a,aF,aF];have:=(uY (S.node n a f)).2.2.1;exact ⟨bL,g⟩
end
def tP:Pattern:=⟨⟨[],[]⟩,[],0,[]⟩
def qA:Rule:=⟨⟨#[]⟩,tP,tP,⟨[],[]⟩,⟨[],[]⟩,false,.mk 0 [] ⟨[],[]⟩ tP⟩
def pQ:Stp26:=⟨qA,kD,⟨⟨[],[]⟩,[]⟩,⟨⟨[],[]⟩,[]⟩,⟨[],[]⟩,⟨[],[]⟩⟩
def pE (t:Types)(r:Rule)(h:Host)(m:Mat):Stp26:=if nT t r h m=0 then EV t r h m else pQ
@[go_sem] theorem Stp26.U (s:Stp26):D.N s.c=true:=by
 simp [Stp26.c,JO,Rule.U,Mat.U,Q1,D.N,pA]
def vW (a k:Nat):List Nat:=(List.range k).map (· + a)
theorem yR {a k j:Nat}:j∈vW a k↔a<=j/\j<a+k:=by
 simp only [vW,aS,bN];constructor
 .rintro ⟨i,b,rfl⟩;omega
 .rintro ⟨b,c⟩;exact ⟨j - a,bL,bL⟩
theorem Qi (a k:Nat):(vW a k).length=k:=by simp [vW]
theorem CZ (a k:Nat):(vW a k).Nodup:=by
 unfold vW;exact List.Pairwise.map (· + a) (λx y h=>by simp only [ne_eq] at h ⊢;omega) List.nodup_range
theorem W6 (k f:Nat):(0 :: 1 :: 2 :: (vW 3 k++vW (3+k) f)).Nodup:=by
 simp only [gC,aP,aQ,yR,gG];exact ⟨bL,bL,bL,CZ _ _,CZ _ _,λx b y a=>by omega⟩
theorem TQ {k f j:Nat}(h:j∈0 :: 1 :: 2 :: (vW 3 k++vW (3+k) f)):j<3+k+f:=by
 simp only [aP,aQ,yR] at h;omega
theorem W5 (k:Nat):(0 :: 1 :: 2 :: vW 3 k).Nodup:=by
 simp only [gC,aP,yR];exact ⟨bL,bL,bL,CZ _ _⟩
theorem Jp {k j:Nat}(h:j∈0 :: 1 :: 2 :: vW 3 k):j<3+k:=by
 simp only [aP,yR] at h;omega
theorem Sw {t:Types}{r:Rule}{h:Host}(b:r.ok)(a:fU t r h=0):RuleV t r/\HostOk t h:=by
 unfold fU at a;split at a
 .exact absurd a er
 .rename_i h1;exact ⟨Ti b (cG h1),rW a⟩
theorem U1 {t:Types}{r:Rule}{h:Host}{m:Mat}(a:mK t r h m=0):tA t r h m=0:=by
 unfold mK at a;split at a
 .exact absurd a er
 .rename_i h1;simpa using h1
section
variable {t:Types} {r:Rule} {h:Host} {m:Mat}
theorem StepIn.ex (S:StepIn t r h m)(hh:dH t h=0):XV t h (dB r h m)=⟨dF h.o (dB r h m),(dB r h m).i.map λk=>h.values[k.toNat]?.getD []⟩:=by
 unfold XV;rw [if_pos];unfold exE;rw [if_neg bL];exact S.sub
theorem StepIn.cE (S:StepIn t r h m):(∀ x∈m.m.i,0<=x/\x<h.o.i.length)/\∀ x∈m.m.j,0<=x/\x<h.o.j.length:=by
 refine ⟨λx a=>?_,λx a=>?_⟩
 .obtain ⟨i,b,rfl⟩:=aM a;exact (S.hm.bn i b (by have:=S.hm.len;omega)).1
 .obtain ⟨i,b,rfl⟩:=aM a;exact S.hm.cE i b
end
theorem LX {t:Types}{r:Rule}{h:Host}{m:Mat}(S:StepIn t r h m)(a:tA t r h m=0):MatOk t r.left h m:=by
 unfold tA at a;split at a
 .cases a
 .split at a
  .exact absurd a er
  .rename_i h2;split at a
   .cases a
   .rename_i h3;rw [kX] at h2 h3;obtain ⟨_,_,_,d⟩:=Lo h2;rw [d] at h2 h3;obtain ⟨c,b⟩:=CH (Yi S.hR.pl S.ho S.hm) (vs:=[]) bS bS h2;rw [h3] at c b;exact ⟨S.hm,c,b⟩
theorem Gg (t:Types)(ht:t.ok)(r:Rule)(hr:r.ok)(h:Host)(m:Mat):Pure prog 75 [t.d,r.d,h.d,m.d] (.tup [.agg (pE t r h m).c,dI (nT t r h m)]):=by
 refine Tp em (fun Q hQ=>ACalls.b0 100 (aI (cfg:=⟨fun t=>t==8||t==11||t==13||t==14||t==15||t==16||t==95||t==97,fun r=>match r with|8=>[(5,6),(5,7),(5,8),(5,9),(5,10),(0,13),(1,13),(2,13),(3,13),(4,13),(5,13),(6,13),(7,13),(8,13),(9,13),(10,13),(11,13)]|9=>[(16,17),(16,18),(16,19),(16,20),(16,21),(16,22),(16,23),(16,24),(16,25),(16,26),(16,27),(16,28),(16,29),(16,30),(16,31),(16,32),(0,35),(1,35),(2,35),(3,35),(4,35),(5,35),(6,35),(7,35),(8,35),(9,35),(10,35),(11,35),(12,35),(13,35),(14,35),(15,35),(16,35),(17,35),(18,35),(19,35),(20,35),(21,35),(22,35),(23,35),(24,35),(25,35),(26,35),(27,35),(28,35),(29,35),(30,35),(31,35),(32,35),(33,35)]|10=>[(0,3),(1,3),(3,4)]|_=>[]⟩) Tz.mixed func75 rfl rfl (aG rfl) en ?_));have Y:=wa @Host.d.eq_1 (wa @Host.c.eq_1 (wa @Mat.d.eq_1 (wa @Mat.c.eq_1 (wa @gP (wa @jQ (wa @pJ @BD))))));refine wv (h:=aB (Gf t ht r hr h) wl ?_);refine dD (fun h2=>?_) fun h2=>?_
 ·have hA:nT t r h m=fU t r h:=by unfold nT;rw [if_pos h2]
  have hV:pE t r h m=pQ:=by unfold pE;rw [if_neg (by omega)]
  exact wv (h:=hQ _ _ (by simp [go_sem,hA,hV,pQ,qA,tP,kD,Stp26.c,Rule.c,Mat.c,Host.c,Cond.kind,Cond.y,Cond.map,Cond.u,dLI,dI]))
 ·obtain ⟨hR,ho⟩:=Sw hr h2
  have hh0:dH t h=0:=by unfold fU at h2;split at h2;exact absurd h2 er;exact h2
  have hA0:nT t r h m=iT t r h m:=by unfold nT;rw [if_neg (by omega)]
  refine wv (h:=aB (Is t ht r hR h ho m) wl ?_);refine dD (fun h5=>?_) fun h5=>?_
  ·have hA:nT t r h m=mK t r h m:=by rw [hA0];unfold iT;rw [if_pos h5]
   have hV:pE t r h m=pQ:=by unfold pE;rw [if_neg (by omega)]
   exact wv (h:=hQ _ _ (by simp [go_sem,hA,hV,pQ,qA,tP,kD,Stp26.c,Rule.c,Mat.c,Host.c,Cond.kind,Cond.y,Cond.map,Cond.u,dLI,dI]))
  ·have hpre:=U1 (show mK t r h m=0 by omega)
   have S:=Rq hR ho hpre;have hP:yH t r h m=dB r h m:=by unfold yH;rw [if_pos hpre]
   have hX:=S.ex hh0;obtain ⟨x0,hx0⟩:∃ x0:Host,x0=⟨dF h.o (dB r h m),(dB r h m).i.map fun k=>h.values[k.toNat]?.getD []⟩:=⟨_,rfl⟩;rw [← hx0] at hX;obtain ⟨tr,htr⟩:∃ tr,tr=pP r h m:=⟨_,rfl⟩;have hT1:mG (dB r h m).i h.o.i.length=tr.i:=by rw [htr];rfl
   have hT2:mG (dB r h m).j h.o.j.length=tr.j:=by rw [htr];rfl
   have htl1:tr.i.length=h.o.i.length:=by rw [← hT1,nF]
   have htl2:tr.j.length=h.o.j.length:=by rw [← hT2,nF]
   obtain ⟨hin1,hin2⟩:=S.cE;have hK:=hR.G;have hml:=S.hm.len;have hmel:=S.hm.bO;have hal1:(rH m.m.i tr.i).length=m.m.i.length:=by simp [rH]
   have hal2:(rH m.m.j tr.j).length=m.m.j.length:=by simp [rH]
   obtain ⟨cm,hcm⟩:∃ cm,cm=r4 r h m:=⟨_,rfl⟩;have hC1:Hd r.G.i r.O.i (rH m.m.i tr.i) r.right.o.i.length (dB r h m).i.length=cm.i:=by rw [hcm,htr];rfl
   have hC2:Hd r.G.j r.O.j (rH m.m.j tr.j) r.right.o.j.length (dB r h m).j.length=cm.j:=by rw [hcm,htr];rfl
   have hgl:=bW hR.pl.gg;have hgr:=bW hR.gr;have hgh:=bW ho.gg;have hdl:=S.len;have hxv:x0.values.length=(dB r h m).i.length:=by rw [hx0];simp
   have hxn:x0.o.i.length=(dB r h m).i.length:=by rw [hx0];unfold dF;rw [if_pos S.sub];simp
   have hxe:x0.o.j.length=(dB r h m).j.length:=by rw [hx0];unfold dF;rw [if_pos S.sub];simp
   have hxr:∀ v∈x0.values,v.length≤8:=fun v hv=>by
    rw [hx0,aS] at hv;obtain ⟨k,hk,rfl⟩:=hv;have hkr:=S.b3 k hk;have hvl:=ho.vl;rw [aA (show k.toNat<h.values.length by omega),aF];exact (ho.row _ (aC _)).1
   have hcl:cm.i.length=r.right.o.i.length:=by rw [hcm];simp [r4,Hd]
   have hB:kP t r cm x0=dM t r h m:=by rw [hcm,hx0];rfl
   have hfl:r.ac.length≤40:=dA (mM _ _) hgr.1;have hMat:=LX S hpre;have hvl:=hMat.vl;have hvs:Sm m.vars:=fun v hv=>by have:=hMat.vs v hv;omega
   have Y:=wa Y (wa hP (wa @Part.d.eq_1 (wa @Part.c.eq_1 (wa hX (wa hT1 (wa hT2 (wa hC1 hC2)))))));refine wv (h:=aB (Kx t ht h (dB r h m) (by omega) (by omega) (by omega) (by omega)) wl ?_);refine wv (h:=aJ (A0 m.m.i tr.i (by omega) (fun x hx=>by have:=hin1 x hx;omega)) wl ?_);refine wv (h:=aJ (A0 m.m.j tr.j (by omega) (fun x hx=>by have:=hin2 x hx;omega)) wl ?_);refine wp (h:=aJ (Cp r.G.i r.O.i (rH m.m.i tr.i) r.right.o.i.length (dB r h m).i.length (by omega) (fun x hx=>by have:=hK.2.1 x hx;rw [hal1];omega) (by omega) (by omega)) wl ?_);refine wp (h:=aJ (Cp r.G.j r.O.j (rH m.m.j tr.j) r.right.o.j.length (dB r h m).j.length (by omega) (fun x hx=>by have:=hK.2.2.1 x hx;rw [hal2];omega) (by omega) (by omega)) wl ?_);refine wp (h:=?_);refine KR x0 (by omega) (by omega) (by omega) (fun v hv=>by have:=hxr v hv;omega) 0 1 2 (vW 3 x0.values.length) (Qi _ _) (W5 _) eh (fun j hj=>?_) rfl ?_ (fun E hE1 hE2 hE3 hE4=>?_)
   ·have hj2:=Jp hj
    refine ⟨by omega,?_⟩;simp [go_sem,gP,jQ,pJ,BD];omega
   ·intro q hq hs x hx
    simp at hq;rcases hq with rfl|rfl|rfl<;>simp at hs hx
   have hno:∀ j,100≤j→j∉0 :: 1 :: 2 :: vW 3 x0.values.length:=fun j hj hm=>by have:=Jp hm;omega
   have hno2:∀ j,100≤j→j∉0 :: 1 :: 2 :: (vW 3 x0.values.length++vW (3+x0.values.length) r.ac.length):=fun j hj hm=>by have:=TQ hm;omega
   have g100:=hE2 100 (hno _ (by omega));have g102:=hE2 102 (hno _ (by omega));have g103:=hE2 103 (hno _ (by omega));have g154:=hE2 154 (hno _ (by omega));simp [go_sem] at g100 g102 g103 g154 hE4;have hal:∀ j,j<100→E.J j→j∈0 :: 1 :: 2 :: vW 3 x0.values.length:=fun j hj hA=>by
    rcases (hE3 j).1 hA with h|h
    ·simp [go_sem,gP,jQ,pJ,BD] at h;omega
    ·exact h
   have n154:∀ (a:Nat),a∈vW 3 x0.values.length→¬ a=154:=fun a hm=>by rw [yR] at hm;omega
   have Y:=wa Y (wa g100 (wa g102 (wa g103 g154)));refine wp (h:=?_);refine Qx t ht r hR x0 cm hcl (by omega) 0 0 1 2 (vW 3 x0.values.length) (vW (3+x0.values.length) r.ac.length) hE1 (by rw [Qi]) (W6 _ _) (by rw [hE4];omega) (fun j hj=>?_) rfl ?_ (fun F hF1 hF2 hF3 hF4=>?_)
   ·rw [yR] at hj
    refine ⟨by omega,fun hA=>?_⟩;have:=Jp (hal j (by omega) hA);omega
   ·intro q hq hs x hx
    simp at hs
   rw [hB] at hF1 ⊢;rw [hE4] at hF4;have f100:=hF2 100 (hno2 _ (by omega));have f102:=hF2 102 (hno2 _ (by omega));have f103:=hF2 103 (hno2 _ (by omega));have f154:=hF2 154 (hno2 _ (by omega));rw [g100] at f100;rw [g102] at f102;rw [g103] at f103;rw [g154] at f154;have Y:=wa Y (wa f100 (wa f102 (wa f103 f154)));refine wp (h:=?_);unfold dQ;refine RL t ht r hR (dM t r h m) cm (hcm ▸ S.put) m.vars hvl hvs _ 0 0 1 2 (vW 3 x0.values.length++vW (3+x0.values.length) r.ac.length) (hF1.same eh (fun j hj=>by have:=TQ hj;simp [go_sem,show j≠102 by omega])) _ (fun H4 e1 e2 e3=>?_) (fun H4 e1 e2 e3=>?_)
   ·have k100:=e2 100 eq (hno2 _ (by omega))
    have k102:=e2 102 eq (hno2 _ (by omega));simp [go_sem,f100] at k100 k102;have hA:nT t r h m=xF t (dM t r h m).o cm m.vars r.right.q:=by rw [hA0];unfold iT;rw [if_neg (by omega),← hcm,if_pos e1]
    have hV:pE t r h m=pQ:=by unfold pE;rw [if_neg (by omega)]
    simp [go_sem,seval,k100,k102];refine aU (fun hc=>?_) (fun hc=>absurd (by simpa using hc) e1);simp [go_sem,seval,k100,k102];exact hQ _ _ (by first|(left;(simp [go_sem,hA,hV,pQ,qA,tP,kD,Stp26.c,Rule.c,Mat.c,Host.c,Cond.kind,Cond.y,Cond.map,Cond.u,dLI,dI]);done)|(right;(simp [go_sem,hA,hV,pQ,qA,tP,kD,Stp26.c,Rule.c,Mat.c,Host.c,Cond.kind,Cond.y,Cond.map,Cond.u,dLI,dI]);done))
   have k100:=e2 100 eq (hno2 _ (by omega));have k102:=e2 102 eq (hno2 _ (by omega));have k103:=e2 103 eq (hno2 _ (by omega));have k154:=e2 154 eq (hno2 _ (by omega));simp [go_sem,f100,f102,f103,f154] at k100 k102 k103 k154;have Y:=wa Y (wa k100 (wa k102 (wa k103 k154)));refine jH (fun h14=>?_) fun h14=>?_
   ·have hA:nT t r h m=3:=by
     rw [hA0];unfold iT;rw [if_neg (by omega),← hcm,if_neg (by omega),if_pos (by omega)]
    have hV:pE t r h m=pQ:=by unfold pE;rw [if_neg (by omega)]
    exact wv (h:=hQ _ _ (by simp [go_sem,hA,hV,pQ,qA,tP,kD,Stp26.c,Rule.c,Mat.c,Host.c,Cond.kind,Cond.y,Cond.map,Cond.u,dLI,dI]))
   ·have hA:nT t r h m=0:=by
     rw [hA0];unfold iT;rw [if_neg (by omega),← hcm,if_neg (by omega),if_neg (by omega)]
    have hV:pE t r h m=EV t r h m:=by unfold pE;rw [if_pos hA]
    have hW:xO t r h m=⟨(dM t r h m).o,xE cm m.vars r.right.q (dM t r h m).values⟩:=by rw [hcm];rfl
    exact wv (h:=hQ _ _ (by simp [go_sem,hA,hV,EV,Stp26.c,Mat.c,Host.c,hW,← htr,← hcm]))
end Go.Abs
end
