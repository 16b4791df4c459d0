/- Layer 26 of the reference: grow in a region that draws its o -/
import Derived.Test.YtpdanmkcpjdmjaaGreatZkAQ
import Derived.Test.YtpdanmkcpjdmjaaGreatZkAP
import Derived.Test.YtpdanmkcpjdmjaaGreatZkAF
import Derived.Test.YtpdanmkcpjdmjaaGreatZkAA
import Derived.Test.YtpdanmkcpjdmjaaGreatZkAM
set_option linter.unusedVariables false
set_option linter.unusedSimpArgs false
section
set_option maxRecDepth 100000
set_option maxHeartbeats 4000000
open Go Go.Proofs Tryz
namespace Go.Abs
def Rw (t:Types)(r:Rule)(c:Part)(x0:Host)(a b V:Nat)(qs ns:List Nat):List (Nat × Blk) :=
 [(a,⟨3,1,(jS t r c x0).j.h.map cI,false⟩),(b,⟨134,3,(jS t r c x0).j.i.map Edge.c,false⟩),(V,⟨48,1,lL (qs++ns) (jS t r c x0).k,false⟩)]
def VX (t:Types)(r:Rule)(ns:List Nat):List (Nat × Blk):=Ty ns (r.R.map λk=>mM t (gN r.right.j k))
theorem SK {H H':AHeap}{t:Types}{r:Rule}{c:Part}{m:Host}{I a b V:Nat}{f ns:List Nat}(o:HH H I a b V f m)(F:∀ j∈a :: b :: V :: f,H'.get j=H.get j)(G:ns.length=r.R.length)(x:(a :: b :: V :: (f++ns)).Nodup)
  (C:∀ j∈a :: b :: V :: (f++ns),j<H'.next):HH ((H'.ag (Rw t r c m a b V f ns)).ac (VX t r ns)) 0 a b V (f++ns) (jS t r c m)/\((H'.ag (Rw t r c m a b V f ns)).ac (VX t r ns)).next=H'.next /\
   (∀ j,j∉a :: b :: V :: (f++ns)->((H'.ag (Rw t r c m a b V f ns)).ac (VX t r ns)).get j=H'.get j)/\(∀ j,((H'.ag (Rw t r c m a b V f ns)).ac (VX t r ns)).F j↔H'.F j\/j∈ns):=by
 have l:(VX t r ns).map (·.1)=ns:=HG (eQ G);have z:=o.ab;have n:∀ j∈ns,j≠a/\j≠b/\j≠V/\j∉f:=λj g=>by
  have h:=x;simp only [g9,aV,aX,not_or,n9] at h;exact ⟨λe=>h.1.2.2.2 (e ▸ g),λe=>h.2.1.2.2 (e ▸ g),λe=>h.2.2.1.2 (e ▸ g),λA=>h.2.2.2.2.2 j A j g rfl⟩
 have J:((VX t r ns).map (·.1)).Nodup:=by
  rw [l];have h:=x;simp only [g9,n9] at h;exact h.2.2.2.2.1
 have d:∀ j,j∉ns->((H'.ag (Rw t r c m a b V f ns)).ac (VX t r ns)).get j=(H'.ag (Rw t r c m a b V f ns)).get j:=λj g=>oU _ _ _ (by rw [l];exact g);have B:((H'.ag (Rw t r c m a b V f ns)).ac (VX t r ns)).next=H'.next:=by
  rw [qV _ _ λp w=>?_,wZ];rw [wZ];refine C p.1 ?_;have:p.1∈ns:=by rw [<- l];exact pA w
  simp [this]
 have s:(jS t r c m).k=m.k++r.R.map (λk=>mM t (gN r.right.j k)):=rfl;refine ⟨⟨?_,?_,?_,?_,λi q v D E=>?_,x,λj g=>⟨eB _,by rw [B];exact C j g⟩⟩,B,λj g=>?_,λj=>?_⟩
 .rw [d a λy=>(n a y).1 rfl];simp [AHeap.ag,AHeap.put,Rw,z.1,z.2.1]
 .rw [d b λy=>(n b y).2.1 rfl];simp [AHeap.ag,AHeap.put,Rw,z.2.2]
 .rw [d V λy=>(n V y).2.2.1 rfl];simp [AHeap.ag,AHeap.put,Rw]
 .rw [s,aH,aH,aT,o.len,G]
 .by_cases hi:i<f.length
  .rw [aR hi] at D;rw [s,aR (by rw [<- o.len];exact hi)] at E;have A:=aL D;have u:=o.qn A;rw [d q λy=>(n q y).2.2.2 A,yL _ _ _ (λp w=>?_),F q (o.aI A)]
   .exact o.gq i q v D E
   .simp only [Rw,aV,fJ,or_false] at w;rcases w with rfl|rfl|rfl
    .exact Ne.symm u.1
    .exact Ne.symm u.2.1
    .exact Ne.symm u.2.2
  .rw [bF aD] at D;rw [s,bF (by rw [<- o.len];omega),<- o.len] at E;exact w3 _ _ J (Oi D E)
 .simp only [aV,aX,not_or] at g;rw [d j g.2.2.2.2,yL _ _ _ λp w=>?_];simp only [Rw,aV,fJ,or_false] at w;rcases w with rfl|rfl|rfl
  .exact Ne.symm g.1
  .exact Ne.symm g.2.1
  .exact Ne.symm g.2.2.1
 .rw [tV,l,MK]
theorem ACalls.wf {P:Program}{f:FuncId}{args:UN}{H:AHeap}{Q:D->AHeap->Prop}(he:Yc P f)(h:(∀ j,H.F j->j<H.next)->(∀ j,¬ H.F j->H.get j=none)->ACalls P f args H Q):ACalls P f args H Q :=
 ⟨he,λM0 σ w vals hR ha=>(h hR.bf λj hj=>(hR.bp j hj).2).2 M0 σ w vals hR ha⟩
theorem PR {md:Nat->Bool}{ops:Array Oper}{R:List (Nat × Nat)}{P i:Nat}{B:List Oper}{G:List (Nat × List Nat)}{e:eF}{F:Option Tmp}{K:eF->AHeap->Prop}{H:AHeap}
  (t:Types) (ht:t.ok) (r:Rule) (hR:RuleV t r) (f:Host) (c:Part) (hc:c.h.length=r.right.j.h.length) (hs:f.j.h.length<=1000/\f.j.i.length<=1000/\f.k.length<=1000)
  (lo a b V:Nat) (m ns:List Nat) (g:HH H lo a b V m f) (Y:ns.length=r.R.length) (J:(a :: b :: V :: (m++ns)).Nodup) (W:P<=H.next) (L:∀ j∈ns,j<P/\¬ H.F j)
  (X:Et md F=true) (a2:chk R i (a :: b :: V :: (m++ns)) G)
  (hK:∀ E,HH E 0 a b V (m++ns) (jS t r c f)->(∀ j,j∉a :: b :: V :: (m++ns)->E.get j=H.get j)->(∀ j,E.F j↔H.F j\/j∈ns)->E.next=H.next ->
   j9 prog md ops R P (i+1) B ((i,a :: b :: V :: (m++ns)) :: G) (pG e F (.agg [.own a (jS t r c f).j.h.length,.own b (jS t r c f).j.i.length,.own V (jS t r c f).k.length])) E K) :
  rA prog md ops R P i B G e F K 139 [t.d,r.d,.agg [.own a f.j.h.length,.own b f.j.i.length,.own V f.k.length],c.d] H:=by
 have s:(VX t r ns).map (·.1)=ns:=HG (eQ Y);have N:=(Fp t ht r hR f c hc hs H lo a b V m g (λ_ _=>True) (λ_ _ _ _ _ _=>trivial)).1;unfold rA;refine Or.inr ⟨X,.agg [.own a (jS t r c f).j.h.length,.own b (jS t r c f).j.i.length,.own V (jS t r c f).k.length],a :: b :: V :: m,Rw t r c f a b V m ns,VX t r ns,λp x=>?_,λp x=>L p.1 (by rw [<- s];exact pA x),λy u z=>?_,?_,?_⟩
 .simp only [Rw,aV,fJ,or_false] at x;rcases x with rfl|rfl|rfl<;>simp
 .refine ACalls.wf N λo C=>?_;have M:∀ j∈ns,j<y.next/\¬ y.F j:=λj n=>by
   rw [<- s,aW] at n;obtain ⟨p,x,rfl⟩:=n;exact z p x
  have a1:∀ j∈a :: b :: V :: m,∃ k,H.get j=some k:=λj n=>by
   simp only [aV] at n;rcases n with rfl|rfl|rfl|hq
   .exact ⟨_,g.ga⟩
   .exact ⟨_,g.gb⟩
   .exact ⟨_,g.gV⟩
   .obtain ⟨p,x,rfl⟩:=aQ hq;exact ⟨_,g.gq p _ _ (aA x) (aA (by rw [<- g.len];exact x))⟩
  have A:∀ j∈a :: b :: V :: m,y.F j:=λj n=>bB λhn=>by
   obtain ⟨k,hk⟩:=a1 j n;have:=u j n;rw [hk,C j hn] at this;cases this
  have a0:HH y 0 a b V m f:=⟨(u a g.aO).trans g.ga,(u b g.aN).trans g.gb,(u V g.aV).trans g.gV,g.len,λi q v h1 h2=>(u q (g.aI (aL h1))).trans (g.gq i q v h1 h2),g.nd,λj n=>⟨eB _,o j (A j n)⟩⟩;have D:∀ j∈a :: b :: V :: (m++ns),j<y.next:=λj n=>by
   simp only [aV,aX] at n;rcases n with h|h|h|h|h
   .exact o j (A j (by simp [h]))
   .exact o j (A j (by simp [h]))
   .exact o j (A j (by simp [h]))
   .exact o j (A j (by simp [h]))
   .exact (M j h).1
  obtain ⟨g1,g2,g3,g4⟩:=SK (t:=t) (r:=r) (c:=c) g u Y J D;refine ACalls.exact (E:=(y.ag (Rw t r c f a b V m ns)).ac (VX t r ns)) (Fp t ht r hR f c hc hs y 0 a b V m a0 (λd Q=>∃ w,(∀ j∈w,y.next<=j)/\HH Q 0 a b V (m++w) (jS t r c f)/\(∀ j,j<y.next->j∉a :: b :: V :: m->Q.get j=y.get j)/\d=.agg [.own a (jS t r c f).j.h.length,.own b (jS t r c f).j.i.length,.own V (jS t r c f).k.length]) (λw Q U T S _=>⟨w,U,T,S,rfl⟩)) ?_;rintro _ _ d Q ⟨w,U,T,S,rfl⟩;refine HH.exact g1 T o C (by rw [g2];exact aZ _) (λj=>?_) (λj n Z=>S j (o j n) λhm=>Z (by simp only [aV,aX] at hm ⊢;rcases hm with h|h|h|h<;>simp [h])) g3 (λp j j1 O I=>?_)
  .rw [g4];constructor
   .rintro (h|h)
    .exact .inl h
    .exact .inr (by simp [h])
   .rintro (h|h)
    .exact .inl h
    .simp only [aV,aX] at h;rcases h with h|h|h|h|h
     .exact .inl (A j (by simp [h]))
     .exact .inl (A j (by simp [h]))
     .exact .inl (A j (by simp [h]))
     .exact .inl (A j (by simp [h]))
     .exact .inr h
  .have ea:∀ l:List Nat,a :: b :: V :: (m++l)=(a :: b :: V :: m)++l:=λl=>rfl;rw [ea] at O I;by_cases x:p<(a :: b :: V :: m).length
   .rw [aR x] at O I;rw [O] at I;cases I
    exact ⟨λ_=>rfl,λh=>h⟩
   .rw [bF aD] at O I;have m1:=M j (aL O);have m2:=U j1 (aL I);exact ⟨λh=>absurd h m1.2,λ_ h=>by have:=o j1 h;omega⟩
 .rw [s];exact a2
 .rw [s];have D:∀ j∈a :: b :: V :: (m++ns),j<H.next:=λj n=>by
   simp only [aV,aX] at n;rcases n with h|h|h|h|h
   .exact (g.W j (by simp [h])).2
   .exact (g.W j (by simp [h])).2
   .exact (g.W j (by simp [h])).2
   .exact (g.W j (by simp [h])).2
   .exact cO (L j h).1 W
  obtain ⟨g1,g2,g3,g4⟩:=SK (t:=t) (r:=r) (c:=c) g (λ_ _=>rfl) Y J D;exact hK _ g1 g3 g4 g2
theorem II {l:W3}{v:Int}(h:mem l v=true):0<=idx l v/\(idx l v).toNat<l.length/\l[(idx l v).toNat]?=some v:=by
 obtain ⟨i,e,f⟩:=aQ ((mem_iff l v).1 h);have b:0<=idx l v:=by simpa [mem] using h
 unfold idx at b ⊢;cases a:l.findIdx? (λx=>decide (x=v)) with
 | none=>rw [a] at b;simp at b
 | some k =>
  rw [i9] at a;obtain ⟨d,c,_⟩:=a;simp only [decide_eq_true_eq] at c;exact ⟨by simp,by simpa using d,by simp [d,c]⟩
def fS (l:W3)(n:Nat):W3:=((List.range n).filter λ(i:Nat)=>mem l i).map λ(i:Nat)=>(i:Int)
theorem iK {f:Nat->Int}:∀ (n k:Nat),(∀ j,k<=j->j<k+n->f j=0)->bU f k n=0
 | 0,k,_=>rfl
 | n+1,k,h=>by
  unfold bU;rw [if_neg (by rw [h k (aZ _) aD];simp)];exact iK n (k+1) λj h1 h2=>h j aD aD
theorem Wr {l:W3}{n:Int}(d:∀ x∈l,0<=x/\x<n)(c:l.Pairwise (· < ·)):EX l n=0:=by
 refine iK _ _ λj _ f=>?_;have a:j<l.length:=aD;have e:=d _ (aC a);unfold Jv;rw [aA a,Option.getD_some,if_neg aD,if_neg];rintro ⟨g,b⟩;rw [aA (aD:j - 1<l.length),Option.getD_some] at b;have:=dD.1 c (j - 1) j aD a aD;omega
theorem Ws {l:W3}(h:l.Pairwise (· < ·))(h0:∀ x∈l,0<=x):∀ i (hi:i<l.length),(i:Int)<=l[i]
 | 0,hi=>by have:=h0 _ (aC hi);omega
 | i+1,hi=>by
  have h1:=Ws h h0 i aD;have h2:=dD.1 h i (i+1) aD hi aD;omega
theorem Pu {α:Type}{f:α->Int}:∀ {l:List α},(∀ x∈l,f x=0)->gK f l=0
 | [],_=>rfl
 | x :: l,h=>by
  unfold gK;rw [if_neg (by rw [h x (fO ..)];simp)];exact Pu λy hy=>h y (d7 _ hy)
def eA (g:Graph)(k:Int):Edge:=g.i[k.toNat]?.getD b8
def iA (l:W3)(k:Int):Int:=l[k.toNat]?.getD 0
theorem R9 {g:Graph}{p:Part}(i:graphF g=0)(h:∀ x∈p.h,0<=x/\x<g.h.length)(b:p.h.Pairwise (· < ·))(j:∀ x∈p.i,0<=x/\x<g.i.length)(c:p.i.Pairwise (· < ·))
  (a:∀ k∈p.i,(eA g k).w∈p.h/\(eA g k).M∈p.h):subF g p=0:=by
 unfold subF sB;rw [if_neg (by rw [i];simp),if_neg (by rw [Wr h b];simp),if_neg (by rw [Wr j c];simp)];refine Pu λk d=>?_;have f:=(mem_iff _ _).2 (a k d).1;have e:=(mem_iff _ _).2 (a k d).2;unfold eA at f e;unfold AI;rw [if_pos (by rw [f,e];rfl)]
theorem H8 (p:Nat->Bool)(n:Nat):(((List.range n).filter p).map λ(b:Nat)=>(b:Int)).Pairwise (· < ·):=by
 rw [G0];have h:((List.range n).filter p).Pairwise (· < ·):=List.Pairwise.filter _ L3;exact h.imp λh=>by omega
theorem BX (p:Nat→Bool)(n:Nat)(x:Int):x∈(((List.range n).filter p).map fun (b:Nat)=>(b:Int))↔(0≤x∧x<n)∧p x.toNat=true:=by
 simp only [aW,fK,bA]
 constructor
 ·rintro ⟨a,⟨h1,h2⟩,rfl⟩;exact ⟨by omega,by simpa using h2⟩
 ·rintro ⟨⟨h1,h2⟩,h3⟩;exact ⟨x.toNat,⟨by omega,h3⟩,by omega⟩
theorem fZ {l:W3}{n:Nat}{x:Int}:x∈bP l n↔(0<=x/\x<n)/\x∉l:=by
 unfold bP;rw [BX];constructor
 .rintro ⟨h,a⟩;refine ⟨h,λb=>?_⟩;rw [show ((x.toNat:Nat):Int)=x by omega,(mem_iff l x).2 b] at a;cases a
 .rintro ⟨h,a⟩;refine ⟨h,?_⟩;rw [show ((x.toNat:Nat):Int)=x by omega,cD,bQ];exact λb=>a ((mem_iff l x).1 b)
theorem oV (l:W3)(n:Nat):(bP l n).Pairwise (· < ·):=H8 _ n
theorem jX {l:W3}{n:Nat}{x:Int}:x∈fS l n↔(0<=x/\x<n)/\x∈l:=by
 unfold fS;rw [BX];constructor
 .rintro ⟨h,a⟩;refine ⟨h,?_⟩;rw [show ((x.toNat:Nat):Int)=x by omega] at a;exact (mem_iff l x).1 a
 .rintro ⟨h,a⟩;refine ⟨h,?_⟩;rw [show ((x.toNat:Nat):Int)=x by omega];exact (mem_iff l x).2 a
theorem Ds (l:W3)(n:Nat):(fS l n).Pairwise (· < ·):=H8 _ n
theorem S4:∀ {l m:W3},l.Pairwise (· < ·)->m.Pairwise (· < ·)->(∀ x,x∈l↔x∈m)->l=m
 | [],[],_,_,_=>rfl
 | [],b :: m,_,_,h=>by have:=(h b).2 (fO ..);cases this
 | a :: l,[],_,_,h=>by have:=(h a).1 (fO ..);cases this
 | a :: l,b :: m,hl,hm,h=>by
  obtain ⟨h1,h2⟩:=List.pairwise_cons.1 hl;obtain ⟨h3,h4⟩:=List.pairwise_cons.1 hm;have hab:a=b:=by
   have q1:=(h a).1 (fO ..);have q2:=(h b).2 (fO ..);rw [aV] at q1 q2;rcases q1 with q1|q1
   .exact q1
   .rcases q2 with q2|q2
    .exact q2.symm
    .have h5:=h1 b q2;have h6:=h3 a q1;omega
  subst hab;congr 1;refine S4 h2 h4 λx=>⟨λhx=>?_,λhx=>?_⟩
  .rcases aV.1 ((h x).1 (d7 _ hx)) with rfl|h'
   .have:=h1 x hx;omega
   .exact h'
  .rcases aV.1 ((h x).2 (d7 _ hx)) with rfl|h'
   .have:=h3 x hx;omega
   .exact h'
theorem Es {a b:Graph}{m:Part}(h:eD a b m=0):(∀ i,i<a.h.length->kI a b m i=0)/\∀ k,k<a.i.length->mapEE a b m k=0:=by
 obtain ⟨e,d,l,j⟩:=kZ h;have c:eD a b m=(if bU (kI a b m) 0 a.h.length≠0 then bU (kI a b m) 0 a.h.length else bU (mapEE a b m) 0 a.i.length):=by
  unfold eD;rw [if_neg (by rw [e];simp),if_neg (by rw [d];simp),if_neg aD]
 rw [c] at h;split at h
 .rename_i q;exact absurd h q
 .rename_i q;exact ⟨λi g=>eI a.h.length 0 (aD:bU (kI a b m) 0 a.h.length=0) i aD aD,λk f=>eI a.i.length 0 h k aD aD⟩
theorem Il {a b:Graph}{m:Part}(h:eD a b m=0){i:Int}(d:0<=i)(c:i<a.h.length):(0<=iA m.h i/\iA m.h i<b.h.length)/\gN b (iA m.h i)=gN a i:=by
 have q:=(Es h).1 i.toNat aD;unfold kI at q;split at q
 .cases q
 .rename_i q1;split at q
  .cases q
  .rename_i q2;exact ⟨by unfold iA;omega,by unfold gN iA;simpa using q2⟩
theorem qX {a b:Graph}{m:Part}(h:eD a b m=0){k:Int}(e:0<=k)(d:k<a.i.length):(0<=iA m.i k/\iA m.i k<b.i.length)/\(eA a k).type=(eA b (iA m.i k)).type /\
  iA m.h (eA a k).w=(eA b (iA m.i k)).w/\iA m.h (eA a k).M=(eA b (iA m.i k)).M:=by
 have q:=(Es h).2 k.toNat aD;unfold mapEE at q;split at q
 .cases q
 .rename_i q1;split at q
  .cases q
  .rename_i q2;split at q
   .cases q
   .rename_i q3;unfold eA iA;refine ⟨aD,by simpa using q2,?_,?_⟩<;>exact bB λc=>q3 (by first|exact .inl c|exact .inr c)
theorem vM {g:Graph}(c:graphF g=0){k:Int}(e:0<=k)(d:k<g.i.length):(0<=(eA g k).w/\(eA g k).w<g.h.length)/\(0<=(eA g k).M/\(eA g k).M<g.h.length)/\0<=(eA g k).type/\(eA g k).type<=99:=by
 have a:k.toNat<g.i.length:=aD;have b:=(dP c).2 _ (aC a);unfold eA;rw [aA a,Option.getD_some];exact ⟨b.2.1,b.2.2,b.1⟩
theorem PN {a keep:W3}(h:nU a keep=[]){i k:Nat}(c:i<k)(e:k<a.length):sP a keep i k=false:=by
 rw [bQ];intro d;have b:(i,k)∈nU a keep:=by
  unfold nU EO;rw [bK];refine ⟨i,bA.2 aD,?_⟩;unfold lW;rw [aW];exact ⟨k - (i+1),fK.2 ⟨bA.2 aD,by rw [show i+1+(k - (i+1))=k by omega];exact d⟩,by simp;omega⟩
 rw [h] at b;cases b
theorem PO {a keep:W3}(h:nU a keep=[]){i k:Nat}(e:i<a.length)(d:k<a.length)(b:i≠k)(c:a[i]?.getD 0=a[k]?.getD 0):mem keep i=true/\mem keep k=true:=by
 rcases Nat.lt_or_gt_of_ne b with hlt|hlt
 .have:=PN h hlt d;unfold sP at this;rw [c] at this;simpa using this
 .have:=PN h hlt e;unfold sP at this;rw [c] at this;simp at this;exact ⟨this.2,this.1⟩
theorem vR {l g:Graph}{keep m:Part}(h:oG l g keep m=0):eD l g m=0/\subF l keep=0/\nU m.h keep.h=[]/\nU m.i keep.i=[]/\vP g m.i (gL m.h keep.h)=[]:=by
 unfold oG at h;split at h
 .rename_i q;exact absurd h q
 .rename_i q;have a:compG l g keep m=0:=aD;unfold compG at a;split at h
  .cases h
  .rename_i q2;split at h
   .cases h
   .rename_i q3;have b:eD l g m=0/\subF l keep=0:=by
     split at a
     .rename_i q5;exact absurd a q5
     .rename_i q5;exact ⟨aD,a⟩
    exact ⟨b.1,b.2,bT aD,bT aD,bT aD⟩
theorem xH {b keep:W3}(h:nU b keep=[]){j:Int}(l:0<=j)(k:j<b.length)(e:j∈keep):iA b j∉gL b keep:=by
 intro d;obtain ⟨i,f,a,g⟩:=q9.1 d;have c:i≠j.toNat:=by
  rintro rfl;rw [show ((j.toNat:Nat):Int)=j by omega,(mem_iff _ _).2 e] at a;cases a
 have:=PO h f (aD:j.toNat<b.length) c (by rw [g];rfl);rw [a] at this;exact absurd this.1 dB
theorem Xu {l g:Graph}{keep m:Part}(h:oG l g keep m=0):subF g (uE l g keep m)=0:=by
 obtain ⟨z,D,r,H,y⟩:=vR h;unfold uE;rw [if_pos h];obtain ⟨w,A,E,F⟩:=kZ z;refine R9 A (λx s=>l8 s) (oV _ _) (λx s=>l8 s) (oV _ _) λk G=>?_;obtain ⟨c,t⟩:=fZ.1 G;have a:=vM A c.1 c.2;by_cases o:k∈m.i
 .obtain ⟨i,v,p⟩:=aQ o;have d:(i:Int)∈keep.i:=by
   refine bB λI=>t (q9.2 ⟨i,v,?_,?_⟩)
   .rw [bQ];exact λf=>I ((mem_iff _ _).1 f)
   .rw [aA v,p]
  have j:=Ef D i d;have q:=vM (k:=(i:Int)) w aD aD;have b:=qX (k:=(i:Int)) z aD aD;have u:iA m.i i=k:=by unfold iA;simp [v,p]
  rw [u] at b;have C:=xH r q.1.1 aD ((mem_iff _ _).1 j.1);have B:=xH r q.2.1.1 aD ((mem_iff _ _).1 j.2);rw [b.2.2.1] at C;rw [b.2.2.2] at B;exact ⟨fZ.2 ⟨a.1,C⟩,fZ.2 ⟨a.2.1,B⟩⟩
 .have e:xQ g m.i (gL m.h keep.h) k.toNat=false:=by
   rw [bQ];intro e;have n:k∈vP g m.i (gL m.h keep.h):=by
    unfold vP;rw [BX];exact ⟨c,e⟩
   rw [y] at n;cases n
  unfold xQ at e;rw [show ((k.toNat:Nat):Int)=k by omega,show mem m.i k=false by rw [bQ];exact λf=>o ((mem_iff _ _).1 f)] at e;simp only [Bool.not_false,gW,Bool.or_eq_false_iff] at e;exact ⟨fZ.2 ⟨a.1,λf=>by have:=(mem_iff _ _).2 f;unfold eA at this;rw [e.1] at this;cases this⟩,fZ.2 ⟨a.2.1,λf=>by have:=(mem_iff _ _).2 f;unfold eA at this;rw [e.2] at this;cases this⟩⟩
theorem EF {g:Graph}(k:g.h.length<=40)(j:g.i.length<=80)(e:∀ a∈g.h,0<=a/\a<=99)
  (f:∀ x∈g.i,(0<=x.type/\x.type<=99)/\(0<=x.w/\x.w<g.h.length)/\(0<=x.M/\x.M<g.h.length)):graphF g=0:=by
 unfold graphF;rw [if_neg aD,if_neg,if_neg]
 .rw [bD];rintro ⟨x,d,b⟩;have i:=f x d;have c:vK x g.h.length=true:=by simp [vK,iQ];omega
  rw [c] at b;cases b
 .rw [bD];rintro ⟨a,h,b⟩;have i:=e a h;have c:iQ a 99=true:=by simp [iQ];omega
  rw [c] at b;cases b
theorem EI {g:Graph}{n:Int}(h0:0<=n)(h:n<g.h.length):gN g n∈g.h:=by
 unfold gN;rw [aA (aD:n.toNat<g.h.length),Option.getD_some];exact aC _
theorem Ng {g:Graph}{n:Int}(h0:0<=n)(h:n<g.i.length):eA g n∈g.i:=by
 unfold eA;rw [aA (aD:n.toNat<g.i.length),Option.getD_some];exact aC _
theorem fB {l:W3}{n:Int}(h0:0<=n)(h:n<l.length):iA l n∈l:=by
 unfold iA;rw [aA (aD:n.toNat<l.length),Option.getD_some];exact aC _
theorem Nr {l:W3}{n:Nat}(h:l.Pairwise (· < ·))(a:∀ x∈l,0<=x/\x<n):l.length<=n:=by
 rcases Nat.eq_zero_or_pos l.length with h1|h1
 .omega
 .have h2:=Ws h (λx b=>(a x b).1) (l.length - 1) aD;have c:=a _ (aC (aD:l.length - 1<l.length));omega
theorem Hh {g:Graph}{p:Part}(h:subF g p=0):p.i.Pairwise (· < ·):=by
 unfold subF sB at h;split at h
 .rename_i q;exact absurd h q
 .split at h
  .rename_i q;exact absurd h q
  .split at h
   .rename_i q;exact absurd h q
   .rename_i q;exact (Cu (aD:EX p.i g.i.length=0)).2
theorem BY {l:W3}(f:l.Pairwise (· < ·)){v:Int}(e:v∈l):pT l v<l.length/\iA l (pT l v)=v/\idx l v=pT l v:=by
 have a:=(mem_iff l v).2 e;have d:=Du f a;obtain ⟨g,c,b⟩:=II a;rw [d] at g c b;refine ⟨by simpa using c,?_,d⟩;unfold iA;rw [b];rfl
theorem pN {g:Graph}{p:Part}(h:subF g p=0){k:Int}(a:k∈p.i):(eA g k).w∈p.h/\(eA g k).M∈p.h:=by
 have:=Ef h k a;exact ⟨(mem_iff _ _).1 this.1,(mem_iff _ _).1 this.2⟩
theorem EJ (g:Graph)(p:Part)(k:Int):gEd g p k=⟨(eA g k).type,pT p.h (eA g k).w,pT p.h (eA g k).M⟩:=rfl
theorem VC {α β:Type}(f:α->β)(l:List α)(d:α)(e:β){i:Nat}(h:i<l.length):((l.map f)[i]?).getD e=f ((l[i]?).getD d):=by simp [h]
theorem DB {g:Graph}{p:Part}(h:subF g p=0){i:Int}(b:0<=i)(a:i<p.h.length):gN (bZ g p) i=gN g (iA p.h i):=by
 unfold bZ;rw [if_pos h];exact VC (gN g) p.h 0 0 aD
theorem DC {g:Graph}{p:Part}(h:subF g p=0){i:Int}(b:0<=i)(a:i<p.i.length):eA (bZ g p) i=gEd g p (iA p.i i):=by
 unfold bZ;rw [if_pos h];exact VC (gEd g p) p.i 0 b8 aD
theorem Lb (c:Part)(vs:W3)(l:List Slot)(s:Slot)(vals:Yb):v7 c vs (l++[s]) vals=(v7 c vs l vals).set (fF c s) (((v7 c vs l vals)[fF c s]?.getD []).set s.J.toNat (dG s.x vs)):=by unfold v7;rw [j4];rfl
theorem pR (c:Part)(vs:W3):∀ (l:List Slot) (vals:Yb),(v7 c vs l vals).length=vals.length/\∀ n:Nat,((v7 c vs l vals)[n]?.getD []).length=(vals[n]?.getD []).length
 | [],vals=>⟨rfl,λ_=>rfl⟩
 | s :: l,vals=>by
  obtain ⟨h1,h2⟩:=pR c vs l (vals.set (fF c s) ((vals[fF c s]?.getD []).set s.J.toNat (dG s.x vs)));have e:v7 c vs (s :: l) vals=v7 c vs l (vals.set (fF c s) ((vals[fF c s]?.getD []).set s.J.toNat (dG s.x vs))):=rfl;rw [e];refine ⟨by rw [h1,fV],λn=>?_⟩;rw [h2 n,dA];split
  .rename_i hn;subst hn;split
   .simp
   .rename_i hn;rw [bX aD]
  .rfl
def wI (c:Part)(vs:W3)(l:List Slot)(i k:Nat):Bool:=match l[k]?,l[i]? with|some a,some b=>Cq c vs a b|_,_=>false
theorem xV (c:Part)(vs:W3)(l:List Slot):uF c vs l=(List.range l.length).any λi=>(List.range i).any λk=>wI c vs l i k:=rfl
structure PutOk (t:Types) (r:Rule) (x:Host) (c:Part):Prop where
 P:c.h.length=r.right.j.h.length
 bg:x.j.h.length<=2000/\x.j.i.length<=2000/\x.k.length<=2000
 spot:∀ s∈r.right.l,0<=c.h[s.node.toNat]?.getD 0/\fF c s<x.k.length/\fF c s<x.j.h.length
 J:∀ s∈r.right.l,s.J<(x.k[fF c s]?.getD []).length/\s.J<(bI t (x.j.h[fF c s]?.getD 0)).length
theorem QW (t:Types)(ht:t.ok)(r:Rule)(hR:RuleV t r)(f:Host)(c:Part)(hP:PutOk t r f c)(vs:W3)(a0:vs.length=r.left.vars.toNat)(Z:Sm vs)
  (G:AHeap) (lo a b V:Nat) (w:List Nat) (m:HH G lo a b V w f) (Q:D->AHeap->Prop)
  (L:∀ H',sN t f.j c vs r.right.l≠0->(∀ j,j<G.next->j∉a :: b :: V :: w->H'.get j=G.get j)->G.next<=H'.next->Q (.tup [.agg [.nil,.nil,.nil],dI (sN t f.j c vs r.right.l)]) H')
  (hQ:∀ H',sN t f.j c vs r.right.l=0->(∀ j,j<G.next->j∉a :: b :: V :: w->H'.get j=G.get j)->G.next<=H'.next->Q (.tup [Host.d ⟨f.j,v7 c vs r.right.l f.k⟩,dI 0]) H') :
  ACalls prog 141 [t.d,r.d,.agg [.own a f.j.h.length,.own b f.j.i.length,.own V f.k.length],c.d,dLI vs] G Q:=by
 have g0:=dP hR.gr;have g5:=m.W a m.aO;have g2:=m.W b m.aN;have g6:=m.W V m.aV;have g4:=m.ab;have s:=hR.l;have c2:=hR.bg;obtain ⟨l,hl⟩:=fD (r.right.l);rw [<- hl] at L hQ s c2;have n:=hP.spot;have K:=hP.J;rw [<- hl] at n K;have g1:=hP.P;obtain ⟨Q',N⟩:∃ Q':D->AHeap->Prop,∀ d H',Q' d H'↔Q (iZ H' d) (fN (BI H' d) H'):=⟨_,λ_ _=>Iff.rfl⟩;refine ACalls.bO ?_;rw [show (λd H'=>Q (iZ H' d) (fN (BI H' d) H'))=Q' from funext λd=>funext λH'=>propext (N d H').symm];refine (Tz.cK ⟨λt=>t==7||t==10,λ_=>[]⟩ func141 rfl ?_);have Y:=xa2 @Part.d.eq_1 @Part.c.eq_1 (Eq.symm hl) @Term.c.eq_1;refine wv (h:=aY (λi e H=>∃ X:Nat,∃ R:Nat,(e 5=.adr t.c/\e 6=.adr r.c/\e 8=.adr c.c/\e 4=dLI vs/\e 12=.list (l.map Slot.c)/\e 7=.ptr X 1 0 0/\e 10=.ptr R 1 0 0/\e 13=dI i)/\(H.get X=some ⟨68,3,[[.own a f.j.h.length,.own b f.j.i.length,.own V f.k.length]],false⟩)/\(X<H.next)/\(H.get R=some ⟨68,3,[[.nil,.nil,.nil]],false⟩)/\(R<H.next)/\(i<=l.length)/\(HH H lo a b V w f)/\(∀ j∈a :: b :: V :: w,j≠X/\j≠R)/\(G.next<=X/\X<R)/\(∀ p q,p<i->q<p->wI c vs l p q=false)/\(∀ j,j<G.next->j∉a :: b :: V :: w->H.get j=G.get j)/\(G.next<=H.next)) (λi=>l.length - i) 0 ⟨G.next,(G.next+1),wg,wn,wn,wn,wn,wi,(by exact m.same (by simp [go_sem];omega) (λj u=>by have:=(m.W j u).2;simp [go_sem,bL this])),(by intro j u;have:=(m.W j u).2;omega),aD,(by intro p q hp;omega),(by intro j u _;simp [go_sem,bL u]),(by simp [go_sem];omega)⟩ λI0 e7 i e H d6=>?_);obtain ⟨X,R,E0,gX_0,nX_0,gR_0,nR_0,hi,hh,a5,e3,hC,hG,b3⟩:=d6;have f4:=xa8 (cY (aD:R≠X)) (cY (aD:R≠V)) (cY (aD:R≠b)) (cY (aD:R≠a)) (cY (aD:X≠V)) (cY (aD:X≠b)) (cY (aD:X≠a)) (cY (aD:V≠b)) (cY (aD:V≠a)) (cY (aD:b≠a));have Y:=xa5 Y E0 gX_0 (bL nX_0) gR_0 (bL nR_0) f4;refine i7 (λh3=>?_) λh3=>?_
 .have hlm:=aC h3;have a6:=(s _ hlm).2.2;have d2:=(s _ hlm).1;have z:l[i].node.toNat<c.h.length:=aD;have Y:=xa3 Y h3 (aA h3) @Slot.c.eq_1 (aA z);refine wp (h:=aB (jP l[i].x vs (by rw [a0];exact a6) Z) wl ?_);refine wp (h:=aY (λk e H=>(e 5=.adr t.c/\e 6=.adr r.c/\e 8=.adr c.c/\e 4=dLI vs/\e 12=.list (l.map Slot.c)/\e 7=.ptr X 1 0 0/\e 10=.ptr R 1 0 0/\e 13=dI i/\e 14=dI (dG l[i].x vs)/\e 16=dI k)/\(H.get X=some ⟨68,3,[[.own a f.j.h.length,.own b f.j.i.length,.own V f.k.length]],false⟩)/\(X<H.next)/\(H.get R=some ⟨68,3,[[.nil,.nil,.nil]],false⟩)/\(R<H.next)/\(k<=i)/\(HH H lo a b V w f)/\(∀ q,q<k->wI c vs l i q=false)/\(∀ j,j<G.next->j∉a :: b :: V :: w->H.get j=G.get j)/\(G.next<=H.next)) (λk=>i - k) 0 ⟨wg,wn,wn,wn,wn,wi,(by exact hh.same (by first|(simp [go_sem];done)|(simp [go_sem];omega)) (λ_ _=>rfl)),(by intro q P;omega),(by exact hG),(by first|exact b3|(simp [go_sem];omega))⟩ λI2 e6 k e H d5=>?_);obtain ⟨E2,gX_2,nX_2,gR_2,nR_2,hk,c1,c6,a8,a3⟩:=d5;have f3:=xa8 (cY (aD:R≠X)) (cY (aD:R≠V)) (cY (aD:R≠b)) (cY (aD:R≠a)) (cY (aD:X≠V)) (cY (aD:X≠b)) (cY (aD:X≠a)) (cY (aD:V≠b)) (cY (aD:V≠a)) (cY (aD:b≠a));have Y:=xa5 Y E2 gX_2 (bL nX_2) gR_2 (bL nR_2) f3;refine dK (λh7=>?_) λh7=>?_
  .have hkl:k<l.length:=aD;have a4:=aC hkl;have e4:=(s _ a4).2.2;have f9:=(s _ a4).1;have J:l[k].node.toNat<c.h.length:=aD;have d0:=(n _ hlm).1;have c9:=(n _ a4).1;rw [aA z,Option.getD_some] at d0;rw [aA J,Option.getD_some] at c9;have c5:wI c vs l i k=(decide (c.h[l[k].node.toNat]=c.h[l[i].node.toNat])&&(decide (l[k].J=l[i].J)&&decide (dG l[k].x vs≠dG l[i].x vs))):=by
    unfold wI Cq fF;simp only [aA hkl,aA h3,aA z,aA J,Option.getD_some];rw [show (decide ((c.h[l[k].node.toNat]).toNat=(c.h[l[i].node.toNat]).toNat))=decide (c.h[l[k].node.toNat]=c.h[l[i].node.toNat]) from by rw [decide_eq_decide];omega]
   have Y:=xa2 Y h7 (aA hkl) (aA J);refine wp (h:=aB (jP l[k].x vs (by rw [a0];exact e4) Z) wl ?_);refine i7 (λI=>?_) λI=>?_
   .have hB:uF c vs l=true:=by
     rw [xV,bD];refine ⟨i,by simpa using h3,?_⟩;rw [bD];refine ⟨k,by simpa using h7,?_⟩;rw [c5];simp at I ⊢;exact ⟨I.1.1,I.1.2,λe=>I.2 e.symm⟩
    have hE:sN t f.j c vs l=11:=by unfold sN;rw [if_pos hB]
    refine wv (h:=?_);rw [hE] at L;refine (N _ _).2 ?_;simp only [iZ,j7,qK,fI,BI,IJ,M5,lQ,iH,jF,oA,KC,dS,fN];exact L _ (by decide) (λj u o=>by simp [go_sem,(aD:j≠R)];exact a8 j u o) (by first|(simp [go_sem];omega)|exact a3)
   .have hCk:wI c vs l i k=false:=by
     rw [c5,bQ];intro A;simp at A;exact A.2.2 (I A.1 A.2.1).symm
    exact wp (h:=wx e6 (k+1) ⟨wg,wn,wn,wn,wn,wj,(by exact c1.same (by first|(simp [go_sem];done)|(simp [go_sem];omega)) (λ_ _=>rfl)),(by intro q P;rcases cH q k with hqk|hqk;exact c6 q hqk;(obtain rfl:q=k:=aD;exact hCk)),(by exact a8),(by first|exact a3|(simp [go_sem];omega))⟩)
  .exact wp (h:=wx e7 (i+1) ⟨X,R,wg,wn,wn,wn,wn,wj,(by exact c1),(by exact a5),(by exact e3),(by intro p q hp P;rcases cH p i with hpi|hpi;exact hC p q hpi P;(obtain rfl:p=i:=aD;exact c6 q aD)),(by exact a8),(by exact a3)⟩)
 .have hB:uF c vs l=false:=by
   rw [xV,bQ];intro A;rw [bD] at A;obtain ⟨p,hp,A⟩:=A;rw [bD] at A;obtain ⟨q,P,A⟩:=A;rw [bA] at hp P;rw [hC p q aD P] at A;cases A
  have O:sN t f.j c vs l=if l.any (yM t f.j c vs)=true then 6 else 0:=by unfold sN;rw [if_neg (by rw [hB];simp)]
  refine wv (h:=aY (λi e H=>∃ x:Host,(e 5=.adr t.c/\e 6=.adr r.c/\e 8=.adr c.c/\e 4=dLI vs/\e 12=.list (l.map Slot.c)/\e 7=.ptr X 1 0 0/\e 10=.ptr R 1 0 0/\e 19=dI i)/\(H.get X=some ⟨68,3,[[.own a f.j.h.length,.own b f.j.i.length,.own V f.k.length]],false⟩)/\(X<H.next)/\(H.get R=some ⟨68,3,[[.nil,.nil,.nil]],false⟩)/\(R<H.next)/\(i<=l.length)/\(x=⟨f.j,v7 c vs (l.take i) f.k⟩)/\(HH H lo a b V w x)/\((l.take i).any (yM t f.j c vs)=false)/\(∀ j,j<G.next->j∉a :: b :: V :: w->H.get j=G.get j)/\(G.next<=H.next)) (λi=>l.length - i) 0 ⟨f,wg,wn,wn,wn,wn,wi,(by rfl),(by exact hh),(by rfl),(by exact hG),(by exact b3)⟩ λI4 e5 i e H b9=>?_);obtain ⟨x,E4,gX_4,nX_4,gR_4,nR_4,b9,hx,g,hO,a7,b8⟩:=b9;have f2:=xa8 (cY (aD:R≠X)) (cY (aD:R≠V)) (cY (aD:R≠b)) (cY (aD:R≠a)) (cY (aD:X≠V)) (cY (aD:X≠b)) (cY (aD:X≠a)) (cY (aD:V≠b)) (cY (aD:V≠a)) (cY (aD:b≠a));have Y:=xa5 Y E4 gX_4 (bL nX_4) gR_4 (bL nR_4) f2;refine i7 (λF=>?_) λF=>?_
  .have hlm:=aC F;have a6:=(s _ hlm).2.2;have d2:=(s _ hlm).1;have g3:=(s _ hlm).2.1;have z:l[i].node.toNat<c.h.length:=aD;obtain ⟨s1,s2,s3⟩:=n _ hlm;obtain ⟨a1,a2⟩:=K _ hlm;have c8:fF c l[i]=(c.h[l[i].node.toNat]).toNat:=by unfold fF;rw [aA z];rfl
   rw [aA z,Option.getD_some] at s1;have b2:=pR c vs (l.take i) f.k;have C:x.j=f.j:=by rw [hx]
   have U:x.k=v7 c vs (l.take i) f.k:=by rw [hx]
   have W:x.k.length=f.k.length:=by rw [U];exact b2.1
   have b5:fF c l[i]<x.k.length:=aD;have b7:fF c l[i]<x.j.h.length:=by rw [C];exact s3
   have d3:fF c l[i]<w.length:=by rw [g.len];exact b5
   obtain ⟨q,P⟩:=fD (w[fF c l[i]]);obtain ⟨v,hv⟩:=fD (x.k[fF c l[i]]);have e1:w[fF c l[i]]?=some q:=by rw [aA d3,P]
   have e2:x.k[fF c l[i]]?=some v:=by rw [aA b5,hv]
   have b1:=tE e1 e2;have d7:=g.gq _ _ _ e1 e2;have f5:v.length=(f.k[fF c l[i]]?.getD []).length:=by rw [<- b2.2,<- U,e2];rfl
   have e0:l[i].J.toNat<v.length:=aD;obtain ⟨nd,b4⟩:∃ y,y=x.j.h[fF c l[i]]:=⟨_,rfl⟩;have S:f.j.h[fF c l[i]]?.getD 0=nd:=by rw [b4,<- C,aA b7];rfl
   rw [S] at a2;have c3:l[i].J.toNat<(bI t nd).length:=aD;have B:q∈w:=aL e1;have f6:=g.W q (g.aI B);have f8:=a5 q (g.aI B);have f7:=g.qn B;have c4:yM t f.j c vs l[i]=(decide (dG l[i].x vs<(bI t nd)[l[i].J.toNat].aw)||decide ((bI t nd)[l[i].J.toNat].ax<dG l[i].x vs)):=by unfold yM;rw [S,aA c3];rfl
   have e9:=g.ga;have e8:=g.gb;have f0:=g.gV;have d8:f.j.h.length=x.j.h.length:=by rw [C]
   have d1:=jJ g.len;have f1:=xa2 (cY (aD:R≠X)) (cY (aD:R≠V)) (cY (aD:R≠b)) (xb0 (cY (aD:R≠a)) (cY (aD:R≠q)) (cY (aD:X≠V)) (cY (aD:X≠b)) (cY (aD:X≠a)) (cY (aD:X≠q)) (cY (aD:V≠b)) (cY (aD:V≠a)) (cY (aD:V≠q)) (cY (aD:b≠a)) (cY (aD:b≠q)) (cY (aD:a≠q)));have Y:=xa7 Y F (aA F) @Slot.c.eq_1 (aA z) (Eq.symm c8) e9 e8 (xb0 f0 b1 d7 d1 (aA b7) (Eq.symm b4) (aA c3) (aA e0) @Attr.c.eq_1 W.symm d8 f1);refine wp (h:=aB (jP l[i].x vs (by rw [a0];exact a6) Z) wl ?_);refine wp (h:=aI (l7 t ht nd) wl ?_);refine i7 (λa9=>?_) λa9=>?_
   .have A:l.any (yM t f.j c vs)=true:=bD.2 ⟨_,hlm,by rw [c4];simpa using a9⟩;rw [if_pos A] at O;refine wv (h:=?_);rw [O] at L;refine (N _ _).2 ?_;simp only [iZ,j7,qK,fI,BI,IJ,M5,lQ,iH,jF,oA,KC,dS,fN];exact L _ (by decide) (λj u o=>by simp [go_sem,(aD:j≠R)];exact a7 j u o) (by first|(simp [go_sem];omega)|exact b8)
   .have hOi:yM t f.j c vs l[i]=false:=by rw [c4];simpa using a9
    obtain ⟨x2,b0⟩:∃ y:Host,y=⟨x.j,x.k.set (fF c l[i]) (v.set l[i].J.toNat (dG l[i].x vs))⟩:=⟨_,rfl⟩;have c7:x2=⟨f.j,v7 c vs (l.take (i+1)) f.k⟩:=by
     rw [b0,aE F,Lb,<- U,e2,C];rfl
    exact wp (h:=wx e5 (i+1) ⟨x2,wg,wn,wn,wn,wn,wj,(by exact c7),(by rw [b0];exact g.ck (by first|(simp [go_sem];done)|(simp [go_sem];omega)) e1 e2 dB (by simp [go_sem,Y,b6,cI]) (λj u d4=>by simp [go_sem,d4])),(by rw [aE F,wQ,hO];simp [hOi]),(by intro j u o;simp [go_sem,show j≠q from λe=>o (e ▸ g.aI B)];exact a7 j u o),(by simp [go_sem];omega)⟩)
  .rw [aG aD] at hO hx;rw [if_neg (by rw [hO];simp)] at O;have C:x.j=f.j:=by rw [hx]
   have W:x.k.length=f.k.length:=by rw [hx];exact (pR c vs l f.k).1
   refine wv (h:=?_);refine (N _ _).2 ?_;obtain ⟨E,M⟩:=fD (H.put R ⟨68,3,[[.own a f.j.h.length,.own b f.j.i.length,.own V f.k.length]],false⟩);have c0:HH E lo a b V w x:=g.same (by rw [M];simp [go_sem]) (λj u=>by rw [M];simp [go_sem,(a5 j u).2]);rw [<- M];have hd:=c0.bO;rw [C,W] at hd;have T:=c0.dK f.j.h.length f.j.i.length f.k.length 0;simp only [dI] at T;have d9:j7 E (D.int .i64 0)=.int .i64 0:=rfl;simp only [iZ,iH,jF,hd,d9];rw [hx];refine hQ _ O (λj u o=>?_) ?_
   .rw [Cg _ _ j (λhm=>o (T _ hm)),M];simp [go_sem,(aD:j≠R)];exact a7 j u o
   .rw [(yT _ E).2,M];simp [go_sem];exact b8
theorem LW {l:W3}(hn:l.Nodup){p:Nat}(hp:p<l.length):∀ n,n<=l.length->gG l n l[p]=if p<n then (p:Int) else -1
 | 0,_=>rfl
 | n+1,h=>by
  rw [rE,LW hn hp n aD,aA aD,Option.getD_some];by_cases he:n=p
  .subst he;rw [if_pos rfl,if_pos aD]
  .rw [if_neg (λe=>he ((mR hn).1 e))];by_cases h2:p<n
   .rw [if_pos h2,if_pos aD]
   .rw [if_neg h2,if_neg aD]
theorem qD {l:W3}(b:l.Nodup){p:Nat}(a:p<l.length):gG l l.length l[p]=p:=by rw [LW b a _ (aZ _),if_pos a]
theorem rF {l:W3}{v:Int}(h:v∉l):∀ n,n<=l.length->gG l n v = -1
 | 0,_=>rfl
 | n+1,hl=>by
  rw [rE,rF h n aD,aA aD,Option.getD_some,if_neg];exact λe=>h (e ▸ aC _)
theorem LX {l:W3}(b:l.Nodup)(v:Int):decide (gG l l.length v<0) = !mem l v:=by
 by_cases h:v∈l
 .obtain ⟨p,a,rfl⟩:=aQ h;rw [qD b a,(mem_iff _ _).2 h];simp
 .rw [rF h _ (aZ _),bQ.2 λc=>h ((mem_iff _ _).1 c)];rfl
theorem MP {l:W3}(a:l.Nodup)(i:Nat):B0 l i=(bP l i).length:=by
 unfold B0 bP;rw [aT];congr 1;exact List.filter_congr λj _=>LX a j
theorem Er {l:W3}:∀ (n j:Nat),j<n->mem l j=false->(bP l n)[(bP l j).length]?=some (j:Int)
 | n+1,j,hj,hm=>by
  rw [pW];by_cases h:j=n
  .subst h;rw [if_neg (by rw [hm];simp),bF (aZ _)];simp
  .have:=Er n j aD hm;rw [aR (aP.1 this).1];exact this
theorem mL {l:W3}(h:l.Pairwise (· < ·)):l.Nodup:=h.imp λh=>by omega
structure StepIn (t:Types) (r:Rule) (h:Host) (m:Mat):Prop where
 hR:RuleV t r
 ho:HostOk t h
 hm:MOk t r.left.j h.j m.m
 hc:oG (kM r.left.j h.j m.m) h.j r.q m.m=0
section
variable {t:Types} {r:Rule} {h:Host} {m:Mat}
theorem Hn (c:RuleV t r)(b:HostOk t h)(a:pF t r h m=0):StepIn t r h m:=by
 unfold pF at a;split at a
 .cases a
 .rename_i h1;split at a
  .exact absurd a (by assumption)
  .split at a
   .cases a
   .exact ⟨c,b,qY (rD (eQ h1)).2,a⟩
theorem StepIn.bN (S:StepIn t r h m):Abs.bY r h m=⟨bP (gL m.m.h r.q.h) h.j.h.length,bP (gL m.m.i r.q.i) h.j.i.length⟩:=by unfold Abs.bY uE;rw [if_pos S.hc]
theorem StepIn.sub (S:StepIn t r h m):subF h.j (Abs.bY r h m)=0:=Xu S.hc
theorem StepIn.bb (S:StepIn t r h m):(Abs.bY r h m).h.Pairwise (· < ·):=by rw [S.bN];exact oV _ _
theorem StepIn.cp (S:StepIn t r h m):(Abs.bY r h m).i.Pairwise (· < ·):=by rw [S.bN];exact oV _ _
theorem StepIn.bF (S:StepIn t r h m):∀ x∈(Abs.bY r h m).h,0<=x/\x<h.j.h.length:=(rL S.sub).2.2.1
theorem StepIn.cP (S:StepIn t r h m):∀ x∈(Abs.bY r h m).i,0<=x/\x<h.j.i.length:=(rL S.sub).2.2.2
theorem StepIn.len (S:StepIn t r h m):(Abs.bY r h m).h.length<=40/\(Abs.bY r h m).i.length<=80:=by
 have a:=bR S.ho.gg;have c:=Nr S.bb S.bF;have b:=Nr S.cp S.cP;omega
theorem StepIn.cQ (S:StepIn t r h m):nU m.m.h r.q.h=[]/\nU m.m.i r.q.i=[]:=⟨(vR S.hc).2.2.1,(vR S.hc).2.2.2.1⟩
theorem StepIn.ca (S:StepIn t r h m){k:Int}(a:k∈r.q.h):iA m.m.h k∈(Abs.bY r h m).h:=by
 have c:=S.hR.q;have g:=S.hm.len;have b:=c.2.1 k a;have f:=xH S.cQ.1 b.1 aD a;rw [S.bN];have d:=(S.hm.bj k.toNat aD aD).1;have e:iA m.m.h k=m.m.h[k.toNat]' aD:=by unfold iA;rw [aA aD];rfl
 exact fZ.2 ⟨by rw [e];exact d,f⟩
theorem StepIn.aS (S:StepIn t r h m):(bW t r h m).j.h=(Abs.bY r h m).h.map (gN h.j)++r.R.map (gN r.right.j):=by
 unfold bW jS bZ;rw [if_pos S.sub]
theorem StepIn.bt (S:StepIn t r h m):(bW t r h m).j.i=(Abs.bY r h m).i.map (gEd h.j (Abs.bY r h m))++r.ai.map (λk=>freshE (c7 r h m) (r.right.j.i[k.toNat]?.getD b8)):=by
 unfold bW jS bZ;rw [if_pos S.sub]
theorem LV:(bW t r h m).k=(bY r h m).h.map (λk=>h.k[k.toNat]?.getD [])++r.R.map (λk=>mM t (gN r.right.j k)):=rfl
theorem StepIn.br (S:StepIn t r h m):r.u.h.Nodup/\r.u.i.Nodup:=by
 have:=S.hR.inj;unfold Ca at this;simp only [aN,decide_eq_true_eq] at this;exact this.2
theorem StepIn.b9 (S:StepIn t r h m){p:Nat}(c:p<r.u.h.length)(b:p<r.q.h.length):gN r.right.j r.u.h[p]=gN r.left.j r.q.h[p]:=by
 have d:(bZ r.left.j r.q).h.length=r.q.h.length:=by unfold bZ;rw [if_pos S.hR.sub];simp
 have a:=(Il S.hR.mo (i:=(p:Int)) aD aD).2;rw [DB S.hR.sub aD aD] at a;simpa [iA,aA c,aA b] using a
theorem StepIn.df (S:StepIn t r h m){i:Nat}(o:i<r.right.j.h.length):∃ n:Nat,(c7 r h m).h[i]?=some (n:Int)/\∃ hn:n<(bW t r h m).j.h.length,wJ t r.right.j.h[i] ((bW t r h m).j.h[n])=true:=by
 obtain ⟨K,A,J,I,H⟩:=S.hR.q;have E:=S.hm.len;have k:=S.br.1;have z:(c7 r h m).h[i]?=some (Jg r.q.h r.u.h (pH m.m.h (c6 r h m).h) (Abs.bY r h m).h.length i):=by
  unfold c7 D5;simp [o]
 rw [z];have u:=S.aS;have w:=mW S.hR.vf;have D:=(lT S.hR.gr S.hR.tr).1 _ (Abs.aC o);by_cases hm:(i:Int)∈r.u.h
 .obtain ⟨p,B,C⟩:=aQ hm;have s:p<r.q.h.length:=aD;have G:=A _ (Abs.aC s);have d:r.q.h[p].toNat<m.m.h.length:=aD;have L:=S.ca (Abs.aC s);obtain ⟨n,hn,g⟩:=aQ L;have M:=S.bF _ (Abs.aC hn);have l:iA m.m.h r.q.h[p]=m.m.h[r.q.h[p].toNat]:=by unfold iA;rw [aA d];rfl
  have e:Jg r.q.h r.u.h (pH m.m.h (c6 r h m).h) (Abs.bY r h m).h.length i=n:=by
   unfold Jg;rw [<- C,qD k B,if_pos aD];rw [(aD:(p:Int).toNat=p),aA s,Option.getD_some];unfold pH c6 n4;rw [aM,aA d,Abs.dM,Option.getD_some];rw [<- l,<- g];simp only;rw [o8 _ aD,Option.getD_some,show (((Abs.bY r h m).h[n].toNat:Nat):Int)=(Abs.bY r h m).h[n] by omega,qD (mL S.bb) hn]
  refine ⟨n,by rw [e],by rw [u];simp;omega,?_⟩;have c:=S.b9 B s;rw [C] at c;have x:gN r.right.j (i:Int)=r.right.j.h[i]:=by simp [gN,aA o]
  have j:r.q.h[p].toNat<r.left.j.h.length:=aD;have y:gN r.left.j r.q.h[p]=r.left.j.h[r.q.h[p].toNat]:=by simp [gN,aA j]
  rw [x,y] at c;rw [c];have q:=(S.hm.bj _ d j).2;have v:(bW t r h m).j.h[n]?=some (h.j.h[(m.m.h[r.q.h[p].toNat]).toNat]?.getD 0):=by
   rw [u,Abs.aR (eQ hn),aM,aA hn,Abs.dM,g,l];rfl
  obtain ⟨_,b⟩:=aP.1 v;rw [b];exact q
 .have hmf:mem r.u.h i=false:=bQ.2 λh=>hm ((mem_iff _ _).1 h);have e:Jg r.q.h r.u.h (pH m.m.h (c6 r h m).h) (Abs.bY r h m).h.length i=(((Abs.bY r h m).h.length+(bP r.u.h i).length:Nat):Int):=by
   unfold Jg;rw [if_neg (by rw [rF hm _ (aZ _)];omega),MP k]
  have f:=Er r.right.j.h.length i o hmf;have F:(bP r.u.h i).length<r.R.length:=(aP.1 f).1;refine ⟨(Abs.bY r h m).h.length+(bP r.u.h i).length,by rw [e],by rw [u];simp;omega,?_⟩;have v:(bW t r h m).j.h[(Abs.bY r h m).h.length+(bP r.u.h i).length]?=some r.right.j.h[i]:=by
   rw [u,Abs.bF dB,aT,wO,aM];have:r.R[(bP r.u.h i).length]?=some (i:Int):=f;rw [this];simp [gN,aA o]
  obtain ⟨_,b⟩:=aP.1 v;rw [b];unfold wJ;have:=Ly w (a:=(r.right.j.h[i]).toNat) aD;rw [show (((r.right.j.h[i]).toNat:Nat):Int)=r.right.j.h[i] by omega] at this;exact this
theorem StepIn.bA (S:StepIn t r h m):(bW t r h m).k.length=(bW t r h m).j.h.length:=by rw [S.aS,LV];simp
theorem VK {k:Int}(b:(cW t).2=0)(f:0<=k)(e:k<t.h.length)(c:nI t k.toNat=false):iJ t k (mM t k)=0:=by
 unfold iJ;rw [if_neg aD,if_neg (by rw [c];simp),if_neg (by simp [mM])];refine iK _ _ λj _ d=>?_;have a:j<(bI t k).length:=aD;unfold Dk mM;rw [aM,aA a,dM,Option.getD_some,Option.getD_some,if_neg];have:=(DT b k _ (aC a)).le;omega
theorem StepIn.bw (S:StepIn t r h m):∀ k∈r.R,(0<=gN r.right.j k/\gN r.right.j k<t.h.length)/\nI t (gN r.right.j k).toNat=false:=λk hk=>by
 have hr:=l8 hk;have hin:=(lT S.hR.gr S.hR.tr).1 _ (EI hr.1 hr.2);refine ⟨hin,?_⟩;have:=S.hR.dG;unfold vE at this;rw [aN,cD,fM] at this;have h1:=this.1 k hk;unfold absB at h1;unfold nI;rw [aA (aD:(gN r.right.j k).toNat<t.h.length)] at h1 ⊢;simpa using h1
theorem StepIn.node (S:StepIn t r h m):∀ (n:Nat) (h1:n<(bW t r h m).j.h.length) (h2:n<(bW t r h m).k.length),iJ t (bW t r h m).j.h[n] (bW t r h m).k[n]=0:=λn h1 h2=>by
 have e1:=S.aS;have e2:(bW t r h m).k=_:=LV;have g1:(bW t r h m).j.h[n]?=some (bW t r h m).j.h[n]:=aA h1;have g2:(bW t r h m).k[n]?=some (bW t r h m).k[n]:=aA h2;generalize (bW t r h m).j.h[n]=x at *;generalize (bW t r h m).k[n]=y at *;rw [e1] at g1;rw [e2] at g2;by_cases hn:n<(Abs.bY r h m).h.length
 .rw [Abs.aR (eQ hn),aM,aA hn] at g1 g2;simp only [Abs.dM,bH] at g1 g2;have hv:=S.bF _ (Abs.aC hn);have hl:=S.ho.vl;have a1:(Abs.bY r h m).h[n].toNat<h.j.h.length:=aD;have a2:(Abs.bY r h m).h[n].toNat<h.k.length:=aD;rw [aA a2] at g2;unfold gN at g1;rw [aA a1] at g1;have:=S.ho.nd _ a1 a2;rw [<- g1,<- g2];exact this
 .have l1:((Abs.bY r h m).h.map (gN h.j)).length=(Abs.bY r h m).h.length:=dB;have l2:((Abs.bY r h m).h.map λk=>h.k[k.toNat]?.getD []).length=(Abs.bY r h m).h.length:=dB;rw [Abs.bF aD,l1,aM,bV] at g1;rw [Abs.bF aD,l2,aM,bV] at g2;obtain ⟨k,hk,rfl⟩:=g1;obtain ⟨k',hk',rfl⟩:=g2;rw [hk] at hk';cases hk'
  obtain ⟨⟨b1,b2⟩,b3⟩:=S.bw k (aL hk);exact VK S.hR.vf b1 b2 b3
theorem StepIn.di (S:StepIn t r h m):∀ a∈(bW t r h m).j.h,0<=a/\a<t.h.length:=λa ha=>by
 rw [S.aS,Abs.aX,aW,aW] at ha;rcases ha with ⟨k,hk,rfl⟩|⟨k,hk,rfl⟩
 .exact oZ S.ho _ (EI (S.bF k hk).1 (S.bF k hk).2)
 .exact (S.bw k hk).1
theorem StepIn.put (S:StepIn t r h m):PutOk t r (bW t r h m) (c7 r h m):=by
 have v:=S.len;have w:=bR S.hR.gr;have q:r.R.length<=r.right.j.h.length:=l9 _ _;have p:r.ai.length<=r.right.j.i.length:=l9 _ _;have y:(bW t r h m).j.h.length<=80:=by rw [S.aS];simp;omega
 have z:(bW t r h m).j.i.length<=160:=by rw [S.bt];simp;omega
 have x:=S.bA;have d:∀ s∈r.right.l,∃ n:Nat,(c7 r h m).h[s.node.toNat]?=some (n:Int)/\∃ a:n<(bW t r h m).j.h.length,s.J<(bI t (bW t r h m).j.h[n]).length:=λs e=>by
  obtain ⟨⟨C,B⟩,l,A⟩:=S.hR.l s e;have k:s.node.toNat<r.right.j.h.length:=aD;obtain ⟨n,c,a,g⟩:=S.df k;refine ⟨n,c,a,?_⟩;rw [aA k,Option.getD_some] at l;have b:=(lT S.hR.gr S.hR.tr).1 _ (Abs.aC k);have i:=(p8 (S.node n a aD)).1;have j:=(S.di _ (Abs.aC a)).1;rw [tL S.hR.vf b.1 b.2] at l;rw [tL S.hR.vf j i];unfold wJ at g;obtain ⟨u,o⟩:=LY (mW S.hR.vf) ((bW t r h m).j.h[n]).toNat aD (r.right.j.h[s.node.toNat]).toNat (by rw [Int.toNat_of_nonneg b.1];exact g);rw [o,Abs.aH];omega
 refine ⟨by simp [c7,D5],⟨aD,aD,aD⟩,λs e=>?_,λs e=>?_⟩
 .obtain ⟨n,c,a,g⟩:=d s e;have:fF (c7 r h m) s=n:=by unfold fF;rw [c];simp
  rw [this,c];exact ⟨by simp,aD,a⟩
 .obtain ⟨n,c,a,g⟩:=d s e;have:fF (c7 r h m) s=n:=by unfold fF;rw [c];simp
  have f:n<(bW t r h m).k.length:=aD;rw [this,aA f,aA a,Option.getD_some,Option.getD_some];have:=(p8 (S.node n a f)).2.2.1;exact ⟨aD,g⟩
end
def pU:Pattern:=⟨⟨[],[]⟩,[],0,[]⟩
def kG:Rule:=⟨⟨#[]⟩,pU,pU,⟨[],[]⟩,⟨[],[]⟩,false,.mk 0 [] ⟨[],[]⟩ pU⟩
def lO:Stp26:=⟨kG,iW,⟨⟨[],[]⟩,[]⟩,⟨⟨[],[]⟩,[]⟩,⟨[],[]⟩,⟨[],[]⟩⟩
def eU (t:Types)(r:Rule)(h:Host)(m:Mat):Stp26:=if jU t r h m=0 then aO t r h m else lO
@[go_sem] theorem Stp26.P (s:Stp26):D.L s.c=true:=by
 simp [Stp26.c,yW,Rule.P,Mat.P,Qm,D.L,qA]
def uQ (a k:Nat):List Nat:=(List.range k).map (· + a)
theorem xG {a k j:Nat}:j∈uQ a k↔a<=j/\j<a+k:=by
 simp only [uQ,aW,bA];constructor
 .rintro ⟨i,b,rfl⟩;omega
 .rintro ⟨b,c⟩;exact ⟨j - a,aD,aD⟩
theorem PB (a k:Nat):(uQ a k).length=k:=by simp [uQ]
theorem Cc (a k:Nat):(uQ a k).Nodup:=by
 unfold uQ;exact List.Pairwise.map (· + a) (λx y h=>by simp only [ne_eq] at h ⊢;omega) List.nodup_range
theorem VT (k f:Nat):(0 :: 1 :: 2 :: (uQ 3 k++uQ (3+k) f)).Nodup:=by
 simp only [g9,aV,aX,xG,n9];exact ⟨aD,aD,aD,Cc _ _,Cc _ _,λx b y a=>by omega⟩
theorem SF {k f j:Nat}(h:j∈0 :: 1 :: 2 :: (uQ 3 k++uQ (3+k) f)):j<3+k+f:=by
 simp only [aV,aX,xG] at h;omega
theorem VS (k:Nat):(0 :: 1 :: 2 :: uQ 3 k).Nodup:=by
 simp only [g9,aV,xG];exact ⟨aD,aD,aD,Cc _ _⟩
theorem IK {k j:Nat}(h:j∈0 :: 1 :: 2 :: uQ 3 k):j<3+k:=by
 simp only [aV,xG] at h;omega
theorem Rz {t:Types}{r:Rule}{h:Host}(b:r.ok)(a:f6 t r h=0):RuleV t r/\HostOk t h:=by
 unfold f6 at a;split at a
 .exact absurd a (by assumption)
 .rename_i h1;exact ⟨KU b (eQ h1),lE a⟩
theorem TX {t:Types}{r:Rule}{h:Host}{m:Mat}(a:lM t r h m=0):pF t r h m=0:=by
 unfold lM at a;split at a
 .exact absurd a (by assumption)
 .rename_i h1;simpa using h1
section
variable {t:Types} {r:Rule} {h:Host} {m:Mat}
theorem StepIn.ex (S:StepIn t r h m)(hh:fX t h=0):WH t h (Abs.bY r h m)=⟨bZ h.j (Abs.bY r h m),(Abs.bY r h m).h.map λk=>h.k[k.toNat]?.getD []⟩:=by
 unfold WH;rw [if_pos];unfold Y4;rw [if_neg aD];exact S.sub
theorem StepIn.b2 (S:StepIn t r h m):(∀ x∈m.m.h,0<=x/\x<h.j.h.length)/\∀ x∈m.m.i,0<=x/\x<h.j.i.length:=by
 refine ⟨λx a=>?_,λx a=>?_⟩
 .obtain ⟨i,b,rfl⟩:=aQ a;exact (S.hm.bj i b (by have:=S.hm.len;omega)).1
 .obtain ⟨i,b,rfl⟩:=aQ a;exact S.hm.b2 i b
end
theorem Lr {t:Types}{r:Rule}{h:Host}{m:Mat}(S:StepIn t r h m)(a:pF t r h m=0):MatOk t r.left h m:=by
 unfold pF at a;split at a
 .cases a
 .split at a
  .exact absurd a (by assumption)
  .rename_i h2;split at a
   .cases a
   .rename_i h3;rw [gU] at h2 h3;obtain ⟨_,_,_,d⟩:=KM h2;rw [d] at h2 h3;obtain ⟨c,b⟩:=BP (XL S.hR.pl S.ho S.hm) (vs:=[]) dB dB h2;rw [h3] at c b;exact ⟨S.hm,c,b⟩
theorem Ou (t:Types)(ht:t.ok)(r:Rule)(hr:r.ok)(h:Host)(m:Mat):Pure prog 91 [t.d,r.d,h.d,m.d] (.tup [.agg (eU t r h m).c,dI (jU t r h m)]):=by
 refine Sk (by first|rfl|(simp [go_sem];done)) (fun Q hQ=>ACalls.b3 100 (aJ (cfg:=⟨fun t=>t==8||t==11||t==13||t==14||t==15||t==16||t==95||t==97,fun r=>match r with|8=>[(5,6),(5,7),(5,8),(5,9),(5,10),(0,13),(1,13),(2,13),(3,13),(4,13),(5,13),(6,13),(7,13),(8,13),(9,13),(10,13),(11,13)]|9=>[(16,17),(16,18),(16,19),(16,20),(16,21),(16,22),(16,23),(16,24),(16,25),(16,26),(16,27),(16,28),(16,29),(16,30),(16,31),(16,32),(0,35),(1,35),(2,35),(3,35),(4,35),(5,35),(6,35),(7,35),(8,35),(9,35),(10,35),(11,35),(12,35),(13,35),(14,35),(15,35),(16,35),(17,35),(18,35),(19,35),(20,35),(21,35),(22,35),(23,35),(24,35),(25,35),(26,35),(27,35),(28,35),(29,35),(30,35),(31,35),(32,35),(33,35)]|10=>[(0,3),(1,3),(3,4)]|_=>[]⟩) Tz.mixed func91 rfl rfl (aF rfl) (by kernel_rfl) ?_))
 have Y:=wa @Host.d.eq_1 (wa @Host.c.eq_1 (wa @Mat.d.eq_1 (wa @Mat.c.eq_1 (wa @qE (wa @uL (wa @L0 @JA))))))
 refine wv (h:=aB (Fq t ht r hr h) wl ?_)
 refine dK (fun h2=>?_) fun h2=>?_
 ·have hA:jU t r h m=f6 t r h:=by unfold jU;rw [if_pos h2]
  have hV:eU t r h m=lO:=by unfold eU;rw [if_neg (by omega)]
  exact wv (h:=hQ _ _ (by simp [go_sem,hA,hV,lO,kG,pU,iW,Stp26.c,Rule.c,Mat.c,Host.c,Cond.E,Cond.s,Cond.map,Cond.o,dLI,dI]))
 ·obtain ⟨hR,ho⟩:=Rz hr h2
  have hh0:fX t h=0:=by unfold f6 at h2;split at h2;exact absurd h2 (by assumption);exact h2
  have hA0:jU t r h m=iC t r h m:=by unfold jU;rw [if_neg (by omega)]
  refine wv (h:=aB (HM t ht r hR h ho m) wl ?_)
  refine dK (fun h5=>?_) fun h5=>?_
  ·have hA:jU t r h m=lM t r h m:=by rw [hA0];unfold iC;rw [if_pos h5]
   have hV:eU t r h m=lO:=by unfold eU;rw [if_neg (by omega)]
   exact wv (h:=hQ _ _ (by simp [go_sem,hA,hV,lO,kG,pU,iW,Stp26.c,Rule.c,Mat.c,Host.c,Cond.E,Cond.s,Cond.map,Cond.o,dLI,dI]))
  ·have hpre:=TX (show lM t r h m=0 by omega)
   have S:=Hn hR ho hpre
   have hP:w4 t r h m=bY r h m:=by unfold w4;rw [if_pos hpre]
   have hX:=S.ex hh0
   obtain ⟨x0,hx0⟩:∃ x0:Host,x0=⟨bZ h.j (bY r h m),(bY r h m).h.map fun k=>h.k[k.toNat]?.getD []⟩:=⟨_,rfl⟩
   rw [← hx0] at hX
   obtain ⟨tr,htr⟩:∃ tr,tr=c6 r h m:=⟨_,rfl⟩
   have hT1:lY (bY r h m).h h.j.h.length=tr.h:=by rw [htr];rfl
   have hT2:lY (bY r h m).i h.j.i.length=tr.i:=by rw [htr];rfl
   have htl1:tr.h.length=h.j.h.length:=by rw [← hT1,lX]
   have htl2:tr.i.length=h.j.i.length:=by rw [← hT2,lX]
   obtain ⟨hin1,hin2⟩:=S.b2
   have hK:=hR.q
   have hml:=S.hm.len
   have hmel:=S.hm.bk
   have hal1:(pH m.m.h tr.h).length=m.m.h.length:=by simp [pH]
   have hal2:(pH m.m.i tr.i).length=m.m.i.length:=by simp [pH]
   obtain ⟨cm,hcm⟩:∃ cm,cm=c7 r h m:=⟨_,rfl⟩
   have hC1:D5 r.q.h r.u.h (pH m.m.h tr.h) r.right.j.h.length (bY r h m).h.length=cm.h:=by rw [hcm,htr];rfl
   have hC2:D5 r.q.i r.u.i (pH m.m.i tr.i) r.right.j.i.length (bY r h m).i.length=cm.i:=by rw [hcm,htr];rfl
   have hgl:=bR hR.pl.gg
   have hgr:=bR hR.gr
   have hgh:=bR ho.gg
   have hdl:=S.len
   have hxv:x0.k.length=(bY r h m).h.length:=by rw [hx0];simp
   have hxn:x0.j.h.length=(bY r h m).h.length:=by rw [hx0];unfold bZ;rw [if_pos S.sub];simp
   have hxe:x0.j.i.length=(bY r h m).i.length:=by rw [hx0];unfold bZ;rw [if_pos S.sub];simp
   have hxr:∀ v∈x0.k,v.length≤8:=fun v hv=>by
    rw [hx0,aW] at hv
    obtain ⟨k,hk,rfl⟩:=hv
    have hkr:=S.bF k hk
    have hvl:=ho.vl
    rw [aA (show k.toNat<h.k.length by omega),Option.getD_some]
    exact (ho.row _ (aC _)).1
   have hcl:cm.h.length=r.right.j.h.length:=by rw [hcm];simp [c7,D5]
   have hB:jS t r cm x0=bW t r h m:=by rw [hcm,hx0];rfl
   have hfl:r.R.length≤40:=dH (l9 _ _) hgr.1
   have hMat:=Lr S hpre
   have hvl:=hMat.vl
   have hvs:Sm m.vars:=fun v hv=>by have:=hMat.vs v hv;omega
   have Y:=wa Y (wa hP (wa @Part.d.eq_1 (wa @Part.c.eq_1 (wa hX (wa hT1 (wa hT2 (wa hC1 hC2)))))))
   refine wv (h:=aB (J4 t ht h (bY r h m) (by omega) (by omega) (by omega) (by omega)) wl ?_)
   refine wv (h:=aI (Ag m.m.h tr.h (by omega) (fun x hx=>by have:=hin1 x hx;omega)) wl ?_)
   refine wv (h:=aI (Ag m.m.i tr.i (by omega) (fun x hx=>by have:=hin2 x hx;omega)) wl ?_)
   refine wp (h:=aI (Bw r.q.h r.u.h (pH m.m.h tr.h) r.right.j.h.length (bY r h m).h.length (by omega) (fun x hx=>by have:=hK.2.1 x hx;rw [hal1];omega) (by omega) (by omega)) wl ?_)
   refine wp (h:=aI (Bw r.q.i r.u.i (pH m.m.i tr.i) r.right.j.i.length (bY r h m).i.length (by omega) (fun x hx=>by have:=hK.2.2.1 x hx;rw [hal2];omega) (by omega) (by omega)) wl ?_)
   refine wp (h:=?_)
   refine Ko x0 (by omega) (by omega) (by omega) (fun v hv=>by have:=hxr v hv;omega) 0 1 2 (uQ 3 x0.k.length) (PB _ _) (VS _) (by simp [go_sem]) (fun j hj=>?_) rfl ?_ (fun E hE1 hE2 hE3 hE4=>?_)
   ·have hj2:=IK hj
    refine ⟨by omega,?_⟩
    simp [go_sem,qE,uL,L0,JA];omega
   ·intro q hq hs x hx
    simp at hq
    rcases hq with rfl|rfl|rfl<;>simp at hs hx
   have hno:∀ j,100≤j→j∉0 :: 1 :: 2 :: uQ 3 x0.k.length:=fun j hj hm=>by have:=IK hm;omega
   have hno2:∀ j,100≤j→j∉0 :: 1 :: 2 :: (uQ 3 x0.k.length++uQ (3+x0.k.length) r.R.length):=fun j hj hm=>by have:=SF hm;omega
   have g100:=hE2 100 (hno _ (by omega))
   have g102:=hE2 102 (hno _ (by omega))
   have g103:=hE2 103 (hno _ (by omega))
   have g154:=hE2 154 (hno _ (by omega))
   simp [go_sem] at g100 g102 g103 g154 hE4
   have hal:∀ j,j<100→E.F j→j∈0 :: 1 :: 2 :: uQ 3 x0.k.length:=fun j hj hA=>by
    rcases (hE3 j).1 hA with h|h
    ·simp [go_sem,qE,uL,L0,JA] at h;omega
    ·exact h
   have n154:∀ (a:Nat),a∈uQ 3 x0.k.length→¬ a=154:=fun a hm=>by rw [xG] at hm;omega
   have Y:=wa Y (wa g100 (wa g102 (wa g103 g154)))
   refine wp (h:=?_)
   refine PR t ht r hR x0 cm hcl (by omega) 0 0 1 2 (uQ 3 x0.k.length) (uQ (3+x0.k.length) r.R.length) hE1 (by rw [PB]) (VT _ _) (by rw [hE4];omega) (fun j hj=>?_) rfl ?_ (fun F hF1 hF2 hF3 hF4=>?_)
   ·rw [xG] at hj
    refine ⟨by omega,fun hA=>?_⟩
    have:=IK (hal j (by omega) hA)
    omega
   ·intro q hq hs x hx
    simp at hs
   rw [hB] at hF1 ⊢
   rw [hE4] at hF4
   have f100:=hF2 100 (hno2 _ (by omega))
   have f102:=hF2 102 (hno2 _ (by omega))
   have f103:=hF2 103 (hno2 _ (by omega))
   have f154:=hF2 154 (hno2 _ (by omega))
   rw [g100] at f100
   rw [g102] at f102
   rw [g103] at f103
   rw [g154] at f154
   have Y:=wa Y (wa f100 (wa f102 (wa f103 f154)))
   refine wp (h:=?_)
   unfold fE
   refine QW t ht r hR (bW t r h m) cm (hcm ▸ S.put) m.vars hvl hvs _ 0 0 1 2 (uQ 3 x0.k.length++uQ (3+x0.k.length) r.R.length) (hF1.same (by simp [go_sem]) (fun j hj=>by have:=SF hj;simp [go_sem,show j≠102 by omega])) _ (fun H4 e1 e2 e3=>?_) (fun H4 e1 e2 e3=>?_)
   ·have k100:=e2 100 (by simp [go_sem];omega) (hno2 _ (by omega))
    have k102:=e2 102 (by simp [go_sem];omega) (hno2 _ (by omega))
    simp [go_sem,f100] at k100 k102
    have hA:jU t r h m=sN t (bW t r h m).j cm m.vars r.right.l:=by rw [hA0];unfold iC;rw [if_neg (by omega),← hcm,if_pos e1]
    have hV:eU t r h m=lO:=by unfold eU;rw [if_neg (by omega)]
    simp [go_sem,seval,k100,k102]
    refine bC (fun hc=>?_) (fun hc=>absurd (by simpa using hc) e1)
    simp [go_sem,seval,k100,k102]
    exact hQ _ _ (by first|(left;(simp [go_sem,hA,hV,lO,kG,pU,iW,Stp26.c,Rule.c,Mat.c,Host.c,Cond.E,Cond.s,Cond.map,Cond.o,dLI,dI]);done)|(right;(simp [go_sem,hA,hV,lO,kG,pU,iW,Stp26.c,Rule.c,Mat.c,Host.c,Cond.E,Cond.s,Cond.map,Cond.o,dLI,dI]);done))
   have k100:=e2 100 (by simp [go_sem];omega) (hno2 _ (by omega))
   have k102:=e2 102 (by simp [go_sem];omega) (hno2 _ (by omega))
   have k103:=e2 103 (by simp [go_sem];omega) (hno2 _ (by omega))
   have k154:=e2 154 (by simp [go_sem];omega) (hno2 _ (by omega))
   simp [go_sem,f100,f102,f103,f154] at k100 k102 k103 k154
   have Y:=wa Y (wa k100 (wa k102 (wa k103 k154)))
   refine i7 (fun h14=>?_) fun h14=>?_
   ·have hA:jU t r h m=3:=by
     rw [hA0];unfold iC;rw [if_neg (by omega),← hcm,if_neg (by omega),if_pos (by omega)]
    have hV:eU t r h m=lO:=by unfold eU;rw [if_neg (by omega)]
    exact wv (h:=hQ _ _ (by simp [go_sem,hA,hV,lO,kG,pU,iW,Stp26.c,Rule.c,Mat.c,Host.c,Cond.E,Cond.s,Cond.map,Cond.o,dLI,dI]))
   ·have hA:jU t r h m=0:=by
     rw [hA0];unfold iC;rw [if_neg (by omega),← hcm,if_neg (by omega),if_neg (by omega)]
    have hV:eU t r h m=aO t r h m:=by unfold eU;rw [if_pos hA]
    have hW:b9 t r h m=⟨(bW t r h m).j,v7 cm m.vars r.right.l (bW t r h m).k⟩:=by rw [hcm];rfl
    exact wv (h:=hQ _ _ (by simp [go_sem,hA,hV,aO,Stp26.c,Mat.c,Host.c,hW,← htr,← hcm]))
theorem uO (a b:W3):Part.le ⟨a,b⟩↔a.length<=1000000000000000/\b.length<=1000000000000000:=⟨λh=>⟨h.1,h.2⟩,λh=>⟨h.1,h.2⟩⟩
theorem Xo (t:Types)(p:Pattern)(b:p.j.h.length<=1000)(a:p.j.i.length<=1000)(x:B4):(EK t p x).le:=by
 unfold EK;split
 .simp [forbC,trueC,Cond.le,Cond.bL,iF,uO];omega
 .split
  .split
   .simp [trueC,Cond.le,Cond.bL,uO]
   .simp [forbC,trueC,Cond.le,Cond.bL,iF,uO];omega
  .simp [trueC,Cond.le,Cond.bL,uO]
theorem KV (t:Types)(d:Dr24):(Ej t d).le:=by
 have a:=Lw t d.left;have b:=Lu (kC t d.left).j d.q;have c:=DD (kC t d.left).j (BG (kC t d.left).j d.q);refine ⟨⟨?_,?_⟩,⟨?_,?_⟩,?_⟩
 .show (BG (kC t d.left).j d.q).h.length<=_;omega
 .show (BG (kC t d.left).j d.q).i.length<=_;omega
 .show (List.take _ _).length<=_;rw [c8];unfold Px Au;omega
 .show (List.take _ _).length<=_;rw [c8];unfold Px Au;omega
 .exact Xo t _ aD aD d.aY
theorem Lv (t:Types)(d:Dr24):(Ex t d).le:=by
 unfold Ex;split
 .have h:=KV t d;exact ⟨h.1,h.2,by simp [C4,trueC,Cond.le,Cond.bL,uO]⟩
 .exact KV t d
end Go.Abs
end
