/- Layer 26 of the reference: grow in a region that draws its o -/
import Derived.Test.YtbgbahlipnaflaaGreatZvAQ
import Derived.Test.YtbgbahlipnaflaaGreatZvAG
import Derived.Test.YtbgbahlipnaflaaGreatZvAK
import Derived.Test.YtbgbahlipnaflaaGreatZvAP
import Derived.Test.YtbgbahlipnaflaaGreatZvAA
import Derived.Test.YtbgbahlipnaflaaGreatZvAM
set_option linter.unusedVariables false
set_option linter.unusedSimpArgs false
section
set_option maxRecDepth 100000
set_option maxHeartbeats 4000000
open Go Go.Proofs Tryz
namespace Go.Abs
def Tu (t:Types)(r:Rule)(c:Part)(x0:Host)(a b V:Nat)(qs ns:List Nat):List (Nat × Blk) :=
 [(a,⟨3,1,(j9 t r c x0).j.h.map cI,false⟩),(b,⟨145,3,(j9 t r c x0).j.i.map Edge.c,false⟩),(V,⟨26,1,mH (qs++ns) (j9 t r c x0).k,false⟩)]
def Yd (t:Types)(r:Rule)(ns:List Nat):List (Nat × Blk):=VB ns (r.N.map λk=>iP t (gN r.right.j k))
theorem UL {H H':AHeap}{t:Types}{r:Rule}{c:Part}{m:Host}{I a b V:Nat}{f ns:List Nat}(o:HH H I a b V f m)(F:∀ j∈a :: b :: V :: f,H'.get j=H.get j)(G:ns.length=r.N.length)(x:(a :: b :: V :: (f++ns)).Nodup)
  (C:∀ j∈a :: b :: V :: (f++ns),j<H'.next):HH ((H'.ai (Tu t r c m a b V f ns)).ac (Yd t r ns)) 0 a b V (f++ns) (j9 t r c m)/\((H'.ai (Tu t r c m a b V f ns)).ac (Yd t r ns)).next=H'.next /\
   (∀ j,j∉a :: b :: V :: (f++ns)->((H'.ai (Tu t r c m a b V f ns)).ac (Yd t r ns)).get j=H'.get j)/\(∀ j,((H'.ai (Tu t r c m a b V f ns)).ac (Yd t r ns)).F j↔H'.F j\/j∈ns):=by
 have l:(Yd t r ns).map (·.1)=ns:=IG (bY G);have z:=o.ab;have n:∀ j∈ns,j≠a/\j≠b/\j≠V/\j∉f:=λj g=>by
  have h:=x;simp only [iX,aW,aZ,not_or,pC] at h;exact ⟨λe=>h.1.2.2.2 (e ▸ g),λe=>h.2.1.2.2 (e ▸ g),λe=>h.2.2.1.2 (e ▸ g),λA=>h.2.2.2.2.2 j A j g rfl⟩
 have J:((Yd t r ns).map (·.1)).Nodup:=by
  rw [l];have h:=x;simp only [iX,pC] at h;exact h.2.2.2.2.1
 have d:∀ j,j∉ns->((H'.ai (Tu t r c m a b V f ns)).ac (Yd t r ns)).get j=(H'.ai (Tu t r c m a b V f ns)).get j:=λj g=>pW _ _ _ (by rw [l];exact g);have B:((H'.ai (Tu t r c m a b V f ns)).ac (Yd t r ns)).next=H'.next:=by
  rw [rT _ _ λp w=>?_,xT];rw [xT];refine C p.1 ?_;have:p.1∈ns:=by rw [<- l];exact qB w
  simp [this]
 have s:(j9 t r c m).k=m.k++r.N.map (λk=>iP t (gN r.right.j k)):=rfl;refine ⟨⟨?_,?_,?_,?_,λi q v D E=>?_,x,λj g=>⟨eL _,by rw [B];exact C j g⟩⟩,B,λj g=>?_,λj=>?_⟩
 .rw [d a λy=>(n a y).1 rfl];simp [AHeap.ai,AHeap.put,Tu,z.1,z.2.1]
 .rw [d b λy=>(n b y).2.1 rfl];simp [AHeap.ai,AHeap.put,Tu,z.2.2]
 .rw [d V λy=>(n V y).2.2.1 rfl];simp [AHeap.ai,AHeap.put,Tu]
 .rw [s,aI,aI,aR,o.len,G]
 .by_cases hi:i<f.length
  .rw [aS hi] at D;rw [s,aS (by rw [<- o.len];exact hi)] at E;have A:=aL D;have u:=o.qn A;rw [d q λy=>(n q y).2.2.2 A,zC _ _ _ (λp w=>?_),F q (o.bm A)]
   .exact o.gq i q v D E
   .simp only [Tu,aW,f7,or_false] at w;rcases w with rfl|rfl|rfl
    .exact Ne.symm u.1
    .exact Ne.symm u.2.1
    .exact Ne.symm u.2.2
  .rw [bG aD] at D;rw [s,bG (by rw [<- o.len];omega),<- o.len] at E;exact xU _ _ J (PU D E)
 .simp only [aW,aZ,not_or] at g;rw [d j g.2.2.2.2,zC _ _ _ λp w=>?_];simp only [Tu,aW,f7,or_false] at w;rcases w with rfl|rfl|rfl
  .exact Ne.symm g.1
  .exact Ne.symm g.2.1
  .exact Ne.symm g.2.2.1
 .rw [uW,l,Om]
theorem ACalls.wf {P:Program}{f:FuncId}{args:UN}{H:AHeap}{Q:D->AHeap->Prop}(he:Ent P f)(h:(∀ j,H.F j->j<H.next)->(∀ j,¬ H.F j->H.get j=none)->ACalls P f args H Q):ACalls P f args H Q :=
 ⟨he,λM0 σ w vals hR ha=>(h hR.ce λj hj=>(hR.cm j hj).2).2 M0 σ w vals hR ha⟩
theorem RE {md:Nat->Bool}{ops:Array Oper}{R:List (Nat × Nat)}{P i:Nat}{B:List Oper}{G:List (Nat × List Nat)}{e:eF}{F:Option Tmp}{K:eF->AHeap->Prop}{H:AHeap}
  (t:Types) (ht:t.ok) (r:Rule) (hR:RuleV t r) (f:Host) (c:Part) (hc:c.h.length=r.right.j.h.length) (hs:f.j.h.length<=1000/\f.j.i.length<=1000/\f.k.length<=1000)
  (lo a b V:Nat) (m ns:List Nat) (g:HH H lo a b V m f) (Y:ns.length=r.N.length) (J:(a :: b :: V :: (m++ns)).Nodup) (W:P<=H.next) (L:∀ j∈ns,j<P/\¬ H.F j)
  (X:Fk md F=true) (a2:chk R i (a :: b :: V :: (m++ns)) G)
  (hK:∀ E,HH E 0 a b V (m++ns) (j9 t r c f)->(∀ j,j∉a :: b :: V :: (m++ns)->E.get j=H.get j)->(∀ j,E.F j↔H.F j\/j∈ns)->E.next=H.next ->
   lG prog md ops R P (i+1) B ((i,a :: b :: V :: (m++ns)) :: G) (oV e F (.agg [.own a (j9 t r c f).j.h.length,.own b (j9 t r c f).j.i.length,.own V (j9 t r c f).k.length])) E K) :
  r6 prog md ops R P i B G e F K 97 [t.d,r.d,.agg [.own a f.j.h.length,.own b f.j.i.length,.own V f.k.length],c.d] H:=by
 have s:(Yd t r ns).map (·.1)=ns:=IG (bY Y);have N:=(Ge t ht r hR f c hc hs H lo a b V m g (λ_ _=>True) (λ_ _ _ _ _ _=>trivial)).1;unfold r6;refine Or.inr ⟨X,.agg [.own a (j9 t r c f).j.h.length,.own b (j9 t r c f).j.i.length,.own V (j9 t r c f).k.length],a :: b :: V :: m,Tu t r c f a b V m ns,Yd t r ns,λp x=>?_,λp x=>L p.1 (by rw [<- s];exact qB x),λy u z=>?_,?_,?_⟩
 .simp only [Tu,aW,f7,or_false] at x;rcases x with rfl|rfl|rfl<;>simp
 .refine ACalls.wf N λo C=>?_;have M:∀ j∈ns,j<y.next/\¬ y.F j:=λj n=>by
   rw [<- s,aT] at n;obtain ⟨p,x,rfl⟩:=n;exact z p x
  have a1:∀ j∈a :: b :: V :: m,∃ k,H.get j=some k:=λj n=>by
   simp only [aW] at n;rcases n with rfl|rfl|rfl|hq
   .exact ⟨_,g.ga⟩
   .exact ⟨_,g.gb⟩
   .exact ⟨_,g.gV⟩
   .obtain ⟨p,x,rfl⟩:=aO hq;exact ⟨_,g.gq p _ _ (aA x) (aA (by rw [<- g.len];exact x))⟩
  have A:∀ j∈a :: b :: V :: m,y.F j:=λj n=>aY λhn=>by
   obtain ⟨k,hk⟩:=a1 j n;have:=u j n;rw [hk,C j hn] at this;cases this
  have a0:HH y 0 a b V m f:=⟨(u a g.bs).trans g.ga,(u b g.br).trans g.gb,(u V g.bN).trans g.gV,g.len,λi q v h1 h2=>(u q (g.bm (aL h1))).trans (g.gq i q v h1 h2),g.nd,λj n=>⟨eL _,o j (A j n)⟩⟩;have D:∀ j∈a :: b :: V :: (m++ns),j<y.next:=λj n=>by
   simp only [aW,aZ] at n;rcases n with h|h|h|h|h
   .exact o j (A j (by simp [h]))
   .exact o j (A j (by simp [h]))
   .exact o j (A j (by simp [h]))
   .exact o j (A j (by simp [h]))
   .exact (M j h).1
  obtain ⟨g1,g2,g3,g4⟩:=UL (t:=t) (r:=r) (c:=c) g u Y J D;refine ACalls.exact (E:=(y.ai (Tu t r c f a b V m ns)).ac (Yd t r ns)) (Ge t ht r hR f c hc hs y 0 a b V m a0 (λd Q=>∃ w,(∀ j∈w,y.next<=j)/\HH Q 0 a b V (m++w) (j9 t r c f)/\(∀ j,j<y.next->j∉a :: b :: V :: m->Q.get j=y.get j)/\d=.agg [.own a (j9 t r c f).j.h.length,.own b (j9 t r c f).j.i.length,.own V (j9 t r c f).k.length]) (λw Q U T S _=>⟨w,U,T,S,rfl⟩)) ?_;rintro _ _ d Q ⟨w,U,T,S,rfl⟩;refine HH.exact g1 T o C (by rw [g2];exact bC _) (λj=>?_) (λj n Z=>S j (o j n) λhm=>Z (by simp only [aW,aZ] at hm ⊢;rcases hm with h|h|h|h<;>simp [h])) g3 (λp j j1 O I=>?_)
  .rw [g4];constructor
   .rintro (h|h)
    .exact .inl h
    .exact .inr (by simp [h])
   .rintro (h|h)
    .exact .inl h
    .simp only [aW,aZ] at h;rcases h with h|h|h|h|h
     .exact .inl (A j (by simp [h]))
     .exact .inl (A j (by simp [h]))
     .exact .inl (A j (by simp [h]))
     .exact .inl (A j (by simp [h]))
     .exact .inr h
  .have ea:∀ l:List Nat,a :: b :: V :: (m++l)=(a :: b :: V :: m)++l:=λl=>rfl;rw [ea] at O I;by_cases x:p<(a :: b :: V :: m).length
   .rw [aS x] at O I;rw [O] at I;cases I
    exact ⟨λ_=>rfl,λh=>h⟩
   .rw [bG aD] at O I;have m1:=M j (aL O);have m2:=U j1 (aL I);exact ⟨λh=>absurd h m1.2,λ_ h=>by have:=o j1 h;omega⟩
 .rw [s];exact a2
 .rw [s];have D:∀ j∈a :: b :: V :: (m++ns),j<H.next:=λj n=>by
   simp only [aW,aZ] at n;rcases n with h|h|h|h|h
   .exact (g.W j (by simp [h])).2
   .exact (g.W j (by simp [h])).2
   .exact (g.W j (by simp [h])).2
   .exact (g.W j (by simp [h])).2
   .exact dE (L j h).1 W
  obtain ⟨g1,g2,g3,g4⟩:=UL (t:=t) (r:=r) (c:=c) g (λ_ _=>rfl) Y J D;exact hK _ g1 g3 g4 g2
def fH (l:V2)(n:Nat):V2:=((List.range n).filter λ(i:Nat)=>mem l i).map λ(i:Nat)=>(i:Int)
structure Rule.b3 (r:Rule):Prop where
 s1:r.left.l.length<=1000000
 t1:r.left.G.length<=1000000
 s2:r.right.l.length<=1000000
def tA (r:Rule):Bool:=decide (r.left.vars=0)&&(decide ((r.left.l.length:Int)+r.left.G.length+r.right.l.length=0)&&(r.cond.D==1))
theorem Lm (r:Rule)(e:r.b3):Pua 73 [r.d] (.bool (tA r)):=by
 obtain ⟨c,b,a⟩:=e;refine Tz.p0 func73 rfl λQ f Y=>?_;exact wo (h:=f _ _ (by simp [go_sem,tA,mW]))
theorem CP {l:V2}{v:Int}(h:mem l v=true):0<=idx l v/\(idx l v).toNat<l.length/\l[(idx l v).toNat]?=some v:=by
 obtain ⟨i,e,f⟩:=aO ((mem_iff l v).1 h);have b:0<=idx l v:=by simpa [mem] using h
 unfold idx at b ⊢;cases a:l.findIdx? (λx=>decide (x=v)) with
 | none=>rw [a] at b;simp at b
 | some k =>
  rw [jX] at a;obtain ⟨d,c,_⟩:=a;simp only [decide_eq_true_eq] at c;exact ⟨by simp,by simpa using d,by simp [d,c]⟩
theorem iT {f:Nat->Int}:∀ (n k:Nat),(∀ j,k<=j->j<k+n->f j=0)->bW f k n=0
 | 0,k,_=>rfl
 | n+1,k,h=>by
  unfold bW;rw [if_neg (by rw [h k (bC _) aD];simp)];exact iT n (k+1) λj h1 h2=>h j aD aD
theorem YI {l:V2}{n:Int}(d:∀ x∈l,0<=x/\x<n)(c:l.Pairwise (· < ·)):FP l n=0:=by
 refine iT _ _ λj _ f=>?_;have a:j<l.length:=aD;have e:=d _ (aC a);unfold KD;rw [aA a,Option.getD_some,if_neg aD,if_neg];rintro ⟨g,b⟩;rw [aA (aD:j - 1<l.length),Option.getD_some] at b;have:=dF.1 c (j - 1) j aD a aD;omega
theorem T0 {l:V2}(h:l.Pairwise (· < ·))(h0:∀ x∈l,0<=x):∀ i (hi:i<l.length),(i:Int)<=l[i]
 | 0,hi=>by have:=h0 _ (aC hi);omega
 | i+1,hi=>by
  have h1:=T0 h h0 i aD;have h2:=dF.1 h i (i+1) aD hi aD;omega
theorem U8 {l:V2}{n:Nat}(h:l.Pairwise (· < ·))(a:∀ x∈l,0<=x/\x<n)(c:n<=1000):l.length<=1000:=by
 rcases Nat.eq_zero_or_pos l.length with h1|h1
 .omega
 .have h2:=T0 h (λx b=>(a x b).1) (l.length - 1) aD;have d:=a _ (aC (aD:l.length - 1<l.length));omega
theorem Ra {α:Type}{f:α->Int}:∀ {l:List α},(∀ x∈l,f x=0)->iB f l=0
 | [],_=>rfl
 | x :: l,h=>by
  unfold iB;rw [if_neg (by rw [h x (gG ..)];simp)];exact Ra λy hy=>h y (dX _ hy)
def eA (g:Graph)(k:Int):Edge:=g.i[k.toNat]?.getD cH
def iA (l:V2)(k:Int):Int:=l[k.toNat]?.getD 0
theorem NJ {g:Graph}{p:Part}(i:graphF g=0)(h:∀ x∈p.h,0<=x/\x<g.h.length)(b:p.h.Pairwise (· < ·))(j:∀ x∈p.i,0<=x/\x<g.i.length)(c:p.i.Pairwise (· < ·))
  (a:∀ k∈p.i,(eA g k).w∈p.h/\(eA g k).M∈p.h):subF g p=0:=by
 unfold subF sR;rw [if_neg (by rw [i];simp),if_neg (by rw [YI h b];simp),if_neg (by rw [YI j c];simp)];refine Ra λk d=>?_;have f:=(mem_iff _ _).2 (a k d).1;have e:=(mem_iff _ _).2 (a k d).2;unfold eA at f e;unfold Bf;rw [if_pos (by rw [f,e];rfl)]
theorem I9 (p:Nat->Bool)(n:Nat):(((List.range n).filter p).map λ(b:Nat)=>(b:Int)).Pairwise (· < ·):=by
 rw [Am];have h:((List.range n).filter p).Pairwise (· < ·):=List.Pairwise.filter _ NA;exact h.imp λh=>by omega
theorem CG (p:Nat→Bool)(n:Nat)(x:Int):x∈(((List.range n).filter p).map fun (b:Nat)=>(b:Int))↔(0≤x∧x<n)∧p x.toNat=true:=by
 simp only [aT,d8,aV];constructor
 ·rintro ⟨a,⟨h1,h2⟩,rfl⟩;exact ⟨by omega,by simpa using h2⟩
 ·rintro ⟨⟨h1,h2⟩,h3⟩;exact ⟨x.toNat,⟨by omega,h3⟩,by omega⟩
theorem dQ {l:V2}{n:Nat}{x:Int}:x∈bH l n↔(0<=x/\x<n)/\x∉l:=by
 unfold bH;rw [CG];constructor
 .rintro ⟨h,a⟩;refine ⟨h,λb=>?_⟩;rw [show ((x.toNat:Nat):Int)=x by omega,(mem_iff l x).2 b] at a;cases a
 .rintro ⟨h,a⟩;refine ⟨h,?_⟩;rw [show ((x.toNat:Nat):Int)=x by omega,cZ,bJ];exact λb=>a ((mem_iff l x).1 b)
theorem lR (l:V2)(n:Nat):(bH l n).Pairwise (· < ·):=I9 _ n
theorem fF {l:V2}{n:Nat}{x:Int}:x∈fH l n↔(0<=x/\x<n)/\x∈l:=by
 unfold fH;rw [CG];constructor
 .rintro ⟨h,a⟩;refine ⟨h,?_⟩;rw [show ((x.toNat:Nat):Int)=x by omega] at a;exact (mem_iff l x).1 a
 .rintro ⟨h,a⟩;refine ⟨h,?_⟩;rw [show ((x.toNat:Nat):Int)=x by omega];exact (mem_iff l x).2 a
theorem qZ (l:V2)(n:Nat):(fH l n).Pairwise (· < ·):=I9 _ n
theorem EG:∀ {l m:V2},l.Pairwise (· < ·)->m.Pairwise (· < ·)->(∀ x,x∈l↔x∈m)->l=m
 | [],[],_,_,_=>rfl
 | [],b :: m,_,_,h=>by have:=(h b).2 (gG ..);cases this
 | a :: l,[],_,_,h=>by have:=(h a).1 (gG ..);cases this
 | a :: l,b :: m,hl,hm,h=>by
  obtain ⟨h1,h2⟩:=List.pairwise_cons.1 hl;obtain ⟨h3,h4⟩:=List.pairwise_cons.1 hm;have hab:a=b:=by
   have q1:=(h a).1 (gG ..);have q2:=(h b).2 (gG ..);rw [aW] at q1 q2;rcases q1 with q1|q1
   .exact q1
   .rcases q2 with q2|q2
    .exact q2.symm
    .have h5:=h1 b q2;have h6:=h3 a q1;omega
  subst hab;congr 1;refine EG h2 h4 λx=>⟨λhx=>?_,λhx=>?_⟩
  .rcases aW.1 ((h x).1 (dX _ hx)) with rfl|h'
   .have:=h1 x hx;omega
   .exact h'
  .rcases aW.1 ((h x).2 (dX _ hx)) with rfl|h'
   .have:=h3 x hx;omega
   .exact h'
theorem Bz {a b:Graph}{m:Part}(h:eR a b m=0):(∀ i,i<a.h.length->lT a b m i=0)/\∀ k,k<a.i.length->mapEE a b m k=0:=by
 obtain ⟨e,d,l,j⟩:=kS h;have c:eR a b m=(if bW (lT a b m) 0 a.h.length≠0 then bW (lT a b m) 0 a.h.length else bW (mapEE a b m) 0 a.i.length):=by
  unfold eR;rw [if_neg (by rw [e];simp),if_neg (by rw [d];simp),if_neg aD]
 rw [c] at h;split at h
 .rename_i q;exact absurd h q
 .rename_i q;exact ⟨λi g=>eU a.h.length 0 (aD:bW (lT a b m) 0 a.h.length=0) i aD aD,λk f=>eU a.i.length 0 h k aD aD⟩
theorem zG {a b:Graph}{m:Part}(h:eR a b m=0){i:Int}(d:0<=i)(c:i<a.h.length):(0<=iA m.h i/\iA m.h i<b.h.length)/\gN b (iA m.h i)=gN a i:=by
 have q:=(Bz h).1 i.toNat aD;unfold lT at q;split at q
 .cases q
 .rename_i q1;split at q
  .cases q
  .rename_i q2;exact ⟨by unfold iA;omega,by unfold gN iA;simpa using q2⟩
theorem rU {a b:Graph}{m:Part}(h:eR a b m=0){k:Int}(e:0<=k)(d:k<a.i.length):(0<=iA m.i k/\iA m.i k<b.i.length)/\(eA a k).type=(eA b (iA m.i k)).type /\
  iA m.h (eA a k).w=(eA b (iA m.i k)).w/\iA m.h (eA a k).M=(eA b (iA m.i k)).M:=by
 have q:=(Bz h).2 k.toNat aD;unfold mapEE at q;split at q
 .cases q
 .rename_i q1;split at q
  .cases q
  .rename_i q2;split at q
   .cases q
   .rename_i q3;unfold eA iA;refine ⟨aD,by simpa using q2,?_,?_⟩<;>exact aY λc=>q3 (by first|exact .inl c|exact .inr c)
theorem wN {g:Graph}(c:graphF g=0){k:Int}(e:0<=k)(d:k<g.i.length):(0<=(eA g k).w/\(eA g k).w<g.h.length)/\(0<=(eA g k).M/\(eA g k).M<g.h.length)/\0<=(eA g k).type/\(eA g k).type<=99:=by
 have a:k.toNat<g.i.length:=aD;have b:=(dY c).2 _ (aC a);unfold eA;rw [aA a,Option.getD_some];exact ⟨b.2.1,b.2.2,b.1⟩
theorem RA {a keep:V2}(h:oD a keep=[]){i k:Nat}(c:i<k)(e:k<a.length):tE a keep i k=false:=by
 rw [bJ];intro d;have b:(i,k)∈oD a keep:=by
  unfold oD FF;rw [bQ];refine ⟨i,aV.2 aD,?_⟩;unfold mQ;rw [aT];exact ⟨k - (i+1),d8.2 ⟨aV.2 aD,by rw [show i+1+(k - (i+1))=k by omega];exact d⟩,by simp;omega⟩
 rw [h] at b;cases b
theorem RB {a keep:V2}(h:oD a keep=[]){i k:Nat}(e:i<a.length)(d:k<a.length)(b:i≠k)(c:a[i]?.getD 0=a[k]?.getD 0):mem keep i=true/\mem keep k=true:=by
 rcases Nat.lt_or_gt_of_ne b with hlt|hlt
 .have:=RA h hlt d;unfold tE at this;rw [c] at this;simpa using this
 .have:=RA h hlt e;unfold tE at this;rw [c] at this;simp at this;exact ⟨this.2,this.1⟩
theorem wS {l g:Graph}{keep m:Part}(h:oZ l g keep m=0):eR l g m=0/\subF l keep=0/\oD m.h keep.h=[]/\oD m.i keep.i=[]/\wQ g m.i (iC m.h keep.h)=[]:=by
 unfold oZ at h;split at h
 .rename_i q;exact absurd h q
 .rename_i q;have a:compG l g keep m=0:=aD;unfold compG at a;split at h
  .cases h
  .rename_i q2;split at h
   .cases h
   .rename_i q3;have b:eR l g m=0/\subF l keep=0:=by
     split at a
     .rename_i q5;exact absurd a q5
     .rename_i q5;exact ⟨aD,a⟩
    exact ⟨b.1,b.2,bM aD,bM aD,bM aD⟩
theorem yD {b keep:V2}(h:oD b keep=[]){j:Int}(l:0<=j)(k:j<b.length)(e:j∈keep):iA b j∉iC b keep:=by
 intro d;obtain ⟨i,f,a,g⟩:=rZ.1 d;have c:i≠j.toNat:=by
  rintro rfl;rw [show ((j.toNat:Nat):Int)=j by omega,(mem_iff _ _).2 e] at a;cases a
 have:=RB h f (aD:j.toNat<b.length) c (by rw [g];rfl);rw [a] at this;exact absurd this.1 aE
theorem ZR {l g:Graph}{keep m:Part}(h:oZ l g keep m=0):subF g (u9 l g keep m)=0:=by
 obtain ⟨z,D,r,H,y⟩:=wS h;unfold u9;rw [if_pos h];obtain ⟨w,A,E,F⟩:=kS z;refine NJ A (λx s=>mX s) (lR _ _) (λx s=>mX s) (lR _ _) λk G=>?_;obtain ⟨c,t⟩:=dQ.1 G;have a:=wN A c.1 c.2;by_cases o:k∈m.i
 .obtain ⟨i,v,p⟩:=aO o;have d:(i:Int)∈keep.i:=by
   refine aY λI=>t (rZ.2 ⟨i,v,?_,?_⟩)
   .rw [bJ];exact λf=>I ((mem_iff _ _).1 f)
   .rw [aA v,p]
  have j:=E7 D i d;have q:=wN (k:=(i:Int)) w aD aD;have b:=rU (k:=(i:Int)) z aD aD;have u:iA m.i i=k:=by unfold iA;simp [v,p]
  rw [u] at b;have C:=yD r q.1.1 aD ((mem_iff _ _).1 j.1);have B:=yD r q.2.1.1 aD ((mem_iff _ _).1 j.2);rw [b.2.2.1] at C;rw [b.2.2.2] at B;exact ⟨dQ.2 ⟨a.1,C⟩,dQ.2 ⟨a.2.1,B⟩⟩
 .have e:yN g m.i (iC m.h keep.h) k.toNat=false:=by
   rw [bJ];intro e;have n:k∈wQ g m.i (iC m.h keep.h):=by
    unfold wQ;rw [CG];exact ⟨c,e⟩
   rw [y] at n;cases n
  unfold yN at e;rw [show ((k.toNat:Nat):Int)=k by omega,show mem m.i k=false by rw [bJ];exact λf=>o ((mem_iff _ _).1 f)] at e;simp only [Bool.not_false,gW,Bool.or_eq_false_iff] at e;exact ⟨dQ.2 ⟨a.1,λf=>by have:=(mem_iff _ _).2 f;unfold eA at this;rw [e.1] at this;cases this⟩,dQ.2 ⟨a.2.1,λf=>by have:=(mem_iff _ _).2 f;unfold eA at this;rw [e.2] at this;cases this⟩⟩
theorem Fx {g:Graph}(k:g.h.length<=40)(j:g.i.length<=80)(e:∀ a∈g.h,0<=a/\a<=99)
  (f:∀ x∈g.i,(0<=x.type/\x.type<=99)/\(0<=x.w/\x.w<g.h.length)/\(0<=x.M/\x.M<g.h.length)):graphF g=0:=by
 unfold graphF;rw [if_neg aD,if_neg,if_neg]
 .rw [bF];rintro ⟨x,d,b⟩;have i:=f x d;have c:wL x g.h.length=true:=by simp [wL,jH];omega
  rw [c] at b;cases b
 .rw [bF];rintro ⟨a,h,b⟩;have i:=e a h;have c:jH a 99=true:=by simp [jH];omega
  rw [c] at b;cases b
theorem CU {g:Graph}{n:Int}(h0:0<=n)(h:n<g.h.length):gN g n∈g.h:=by
 unfold gN;rw [aA (aD:n.toNat<g.h.length),Option.getD_some];exact aC _
theorem OP {g:Graph}{n:Int}(h0:0<=n)(h:n<g.i.length):eA g n∈g.i:=by
 unfold eA;rw [aA (aD:n.toNat<g.i.length),Option.getD_some];exact aC _
theorem eB {l:V2}{n:Int}(h0:0<=n)(h:n<l.length):iA l n∈l:=by
 unfold iA;rw [aA (aD:n.toNat<l.length),Option.getD_some];exact aC _
theorem O1 {l:V2}{n:Nat}(h:l.Pairwise (· < ·))(a:∀ x∈l,0<=x/\x<n):l.length<=n:=by
 rcases Nat.eq_zero_or_pos l.length with h1|h1
 .omega
 .have h2:=T0 h (λx b=>(a x b).1) (l.length - 1) aD;have c:=a _ (aC (aD:l.length - 1<l.length));omega
theorem uO {g:Graph}{p:Part}(h:subF g p=0):p.i.Pairwise (· < ·):=by
 unfold subF sR at h;split at h
 .rename_i q;exact absurd h q
 .split at h
  .rename_i q;exact absurd h q
  .split at h
   .rename_i q;exact absurd h q
   .rename_i q;exact (Dc (aD:FP p.i g.i.length=0)).2
theorem zD {l:V2}(f:l.Pairwise (· < ·)){v:Int}(e:v∈l):pI l v<l.length/\iA l (pI l v)=v/\idx l v=pI l v:=by
 have a:=(mem_iff l v).2 e;have d:=Eb f a;obtain ⟨g,c,b⟩:=CP a;rw [d] at g c b;refine ⟨by simpa using c,?_,d⟩;unfold iA;rw [b];rfl
theorem qJ {g:Graph}{p:Part}(h:subF g p=0){k:Int}(a:k∈p.i):(eA g k).w∈p.h/\(eA g k).M∈p.h:=by
 have:=E7 h k a;exact ⟨(mem_iff _ _).1 this.1,(mem_iff _ _).1 this.2⟩
theorem CV (g:Graph)(p:Part)(k:Int):gEd g p k=⟨(eA g k).type,pI p.h (eA g k).w,pI p.h (eA g k).M⟩:=rfl
theorem XP {α β:Type}(f:α->β)(l:List α)(d:α)(e:β){i:Nat}(h:i<l.length):((l.map f)[i]?).getD e=f ((l[i]?).getD d):=by simp [h]
theorem q9 {g:Graph}{p:Part}(h:subF g p=0){i:Int}(b:0<=i)(a:i<p.h.length):gN (cJ g p) i=gN g (iA p.h i):=by
 unfold cJ;rw [if_pos h];exact XP (gN g) p.h 0 0 aD
theorem zO {g:Graph}{p:Part}(h:subF g p=0){i:Int}(b:0<=i)(a:i<p.i.length):eA (cJ g p) i=gEd g p (iA p.i i):=by
 unfold cJ;rw [if_pos h];exact XP (gEd g p) p.i 0 cH aD
theorem Ms (c:Part)(vs:V2)(l:List Slot)(s:Slot)(vals:Yb):uU c vs (l++[s]) vals=(uU c vs l vals).set (fX c s) (((uU c vs l vals)[fX c s]?.getD []).set s.J.toNat (dO s.y vs)):=by unfold uU;rw [iL];rfl
theorem qO (c:Part)(vs:V2):∀ (l:List Slot) (vals:Yb),(uU c vs l vals).length=vals.length/\∀ n:Nat,((uU c vs l vals)[n]?.getD []).length=(vals[n]?.getD []).length
 | [],vals=>⟨rfl,λ_=>rfl⟩
 | s :: l,vals=>by
  obtain ⟨h1,h2⟩:=qO c vs l (vals.set (fX c s) ((vals[fX c s]?.getD []).set s.J.toNat (dO s.y vs)));have e:uU c vs (s :: l) vals=uU c vs l (vals.set (fX c s) ((vals[fX c s]?.getD []).set s.J.toNat (dO s.y vs))):=rfl;rw [e];refine ⟨by rw [h1,f9],λn=>?_⟩;rw [h2 n,dL];split
  .rename_i hn;subst hn;split
   .simp
   .rename_i hn;rw [b9 aD]
  .rfl
def xB (c:Part)(vs:V2)(l:List Slot)(i k:Nat):Bool:=match l[k]?,l[i]? with|some a,some b=>C8 c vs a b|_,_=>false
theorem yR (c:Part)(vs:V2)(l:List Slot):vA c vs l=(List.range l.length).any λi=>(List.range i).any λk=>xB c vs l i k:=rfl
structure PutOk (t:Types) (r:Rule) (x:Host) (c:Part):Prop where
 Q:c.h.length=r.right.j.h.length
 cf:x.j.h.length<=2000/\x.j.i.length<=2000/\x.k.length<=2000
 spot:∀ s∈r.right.l,0<=c.h[s.node.toNat]?.getD 0/\fX c s<x.k.length/\fX c s<x.j.h.length
 J:∀ s∈r.right.l,s.J<(x.k[fX c s]?.getD []).length/\s.J<(bL t (x.j.h[fX c s]?.getD 0)).length
theorem SR (t:Types)(ht:t.ok)(r:Rule)(hR:RuleV t r)(f:Host)(c:Part)(hP:PutOk t r f c)(vs:V2)(a0:vs.length=r.left.vars.toNat)(Z:Sm vs)
  (G:AHeap) (lo a b V:Nat) (w:List Nat) (m:HH G lo a b V w f) (Q:D->AHeap->Prop)
  (L:∀ H',sP t f.j c vs r.right.l≠0->(∀ j,j<G.next->j∉a :: b :: V :: w->H'.get j=G.get j)->G.next<=H'.next->Q (.tup [.agg [.nil,.nil,.nil],dI (sP t f.j c vs r.right.l)]) H')
  (hQ:∀ H',sP t f.j c vs r.right.l=0->(∀ j,j<G.next->j∉a :: b :: V :: w->H'.get j=G.get j)->G.next<=H'.next->Q (.tup [Host.d ⟨f.j,uU c vs r.right.l f.k⟩,dI 0]) H') :
  ACalls prog 99 [t.d,r.d,.agg [.own a f.j.h.length,.own b f.j.i.length,.own V f.k.length],c.d,dLI vs] G Q:=by
 have g1:=dY hR.gr;have g6:=m.W a m.bs;have g3:=m.W b m.br;have g7:=m.W V m.bN;have g5:=m.ab;have s:=hR.l;have c1:=hR.cf;obtain ⟨l,hl⟩:=c7 (r.right.l);rw [<- hl] at L hQ s c1;have n:=hP.spot;have K:=hP.J;rw [<- hl] at n K;have g2:=hP.Q;obtain ⟨Q',N⟩:∃ Q':D->AHeap->Prop,∀ d H',Q' d H'↔Q (jR H' d) (gC (Cr H' d) H'):=⟨_,λ_ _=>Iff.rfl⟩;refine ACalls.de ?_;rw [show (λd H'=>Q (jR H' d) (gC (Cr H' d) H'))=Q' from funext λd=>funext λH'=>propext (N d H').symm];refine (Tz.cK ⟨λt=>t==7||t==10,λ_=>[]⟩ func99 rfl ?_);have Y:=xa2 @Part.d.eq_1 @Part.c.eq_1 (Eq.symm hl) @Term.c.eq_1;refine wv (h:=bA (λi e H=>∃ X:Nat,∃ R:Nat,(e 5=.adr t.c/\e 6=.adr r.c/\e 8=.adr c.c/\e 4=dLI vs/\e 12=.list (l.map Slot.c)/\e 7=.ptr X 1 0 0/\e 10=.ptr R 1 0 0/\e 13=dI i)/\(H.get X=some ⟨44,3,[[.own a f.j.h.length,.own b f.j.i.length,.own V f.k.length]],false⟩)/\(X<H.next)/\(H.get R=some ⟨44,3,[[.nil,.nil,.nil]],false⟩)/\(R<H.next)/\(i<=l.length)/\(HH H lo a b V w f)/\(∀ j∈a :: b :: V :: w,j≠X/\j≠R)/\(G.next<=X/\X<R)/\(∀ p q,p<i->q<p->xB c vs l p q=false)/\(∀ j,j<G.next->j∉a :: b :: V :: w->H.get j=G.get j)/\(G.next<=H.next)) (λi=>l.length - i) 0 ⟨G.next,(G.next+1),wg,wn,wn,wn,wn,wi,(by exact m.same ib (λj u=>by have:=(m.W j u).2;simp [go_sem,bS this])),(by intro j u;have:=(m.W j u).2;omega),aD,(by intro p q hp;omega),(by intro j u _;simp [go_sem,bS u]),ib⟩ λI0 e7 i e H d6=>?_);obtain ⟨X,R,E0,gX_0,nX_0,gR_0,nR_0,hi,hh,a5,e3,hC,hG,b3⟩:=d6;have f4:=xa8 (dJ (aD:R≠X)) (dJ (aD:R≠V)) (dJ (aD:R≠b)) (dJ (aD:R≠a)) (dJ (aD:X≠V)) (dJ (aD:X≠b)) (dJ (aD:X≠a)) (dJ (aD:V≠b)) (dJ (aD:V≠a)) (dJ (aD:b≠a));have Y:=xa5 Y E0 gX_0 (bS nX_0) gR_0 (bS nR_0) f4;refine iY (λh3=>?_) λh3=>?_
 .have hlm:=aC h3;have a6:=(s _ hlm).2.2;have d2:=(s _ hlm).1;have z:l[i].node.toNat<c.h.length:=aD;have Y:=xa3 Y h3 (aA h3) @Slot.c.eq_1 (aA z);refine wp (h:=aB (kO l[i].y vs (by rw [a0];exact a6) Z) wl ?_);refine wp (h:=bA (λk e H=>(e 5=.adr t.c/\e 6=.adr r.c/\e 8=.adr c.c/\e 4=dLI vs/\e 12=.list (l.map Slot.c)/\e 7=.ptr X 1 0 0/\e 10=.ptr R 1 0 0/\e 13=dI i/\e 14=dI (dO l[i].y vs)/\e 16=dI k)/\(H.get X=some ⟨44,3,[[.own a f.j.h.length,.own b f.j.i.length,.own V f.k.length]],false⟩)/\(X<H.next)/\(H.get R=some ⟨44,3,[[.nil,.nil,.nil]],false⟩)/\(R<H.next)/\(k<=i)/\(HH H lo a b V w f)/\(∀ q,q<k->xB c vs l i q=false)/\(∀ j,j<G.next->j∉a :: b :: V :: w->H.get j=G.get j)/\(G.next<=H.next)) (λk=>i - k) 0 ⟨wg,wn,wn,wn,wn,wi,(by exact hh.same ge (λ_ _=>rfl)),(by intro q P;omega),(by exact hG),(by first|exact b3|(simp [go_sem];omega))⟩ λI2 e6 k e H d5=>?_);obtain ⟨E2,gX_2,nX_2,gR_2,nR_2,hk,c0,c5,a8,a3⟩:=d5;have f3:=xa8 (dJ (aD:R≠X)) (dJ (aD:R≠V)) (dJ (aD:R≠b)) (dJ (aD:R≠a)) (dJ (aD:X≠V)) (dJ (aD:X≠b)) (dJ (aD:X≠a)) (dJ (aD:V≠b)) (dJ (aD:V≠a)) (dJ (aD:b≠a));have Y:=xa5 Y E2 gX_2 (bS nX_2) gR_2 (bS nR_2) f3;refine dR (λh7=>?_) λh7=>?_
  .have hkl:k<l.length:=aD;have a4:=aC hkl;have e4:=(s _ a4).2.2;have g0:=(s _ a4).1;have J:l[k].node.toNat<c.h.length:=aD;have d0:=(n _ hlm).1;have c9:=(n _ a4).1;rw [aA z,Option.getD_some] at d0;rw [aA J,Option.getD_some] at c9;have c4:xB c vs l i k=(decide (c.h[l[k].node.toNat]=c.h[l[i].node.toNat])&&(decide (l[k].J=l[i].J)&&decide (dO l[k].y vs≠dO l[i].y vs))):=by
    unfold xB C8 fX;simp only [aA hkl,aA h3,aA z,aA J,Option.getD_some];rw [show (decide ((c.h[l[k].node.toNat]).toNat=(c.h[l[i].node.toNat]).toNat))=decide (c.h[l[k].node.toNat]=c.h[l[i].node.toNat]) from by rw [decide_eq_decide];omega]
   have Y:=xa2 Y h7 (aA hkl) (aA J);refine wp (h:=aB (kO l[k].y vs (by rw [a0];exact e4) Z) wl ?_);refine iY (λI=>?_) λI=>?_
   .have hB:vA c vs l=true:=by
     rw [yR,bF];refine ⟨i,by simpa using h3,?_⟩;rw [bF];refine ⟨k,by simpa using h7,?_⟩;rw [c4];simp at I ⊢;exact ⟨I.1.1,I.1.2,λe=>I.2 e.symm⟩
    have hE:sP t f.j c vs l=11:=by unfold sP;rw [if_pos hB]
    refine wv (h:=?_);rw [hE] at L;refine (N _ _).2 ?_;simp only [jR,lB,rJ,f5,Cr,JR,OH,mM,i5,j7,pE,LW,dU,gC];exact L _ (by decide) (λj u o=>by simp [go_sem,(aD:j≠R)];exact a8 j u o) (by first|(simp [go_sem];omega)|exact a3)
   .have hCk:xB c vs l i k=false:=by
     rw [c4,bJ];intro A;simp at A;exact A.2.2 (I A.1 A.2.1).symm
    exact wp (h:=wx e6 (k+1) ⟨wg,wn,wn,wn,wn,wj,(by exact c0.same ge (λ_ _=>rfl)),(by intro q P;rcases bX q k with hqk|hqk;exact c5 q hqk;(obtain rfl:q=k:=aD;exact hCk)),(by exact a8),(by first|exact a3|(simp [go_sem];omega))⟩)
  .exact wp (h:=wx e7 (i+1) ⟨X,R,wg,wn,wn,wn,wn,wj,(by exact c0),(by exact a5),(by exact e3),(by intro p q hp P;rcases bX p i with hpi|hpi;exact hC p q hpi P;(obtain rfl:p=i:=aD;exact c5 q aD)),(by exact a8),(by exact a3)⟩)
 .have hB:vA c vs l=false:=by
   rw [yR,bJ];intro A;rw [bF] at A;obtain ⟨p,hp,A⟩:=A;rw [bF] at A;obtain ⟨q,P,A⟩:=A;rw [aV] at hp P;rw [hC p q aD P] at A;cases A
  have O:sP t f.j c vs l=if l.any (zE t f.j c vs)=true then 6 else 0:=by unfold sP;rw [if_neg (by rw [hB];simp)]
  refine wv (h:=bA (λi e H=>∃ x:Host,(e 5=.adr t.c/\e 6=.adr r.c/\e 8=.adr c.c/\e 4=dLI vs/\e 12=.list (l.map Slot.c)/\e 7=.ptr X 1 0 0/\e 10=.ptr R 1 0 0/\e 19=dI i)/\(H.get X=some ⟨44,3,[[.own a f.j.h.length,.own b f.j.i.length,.own V f.k.length]],false⟩)/\(X<H.next)/\(H.get R=some ⟨44,3,[[.nil,.nil,.nil]],false⟩)/\(R<H.next)/\(i<=l.length)/\(x=⟨f.j,uU c vs (l.take i) f.k⟩)/\(HH H lo a b V w x)/\((l.take i).any (zE t f.j c vs)=false)/\(∀ j,j<G.next->j∉a :: b :: V :: w->H.get j=G.get j)/\(G.next<=H.next)) (λi=>l.length - i) 0 ⟨f,wg,wn,wn,wn,wn,wi,(by rfl),(by exact hh),(by rfl),(by exact hG),(by exact b3)⟩ λI4 e5 i e H b8=>?_);obtain ⟨x,E4,gX_4,nX_4,gR_4,nR_4,b8,hx,g,hO,a7,b7⟩:=b8;have f2:=xa8 (dJ (aD:R≠X)) (dJ (aD:R≠V)) (dJ (aD:R≠b)) (dJ (aD:R≠a)) (dJ (aD:X≠V)) (dJ (aD:X≠b)) (dJ (aD:X≠a)) (dJ (aD:V≠b)) (dJ (aD:V≠a)) (dJ (aD:b≠a));have Y:=xa5 Y E4 gX_4 (bS nX_4) gR_4 (bS nR_4) f2;refine iY (λF=>?_) λF=>?_
  .have hlm:=aC F;have a6:=(s _ hlm).2.2;have d2:=(s _ hlm).1;have g4:=(s _ hlm).2.1;have z:l[i].node.toNat<c.h.length:=aD;obtain ⟨s1,s2,s3⟩:=n _ hlm;obtain ⟨a1,a2⟩:=K _ hlm;have c8:fX c l[i]=(c.h[l[i].node.toNat]).toNat:=by unfold fX;rw [aA z];rfl
   rw [aA z,Option.getD_some] at s1;have b2:=qO c vs (l.take i) f.k;have C:x.j=f.j:=by rw [hx]
   have U:x.k=uU c vs (l.take i) f.k:=by rw [hx]
   have W:x.k.length=f.k.length:=by rw [U];exact b2.1
   have b5:fX c l[i]<x.k.length:=aD;have b6:fX c l[i]<x.j.h.length:=by rw [C];exact s3
   have d3:fX c l[i]<w.length:=by rw [g.len];exact b5
   obtain ⟨q,P⟩:=c7 (w[fX c l[i]]);obtain ⟨v,hv⟩:=c7 (x.k[fX c l[i]]);have e1:w[fX c l[i]]?=some q:=by rw [aA d3,P]
   have e2:x.k[fX c l[i]]?=some v:=by rw [aA b5,hv]
   have b1:=uA e1 e2;have d7:=g.gq _ _ _ e1 e2;have f6:v.length=(f.k[fX c l[i]]?.getD []).length:=by rw [<- b2.2,<- U,e2];rfl
   have e0:l[i].J.toNat<v.length:=aD;obtain ⟨nd,b4⟩:∃ y,y=x.j.h[fX c l[i]]:=⟨_,rfl⟩;have S:f.j.h[fX c l[i]]?.getD 0=nd:=by rw [b4,<- C,aA b6];rfl
   rw [S] at a2;have c2:l[i].J.toNat<(bL t nd).length:=aD;have B:q∈w:=aL e1;have f7:=g.W q (g.bm B);have f9:=a5 q (g.bm B);have f8:=g.qn B;have c3:zE t f.j c vs l[i]=(decide (dO l[i].y vs<(bL t nd)[l[i].J.toNat].ao)||decide ((bL t nd)[l[i].J.toNat].az<dO l[i].y vs)):=by unfold zE;rw [S,aA c2];rfl
   have e9:=g.ga;have e8:=g.gb;have f0:=g.gV;have d8:f.j.h.length=x.j.h.length:=by rw [C]
   have d1:=kH g.len;have f1:=xa2 (dJ (aD:R≠X)) (dJ (aD:R≠V)) (dJ (aD:R≠b)) (xb0 (dJ (aD:R≠a)) (dJ (aD:R≠q)) (dJ (aD:X≠V)) (dJ (aD:X≠b)) (dJ (aD:X≠a)) (dJ (aD:X≠q)) (dJ (aD:V≠b)) (dJ (aD:V≠a)) (dJ (aD:V≠q)) (dJ (aD:b≠a)) (dJ (aD:b≠q)) (dJ (aD:a≠q)));have Y:=xa7 Y F (aA F) @Slot.c.eq_1 (aA z) (Eq.symm c8) e9 e8 (xb0 f0 b1 d7 d1 (aA b6) (Eq.symm b4) (aA c2) (aA e0) @Attr.c.eq_1 W.symm d8 f1);refine wp (h:=aB (kO l[i].y vs (by rw [a0];exact a6) Z) wl ?_);refine wp (h:=aH (lQ t ht nd) wl ?_);refine iY (λa9=>?_) λa9=>?_
   .have A:l.any (zE t f.j c vs)=true:=bF.2 ⟨_,hlm,by rw [c3];simpa using a9⟩;rw [if_pos A] at O;refine wv (h:=?_);rw [O] at L;refine (N _ _).2 ?_;simp only [jR,lB,rJ,f5,Cr,JR,OH,mM,i5,j7,pE,LW,dU,gC];exact L _ (by decide) (λj u o=>by simp [go_sem,(aD:j≠R)];exact a7 j u o) (by first|(simp [go_sem];omega)|exact b7)
   .have hOi:zE t f.j c vs l[i]=false:=by rw [c3];simpa using a9
    obtain ⟨x2,b0⟩:∃ y:Host,y=⟨x.j,x.k.set (fX c l[i]) (v.set l[i].J.toNat (dO l[i].y vs))⟩:=⟨_,rfl⟩;have c6:x2=⟨f.j,uU c vs (l.take (i+1)) f.k⟩:=by
     rw [b0,List.take_succ_eq_append_getElem F,Ms,<- U,e2,C];rfl
    exact wp (h:=wx e5 (i+1) ⟨x2,wg,wn,wn,wn,wn,wj,(by exact c6),(by rw [b0];exact g.eo ge e1 e2 aE (by simp [go_sem,Y,cW,cI]) (λj u d4=>by simp [go_sem,d4])),(by rw [List.take_succ_eq_append_getElem F,xI,hO];simp [hOi]),(by intro j u o;simp [go_sem,show j≠q from λe=>o (e ▸ g.bm B)];exact a7 j u o),ib⟩)
  .rw [aG aD] at hO hx;rw [if_neg (by rw [hO];simp)] at O;have C:x.j=f.j:=by rw [hx]
   have W:x.k.length=f.k.length:=by rw [hx];exact (qO c vs l f.k).1
   refine wv (h:=?_);refine (N _ _).2 ?_;obtain ⟨E,M⟩:=c7 (H.put R ⟨44,3,[[.own a f.j.h.length,.own b f.j.i.length,.own V f.k.length]],false⟩);have b9:HH E lo a b V w x:=g.same (by rw [M];simp [go_sem]) (λj u=>by rw [M];simp [go_sem,(a5 j u).2]);rw [<- M];have hd:=b9.de;rw [C,W] at hd;have T:=b9.hq f.j.h.length f.j.i.length f.k.length 0;simp only [dI] at T;have d9:lB E (D.int .i64 0)=.int .i64 0:=rfl;simp only [jR,i5,j7,hd,d9];rw [hx];refine hQ _ O (λj u o=>?_) ?_
   .rw [CW _ _ j (λhm=>o (T _ hm)),M];simp [go_sem,(aD:j≠R)];exact a7 j u o
   .rw [(zL _ E).2,M];simp [go_sem];exact b7
theorem Nt {l:V2}(hn:l.Nodup){p:Nat}(hp:p<l.length):∀ n,n<=l.length->g6 l n l[p]=if p<n then (p:Int) else -1
 | 0,_=>rfl
 | n+1,h=>by
  rw [r9,Nt hn hp n aD,aA aD,Option.getD_some];by_cases he:n=p
  .subst he;rw [if_pos rfl,if_pos aD]
  .rw [if_neg (λe=>he ((i6 hn).1 e))];by_cases h2:p<n
   .rw [if_pos h2,if_pos aD]
   .rw [if_neg h2,if_neg aD]
theorem rE {l:V2}(b:l.Nodup){p:Nat}(a:p<l.length):g6 l l.length l[p]=p:=by rw [Nt b a _ (bC _),if_pos a]
theorem sA {l:V2}{v:Int}(h:v∉l):∀ n,n<=l.length->g6 l n v = -1
 | 0,_=>rfl
 | n+1,hl=>by
  rw [r9,sA h n aD,aA aD,Option.getD_some,if_neg];exact λe=>h (e ▸ aC _)
theorem Nu {l:V2}(b:l.Nodup)(v:Int):decide (g6 l l.length v<0) = !mem l v:=by
 by_cases h:v∈l
 .obtain ⟨p,a,rfl⟩:=aO h;rw [rE b a,(mem_iff _ _).2 h];simp
 .rw [sA h _ (bC _),bJ.2 λc=>h ((mem_iff _ _).1 c)];rfl
theorem Oq {l:V2}(a:l.Nodup)(i:Nat):CI l i=(bH l i).length:=by
 unfold CI bH;rw [aR];congr 1;exact HQ λj _=>Nu a j
theorem Fi {l:V2}:∀ (n j:Nat),j<n->mem l j=false->(bH l n)[(bH l j).length]?=some (j:Int)
 | n+1,j,hj,hm=>by
  rw [qS];by_cases h:j=n
  .subst h;rw [if_neg (by rw [hm];simp),bG (bC _)];simp
  .have:=Fi n j aD hm;rw [aS (aQ.1 this).1];exact this
theorem jC {l:V2}(h:l.Pairwise (· < ·)):l.Nodup:=h.imp λh=>by omega
structure StepIn (t:Types) (r:Rule) (h:Host) (m:Mat):Prop where
 hR:RuleV t r
 ho:HostOk t h
 hm:MOk t r.left.j h.j m.m
 hc:oZ (lD r.left.j h.j m.m) h.j r.q m.m=0
section
variable {t:Types} {r:Rule} {h:Host} {m:Mat}
theorem NL (c:RuleV t r)(b:HostOk t h)(a:o7 t r h m=0):StepIn t r h m:=by
 unfold o7 at a;split at a
 .cases a
 .rename_i h1;split at a
  .exact absurd a ic
  .split at a
   .cases a
   .exact ⟨c,b,rW (oS (bY h1)).2,a⟩
theorem StepIn.dc (S:StepIn t r h m):bZ r h m=⟨bH (iC m.m.h r.q.h) h.j.h.length,bH (iC m.m.i r.q.i) h.j.i.length⟩:=by unfold bZ u9;rw [if_pos S.hc]
theorem StepIn.sub (S:StepIn t r h m):subF h.j (bZ r h m)=0:=ZR S.hc
theorem StepIn.cb (S:StepIn t r h m):(bZ r h m).h.Pairwise (· < ·):=by rw [S.dc];exact lR _ _
theorem StepIn.et (S:StepIn t r h m):(bZ r h m).i.Pairwise (· < ·):=by rw [S.dc];exact lR _ _
theorem StepIn.cG (S:StepIn t r h m):∀ x∈(bZ r h m).h,0<=x/\x<h.j.h.length:=(nQ S.sub).2.2.1
theorem StepIn.fk (S:StepIn t r h m):∀ x∈(bZ r h m).i,0<=x/\x<h.j.i.length:=(nQ S.sub).2.2.2
theorem StepIn.len (S:StepIn t r h m):(bZ r h m).h.length<=40/\(bZ r h m).i.length<=80:=by
 have a:=bK S.ho.gg;have c:=O1 S.cb S.cG;have b:=O1 S.et S.fk;omega
theorem StepIn.fl (S:StepIn t r h m):oD m.m.h r.q.h=[]/\oD m.m.i r.q.i=[]:=⟨(wS S.hc).2.2.1,(wS S.hc).2.2.2.1⟩
theorem StepIn.d5 (S:StepIn t r h m){k:Int}(a:k∈r.q.h):iA m.m.h k∈(bZ r h m).h:=by
 have c:=S.hR.q;have g:=S.hm.len;have b:=c.2.1 k a;have f:=yD S.fl.1 b.1 aD a;rw [S.dc];have d:=(S.hm.b5 k.toNat aD aD).1;have e:iA m.m.h k=m.m.h[k.toNat]' aD:=by unfold iA;rw [aA aD];rfl
 exact dQ.2 ⟨by rw [e];exact d,f⟩
theorem StepIn.bw (S:StepIn t r h m):(bT t r h m).j.h=(bZ r h m).h.map (gN h.j)++r.N.map (gN r.right.j):=by
 unfold bT j9 cJ;rw [if_pos S.sub]
theorem StepIn.cr (S:StepIn t r h m):(bT t r h m).j.i=(bZ r h m).i.map (gEd h.j (bZ r h m))++r.ad.map (λk=>freshE (cT r h m) (r.right.j.i[k.toNat]?.getD cH)):=by
 unfold bT j9 cJ;rw [if_pos S.sub]
theorem Nr:(bT t r h m).k=(bZ r h m).h.map (λk=>h.k[k.toNat]?.getD [])++r.N.map (λk=>iP t (gN r.right.j k)):=rfl
theorem StepIn.cp (S:StepIn t r h m):r.s.h.Nodup/\r.s.i.Nodup:=by
 have:=S.hR.inj;unfold BW at this;simp only [aM,decide_eq_true_eq] at this;exact this.2
theorem StepIn.d4 (S:StepIn t r h m){p:Nat}(c:p<r.s.h.length)(b:p<r.q.h.length):gN r.right.j r.s.h[p]=gN r.left.j r.q.h[p]:=by
 have d:(cJ r.left.j r.q).h.length=r.q.h.length:=by unfold cJ;rw [if_pos S.hR.sub];simp
 have a:=(zG S.hR.mo (i:=(p:Int)) aD aD).2;rw [q9 S.hR.sub aD aD] at a;simpa [iA,aA c,aA b] using a
theorem StepIn.gu (S:StepIn t r h m){i:Nat}(o:i<r.right.j.h.length):∃ n:Nat,(cT r h m).h[i]?=some (n:Int)/\∃ hn:n<(bT t r h m).j.h.length,vO t r.right.j.h[i] ((bT t r h m).j.h[n])=true:=by
 obtain ⟨K,A,J,I,H⟩:=S.hR.q;have E:=S.hm.len;have k:=S.cp.1;have z:(cT r h m).h[i]?=some (Kl r.q.h r.s.h (qF m.m.h (dK r h m).h) (bZ r h m).h.length i):=by
  unfold cT ER;simp [o]
 rw [z];have u:=S.bw;have w:=nI S.hR.vf;have D:=(kF S.hR.gr S.hR.tr).1 _ (aC o);by_cases hm:(i:Int)∈r.s.h
 .obtain ⟨p,B,C⟩:=aO hm;have s:p<r.q.h.length:=aD;have G:=A _ (aC s);have d:r.q.h[p].toNat<m.m.h.length:=aD;have L:=S.d5 (aC s);obtain ⟨n,hn,g⟩:=aO L;have M:=S.cG _ (aC hn);have l:iA m.m.h r.q.h[p]=m.m.h[r.q.h[p].toNat]:=by unfold iA;rw [aA d];rfl
  have e:Kl r.q.h r.s.h (qF m.m.h (dK r h m).h) (bZ r h m).h.length i=n:=by
   unfold Kl;rw [<- C,rE k B,if_pos aD];rw [(aD:(p:Int).toNat=p),aA s,Option.getD_some];unfold qF dK o6;rw [aN,aA d,d7,Option.getD_some];rw [<- l,<- g];simp only;rw [p9 _ aD,Option.getD_some,show (((bZ r h m).h[n].toNat:Nat):Int)=(bZ r h m).h[n] by omega,rE (jC S.cb) hn]
  refine ⟨n,by rw [e],by rw [u];simp;omega,?_⟩;have c:=S.d4 B s;rw [C] at c;have x:gN r.right.j (i:Int)=r.right.j.h[i]:=by simp [gN,aA o]
  have j:r.q.h[p].toNat<r.left.j.h.length:=aD;have y:gN r.left.j r.q.h[p]=r.left.j.h[r.q.h[p].toNat]:=by simp [gN,aA j]
  rw [x,y] at c;rw [c];have q:=(S.hm.b5 _ d j).2;have v:(bT t r h m).j.h[n]?=some (h.j.h[(m.m.h[r.q.h[p].toNat]).toNat]?.getD 0):=by
   rw [u,aS (bY hn),aN,aA hn,d7,g,l];rfl
  obtain ⟨_,b⟩:=aQ.1 v;rw [b];exact q
 .have hmf:mem r.s.h i=false:=bJ.2 λh=>hm ((mem_iff _ _).1 h);have e:Kl r.q.h r.s.h (qF m.m.h (dK r h m).h) (bZ r h m).h.length i=(((bZ r h m).h.length+(bH r.s.h i).length:Nat):Int):=by
   unfold Kl;rw [if_neg (by rw [sA hm _ (bC _)];omega),Oq k]
  have f:=Fi r.right.j.h.length i o hmf;have F:(bH r.s.h i).length<r.N.length:=(aQ.1 f).1;refine ⟨(bZ r h m).h.length+(bH r.s.h i).length,by rw [e],by rw [u];simp;omega,?_⟩;have v:(bT t r h m).j.h[(bZ r h m).h.length+(bH r.s.h i).length]?=some r.right.j.h[i]:=by
   rw [u,bG aE,aR,xG,aN];have:r.N[(bH r.s.h i).length]?=some (i:Int):=f;rw [this];simp [gN,aA o]
  obtain ⟨_,b⟩:=aQ.1 v;rw [b];unfold vO;have:=MN w (a:=(r.right.j.h[i]).toNat) aD;rw [show (((r.right.j.h[i]).toNat:Nat):Int)=r.right.j.h[i] by omega] at this;exact this
theorem StepIn.cA (S:StepIn t r h m):(bT t r h m).k.length=(bT t r h m).j.h.length:=by rw [S.bw,Nr];simp
theorem XX {k:Int}(b:(dG t).2=0)(f:0<=k)(e:k<t.h.length)(c:oH t k.toNat=false):jA t k (iP t k)=0:=by
 unfold jA;rw [if_neg aD,if_neg (by rw [c];simp),if_neg (by simp [iP])];refine iT _ _ λj _ d=>?_;have a:j<(bL t k).length:=aD;unfold D4 iP;rw [aN,aA a,d7,Option.getD_some,Option.getD_some,if_neg];have:=(EE b k _ (aC a)).le;omega
theorem StepIn.cu (S:StepIn t r h m):∀ k∈r.N,(0<=gN r.right.j k/\gN r.right.j k<t.h.length)/\oH t (gN r.right.j k).toNat=false:=λk hk=>by
 have hr:=mX hk;have hin:=(kF S.hR.gr S.hR.tr).1 _ (CU hr.1 hr.2);refine ⟨hin,?_⟩;have:=S.hR.hk;unfold pX at this;rw [aM,cZ,gB] at this;have h1:=this.1 k hk;unfold absB at h1;unfold oH;rw [aA (aD:(gN r.right.j k).toNat<t.h.length)] at h1 ⊢;simpa using h1
theorem StepIn.node (S:StepIn t r h m):∀ (n:Nat) (h1:n<(bT t r h m).j.h.length) (h2:n<(bT t r h m).k.length),jA t (bT t r h m).j.h[n] (bT t r h m).k[n]=0:=λn h1 h2=>by
 have e1:=S.bw;have e2:(bT t r h m).k=_:=Nr;have g1:(bT t r h m).j.h[n]?=some (bT t r h m).j.h[n]:=aA h1;have g2:(bT t r h m).k[n]?=some (bT t r h m).k[n]:=aA h2;generalize (bT t r h m).j.h[n]=x at *;generalize (bT t r h m).k[n]=y at *;rw [e1] at g1;rw [e2] at g2;by_cases hn:n<(bZ r h m).h.length
 .rw [aS (bY hn),aN,aA hn] at g1 g2;simp only [d7,bI] at g1 g2;have hv:=S.cG _ (aC hn);have hl:=S.ho.vl;have a1:(bZ r h m).h[n].toNat<h.j.h.length:=aD;have a2:(bZ r h m).h[n].toNat<h.k.length:=aD;rw [aA a2] at g2;unfold gN at g1;rw [aA a1] at g1;have:=S.ho.nd _ a1 a2;rw [<- g1,<- g2];exact this
 .have l1:((bZ r h m).h.map (gN h.j)).length=(bZ r h m).h.length:=aE;have l2:((bZ r h m).h.map λk=>h.k[k.toNat]?.getD []).length=(bZ r h m).h.length:=aE;rw [bG aD,l1,aN,bV] at g1;rw [bG aD,l2,aN,bV] at g2;obtain ⟨k,hk,rfl⟩:=g1;obtain ⟨k',hk',rfl⟩:=g2;rw [hk] at hk';cases hk'
  obtain ⟨⟨b1,b2⟩,b3⟩:=S.cu k (aL hk);exact XX S.hR.vf b1 b2 b3
theorem StepIn.gw (S:StepIn t r h m):∀ a∈(bT t r h m).j.h,0<=a/\a<t.h.length:=λa ha=>by
 rw [S.bw,aZ,aT,aT] at ha;rcases ha with ⟨k,hk,rfl⟩|⟨k,hk,rfl⟩
 .exact p5 S.ho _ (CU (S.cG k hk).1 (S.cG k hk).2)
 .exact (S.cu k hk).1
theorem StepIn.put (S:StepIn t r h m):PutOk t r (bT t r h m) (cT r h m):=by
 have v:=S.len;have w:=bK S.hR.gr;have q:r.N.length<=r.right.j.h.length:=mY _ _;have p:r.ad.length<=r.right.j.i.length:=mY _ _;have y:(bT t r h m).j.h.length<=80:=by rw [S.bw];simp;omega
 have z:(bT t r h m).j.i.length<=160:=by rw [S.cr];simp;omega
 have x:=S.cA;have d:∀ s∈r.right.l,∃ n:Nat,(cT r h m).h[s.node.toNat]?=some (n:Int)/\∃ a:n<(bT t r h m).j.h.length,s.J<(bL t (bT t r h m).j.h[n]).length:=λs e=>by
  obtain ⟨⟨C,B⟩,l,A⟩:=S.hR.l s e;have k:s.node.toNat<r.right.j.h.length:=aD;obtain ⟨n,c,a,g⟩:=S.gu k;refine ⟨n,c,a,?_⟩;rw [aA k,Option.getD_some] at l;have b:=(kF S.hR.gr S.hR.tr).1 _ (aC k);have i:=(pJ (S.node n a aD)).1;have j:=(S.gw _ (aC a)).1;rw [uK S.hR.vf b.1 b.2] at l;rw [uK S.hR.vf j i];unfold vO at g;obtain ⟨u,o⟩:=Nv (nI S.hR.vf) ((bT t r h m).j.h[n]).toNat aD (r.right.j.h[s.node.toNat]).toNat (by rw [Int.toNat_of_nonneg b.1];exact g);rw [o,aI];omega
 refine ⟨by simp [cT,ER],⟨aD,aD,aD⟩,λs e=>?_,λs e=>?_⟩
 .obtain ⟨n,c,a,g⟩:=d s e;have:fX (cT r h m) s=n:=by unfold fX;rw [c];simp
  rw [this,c];exact ⟨by simp,aD,a⟩
 .obtain ⟨n,c,a,g⟩:=d s e;have:fX (cT r h m) s=n:=by unfold fX;rw [c];simp
  have f:n<(bT t r h m).k.length:=aD;rw [this,aA f,aA a,Option.getD_some,Option.getD_some];have:=(pJ (S.node n a f)).2.2.1;exact ⟨aD,g⟩
end
def o8:Pattern:=⟨⟨[],[]⟩,[],0,[]⟩
def jF:Rule:=⟨⟨#[]⟩,o8,o8,⟨[],[]⟩,⟨[],[]⟩,false,.mk 0 [] ⟨[],[]⟩ o8⟩
def mO:Stp26:=⟨jF,jQ,⟨⟨[],[]⟩,[]⟩,⟨⟨[],[]⟩,[]⟩,⟨[],[]⟩,⟨[],[]⟩⟩
def fQ (t:Types)(r:Rule)(h:Host)(m:Mat):Stp26:=if jJ t r h m=0 then aP t r h m else mO
@[go_sem] theorem Stp26.Q (s:Stp26):D.L s.c=true:=by
 simp [Stp26.c,zQ,Rule.Q,Mat.Q,Sd,D.L,rA]
def vN (a k:Nat):List Nat:=(List.range k).map (· + a)
theorem yC {a k j:Nat}:j∈vN a k↔a<=j/\j<a+k:=by
 simp only [vN,aT,aV];constructor
 .rintro ⟨i,b,rfl⟩;omega
 .rintro ⟨b,c⟩;exact ⟨j - a,aD,aD⟩
theorem Rk (a k:Nat):(vN a k).length=k:=by simp [vN]
theorem CQ (a k:Nat):(vN a k).Nodup:=by
 unfold vN;exact List.Pairwise.map (· + a) (λx y h=>by simp only [ne_eq] at h ⊢;omega) List.nodup_range
theorem X8 (k f:Nat):(0 :: 1 :: 2 :: (vN 3 k++vN (3+k) f)).Nodup:=by
 simp only [iX,aW,aZ,yC,pC];exact ⟨aD,aD,aD,CQ _ _,CQ _ _,λx b y a=>by omega⟩
theorem UG {k f j:Nat}(h:j∈0 :: 1 :: 2 :: (vN 3 k++vN (3+k) f)):j<3+k+f:=by
 simp only [aW,aZ,yC] at h;omega
theorem X7 (k:Nat):(0 :: 1 :: 2 :: vN 3 k).Nodup:=by
 simp only [iX,aW,yC];exact ⟨aD,aD,aD,CQ _ _⟩
theorem JS {k j:Nat}(h:j∈0 :: 1 :: 2 :: vN 3 k):j<3+k:=by
 simp only [aW,yC] at h;omega
theorem Tx {t:Types}{r:Rule}{h:Host}(b:r.ok)(a:fW t r h=0):RuleV t r/\HostOk t h:=by
 unfold fW at a;split at a
 .exact absurd a ic
 .rename_i h1;exact ⟨IB b (bY h1),lK a⟩
theorem VY {t:Types}{r:Rule}{h:Host}{m:Mat}(a:lC t r h m=0):o7 t r h m=0:=by
 unfold lC at a;split at a
 .exact absurd a ic
 .rename_i h1;simpa using h1
section
variable {t:Types} {r:Rule} {h:Host} {m:Mat}
theorem StepIn.ex (S:StepIn t r h m)(hh:fG t h=0):YY t h (bZ r h m)=⟨cJ h.j (bZ r h m),(bZ r h m).h.map λk=>h.k[k.toNat]?.getD []⟩:=by
 unfold YY;rw [if_pos];unfold exE;rw [if_neg aD];exact S.sub
theorem StepIn.dx (S:StepIn t r h m):(∀ x∈m.m.h,0<=x/\x<h.j.h.length)/\∀ x∈m.m.i,0<=x/\x<h.j.i.length:=by
 refine ⟨λx a=>?_,λx a=>?_⟩
 .obtain ⟨i,b,rfl⟩:=aO a;exact (S.hm.b5 i b (by have:=S.hm.len;omega)).1
 .obtain ⟨i,b,rfl⟩:=aO a;exact S.hm.dx i b
end
theorem MG {t:Types}{r:Rule}{h:Host}{m:Mat}(S:StepIn t r h m)(a:o7 t r h m=0):MatOk t r.left h m:=by
 unfold o7 at a;split at a
 .cases a
 .split at a
  .exact absurd a ic
  .rename_i h2;split at a
   .cases a
   .rename_i h3;rw [iM] at h2 h3;obtain ⟨_,_,_,d⟩:=L9 h2;rw [d] at h2 h3;obtain ⟨c,b⟩:=Cy (Zg S.hR.pl S.ho S.hm) (vs:=[]) aE aE h2;rw [h3] at c b;exact ⟨S.hm,c,b⟩
theorem P4 (t:Types)(ht:t.ok)(r:Rule)(hr:r.ok)(h:Host)(m:Mat):Pure prog 44 [t.d,r.d,h.d,m.d] (.tup [.agg (fQ t r h m).c,dI (jJ t r h m)]):=by
 refine Mu gt (fun Q hQ=>ACalls.c5 100 (aJ (cfg:=⟨fun t=>t==8||t==11||t==13||t==14||t==15||t==16||t==95||t==97,fun r=>match r with|8=>[(5,6),(5,7),(5,8),(5,9),(5,10),(0,13),(1,13),(2,13),(3,13),(4,13),(5,13),(6,13),(7,13),(8,13),(9,13),(10,13),(11,13)]|9=>[(16,17),(16,18),(16,19),(16,20),(16,21),(16,22),(16,23),(16,24),(16,25),(16,26),(16,27),(16,28),(16,29),(16,30),(16,31),(16,32),(0,35),(1,35),(2,35),(3,35),(4,35),(5,35),(6,35),(7,35),(8,35),(9,35),(10,35),(11,35),(12,35),(13,35),(14,35),(15,35),(16,35),(17,35),(18,35),(19,35),(20,35),(21,35),(22,35),(23,35),(24,35),(25,35),(26,35),(27,35),(28,35),(29,35),(30,35),(31,35),(32,35),(33,35)]|10=>[(0,3),(1,3),(3,4)]|_=>[]⟩) Tz.mixed func44 rfl rfl (aF rfl) ia ?_));have Y:=wa @Host.d.eq_1 (wa @Host.c.eq_1 (wa @Mat.d.eq_1 (wa @Mat.c.eq_1 (wa @lY (wa @oG (wa @Aj @vG))))));refine wv (h:=aB (Gf t ht r hr h) wl ?_);refine dR (fun h2=>?_) fun h2=>?_
 ·have hA:jJ t r h m=fW t r h:=by unfold jJ;rw [if_pos h2]
  have hV:fQ t r h m=mO:=by unfold fQ;rw [if_neg (by omega)]
  exact wv (h:=hQ _ _ (by simp [go_sem,hA,hV,mO,jF,o8,jQ,Stp26.c,Rule.c,Mat.c,Host.c,Cond.D,Cond.u,Cond.map,Cond.o,dLI,dI]))
 ·obtain ⟨hR,ho⟩:=Tx hr h2
  have hh0:fG t h=0:=by unfold fW at h2;split at h2;exact absurd h2 ic;exact h2
  have hA0:jJ t r h m=gM t r h m:=by unfold jJ;rw [if_neg (by omega)]
  refine wv (h:=aB (IK t ht r hR h ho m) wl ?_);refine dR (fun h5=>?_) fun h5=>?_
  ·have hA:jJ t r h m=lC t r h m:=by rw [hA0];unfold gM;rw [if_pos h5]
   have hV:fQ t r h m=mO:=by unfold fQ;rw [if_neg (by omega)]
   exact wv (h:=hQ _ _ (by simp [go_sem,hA,hV,mO,jF,o8,jQ,Stp26.c,Rule.c,Mat.c,Host.c,Cond.D,Cond.u,Cond.map,Cond.o,dLI,dI]))
  ·have hpre:=VY (show lC t r h m=0 by omega)
   have S:=NL hR ho hpre;have hP:xV t r h m=bZ r h m:=by unfold xV;rw [if_pos hpre]
   have hX:=S.ex hh0;obtain ⟨x0,hx0⟩:∃ x0:Host,x0=⟨cJ h.j (bZ r h m),(bZ r h m).h.map fun k=>h.k[k.toNat]?.getD []⟩:=⟨_,rfl⟩;rw [← hx0] at hX;obtain ⟨tr,htr⟩:∃ tr,tr=dK r h m:=⟨_,rfl⟩;have hT1:mS (bZ r h m).h h.j.h.length=tr.h:=by rw [htr];rfl
   have hT2:mS (bZ r h m).i h.j.i.length=tr.i:=by rw [htr];rfl
   have htl1:tr.h.length=h.j.h.length:=by rw [← hT1,mR]
   have htl2:tr.i.length=h.j.i.length:=by rw [← hT2,mR]
   obtain ⟨hin1,hin2⟩:=S.dx;have hK:=hR.q;have hml:=S.hm.len;have hmel:=S.hm.ci;have hal1:(qF m.m.h tr.h).length=m.m.h.length:=by simp [qF]
   have hal2:(qF m.m.i tr.i).length=m.m.i.length:=by simp [qF]
   obtain ⟨cm,hcm⟩:∃ cm,cm=cT r h m:=⟨_,rfl⟩;have hC1:ER r.q.h r.s.h (qF m.m.h tr.h) r.right.j.h.length (bZ r h m).h.length=cm.h:=by rw [hcm,htr];rfl
   have hC2:ER r.q.i r.s.i (qF m.m.i tr.i) r.right.j.i.length (bZ r h m).i.length=cm.i:=by rw [hcm,htr];rfl
   have hgl:=bK hR.pl.gg;have hgr:=bK hR.gr;have hgh:=bK ho.gg;have hdl:=S.len;have hxv:x0.k.length=(bZ r h m).h.length:=by rw [hx0];simp
   have hxn:x0.j.h.length=(bZ r h m).h.length:=by rw [hx0];unfold cJ;rw [if_pos S.sub];simp
   have hxe:x0.j.i.length=(bZ r h m).i.length:=by rw [hx0];unfold cJ;rw [if_pos S.sub];simp
   have hxr:∀ v∈x0.k,v.length≤8:=fun v hv=>by
    rw [hx0,aT] at hv;obtain ⟨k,hk,rfl⟩:=hv;have hkr:=S.cG k hk;have hvl:=ho.vl;rw [aA (show k.toNat<h.k.length by omega),Option.getD_some];exact (ho.row _ (aC _)).1
   have hcl:cm.h.length=r.right.j.h.length:=by rw [hcm];simp [cT,ER]
   have hB:j9 t r cm x0=bT t r h m:=by rw [hcm,hx0];rfl
   have hfl:r.N.length≤40:=dZ (mY _ _) hgr.1;have hMat:=MG S hpre;have hvl:=hMat.vl;have hvs:Sm m.vars:=fun v hv=>by have:=hMat.vs v hv;omega
   have Y:=wa Y (wa hP (wa @Part.d.eq_1 (wa @Part.c.eq_1 (wa hX (wa hT1 (wa hT2 (wa hC1 hC2)))))));refine wv (h:=aB (Ll t ht h (bZ r h m) (by omega) (by omega) (by omega) (by omega)) wl ?_);refine wv (h:=aH (AK m.m.h tr.h (by omega) (fun x hx=>by have:=hin1 x hx;omega)) wl ?_);refine wv (h:=aH (AK m.m.i tr.i (by omega) (fun x hx=>by have:=hin2 x hx;omega)) wl ?_);refine wp (h:=aH (Ci r.q.h r.s.h (qF m.m.h tr.h) r.right.j.h.length (bZ r h m).h.length (by omega) (fun x hx=>by have:=hK.2.1 x hx;rw [hal1];omega) (by omega) (by omega)) wl ?_);refine wp (h:=aH (Ci r.q.i r.s.i (qF m.m.i tr.i) r.right.j.i.length (bZ r h m).i.length (by omega) (fun x hx=>by have:=hK.2.2.1 x hx;rw [hal2];omega) (by omega) (by omega)) wl ?_);refine wp (h:=?_);refine LI x0 (by omega) (by omega) (by omega) (fun v hv=>by have:=hxr v hv;omega) 0 1 2 (vN 3 x0.k.length) (Rk _ _) (X7 _) eq (fun j hj=>?_) rfl ?_ (fun E hE1 hE2 hE3 hE4=>?_)
   ·have hj2:=JS hj
    refine ⟨by omega,?_⟩;simp [go_sem,lY,oG,Aj,vG];omega
   ·intro q hq hs x hx
    simp at hq;rcases hq with rfl|rfl|rfl<;>simp at hs hx
   have hno:∀ j,100≤j→j∉0 :: 1 :: 2 :: vN 3 x0.k.length:=fun j hj hm=>by have:=JS hm;omega
   have hno2:∀ j,100≤j→j∉0 :: 1 :: 2 :: (vN 3 x0.k.length++vN (3+x0.k.length) r.N.length):=fun j hj hm=>by have:=UG hm;omega
   have g100:=hE2 100 (hno _ (by omega));have g102:=hE2 102 (hno _ (by omega));have g103:=hE2 103 (hno _ (by omega));have g154:=hE2 154 (hno _ (by omega));simp [go_sem] at g100 g102 g103 g154 hE4;have hal:∀ j,j<100→E.F j→j∈0 :: 1 :: 2 :: vN 3 x0.k.length:=fun j hj hA=>by
    rcases (hE3 j).1 hA with h|h
    ·simp [go_sem,lY,oG,Aj,vG] at h;omega
    ·exact h
   have n154:∀ (a:Nat),a∈vN 3 x0.k.length→¬ a=154:=fun a hm=>by rw [yC] at hm;omega
   have Y:=wa Y (wa g100 (wa g102 (wa g103 g154)));refine wp (h:=?_);refine RE t ht r hR x0 cm hcl (by omega) 0 0 1 2 (vN 3 x0.k.length) (vN (3+x0.k.length) r.N.length) hE1 (by rw [Rk]) (X8 _ _) (by rw [hE4];omega) (fun j hj=>?_) rfl ?_ (fun F hF1 hF2 hF3 hF4=>?_)
   ·rw [yC] at hj
    refine ⟨by omega,fun hA=>?_⟩;have:=JS (hal j (by omega) hA);omega
   ·intro q hq hs x hx
    simp at hs
   rw [hB] at hF1 ⊢;rw [hE4] at hF4;have f100:=hF2 100 (hno2 _ (by omega));have f102:=hF2 102 (hno2 _ (by omega));have f103:=hF2 103 (hno2 _ (by omega));have f154:=hF2 154 (hno2 _ (by omega));rw [g100] at f100;rw [g102] at f102;rw [g103] at f103;rw [g154] at f154;have Y:=wa Y (wa f100 (wa f102 (wa f103 f154)));refine wp (h:=?_);unfold fT;refine SR t ht r hR (bT t r h m) cm (hcm ▸ S.put) m.vars hvl hvs _ 0 0 1 2 (vN 3 x0.k.length++vN (3+x0.k.length) r.N.length) (hF1.same eq (fun j hj=>by have:=UG hj;simp [go_sem,show j≠102 by omega])) _ (fun H4 e1 e2 e3=>?_) (fun H4 e1 e2 e3=>?_)
   ·have k100:=e2 100 ib (hno2 _ (by omega))
    have k102:=e2 102 ib (hno2 _ (by omega));simp [go_sem,f100] at k100 k102;have hA:jJ t r h m=sP t (bT t r h m).j cm m.vars r.right.l:=by rw [hA0];unfold gM;rw [if_neg (by omega),← hcm,if_pos e1]
    have hV:fQ t r h m=mO:=by unfold fQ;rw [if_neg (by omega)]
    simp [go_sem,seval,k100,k102];refine bB (fun hc=>?_) (fun hc=>absurd (by simpa using hc) e1);simp [go_sem,seval,k100,k102];exact hQ _ _ (by first|(left;(simp [go_sem,hA,hV,mO,jF,o8,jQ,Stp26.c,Rule.c,Mat.c,Host.c,Cond.D,Cond.u,Cond.map,Cond.o,dLI,dI]);done)|(right;(simp [go_sem,hA,hV,mO,jF,o8,jQ,Stp26.c,Rule.c,Mat.c,Host.c,Cond.D,Cond.u,Cond.map,Cond.o,dLI,dI]);done))
   have k100:=e2 100 ib (hno2 _ (by omega));have k102:=e2 102 ib (hno2 _ (by omega));have k103:=e2 103 ib (hno2 _ (by omega));have k154:=e2 154 ib (hno2 _ (by omega));simp [go_sem,f100,f102,f103,f154] at k100 k102 k103 k154;have Y:=wa Y (wa k100 (wa k102 (wa k103 k154)));refine iY (fun h14=>?_) fun h14=>?_
   ·have hA:jJ t r h m=3:=by
     rw [hA0];unfold gM;rw [if_neg (by omega),← hcm,if_neg (by omega),if_pos (by omega)]
    have hV:fQ t r h m=mO:=by unfold fQ;rw [if_neg (by omega)]
    exact wv (h:=hQ _ _ (by simp [go_sem,hA,hV,mO,jF,o8,jQ,Stp26.c,Rule.c,Mat.c,Host.c,Cond.D,Cond.u,Cond.map,Cond.o,dLI,dI]))
   ·have hA:jJ t r h m=0:=by
     rw [hA0];unfold gM;rw [if_neg (by omega),← hcm,if_neg (by omega),if_neg (by omega)]
    have hV:fQ t r h m=aP t r h m:=by unfold fQ;rw [if_pos hA]
    have hW:bP t r h m=⟨(bT t r h m).j,uU cm m.vars r.right.l (bT t r h m).k⟩:=by rw [hcm];rfl
    exact wv (h:=hQ _ _ (by simp [go_sem,hA,hV,aP,Stp26.c,Mat.c,Host.c,hW,← htr,← hcm]))
theorem vJ (a b:V2):Part.le ⟨a,b⟩↔a.length<=1000000000000000/\b.length<=1000000000000000:=⟨λh=>⟨h.1,h.2⟩,λh=>⟨h.1,h.2⟩⟩
theorem ZL (t:Types)(p:Pattern)(b:p.j.h.length<=1000)(a:p.j.i.length<=1000)(x:B4):(Fz t p x).le:=by
 unfold Fz;split
 .simp [forbC,trueC,Cond.le,Cond.db,g9,vJ];omega
 .split
  .split
   .simp [trueC,Cond.le,Cond.db,vJ]
   .simp [forbC,trueC,Cond.le,Cond.db,g9,vJ];omega
  .simp [trueC,Cond.le,Cond.db,vJ]
theorem Mh (t:Types)(d:Dr24):(Fb t d).le:=by
 have a:=ML t d.left;have b:=MJ (lI t d.left).j d.q;have c:=Ej (lI t d.left).j (Cq (lI t d.left).j d.q);refine ⟨⟨?_,?_⟩,⟨?_,?_⟩,?_⟩
 .show (Cq (lI t d.left).j d.q).h.length<=_;omega
 .show (Cq (lI t d.left).j d.q).i.length<=_;omega
 .show (List.take _ _).length<=_;rw [cX];unfold Re A4;omega
 .show (List.take _ _).length<=_;rw [cX];unfold Re A4;omega
 .exact ZL t _ aD aD d.b1
theorem MK (t:Types)(d:Dr24):(Fo t d).le:=by
 unfold Fo;split
 .have h:=Mh t d;exact ⟨h.1,h.2,by simp [plain24,trueC,Cond.le,Cond.db,vJ]⟩
 .exact Mh t d
end Go.Abs
end
