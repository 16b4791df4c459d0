/- The step of the program: build. · The step of the program: w -/
import Derived.Test.YtpdanmkcpjdmjaaGreatZkAF
import Derived.Test.YtpdanmkcpjdmjaaGreatZkAA
import Derived.Test.YtpdanmkcpjdmjaaGreatZkAU
set_option linter.unusedVariables false
set_option linter.unusedSimpArgs false
section
set_option maxRecDepth 100000
set_option maxHeartbeats 4000000
open Go Go.Proofs Tryz
namespace Go.Abs
theorem Hk (t:Types)(o:t.ok)(k:Int):Own prog 170 [t.d,dI k] 3 1 ((mM t k).map cI):=by
 have p:=rG o k;refine Tz.oK ⟨λt=>t==9||t==16,λ_=>[]⟩ func170 rfl (λQ q=>?_);have Y:=trivial;refine wv (h:=aB (oT t o k) wl ?_);refine wo (h:=aY (λi e H=>∃ b:W3,(e 2=.adr t.c/\e 17=.list ((bI t k).map Attr.c)/\e 18=dI (bI t k).length/\e 19=dI i/\e 7=.own 0 b.length)/\(H.get 0=some ⟨3,1,b.map cI,false⟩)/\(0<H.next)/\(i<=(bI t k).length)/\(b=((bI t k).take i).map (λa=>a.aw))) (λi=>(bI t k).length - i) 0 ⟨([]),wg,wn,wn,wi,(by rfl)⟩ λu n i e H m=>?_);obtain ⟨b,r,g,f,s,l⟩:=m;have Y:=xa2 Y r g (bL f);refine dK (λj=>?_) λj=>?_
 .have hxl:b.length=i:=by rw [l];simp;omega
  have Y:=xa2 Y j (aA j) @Attr.c.eq_1;exact wo (h:=wx n (i+1) ⟨(b++[(bI t k)[i].aw]),wg,wn,wn,wj,(by rw [lA _ j,<- l])⟩)
 .have hX:b=mM t k:=by rw [l,mD _ aD];rfl
  refine wv (h:=?_);exact q _ _ _ (by simp [go_sem,Y,hX,dLI]) (by simp [go_sem,Y,hX,dLI])
theorem HH.bE {H H':AHeap}{lo a b V:Nat}{qs:List Nat}{x:Host}(h:HH H lo a b V qs x)(hn:H.next<=H'.next){q:Nat}{nd:Int}{v:W3}(hlo:lo<=q)(hq:∀ j∈a :: b :: V :: qs,j≠q)(hq2:q<H'.next)
  (ga:H'.get a=some ⟨3,1,(x.j.h++[nd]).map cI,false⟩) (gq:H'.get q=some ⟨3,1,v.map cI,false⟩) (gV:H'.get V=some ⟨48,1,lL qs x.k++[[.own q v.length]],false⟩) (hf:∀ j∈b :: qs,H'.get j=H.get j) :
  HH H' lo a b V (qs++[q]) ⟨⟨x.j.h++[nd],x.j.i⟩,x.k++[v]⟩ where
 ga:=ga
 gb:=(hf b dB).trans h.gb
 gV:=by rw [yF h.len];exact gV
 len:=by simp [h.len]
 gq i q' v' h1 h2:=by
  by_cases hi:i<qs.length
  .rw [aR hi] at h1;rw [aR (by rw [<- h.len];exact hi)] at h2;exact (hf q' (by simp [aL h1])).trans (h.gq i q' v' h1 h2)
  .have h1':=(aP.1 h1).1;have:i=qs.length:=by simp at h1';omega
   subst this;simp at h1;rw [h.len] at h2;simp at h2;subst h1 h2;exact gq
 nd:=by
  have:=h.nd;have e:a :: b :: V :: (qs++[q])=(a :: b :: V :: qs)++[q]:=rfl;rw [e,n9];exact ⟨this,by simp,λy hy z hz=>by rw [bG] at hz;subst hz;exact hq y hy⟩
 W j hj:=by
  have e:a :: b :: V :: (qs++[q])=(a :: b :: V :: qs)++[q]:=rfl;rw [e,aX,bG] at hj;rcases hj with hj|rfl
  .exact ⟨(h.W j hj).1,cO (h.W j hj).2 hn⟩
  .exact ⟨hlo,hq2⟩
def stpC (r:Rule)(m:Mat)(h:Host)(A B C:D)(tr co:Part):UN:=[.str r.name,dLI r.left.j.h,.list (r.left.j.i.map Edge.c),.list (r.left.l.map Slot.c),dI r.left.vars,.list (r.left.G.map Test.c),
 dLI r.right.j.h,.list (r.right.j.i.map Edge.c),.list (r.right.l.map Slot.c),dI r.right.vars,.list (r.right.G.map Test.c),
 dLI r.q.h,dLI r.q.i,dLI r.u.h,dLI r.u.i,.bool r.inj,
 dI r.cond.E,.list (r.cond.s.map Cond.c),dLI r.cond.map.h,dLI r.cond.map.i,dLI r.cond.o.j.h,.list (r.cond.o.j.i.map Edge.c),.list (r.cond.o.l.map Slot.c),dI r.cond.o.vars,.list (r.cond.o.G.map Test.c),
 dLI m.m.h,dLI m.m.i,dLI m.vars,dLI h.j.h,.list (h.j.i.map Edge.c),.list (h.k.map cL),A,B,C,dLI tr.h,dLI tr.i,dLI co.h,dLI co.i]
def trE (h:Host)(tr:Part)(k:Int):Edge:=⟨(eA h.j k).type,iA tr.h (eA h.j k).w,iA tr.h (eA h.j k).M⟩
def Z8 (h:Host)(d:Part)(i:Nat):Host:=⟨⟨(d.h.take i).map (gN h.j),[]⟩,(d.h.take i).map λk=>h.k[k.toNat]?.getD []⟩
def bdE (h:Host)(d tr:Part)(i:Nat):Host:=⟨⟨d.h.map (gN h.j),(d.i.take i).map (trE h tr)⟩,d.h.map λk=>h.k[k.toNat]?.getD []⟩
theorem Wn (h:Host)(d a:Part){i:Nat}(b:d.h.length<=i):bdE h d a 0=Z8 h d i:=by unfold bdE Z8;rw [aG b];rfl
theorem QF (t:Types)(ht:t.ok)(r:Rule)(hR:RuleV t r)(m:Mat)(h:Host)(ho:HostOk t h)(d o u:Part)(e8:∀ x∈d.h,0<=x/\x<h.j.h.length)(e9:∀ x∈d.i,0<=x/\x<h.j.i.length)
  (h8:d.h.length<=40/\d.i.length<=80) (g6:o.h.length=h.j.h.length) (i0:u.h.length=r.right.j.h.length/\u.i.length=r.right.j.i.length)
  (f0:∀ i,i<r.right.j.h.length->(u.h[i]?.getD 0=((d.h.length+(bP r.u.h i).length:Nat):Int)↔mem r.u.h i=false))
  (f1:∀ i,i<r.right.j.i.length->(u.i[i]?.getD 0=((d.i.length+(bP r.u.i i).length:Nat):Int)↔mem r.u.i i=false))
  (s a b V:Nat) (G:AHeap) (hs:G.get s=some ⟨70,38,[stpC r m h (.own a 0) (.own b 0) (.own V 0) o u],false⟩) (I:HH G 0 a b V [] ⟨⟨[],[]⟩,[]⟩) (g7:s<G.next) (e0:s≠a/\s≠b/\s≠V) (c6:∀ j,G.next<=j->¬ G.F j) (Q:D->AHeap->Prop)
  (hQ:∀ qs H',HH H' 0 a b V qs (jS t r u (bdE h d o d.i.length))->H'.get s=some ⟨70,38,[stpC r m h (.own a (jS t r u (bdE h d o d.i.length)).j.h.length) (.own b (jS t r u (bdE h d o d.i.length)).j.i.length) (.own V (jS t r u (bdE h d o d.i.length)).k.length) o u],false⟩ ->
   (∀ j∈a :: b :: V :: qs,j≠s)->(∀ j∈qs,G.next<=j)->(∀ j,j<G.next->j∉[s,a,b,V]->H'.get j=G.get j)->G.next<=H'.next->Q (.tup []) H') :
  ACalls prog 112 [t.d,.ptr s 1 0 0,d.d] G Q:=by
 have h7:=bR hR.gr;have e7:=dP hR.gr;have h6:=bR ho.gg;have e5:=dP ho.gg;have g5:=ho.vl;have i3:=I.W a I.aO;have i1:=I.W b I.aN;have i4:=I.W V I.aV;have i2:=I.ab;obtain ⟨h1,h0,g8⟩:=e0;refine (Tz.cK ⟨λt=>t==6||t==7||t==12||t==16||t==59||t==166||t==1000001,λr=>match r with|1=>[(1,10),(2,10),(3,10),(5,10),(6,10),(7,10),(8,10),(9,10),(1,11),(2,11),(3,11),(5,11),(6,11),(7,11),(8,11),(9,11),(10,11),(5,12),(6,12),(7,12),(8,12),(9,12)]|5=>[(2,13),(3,13),(4,13),(5,13),(6,13)]|6=>[(2,6),(3,6),(4,6),(5,6),(6,7),(6,8),(6,10),(6,11),(2,12),(3,12),(4,12),(5,12),(2,13),(3,13),(4,13),(5,13)]|12=>[(2,28),(3,28),(4,28),(5,28),(6,28)]|19=>[(2,8),(3,8),(4,8),(5,8),(2,9),(3,9),(4,9),(5,9)]|25=>[(2,28),(3,28),(4,28),(5,28),(6,28)]|_=>[]⟩ func112 rfl ?_);have g3:=xa4 (cY (aD:V≠b)) (cY (aD:V≠a)) (cY (aD:V≠s)) (cY (aD:b≠a)) (cY (aD:b≠s)) (cY (aD:a≠s));have f9:=xa2 (bL (aD:s<G.next)) (bL (aD:a<G.next)) (bL (aD:b<G.next)) (bL (aD:V<G.next));have Y:=xa6 hs @stpC.eq_1 @Part.d.eq_1 @Part.c.eq_1 @Host.c.eq_1 @Graph.c.eq_1 g3 f9;refine wp (h:=aY (λi e H=>∃ X:Nat,∃ w:Nat,∃ x:Host,∃ qs:List Nat,(e 1=.ptr s 1 0 0/\e 3=.adr t.c/\e 5=.adr d.c/\e 6=.ptr X 1 0 0/\e 7=.ptr w 1 0 0/\e 28=dLI d.h/\e 29=dI d.h.length/\e 30=dI i)/\(H.get X=some ⟨68,3,[h.c],false⟩)/\(X<H.next)/\(H.get w=some ⟨51,2,[r.right.j.c],false⟩)/\(w<H.next)/\(H.get s=some ⟨70,38,[stpC r m h (.own a x.j.h.length) (.own b x.j.i.length) (.own V x.k.length) o u],false⟩)/\(s<H.next)/\(i<=d.h.length)/\(HH H 0 a b V qs x)/\(x=Z8 h d i)/\(∀ j∈a :: b :: V :: qs,j≠s)/\(∀ j∈qs,G.next<=j)/\(∀ j,H.next<=j->¬ H.F j)/\(∀ j,j<G.next->j∉[s,a,b,V]->H.get j=G.get j)/\(G.next<=H.next)/\(G.next<=X/\X<w)) (λi=>d.h.length - i) 0 ⟨(G.next+10),(G.next+11),(⟨⟨[],[]⟩,[]⟩),([]),wg,wn,wn,wn,wn,wn,wn,wi,(by exact I.same (by first|(simp [go_sem];done)|(simp [go_sem];omega)) (λj hj=>by have:=(I.W j hj).2;simp [go_sem,bL this])),(by rfl),(by intro j hj;simp at hj;omega),(by intro j hj;cases hj),(by intro j hj;simp [go_sem,qE,uL,L0] at hj ⊢;exact ⟨aD,aD,c6 j aD⟩),(by intro j hj A;simp [go_sem,bL hj]),(by first|(simp [go_sem];done)|(simp [go_sem];omega)),aD⟩ λI0 f4 i e H e4=>?_);obtain ⟨X,w,x,qs,E0,gX_0,nX_0,gYb_0,nYb_0,d2,c2,hi,f,J,E,R,q,P,N,f2⟩:=e4;have g2:=xa2 (cY (aD:w≠X)) (cY (aD:w≠V)) (cY (aD:w≠b)) (xb0 (cY (aD:w≠a)) (cY (aD:w≠s)) (cY (aD:X≠V)) (cY (aD:X≠b)) (cY (aD:X≠a)) (cY (aD:X≠s)) (cY (aD:V≠b)) (cY (aD:V≠a)) (cY (aD:V≠s)) (cY (aD:b≠a)) (cY (aD:b≠s)) (cY (aD:a≠s)));have Y:=xa7 Y E0 gX_0 (bL nX_0) gYb_0 (bL nYb_0) d2 (bL c2) g2;refine dK (λh3=>?_) λh3=>?_
 .obtain ⟨k,hk⟩:∃ y,y=d.h[i]:=⟨_,rfl⟩;have b5:=e8 _ (aC h3);rw [<- hk] at b5;have S:k.toNat<h.j.h.length:=aD;have b4:k.toNat<h.k.length:=aD;obtain ⟨n,g⟩:∃ y:Host,y=⟨⟨x.j.h++[h.j.h[k.toNat]],x.j.i⟩,x.k++[h.k[k.toNat]]⟩:=⟨_,rfl⟩;have B:n=Z8 h d (i+1):=by rw [g,J];unfold Z8;rw [aE h3,<- hk];simp [gN,aA S,aA b4]
  have g4:(h.k[k.toNat]).length<=1000:=by
   have:=(ho.row _ (aC b4)).1;omega
  have M:x.j.h.length=i/\x.j.i.length=0/\x.k.length=i:=by rw [J];simp [Z8];omega
  have C:n.j.h.length=x.j.h.length+1/\n.j.i.length=x.j.i.length/\n.k.length=x.k.length+1:=by rw [g];simp
  have a5:=f.ga;have a6:=f.gV;have b0:=jJ f.len;have b1:=f.W a f.aO;have b2:=f.W V f.aV;have a2:=f.W b f.aN;have a8:∀ j∈a :: b :: V :: qs,j≠H.next+20+6:=λj hj=>by have:=(f.W j hj).2;omega
  have p:∀ j∈b :: qs,j≠a/\j≠s/\j≠V/\j<H.next:=λj hj=>by
   rcases aV.1 hj with rfl|hj
   .exact ⟨aD,aD,aD,a2.2⟩
   .exact ⟨(f.qn hj).1,E j (f.aI hj),(f.qn hj).2.2,(f.W j (f.aI hj)).2⟩
  have K:∀ j∈a :: b :: V :: (qs++[H.next+20+6]),j≠s:=λj hj=>by
   have e:a :: b :: V :: (qs++[H.next+20+6])=(a :: b :: V :: qs)++[H.next+20+6]:=rfl;rw [e,aX,bG] at hj;rcases hj with hj|rfl
   .exact E j hj
   .omega
  have L:∀ j∈qs++[H.next+20+6],G.next<=j:=λj hj=>by
   rw [aX,bG] at hj;rcases hj with hj|rfl
   .exact R j hj
   .omega
  have f8:=xa2 (bL (aD:s<H.next)) (bL (aD:a<H.next)) (bL (aD:b<H.next)) (bL (aD:V<H.next));have Y:=xb0 Y h3 (aA h3) (Eq.symm hk) (aA S) (aA b4) a5 a6 b0 C @cL.eq_1 f8;exact wp (h:=wx f4 (i+1) ⟨X,w,n,(qs++[H.next+20+6]),wg,wn,wn,wn,wn,wn,wn,wj,(by rw [g];exact f.bE (by first|(simp [go_sem];done)|(simp [go_sem];omega)) (eB _) a8 (by first|(simp [go_sem];done)|(simp [go_sem];omega)) (by simp [go_sem,Y,cI]) (by simp [go_sem,Y]) (by simp [go_sem,Y]) (λj hj=>by obtain ⟨k1,k2,Z,k4⟩:=p j hj;simp [go_sem,k1,k2,Z,bL k4])),(by exact B),(by exact K),(by exact L),(by intro j hj;simp [go_sem,qE,uL] at hj ⊢;exact ⟨aD,q j aD⟩),(by intro j hj A;simp only [aV,fJ,or_false,not_or] at A;simp [go_sem,A,bL (aD:j<H.next)];exact P j hj (by simp [A])),(by first|(simp [go_sem];done)|(simp [go_sem];omega)),(by exact f2)⟩)
 .have hx4:x=bdE h d o 0:=by rw [J,Wn _ _ _ aD]
  have f7:=xa2 (bL (aD:s<H.next)) (bL (aD:a<H.next)) (bL (aD:b<H.next)) (bL (aD:V<H.next));have Y:=wa Y f7;refine wp (h:=aY (λi e H=>∃ x:Host,(e 1=.ptr s 1 0 0/\e 3=.adr t.c/\e 5=.adr d.c/\e 6=.ptr X 1 0 0/\e 7=.ptr w 1 0 0/\e 73=dLI d.i/\e 74=dI d.i.length/\e 75=dI i)/\(H.get X=some ⟨68,3,[h.c],false⟩)/\(X<H.next)/\(H.get w=some ⟨51,2,[r.right.j.c],false⟩)/\(w<H.next)/\(H.get s=some ⟨70,38,[stpC r m h (.own a x.j.h.length) (.own b x.j.i.length) (.own V x.k.length) o u],false⟩)/\(s<H.next)/\(i<=d.i.length)/\(HH H 0 a b V qs x)/\(x=bdE h d o i)/\(∀ j,H.next<=j->¬ H.F j)/\(∀ j,j<G.next->j∉[s,a,b,V]->H.get j=G.get j)/\(G.next<=H.next)) (λi=>d.i.length - i) 0 ⟨x,wg,wn,wn,wn,wn,wn,wn,wi,(by exact f),(by exact hx4),(by exact q),(by exact P),(by exact N)⟩ λI2 f3 i e H e3=>?_);obtain ⟨x,E2,gX_2,nX_2,gYb_2,nYb_2,d1,c1,hi,f,J,q,P,N⟩:=e3;have g1:=xa2 (cY (aD:w≠X)) (cY (aD:w≠V)) (cY (aD:w≠b)) (xb0 (cY (aD:w≠a)) (cY (aD:w≠s)) (cY (aD:X≠V)) (cY (aD:X≠b)) (cY (aD:X≠a)) (cY (aD:X≠s)) (cY (aD:V≠b)) (cY (aD:V≠a)) (cY (aD:V≠s)) (cY (aD:b≠a)) (cY (aD:b≠s)) (cY (aD:a≠s)));have Y:=xa7 Y E2 gX_2 (bL nX_2) gYb_2 (bL nYb_2) d1 (bL c1) g1;refine dK (λh9=>?_) λh9=>?_
  .obtain ⟨k,hk⟩:∃ y,y=d.i[i]:=⟨_,rfl⟩;have b5:=e9 _ (aC h9);rw [<- hk] at b5;have S:k.toNat<h.j.i.length:=aD;obtain ⟨y,hy⟩:=fD (h.j.i[k.toNat]);have a9:=(e5.2 _ (aC S)).2;rw [<- hy] at a9;have a1:y.w.toNat<o.h.length:=aD;have a0:y.M.toNat<o.h.length:=aD;have d7:eA h.j k=y:=by rw [hy];simp [eA,aA S]
   have d9:trE h o k=⟨y.type,o.h[y.w.toNat],o.h[y.M.toNat]⟩:=by unfold trE;rw [d7];simp [iA,aA a1,aA a0]
   obtain ⟨n,g⟩:∃ z:Host,z=⟨⟨x.j.h,x.j.i++[trE h o k]⟩,x.k⟩:=⟨_,rfl⟩;have B:n=bdE h d o (i+1):=by rw [g,J];unfold bdE;rw [aE h9,<- hk];simp
   have M:x.j.i.length=i:=by rw [J];simp [bdE];omega
   have C:n.j.h.length=x.j.h.length/\n.j.i.length=x.j.i.length+1/\n.k.length=x.k.length:=by rw [g];simp
   have a4:=f.gb;have b1:=f.W a f.aO;have b2:=f.W V f.aV;have a2:=f.W b f.aN;have p:∀ j∈a :: V :: qs,j≠b/\j≠s/\j<H.next:=λj hj=>by
    have a3:j∈a :: b :: V :: qs:=by simp only [aV] at hj ⊢;rcases hj with h|h|h<;>simp [h]
    refine ⟨?_,E j a3,(f.W j a3).2⟩;rintro rfl;have:=f.nd;simp only [g9,aV,not_or] at this;simp only [aV] at hj;rcases hj with h|h|h
    .exact this.1.1 h.symm
    .exact this.2.1.1 h
    .exact this.2.1.2 h
   have f6:=xa2 (bL (aD:s<H.next)) (bL (aD:a<H.next)) (bL (aD:b<H.next)) (bL (aD:V<H.next));have Y:=xb0 Y h9 (aA h9) (Eq.symm hk) (aA S) (Eq.symm hy) (aA a1) (aA a0) a4 C @Edge.c.eq_1 f6;exact wp (h:=wx f3 (i+1) ⟨n,wg,wn,wn,wn,wn,wn,wn,wj,(by rw [g];exact f.i (by first|(simp [go_sem];done)|(simp [go_sem];omega)) (by simp [go_sem,Y,d9,Edge.c]) (λj hj=>by obtain ⟨k1,k2,Z⟩:=p j hj;simp [go_sem,k1,k2,bL Z])),(by exact B),(by intro j hj;simp [go_sem,qE,uL] at hj ⊢;first|exact ⟨aD,q j aD⟩|exact q j aD|exact ⟨aD,aD,q j aD⟩),(by intro j hj A;simp only [aV,fJ,or_false,not_or] at A;simp [go_sem,A,bL (aD:j<H.next)];exact P j hj (by simp [A])),(by first|(simp [go_sem];done)|(simp [go_sem];omega))⟩)
  .have hx5:x=GW t r (bdE h d o d.i.length) 0:=by rw [J,(aD:i=d.i.length)];simp [GW,bP]
   have f5:=xa2 (bL (aD:s<H.next)) (bL (aD:a<H.next)) (bL (aD:b<H.next)) (bL (aD:V<H.next));have Y:=wa Y f5;refine wp (h:=aY (λi e H=>∃ x:Host,∃ qs:List Nat,(e 1=.ptr s 1 0 0/\e 3=.adr t.c/\e 5=.adr d.c/\e 7=.ptr w 1 0 0/\e 121=dLI r.right.j.h/\e 122=dI r.right.j.h.length/\e 123=dI i)/\(H.get w=some ⟨51,2,[r.right.j.c],false⟩)/\(w<H.next)/\(H.get s=some ⟨70,38,[stpC r m h (.own a x.j.h.length) (.own b x.j.i.length) (.own V x.k.length) o u],false⟩)/\(s<H.next)/\(i<=r.right.j.h.length)/\(HH H 0 a b V qs x)/\(x=GW t r (bdE h d o d.i.length) i)/\(∀ j∈a :: b :: V :: qs,j≠s)/\(∀ j∈qs,G.next<=j)/\(∀ j,H.next<=j->¬ H.F j)/\(∀ j,j<G.next->j∉[s,a,b,V]->H.get j=G.get j)/\(G.next<=H.next)) (λi=>r.right.j.h.length - i) 0 ⟨x,qs,wg,wn,wn,wn,wn,wi,(by exact f),(by exact hx5),(by exact E),(by exact R),(by exact q),(by exact P),(by exact N)⟩ λI4 c8 i e H e2=>?_);obtain ⟨x,qs,E4,gYb_4,nYb_4,d0,c0,hi,f,J,E,R,q,P,N⟩:=e2;have g0:=xa8 (cY (aD:w≠V)) (cY (aD:w≠b)) (cY (aD:w≠a)) (cY (aD:w≠s)) (cY (aD:V≠b)) (cY (aD:V≠a)) (cY (aD:V≠s)) (cY (aD:b≠a)) (cY (aD:b≠s)) (cY (aD:a≠s));have Y:=xa5 Y E4 gYb_4 (bL nYb_4) d0 (bL c0) g0;refine dK (λW=>?_) λW=>?_
   .have hsu:=pW r.u.h i;obtain ⟨nd,c4⟩:∃ y,y=r.right.j.h[i]:=⟨_,rfl⟩;have e6:gN r.right.j (i:Int)=nd:=by rw [c4];simp [gN,aA W]
    have h2:=l9 r.u.h i;have T:i<u.h.length:=aD;have O:=f0 i W;rw [aA T,Option.getD_some] at O;have M:x.j.h.length=d.h.length+(bP r.u.h i).length/\x.k.length=x.j.h.length/\x.j.i.length<=100:=by rw [J];simp [GW,bdE];omega
    have a5:=f.ga;have a6:=f.gV;have b0:=jJ f.len;have b1:=f.W a f.aO;have b2:=f.W V f.aV;have a2:=f.W b f.aN;have d5:=xa2 (bL (aD:s<H.next)) (bL (aD:a<H.next)) (bL (aD:b<H.next)) (bL (aD:V<H.next));have Y:=xa7 Y W (aA W) (Eq.symm c4) (aA T) a5 a6 b0 d5;refine i7 (λb7=>?_) λb7=>?_
    .have hm:mem r.u.h i=false:=O.1 (by simpa [M.1] using b7);rw [if_neg (by rw [hm];simp)] at hsu;have h5:(mM t nd).length<=8:=by unfold mM;rw [aT];exact rH hR.vf nd
     obtain ⟨n,g⟩:∃ y:Host,y=⟨⟨x.j.h++[nd],x.j.i⟩,x.k++[mM t nd]⟩:=⟨_,rfl⟩;obtain ⟨F,v⟩:∃ y,y=qs++[H.next]:=⟨_,rfl⟩;have B:n=GW t r (bdE h d o d.i.length) (i+1):=by rw [g,J];unfold GW;rw [hsu];simp [e6]
     have C:n.j.h.length=x.j.h.length+1/\n.j.i.length=x.j.i.length/\n.k.length=x.k.length+1:=by rw [g];simp
     have a8:∀ j∈a :: b :: V :: qs,j≠H.next:=λj hj=>by have:=(f.W j hj).2;omega
     have p:∀ j∈b :: qs,j≠a/\j≠s/\j≠V/\j<H.next:=λj hj=>by
      rcases aV.1 hj with rfl|hj
      .exact ⟨aD,aD,aD,a2.2⟩
      .exact ⟨(f.qn hj).1,E j (f.aI hj),(f.qn hj).2.2,(f.W j (f.aI hj)).2⟩
     have K:∀ j∈a :: b :: V :: F,j≠s:=λj hj=>by
      have e:a :: b :: V :: F=(a :: b :: V :: qs)++[H.next]:=by rw [v];rfl
      rw [e,aX,bG] at hj;rcases hj with hj|rfl
      .exact E j hj
      .omega
     have L:∀ j∈F,G.next<=j:=λj hj=>by
      rw [v,aX,bG] at hj;rcases hj with hj|rfl
      .exact R j hj
      .omega
     have Y:=xa2 Y (aA W) (aA T) C;refine wp (h:=?_);refine FU H.next (Hk t ht nd) (by first|rfl|(simp [go_sem];done)) rfl (by first|omega|(simp [go_sem];done)|(first|(simp [go_sem];done)|(simp [go_sem];omega))) (by simp [qE,uL];exact q _ aD) (by first|trivial|(simp [go_sem];done)|(simp [go_sem,chk];done)|(simp [go_sem,chk];omega)) ?_;exact wp (h:=wx c8 (i+1) ⟨n,F,wg,wn,wn,wn,wn,wj,(by first|exact l|exact l.same (by first|(simp [go_sem];done)|(simp [go_sem];omega)) (λ_ _=>rfl)|exact l.same (by first|(simp [go_sem];done)|(simp [go_sem];omega)) (λj hj=>by have:=(l.W j hj).2;simp [go_sem,bL this])|(rw [g,v];exact f.bE (by first|(simp [go_sem];done)|(simp [go_sem];omega)) (eB _) a8 (by first|(simp [go_sem];done)|(simp [go_sem];omega)) (by simp [go_sem,Y,cI]) (by simp [go_sem,Y]) (by simp [go_sem,Y]) (λj hj=>by obtain ⟨k1,k2,Z,k4⟩:=p j hj;simp [go_sem,k1,k2,Z,bL k4]))),(by exact B),(by exact K),(by exact L),(by intro j hj;simp [go_sem,qE,uL] at hj ⊢;first|exact ⟨aD,q j aD⟩|exact q j aD),(by first|exact a7|(intro j hj A;simp only [aV,fJ,or_false,not_or] at A;simp [go_sem,A,bL (aD:j<H.next)];exact P j hj (by simp [A]))),(by first|(simp [go_sem];done)|(simp [go_sem];omega))⟩)
    .have hm:mem r.u.h i=true:=by
      cases b3:mem r.u.h i with
      | true=>rfl
      | false=>exact absurd (by simpa [M.1] using O.2 b3) b7
     rw [if_pos hm,dS] at hsu;obtain ⟨n,g⟩:∃ y,y=x:=⟨_,rfl⟩;obtain ⟨F,v⟩:∃ y,y=qs:=⟨_,rfl⟩;have B:n=GW t r (bdE h d o d.i.length) (i+1):=by rw [g,J];unfold GW;rw [hsu]
     have l:HH H 0 a b V F n:=by rw [g,v];exact f
     have K:∀ j∈a :: b :: V :: F,j≠s:=by rw [v];exact E
     have L:∀ j∈F,G.next<=j:=by rw [v];exact R
     have a7:=P;have Y:=wa Y g;exact wp (h:=wx c8 (i+1) ⟨n,F,wg,wn,wn,wn,wn,wj,(by first|exact l|exact l.same (by first|(simp [go_sem];done)|(simp [go_sem];omega)) (λ_ _=>rfl)|exact l.same (by first|(simp [go_sem];done)|(simp [go_sem];omega)) (λj hj=>by have:=(l.W j hj).2;simp [go_sem,bL this])|(rw [g,v];exact f.bE (by first|(simp [go_sem];done)|(simp [go_sem];omega)) (eB _) a8 (by first|(simp [go_sem];done)|(simp [go_sem];omega)) (by simp [go_sem,Y,cI]) (by simp [go_sem,Y]) (by simp [go_sem,Y]) (λj hj=>by obtain ⟨k1,k2,Z,k4⟩:=p j hj;simp [go_sem,k1,k2,Z,bL k4]))),(by exact B),(by exact K),(by exact L),(by intro j hj;simp [go_sem,qE,uL] at hj ⊢;first|exact ⟨aD,q j aD⟩|exact q j aD),(by first|exact a7|(intro j hj A;simp only [aV,fJ,or_false,not_or] at A;simp [go_sem,A,bL (aD:j<H.next)];exact P j hj (by simp [A]))),(by first|(simp [go_sem];done)|(simp [go_sem];omega))⟩)
   .have hie:i=r.right.j.h.length:=aD;have d8:x=Rx t r u (GW t r (bdE h d o d.i.length) r.right.j.h.length) 0:=by rw [J,hie];simp [Rx,bP]
    have d4:=xa2 (bL (aD:s<H.next)) (bL (aD:a<H.next)) (bL (aD:b<H.next)) (bL (aD:V<H.next));have Y:=wa Y d4;refine wp (h:=aY (λi e H=>∃ x:Host,(e 1=.ptr s 1 0 0/\e 3=.adr t.c/\e 5=.adr d.c/\e 174=.list (r.right.j.i.map Edge.c)/\e 175=dI r.right.j.i.length/\e 176=dI i)/\(H.get s=some ⟨70,38,[stpC r m h (.own a x.j.h.length) (.own b x.j.i.length) (.own V x.k.length) o u],false⟩)/\(s<H.next)/\(i<=r.right.j.i.length)/\(HH H 0 a b V qs x)/\(x=Rx t r u (GW t r (bdE h d o d.i.length) r.right.j.h.length) i)/\(∀ j,j<G.next->j∉[s,a,b,V]->H.get j=G.get j)/\(G.next<=H.next)) (λi=>r.right.j.i.length - i) 0 ⟨x,wg,wn,wn,wi,(by exact f),(by exact d8),(by exact P),(by exact N)⟩ λI6 c7 i e H e1=>?_);obtain ⟨x,E6,c9,b9,hi,f,J,P,N⟩:=e1;have d6:=xa4 (cY (aD:V≠b)) (cY (aD:V≠a)) (cY (aD:V≠s)) (cY (aD:b≠a)) (cY (aD:b≠s)) (cY (aD:a≠s));have Y:=xa3 Y E6 c9 (bL b9) d6;refine dK (λU=>?_) λU=>?_
    .have hsu:=pW r.u.i i;obtain ⟨y,hy⟩:=fD (r.right.j.i[i]);have c3:r.right.j.i[i]?.getD b8=y:=by rw [hy,aA U];rfl
     have a9:=(e7.2 _ (aC U)).2;rw [<- hy] at a9;have a1:y.w.toNat<u.h.length:=aD;have a0:y.M.toNat<u.h.length:=aD;have h4:=l9 r.u.i i;have T:i<u.i.length:=aD;have O:=f1 i U;rw [aA T,Option.getD_some] at O;have M:x.j.i.length=d.i.length+(bP r.u.i i).length:=by rw [J];simp [Rx,GW,bdE]
     have a4:=f.gb;have a2:=f.W b f.aN;have b1:=f.W a f.aO;have b2:=f.W V f.aV;have d3:=xa2 (bL (aD:s<H.next)) (bL (aD:a<H.next)) (bL (aD:b<H.next)) (bL (aD:V<H.next));have Y:=xa8 Y U (aA U) (Eq.symm hy) (aA a1) (aA a0) (aA T) a4 @Edge.c.eq_1 d3;refine i7 (λb6=>?_) λb6=>?_
     .have hm:mem r.u.i i=false:=O.1 (by simpa [M] using b6);rw [if_neg (by rw [hm];simp)] at hsu;have c5:freshE u y=⟨y.type,u.h[y.w.toNat],u.h[y.M.toNat]⟩:=by unfold freshE;rw [aA a1,aA a0];rfl
      obtain ⟨n,g⟩:∃ z:Host,z=⟨⟨x.j.h,x.j.i++[freshE u y]⟩,x.k⟩:=⟨_,rfl⟩;have B:n=Rx t r u (GW t r (bdE h d o d.i.length) r.right.j.h.length) (i+1):=by rw [g,J];unfold Rx;rw [hsu];simp [c3]
      have C:n.j.h.length=x.j.h.length/\n.j.i.length=x.j.i.length+1/\n.k.length=x.k.length:=by rw [g];simp
      have p:∀ j∈a :: V :: qs,j≠b/\j≠s/\j<H.next:=λj hj=>by
       have a3:j∈a :: b :: V :: qs:=by simp only [aV] at hj ⊢;rcases hj with h|h|h<;>simp [h]
       refine ⟨?_,E j a3,(f.W j a3).2⟩;rintro rfl;have:=f.nd;simp only [g9,aV,not_or] at this;simp only [aV] at hj;rcases hj with h|h|h
       .exact this.1.1 h.symm
       .exact this.2.1.1 h
       .exact this.2.1.2 h
      have Y:=wa Y C;exact wp (h:=wx c7 (i+1) ⟨n,wg,wn,wn,wj,(by first|exact l|exact l.same (by first|(simp [go_sem];done)|(simp [go_sem];omega)) (λ_ _=>rfl)|exact l.same (by first|(simp [go_sem];done)|(simp [go_sem];omega)) (λj hj=>by have:=(l.W j hj).2;simp [go_sem,bL this])|(rw [g];exact f.i (by first|(simp [go_sem];done)|(simp [go_sem];omega)) (by simp [go_sem,Y,c5,Edge.c]) (λj hj=>by obtain ⟨k1,k2,Z⟩:=p j hj;simp [go_sem,k1,k2,bL Z]))),(by exact B),(by first|exact a7|(intro j hj A;simp only [aV,fJ,or_false,not_or] at A;simp [go_sem,A,bL (aD:j<H.next)];exact P j hj (by simp [A]))),(by first|(simp [go_sem];done)|(simp [go_sem];omega))⟩)
     .have hm:mem r.u.i i=true:=by
       cases b3:mem r.u.i i with
       | true=>rfl
       | false=>exact absurd (by simpa [M] using O.2 b3) b6
      rw [if_pos hm,dS] at hsu;obtain ⟨n,g⟩:∃ z,z=x:=⟨_,rfl⟩;have B:n=Rx t r u (GW t r (bdE h d o d.i.length) r.right.j.h.length) (i+1):=by rw [g,J];unfold Rx;rw [hsu]
      have l:HH H 0 a b V qs n:=by rw [g];exact f
      have a7:=P;have Y:=wa Y g;exact wp (h:=wx c7 (i+1) ⟨n,wg,wn,wn,wj,(by first|exact l|exact l.same (by first|(simp [go_sem];done)|(simp [go_sem];omega)) (λ_ _=>rfl)|exact l.same (by first|(simp [go_sem];done)|(simp [go_sem];omega)) (λj hj=>by have:=(l.W j hj).2;simp [go_sem,bL this])|(rw [g];exact f.i (by first|(simp [go_sem];done)|(simp [go_sem];omega)) (by simp [go_sem,Y,c5,Edge.c]) (λj hj=>by obtain ⟨k1,k2,Z⟩:=p j hj;simp [go_sem,k1,k2,bL Z]))),(by exact B),(by first|exact a7|(intro j hj A;simp only [aV,fJ,or_false,not_or] at A;simp [go_sem,A,bL (aD:j<H.next)];exact P j hj (by simp [A]))),(by first|(simp [go_sem];done)|(simp [go_sem];omega))⟩)
    .have hX:x=jS t r u (bdE h d o d.i.length):=by rw [J,(aD:i=r.right.j.i.length)];rfl
     rw [hX] at f;have Y:=wa Y hX;refine wv (h:=?_);exact hQ qs _ f (by simp [go_sem,Y]) E R P N
def lP (c:Part)(s:Slot):Int:=c.h[s.node.toNat]?.getD 0
def UI (c:Part)(vs:W3)(F:FM)(s:Slot):FM:=Mi F (lP c s) s.J (dG s.x vs)
def FA (c:Part)(vs:W3)(l:List Slot):FM:=l.foldl (UI c vs) λ_ _=>none
theorem S9 (c:Part)(vs:W3)(l:List Slot)(s:Slot):FA c vs (l++[s])=Mi (FA c vs l) (lP c s) s.J (dG s.x vs):=by unfold FA;rw [j4];rfl
theorem WB (c:Part)(vs:W3)(u v x:Int):∀ (l:List Slot) (F:FM),l.foldl (UI c vs) F u v=some x->(∃ s∈l,lP c s=u/\s.J=v/\dG s.x vs=x)\/F u v=some x
 | [],F,h=>.inr h
 | s :: l,F,h=>by
  rcases WB c vs u v x l _ h with ⟨s',hs',e⟩|h'
  .exact .inl ⟨s',d7 _ hs',e⟩
  .unfold UI Mi at h';split at h'
   .rename_i he;exact .inl ⟨s,fO ..,he.1.symm,he.2.symm,by simpa using h'⟩
   .exact .inr h'
theorem Bd {c:Part}{vs:W3}{l:List Slot}{u v x:Int}(h:FA c vs l u v=some x):∃ s∈l,lP c s=u/\s.J=v/\dG s.x vs=x:=by
 rcases WB c vs u v x l _ h with h|h
 .exact h
 .cases h
theorem Ya (c:Part)(vs:W3)(u v:Int):∀ (l:List Slot) (F:FM),((∃ s∈l,lP c s=u/\s.J=v)\/(F u v).isSome=true)->(l.foldl (UI c vs) F u v).isSome=true
 | [],F,h=>h.elim (λ⟨s,hs,_⟩=>by cases hs) id
 | s :: l,F,h=>Ya c vs u v l _ (by
   by_cases he:lP c s=u/\s.J=v
   .right;unfold UI Mi;rw [if_pos ⟨he.1.symm,he.2.symm⟩];rfl
   .rcases h with ⟨s',hs',e⟩|h
    .rcases aV.1 hs' with rfl|h2
     .exact absurd e he
     .exact .inl ⟨s',h2,e⟩
    .right;unfold UI Mi;split
     .rfl
     .exact h)
def Zp (c:Part)(vs:W3)(l:List Slot):Prop:=∀ s∈l,∀ s'∈l,lP c s=lP c s'->s.J=s'.J->dG s.x vs=dG s'.x vs
theorem R4 {c:Part}{vs:W3}{l:List Slot}(h:Zp c vs l){s:Slot}(d:s∈l):FA c vs l (lP c s) s.J=some (dG s.x vs):=by
 have g:=Ya c vs (lP c s) s.J l (λ_ _=>none) (.inl ⟨s,d,rfl,rfl⟩);obtain ⟨x,f⟩:=lH.1 g;have a:FA c vs l (lP c s) s.J=some x:=f;obtain ⟨e,b,k,j,i⟩:=Bd a;rw [a,<- i,h e b s d k j]
theorem WD {c:Part}{vs:W3}{l:List Slot}(h:Zp c vs l){s:Slot}(m:∀ x,FA c vs l (lP c s) s.J=some x->x=dG s.x vs):Zp c vs (l++[s]):=by
 have d:∀ j∈l,lP c j=lP c s->j.J=s.J->dG j.x vs=dG s.x vs:=λj k i g=>by
  have:=R4 h k;rw [i,g] at this;exact m _ this
 intro a f b e i g;rw [aX,bG] at f e;rcases f with f|rfl<;>rcases e with e|rfl
 .exact h a f b e i g
 .exact d a f i g
 .exact (d b e i.symm g.symm).symm
 .rfl
theorem pO {c:Part}{s:Slot}:fF c s=(lP c s).toNat:=rfl
theorem Wi {c:Part}{vs:W3}{l:List Slot}{i:Nat}(e:i<l.length){x:Int}(h:FA c vs (l.take i) (lP c l[i]) l[i].J=some x)(m:x≠dG l[i].x vs):uF c vs l=true:=by
 obtain ⟨o,a,j,g,f⟩:=Bd h;obtain ⟨k,n,rfl⟩:=aQ a;rw [List.getElem_take] at j g f;have d:k<i:=by simp at n;omega
 have b:k<l.length:=aD;rw [xV,bD];refine ⟨i,by simpa using e,?_⟩;rw [bD];refine ⟨k,by simpa using d,?_⟩;unfold wI Cq;simp only [aA b,aA e,pO,j,g,f];simp [m]
theorem RS {c:Part}{vs:W3}{l:List Slot}(g:∀ s∈l,0<=lP c s)(h:Zp c vs l):uF c vs l=false:=by
 rw [xV,bQ];intro a;rw [bD] at a;obtain ⟨i,d,a⟩:=a;rw [bD] at a;obtain ⟨k,j,a⟩:=a;rw [bA] at d j;have b:k<l.length:=aD;unfold wI Cq at a;simp only [aA b,aA d,pO,aN,decide_eq_true_eq] at a;obtain ⟨p,n,m⟩:=a;have r:=g _ (aC b);have q:=g _ (aC d);have o:(lP c l[k]).toNat=(lP c l[i]).toNat:=of_decide_eq_true p;have f:l[k].J=l[i].J:=by simpa using n
 have e:dG l[k].x vs≠dG l[i].x vs:=by simpa using m
 exact e (h _ (aC b) _ (aC d) aD f)
/-! ### the values that are set -/
def Am (F:FM)(dn:Int->Int->Bool)(vals:Yb):Yb :=
 (List.range vals.length).map λ(n:Nat)=>(List.range (vals[n]?.getD []).length).map λ(a:Nat)=>if dn n a=true then (F n a).getD 0 else (vals[n]?.getD [])[a]?.getD 0
theorem tU (F:FM)(dn:Int->Int->Bool)(vals:Yb):(Am F dn vals).length=vals.length:=by simp [Am]
theorem sA (F:FM)(dn:Int->Int->Bool)(vals:Yb)(n:Nat):((Am F dn vals)[n]?.getD []).length=(vals[n]?.getD []).length:=by
 unfold Am;by_cases a:n<vals.length
 .simp [aM,fR a]
 .rw [bX (by simp;omega),bX aD]
theorem Al (F:FM)(dn:Int->Int->Bool)(vals:Yb){n a:Nat}(b:n<vals.length)(c:a<(vals[n]?.getD []).length):((Am F dn vals)[n]?.getD [])[a]?=some (if dn n a=true then (F n a).getD 0 else (vals[n]?.getD [])[a]?.getD 0):=by
 unfold Am;rw [aM,fR b,dM,Option.getD_some,aM,fR c,dM]
theorem HF {x y:Yb}(i:x.length=y.length)(h:∀ n:Nat,(x[n]?.getD []).length=(y[n]?.getD []).length)(g:∀ n a:Nat,n<y.length->a<(y[n]?.getD []).length->(x[n]?.getD [])[a]?=(y[n]?.getD [])[a]?):x=y:=by
 apply fW i;intro n j c;have d:x[n]?.getD []=x[n]:=by rw [aA j];rfl
 have b:y[n]?.getD []=y[n]:=by rw [aA c];rfl
 have e:=h n;rw [d,b] at e;apply fL;intro a;by_cases f:a<y[n].length
 .have:=g n a c (by rw [b];exact f);rwa [d,b] at this
 .rw [bX aD,bX aD]
theorem TV (F:FM)(vals:Yb){dn:Int->Int->Bool}(h:∀ n a:Nat,n<vals.length->a<(vals[n]?.getD []).length->dn n a=false):Am F dn vals=vals:=by
 refine HF (tU _ _ _) (sA _ _ _) λn a c b=>?_;rw [Al _ _ _ c b,if_neg (by rw [h n a c b];simp),aA b];rfl
theorem IN {vals:Yb}{u:Nat}(a:u<vals.length)(r:W3)(n:Nat):(vals.set u r)[n]?.getD []=if n=u then r else vals[n]?.getD []:=by
 rw [dA];split
 .rename_i h;subst h;simp [a]
 .rename_i h;rw [if_neg (λe=>h e.symm)]
theorem TT (F:FM)(vals:Yb){dn dn':Int->Int->Bool}{u a:Nat}{x:Int}(i:u<vals.length)(k:a<(vals[u]?.getD []).length)(g:F u a=some x)(j:∀ n b:Nat,n<vals.length->b<(vals[n]?.getD []).length->dn' n b=(dn n b||(decide (n=u)&&decide (b=a)))) :
  (Am F dn vals).set u (((Am F dn vals)[u]?.getD []).set a x)=Am F dn' vals:=by
 have c:u<(Am F dn vals).length:=by rw [tU];exact i
 refine HF (by rw [fV,tU,tU]) (λn=>?_) λn b d f=>?_
 .rw [IN c,sA];split
  .rename_i h;subst h;rw [fV,sA]
  .rw [sA]
 .rw [tU] at d;rw [sA] at f;rw [IN c,Al _ _ _ d f,j n b d f];split
  .rename_i h;subst h;rw [dA];by_cases e:a=b
   .subst e;rw [if_pos rfl,if_pos (by rw [sA];exact k),if_pos dB,g];rfl
   .rw [if_neg e,Al _ _ _ d f];congr 1;rw [show decide (b=a)=false by simp;omega,Bool.and_false,pC]
  .rename_i h;rw [Al _ _ _ d f];congr 1;rw [show decide (n=u)=false by simp;omega,F7,pC]
theorem Ia {c:Part}{vs:W3}(vals:Yb):∀ (i:Nat) (l:List Slot),l.length=i->(∀ s∈l,0<=lP c s/\fF c s<vals.length/\0<=s.J/\s.J<(vals[fF c s]?.getD []).length) ->
  ∀ n a:Nat,n<vals.length->a<(vals[n]?.getD []).length->((v7 c vs l vals)[n]?.getD [])[a]?=some ((FA c vs l n a).getD ((vals[n]?.getD [])[a]?.getD 0))
 | 0,l,hl,hp,n,a,hn,ha=>by
  have:l=[]:=bT hl;subst this;show (vals[n]?.getD [])[a]?=_;rw [aA ha];rfl
 | i+1,l,hl,hp,n,a,hn,ha=>by
  obtain ⟨l',s,rfl⟩:∃ l' s,l=l'++[s]:=⟨l.dropLast,l.getLast (by intro e;rw [e] at hl;cases hl),(List.dropLast_concat_getLast _).symm⟩;have ih:=Ia (c:=c) (vs:=vs) vals i l' (by simp at hl;exact hl) (λs' hs'=>hp s' (List.mem_append_left _ hs'));obtain ⟨p1,p2,p3,p4⟩:=hp s dB;obtain ⟨q1,q2⟩:=pR c vs l' vals;rw [Lb,S9,IN aD];unfold Mi;split
  .rename_i h;rw [dA];by_cases hsa:s.J.toNat=a
   .rw [if_pos hsa,if_pos (by rw [q2];omega),if_pos ⟨by rw [h,pO];omega,aD⟩];rfl
   .rw [if_neg hsa,if_neg aD,<- h];exact ih n a hn ha
  .rename_i h;rw [if_neg (by rw [pO] at h;omega)];exact ih n a hn ha
theorem TU {c:Part}{vs:W3}{vals:Yb}{l:List Slot}(g:∀ s∈l,0<=lP c s/\fF c s<vals.length/\0<=s.J/\s.J<(vals[fF c s]?.getD []).length)
  {dn:Int->Int->Bool} (h:∀ n a:Nat,n<vals.length->a<(vals[n]?.getD []).length->dn n a=(FA c vs l n a).isSome):Am (FA c vs l) dn vals=v7 c vs l vals:=by
 obtain ⟨f,e⟩:=pR c vs l vals;refine HF (by rw [tU,f]) (λn=>by rw [sA,e]) λn a b d=>?_;rw [f] at b;rw [e] at d;rw [Al _ _ _ b d,Ia vals _ l rfl g n a b d,h n a b d];cases FA c vs l n a<;>simp
@[go_sem] theorem Zc:rB (Value.map none)=.junk:=rfl
@[go_sem] theorem abP:jD (.const (Value.map none))=false:=rfl
theorem VD:MapT prog 262 266 3 :=
 Xd underlying262 underlying3 underlying266 ⟨rfl,rfl,rfl⟩ ⟨rfl,rfl,rfl⟩ (by kernel_rfl) (by kernel_rfl) (by kernel_rfl) ⟨prog.types.size - 1,by have:0<prog.types.size:=of_decide_eq_true (by kernel_rfl);omega⟩
  (Maps.Keyed.of_law (deep_law_laid (m:=2) (by kernel_rfl) aD (of_decide_eq_true (by kernel_rfl)) (by kernel_rfl) (by kernel_rfl))) (λw=>by kernel_rfl)
def afD (co:Part)(vs:W3)(l:List Slot)(G:AHeap)(d:D)(H':AHeap)(g:MS):Prop :=
 (∀ j,j<G.next->H'.get j=G.get j)/\G.next<=H'.next /\
  ((uF co vs l=true/\∃ q,d=.tup [q,dI 11])\/(uF co vs l=false/\∃ b k,d=.tup [.cst (.map (some b)),dI 0]/\g=.mp b k (FA co vs l)))
theorem JP (t:Types)(r:Rule)(hR:RuleV t r)(m:Mat)(h:Host)(x0:Host)(tr p:Part)(hP:PutOk t r x0 p)(O:m.vars.length=r.left.vars.toNat)(N:Sm m.vars)(a b0 V na nb nV:Nat)(G:AHeap) :
  GCalls prog 266 3 171 [.agg (stpC r m h (.own a na) (.own b0 nb) (.own V nV) tr p)] G (afD p m.vars r.right.l G):=by
 obtain ⟨l,hl⟩:=fD (r.right.l);have Q:=hR.l;have W:=hR.bg;have f:=hP.spot;have u:=hP.J;have a6:=hP.P;have a8:=hP.bg;rw [<- hl] at Q W f u ⊢;refine AC func171 rfl rfl (by exact aF rfl) ?_;refine dR λK0 k0=>?_;refine gP (c:=⟨λt=>t==6||t==9,λr=>match r with|8=>[(0,10),(1,10),(2,10),(3,10),(4,10),(5,10),(6,10),(7,10),(8,10)]|_=>[]⟩) Tz.mixed (by kernel_rfl) ?_;simp [go_sem,seval,stpC];repeat first|intro _|refine ⟨gX,?_⟩
 refine k0 _ _ _ ?_;clear k0 K0;refine dR λE q=>?_;refine WpG.region (OpsG.make VD rfl rfl rfl λb=>?_);refine OpsG.all (md:=λ_=>false) rfl λR n=>?_;simp [go_sem,seval];refine n _ _ (q _ _ _ ?_);clear n R q E;refine dR λK3 k3=>?_;refine dR λz d=>?_;refine gP (c:=⟨λt=>t==6||t==9,λr=>match r with|8=>[(0,10),(1,10),(2,10),(3,10),(4,10),(5,10),(6,10),(7,10),(8,10)]|_=>[]⟩) Tz.mixed (by kernel_rfl) ?_;simp [go_sem,seval];repeat first|intro _|refine ⟨gX,?_⟩
 refine d _ _ _ ?_;clear d z;refine WpG.block ?_;obtain ⟨I,hI⟩:∃ I:Nat->MS->eF->AHeap->Prop,∀ i g e H,I i g e H↔(e 1=.adr (stpC r m h (.own a na) (.own b0 nb) (.own V nV) tr p)/\e 4=.cst (.map (some b))/\e 16=.list (l.map Slot.c)/\e 17=dI l.length/\e 18=dI i/\i<=l.length/\(∃ k,k<=i/\g=.mp b k (FA p m.vars (l.take i)))/\Zp p m.vars (l.take i)/\(∀ j,j<G.next->H.get j=G.get j)/\G.next<=H.next):=⟨_,λ_ _ _ _=>Iff.rfl⟩;refine WpG.loop I (λi=>l.length - i) 0 ((hI _ _ _ _).2 ⟨by simp [go_sem,stpC,dLI],by simp [go_sem],by simp [go_sem,hl],by simp [go_sem,hl],by simp [go_sem],aD,⟨0,aD,by simp [FA]⟩,by intro s hs;simp at hs,by intro j hj;simp [go_sem],by simp [go_sem]⟩) λi g e H a3=>?_;obtain ⟨q1,q4,K,J,B,hi,⟨k,hk,rfl⟩,hE,hG,a0⟩:=(hI _ _ _ _).1 a3;refine dR λE q=>?_;refine gP (c:=⟨λt=>t==6||t==9,λr=>match r with|8=>[(0,10),(1,10),(2,10),(3,10),(4,10),(5,10),(6,10),(7,10),(8,10)]|_=>[]⟩) Tz.mixed (by kernel_rfl) ?_;simp [go_sem,seval,J,B];repeat first|intro _|refine ⟨gX,?_⟩
 refine q _ _ _ ?_;clear q E;refine dR λE q=>?_;refine WpG.cond (t:=decide (i<l.length)) (by simp [go_sem]) (λh3=>?_) (λh3=>?_)
 .refine WpG.skip ?_;simp only [go_sem];refine q _ _ _ ?_;clear q E;have w:i<l.length:=of_decide_eq_true h3;obtain ⟨x,F⟩:=fD (l[i]);have C:x∈l:=F ▸ aC w;obtain ⟨⟨n1,n2⟩,⟨a1,a2⟩,hT⟩:=Q x C;obtain ⟨s1,s2,s3⟩:=f x C;obtain ⟨t1,t2⟩:=u x C;have S:x.node.toNat<p.h.length:=aD;have U:lP p x=p.h[x.node.toNat]:=by unfold lP;rw [aA S];rfl
  have a7:=Hf (vs:=m.vars) (by rw [O];exact hT) N;have Y:D4 (lP p x):=by rw [pO] at s2;exact ⟨by unfold lP;omega,by unfold lP at *;omega⟩
  have X:D4 x.J:=⟨aD,by have:=rH hR.vf (x0.j.h[fF p x]?.getD 0);omega⟩;have a4:D4 (dG x.x m.vars):=⟨aD,aD⟩;obtain ⟨v,P⟩:=fD (dG x.x m.vars);refine dR λE q=>?_;refine WpG.block ?_;refine dR λz d=>?_;refine gP (c:=⟨λt=>t==6||t==9,λr=>match r with|8=>[(0,10),(1,10),(2,10),(3,10),(4,10),(5,10),(6,10),(7,10),(8,10)]|_=>[]⟩) Tz.mixed (by kernel_rfl) ?_;simp [go_sem,seval,K,B,aA w,<- F,Slot.c];repeat first|intro _|refine ⟨gX,?_⟩
  refine d _ _ _ ?_;clear d z;refine dR λz d=>?_;refine gP (c:=⟨λt=>t==6||t==9,λr=>match r with|8=>[(0,10),(1,10),(2,10),(3,10),(4,10),(5,10),(6,10),(7,10),(8,10)]|_=>[]⟩) Tz.mixed (by kernel_rfl) ?_;simp [go_sem,seval,q1,stpC,Slot.c];repeat first|intro _|refine ⟨gX,?_⟩
  refine aB (by have hq:=nG x.x m.vars (by rw [O];exact hT) N;rw [<- P] at hq;unfold Term.c dLI at hq;exact hq) (by first|rfl|(simp [go_sem];done)) ?_;simp [go_sem,seval];repeat first|intro _|refine ⟨gX,?_⟩
  refine d _ _ _ ?_;clear d z;refine dR λz d=>?_;refine dR λZ A=>?_;refine gP (c:=⟨λt=>t==6||t==9,λr=>match r with|8=>[(0,10),(1,10),(2,10),(3,10),(4,10),(5,10),(6,10),(7,10),(8,10)]|_=>[]⟩) Tz.mixed (by kernel_rfl) ?_;simp [go_sem,seval];refine A _ _ _ ?_;clear A Z;refine WpG.cond (t:=false) (by simp [go_sem]) (λh=>by cases h) (λ_=>WpG.skip ?_);simp only [go_sem];refine d _ _ _ ?_;clear d z;refine dR λz d=>?_;refine gP (c:=⟨λt=>t==6||t==9,λr=>match r with|8=>[(0,10),(1,10),(2,10),(3,10),(4,10),(5,10),(6,10),(7,10),(8,10)]|_=>[]⟩) Tz.mixed (by kernel_rfl) ?_;simp [go_sem,seval,q1,stpC,Slot.c,aA S,<- U];repeat first|intro _|refine ⟨gX,?_⟩
  refine d _ _ _ ?_;clear d z;refine dR λz d=>?_;refine dR λZ A=>?_;refine WpG.region ?_;refine OpsG.take (md:=λt=>t==6||t==9) 2 rfl λR n=>?_;simp [go_sem,seval,q4];repeat first|intro _|refine ⟨gX,?_⟩
  refine n _ _ ?_;clear n R;refine UM (T:=262) VD rfl rfl rfl rfl (by simp [go_sem]) (by simp [go_sem]) Y X ?_;refine OpsG.all (md:=λt=>t==6||t==9) rfl λR n=>?_;simp [go_sem,seval];repeat first|intro _|refine ⟨gX,?_⟩
  refine n _ _ (A _ _ _ ?_);clear n R A Z;obtain ⟨o,ho⟩:=fD (FA p m.vars (l.take i) (lP p x) x.J);refine dR λZ A=>?_;refine gP (c:=⟨λt=>t==6||t==9,λr=>match r with|8=>[(0,10),(1,10),(2,10),(3,10),(4,10),(5,10),(6,10),(7,10),(8,10)]|_=>[]⟩) Tz.mixed (by kernel_rfl) ?_;simp [go_sem,seval,<- ho];repeat first|intro _|refine ⟨gX,?_⟩
  refine A _ _ _ ?_;clear A Z;refine WpG.cond (t:=o.isSome&&o.getD 0 != v) (by simp [go_sem]) (λD=>?_) (λD=>?_)
  .refine dR λK5 L=>?_;refine gP (c:=⟨λt=>t==6||t==9,λr=>match r with|8=>[(0,10),(1,10),(2,10),(3,10),(4,10),(5,10),(6,10),(7,10),(8,10)]|_=>[]⟩) Tz.mixed (by kernel_rfl) ?_;simp [go_sem,seval];refine L _ _ _ ?_;clear L K5;refine WpG.ret ?_;simp [go_sem,TD];refine ⟨λj hj=>?_,?_,.inl ⟨?_,_,rfl⟩⟩
   .have fr1:=bL (aD:j<H.next);simp [go_sem,fr1];exact hG j hj
   .simp [go_sem];omega
   .rw [aN] at D;obtain ⟨y,M⟩:=lH.1 D.1;refine Wi w (x:=y) (by rw [<- F,<- ho,M]) (λe=>?_);have h2:=D.2;rw [M,<- F,<- P] at *;simp [e] at h2
  .refine WpG.skip ?_;simp only [go_sem];refine d _ _ _ ?_;clear d z;refine WpG.region ?_;refine OpsG.take (md:=λt=>t==6||t==9) 3 rfl λR n=>?_;simp [go_sem,seval,q4];repeat first|intro _|refine ⟨gX,?_⟩
   refine n _ _ ?_;clear n R;refine OpsG.store (T:=262) (c:=v) VD rfl rfl rfl rfl (by simp [go_sem]) (by simp [go_sem]) (by simp [go_sem]) Y X (P ▸ a4) aD ?_;refine OpsG.all (md:=λt=>t==6||t==9) rfl λR n=>?_;simp [go_sem,seval];refine n _ _ ?_;clear n R;simp only [go_sem];refine q _ _ _ ?_;clear q E;refine gP (c:=⟨λt=>t==6||t==9,λr=>match r with|8=>[(0,10),(1,10),(2,10),(3,10),(4,10),(5,10),(6,10),(7,10),(8,10)]|_=>[]⟩) Tz.mixed (by kernel_rfl) ?_;simp [go_sem,seval,B];repeat first|intro _|refine ⟨gX,?_⟩
   refine ⟨i+1,aD,(hI _ _ _ _).2 ⟨by simp [go_sem,q1],by simp [go_sem,q4],by simp [go_sem,K],by simp [go_sem,J],by simp [go_sem],aD,⟨k+1,aD,by rw [aE w,S9,<- F,P]⟩,?_,λj hj=>?_,by simp [go_sem];omega⟩⟩
   .rw [aE w,<- F];refine WD hE λy M=>?_;rw [<- ho] at M;rw [M] at D;simp at D;rw [D,P]
   .have fr1:=bL (aD:j<H.next);simp [go_sem,fr1];exact hG j hj
 .refine WpG.exit ?_;simp [go_sem];refine k3 _ _ _ ?_;have a5:i=l.length:=by have:=of_decide_eq_false h3;omega
  rw [aG aD] at hE ⊢;refine dR λK5 L=>?_;refine gP (c:=⟨λt=>t==6||t==9,λr=>match r with|8=>[(0,10),(1,10),(2,10),(3,10),(4,10),(5,10),(6,10),(7,10),(8,10)]|_=>[]⟩) Tz.mixed (by kernel_rfl) ?_;simp [go_sem,seval,q4];refine L _ _ _ ?_;clear L K5;refine WpG.ret ?_;simp [go_sem,TD];refine ⟨hG,a0,.inr ⟨RS (λs hs=>(f s hs).1) hE,b,k,by simp [go_sem],rfl⟩⟩
theorem RF {c:Part}{vs:W3}{l:List Slot}(h:uF c vs l=false):Zp c vs l:=by
 rw [xV] at h;have a:∀ (p q:Nat) (d:p<q) (b:q<l.length),lP c l[p]=lP c l[q]->l[p].J=l[q].J->dG l[p].x vs=dG l[q].x vs:=λp q d b f e=>by
  refine bB λn=>?_;have:((List.range l.length).any λi=>(List.range i).any λk=>wI c vs l i k)=true:=by
   rw [bD];refine ⟨q,by simpa using b,?_⟩;rw [bD];refine ⟨p,by simpa using d,?_⟩;unfold wI Cq;simp only [aA (aD:p<l.length),aA b,pO,f,e];simp [n]
  rw [h] at this;cases this
 intro s j o g f e;obtain ⟨p,m,rfl⟩:=aQ j;obtain ⟨q,b,rfl⟩:=aQ g;rcases Nat.lt_trichotomy p q with h1|h1|h1
 .exact a p q h1 b f e
 .subst h1;rfl
 .exact (a q p h1 m f.symm e.symm).symm
theorem Tq (t:Types)(ht:t.ok)(r:Rule)(hR:RuleV t r)(m:Mat)(h o:Host)(tr p:Part)(hP:PutOk t r o p)(d3:m.vars.length=r.left.vars.toNat)(d1:Sm m.vars)(G:AHeap)(s a b0 V:Nat)(S:List Nat)
  (hs:G.get s=some ⟨70,38,[stpC r m h (.own a o.j.h.length) (.own b0 o.j.i.length) (.own V o.k.length) tr p],false⟩) (c6:HH G 0 a b0 V S o) (d7:∀ j∈a :: b0 :: V :: S,j≠s) (d8:s<G.next) (Q:D->AHeap->Prop)
  (a2:∀ H',sN t o.j p m.vars r.right.l≠0->(∀ j,j<G.next->j∉a :: b0 :: V :: S->H'.get j=G.get j)->G.next<=H'.next->Q (dI (sN t o.j p m.vars r.right.l)) H')
  (hQ:∀ H',sN t o.j p m.vars r.right.l=0->HH H' 0 a b0 V S ⟨o.j,v7 p m.vars r.right.l o.k⟩->(∀ j,j<G.next->j∉a :: b0 :: V :: S->H'.get j=G.get j)->G.next<=H'.next->Q (dI 0) H') :
  ACalls prog 113 [t.d,.ptr s 1 0 0] G Q:=by
 obtain ⟨l,hl⟩:=fD (r.right.l);have hA:=JP t r hR m h o tr p hP d3 d1 a b0 V o.j.h.length o.j.i.length o.k.length G;have a3:=hR.l;have A:=hP.spot;have L:=hP.J;have g3:=hP.bg;rw [<- hl] at a3 A L a2 hQ hA;refine KD (P:=prog) (K:=266) (E:=3) (Q:=λd H' _=>Q d H') ?_ (λ_ _ _ h=>h);refine AC func113 rfl rfl (by exact aF rfl) ?_;refine dR λO B=>?_;refine gP (c:=⟨λt=>t==7,λ_=>[]⟩) Tz.mixed (by kernel_rfl) ?_;simp [go_sem,seval];refine B _ _ _ ?_;clear B O;refine dR λO B=>?_;refine WpG.region ?_;refine OpsG.take (md:=λt=>t==7) 3 rfl λR J=>?_;simp [go_sem,seval,hs,stpC];repeat first|intro _|refine ⟨gX,?_⟩
 refine J _ _ ?_;clear J R;refine OpsG.call (f:=171) (args:=[.agg (stpC r m h (.own a o.j.h.length) (.own b0 o.j.i.length) (.own V o.k.length) tr p)]) (by simp [go_sem,gZ,stpC]) rfl rfl hA λd H1 g1 hq=>?_;obtain ⟨b5,a9,b3⟩:=hq;rcases b3 with ⟨a1,q,rfl⟩|⟨a1,b,k,rfl,rfl⟩
 .refine OpsG.all (md:=λt=>t==7) rfl λR J=>?_;simp [go_sem,seval];repeat first|intro _|refine ⟨gX,?_⟩
  refine J _ _ (B _ _ _ ?_);clear J R B O;refine dR λK2 k2=>?_;refine dR λK4 U=>?_;refine gP (c:=⟨λt=>t==7,λ_=>[]⟩) Tz.mixed (by kernel_rfl) ?_;simp [go_sem,seval];refine U _ _ _ ?_;clear U K4;refine WpG.cond (t:=true) (by simp [go_sem]) (λ_=>?_) (λhc=>by cases hc);refine dR λK5 k5=>?_;refine gP (c:=⟨λt=>t==7,λ_=>[]⟩) Tz.mixed (by kernel_rfl) ?_;simp [go_sem,seval];refine k5 _ _ _ ?_;clear k5 K5;refine WpG.ret ?_;simp [go_sem,TD];have hE:sN t o.j p m.vars l=11:=by unfold sN;rw [if_pos a1]
  rw [hE] at a2;exact a2 _ (by decide) (λj Z _=>b5 j Z) a9
 .refine OpsG.all (md:=λt=>t==7) rfl λR J=>?_;simp [go_sem,seval];repeat first|intro _|refine ⟨gX,?_⟩
  refine J _ _ (B _ _ _ ?_);clear J R B O;refine dR λK2 k2=>?_;refine dR λK4 U=>?_;refine gP (c:=⟨λt=>t==7,λ_=>[]⟩) Tz.mixed (by kernel_rfl) ?_;simp [go_sem,seval];refine U _ _ _ ?_;clear U K4;refine WpG.cond (t:=false) (by simp [go_sem]) (λhc=>by cases hc) (λ_=>WpG.skip ?_);simp only [go_sem];refine k2 _ _ _ ?_;clear k2 K2;have a5:sN t o.j p m.vars l=if l.any (yM t o.j p m.vars)=true then 6 else 0:=by unfold sN;rw [if_neg (by rw [a1];simp)]
  refine dR λK3 k3=>?_;refine dR λK4 U=>?_;refine WpG.region ?_;refine OpsG.take (md:=λt=>t==7) 1 rfl λR J=>?_;simp [go_sem,seval];refine J _ _ ?_;clear J R;refine OpsG.range (T:=262) VD rfl rfl rfl rfl (by simp [go_sem]) λrr wH=>?_;refine OpsG.nil (U _ _ _ ?_);clear U K4;have N:∀ x∈l,D4 (lP p x)/\D4 x.J:=λx M=>by
   obtain ⟨s1,s2,s3⟩:=A x M;obtain ⟨t1,t2⟩:=L x M;have:=rH hR.vf (o.j.h[fF p x]?.getD 0);have h0:=(a3 x M).2.1.1;rw [pO] at s2;exact ⟨⟨by unfold lP;omega,by unfold lP at *;omega⟩,aD,aD⟩
  refine WpG.block ?_;obtain ⟨F,hF⟩:=fD (FA p m.vars l);rw [<- hF];obtain ⟨I,hI⟩:∃ I:Nat->MS->eF->AHeap->Prop,∀ i g e H,I i g e H↔(∃ z d0,g=.rg b rr F z i d0/\e 1=.ptr s 1 0 0/\e 2=.adr t.c/\e 22=.cst (FK rr) /\
   HH H 0 a b0 V S ⟨o.j,Am F (λu v=>(F u v).isSome&&!z u v) o.k⟩/\(∀ x∈l,z (lP p x) x.J=false->yM t o.j p m.vars x=false)/\(∀ j,j<G.next->j∉a :: b0 :: V :: S->H.get j=G.get j)/\G.next<=H.next):=⟨_,λ_ _ _ _=>Iff.rfl⟩
  refine WpG.loop I (λi=>i) wH ((hI _ _ _ _).2 ⟨_,_,rfl,by simp [go_sem],by simp [go_sem],by simp [go_sem],?_,?_,λj Z _=>b5 j Z,a9⟩) λi g e H e7=>?_
  .rw [TV]
   .exact c6.same a9 (λj Z=>b5 j (c6.W j Z).2)
   .intro n v _ _;cases F n v<;>rfl
  .intro x M hf;have:=R4 (c:=p) (vs:=m.vars) (l:=l) (s:=x) (RF a1) M;rw [<- hF] at this;rw [this] at hf;cases hf
  obtain ⟨z,d0,rfl,q1,q2,a6,hh,hO,hG,e0⟩:=(hI _ _ _ _).1 e7;refine dR λO B=>?_;refine WpG.region ?_;refine OpsG.next VD rfl rfl rfl (by simp [go_sem,a6]) (λhd=>?_) (λu v c i' hu hv f8 b7 e5=>?_)
  .refine OpsG.all (md:=λt=>t==7) rfl λR J=>?_;simp [go_sem,seval];refine J _ _ (B _ _ _ ?_);clear J R B O;refine dR λO B=>?_;refine WpG.cond (t:=false) (by simp [go_sem]) (λhc=>by cases hc) (λ_=>WpG.exit ?_);simp [go_sem];refine k3 _ _ _ ?_;refine dR λK5 k5=>?_;refine gP (c:=⟨λt=>t==7,λ_=>[]⟩) Tz.mixed (by kernel_rfl) ?_;simp [go_sem,seval];refine k5 _ _ _ ?_;clear k5 K5;refine WpG.ret ?_;simp [go_sem,TD];have c9:l.any (yM t o.j p m.vars)=false:=by
    rw [bQ];intro hT;obtain ⟨x,M,hT⟩:=bD.1 hT;rw [hO x M (hd _ _ (N x M).1 (N x M).2)] at hT;cases hT
   rw [if_neg (by rw [c9];simp)] at a5;have hV:=TU (c:=p) (vs:=m.vars) (vals:=o.k) (l:=l) (λx M=>⟨(A x M).1,(A x M).2.1,(a3 x M).2.1.1,(L x M).1⟩) (dn:=λu v=>(F u v).isSome&&!z u v) (λn v _ _=>by
    rw [<- hF];cases f2:F n v with
    | none=>rfl
    | some y =>
     obtain ⟨x,M,e1,e2,_⟩:=Bd (c:=p) (vs:=m.vars) (l:=l) (by rw [<- hF];exact f2);have:=hd _ _ (N x M).1 (N x M).2;rw [e1,e2] at this;simp [this])
   rw [<- hF] at hV;rw [hV] at hh;exact hQ _ a5 hh hG e0
  .refine OpsG.all (md:=λt=>t==7) rfl λR J=>?_;simp [go_sem,seval];refine J _ _ (B _ _ _ ?_);clear J R B O;refine dR λO B=>?_;refine WpG.cond (t:=true) (by simp [go_sem]) (λ_=>WpG.skip ?_) (λhc=>by cases hc);simp only [go_sem];refine B _ _ _ ?_;clear B O;refine WpG.block ?_;refine dR λO B=>?_;refine WpG.region ?_;refine OpsG.entry rfl rfl rfl (by simp [go_sem,a6]) ?_;refine OpsG.all (md:=λt=>t==7) rfl λR J=>?_;simp [go_sem,seval];repeat first|intro _|refine ⟨gX,?_⟩
   refine J _ _ (B _ _ _ ?_);clear J R B O;obtain ⟨x,W,e1,e2,e3⟩:=Bd (c:=p) (vs:=m.vars) (l:=l) (by rw [<- hF];exact b7);obtain ⟨s1,s2,s3⟩:=A x W;obtain ⟨t1,t2⟩:=L x W;have a0:=(a3 x W).2.1.1;obtain ⟨n,hn⟩:=fD (fF p x);rw [<- hn] at s2 s3 t1 t2;have d4:u=(n:Int):=by rw [<- e1,hn,pO];unfold lP at *;omega
   subst d4;obtain ⟨w,hw⟩:∃ w:Nat,v=(w:Int):=⟨v.toNat,aD⟩;subst hw;have c1:H.get s=some ⟨70,38,[stpC r m h (.own a o.j.h.length) (.own b0 o.j.i.length) (.own V o.k.length) tr p],false⟩:=by rw [hG s d8 (λhm=>d7 s hm rfl)];exact hs
   have e8:=hh.ga;have c8:=hh.gV;have f6:=hh.W a hh.aO;have f7:=hh.W V hh.aV;obtain ⟨nd,c3⟩:∃ y,y=o.j.h[n]:=⟨_,rfl⟩;have Y:o.j.h[n]?.getD 0=nd:=by rw [c3,aA s3];rfl
   rw [Y] at t2;have b4:w<(bI t nd).length:=aD;have b8:=xa1 (bL (aD:s<H.next)) (bL (aD:a<H.next)) (bL (aD:V<H.next));have g0:=rG ht nd;refine dR λO B=>?_;refine gP (c:=⟨λt=>t==7,λ_=>[]⟩) Tz.mixed (by kernel_rfl) ?_;simp [go_sem,seval,q1,q2,c1,e8,stpC,b8,aA s3,<- c3];repeat first|intro _|refine ⟨gX,?_⟩
   refine aI (oT t ht nd) (by first|rfl|(simp [go_sem];done)) ?_;simp [go_sem,seval];repeat first|intro _|refine ⟨gX,?_⟩
   refine B _ _ _ ?_;clear B O;refine dR λK2 k2=>?_;refine dR λK4 U=>?_;refine gP (c:=⟨λt=>t==7,λ_=>[]⟩) Tz.mixed (by kernel_rfl) ?_;simp [go_sem,seval,b8,aA b4,Attr.c];repeat first|intro _|refine ⟨gX,?_⟩
   refine U _ _ _ ?_;clear U K4;have C:=hh;obtain ⟨dn,b1⟩:=fD (λu v=>(F u v).isSome&&!z u v);rw [<- b1] at C;have c0:(Am F dn o.k).length=o.k.length:=tU ..;have c5:n<(Am F dn o.k).length:=aD;have e4:n<S.length:=by rw [C.len];exact c5
   obtain ⟨q,hq⟩:=fD (S[n]);obtain ⟨vr,d2⟩:∃ v,v=(Am F dn o.k)[n]:=⟨_,rfl⟩;have g1:S[n]?=some q:=by rw [aA e4,hq]
   have g2:(Am F dn o.k)[n]?=some vr:=by rw [aA c5,d2]
   have c2:=tE g1 g2;have c7:=C.gq _ _ _ g1 g2;have b9:vr.length=(o.k[n]?.getD []).length:=by rw [<- sA F dn o.k n,g2];rfl
   have a8:w<vr.length:=aD;have X:q∈S:=aL g1;have f4:=C.W q (C.aI X);have d9:=jJ C.len;rw [<- b1] at c8;have f3:=bL (aD:q<H.next);have f1:yM t o.j p m.vars x=(decide (c<(bI t nd)[w].aw)||decide ((bI t nd)[w].ax<c)):=by
    unfold yM;rw [<- hn,Y,(aD:x.J.toNat=w),aA b4,e3];rfl
   refine WpG.cond (t:=decide (c<(bI t nd)[w].aw)||decide ((bI t nd)[w].ax<c)) (by simp [go_sem]) (λe9=>?_) (λf0=>WpG.skip ?_)
   .refine dR λK5 k5=>?_;refine gP (c:=⟨λt=>t==7,λ_=>[]⟩) Tz.mixed (by kernel_rfl) ?_;simp [go_sem,seval];refine k5 _ _ _ ?_;clear k5 K5;refine WpG.ret ?_;simp [go_sem,TD];have hT:l.any (yM t o.j p m.vars)=true:=bD.2 ⟨_,W,by rw [f1];exact e9⟩;rw [if_pos hT] at a5;rw [a5] at a2;refine a2 _ (by decide) (λj Z a4=>?_) (by first|(simp [go_sem];done)|(simp [go_sem];omega));simp [go_sem,(aD:j≠H.next)];exact hG j Z a4
   .simp only [go_sem];refine k2 _ _ _ ?_;clear k2 K2;refine gP (c:=⟨λt=>t==7,λ_=>[]⟩) Tz.mixed (by kernel_rfl) ?_;have c4:n<o.k.length:=aD;have f5:=C.qn X;simp [go_sem,seval,q1,c1,c8,stpC,b8,f3,c2,c7,d9,c0];refine ⟨c4,a8,?_⟩;simp [go_sem,aA a8,cI];repeat first|intro _|refine ⟨gX,?_⟩
    refine ⟨i',e5,(hI _ _ _ _).2 ⟨_,_,rfl,by simp [go_sem,q1],by simp [go_sem,q2],by simp [go_sem,a6],?_,?_,?_,by first|(simp [go_sem];done)|(simp [go_sem];omega)⟩⟩
    .have hst:=TT F o.k (dn:=dn) (dn':=λu v=>(F u v).isSome&&!(z u v&&(!decide (u=(n:Int))||!decide (v=(w:Int))))) c4 (by rw [<- b9];exact a8) b7 (λn2 b2 _ _=>by
      rw [b1];by_cases e1:n2=n
      .by_cases e2:b2=w
       .subst e1;subst e2;simp [b7]
       .have e3':¬ ((b2:Int)=w):=aD;subst e1;simp [e2,e3']
      .have e3':¬ ((n2:Int)=n):=aD;simp [e1,e3'])
     rw [g2] at hst;rw [<- hst];exact C.ck (by first|(simp [go_sem];done)|(simp [go_sem];omega)) g1 g2 dB (by simp [go_sem,c7,b6,cI]) (λj Z e6=>by
      have f9:=(C.W j Z).2;simp [go_sem,e6,(aD:j≠H.next)])
    .intro y hy hyf;cases hL:z (lP p y) y.J with
     | false=>exact hO y hy hL
     | true =>
      have a7:lP p y=(n:Int)/\y.J=(w:Int):=by rw [hL] at hyf;simpa using hyf
      have d6:fF p y=n:=by rw [pO,a7.1];rfl
      have d5:dG y.x m.vars=c:=by rw [<- e3];exact RF a1 y hy x W (by rw [a7.1,e1]) (by rw [a7.2,e2])
      unfold yM;rw [d6,Y,(aD:y.J.toNat=w),aA b4,d5];exact f0
    .intro j Z a4;simp [go_sem,(aD:j≠H.next),show j≠q from λe=>a4 (e ▸ C.aI X)];exact hG j Z a4
theorem XD {d:W3}(c:d.Pairwise (· < ·)){n:Nat}{x:Int}(f:0<=x)(e:x<n)(b:x∈d):∃ p:Nat,p<d.length/\(lY d n)[x.toNat]?=some (p:Int):=by
 obtain ⟨p,a,rfl⟩:=aQ b;refine ⟨p,a,?_⟩;rw [o8 _ aD,show ((d[p].toNat:Nat):Int)=d[p] by omega,qD (mL c) a]
theorem Wq {a d:W3}{n:Nat}(i:d.Pairwise (· < ·)){k:Int}(l:0<=k)(j:k<a.length)(c:0<=iA a k/\iA a k<n)(g:iA a k∈d):∃ p:Nat,p<d.length/\(pH a (n4 d n))[k.toNat]?.getD 0=p:=by
 obtain ⟨p,f,h⟩:=XD i c.1 c.2 g;have b:k.toNat<a.length:=aD;have e:iA a k=a[k.toNat]:=by unfold iA;rw [aA b];rfl
 refine ⟨p,f,?_⟩;unfold pH n4;rw [aM,aA b,dM,Option.getD_some,<- e,h];rfl
theorem LP {keep a at_:W3}{b:Nat}(d:a.Nodup)(o:keep.length=a.length)(l:∀ k∈keep,∃ p:Nat,p<b/\at_[k.toNat]?.getD 0=p)(i:Nat) :
  Jg keep a at_ b i=((b+(bP a i).length:Nat):Int)↔mem a i=false:=by
 have f:=LX d (i:Int);have j:=DS a i a.length;unfold Jg;cases g:mem a i with
 | true =>
  rw [g] at f;have m:¬ gG a a.length i<0:=by simpa using f
  have c:(gG a a.length i).toNat<keep.length:=aD;obtain ⟨p,n,h⟩:=l _ (aC c);rw [if_pos aD,aA c,Option.getD_some,h];constructor
  .intro e;omega
  .intro e;cases e
 | false =>
  rw [g] at f;have m:gG a a.length i<0:=by simpa using f
  rw [if_neg aD,MP d];simp
theorem SW {keep b at_:W3}{a c i:Nat}(h:i<a):(D5 keep b at_ a c)[i]?.getD 0=Jg keep b at_ c i:=by
 unfold D5;simp [h]
section
variable {t:Types} {r:Rule} {h:Host} {m:Mat}
theorem StepIn.cI (S:StepIn t r h m){k:Int}(a:k∈r.q.i):iA m.m.i k∈(Abs.bY r h m).i:=by
 have c:=S.hR.q;have g:=S.hm.bk;have b:=c.2.2.1 k a;have f:=xH S.cQ.2 b.1 aD a;rw [S.bN];have d:=S.hm.b2 k.toNat aD;have e:iA m.m.i k=m.m.i[k.toNat]' aD:=by unfold iA;rw [aA aD];rfl
 exact fZ.2 ⟨by rw [e];exact d,f⟩
theorem StepIn.kN (S:StepIn t r h m):∀ k∈r.q.h,(0<=k/\k<m.m.h.length)/\(0<=iA m.m.h k/\iA m.m.h k<h.j.h.length)/\∃ p:Nat,p<(Abs.bY r h m).h.length/\(pH m.m.h (c6 r h m).h)[k.toNat]?.getD 0=p:=λk hk=>by
 have hr:=S.hR.q.2.1 k hk;have hl:=S.hm.len;have hi:=S.bF _ (S.ca hk);exact ⟨aD,hi,Wq S.bb hr.1 aD hi (S.ca hk)⟩
theorem StepIn.kE (S:StepIn t r h m):∀ k∈r.q.i,(0<=k/\k<m.m.i.length)/\(0<=iA m.m.i k/\iA m.m.i k<h.j.i.length)/\∃ p:Nat,p<(Abs.bY r h m).i.length/\(pH m.m.i (c6 r h m).i)[k.toNat]?.getD 0=p:=λk hk=>by
 have hr:=S.hR.q.2.2.1 k hk;have hl:=S.hm.bk;have hi:=S.cP _ (S.cI hk);exact ⟨aD,hi,Wq S.cp hr.1 aD hi (S.cI hk)⟩
theorem StepIn.dL (S:StepIn t r h m):∀ i,i<r.right.j.h.length->((c7 r h m).h[i]?.getD 0=(((Abs.bY r h m).h.length+(bP r.u.h i).length:Nat):Int)↔mem r.u.h i=false):=λi hi=>by
 have:=LP S.br.1 S.hR.q.1.1 (λk hk=>(S.kN k hk).2.2) i;unfold c7;simp only;rw [SW hi];exact this
theorem StepIn.dM (S:StepIn t r h m):∀ i,i<r.right.j.i.length->((c7 r h m).i[i]?.getD 0=(((Abs.bY r h m).i.length+(bP r.u.i i).length:Nat):Int)↔mem r.u.i i=false):=λi hi=>by
 have:=LP S.br.2 S.hR.q.1.2 (λk hk=>(S.kE k hk).2.2) i;unfold c7;simp only;rw [SW hi];exact this
theorem StepIn.bdE (S:StepIn t r h m):Abs.bdE h (Abs.bY r h m) (c6 r h m) (Abs.bY r h m).i.length=⟨bZ h.j (Abs.bY r h m),(Abs.bY r h m).h.map λk=>h.k[k.toNat]?.getD []⟩:=by
 unfold Go.Abs.bdE bZ;rw [if_pos S.sub,aG (aZ _)];congr 2;refine bJ λk e=>?_;obtain ⟨d,c⟩:=pN S.sub e;have a:∀ v:Int,v∈(Abs.bY r h m).h->iA (c6 r h m).h v=(pT (Abs.bY r h m).h v:Int):=λv b=>by
  have f:=S.bF v b;unfold iA c6 n4;simp only;rw [o8 _ aD,Option.getD_some,show ((v.toNat:Nat):Int)=v by omega,Ba S.bb,if_pos ((mem_iff _ _).2 b)]
 unfold trE;rw [a _ d,a _ c];rfl
theorem StepIn.grow (S:StepIn t r h m):jS t r (c7 r h m) (Go.Abs.bdE h (Abs.bY r h m) (c6 r h m) (Abs.bY r h m).i.length)=bW t r h m:=by
 rw [S.bdE];rfl
end
end Go.Abs
end
