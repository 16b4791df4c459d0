/- Layer 32: the sides of the concurrent rule (program). · Laye -/
import Derived.Test.YthlnbehgghjppaaGreatZrAG
import Derived.Test.YthlnbehgghjppaaGreatZrAA
import Derived.Test.YthlnbehgghjppaaGreatZrAL
import Derived.Test.YthlnbehgghjppaaGreatZrAK
import Derived.Test.YthlnbehgghjppaaGreatZrAJ
import Derived.Shelf.Spec.SlicesGrow
set_option linter.unusedVariables false
set_option linter.unusedSimpArgs false
section
set_option maxRecDepth 100000
set_option maxHeartbeats 4000000
open Go Go.Proofs Tryz
namespace Go.Abs
def Er (av:Xa0)(b:Nat)(ns:Xa0):Nat->Xa0
 | 0=>av
 | i+1=>(Er av b ns i).set (ns[i]?.getD 0).toNat ((b+i:Nat):Int)
theorem Hf (av:Xa0)(b:Nat)(ns:Xa0):∀ i,(Er av b ns i).length=av.length
 | 0=>rfl
 | i+1=>by simp only [Er,iU];exact Hf av b ns i
def FI (more:Graph)(n:Int):Int:=more.h[n.toNat]?.getD 0
def BO (g:Graph)(p:Part)(more:Graph)(av ns es:Xa0):Graph :=
 ⟨(bG g p).h++ns.map (FI more),(bG g p).i++es.map λn=>qP more (Er av (bG g p).h.length ns ns.length) n.toNat⟩
theorem EO (g:Graph)(p:Part)(a:Graph)(f ns es:Xa0)(h0:subF g p=0)(hl:p.h.length<=1000000)(J:p.i.length<=1000000)(hm:graphF a=0)(b6:f.length=a.h.length)
  (a3:∀ x∈ns,0<=x/\x<a.h.length) (a9:∀ x∈es,0<=x/\x<a.i.length) (b2:ns.length<=1000000) (b4:es.length<=1000000) (Q:D->AHeap->Prop)
  (hQ:∀ i j n m H',i≠j->i≠0->j≠0->n=(BO g p a f ns es).h.length->m=(BO g p a f ns es).i.length->H'.get i=some ⟨3,1,(BO g p a f ns es).h.map cI,false⟩->H'.get j=some ⟨153,3,(BO g p a f ns es).i.map Edge.c,false⟩ ->
   H'.get 0=some ⟨3,1,(Er f (bG g p).h.length ns ns.length).map cI,false⟩->Q (.agg [.own i n,.own j m]) H') :
  ACalls prog 187 [g.d,p.d,a.d,.own 0 f.length,dLI ns,dLI es] (AHeap.an.push 0 ⟨3,1,f.map cI,false⟩) Q:=by
 have b3:=aY hm;have a5:∀ x∈a.i,(0<=x.B/\x.B<a.h.length)/\(0<=x.O/\x.O<a.h.length):=λx hx=>((dO hm).2 x hx).2;obtain ⟨E,hE⟩:=gI (bG g p);have hX:=CQ g p h0 hl J;have b7:E.h.length<=1000000/\E.i.length<=1000000:=by rw [<- hE];unfold bG;rw [if_pos h0];simp;exact ⟨hl,J⟩
 obtain ⟨S,hS⟩:=gI (BO g p a f ns es);rw [hE] at hX;rw [hS,hE] at hQ;refine (Tz.cK ⟨λt=>t==12||t==13||t==14||t==20,λr=>match r with|6=>[(0,7),(1,7)]|12=>[(0,15),(1,15)]|_=>[]⟩ func187 rfl ?_);have Y:=trivial;refine wv (h:=F3 (hX) (by first|rfl|(simp [go_sem];done)) (by constructor<;>(simp [go_sem,j8,mV,v8,rW]<;>omega)) ?_);refine wp (h:=bC (λi e H=>∃ b:Xa0,∃ l:Xa0,(e 8=.adr a.c/\e 3=.own 0 f.length/\e 5=dLI es/\e 12=.ptr 1 1 0 0/\e 13=.ptr 4 1 0 0/\e 28=dLI ns/\e 29=dI ns.length/\e 30=dI i)/\(H.get 0=some ⟨3,1,b.map cI,false⟩)/\(0<H.next)/\(H.get 1=some ⟨29,2,[[.nil,.nil]],false⟩)/\(1<H.next)/\(H.get 2=some ⟨3,1,l.map cI,false⟩)/\(2<H.next)/\(H.get 3=some ⟨153,3,E.i.map Edge.c,false⟩)/\(3<H.next)/\(H.get 4=some ⟨29,2,[[.own 2 l.length,.own 3 E.i.length]],false⟩)/\(4<H.next)/\(i<=ns.length)/\(b.length=f.length)/\(l.length=E.h.length+i)/\(b=Er f E.h.length ns i)/\(l=E.h++(ns.take i).map (FI a))) (λi=>ns.length - i) 0 ⟨f,E.h,wg,wn,wn,wn,wn,wn,wn,wn,wn,wn,wn,wi,(by rfl),(by rfl),(by rfl),(by simp)⟩ λI0 b1 i e H a7=>?_);obtain ⟨b,l,E0,a1,I,X,F,V,B,T,z,P,w,hi,M,s,ha,hg⟩:=a7;have Y:=xa1 Y E0 (xb0 a1 (bP I) X (bP F) V (bP B) T (bP z) P (bP w) M s);refine c8 (λu=>?_) λu=>?_
 .have hin:=a3 _ (aC u);have hk:ns[i].toNat<a.h.length:=bZ;have a4:ns[i].toNat<b.length:=bZ;have Y:=xa3 Y u (aA u) (aA hk) (aA a4);exact wp (h:=wx b1 (i+1) ⟨(b.set ns[i].toNat ((E.h.length+i:Nat):Int)),(l++[a.h[ns[i].toNat]]),wg,wn,wn,wn,wn,wn,wn,wn,wn,wn,wn,wj,(by simp [M]),(by simp [s];omega),(by simp only [Er,<- ha,aA u,aD]),(by rw [dB _ u,<- List.append_assoc,<- hg];simp only [FI,aA hk,aD])⟩)
 .have hI:i=ns.length:=bZ;subst hI;refine wp (h:=bC (λk e H=>∃ o:List Edge,(e 8=.adr a.c/\e 3=.own 0 f.length/\e 12=.ptr 1 1 0 0/\e 13=.ptr 4 1 0 0/\e 51=dLI es/\e 52=dI es.length/\e 53=dI k)/\(H.get 0=some ⟨3,1,b.map cI,false⟩)/\(0<H.next)/\(H.get 1=some ⟨29,2,[[.nil,.nil]],false⟩)/\(1<H.next)/\(H.get 2=some ⟨3,1,l.map cI,false⟩)/\(2<H.next)/\(H.get 3=some ⟨153,3,o.map Edge.c,false⟩)/\(3<H.next)/\(H.get 4=some ⟨29,2,[[.own 2 l.length,.own 3 o.length]],false⟩)/\(4<H.next)/\(k<=es.length)/\(o.length=E.i.length+k)/\(o=E.i++(es.take k).map (λn=>qP a b n.toNat))) (λk=>es.length - k) 0 ⟨E.i,wg,wn,wn,wn,wn,wn,wn,wn,wn,wn,wn,wi,(by rfl),(by simp)⟩ λI2 b0 k e H a6=>?_);obtain ⟨o,E2,Z,G,W,C,U,A,R,y,O,v,hk,a2,hx⟩:=a6;have Y:=xb0 Y E2 Z (bP G) W (bP C) U (bP A) R (bP y) O (bP v);refine c8 (λN=>?_) λN=>?_
  .have hie:=a9 _ (aC N);have q:es[k].toNat<a.i.length:=bZ;have b5:=a5 _ (aC q);have L:a.i[es[k].toNat].B.toNat<b.length:=bZ;have K:a.i[es[k].toNat].O.toNat<b.length:=bZ;have a8:qP a b es[k].toNat=⟨a.i[es[k].toNat].type,b[a.i[es[k].toNat].B.toNat],b[a.i[es[k].toNat].O.toNat]⟩:=by simp only [qP,aA q,aD,aA L,aA K]
   have Y:=xa6 Y N (aA N) (aA q) (aA L) (aA K) a8 @Edge.c.eq_1;exact wp (h:=wx b0 (k+1) ⟨(o++[qP a b es[k].toNat]),wg,wn,wn,wn,wn,wn,wn,wn,wn,wn,wn,wj,(by simp [a2];omega),(by rw [dB _ N,<- List.append_assoc,<- hx])⟩)
  .have hSE:S=⟨l,o⟩:=by
    rw [<- hS];unfold BO;rw [hE,<- ha,hg,hx];rw [(bZ:k=es.length),uX,uX]
   subst hSE;refine wv (h:=?_);exact hQ _ _ _ _ _ bZ bZ bZ (by simp [s]) eG (by simp [go_sem,Y]) (by simp [go_sem,Y]) (by rw [<- ha];simp [go_sem,Y])
theorem zQ (g:Graph)(p:Part)(more:Graph)(a0 ns es:Xa0)(h0:subF g p=0)(hl:p.h.length<=1000000)(hle:p.i.length<=1000000)(hm:graphF more=0)(ha0:a0.length=more.h.length)
  (hns:∀ x∈ns,0<=x/\x<more.h.length) (hes:∀ x∈es,0<=x/\x<more.i.length) (hnl:ns.length<=1000000) (hel:es.length<=1000000) :
  ACalls prog 187 [g.d,p.d,more.d,.own 0 a0.length,dLI ns,dLI es] (AHeap.an.push 0 ⟨3,1,a0.map cI,false⟩) λd H' =>
   qF H' d=(BO g p more a0 ns es).d/\(BO g p more a0 ns es).d.W=true/\0∉Bz d/\H'.get 0=some ⟨3,1,(Er a0 (bG g p).h.length ns ns.length).map cI,false⟩ :=
 EO g p more a0 ns es h0 hl hle hm ha0 hns hes hnl hel _ λi j n m H' hij hi hj hn hm' h1 h2 h3=>by
  refine ⟨?_,?_,?_,h3⟩
  .simp [go_sem,qF,Graph.d,Graph.c,h1,h2,hn,hm',dLI]
  .simp [go_sem,Graph.d,Graph.c]
  .simp [Bz,dQ,lR];omega
structure Glued where
 a:Rule
 b:Rule
 o:Ovl
 d:Part
 f:Part
def Glued.c (x:Glued):Xa2:=x.a.c++x.b.c++x.o.c++x.d.c++x.f.c
def Glued.dd (x:Glued):D:=.agg x.c
def T2 (n:Nat)(keep:Xa0)(val:Nat->Int):Nat->Xa0
 | 0=>List.replicate n 0
 | k+1=>(T2 n keep val k).set (keep[k]?.getD 0).toNat (val k)
theorem Na (n:Nat)(keep:Xa0)(val:Nat->Int):∀ k,(T2 n keep val k).length=n
 | 0=>by simp [T2]
 | k+1=>by simp only [T2,iU];exact Na n keep val k
def Jm (p into im:Xa0)(k:Nat):Int:=gS p (im[(into[k]?.getD 0).toNat]?.getD 0)
def s8 (g:Graph)(p:Part)(more:Graph)(keep:Part)(into im:Xa0):Graph :=
 BO g p more (T2 more.h.length keep.h (Jm p.h into im) keep.h.length) (aN keep.h more.h.length) (aN keep.i more.i.length)
structure HOk (g:Graph) (p:Part) (more:Graph) (keep:Part) (into im:Xa0):Prop where
 sub:subF g p=0
 lp:p.h.length<=1000000
 fy:p.i.length<=1000000
 mo:graphF more=0
 kn:∀ x∈keep.h,0<=x/\x<more.h.length
 kl:keep.h.length=into.length
 ki:into.length<=1000000
 ini:∀ x∈into,0<=x/\x<im.length
theorem Ra (x:Glued)(J:HOk x.o.j x.d x.a.left.j x.a.u x.a.A.h x.o.left.h):Pua 105 [x.dd] (s8 x.o.j x.d x.a.left.j x.a.u x.a.A.h x.o.left.h).d:=by
 obtain ⟨m,A,p,n,B,N,P,s⟩:=J;have M:=aY n;have L:=dJ x.a.u.h x.a.left.j.h.length;have K:=dJ x.a.u.i x.a.left.j.i.length;have F:cI 0=[D.int .i64 0]:=rfl;refine Tz.pK ⟨λt=>t==2||t==3||t==14||t==69,λr=>match r with|8=>[(0,14),(1,14),(2,14),(3,14),(4,14),(5,14),(14,15),(14,16),(14,17),(14,18),(14,19),(14,20),(14,21),(0,22),(1,22),(2,22),(3,22),(4,22),(5,22)]|_=>[]⟩ func105 rfl (λQ S=>?_);have Y:=xa4 @Glued.dd.eq_1 @Glued.c.eq_1 @Rule.c.eq_1 @Ovl.c.eq_1 @Part.c.eq_1 F;refine wp (h:=bC (λk e H=>∃ g:Xa0,(e 1=.adr x.c/\e 2=.ptr 0 1 0 0/\e 3=.ptr 1 1 0 0/\e 4=.own 2 x.a.left.j.h.length/\e 18=dLI x.a.u.h/\e 19=dI x.a.u.h.length/\e 20=dI k)/\(H.get 0=some ⟨29,2,[[.nil,.nil]],false⟩)/\(0<H.next)/\(H.get 1=some ⟨29,2,[[dLI x.a.left.j.h,.list (x.a.left.j.i.map Edge.c)]],false⟩)/\(1<H.next)/\(H.get 2=some ⟨3,1,g.map cI,false⟩)/\(2<H.next)/\(k<=x.a.u.h.length)/\(g.length=x.a.left.j.h.length)/\(g=T2 x.a.left.j.h.length x.a.u.h (Jm x.d.h x.a.A.h x.o.left.h) k)) (λk=>x.a.u.h.length - k) 0 ⟨(List.replicate x.a.left.j.h.length 0),wg,wn,wn,wn,wn,wn,wn,wi,(by simp),(by rfl)⟩ λV G k e H E=>?_);obtain ⟨g,T,z,l,w,j,v,i,U,b,I⟩:=E;have Y:=xa7 Y T z (bP l) w (bP j) v (bP i) b;refine c8 (λu=>?_) λu=>?_
 .have hk1:k<x.a.A.h.length:=bZ;have R:=s _ (aC hk1);have q:x.a.A.h[k].toNat<x.o.left.h.length:=bZ;have O:=B _ (aC u);have C:x.a.u.h[k].toNat<g.length:=bZ;have Y:=xa4 Y u (aA u) (aA hk1) (aA q) (aA C);refine wp (h:=aI (oL x.d.h _) wl ?_);exact wp (h:=wx G (k+1) ⟨(g.set x.a.u.h[k].toNat (gS x.d.h x.o.left.h[x.a.A.h[k].toNat])),wg,wn,wn,wn,wn,(by simp [go_sem,Y,bJ,cI]),wn,wj,(by simp [b]),(by simp only [T2,Jm,<- I,aA u,aA hk1,aA q,aD])⟩)
 .have hI:k=x.a.u.h.length:=bZ;subst hI;refine wp (h:=aI (iN x.a.u.h x.a.left.j.h.length bZ) wl ?_);refine wp (h:=aI (iN x.a.u.i x.a.left.j.i.length bZ) wl ?_);refine wp (h:=?_);refine FW 2 (zQ x.o.j x.d x.a.left.j g (aN x.a.u.h x.a.left.j.h.length) (aN x.a.u.i x.a.left.j.i.length) m A p n b (λ_ h=>eJ h) (λ_ h=>eJ h) bZ bZ) (λd f=>by
   simp only [aS,eC,or_false] at f;rcases f with rfl|rfl|rfl|rfl|rfl|rfl;all_goals first|(left;simp [go_sem,Graph.d,Graph.c,Part.d,Part.c];done)|(right;simp)) rfl rfl (mO _) (λd f=>by
   simp only [eR,aV] at f;obtain ⟨_,⟨y,_,rfl⟩,f⟩:=f;simp [cI,dI] at f;subst f;rfl) (by simp [go_sem,Y]) (by simp [Yh,b,Graph.d,Graph.c,Part.d,Part.c,dLI]) rfl (by first|trivial|(simp [go_sem];done)|simp [go_sem,BH]) ?_
  exact wp (h:=S _ _ (by simp [go_sem,Y,s8,<- I]))
theorem Pd (x:Glued)(K:HOk x.o.j x.f x.b.right.j x.b.A x.b.u.h x.o.right.h):Pua 106 [x.dd] (s8 x.o.j x.f x.b.right.j x.b.A x.b.u.h x.o.right.h).d:=by
 obtain ⟨n,B,q,p,C,O,R,u⟩:=K;have N:=aY p;have M:=dJ x.b.A.h x.b.right.j.h.length;have L:=dJ x.b.A.i x.b.right.j.i.length;have G:cI 0=[D.int .i64 0]:=rfl;refine Tz.pK ⟨λt=>t==2||t==3||t==14||t==69,λr=>match r with|8=>[(0,14),(1,14),(2,14),(3,14),(4,14),(5,14),(14,15),(14,16),(14,17),(14,18),(14,19),(14,20),(14,21),(0,22),(1,22),(2,22),(3,22),(4,22),(5,22)]|_=>[]⟩ func106 rfl (λQ T=>?_);have Y:=xa4 @Glued.dd.eq_1 @Glued.c.eq_1 @Rule.c.eq_1 @Ovl.c.eq_1 @Part.c.eq_1 G;refine wp (h:=bC (λk e H=>∃ i:Xa0,(e 1=.adr x.c/\e 2=.ptr 0 1 0 0/\e 3=.ptr 1 1 0 0/\e 4=.own 2 x.b.right.j.h.length/\e 18=dLI x.b.A.h/\e 19=dI x.b.A.h.length/\e 20=dI k)/\(H.get 0=some ⟨29,2,[[.nil,.nil]],false⟩)/\(0<H.next)/\(H.get 1=some ⟨29,2,[[dLI x.b.right.j.h,.list (x.b.right.j.i.map Edge.c)]],false⟩)/\(1<H.next)/\(H.get 2=some ⟨3,1,i.map cI,false⟩)/\(2<H.next)/\(k<=x.b.A.h.length)/\(i.length=x.b.right.j.h.length)/\(i=T2 x.b.right.j.h.length x.b.A.h (Jm x.f.h x.b.u.h x.o.right.h) k)) (λk=>x.b.A.h.length - k) 0 ⟨(List.replicate x.b.right.j.h.length 0),wg,wn,wn,wn,wn,wn,wn,wi,(by simp),(by rfl)⟩ λW I k e H F=>?_);obtain ⟨i,U,A,m,z,l,w,j,V,a,J⟩:=F;have Y:=xa7 Y U A (bP m) z (bP l) w (bP j) a;refine c8 (λv=>?_) λv=>?_
 .have hk1:k<x.b.u.h.length:=bZ;have S:=u _ (aC hk1);have s:x.b.u.h[k].toNat<x.o.right.h.length:=bZ;have P:=C _ (aC v);have E:x.b.A.h[k].toNat<i.length:=bZ;have Y:=xa4 Y v (aA v) (aA hk1) (aA s) (aA E);refine wp (h:=aI (oL x.f.h _) wl ?_);exact wp (h:=wx I (k+1) ⟨(i.set x.b.A.h[k].toNat (gS x.f.h x.o.right.h[x.b.u.h[k].toNat])),wg,wn,wn,wn,wn,(by simp [go_sem,Y,bJ,cI]),wn,wj,(by simp [a]),(by simp only [T2,Jm,<- J,aA v,aA hk1,aA s,aD])⟩)
 .have hI:k=x.b.A.h.length:=bZ;subst hI;refine wp (h:=aI (iN x.b.A.h x.b.right.j.h.length bZ) wl ?_);refine wp (h:=aI (iN x.b.A.i x.b.right.j.i.length bZ) wl ?_);refine wp (h:=?_);refine FW 2 (zQ x.o.j x.f x.b.right.j i (aN x.b.A.h x.b.right.j.h.length) (aN x.b.A.i x.b.right.j.i.length) n B q p a (λ_ h=>eJ h) (λ_ h=>eJ h) bZ bZ) (λd g=>by
   simp only [aS,eC,or_false] at g;rcases g with rfl|rfl|rfl|rfl|rfl|rfl;all_goals first|(left;simp [go_sem,Graph.d,Graph.c,Part.d,Part.c];done)|(right;simp)) rfl rfl (mO _) (λd g=>by
   simp only [eR,aV] at g;obtain ⟨_,⟨y,_,rfl⟩,g⟩:=g;simp [cI,dI] at g;subst g;rfl) (by simp [go_sem,Y]) (by simp [Yh,a,Graph.d,Graph.c,Part.d,Part.c,dLI]) rfl (by first|trivial|(simp [go_sem];done)|simp [go_sem,BH]) ?_
  exact wp (h:=T _ _ (by simp [go_sem,Y,s8,<- J]))
def eM:Rule:=⟨⟨#[]⟩,⟨⟨[],[]⟩,[],0,[]⟩,⟨⟨[],[]⟩,[],0,[]⟩,⟨[],[]⟩,⟨[],[]⟩,false,.mk 0 [] ⟨[],[]⟩ ⟨⟨[],[]⟩,[],0,[]⟩⟩
def xG:Ovl:=⟨⟨[],[]⟩,⟨[],[]⟩,⟨[],[]⟩⟩
def y5:Glued:=⟨eM,eM,xG,⟨[],[]⟩,⟨[],[]⟩⟩
def concName:ByteArray:=⟨#[99,111,110,99,117,114,114,101,110,116]⟩
def zH:Cond:=.mk 1 [] ⟨[],[]⟩ ⟨⟨[],[]⟩,[],0,[]⟩
def concOf (l r:Graph)(d f:Part):Rule:=⟨concName,⟨l,[],0,[]⟩,⟨r,[],0,[]⟩,⟨mT d.h f.h d.h.length,mT d.i f.i d.i.length⟩,⟨lY d.h f.h d.h.length,lY d.i f.i d.i.length⟩,true,zH⟩
def bigB (g:Graph):Bool:=decide (40<g.h.length)||decide (80<g.i.length)
def Glued.l (x:Glued):Graph:=s8 x.o.j x.d x.a.left.j x.a.u x.a.A.h x.o.left.h
def Glued.r (x:Glued):Graph:=s8 x.o.j x.f x.b.right.j x.b.A x.b.u.h x.o.right.h
def tD (x:Glued):Int:=if (bigB x.l||bigB x.r)=true then 3 else 0
def Cd (x:Glued):Rule:=if tD x=0 then concOf x.l x.r x.d x.f else eM
theorem Q9 (x:Glued)(k:HOk x.o.j x.d x.a.left.j x.a.u x.a.A.h x.o.left.h)(j:HOk x.o.j x.f x.b.right.j x.b.A x.b.u.h x.o.right.h):Pua 44 [x.dd] (.tup [(Cd x).d,dI (tD x)]):=by
 have p:=Ra x k;have m:=Pd x j;have q:=k.lp;have s:=k.fy;obtain ⟨l,g⟩:=gI (x.l);obtain ⟨r,e⟩:=gI (x.r);rw [show s8 x.o.j x.d x.a.left.j x.a.u x.a.A.h x.o.left.h=l from g] at p;rw [show s8 x.o.j x.f x.b.right.j x.b.A x.b.u.h x.o.right.h=r from e] at m;refine pH (by first|rfl|(simp [go_sem];done)) (λQ n=>(Tz.cK ⟨λt=>t==2||t==4||t==5||t==6,λr=>match r with|1=>[(0,4),(1,4),(2,4),(3,4),(0,5),(1,5),(2,5),(3,5),(4,5)]|_=>[]⟩ func44 rfl ?_));have Y:=xa3 @Glued.dd.eq_1 @Glued.c.eq_1 @Rule.c.eq_1 @Ovl.c.eq_1 @Part.c.eq_1;refine lZ (h:=aI (p) wl ?_);refine lZ (h:=aI (m) wl ?_);refine oP (h:=wq (λj=>?_) λj=>?_)
 .have hE:tD x=3:=by unfold tD;rw [g,e,if_pos (by simp [bigB];omega)]
  have i:Cd x=eM:=by unfold Cd;rw [if_neg (by rw [hE];simp)]
  refine lZ (h:=?_);exact n _ _ (by simp [go_sem,Y,hE,i,eM,Rule.d,c7,f8,Cond.F,Cond.w,Cond.map,Cond.n])
 .have hE:tD x=0:=by unfold tD;rw [g,e,if_neg (by simp [bigB];omega)]
  have i:Cd x=concOf l r x.d x.f:=by unfold Cd;rw [if_pos hE,g,e]
  refine lZ (h:=aB (vX x.d.h x.f.h q) wl ?_);refine lZ (h:=aB (vX x.d.i x.f.i s) wl ?_);refine lZ (h:=?_);exact n _ _ (by simp [go_sem,Y,hE,i,concOf,concName,zH,Rule.d,c7,f8,Cond.F,Cond.w,Cond.map,Cond.n])
theorem AF (l:List Slot):eU (l.map Slot.c)=l.map Slot.c:=jL λc hc=>by
 rw [aV] at hc;obtain ⟨x,_,rfl⟩:=hc;rfl
theorem AE (l:List Test):eU (l.map Test.c)=l.map Test.c:=jL λc hc=>by
 rw [aV] at hc;obtain ⟨x,_,rfl⟩:=hc;rfl
theorem WC (c:Cond):jM c.c=c.c:=by
 refine Cond.bm (p:=λc=>jM c.c=c.c) (λc b=>?_) c;rw [Cond.E];have f:eU (c.w.map Cond.c)=c.w.map Cond.c:=jL λd a=>by
  rw [aV] at a;obtain ⟨x,e,rfl⟩:=a;exact b x e
 simp [jM,mM,dLI,dI,c7,f8,AF,AE,f]
theorem Dm (l:List Cond):eU (l.map Cond.c)=l.map Cond.c:=jL λc hc=>by
 rw [aV] at hc;obtain ⟨x,_,rfl⟩:=hc;exact WC x
@[go_sem] theorem Glued.W (x:Glued):x.dd.W=true:=by simp [go_sem,Glued.dd,Glued.c,Rule.c,Ovl.c,Part.c]
def If (r:Rule):Part:=⟨kJ r.A.h,kJ r.A.i⟩
def mU (a b:Rule)(o:Ovl):Int :=
 if cY a.right.j o.j o.left≠0 then cY a.right.j o.j o.left
 else if cY b.left.j o.j o.right≠0 then cY b.left.j o.j o.right
 else if (jN a.right.j o.j o.left&&(jN b.left.j o.j o.right&&jointB a.right.j b.left.j o.j o.left o.right))=false then 1
 else if jC a.right.j o.j (If a) o.left≠0\/jC b.left.j o.j b.u o.right≠0 then 14 else 0
def nG (a b:Rule)(o:Ovl):Glued:=if mU a b o=0 then ⟨a,b,o,j4 a.right.j o.j (If a) o.left,j4 b.left.j o.j b.u o.right⟩ else y5
theorem NO (xs:Xa0):(kJ xs).length=xs.length:=lO xs
theorem pB (a b:Rule)(o:Ovl)(ha:a.ok)(hb:b.ok):Pua 28 [a.d,b.d,o.d] (.tup [(nG a b o).dd,dI (mU a b o)]):=by
 have hi1:=ha.i1
 have hi2:=ha.i2
 have hk1:=hb.k1
 have hs1:=NO a.A.h
 refine pH (by first|rfl|(simp [go_sem];done)) (λQ hQ=>(Tz.cK ⟨λt=>t==6||t==10||t==12,λr=>match r with|9=>[(0,20),(1,20),(2,20),(3,20),(4,20),(5,20),(6,20),(7,20),(8,20),(9,20),(10,20),(11,20),(12,20),(14,20),(15,20),(16,20)]|_=>[]⟩ func28 rfl ?_))
 have Y:=xa5 @Ovl.d.eq_1 @Ovl.c.eq_1 @Part.c.eq_1 @Part.d.eq_1 @Glued.dd.eq_1 @Glued.c.eq_1 @Rule.c.eq_1
 refine wv (h:=aB (gQ a.right.j o.j o.left) wl ?_)
 refine c8 (λh2=>?_) λh2=>?_
 .have hE:mU a b o=cY a.right.j o.j o.left:=if_pos h2
  have hZ:nG a b o=y5:=if_neg (by rw [hE];exact h2)
  refine wv (h:=?_)
  exact hQ _ _ (by simp [go_sem,hE,hZ,y5,eM,xG,Glued.dd,Glued.c,Rule.c,Ovl.c,Part.c,c7,f8,Cond.F,Cond.w,Cond.map,Cond.n])
 .have hE2:¬ cY a.right.j o.j o.left≠0:=by rw [h2];simp
  obtain ⟨hg1,hgo,hl1,hl2⟩:=dA h2
  have hle1:=aY hg1
  have hleo:=aY hgo
  refine wv (h:=aB (gQ b.left.j o.j o.right) wl ?_)
  refine c8 (λh5=>?_) λh5=>?_
  .have hE:mU a b o=cY b.left.j o.j o.right:=by unfold mU;rw [if_neg hE2,if_pos h5]
   have hZ:nG a b o=y5:=if_neg (by rw [hE];exact h5)
   refine wv (h:=?_)
   exact hQ _ _ (by simp [go_sem,hE,hZ,y5,eM,xG,Glued.dd,Glued.c,Rule.c,Ovl.c,Part.c,c7,f8,Cond.F,Cond.w,Cond.map,Cond.n])
  .have hE5:¬ cY b.left.j o.j o.right≠0:=by rw [h5];simp
   obtain ⟨hg2,_,hl3,hl4⟩:=dA h5
   have hle2:=aY hg2
   refine wp (h:=aB (iY a.right.j o.j o.left bZ bZ) wl ?_)
   refine wp (h:=aG (λhg=>iY b.left.j o.j o.right bZ bZ) (λhg=>wl) ?_)
   refine wp (h:=aG (λhg=>Iz a.right.j b.left.j o.j o.left o.right bZ bZ) (λhg=>wl) ?_)
   refine kI (λh7=>?_) λh7=>?_
   .have hJ:(jN a.right.j o.j o.left&&(jN b.left.j o.j o.right&&jointB a.right.j b.left.j o.j o.left o.right))=false:=by
     rw [aW];intro hh;simp only [aL] at hh;simp [hh.1,hh.2.1,hh.2.2] at h7
    have hE:mU a b o=1:=by unfold mU;rw [if_neg hE2,if_neg hE5,if_pos hJ]
    have hZ:nG a b o=y5:=if_neg (by rw [hE];simp)
    refine wv (h:=?_)
    exact hQ _ _ (by simp [go_sem,hE,hZ,y5,eM,xG,Glued.dd,Glued.c,Rule.c,Ovl.c,Part.c,c7,f8,Cond.F,Cond.w,Cond.map,Cond.n])
   .have hJ:¬ (jN a.right.j o.j o.left&&(jN b.left.j o.j o.right&&jointB a.right.j b.left.j o.j o.left o.right))=false:=by
     intro hh;revert h7 hh;cases jN a.right.j o.j o.left<;>cases jN b.left.j o.j o.right<;>cases jointB a.right.j b.left.j o.j o.left o.right<;>simp
    obtain ⟨P1,hP1⟩:∃ x,x=j4 a.right.j o.j (If a) o.left:=⟨_,rfl⟩
    obtain ⟨E1,hE1⟩:∃ x,x=jC a.right.j o.j (If a) o.left:=⟨_,rfl⟩
    obtain ⟨P2,hP2⟩:∃ x,x=j4 b.left.j o.j b.u o.right:=⟨_,rfl⟩
    obtain ⟨E2,hE2'⟩:∃ x,x=jC b.left.j o.j b.u o.right:=⟨_,rfl⟩
    refine wv (h:=aI (vW a.A.h hi1) wl ?_)
    refine wv (h:=aI (vW a.A.i hi2) wl ?_)
    refine wv (h:=aI (wL a.right.j o.j (If a) o.left (by show (kJ a.A.h).length<=1000000;omega) bZ bZ bZ bZ) wl ?_)
    refine wv (h:=aB (wL b.left.j o.j b.u o.right hk1 bZ bZ bZ bZ) wl ?_)
    refine kI (λh11=>?_) λh11=>?_
    .have hE:mU a b o=14:=by unfold mU;rw [if_neg hE2,if_neg hE5,if_neg hJ,if_pos (by rw [<- hE1,<- hE2'];omega)]
     have hZ:nG a b o=y5:=if_neg (by rw [hE];simp)
     refine wv (h:=?_)
     exact hQ _ _ (by simp [go_sem,hE,hZ,y5,eM,xG,Glued.dd,Glued.c,Rule.c,Ovl.c,Part.c,c7,f8,Cond.F,Cond.w,Cond.map,Cond.n])
    .have hE:mU a b o=0:=by unfold mU;rw [if_neg hE2,if_neg hE5,if_neg hJ,if_neg (by rw [<- hE1,<- hE2'];omega)]
     have hZ:nG a b o=⟨a,b,o,P1,P2⟩:=by unfold nG;rw [if_pos hE,hP1,hP2]
     refine wv (h:=?_)
     exact hQ _ _ (by simp [go_sem,Y,hE,hZ,hP1,hP2,Glued.dd,Glued.c,Rule.c,Ovl.c,Part.c,c7,f8,AF,AE,Dm])
theorem Sr {p:Pattern}(h:fewP p=true):p.j.h.length<=45/\p.j.i.length<=90/\p.q.length<=15/\p.I.length<=15:=by
 simp [fewP,fewG] at h;omega
theorem uN {r:Rule}(h:fewR r=true):r.ok/\r.aq:=by
 simp only [fewR,aL,decide_eq_true_eq] at h;obtain ⟨⟨⟨⟨⟨j,f⟩,e⟩,d⟩,c⟩,a⟩:=h;have i:=Sr f;have g:=Sr e;simp [fewPart] at d c;simp [fewC] at a;have b:=Dv r.cond 40 bZ a;exact ⟨⟨bZ,bZ,bZ,bZ,bZ,b.1,bZ⟩,bZ,bZ,bZ⟩
@[go_sem] theorem XW (x:Slot):qY x.c=some [x.node,x.P,x.C.R,x.C.add]:=rfl
@[go_sem] theorem XV (x:Test):qY x.c=some [x.F,x.left.R,x.left.add,x.right.R,x.right.add]:=rfl
/-! ### each thing is the same as itself -/
theorem Gl (a:Xa0):Pua 97 [dLI a,dLI a] (.bool true):=by
 refine Tz.p0 func97 rfl λQ f Y=>?_;refine wo (h:=bC (λi e H=>(e 0=dLI a/\e 1=dLI a/\e 5=dI i)/\(i<=a.length)) (λi=>a.length - i) 0 ⟨wg,wi⟩ λk d i e H c=>?_);obtain ⟨g,j⟩:=c;have Y:=wa Y g;refine wv (h:=?_);repeat first|intro _|refine ⟨iF,?_⟩
 refine wq (λb=>?_) λb=>?_
 .have Y:=xa1 Y b (aA b);exact wo (h:=wx d (i+1) ⟨wg,wj⟩)
 .have Y:=wa Y b;exact wv (h:=f _ _ wy)
theorem zK (a:Xa0):Pua 55 [dLI a,dLI a] (.bool true):=by
 refine Tz.p0 func55 rfl λQ f Y=>?_;refine wo (h:=bC (λi e H=>(e 0=dLI a/\e 1=dLI a/\e 5=dI i)/\(i<=a.length)) (λi=>a.length - i) 0 ⟨wg,wi⟩ λk d i e H c=>?_);obtain ⟨g,j⟩:=c;have Y:=wa Y g;refine wv (h:=?_);repeat first|intro _|refine ⟨iF,?_⟩
 refine wq (λb=>?_) λb=>?_
 .have Y:=xa1 Y b (aA b);exact wo (h:=wx d (i+1) ⟨wg,wj⟩)
 .have Y:=wa Y b;exact wv (h:=f _ _ wy)
theorem Ou (g:Graph):Pua 54 [g.d,g.d] (.bool true):=by
 refine Tz.p0 func54 rfl λQ j Y=>?_;refine wo (h:=aB (Gl g.h) wl ?_);refine wo (h:=bC (λi e H=>(e 2=.adr g.c/\e 3=.adr g.c/\e 5=dI i)/\(i<=g.i.length)) (λi=>g.i.length - i) 0 ⟨wg,wi⟩ λm f i e H b=>?_);obtain ⟨k,l⟩:=b;have Y:=wa Y k;refine wv (h:=?_);repeat first|intro _|refine ⟨iF,?_⟩
 refine wq (λa=>?_) λa=>?_
 .have Y:=xa1 Y a (aA a);exact wo (h:=wx f (i+1) ⟨wg,wj⟩)
 .have Y:=wa Y a;exact wv (h:=j _ _ wy)
theorem Ay (p:Part):Pua 16 [p.d,p.d] (.bool true):=by
 refine Tz.p0 func16 rfl λQ b Y=>?_;refine wo (h:=aB (zK p.h) wl ?_);refine wo (h:=aG (λa=>zK p.i) (λa=>wl) ?_);exact wo (h:=b _ _ wy)
structure Rule.bare (r:Rule):Prop where
 ls:r.left.q=[]
 lt:r.left.I=[]
 rs:r.right.q=[]
 rt:r.right.I=[]
 ck:r.cond.w=[]
 cs:r.cond.n.q=[]
 ct:r.cond.n.I=[]
theorem Cg (o:Ovl):Pua 15 [o.d,o.d] (.bool true):=by
 refine Tz.p0 func15 rfl λQ b _=>?_;have Y:=wa @Ovl.d.eq_1 @Ovl.c.eq_1;refine wo (h:=aB (Ou o.j) wl ?_);refine wo (h:=aG (λa=>Ay o.left) (λa=>wl) ?_);refine wo (h:=aG (λa=>Ay o.right) (λa=>wl) ?_);exact wo (h:=b _ _ wy)
def Y9 (o:Ovl):Bool:=fewG o.j&&(fewPart o.left 140&&fewPart o.right 140)
theorem Ew (o:Ovl)(e:o.left.le)(b:o.right.le):Pua 7 [o.d] (.bool (Y9 o)):=by
 refine Tz.p0 func7 rfl λQ f _=>?_;have Y:=wa @Ovl.d.eq_1 @Ovl.c.eq_1;refine wo (h:=aB (xA o.j) wl ?_);refine wo (h:=aG (λa=>rI o.left e 140) (λa=>wl) ?_);refine wo (h:=aG (λa=>rI o.right b 140) (λa=>wl) ?_);exact wo (h:=f _ _ (by simp [go_sem,Y9,gA]))
def mE (t:Types)(r:Rule):Bool:=sV t&&fewR r&&(decide (ruleF t r≠0)||(decide (r.left.j.h.length<=3)&&decide (r.left.j.i.length<=3)&&decide (r.right.j.h.length<=4)&&decide (r.right.j.i.length<=4)))
theorem Cf (t:Types)(hta:∀ n∈t.h,n.y.length<=1000000000000000)(r:Rule)(hr:r.le):Pua 20 [t.d,r.d] (.bool (mE t r)):=by
 refine Tz.pK ⟨λt=>t==5||t==6,λr=>match r with|5=>[(0,6),(1,6),(2,6),(3,6),(4,6),(5,6),(0,7),(1,7),(2,7),(3,7),(4,7),(5,7),(6,7),(3,8),(4,8),(5,8)]|_=>[]⟩ func20 rfl (λQ hQ=>?_)
 have Y:=trivial
 refine wo (h:=aB (EA t hta) wl ?_)
 refine wo (h:=aG (λhg=>KD r hr) (λhg=>wl) ?_)
 refine dW (λh1=>?_) λh1=>?_
 .have hS:mE t r=false:=by
   unfold mE;revert h1;cases sV t<;>cases fewR r<;>simp
  exact wv (h:=hQ _ _ (by simp [go_sem,hS]))
 .have hT:sV t=true:=by revert h1;cases sV t<;>cases fewR r<;>simp
  have hR:fewR r=true:=by revert h1;cases sV t<;>cases fewR r<;>simp
  refine wv (h:=aB (Ar t (DG hT) r (uN hR).1) wl ?_)
  refine c8 (λh3=>?_) λh3=>?_
  .have hS:mE t r=true:=by unfold mE;rw [hT,hR];simp [h3]
   exact wv (h:=hQ _ _ (by simp [go_sem,hS]))
  .have hS:mE t r=(decide (r.left.j.h.length<=3)&&decide (r.left.j.i.length<=3)&&decide (r.right.j.h.length<=4)&&decide (r.right.j.i.length<=4)):=by unfold mE;rw [hT,hR];simp [h3]
   exact wo (h:=hQ _ _ (by simp [go_sem,hS];rw [aU];simp;omega))
theorem Q1 (t:Types)(d:∀ n∈t.h,n.y.length<=1000000000000000)(a b:Rule)(g:a.le)(f:b.le):Pua 6 [.agg (t.c++a.c++b.c)] (.bool (mE t a&&mE t b)):=by
 refine Tz.p0 func6 rfl λQ i _=>?_;have Y:=wa @Types.c.eq_1 @Rule.c.eq_1;refine wo (h:=aB (Cf t d a g) wl ?_);refine wo (h:=aG (λe=>Cf t d b f) (λe=>wl) ?_);exact wo (h:=i _ _ wy)
theorem wI (l:Xa0)(n:Nat):aN l (n+1)=aN l n++(if (!mem l n)=true then [(n:Int)] else []):=b8 _ n
def JS (base:Nat)(p kept im:Xa0)(j:Nat):Int:=if mem kept j=true then gS p (im[(gS kept j).toNat]?.getD 0) else ((base+(aN kept j).length:Nat):Int)
def Df (base:Nat)(p kept im:Xa0)(n:Nat):Xa0:=(List.range n).map (JS base p kept im)
theorem Ts (base:Nat)(p kept a:Xa0)(n:Nat):Df base p kept a (n+1)=Df base p kept a n++[JS base p kept a n]:=by simp [Df,dM]
theorem HP (base:Nat)(p kept a:Xa0)(n:Nat):(Df base p kept a n).length=n:=by simp [Df]
def fV (g:Graph)(p:Part)(more:Graph)(kept:Part)(im:Xa0):Graph :=
 ⟨(bG g p).h++(aN kept.h more.h.length).map (FI more),(bG g p).i++(aN kept.i more.i.length).map λn=>qP more (Df (bG g p).h.length p.h kept.h im more.h.length) n.toNat⟩
theorem qN {l:Xa0}{v:Int}(h:mem l v=true):0<=gS l v/\(gS l v).toNat<l.length/\l[(gS l v).toNat]?=some v:=by
 obtain ⟨i,e,f⟩:=aO ((mem_iff l v).1 h);have b:0<=gS l v:=by simpa [mem] using h
 unfold gS at b ⊢;cases a:l.findIdx? (λx=>decide (x=v)) with
 | none=>rw [a] at b;simp at b
 | some k =>
  rw [gK] at a;obtain ⟨d,c,_⟩:=a;simp only [decide_eq_true_eq] at c;exact ⟨by simp,by simpa using d,by simp [d,c]⟩
theorem Fr (g:Graph)(p:Part)(a:Graph)(kept:Part)(m:Xa0)(h0:subF g p=0)(hl:p.h.length<=1000000)(U:p.i.length<=1000000)(hm:graphF a=0)(hk:kept.h.length<=m.length)(hi:m.length<=1000000) :
  Pua 194 [g.d,p.d,a.d,kept.d,dLI m] (fV g p a kept m).d:=by
 have c0:=aY hm;have b5:∀ x∈a.i,(0<=x.B/\x.B<a.h.length)/\(0<=x.O/\x.O<a.h.length):=λx hx=>((dO hm).2 x hx).2;obtain ⟨E,hE⟩:=gI (bG g p);have hX:=HF g p h0 hl U;have c3:E.h.length<=1000000/\E.i.length<=1000000:=by rw [<- hE];unfold bG;rw [if_pos h0];simp;exact ⟨hl,U⟩
 obtain ⟨S,hS⟩:=gI (fV g p a kept m);rw [hE] at hX;rw [hS];refine Tz.pK ⟨λt=>t==10||t==11||t==12||t==14||t==18,λr=>match r with|9=>[(0,7),(1,7)]|16=>[(0,15),(1,15)]|_=>[]⟩ func194 rfl (λQ hQ=>?_);have Y:=trivial;refine wv (h:=F3 (hX) (by first|rfl|(simp [go_sem];done)) (by constructor<;>(simp [go_sem,j8,mV,v8,rW]<;>omega)) ?_);refine wv (h:=bC (λi e H=>∃ b:Xa0,∃ o:Xa0,(e 4=dLI m/\e 6=.adr p.c/\e 7=.adr a.c/\e 8=.adr kept.c/\e 10=.ptr 0 1 0 0/\e 11=.ptr 3 1 0 0/\e 14=.own 5 b.length/\e 15=dI i)/\(H.get 0=some ⟨29,2,[[.nil,.nil]],false⟩)/\(0<H.next)/\(H.get 1=some ⟨3,1,o.map cI,false⟩)/\(1<H.next)/\(H.get 2=some ⟨153,3,E.i.map Edge.c,false⟩)/\(2<H.next)/\(H.get 3=some ⟨29,2,[[.own 1 o.length,.own 2 E.i.length]],false⟩)/\(3<H.next)/\(H.get 5=some ⟨3,1,b.map cI,false⟩)/\(5<H.next)/\(i<=a.h.length)/\(b=Df E.h.length p.h kept.h m i)/\(o=E.h++(aN kept.h i).map (FI a))) (λi=>a.h.length - i) 0 ⟨([]),E.h,wg,wn,wn,wn,wn,wn,wn,wn,wn,wn,wn,wi,(by rfl),(by simp [aN])⟩ λI0 a2 i e H X=>?_);obtain ⟨b,o,E0,b2,T,b0,P,a8,N,a6,L,a4,J,hi,u,A⟩:=X;have Y:=xb0 Y E0 b2 (bP T) b0 (bP P) a8 (bP N) a6 (bP L) a4 (bP J);refine kI (λh4=>?_) λh4=>?_
 .have hst:=wI kept.h i;have z:=Ts E.h.length p.h kept.h m i;have b7:o.length=E.h.length+(aN kept.h i).length:=by rw [A];simp
  have b3:b.length=i:=by rw [u,HP]
  have b4:=dJ kept.h i;have Y:=xa1 Y h4 (aA h4);refine wv (h:=aB (iP kept.h i) wl ?_);refine c8 (λh7=>?_) λh7=>?_
  .have hm7:mem kept.h i=false:=by rw [aW];simp [mem];omega
   rw [if_pos (by rw [hm7];rfl)] at hst;have F:JS E.h.length p.h kept.h m i=(o.length:Int):=by unfold JS;rw [if_neg (by rw [hm7];simp),b7]
   rw [F] at z;obtain ⟨s,j⟩:∃ x,x=b++[(o.length:Int)]:=⟨_,rfl⟩;obtain ⟨w,l⟩:∃ x,x=o++[a.h[i]]:=⟨_,rfl⟩;have D:s=Df E.h.length p.h kept.h m (i+1):=by rw [j,z,u]
   have G:w=E.h++(aN kept.h (i+1)).map (FI a):=by rw [l,hst,List.map_append,<- List.append_assoc,<- A];simp [FI,aA h4]
   have Y:=xa1 Y j l;exact wp (h:=wx a2 (i+1) ⟨s,w,wg,wn,wn,wn,wn,wn,wn,wn,wn,wn,wn,wj,(by exact D),(by exact G)⟩)
  .have hm7:mem kept.h i=true:=by simp [mem];omega
   rw [if_neg (by rw [hm7];simp)] at hst;obtain ⟨X,c1,W⟩:=qN hm7;have V:(gS kept.h i).toNat<m.length:=bZ;have F:JS E.h.length p.h kept.h m i=gS p.h m[(gS kept.h i).toNat]:=by unfold JS;rw [if_pos hm7,aA V];rfl
   rw [F] at z;obtain ⟨s,j⟩:∃ x,x=b++[gS p.h m[(gS kept.h i).toNat]]:=⟨_,rfl⟩;obtain ⟨w,l⟩:∃ x,x=o:=⟨_,rfl⟩;have D:s=Df E.h.length p.h kept.h m (i+1):=by rw [j,z,u]
   have G:w=E.h++(aN kept.h (i+1)).map (FI a):=by rw [l,hst,cZ,A]
   have Y:=xa2 Y j l (aA V);refine wp (h:=aI (iP p.h m[(gS kept.h i).toNat]) wl ?_);exact wp (h:=wx a2 (i+1) ⟨s,w,wg,wn,wn,wn,wn,wn,wn,wn,wn,wn,wn,wj,(by exact D),(by exact G)⟩)
 .have hI:i=a.h.length:=bZ;subst hI;have b3:b.length=a.h.length:=by rw [u,HP]
  refine wv (h:=bC (λk e H=>∃ B:List Edge,(e 7=.adr a.c/\e 8=.adr kept.c/\e 10=.ptr 0 1 0 0/\e 11=.ptr 3 1 0 0/\e 14=.own 5 b.length/\e 17=dI k)/\(H.get 0=some ⟨29,2,[[.nil,.nil]],false⟩)/\(0<H.next)/\(H.get 1=some ⟨3,1,o.map cI,false⟩)/\(1<H.next)/\(H.get 2=some ⟨153,3,B.map Edge.c,false⟩)/\(2<H.next)/\(H.get 3=some ⟨29,2,[[.own 1 o.length,.own 2 B.length]],false⟩)/\(3<H.next)/\(H.get 5=some ⟨3,1,b.map cI,false⟩)/\(5<H.next)/\(k<=a.i.length)/\(B=E.i++(aN kept.i k).map (λn=>qP a b n.toNat))) (λk=>a.i.length - k) 0 ⟨E.i,wg,wn,wn,wn,wn,wn,wn,wn,wn,wn,wn,wi,(by simp [aN])⟩ λI2 a1 k e H W=>?_);obtain ⟨B,E2,b1,R,a9,O,a7,M,a5,K,a3,I,hk,y⟩:=W;have Y:=xb0 Y E2 b1 (bP R) a9 (bP O) a7 (bP M) a5 (bP K) a3 (bP I);refine kI (λv=>?_) λv=>?_
  .have hst:=wI kept.i k;have b4:=dJ kept.i k;have b9:B.length=E.i.length+(aN kept.i k).length:=by rw [y];simp
   have Y:=xa1 Y v (aA v);refine wp (h:=aB (iP kept.i k) wl ?_);refine kI (λb8=>?_) λb8=>?_
   .have hm15:mem kept.i k=false:=by rw [aW];simp [mem];omega
    rw [if_pos (by rw [hm15];rfl)] at hst;have c2:=b5 _ (aC v);have a0:a.i[k].B.toNat<b.length:=bZ;have Z:a.i[k].O.toNat<b.length:=bZ;have b6:qP a b k=⟨a.i[k].type,b[a.i[k].B.toNat],b[a.i[k].O.toNat]⟩:=by simp only [qP,aA v,aD,aA a0,aA Z]
    obtain ⟨q,f⟩:∃ x,x=B++[(⟨a.i[k].type,b[a.i[k].B.toNat],b[a.i[k].O.toNat]⟩:Edge)]:=⟨_,rfl⟩;have C:q=E.i++(aN kept.i (k+1)).map (λn=>qP a b n.toNat):=by rw [f,hst,List.map_append,<- List.append_assoc,<- y];simp [b6]
    have Y:=xa3 Y f (aA a0) (aA Z) @Edge.c.eq_1;exact wp (h:=wx a1 (k+1) ⟨q,wg,wn,wn,wn,wn,wn,wn,wn,wn,wn,wn,wj,(by exact C)⟩)
   .have hm15:mem kept.i k=true:=by simp [mem];omega
    rw [if_neg (by rw [hm15];simp)] at hst;obtain ⟨q,f⟩:∃ x,x=B:=⟨_,rfl⟩;have C:q=E.i++(aN kept.i (k+1)).map (λn=>qP a b n.toNat):=by rw [f,hst,cZ,y]
    have Y:=wa Y f;exact wp (h:=wx a1 (k+1) ⟨q,wg,wn,wn,wn,wn,wn,wn,wn,wn,wn,wn,wj,(by exact C)⟩)
  .have hSE:S=⟨o,B⟩:=by
    rw [<- hS];unfold fV;rw [hE,<- u,<- A,y,(bZ:k=a.i.length)]
   subst hSE;exact wv (h:=hQ _ _ (by simp [go_sem,Y,Graph.d,Graph.c,dLI]))
theorem Fq (g:Graph)(c:g.h.length<=1000000)(b:g.i.length<=1000000):Pua 115 [g.d] (.bool (bigB g)):=by
 refine Tz.p0 func115 rfl λQ a Y=>?_;have Y:=wa Y @bigB.eq_1;exact wo (h:=a _ _ wy)
def vP (r:Rule):Part:=⟨r.A.h,r.A.i⟩
def zZ (a b:Rule)(o:Ovl)(d f:Part):Graph:=fV o.j d a.left.j a.u (uL a.A.h o.left.h)
def wE (a b:Rule)(o:Ovl)(d f:Part):Graph:=fV o.j f b.right.j (vP b) (uL b.u.h o.right.h)
theorem Dw (l by_:Xa0):(uL l by_).length=l.length:=by simp [uL]
structure ROk (a b:Rule) (o:Ovl) (d f:Part):Prop where
 sd:subF o.j d=0
 sf:subF o.j f=0
 ld:d.h.length<=1000
 e7:d.i.length<=1000
 lf:f.h.length<=1000
 fp:f.i.length<=1000
 ga:graphF a.left.j=0
 gb:graphF b.right.j=0
 ka:a.u.h.length=a.A.h.length
 kb:b.u.h.length=b.A.h.length
 la:a.A.h.length<=1000000
 lb:b.A.h.length<=1000000
 ia:∀ x∈a.A.h,0<=x/\x<o.left.h.length
 ib:∀ x∈b.u.h,0<=x/\x<o.right.h.length
theorem Ev (a b:Rule)(o:Ovl)(d f:Part)(h:ROk a b o d f):Pua 114 [a.d,b.d,o.d,d.d,f.d] (concOf (zZ a b o d f) (wE a b o d f) d f).d:=by
 obtain ⟨j,i,z,r,y,q,p,n,C,B,k,A,m,l⟩:=h;have w:=Dw a.A.h o.left.h;have v:=Dw b.u.h o.right.h;have g:=Fr o.j d a.left.j a.u (uL a.A.h o.left.h) j bZ bZ p bZ bZ;have e:=Fr o.j f b.right.j (vP b) (uL b.u.h o.right.h) i bZ bZ n (by show b.A.h.length<=_;omega) bZ;obtain ⟨L,u⟩:∃ x,zZ a b o d f=x:=⟨_,rfl⟩;obtain ⟨R,s⟩:∃ x,wE a b o d f=x:=⟨_,rfl⟩;rw [show fV o.j d a.left.j a.u (uL a.A.h o.left.h)=L from u] at g;rw [show fV o.j f b.right.j (vP b) (uL b.u.h o.right.h)=R from s] at e;rw [u,s];refine pH (by first|rfl|(simp [go_sem];done)) (λQ D=>(Tz.cK ⟨λt=>t==10||t==11||t==12,λ_=>[]⟩ func114 rfl ?_));have Y:=xa3 @Ovl.d.eq_1 @Ovl.c.eq_1 @Part.c.eq_1 @Part.d.eq_1 @Rule.c.eq_1;refine wv (h:=aI (KC a.A.h o.left.h k m) wl ?_);refine wv (h:=aI (g) wl ?_);refine wv (h:=aI (KC b.u.h o.right.h bZ l) wl ?_);refine wv (h:=aI (e) wl ?_);refine wv (h:=aB (C6 d.h f.h bZ) wl ?_);refine wv (h:=aB (C6 d.i f.i bZ) wl ?_);refine wv (h:=?_);exact D _ _ (by simp [go_sem,Y,concOf,concName,zH,Rule.d,c7,f8,Cond.F,Cond.w,Cond.map,Cond.n])
def eW (a b:Rule)(o:Ovl):Int :=
 if cY a.right.j o.j o.left≠0 then cY a.right.j o.j o.left
 else if cY b.left.j o.j o.right≠0 then cY b.left.j o.j o.right
 else if (jN a.right.j o.j o.left&&(jN b.left.j o.j o.right&&jointB a.right.j b.left.j o.j o.left o.right))=false then 1
 else if jC a.right.j o.j ⟨O8 a.A.h a.right.j.h.length,O8 a.A.i a.right.j.i.length⟩ o.left≠0 then jC a.right.j o.j ⟨O8 a.A.h a.right.j.h.length,O8 a.A.i a.right.j.i.length⟩ o.left
 else jC b.left.j o.j b.u o.right
def Jj (a:Rule):Part:=⟨O8 a.A.h a.right.j.h.length,O8 a.A.i a.right.j.i.length⟩
def bK (a b:Rule)(o:Ovl):Part:=if eW a b o=0 then j4 a.right.j o.j (Jj a) o.left else ⟨[],[]⟩
def bW (a b:Rule)(o:Ovl):Part:=if eW a b o=0 then j4 b.left.j o.j b.u o.right else ⟨[],[]⟩
theorem WQ (l:Xa0)(n:Nat):(O8 l n).length<=n:=by
 unfold O8;rw [bI];exact eI (dG _ _) eG
theorem Fp (a b:Rule)(o:Ovl)(ha:a.ok)(hb:b.ok):Pua 35 [a.d,b.d,o.d] (.tup [(bK a b o).d,(bW a b o).d,dI (eW a b o)]):=by
 have hi1:=ha.i1
 have hi2:=ha.i2
 have hk1:=hb.k1
 have hs1:=WQ a.A.h a.right.j.h.length
 refine pH (by first|rfl|(simp [go_sem];done)) (λQ hQ=>(Tz.cK ⟨λt=>t==6||t==7||t==9||t==10||t==13||t==14||t==16,λr=>match r with|1=>[(0,6),(1,6),(2,6),(3,6),(4,6),(5,6),(0,7),(1,7),(2,7),(3,7),(4,7),(5,7),(6,7),(3,8),(4,8),(5,8)]|10=>[(0,15),(1,15),(2,15),(3,15),(4,15),(5,15),(6,15),(7,15),(8,15),(9,15),(10,15),(11,15),(12,15),(13,15)]|17=>[(1,2)]|_=>[]⟩ func35 rfl ?_))
 have Y:=xa3 @Ovl.d.eq_1 @Ovl.c.eq_1 @Part.c.eq_1 @Part.d.eq_1 @Rule.c.eq_1
 refine wv (h:=aB (kA a.right.j o.j o.left) wl ?_)
 refine c8 (λh3=>?_) λh3=>?_
 .have hE:eW a b o=cY a.right.j o.j o.left:=if_pos h3
  have hZ:bK a b o=⟨[],[]⟩:=if_neg (by rw [hE];exact h3)
  have hZ2:bW a b o=⟨[],[]⟩:=if_neg (by rw [hE];exact h3)
  refine wv (h:=?_)
  exact hQ _ _ (by simp [go_sem,hE,hZ,hZ2,Part.d,Part.c])
 .have hE2:¬ cY a.right.j o.j o.left≠0:=by rw [h3];simp
  obtain ⟨hg1,hgo,hl1,hl2⟩:=dA h3
  have hle1:=aY hg1
  have hleo:=aY hgo
  refine wv (h:=aB (kA b.left.j o.j o.right) wl ?_)
  refine c8 (λh6=>?_) λh6=>?_
  .have hE:eW a b o=cY b.left.j o.j o.right:=by unfold eW;rw [if_neg hE2,if_pos h6]
   have hZ:bK a b o=⟨[],[]⟩:=if_neg (by rw [hE];exact h6)
   have hZ2:bW a b o=⟨[],[]⟩:=if_neg (by rw [hE];exact h6)
   refine wv (h:=?_)
   exact hQ _ _ (by simp [go_sem,hE,hZ,hZ2,Part.d,Part.c])
  .have hE5:¬ cY b.left.j o.j o.right≠0:=by rw [h6];simp
   obtain ⟨hg2,_,hl3,hl4⟩:=dA h6
   have hle2:=aY hg2
   refine wp (h:=aB (mZ a.right.j o.j o.left) wl ?_)
   refine wp (h:=aG (λhg=>mZ b.left.j o.j o.right) (λhg=>wl) ?_)
   refine wp (h:=aG (λhg=>JQ a.right.j b.left.j o.j o.left o.right bZ bZ) (λhg=>wl) ?_)
   refine kI (λh8=>?_) λh8=>?_
   .have hJ:(jN a.right.j o.j o.left&&(jN b.left.j o.j o.right&&jointB a.right.j b.left.j o.j o.left o.right))=false:=by
     rw [aW];intro hh;simp only [aL] at hh;simp [hh.1,hh.2.1,hh.2.2] at h8
    have hE:eW a b o=1:=by unfold eW;rw [if_neg hE2,if_neg hE5,if_pos hJ]
    have hZ:bK a b o=⟨[],[]⟩:=if_neg (by rw [hE];simp)
    have hZ2:bW a b o=⟨[],[]⟩:=if_neg (by rw [hE];simp)
    refine wv (h:=?_)
    exact hQ _ _ (by simp [go_sem,hE,hZ,hZ2,Part.d,Part.c])
   .have hJ:¬ (jN a.right.j o.j o.left&&(jN b.left.j o.j o.right&&jointB a.right.j b.left.j o.j o.left o.right))=false:=by
     intro hh;revert h8 hh;cases jN a.right.j o.j o.left<;>cases jN b.left.j o.j o.right<;>cases jointB a.right.j b.left.j o.j o.left o.right<;>simp
    obtain ⟨P1,hP1⟩:∃ x,x=j4 a.right.j o.j (Jj a) o.left:=⟨_,rfl⟩
    obtain ⟨E1,hE1⟩:∃ x,x=jC a.right.j o.j (Jj a) o.left:=⟨_,rfl⟩
    obtain ⟨P2,hP2⟩:∃ x,x=j4 b.left.j o.j b.u o.right:=⟨_,rfl⟩
    obtain ⟨E2,hE2'⟩:∃ x,x=jC b.left.j o.j b.u o.right:=⟨_,rfl⟩
    refine wp (h:=aI (C3 a.A.h a.right.j.h.length bZ) wl ?_)
    refine wp (h:=aI (C3 a.A.i a.right.j.i.length bZ) wl ?_)
    refine wp (h:=aB (HE a.right.j o.j (Jj a) o.left (by show (O8 _ _).length<=1000000;omega) bZ bZ bZ bZ) wl ?_)
    refine kI (λh12=>?_) λh12=>?_
    .have hE:eW a b o=E1:=by unfold eW;rw [if_neg hE2,if_neg hE5,if_neg hJ,if_pos (by rw [show (⟨_,_⟩:Part)=Jj a from rfl];exact h12)];exact hE1.symm
     have hZ:bK a b o=⟨[],[]⟩:=if_neg (by rw [hE,hE1];exact h12)
     have hZ2:bW a b o=⟨[],[]⟩:=if_neg (by rw [hE,hE1];exact h12)
     refine wv (h:=?_)
     exact hQ _ _ (by simp [go_sem,hE,hE1,hZ,hZ2,Part.d,Part.c])
    .have hE':eW a b o=E2:=by unfold eW;rw [if_neg hE2,if_neg hE5,if_neg hJ,if_neg (by rw [show (⟨_,_⟩:Part)=Jj a from rfl,h12];simp)];exact hE2'.symm
     refine wv (h:=aB (HE b.left.j o.j b.u o.right hk1 bZ bZ bZ bZ) wl ?_)
     refine c8 (λh15=>?_) λh15=>?_
     .have hE:eW a b o=E2:=hE'
      have hZ:bK a b o=⟨[],[]⟩:=if_neg (by rw [hE,hE2'];exact h15)
      have hZ2:bW a b o=⟨[],[]⟩:=if_neg (by rw [hE,hE2'];exact h15)
      refine wv (h:=?_)
      exact hQ _ _ (by simp [go_sem,hE,hE2',hZ,hZ2,Part.d,Part.c])
     .have hE:eW a b o=0:=by rw [hE',hE2',h15]
      have hZ:bK a b o=P1:=by unfold bK;rw [if_pos hE,hP1]
      have hZ2:bW a b o=P2:=by unfold bW;rw [if_pos hE,hP2]
      refine wv (h:=?_)
      exact hQ _ _ (by simp [go_sem,Y,hE,hZ,hZ2,hP1,hP2,Part.d,Part.c,c7])
def gP (a b:Rule)(o:Ovl):Int :=
 if eW a b o≠0 then eW a b o
 else if (bigB (zZ a b o (bK a b o) (bW a b o))||bigB (wE a b o (bK a b o) (bW a b o)))=true then 3 else 0
def lA (a b:Rule)(o:Ovl):Rule:=if gP a b o=0 then concOf (zZ a b o (bK a b o) (bW a b o)) (wE a b o (bK a b o) (bW a b o)) (bK a b o) (bW a b o) else eM
theorem Ip (g:Graph)(p:Part)(a:Graph)(kept:Part)(b:Xa0)(j:p.h.length<=1000)(i:p.i.length<=1000)(e:graphF a=0):(fV g p a kept b).h.length<=100000/\(fV g p a kept b).i.length<=100000:=by
 have f:=aY e;have d:=dJ kept.h a.h.length;have c:=dJ kept.i a.i.length;have h:(bG g p).h.length<=1000/\(bG g p).i.length<=1000:=by unfold bG;split<;>simp<;>omega
 simp only [fV,aQ,bI];omega
theorem Fo (a b:Rule)(o:Ovl)(C:a.ok)(B:b.ok)(y:eW a b o=0->ROk a b o (bK a b o) (bW a b o)):Pua 51 [a.d,b.d,o.d] (.tup [(lA a b o).d,(bK a b o).d,(bW a b o).d,dI (gP a b o)]):=by
 have z:=Fp a b o C B;obtain ⟨E,q⟩:∃ x,eW a b o=x:=⟨_,rfl⟩;obtain ⟨k,i⟩:∃ x,bK a b o=x:=⟨_,rfl⟩;obtain ⟨j,g⟩:∃ x,bW a b o=x:=⟨_,rfl⟩;rw [q,i,g] at z;rw [q,i,g] at y;rw [i,g];refine pH (by first|rfl|(simp [go_sem];done)) (λQ v=>(Tz.cK ⟨λt=>t==6||t==7||t==8||t==10||t==11||t==13,λr=>match r with|3=>[(1,4),(2,4),(2,5)]|6=>[(1,3),(2,3),(2,4)]|7=>[(1,3),(2,3),(2,4)]|_=>[]⟩ func51 rfl ?_));have Y:=xa3 @Ovl.d.eq_1 @Ovl.c.eq_1 @Part.c.eq_1 @Part.d.eq_1 @Rule.c.eq_1;refine wv (h:=aB (z) wl ?_);refine c8 (λp=>?_) λp=>?_
 .have hW:gP a b o=E:=by unfold gP;rw [q,if_pos p]
  have l:lA a b o=eM:=if_neg (by rw [hW];exact p);refine wv (h:=?_);exact v _ _ (by simp [go_sem,hW,l,eM,Rule.d,Part.d,Part.c,c7,f8,Cond.F,Cond.w,Cond.map,Cond.n])
 .have hO:=y p;have u:=Ip o.j k a.left.j a.u (uL a.A.h o.left.h) hO.ld hO.e7 hO.ga;have s:=Ip o.j j b.right.j (vP b) (uL b.u.h o.right.h) hO.lf hO.fp hO.gb;obtain ⟨L,m⟩:∃ x,zZ a b o k j=x:=⟨_,rfl⟩;obtain ⟨R,f⟩:∃ x,wE a b o k j=x:=⟨_,rfl⟩;have e:=Ev a b o k j hO;rw [m,f] at e;rw [show fV o.j k a.left.j a.u (uL a.A.h o.left.h)=L from m] at u;rw [show fV o.j j b.right.j (vP b) (uL b.u.h o.right.h)=R from f] at s;have n:¬ eW a b o≠0:=by rw [q,p];simp
  have Y:=wa Y @concOf.eq_1;refine wv (h:=aB (e) wl ?_);refine wp (h:=aB (Fq L bZ bZ) wl ?_);refine wp (h:=aG (λA=>Fq R bZ bZ) (λA=>wl) ?_);refine kI (λw=>?_) λw=>?_
  .have hW:gP a b o=3:=by unfold gP;rw [if_neg n,i,g,m,f,if_pos (eL w)]
   have l:lA a b o=eM:=if_neg (by rw [hW];simp);refine wv (h:=?_);exact v _ _ (by simp [go_sem,hW,l,eM,Rule.d,Part.d,Part.c,c7,f8,Cond.F,Cond.w,Cond.map,Cond.n])
  .have hW:gP a b o=0:=by unfold gP;rw [if_neg n,i,g,m,f,if_neg (eL w)]
   have l:lA a b o=concOf L R k j:=by unfold lA;rw [if_pos hW,i,g,m,f]
   refine wv (h:=?_);exact v _ _ (by simp [go_sem,hW,l,concOf,concName,zH,Rule.d,Part.d,Part.c,c7,f8,Cond.F,Cond.w,Cond.map,Cond.n])
def wF (t:Types)(a b:Rule)(o:Ovl):Int:=if givenR t a b≠0 then givenR t a b else gP a b o
def nA (t:Types)(a b:Rule)(o:Ovl):Rule:=if givenR t a b≠0 then eM else lA a b o
theorem QC (t:Types)(p:t.ok)(a b:Rule)(o:Ovl)(m:a.ok)(l:b.ok)(j:a.aq)(i:b.aq)(r:givenR t a b=0->eW a b o=0->ROk a b o (bK a b o) (bW a b o)):Pua 32 [t.d,a.d,b.d,o.d] (.tup [(nA t a b o).d,dI (wF t a b o)]):=by
 refine pH (by first|rfl|(simp [go_sem];done)) (λQ n=>(Tz.cK ⟨λt=>t==8||t==11||t==12||t==13,λ_=>[]⟩ func32 rfl ?_));have Y:=xa3 @Ovl.d.eq_1 @Ovl.c.eq_1 @Part.c.eq_1 @Part.d.eq_1 @Rule.c.eq_1;refine wv (h:=aB (N3 t p a b m l j i) wl ?_);refine c8 (λf=>?_) λf=>?_
 .have k:wF t a b o=givenR t a b:=if_pos f;have g:nA t a b o=eM:=if_pos f;refine wv (h:=?_);exact n _ _ (by simp [go_sem,k,g,eM,Rule.d,Rule.c,c7,f8,Cond.F,Cond.w,Cond.map,Cond.n])
 .have hE2:¬ givenR t a b≠0:=by rw [f];simp
  have k:wF t a b o=gP a b o:=if_neg hE2;have g:nA t a b o=lA a b o:=if_neg hE2;have e:=Fo a b o m l (r f);obtain ⟨W,q⟩:∃ x,lA a b o=x:=⟨_,rfl⟩;rw [q] at e g;refine wv (h:=aB (e) wl ?_);refine wv (h:=?_);exact n _ _ (by simp [go_sem,Y,k,g,Rule.d,Rule.c,c7,f8,AF,AE,Dm])
def Ws (t:Types)(a b:Rule):List Ovl:=(Wt a.right.j b.left.j).filter λo=>decide (gP a b o=0)
def OD (t:Types)(a b:Rule):Int:=if givenR t a b≠0 then givenR t a b else rA a.right.j b.left.j
def FE (t:Types)(a b:Rule):List Ovl:=if OD t a b=0 then Ws t a b else []
theorem rP {α:Type}(p:α->Bool){l:List α}{i:Nat}(h:i<l.length):(l.take (i+1)).filter p=(l.take i).filter p++(if p l[i]=true then [l[i]] else []):=by
 rw [aF h,jY];congr 1;by_cases a:p l[i]=true<;>simp [a]
def growRen:Go.Shelf.Ren:=⟨fun|4=>264|n=>n,fun|22=>26|25=>3|n=>n,λn=>n⟩
theorem O3:Lays8.n4 prog growRen:={
 mixed:=by kernel_rfl
 f4:=⟨Tryz.f264.name,rfl,func264.trans (congrArg some (by kernel_rfl))⟩
 t0:=underlying0
 a0:=Tryz.isAgg0
 z0:=Tryz.sizeOf0
 v0:=Tryz.zeroValue0
 t3:=underlying3
 a3:=Tryz.isAgg3
 z3:=Tryz.sizeOf3
 v3:=Tryz.zeroValue3
 t4:=underlying4
 a4:=Tryz.isAgg4
 z4:=Tryz.sizeOf4
 v4:=Tryz.zeroValue4
 t9:=underlying9
 a9:=Tryz.isAgg9
 z9:=Tryz.sizeOf9
 v9:=Tryz.zeroValue9
 t20:=underlying20
 a20:=Tryz.isAgg20
 z20:=Tryz.sizeOf20
 v20:=Tryz.zeroValue20
 t22:=underlying26
 a22:=Tryz.isAgg26
 z22:=Tryz.sizeOf26
 v22:=Tryz.zeroValue26 }
theorem Va (n:Nat)(H:n<=1000000):Own prog 264 [.nil,dI n] 3 1 []:=by
 refine ⟨⟨_,func264,rfl,rfl⟩,λM w f I o=>?_⟩;obtain ⟨g,r⟩:=o;match f,g with
 | [z,y],_ =>
  have E:=r 0 z .nil rfl rfl;have v:=r 1 y (dI n) rfl rfl;cases E
  unfold dI at v;cases v
  rcases Nat.eq_zero_or_pos n with h0|h0
  .subst h0;refine (Any8.slices_Grow_room O3 none 0 0 0 w bZ bZ bZ bZ).mono λe x ⟨h,c⟩=>?_;subst c;exact ⟨_,[],h,⟨rfl,.inl ⟨rfl,rfl⟩⟩,by simp,⟨rfl,λj u d k=>by simp at k⟩,rfl,by simp,RowKit.Below.refl _ _⟩
  .obtain ⟨b,l,A,F,B⟩:∃ b,prog.info? 3=some b/\b.zero=some (.int .i64 0)/\b.size=1/\b.bytes=8:=⟨_,rfl,rfl,rfl,rfl⟩;refine (Any8.slices_Grow_grow O3 b (.int .i64 0) l A bZ none 0 0 n [] w bZ bZ (by rw [B];omega) bZ eG (λ_=>rfl) (λa o=>by cases o)).mono λe x ⟨h,c⟩=>?_;rw [show growRen.t 25=3 from rfl,eN] at h c;have D:=grownCap_ge w n 0 3;have i:=grownCap_le_maxLen w n 0 3 (by unfold maxLen;omega);obtain ⟨G,p⟩:=gI (grownCap w n 0 3);rw [p] at D i h c;obtain ⟨C,s⟩:=gI (([].toArray++Builtin.zeroCells (Value.int IntKind.i64 0).cells (n - 0)++Builtin.zeroCells (Value.int IntKind.i64 0).cells (G - n):Array Value));have q:C.size=G:=by rw [<- s];simp [Builtin.zeroCells,Value.cells];omega
   rw [s] at c;have m:RowKit.Below w.heap.size w (w.drew.alloc (.cells C 3)):=((RowKit.Below.refl _ _).drew).alloc (bD _) _;subst c;refine ⟨_,[],h,⟨rfl,.inr ⟨w.heap.size,G,C,rfl,bD _,?_,d9 _,i,by rw [q];omega,by simp⟩⟩,by simp,⟨rfl,λj u d k=>by simp at k⟩,rfl,by simp,m⟩;show (w.heap.push _)[w.heap.size]?=_;simp
theorem J0 (a:Yb)(i:Nat):(a.take i).flatten.length<=a.flatten.length:=by
 have h:=congrArg (λl=>(List.flatten l).length) (List.take_append_drop i a);simp only [g6,aQ] at h;omega
def ID (t:Types)(l:Xa0):Bool:=!(l.any λk=>decide (given2F t k k≠0)||decide (1<(fQ t k).length))
def MU (ls:Yb)(i:Nat):Nat:=(ls.take i).flatten.length
theorem Lk {a:Yb}{i:Nat}(h:i<a.length):MU a (i+1)=MU a i+a[i].length:=by
 unfold MU;rw [aF h,g6,aQ];simp only [eQ,List.flatten_nil,cZ]
@[go_sem] theorem aaB (ls:Yb):MU ls 0=0:=rfl
theorem Sq (ls:Yb)(i:Nat):MU ls i<=ls.flatten.length:=J0 ls i
theorem Vh {a:Yb}{i:Nat}(h:a.length<=i):MU a i=a.flatten.length:=by
 unfold MU;rw [aH h]
theorem Pw (ls:Yb)(fs:Xa0)(hfs:fs=ls.flatten)(hk:ls.length≤1000)(h:fs.length≤100000):Own prog 181 [.list (ls.map fun l=>[dLI l])] 3 1 (fs.map cI):=by
 refine Tz.oK ⟨fun _=>false,fun _=>[]⟩ func181 rfl (fun Q hQ=>?_)
 have Y:=trivial
 refine wo (h:=bC (fun i e H=>(e 9=.list (ls.map fun l=>[dLI l])∧e 10=dI ls.length∧e 11=dI i∧e 0=.list (ls.map fun l=>[dLI l])∧e 3=dI (MU ls i))∧(i≤ls.length)) (fun i=>ls.length - i) 0 ⟨wg,wi⟩ fun I0 hI0 i e H hi0=>?_)
 obtain ⟨E0,hi⟩:=hi0
 have Y:=wa Y E0
 refine c8 (fun h3=>?_) fun h3=>?_
 ·have hst:=Lk h3
  have hle:=Sq ls (i+1)
  rw [← hfs] at hle
  have Y:=wa Y (wa h3 (wa (aA h3) hst))
  refine wo (h:=bA (fun h6=>?_) (fun h6=>?_))
  ·(try simp [go_sem] at h6);omega
  ·try simp [go_sem] at h6
   exact wo (h:=wx hI0 (i+1) ⟨wg,wj⟩)
 ·have hI:MU ls i=fs.length:=by rw [Vh (by omega),hfs]
  have Y:=wa Y hI
  refine wv (h:=i5 (Va fs.length (by omega)) wl ?_)
  refine wo (h:=bC (fun k e H=>∃ q:Nat,∃ xs:Xa0,(e 25=.list (ls.map fun l=>[dLI l])∧e 26=dI ls.length∧e 27=dI k∧e 6=.own q xs.length)∧(H.get q=some ⟨3,1,xs.map cI,false⟩)∧(q<H.next)∧(k≤ls.length)∧(xs=(ls.take k).flatten)) (fun k=>ls.length - k) 0 ⟨H.next,([]),wg,wn,wn,wi,(by (simp))⟩ fun I2 hI2 k e H hi2=>?_)
  obtain ⟨q,xs,E2,gq_2,nq_2,hk,hx⟩:=hi2
  have Y:=wa Y (wa E2 (wa gq_2 (bP nq_2)))
  refine c8 (fun h11=>?_) fun h11=>?_
  ·have hle:xs.length+ls[k].length≤fs.length:=by
    have:=Sq ls (k+1);rw [Lk h11,← hfs] at this;rw [hx];exact this
   have Y:=wa Y (wa h11 (aA h11))
   exact wo (h:=wx hI2 (k+1) ⟨q,(xs++ls[k]),wg,wn,wn,wj,(by (rw [aF h11,g6,← hx];simp))⟩)
  ·have hX:xs=fs:=by rw [hx,aH (by omega),hfs]
   refine wv (h:=?_)
   exact hQ _ _ _ (by simp [go_sem,Y,hX]) (by simp [go_sem,Y,hX])
theorem DW (t:Types)(a:t.ok)(k:Int):Pua 182 [dI k,.adr t.c] (.bool (decide (given2F t k k≠0)||decide (1<(fQ t k).length))):=by
 refine Tz.p0 func182 rfl λQ b Y=>?_;refine wv (h:=aB (Fg t a k) wl ?_);exact wo (h:=b _ _ wy)
theorem x8 (t:Types)(j:t.ok)(r:Rule)(n:r.left.j.h.length<=1000)(m:r.right.j.h.length<=1000):Pua 100 [t.d,r.d] (.bool (ID t (r.left.j.h++r.right.j.h))):=by
 obtain ⟨b,a⟩:=fH (r.left.j.h++r.right.j.h);have f:=(Pw [r.left.j.h,r.right.j.h] b (by rw [a];simp) eG (by rw [a];simp;omega)).pure;have e:=f5 b 182 [.adr t.c] (λk=>decide (given2F t k k≠0)||decide (1<(fQ t k).length)) (by simp [go_sem]) (by simp [go_sem]) (λk _=>DW t j k);have g:ID t b = !(b.any λk=>decide (given2F t k k≠0)||decide (1<(fQ t k).length)):=rfl;obtain ⟨u,i⟩:=gI ((b.any λk=>decide (given2F t k k≠0)||decide (1<(fQ t k).length)));rw [i] at e g;rw [<- a,g];simp only [gJ,jJ] at f;refine Tz.p0 func100 rfl λQ l Y=>?_;refine wo (h:=aB (f) wl ?_);refine wo (h:=aB (e) wl ?_);exact wo (h:=l _ _ wy)
theorem qR {t:Types}(a:(cQ t).2=0){k:Int}(h:0<=k/\k<t.h.length):given2F t k k=0:=by
 unfold given2F;rw [if_neg (by rw [a];simp),if_pos (by simp [insideF];omega)]
theorem TQ {t:Types}{l:Xa0}(h:∀ k∈l,given2F t k k=0):ID t l=kX t l:=by
 unfold ID kX;induction l with
 | nil=>rfl
 | cons a l ih =>
  have b:=ih λk c=>h k (cX _ c);have d:=h a (eT ..);rw [List.any_cons,List.all_cons,Bool.not_or,b,d];congr 1;rw [aU];simp
theorem ME (t:Types)(l m:Xa0):kX t (l++m)=(kX t l&&kX t m):=by unfold kX;rw [oY]
structure Rule.aa (t:Types) (r:Rule):Prop where
 v:(cQ t).2=0
 pat:c6 t r.left=0
 gl:graphF r.left.j=0
 gr:graphF r.right.j=0
 tl:eY t r.left.j=true
 tr:eY t r.right.j=true
 sub:subF r.left.j r.u=0
 b2:cY (bG r.left.j r.u) r.right.j r.A=0
 inj:jN (bG r.left.j r.u) r.right.j r.A=true
 ek:sE t r.right.j r.Y r.am=true
theorem vB {t:Types}{r:Rule}(h:ruleF t r=0):Rule.aa t r:=by
 unfold ruleF at h;split at h
 .rename_i h1;exact absurd h h1
 .rename_i h1;split at h
  .cases h
  .split at h
   .rename_i h3;exact absurd h h3
   .rename_i h3;split at h
    .rename_i h4;exact absurd h h4
    .rename_i h4;split at h
     .rename_i h5;exact absurd h h5
     .rename_i h5;split at h
      .cases h
      .rename_i h6;have d:=Be (t:=t) (r:=r) bZ;have e:graphF r.left.j=0/\eY t r.left.j=true:=by
        have b:c6 t r.left=0:=bZ;unfold c6 at b;split at b
        .rename_i q;exact absurd b q
        .split at b
         .rename_i q;exact absurd b q
         .rename_i q;split at b
          .cases b
          .rename_i q2;exact ⟨bZ,by simpa using q2⟩
       have c:subF r.left.j r.u=0/\cY (bG r.left.j r.u) r.right.j r.A=0/\jN (bG r.left.j r.u) r.right.j r.A=true:=by
        have a:keptF r=0:=bZ;unfold keptF at a;split at a
        .rename_i q;exact absurd a q
        .rename_i q;split at a
         .rename_i q2;exact absurd a q2
         .rename_i q2;split at a
          .cases a
          .rename_i q3;exact ⟨bZ,bZ,by simpa using q3⟩
       exact ⟨bZ,bZ,e.1,d.1,e.2,d.2,c.1,c.2.1,c.2.2,by simpa using h6⟩
theorem Lr {t:Types}{r:Rule}(h:ruleF t r=0):ID t (r.left.j.h++r.right.j.h)=(kX t r.left.j.h&&kX t r.right.j.h):=by
 have a:=vB h;rw [TQ,ME];intro k hk;rcases bE.1 hk with hk|hk
 .exact qR a.v ((iW a.gl a.tl).1 k hk)
 .exact qR a.v ((iW a.gr a.tr).1 k hk)
theorem EG {t:Types}{a b:Rule}(g:(cQ t).2=0){c:List Rule}(d:c=[a,b]){i:Nat}(h:i<c.length)(f:∀ j x,j<i->c[j]?=some x->oneR t x=0)(e:oneR t c[i]≠0):givenR t a b=oneR t c[i]:=by
 subst d;unfold givenR;rw [if_neg (by rw [g];simp)];simp only [e9,oX] at h;rcases (bZ:i=0\/i=1) with rfl|rfl
 .exact if_pos e
 .rw [if_neg (by rw [f 0 a bZ rfl];simp)];rfl
theorem x7 (t:Types)(w:t.ok)(a b:Rule)(O:a.ok)(N:b.ok)(B:a.aq)(A:b.aq):Pua 56 [t.d,.list [a.c,b.c]] (dI (givenR t a b)):=by
 obtain ⟨g,f⟩:=fH ([a,b]);have y:∀ r∈g,r.ok/\r.aq:=by rw [f];intro r E;simp at E;rcases E with rfl|rfl;exact ⟨O,B⟩;exact ⟨N,A⟩
 refine Tz.pK ⟨λt=>t==8,λ_=>[]⟩ func56 rfl (λQ u=>?_);have Y:=trivial;refine wv (h:=aB (mD t w) wl ?_);refine c8 (λq=>?_) λq=>?_
 .have k:givenR t a b=(cQ t).2:=if_pos q;exact wv (h:=u _ _ (by simp [go_sem,k]))
 .refine wo (h:=bC (λi e H=>∃ l:Xa1,(e 2=.adr t.c/\e 18=.list l/\e 19=dI 2/\e 20=dI i)/\(i<=2)/\(l=g.map Rule.c)/\(∀ j x,j<i->g[j]?=some x->oneR t x=0)) (λi=>2 - i) 0 ⟨([a.c,b.c]),wg,wi,(by rw [f];rfl),(by intro j x K;omega)⟩ λS C i e H z=>?_);obtain ⟨l,P,R,F,o⟩:=z;have Y:=wa Y P;refine c8 (λJ=>?_) λJ=>?_
  .have hgl:i<g.length:=by rw [f];simp;omega
   have s:=y _ (aC hgl);have Y:=xa3 Y J F (aA hgl) @Rule.c.eq_1;refine wo (h:=aB (Hk t w g[i] s.1) wl ?_);refine dW (λp=>?_) λp=>?_
   .have hO:oneR t g[i]=ruleF t g[i]:=if_pos p;have k:=EG q f hgl o (by rw [hO];exact p);exact wv (h:=u _ _ (by simp [go_sem,k,hO]))
   .have h8':¬ ruleF t g[i]≠0:=by rw [p];simp
    have I:=vB p;have M:=aY I.gl;have L:=aY I.gr;have G:=Lr p;refine wo (h:=aB (nF g[i] s.2) wl ?_);refine dW (λn=>?_) λn=>?_
    .have hO:oneR t g[i]=8:=by unfold oneR;rw [if_neg h8',if_pos n]
     have k:=EG q f hgl o (by rw [hO];simp);exact wv (h:=u _ _ (by simp [go_sem,k,hO]))
    .have h10':¬ jP g[i]=false:=by rw [n];simp
     refine wo (h:=aB (x8 t w g[i] bZ bZ) wl ?_);refine dW (λm=>?_) λm=>?_
     .have hO:oneR t g[i]=13:=by unfold oneR;rw [if_neg h8',if_neg h10',if_pos (by rw [<- G];exact m)]
      have k:=EG q f hgl o (by rw [hO];simp);exact wv (h:=u _ _ (by simp [go_sem,k,hO]))
     .have hO:oneR t g[i]=0:=by unfold oneR;rw [if_neg h8',if_neg h10',if_neg (by rw [<- G,m];simp)]
      exact wo (h:=wx C (i+1) ⟨l,wg,wj,(by exact F),(by intro j x K v;rcases bT j i with h|h;exact o j x h v;obtain rfl:j=i:=bZ;rw [aA hgl] at v;cases v;exact hO)⟩)
  .have k:givenR t a b=0:=by
    unfold givenR;rw [if_neg (by rw [q];simp),if_neg (by rw [o 0 a bZ (by rw [f];rfl)];simp)];exact o 1 b bZ (by rw [f];rfl)
   exact wv (h:=u _ _ (by simp [go_sem,k]))
end Go.Abs
end
