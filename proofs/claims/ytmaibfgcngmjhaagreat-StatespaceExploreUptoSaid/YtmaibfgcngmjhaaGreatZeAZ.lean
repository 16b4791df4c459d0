/- The search for the canonical order: (*canon).search. · host. -/
import Derived.Test.YtmaibfgcngmjhaaGreatZeAG
import Derived.Test.YtmaibfgcngmjhaaGreatZeAA
import Derived.Test.YtmaibfgcngmjhaaGreatZeAX
import Derived.Test.YtmaibfgcngmjhaaGreatZeAY
import Derived.Test.YtmaibfgcngmjhaaGreatZeAW
import Derived.Test.YtmaibfgcngmjhaaGreatZeAT
import Derived.Laws.BitsLemmas
set_option linter.unusedVariables false
set_option linter.unusedSimpArgs false
section
set_option maxRecDepth 100000
set_option maxHeartbeats 4000000
open Go Go.Proofs Tryz
namespace Go.Abs
def Yw (k:Blk):Blk:={ k with es:=eL k.es }
theorem WG (l:Xa2):(gI l).length=l.length:=by rw [Bc];simp
theorem S9 {P:Program}{f:FuncId}{args:Xa2}{H:AHeap}{Q:D->AHeap->Prop}{id:Nat}{k:Blk}(t:H.get id=some k)(h:ACalls P f args (H.put id (Yw k)) Q):ACalls P f args H Q:=by
 refine ⟨h.1,λz σ w m p S=>?_⟩;have x:∀ i,(H.put id (Yw k)).get i=if i=id then some (Yw k) else H.get i:=λi=>rfl
 have G:dK z (H.put id (Yw k)) σ=dK z H σ:=funext λb=>propext (by
  constructor
  .rintro (hm|⟨i,r,o,g,hf,n,hb⟩)
   .exact .inl hm
   .rw [x] at g;split at g
    .rename_i e;subst e;cases g;exact .inr ⟨i,k,o,t,hf,n,hb⟩
    .exact .inr ⟨i,r,o,g,hf,n,hb⟩
  .rintro (hm|⟨i,r,o,g,hf,n,hb⟩)
   .exact .inl hm
   .by_cases e:i=id
    .subst e;rw [t] at g;cases g
     exact .inr ⟨i,Yw k,o,by rw [x,if_pos rfl],hf,n,hb⟩
    .exact .inr ⟨i,r,o,by rw [x,if_neg e];exact g,hf,n,hb⟩)
 have F:Rel z (H.put id (Yw k)) σ w:=by
  refine ⟨λi R=>?_,p.bb,λi r g=>?_,p.inj,p.lt,p.m0⟩
  .have:=p.bf i R;refine ⟨this.1,?_⟩;rw [x,if_neg]
   .exact this.2
   .rintro rfl;rw [this.2] at t;cases t
  .rw [x] at g;rw [G];split at g
   .rename_i e;subst e;cases g
    obtain ⟨o,n,l⟩:=p.ah i k t;obtain ⟨C,M,L,I⟩:=l.row;have K:(eL k.es).length=k.es.length:=by rw [t8];simp
    refine ⟨o,n,by rw [l.af];exact K.symm,l.ty,l.sz,λc B=>?_,C,?_,L,?_⟩
    .have B:c∈eL k.es:=B;rw [t8] at B;obtain ⟨d,A,rfl⟩:=aS.1 B;rw [WG];exact l.K d A
    .show w.ownsRow 0 k.ty o.K o.val (eL k.es).length C;rw [K];exact M
    .show RepL _ σ H.J w C (eL k.es).flatten;rw [CT];refine ⟨by rw [I.len,bR],λj u d O A=>?_⟩;rw [aW,bQ] at A;obtain ⟨y,N,rfl⟩:=A;exact Hr (I.Y j u y O N)
   .exact p.ah i r g
 have E:RepL (dK z (H.put id (Yw k)) σ) σ (H.put id (Yw k)).J w m args:=by rw [G];exact S
 refine (h.2 z σ w m F E).mono λe U ⟨v,d,T,σ',a,b,c,s,J,q⟩=>⟨v,d,T,σ',a,b,c,s,?_,q⟩;rw [G] at J;exact J
theorem Q6 {P:Program}{f:FuncId}{args args':Xa2}{H:AHeap}{Q:D->AHeap->Prop}(g:List Nat)(r:args'.length=args.length)
  (B:∀ (j:Nat) (d m:D),args[j]?=some d->args'[j]?=some m->m=d\/(m=G0 H d/\∀ i∈Sk d,i∈g)) (h:ACalls P f args' (fH g H) Q):ACalls P f args H Q:=by
 refine ⟨h.1,λE σ w k t n=>?_⟩;obtain ⟨C,x,J,I⟩:=fQ g t;refine (h.2 E σ w k C ⟨by rw [n.len,r],λj u m p l=>?_⟩).mono λe G ⟨v,d,F,σ',a,b,c,s,y,q⟩=>⟨v,d,F,σ',a,b,c,s,x.trans y,q⟩;have z:j<args.length:=by rw [<- r];exact (aL.1 l).1
 have o:=aA z;rcases B j _ m o l with e|⟨e,A⟩
 .rw [e];exact (n.Y j u _ p o).G x
 .rw [e];exact Gb t (n.Y j u _ p o) g A
theorem M8 {h:Host}(b:∀ v∈h.values,v.length<=1000)(d:h.o.j.length<=1000){l:Xa0}(c:l.length<=8)(k:Int):(jA h l k).length<=20000:=by
 have g:=Nz h.o l k;have f:(2 * l.length+1) * (h.o.j.length+1)<=17 * 1001:=iY bL bL;have e:(vN h k).length<=1000:=by
  unfold vN;by_cases a:k.toNat<h.values.length
  .rw [aA a];exact b _ (aC a)
  .rw [bC bL];simp
 unfold jA;rw [cD,aO];omega
structure BOk (S:BC):Prop where
 b:S.bx.length<=1000
 l:S.Z.length<=200000
theorem Tg {h:Host}{N:Nat}(hr:∀ v∈h.values,v.length<=1000)(he:h.o.j.length<=1000)(hN:N<=8):∀ (d:Nat) (l c:Xa0) (S:BC),l.length+d<=8->c.length<=20000 * l.length->BOk S->BOk (xB N (jA h) d l c S)
 | 0,l,c,S,hl,hc,hS=>by
  simp only [xB,wN];split
  .exact ⟨by show l.length<=1000;omega,by show c.length<=200000;omega⟩
  .exact hS
 | d+1,l,c,S,hl,hc,hS=>by
  simp only [xB];generalize List.range N=ks;induction ks generalizing S with
  | nil=>exact hS
  | cons k ks ih =>
   rw [iD];refine ih _ ?_;split
   .exact hS
   .split
    .have:=M8 hr he (bL:l.length<=8) (k:Int);exact Tg hr he hN d _ _ S et et hS
    .exact hS
def cnC (h:Host)(l c:Xa0)(S:BC):Xa2:=[dLI h.o.i,.list (h.o.j.map Edge.c),.list (h.values.map cL),dLI l,dLI c,dLI S.bx,dLI S.Z,.bool S.found]
structure CanOk (h:Host):Prop where
 vl:h.values.length=h.o.i.length
 n:h.o.i.length<=8
 e:h.o.j.length<=1000
 r:∀ v∈h.values,v.length<=1000
def Za (h:Host)(f d:Nat):Prop:=∀ (l c:Xa0) (S:BC) (G:AHeap) (Q:D->AHeap->Prop),l.length+d=h.o.i.length->c.length<=20000 * l.length->BOk S->G.get f=some ⟨129,8,[cnC h l c S],false⟩->f<G.next->(∀ j,G.next<=j->¬ G.J j) ->
  (∀ H',H'.get f=some ⟨129,8,[cnC h l c (xB h.o.i.length (jA h) d l c S)],false⟩->(∀ x,x<G.next->x≠f->H'.get x=G.get x)->G.next<=H'.next->(∀ j,H'.next<=j->¬ H'.J j)->Q (.tup []) H')->ACalls prog 54 [.ptr f 1 0 0] G Q
theorem KY (h:Host)(y:CanOk h)(f:Nat):Za h f 0:=by
 intro l c S G Q m w p i q a o;have z:=bU q;have A:=p.b;have u:=p.l;have s:=y.n;have m:l.length=h.o.i.length:=bL;refine (Tz.cK ⟨λt=>t==42||t==47||t==1000000,λr=>match r with|2=>[(7,9),(7,10),(7,11)]|9=>[(2,4),(2,5),(2,6),(2,8),(2,9),(2,10)]|_=>[]⟩ func54 rfl ?_);have Y:=xa3 i z @cnC.eq_1 @Host.c.eq_1 m;refine wp (h:=b9 (λv=>GD c S.Z) (λv=>wl) ?_);refine jH (λg=>?_) λg=>?_
 .have hE:xB h.o.i.length (jA h) 0 l c S=⟨true,l,c⟩:=by
   unfold xB wN;rw [if_pos (cG g)]
  refine wv (h:=?_);refine s4 G.next (jC l bL) em rfl (by first|omega|(simp [go_sem];omega)|simp [go_sem]) (by simp [gP,jQ,pJ];first|done|exact a _ bL|omega) (by first|trivial|(simp [go_sem];done)|simp [go_sem,chk]) ?_;refine wv (h:=?_);refine s4 (G.next+1) (jC c bL) em rfl (by first|omega|(simp [go_sem];omega)|simp [go_sem]) (by simp [gP,jQ,pJ];first|done|exact a _ bL|omega) (by first|trivial|(simp [go_sem];done)|simp [go_sem,chk]) ?_;refine wv (h:=?_);exact o _ (by rw [hE];simp [go_sem,i,cnC,dLI]) (λx k d=>by simp [go_sem,d,bU k]) ei (λj e=>by simp [go_sem,gP,jQ,pJ] at e ⊢;first|done|exact a _ bL|(and_intros<;>first|omega|exact a _ bL))
 .have hE:xB h.o.i.length (jA h) 0 l c S=S:=by
   unfold xB wN;rw [if_neg (cG g)]
  refine wv (h:=?_);exact o _ (by rw [hE];simp [go_sem,i,cnC,dLI]) (λx k d=>by simp [go_sem,d]) ei (λj e=>by simp [go_sem,gP,jQ,pJ] at e ⊢;first|done|exact a _ bL|(and_intros<;>first|omega|exact a _ bL))
def OW (h:Host)(d:Nat)(l c:Xa0)(s:BC)(k:Nat):BC:=if mem l (k:Int)=true then s else if goC (c++jA h l k) s=true then xB h.o.i.length (jA h) d (l++[(k:Int)]) (c++jA h l k) s else s
theorem KX (h:Host)(E:CanOk h)(f d:Nat)(ih:Za h f d):Za h f (d+1):=by
 intro l c S G Q hm b5 hB gf lf Z hQ;have ff:=bU lf;have a2:=E.n;have a1:¬ l.length=h.o.i.length:=bL;have O:((l.length:Int)==(h.o.i.length:Int))=false:=by simp;omega
 have hR:xB h.o.i.length (jA h) (d+1) l c S=(List.range h.o.i.length).foldl (OW h d l c) S:=rfl;refine (Tz.cK ⟨λt=>t==80||t==83||t==88||t==98||t==1000000,λr=>match r with|2=>[(7,9),(7,10),(7,11)]|9=>[(2,4),(2,5),(2,6),(2,8),(2,9),(2,10)]|_=>[]⟩ func54 rfl ?_);have Y:=xa4 gf ff @cnC.eq_1 @Host.c.eq_1 a1 O;refine wp (h:=bA (λk e H=>∃ g:BC,(e 0=.ptr f 1 0 0/\e 60=dI h.o.i.length/\e 61=dI k)/\(H.get f=some ⟨129,8,[cnC h l c g],false⟩)/\(f<H.next)/\(k<=h.o.i.length)/\(BOk g)/\((List.range k).foldl (OW h d l c) S=g)/\(∀ x,x<G.next->x≠f->H.get x=G.get x)/\(G.next<=H.next)/\(∀ j,H.next<=j->¬ H.J j)) (λk=>h.o.i.length - k) 0 ⟨S,wg,wn,wn,wi,(by exact hB),(by rfl),(by intro x u m;first|rfl|(simp [go_sem];done)),(by first|exact aT _|(simp [go_sem];done)|(simp [go_sem];omega)),(by intro j q;first|exact Z j q|(simp [go_sem,gP,jQ,pJ] at q ⊢;exact Z _ bL))⟩ λI0 J k e H a4=>?_);obtain ⟨g,E0,a0,M,hk,s,v,p,A,a⟩:=a4;have Y:=xa2 Y E0 a0 (bU M);refine dD (λh4=>?_) λh4=>?_
 .have Y:=wa Y h4;refine wv (h:=aB (gX l k) wl ?_);refine dD (λh6=>?_) λh6=>?_
  .obtain ⟨z,o⟩:∃ x,x=g:=⟨_,rfl⟩;have y:BOk z:=by rw [o];exact s
   have w:z=OW h d l c g k:=by unfold OW;rw [if_pos (cG h6),o]
   have Y:=wa Y o;exact wp (h:=wx J (k+1) ⟨z,wg,wn,wn,wj,(by exact y),(by rw [c6,eG,v];exact w.symm),(by intro x u m;first|exact p x u m|(simp [go_sem,m,bU (bL:x<H.next)];exact p x u m)|(simp [go_sem,m];rw [f3 x eq m];simp [go_sem,m,bU (bL:x<H.next)];exact p x u m)),(by first|exact A|(simp [go_sem];omega)),(by intro j q;first|exact a j q|(simp [go_sem,gP,jQ,pJ] at q ⊢;first|exact a j bL|exact a3 j bL|(and_intros<;>first|omega|exact a _ bL)))⟩)
  .obtain ⟨L,F⟩:∃ x,x=jA h l k:=⟨_,rfl⟩;obtain ⟨i,I⟩:∃ x,x=c++L:=⟨_,rfl⟩;obtain ⟨C,B⟩:∃ x,x=l++[(k:Int)]:=⟨_,rfl⟩;have a8:C.length=l.length+1:=by rw [B];simp
   have b1:L.length<=20000:=by rw [F];exact M8 E.r E.e bL (k:Int)
   have b0:i.length=c.length+L.length:=by rw [I];simp
   have hb:=s.b;have b3:=s.l;have a9:c.length<=200000:=bL;have a5:Pua 110 [h.d,dLI C] (dLI L):=by rw [B,F];exact Sn h E.vl bL E.e E.r l k bL bL
   have U:l.map cI++[[D.int .i64 (k:Int)]]=C.map cI:=by rw [B];simp [cI]
   have X:c.map cI++L.map cI=i.map cI:=by rw [I];simp
   have b2:(min (i.length:Int) (g.Z.length:Int)).toNat=min i.length g.Z.length:=bL;have a7:(0:Int)<=min (i.length:Int) (g.Z.length:Int)/\min (i.length:Int) (g.Z.length:Int)<=g.Z.length:=bL;have N:OW h d l c g k=if goC i g=true then xB h.o.i.length (jA h) d C i g else g:=by
    unfold OW;rw [if_neg (cG h6),<- F,<- I,<- B]
   have V:goC i g=(!g.found||decide (cJ i (g.Z.take (min i.length g.Z.length))<=0)):=rfl;have b4:k<h.o.i.length:=bL;have T:l.length+1=C.length:=bL;have W:c.length+L.length=i.length:=bL;have R:(if (g.Z.length:Int)<(i.length:Int) then (g.Z.length:Int) else (i.length:Int)).toNat=min i.length g.Z.length:=by split<;>omega
   have P:(if g.Z.length<i.length then (g.Z.length:Int) else (i.length:Int)).toNat=min i.length g.Z.length:=by split<;>omega
   have a6:Pua 108 [.list (i.map cI),.list ((g.Z.map cI).take (min i.length g.Z.length))] (dI (cJ i (g.Z.take (min i.length g.Z.length)))):=by
    have hz:=GD i (g.Z.take (min i.length g.Z.length));unfold dLI at hz;rw [List.map_take] at hz;exact hz
   have Y:=xa6 Y h6 T W U X R P;refine wp (h:=mT (jC l bL) wl ?_);refine wp (h:=?_);refine s4 H.next (jC c bL) em rfl (by first|omega|(simp [go_sem];omega)|simp [go_sem]) (by simp [gP,jQ,pJ];first|done|exact a _ bL|(and_intros<;>first|omega|exact a _ bL)) (by first|trivial|(simp [go_sem];done)|simp [go_sem,chk]) ?_;refine wp (h:=aJ (a5) wl ?_);refine wp (h:=b9 (λhg=>a6) (λhg=>wl) ?_);refine jH (λK=>?_) λK=>?_
   .obtain ⟨z,o⟩:∃ x,x=xB h.o.i.length (jA h) d C i g:=⟨_,rfl⟩;have y:BOk z:=by rw [o];exact Tg E.r E.e a2 d C i g bL bL s
    have w:z=OW h d l c g k:=by rw [N,if_pos (by rw [V];simpa using K),o]
    refine wv (h:=?_);unfold dQ;refine ih C i g _ _ bL bL s ?_ ?_ ?_ (λH3 g3 f3 n3 a3=>?_)
    focus simp [go_sem,Y,cnC,dLI]
    focus simp [go_sem];omega
    focus intro j q;simp [go_sem,gP,jQ,pJ] at q ⊢;first|done|exact a _ bL|(and_intros<;>first|omega|exact a _ bL)
    simp [go_sem] at n3;rw [<- o] at g3;simp only [cnC] at g3;have Y:=wa Y g3;exact wp (h:=wx J (k+1) ⟨z,wg,wn,wn,wj,(by exact y),(by rw [c6,eG,v];exact w.symm),(by intro x u m;first|exact p x u m|(simp [go_sem,m,bU (bL:x<H.next)];exact p x u m)|(simp [go_sem,m];rw [f3 x eq m];simp [go_sem,m,bU (bL:x<H.next)];exact p x u m)),(by first|exact A|(simp [go_sem];omega)),(by intro j q;first|exact a j q|(simp [go_sem,gP,jQ,pJ] at q ⊢;first|exact a j bL|exact a3 j bL|(and_intros<;>first|omega|exact a _ bL)))⟩)
   .obtain ⟨z,o⟩:∃ x,x=g:=⟨_,rfl⟩;have y:BOk z:=by rw [o];exact s
    have w:z=OW h d l c g k:=by rw [N,if_neg (by rw [V];simpa using K),o]
    have Y:=wa Y o;exact wp (h:=wx J (k+1) ⟨z,wg,wn,wn,wj,(by exact y),(by rw [c6,eG,v];exact w.symm),(by intro x u m;first|exact p x u m|(simp [go_sem,m,bU (bL:x<H.next)];exact p x u m)|(simp [go_sem,m];rw [f3 x eq m];simp [go_sem,m,bU (bL:x<H.next)];exact p x u m)),(by first|exact A|(simp [go_sem];omega)),(by intro j q;first|exact a j q|(simp [go_sem,gP,jQ,pJ] at q ⊢;first|exact a j bL|exact a3 j bL|(and_intros<;>first|omega|exact a _ bL)))⟩)
 .have hkN:k=h.o.i.length:=bL;rw [hkN] at v;refine wv (h:=?_);exact hQ _ (by rw [hR,v];assumption) p A a
theorem Em (h:Host)(hO:CanOk h)(f:Nat):∀ d,Za h f d
 | 0=>KY h hO f
 | d+1=>KX h hO f d (Em h hO f d)
theorem H7 (G:AHeap)(id:Nat)(n:Nat)(c:G.get id=some ⟨3,1,(oF n).map cI,false⟩)(l:n<=100000)(g:FuncId)(a:Xa2)(i:D.N a=true)(f:Int->Xa0)(p:CmpBy g a f (oF n))(Q:D->AHeap->Prop)
  (m:∀ H',H'.get id=some ⟨3,1,(yP f (λ_=>true) n).map cI,false⟩->(∀ j,j≠id->H'.get j=G.get j)->G.next<=H'.next->Q (.tup []) H'):ACalls prog 112 [.own id n,.fn g a] G Q:=by
 have b:(oF n).length=n:=by simp [oF]
 refine (Tz.c0 func112 rfl ?_);have Y:=xa1 c i b;refine wp (h:=?_);unfold dQ;refine Rs (A:=(n:Int)) _ _ n (by first|exact c|(simp [go_sem];exact c)) l g a i f p rfl _ λq o k d=>?_;refine wp (h:=?_);exact m _ o (λj e=>by first|exact k j e|(rw [k j e];simp [go_sem])) (by first|exact d|(simp [go_sem] at d;omega))
def nS (g:Graph)(pl:Xa0)(k:Int)(j:Nat):Int:=iA (pX g pl k) j
theorem L4 (g:Graph)(a:Xa0)(k:Int):pX g a k=[nS g a k 0,nS g a k 1,nS g a k 2,nS g a k 3]:=by
 unfold nS pX iA;simp only;split
 .rfl
 .split<;>rfl
theorem VE (a b c d p q r s:Int):cJ [a,b,c,d] [p,q,r,s]=Tx [cmp1 a p,cmp1 b q,cmp1 c r,cmp1 d s]:=by
 simp only [cJ,cmp1,Tx]
 repeat' split
 all_goals first|rfl|omega|simp_all
structure PlOk (g:Graph) (pl:Xa0):Prop where
 gg:∀ x∈g.j,(0<=x.from_/\x.from_<g.i.length)/\0<=x.L/\x.L<g.i.length
 pl:pl.length=g.i.length
 e:g.j.length<=1000
theorem IZ (g:Graph)(pl:Xa0)(r:PlOk g pl)(k:Nat)(i:k<g.j.length):Pua 111 [dI k,.adr g.c,.adr [dLI pl]] (.tup [dI (nS g pl k 0),dI (nS g pl k 1),dI (nS g pl k 2),dI (nS g pl k 3)]):=by
 obtain ⟨x,e⟩:=cY (g.j[k]);have f:=r.gg _ (aC i);rw [<- e] at f;have s:=r.pl;have o:x.from_.toNat<pl.length:=bL;have n:x.L.toNat<pl.length:=bL;have w:eA g k=x:=by rw [Xg i,e]
 obtain ⟨a,q⟩:=cY (pl[x.from_.toNat]);obtain ⟨b,p⟩:=cY (pl[x.L.toNat]);have v:iA pl x.from_=a:=by unfold iA;rw [aA o,<- q];rfl
 have u:iA pl x.L=b:=by unfold iA;rw [aA n,<- p];rfl
 have l:pX g pl k=if a<b then [b,a,0,x.type] else if b<a then [a,b,1,x.type] else [b,8,0,x.type]:=by unfold pX jS;simp only [w,v,u]
 refine Tz.pK ⟨λt=>t==8,λ_=>[]⟩ func111 rfl (λQ j=>?_);have Y:=xa8 @Graph.c.eq_1 @Edge.c.eq_1 (aA i) (Eq.symm e) (aA o) (Eq.symm q) (aA n) (Eq.symm p) f.1 f.2;refine jH (λd=>?_) λd=>?_
 .have hK1:pX g pl k=[b,a,0,x.type]:=by rw [l,if_pos (cG d)]
  exact wv (h:=j _ _ (by simp [go_sem,nS,hK1,iA]))
 .refine dD (λm=>?_) λm=>?_
  .have hK1:pX g pl k=[a,b,1,x.type]:=by rw [l,if_neg (cG d),if_pos (cG m)]
   exact wv (h:=j _ _ (by simp [go_sem,nS,hK1,iA]))
  .have hK1:pX g pl k=[b,8,0,x.type]:=by rw [l,if_neg (cG d),if_neg (cG m)]
   exact wv (h:=j _ _ (by simp [go_sem,nS,hK1,iA]))
theorem Se (g:Graph)(a:Xa0)(b:PlOk g a)(i k:Nat)(f:i<g.j.length)(e:k<g.j.length):Pua 113 [dI i,dI k,.adr [.fn 111 [.adr g.c,.adr [dLI a]]]] (dI (cJ (pX g a i) (pX g a k))):=by
 have m:=IZ g a b i f;have l:=IZ g a b k e;have d:=VE (nS g a i 0) (nS g a i 1) (nS g a i 2) (nS g a i 3) (nS g a k 0) (nS g a k 1) (nS g a k 2) (nS g a k 3);rw [<- L4,<- L4] at d;rw [d];refine Tz.p0 func113 rfl λQ j Y=>?_;refine wv (h:=aB (m) wl ?_);refine wv (h:=aB (l) wl ?_);refine wv (h:=aB (lQ (nS g a i 0) (nS g a k 0)) wl ?_);refine wv (h:=aB (lQ (nS g a i 1) (nS g a k 1)) wl ?_);refine wv (h:=aB (lQ (nS g a i 2) (nS g a k 2)) wl ?_);refine wv (h:=aB (lQ (nS g a i 3) (nS g a k 3)) wl ?_);refine wv (h:=aB (SI [cmp1 (nS g a i 0) (nS g a k 0),cmp1 (nS g a i 1) (nS g a k 1),cmp1 (nS g a i 2) (nS g a k 2),cmp1 (nS g a i 3) (nS g a k 3)]) wl ?_);exact wv (h:=j _ _ wy)
theorem U8 (n:Nat):oF n++[(n:Int)]=oF (n+1):=by simp [oF,c6]
theorem P2 {n:Nat}{x:Int}(h:x∈oF n):∃ k:Nat,k<n/\x=(k:Int):=by
 simp only [oF,aS,bN] at h;obtain ⟨k,b,a⟩:=h;exact ⟨k,b,a.symm⟩
theorem DV (f:Int->Xa0):∀ n,(yP f (λ_=>true) n).length=n
 | 0=>rfl
 | n+1=>by
  have ih:=DV f n;have h:=NL f n (yP f (λ_=>true) n) (yP f (λ_=>true) n).length;simp only [yP,if_true,Qf,aO,cD,bT,dV];omega
theorem Fq (g:Graph)(h:Xa0)(G:PlOk g h):Pua 56 [g.d,dLI h] (dLI (yP (pX g h) (λ_=>true) g.j.length)):=by
 have S:=G.e;have f:oF 0=[]:=rfl;refine Tz.pK ⟨λt=>t==5||t==7,λ_=>[]⟩ func56 rfl (λQ O=>?_);try simp [go_sem,seval,Graph.c,Graph.d,f]
 repeat first|intro _|refine ⟨fY,?_⟩
 obtain ⟨F,p⟩:∃ F:Nat->dO->AHeap->Prop,∀ (i:Nat) (e:dO) (H:AHeap),F i e H↔((e 2=.adr g.c)/\(e 3=.adr [dLI h])/\(e 5=.own 0 i)/\(e 10=dI g.j.length)/\(e 11=dI i)/\(H.get 0=some ⟨3,1,(oF i).map cI,false⟩)/\(0<H.next)/\(i<=g.j.length)):=⟨λi e H=>_,λ_ _ _=>Iff.rfl⟩;refine tI F (λi=>g.j.length - i) (0) ((p _ _ _).2 ⟨?_,?_,?_,?_,?_,?_,?_,(by first|assumption|omega|(simp [go_sem,Graph.c,Graph.d,f];done)|(simp_all;done))⟩) ?_;iterate 7 (first|omega|(simp [go_sem,seval,Graph.c,Graph.d,f]<;>omega))
 intro i e H C;obtain ⟨v,u,s,l,k,z,w,R⟩:=(p _ _ _).1 C;have J:=bU w;have q:=xa5 v u s l k z J;try simp [go_sem,seval,Graph.c,Graph.d,f,q]
 refine aU (λr=>?_) (λr=>?_)
 .try simp [go_sem] at r
  have m:(oF i).map cI++[[D.int .i64 (i:Int)]]=(oF (i+1)).map cI:=by rw [<- U8];simp [cI]
  have n:=WJ i;try simp [go_sem,seval,Graph.c,Graph.d,f,q,r,m,n]
  repeat first|intro _|refine ⟨fY,?_⟩
  refine gU (i+1) bL ((p _ _ _).2 ⟨?_,?_,?_,?_,?_,?_,?_,(by first|assumption|omega|(simp [go_sem,Graph.c,Graph.d,f,q,r,m,n];done)|(simp_all<;>omega))⟩)<;>first|omega|(simp [go_sem,seval,Graph.c,Graph.d,f,q,r,m,n]<;>omega)
 .try simp [go_sem] at r
  have E:i=g.j.length:=bL;try simp [go_sem,seval,Graph.c,Graph.d,f,q,E]
  unfold dQ;refine Q6 [H.next] (args':=[.own 0 g.j.length,.fn 113 [.adr [.fn 111 [.adr g.c,.adr [dLI h]]]]]) rfl ?_ ?_
  focus rintro (_|_|j) d U B A<;>simp at B A;exact .inl (A.symm.trans B);subst B A;right;simp [G0,Fa,fW,Sk,W4,go_sem,Graph.c]
  refine H7 _ 0 g.j.length ?_ bL _ _ (by simp [go_sem,Graph.c]) (pX g h) ?_ _ λV I T P=>?_
  focus simp [go_sem,fH,q,E]
  focus intro x L y K;obtain ⟨a,N,rfl⟩:=P2 L;obtain ⟨b,M,rfl⟩:=P2 K;exact ⟨_,Se g h G a b N M,Iff.rfl⟩
  try simp [go_sem,seval,Graph.c,Graph.d,f,q,E]
  exact O _ _ (by first|(left;(have o:=DV (pX g h) g.j.length;simp [go_sem,I,dLI,o]);done)|(right;(have o:=DV (pX g h) g.j.length;simp [go_sem,I,dLI,o]);done))
def vU (o:Xa0)(n:Nat):Nat->Xa0
 | 0=>List.replicate n 0
 | k+1=>(vU o n k).set (iA o k).toNat k
theorem tO (o:Xa0)(n:Nat):∀ k,(vU o n k).length=n
 | 0=>by simp [vU]
 | k+1=>by rw [vU,iZ,tO o n k]
theorem Wv {o:Xa0}{n:Nat}(ho:o.Nodup)(hr:∀ x∈o,0≤x∧x<n):∀ k≤o.length,∀ j<k,iA (vU o n k) (iA o j)=(j:Int)
 | 0,_,j,hj=>absurd hj (De _)
 | k+1,hk,j,hj=>by
  have hkl:k<o.length:=by omega
  have hjl:j<o.length:=by omega
  have ek:iA o k=o[k]:=jU hkl;have ej:iA o j=o[j]:=jU hjl;have rk:=hr _ (aC hkl);have rj:=hr _ (aC hjl);have hl:=tO o n k;rw [ej];unfold iA;rw [vU,ek];by_cases e:j=k
  ·subst e
   rw [MO (by omega)];rfl
  ·have hne:o[k].toNat≠o[j].toNat:=fun h=>cA.1 ho j k hjl hkl (by omega) (by omega)
   rw [List.getElem?_set_ne hne];have:=Wv ho hr k (by omega) j (by omega);rw [ej] at this;unfold iA at this;exact this
def En (g:Graph)(pl:Xa0)(e:Int):Edge:=⟨jS g e,iA pl (eA g e).from_,iA pl (eA g e).L⟩
def y9 (h:Host):Xa0:=(xB h.o.i.length (jA h) h.o.i.length [] [] ⟨false,[],[]⟩).bx
def Eo (h:Host):Xa0:=vU (y9 h) h.o.i.length h.o.i.length
def GG (h:Host):Xa0:=yP (pX h.o (Eo h)) (λ_=>true) h.o.j.length
def vC (h:Host):Host:=⟨⟨(y9 h).map (gN h.o),(GG h).map (En h.o (Eo h))⟩,(y9 h).map (vN h)⟩
def SU (h:Host):Part:=⟨Eo h,vU (GG h) h.o.j.length h.o.j.length⟩
def lR (t:Types)(h:Host):Int:=if dH t h≠0 then dH t h else if 8<h.o.i.length then 3 else 0
def pI (t:Types)(h:Host):Host:=if lR t h≠0 then ⟨⟨[],[]⟩,[]⟩ else vC h
def JQ (t:Types)(h:Host):Part:=if lR t h≠0 then ⟨[],[]⟩ else SU h
theorem FI (h:Host):Best h.o.i.length (fV (jA h) []) (y9 h):=by
 obtain ⟨o,b,a⟩:=Uw (N:=h.o.i.length) (sg:=jA h) Y8;unfold y9;rw [b];exact a
theorem N6 (h:Host):(y9 h).length=h.o.i.length/\(∀ x∈y9 h,0<=x/\x<h.o.i.length)/\(y9 h).Nodup:=vL.1 (FI h).mem
theorem Xw (h:Host):∀ x∈GG h,0<=x/\x<h.o.j.length:=λx hx=>by
 obtain ⟨k,hk,rfl,_⟩:=((BR (f:=pX h.o (Eo h)) (p:=λ_=>true) h.o.j.length).2 x).1 hx;omega
theorem Mz (h:Host):(GG h).length=h.o.j.length:=DV _ _
theorem My (h:Host):(Eo h).length=h.o.i.length:=tO _ _ _
theorem Sl (t:Types)(a:t.ok)(h:Host):Pua 53 [t.d,h.d] (dI (dH t h)):=by
 refine Tz.p0 func53 rfl λQ b Y=>?_;refine wv (h:=aB (rU t a h) wl ?_);exact wv (h:=b _ _ (by simp [go_sem,dH]))
theorem Bm (t:Types)(ht:t.ok)(h:Host):Pua 22 [t.d,h.d] (.tup [(pI t h).d,(JQ t h).d,dI (lR t h)]):=by
 refine Tz.pK ⟨λt=>t==4||t==5||t==33||t==9||t==10||t==41||t==46||t==15,λr=>match r with|9=>[(5,6),(5,7),(5,8),(5,9),(1,10),(2,10),(3,10),(4,10),(5,10),(1,12),(2,12),(3,12),(4,12),(5,12),(6,12),(7,12),(8,12),(9,12),(10,12)]|14=>[(0,9),(1,9),(2,9)]|15=>[(0,8),(1,8)]|22=>[(0,18),(1,18),(2,18)]|24=>[(1,2)]|_=>[]⟩ func22 rfl (λQ hQ=>?_);have Y:=xa1 @Host.d.eq_1 @Host.c.eq_1 @Part.d.eq_1;refine wv (h:=aB (Sl t ht h) wl ?_);refine dD (λh2=>?_) λh2=>?_
 .have hE:lR t h=dH t h:=by unfold lR;rw [if_pos (cG h2)]
  have l:lR t h≠0:=by rw [hE];simpa using h2
  have hH:pI t h=⟨⟨[],[]⟩,[]⟩:=if_pos l;have hM:JQ t h=⟨[],[]⟩:=if_pos l;exact wv (h:=hQ _ _ (by rw [hH,hM,hE];simp [go_sem,Y,dLI]))
 .have h0:dH t h=0:=by simpa using h2
  have G:=rW h0;have d3:=bW G.gg;refine dZ (λh4=>?_) λh4=>?_
  .have hE:lR t h=3:=by unfold lR;rw [if_neg (cG h0),if_pos bL]
   have l:lR t h≠0:=by rw [hE];decide
   have hH:pI t h=⟨⟨[],[]⟩,[]⟩:=if_pos l;have hM:JQ t h=⟨[],[]⟩:=if_pos l;exact wv (h:=hQ _ _ (by rw [hH,hM,hE];simp [go_sem,Y,dLI]))
  .have hE:lR t h=0:=by unfold lR;rw [if_neg (cG h0),if_neg bL]
   have hH:pI t h=vC h:=if_neg (by rw [hE];decide);have hM:JQ t h=SU h:=if_neg (by rw [hE];decide);have hC:CanOk h:=⟨G.vl,bL,bL,λv hv=>by have:=(G.row v hv).1;omega⟩;obtain ⟨o,q⟩:=cY (y9 h);have F:=N6 h;rw [<- q] at F;obtain ⟨N,hN⟩:=cY (h.o.i.length);obtain ⟨m,hm⟩:=cY (h.o.j.length);obtain ⟨E,n⟩:=cY (GG h);have c3:=Mz h;rw [<- n] at c3;refine wv (h:=?_);unfold dQ;refine S9 (id:=2) (k:=⟨129,8,[[dLI h.o.i,.list (h.o.j.map Edge.c),.list (h.values.map cL),.nil,.nil,.nil,.nil,.bool false]],false⟩) ?_ ?_
   focus simp [go_sem,dLI]
   refine Em h hC 2 h.o.i.length [] [] ⟨false,[],[]⟩ _ _ bS bS ⟨by simp,by simp⟩ ?_ ?_ ?_ (λg g1 f1 n1 a1=>?_)
   focus simp [go_sem,cnC,dLI,Yw,eL,gI,lA,t8]
   focus first|(simp [go_sem];done)|(simp [go_sem];omega)
   focus intro j hj;simp [go_sem,gP,jQ,pJ] at hj ⊢;exact ⟨bL,bL,bL,id⟩
   have e0:=f1 0 eh (by decide);have e1:=f1 1 eh (by decide);simp [go_sem] at e0 e1 n1;have b9:(xB h.o.i.length (jA h) h.o.i.length [] [] ⟨false,[],[]⟩).bx=o:=q.symm;simp only [cnC,b9] at g1;obtain ⟨zz,a8⟩:∃ x,x=dLI (xB h.o.i.length (jA h) h.o.i.length [] [] ⟨false,[],[]⟩).Z:=⟨_,rfl⟩;obtain ⟨zf,a9⟩:∃ x,x=(xB h.o.i.length (jA h) h.o.i.length [] [] ⟨false,[],[]⟩).found:=⟨_,rfl⟩;rw [<- a8,<- a9] at g1;have nx:=Yy g.next;have ny:(∀ a b:Nat,(g.next+a+b=g.next)=(a+b=0))/\(∀ a b c:Nat,(g.next+a+b+c=g.next)=(a+b+c=0)):=⟨λ_ _=>propext bL,λ_ _ _=>propext bL⟩;have fx:=bU n1;have c7:=bU (bL:0<g.next);have c6:=bU (bL:1<g.next);have U:o.length=N:=by rw [hN];exact F.1
   have b4:(vU o N 0).map cI=List.replicate N [D.int .i64 0]:=by simp [vU,cI]
   have b3:(vU E m 0).map cI=List.replicate m [D.int .i64 0]:=by simp [vU,cI]
   have Y:=xa1 Y g1 (xb0 e0 e1 U (Eq.symm hN) (Eq.symm hm) nx ny fx c7 c6 b4 b3);refine wo (h:=o8 (Ghosts.step (Ghosts.step (Ghosts.refl _) g.next 0 0 3 1 _ _ ((by simp [go_sem,nx]:AHeap.get _ _=some ⟨33,3,[[.nil,.nil,.nil]],false⟩)) rfl rfl rfl) g.next 0 2 27 1 _ _ ((by simp [go_sem,nx]:AHeap.get _ _=some ⟨33,3,[[.own (g.next+1+14) 0,.nil,.nil]],false⟩)) rfl rfl rfl) (λk e H=>∃ X:Nat,∃ A:Nat,∃ B:Nat,∃ M:Nat,∃ C:Nat,∃ V:Nat,(e 2=.adr t.c/\e 3=.adr h.c/\e 4=.ptr 0 1 0 0/\e 5=.ptr 1 1 0 0/\e 9=.ptr X 1 0 0/\e 10=.ptr M 1 0 0/\e 51=dLI o/\e 52=dI o.length/\e 53=dI k)/\(H.get 0=some ⟨33,3,[[.nil,.nil,.nil]],false⟩)/\(0<H.next)/\(H.get 1=some ⟨55,2,[[.nil,.nil]],false⟩)/\(1<H.next)/\(H.get X=some ⟨33,3,[[.own C k,.nil,.own V k]],false⟩)/\(X<H.next)/\(H.get A=some ⟨3,1,(vU o N k).map cI,false⟩)/\(A<H.next)/\(H.get B=some ⟨3,1,(vU E m 0).map cI,false⟩)/\(B<H.next)/\(H.get M=some ⟨55,2,[[.own A N,.own B m]],false⟩)/\(M<H.next)/\(H.get C=some ⟨3,1,((o.take k).map (gN h.o)).map cI,false⟩)/\(C<H.next)/\(H.get V=some ⟨27,1,((o.take k).map (vN h)).map cL,false⟩)/\(V<H.next)/\(k<=o.length)/\(2<X/\X<A/\A<B/\B<M/\M<C/\C<V)) (λk=>o.length - k) 0 ⟨g.next,(g.next+1+5),(g.next+1+10),(g.next+1+12),(g.next+1+14),(g.next+1+14+1),wg,wn,wn,wn,wn,wn,wn,wn,wn,wn,wn,wn,wn,wn,wn,wn,wn,wi,bL⟩ λI0 c2 k e H b7=>?_);obtain ⟨X,A,B,M,C,V,E0,a7,R,a5,O,gX_0,nX_0,gA_0,nA_0,gB_0,nB_0,gM_0,nM_0,gC_0,nC_0,gV_0,nV_0,hk,b5⟩:=b7;have xA:=bU nA_0;have d0:=xa4 (b8 (bL:V≠C)) (b8 (bL:V≠M)) (b8 (bL:V≠B)) (b8 (bL:V≠A)) (b8 (bL:V≠X)) (xb0 (b8 (bL:V≠1)) (b8 (bL:V≠0)) (b8 (bL:C≠M)) (b8 (bL:C≠B)) (b8 (bL:C≠A)) (b8 (bL:C≠X)) (b8 (bL:C≠1)) (b8 (bL:C≠0)) (b8 (bL:M≠B)) (b8 (bL:M≠A)) (b8 (bL:M≠X)) (xb0 (b8 (bL:M≠1)) (b8 (bL:M≠0)) (b8 (bL:B≠A)) (b8 (bL:B≠X)) (b8 (bL:B≠1)) (b8 (bL:B≠0)) (b8 (bL:A≠X)) (b8 (bL:A≠1)) (b8 (bL:A≠0)) (b8 (bL:X≠1)) (b8 (bL:X≠0)) (b8 (bL:1≠0))));have Y:=xa6 Y E0 a7 (bU R) a5 (bU O) gX_0 (xb0 (bU nX_0) gA_0 (bU nA_0) gB_0 (bU nB_0) gM_0 (bU nM_0) gC_0 (bU nC_0) gV_0 (bU nV_0) d0);refine dD (λa3=>?_) λa3=>?_
   .have hkl:k<o.length:=bL;have hr:=F.2.1 _ (aC hkl);have J:o[k].toNat<h.o.i.length:=bL;have I:o[k].toNat<h.values.length:=by have:=G.vl;omega
    obtain ⟨nd,Z⟩:∃ x,x=h.o.i[o[k].toNat]:=⟨_,rfl⟩;obtain ⟨vs,w⟩:∃ x,x=h.values[o[k].toNat]:=⟨_,rfl⟩;have d2:vs.length<=8:=by rw [w];exact (G.row _ (aC I)).1
    have s1:((vU o N k).map cI).set o[k].toNat [D.int .i64 (k:Int)]=(vU o N (k+1)).map cI:=by
     rw [vU,c8,jU hkl];simp [cI]
    have K:((o.take k).map (gN h.o)).map cI++[[D.int .i64 nd]]=((o.take (k+1)).map (gN h.o)).map cI:=by
     rw [fN _ hkl,List.map_append];have:gN h.o o[k]=nd:=by unfold gN;rw [aA J,Z];rfl
     rw [this];simp [cI]
    have s3:((o.take k).map (vN h)).map cL++[[dLI vs]]=((o.take (k+1)).map (vN h)).map cL:=by
     rw [fN _ hkl,List.map_append];have:vN h o[k]=vs:=by unfold vN;rw [aA I,w];rfl
     rw [this];simp [cL]
    have i:=tO o N k;have y:o[k]<(N:Int):=bL;have b0:h.values.length=N:=by have:=G.vl;omega
    simp [dLI] at K s3;have Y:=xa2 Y a3 y (xb0 b0 (aA hkl) hr.1 hr.2 (aA J) (aA I) (Eq.symm Z) (Eq.symm w) s1 K s3 i);refine wo (h:=?_);refine mO (jC vs bL) (by simp [go_sem,Y,dLI]) eh (Ju _) rfl eh ?_;exact wo (h:=wx c2 (k+1) ⟨X,A,B,M,C,V,wg,wn,wn,wn,wn,wn,wn,wn,wn,wn,wn,wn,wn,wn,wn,wn,wn,wj,(by exact b5)⟩)
   .have hkN:k=N:=bL;obtain ⟨f,T⟩:∃ x,x=vU o N N:=⟨_,rfl⟩;have p:f=Eo h:=by rw [T];unfold Eo;rw [<- q,<- hN]
    have i:f.length=N:=by rw [p,hN];exact My h
    have c4:E=yP (pX h.o f) (λ_=>true) h.o.j.length:=by rw [n];unfold GG;rw [p]
    have b1:o.take N=o:=aH bL;have a0:PlOk h.o f:=⟨λx S=>((eI G.gg).2 x S).2,bL,bL⟩;have d1:Pua 56 [h.o.d,dLI f] (dLI E):=by rw [c4];exact Fq h.o f a0
    have s:E.length=m:=bL;have Y:=xa4 Y hkN (Eq.symm T) b1 i s;refine wo (h:=QK (d1) wz wl wz ?_);refine wo (h:=o8 (Ghosts.step (Ghosts.refl _) X 0 1 124 3 _ _ ((by simp [go_sem,Y]:AHeap.get _ _=some ⟨33,3,[[.own C N,.nil,.own V N]],false⟩)) rfl rfl rfl) (λj e H=>∃ W:Nat,(e 2=.adr t.c/\e 3=.adr h.c/\e 4=.ptr 0 1 0 0/\e 5=.ptr 1 1 0 0/\e 9=.ptr X 1 0 0/\e 10=.ptr M 1 0 0/\e 92=dLI E/\e 93=dI E.length/\e 94=dI j)/\(H.get 0=some ⟨33,3,[[.nil,.nil,.nil]],false⟩)/\(0<H.next)/\(H.get 1=some ⟨55,2,[[.nil,.nil]],false⟩)/\(1<H.next)/\(H.get X=some ⟨33,3,[[.own C N,.own W j,.own V N]],false⟩)/\(X<H.next)/\(H.get B=some ⟨3,1,(vU E m j).map cI,false⟩)/\(B<H.next)/\(H.get M=some ⟨55,2,[[.own A N,.own B m]],false⟩)/\(M<H.next)/\(H.get C=some ⟨3,1,(o.map (gN h.o)).map cI,false⟩)/\(C<H.next)/\(H.get V=some ⟨27,1,(o.map (vN h)).map cL,false⟩)/\(V<H.next)/\(H.get W=some ⟨124,3,((E.take j).map (En h.o f)).map Edge.c,false⟩)/\(W<H.next)/\(j<=E.length)/\(H.get A=some ⟨3,1,f.map cI,true⟩)/\(A<H.next)/\(V<W)) (λj=>E.length - j) 0 ⟨H.next,wg,wn,wn,wn,wn,wn,wn,wn,wn,wn,wn,wn,wn,wn,wn,wn,wn,wi,(by simp [go_sem,Y];done),(by simp [go_sem,Y];omega),bL⟩ λI2 c1 j e H b6=>?_);obtain ⟨W,E2,a6,P,a4,L,gX_2,nX_2,gB_2,nB_2,gM_2,nM_2,gC_2,nC_2,gV_2,nV_2,gW_2,nW_2,hj,hA,c5,hW⟩:=b6;have c9:=xa1 (b8 (bL:W≠V)) (b8 (bL:W≠C)) (xb0 (b8 (bL:W≠M)) (b8 (bL:W≠B)) (b8 (bL:W≠A)) (b8 (bL:W≠X)) (b8 (bL:W≠1)) (b8 (bL:W≠0)) (b8 (bL:V≠C)) (b8 (bL:V≠M)) (b8 (bL:V≠B)) (b8 (bL:V≠A)) (b8 (bL:V≠X)) (xb0 (b8 (bL:V≠1)) (b8 (bL:V≠0)) (b8 (bL:C≠M)) (b8 (bL:C≠B)) (b8 (bL:C≠A)) (b8 (bL:C≠X)) (b8 (bL:C≠1)) (b8 (bL:C≠0)) (b8 (bL:M≠B)) (b8 (bL:M≠A)) (b8 (bL:M≠X)) (xb0 (b8 (bL:M≠1)) (b8 (bL:M≠0)) (b8 (bL:B≠A)) (b8 (bL:B≠X)) (b8 (bL:B≠1)) (b8 (bL:B≠0)) (b8 (bL:A≠X)) (b8 (bL:A≠1)) (b8 (bL:A≠0)) (b8 (bL:X≠1)) (b8 (bL:X≠0)) (b8 (bL:1≠0)))));have xA:=bU c5;have Y:=xa8 Y E2 a6 (bU P) a4 (bU L) gX_2 (bU nX_2) gB_2 (xb0 (bU nB_2) gM_2 (bU nM_2) gC_2 (bU nC_2) gV_2 (bU nV_2) gW_2 (bU nW_2) c9 hA xA);refine dD (λa2=>?_) λa2=>?_
    .have hjl:j<E.length:=bL;have hr:=Xw h E[j] (by rw [<- n];exact aC hjl);have y:E[j]<(m:Int):=bL;have J:E[j].toNat<h.o.j.length:=bL;obtain ⟨x,S⟩:=cY (h.o.j[E[j].toNat]);have u:=a0.gg _ (aC J);rw [<- S,<- hN] at u;have I:x.from_.toNat<f.length:=bL;have q3:x.L.toNat<f.length:=bL;have z:=tO E m j;have s1:((vU E m j).map cI).set E[j].toNat [D.int .i64 (j:Int)]=(vU E m (j+1)).map cI:=by
      rw [vU,c8,jU hjl];simp [cI]
     have K:((E.take j).map (En h.o f)).map Edge.c++[[dI x.type,dI f[x.from_.toNat],dI f[x.L.toNat]]]=((E.take (j+1)).map (En h.o f)).map Edge.c:=by
      rw [fN _ hjl,List.map_append];have e1:eA h.o E[j]=x:=by unfold eA;rw [aA J,S];rfl
      have:En h.o f E[j]=⟨x.type,f[x.from_.toNat],f[x.L.toNat]⟩:=by
       unfold En jS iA;rw [e1,aA I,aA q3];rfl
      rw [this];simp [Edge.c]
     simp [go_sem] at K;have Y:=xa3 Y e1 a2 (aA hjl) (xb0 hr.1 y (aA J) (Eq.symm S) u.1 u.2 (aA I) (aA q3) s1 K z @Edge.c.eq_1);exact wo (h:=wx c1 (j+1) ⟨W,wg,wn,wn,wn,wn,wn,wn,wn,wn,wn,wn,wn,wn,wn,wn,wn,wn,wj,(by simp [go_sem,Y];done),(by simp [go_sem,Y];omega),(by exact hW)⟩)
    .have hjm:j=m:=bL;have c0:E.take m=E:=aH bL;have b2:=tO E m m;have eH:vC h=⟨⟨o.map (gN h.o),E.map (En h.o f)⟩,o.map (vN h)⟩:=by unfold vC;rw [<- q,<- n,p]
     have eM:SU h=⟨f,vU E m m⟩:=by unfold SU;rw [<- n,p,<- hm]
     have Y:=xa1 Y hjm c0;exact wv (h:=hQ _ _ (by rw [hH,hM,hE,eH,eM];simp [go_sem,Y,dLI,i,b2,U,s]))
structure Vis where
 V:Int
 m:Mat
 az:Host
def uZ (t:Types)(r:Rule)(h:Host)(m:Mat):Host:=(pE t r h m).after
def nG (t:Types)(r:Rule)(h:Host)(i:Int):List Mat->List Vis × Int
 | []=>([],0)
 | m :: l=>if nT t r h m≠0 then ([],nT t r h m) else if lR t (uZ t r h m)≠0 then ([],lR t (uZ t r h m)) else (⟨i,m,pI t (uZ t r h m)⟩ :: (nG t r h i l).1,(nG t r h i l).2)
def jJ (t:Types)(h:Host):Nat->List Rule->List Vis × Int
 | _,[]=>([],0)
 | i,r :: l=>if (iS t r h).2≠0 then ([],(iS t r h).2) else if (nG t r h i (iS t r h).1).2≠0 then nG t r h i (iS t r h).1 else ((nG t r h i (iS t r h).1).1++(jJ t h (i+1) l).1,(jJ t h (i+1) l).2)
theorem EW (t:Types)(ht:t.ok)(rs:List Rule)(b5:∀ r∈rs,r.ok)(h:Host)(g:FuncId)(y:Xa2)(G:AHeap)(Q:D->AHeap->Prop)(I:List Vis->AHeap->Prop)(h0:I [] G)
  (hw:∀ vs H H',I vs H->(∀ j,j<H.next->H'.get j=H.get j)->H.next<=H'.next->I vs H')
  (hs:∀ vs v H,(∃ r,(jJ t h 0 rs).1=vs++v :: r)->I vs H->G.next<=H.next->∀ K:D->AHeap->Prop,(∀ H',I (vs++[v]) H'->(∀ x,G.next<=x->x<H.next->H'.get x=H.get x)->H.next<=H'.next->K (.tup []) H')->ACalls prog g ([dI v.V,v.m.d,v.az.d]++y) H K)
  (R:∀ H',I (jJ t h 0 rs).1 H'->G.next<=H'.next->Q (dI (jJ t h 0 rs).2) H'):ACalls prog 23 [t.d,.list (rs.map Rule.c),h.d,.fn g y] G Q:=by
 refine (Tz.cK ⟨λt=>t==10||t==14||t==15||t==17||t==18,λ_=>[]⟩ func23 rfl ?_);try simp [go_sem,seval,Mat.c,Mat.d,Host.c,Host.d,Stp26.c,Rule.c,Rule.d]
 repeat first|intro _|refine ⟨fY,?_⟩
 obtain ⟨I0,a3⟩:∃ I0:Nat->dO->AHeap->Prop,∀ (i:Nat) (e:dO) (H:AHeap),I0 i e H↔(∃ vs:List Vis,(e 4=.adr t.c)/\(e 6=.adr h.c)/\(e 3=.fn g y)/\(e 19=.list (rs.map Rule.c))/\(e 20=dI rs.length)/\(e 21=dI i)/\(i<=rs.length)/\(I vs H)/\(G.next<=H.next)/\(jJ t h 0 rs=(vs++(jJ t h i (rs.drop i)).1,(jJ t h i (rs.drop i)).2))):=⟨λi e H=>_,λ_ _ _=>Iff.rfl⟩;refine tI I0 (λi=>rs.length - i) (0) ((a3 _ _ _).2 ⟨([]),?_,?_,?_,?_,?_,?_,(by first|assumption|omega|(simp [go_sem,Mat.c,Mat.d,Host.c,Host.d,Stp26.c,Rule.c,Rule.d];done)|(simp_all;done)),(by exact h0),(by exact aT _),(by simp)⟩) ?_;iterate 6 (first|omega|(simp [go_sem,seval,Mat.c,Mat.d,Host.c,Host.d,Stp26.c,Rule.c,Rule.d]<;>omega))
 intro i e H b9;obtain ⟨vs,a8,a6,b0,a0,Y,W,hi,hI,b3,hV⟩:=(a3 _ _ _).1 b9;have N:=xa4 a8 a6 b0 a0 Y W;try simp [go_sem,seval,Mat.c,Mat.d,Host.c,Host.d,Stp26.c,Rule.c,Rule.d,N]
 refine aU (λf=>?_) (λf=>?_)
 .try simp [go_sem] at f
  have b2:=b5 _ (aC f);obtain ⟨L,n⟩:∃ x,x=(iS t rs[i] h).1:=⟨_,rfl⟩;have p:jJ t h i (rs.drop i)=if (iS t rs[i] h).2≠0 then ([],(iS t rs[i] h).2) else if (nG t rs[i] h i L).2≠0 then nG t rs[i] h i L else ((nG t rs[i] h i L).1++(jJ t h (i+1) (rs.drop (i+1))).1,(jJ t h (i+1) (rs.drop (i+1))).2):=by
   rw [List.drop_eq_getElem_cons f,n];rfl
  try simp [go_sem,seval,Mat.c,Mat.d,Host.c,Host.d,Stp26.c,Rule.c,Rule.d,N,f,aA f,<- n]
  repeat first|intro _|refine ⟨fY,?_⟩
  refine aB (GX t ht rs[i] b2 h) ((by first|rfl|(simp [go_sem,<- List.map_take,<- List.map_drop,Mat.c,Mat.d,Host.c,Host.d,Stp26.c,Rule.c,Rule.d,N,f,aA f,<- n];done))) ?_;try simp [go_sem,seval,Mat.c,Mat.d,Host.c,Host.d,Stp26.c,Rule.c,Rule.d,N,f,aA f,<- n]
  repeat first|intro _|refine ⟨fY,?_⟩
  refine aU (λh5=>?_) (λh5=>?_)
  .try simp [go_sem] at h5
   have b7:(iS t rs[i] h).2≠0:=by simpa using h5
   rw [if_pos b7] at p;have hE:jJ t h 0 rs=(vs,(iS t rs[i] h).2):=by rw [hV,p];simp
   try simp [go_sem,seval,Mat.c,Mat.d,Host.c,Host.d,Stp26.c,Rule.c,Rule.d,N,f,aA f,<- n]
   rw [hE] at R;exact R _ (hw _ _ _ hI (λx J=>by simp [go_sem,bU J]) eh) eq
  .try simp [go_sem] at h5
   rw [if_neg (cG h5)] at p;try simp [go_sem,seval,Mat.c,Mat.d,Host.c,Host.d,Stp26.c,Rule.c,Rule.d,N,f,aA f,<- n]
   repeat first|intro _|refine ⟨fY,?_⟩
   obtain ⟨I2,a2⟩:∃ I2:Nat->dO->AHeap->Prop,∀ (j:Nat) (e:dO) (H:AHeap),I2 j e H↔(∃ c:Nat,∃ E:List Vis,(e 4=.adr t.c)/\(e 6=.adr h.c)/\(e 3=.fn g y)/\(e 19=.list (rs.map Rule.c))/\(e 20=dI rs.length)/\(e 21=dI i)/\(e 9=dI i)/\(e 10=.ptr c 1 0 0)/\(e 36=.list (L.map Mat.c))/\(e 37=dI L.length)/\(e 38=dI j)/\(H.get c=some ⟨60,25,[rs[i].c],false⟩)/\(c<H.next)/\(j<=L.length)/\(I E H)/\(G.next<=H.next)/\(G.next<=c)/\(∃ F,E=vs++F/\nG t rs[i] h i L=(F++(nG t rs[i] h i (L.drop j)).1,(nG t rs[i] h i (L.drop j)).2))):=⟨λj e H=>_,λ_ _ _=>Iff.rfl⟩;refine tI I2 (λj=>L.length - j) (0) ((a2 _ _ _).2 ⟨(H.next),(vs),?_,?_,?_,?_,?_,?_,?_,?_,?_,?_,?_,?_,?_,(by first|assumption|omega|(simp [go_sem,Mat.c,Mat.d,Host.c,Host.d,Stp26.c,Rule.c,Rule.d,N,f,aA f,<- n];done)|(simp_all;done)),(by exact hw _ _ _ hI (λx J=>by simp [go_sem,bU J]) eh),eq,(by exact b3),(by exact ⟨[],by simp,by simp⟩)⟩) ?_;iterate 13 (first|omega|(simp [go_sem,seval,Mat.c,Mat.d,Host.c,Host.d,Stp26.c,Rule.c,Rule.d,N,f,aA f,<- n]<;>omega))
   intro j e H b8;obtain ⟨c,E,a7,a5,a9,Z,X,V,a4,a1,U,T,S,b4,b1,hj,M,b6,c1,hM⟩:=(a2 _ _ _).1 b8;have xc:=bU b1;have s:=xa0 a7 (xb0 a5 a9 Z X V a4 a1 U T S b4 xc);try simp [go_sem,seval,Mat.c,Mat.d,Host.c,Host.d,Stp26.c,Rule.c,Rule.d,f,aA f,<- n,s]
   refine aU (λk=>?_) (λk=>?_)
   .try simp [go_sem] at k
    obtain ⟨F,u,w⟩:=hM;have o:nG t rs[i] h i (L.drop j)=if nT t rs[i] h L[j]≠0 then ([],nT t rs[i] h L[j]) else if lR t (uZ t rs[i] h L[j])≠0 then ([],lR t (uZ t rs[i] h L[j])) else (⟨i,L[j],pI t (uZ t rs[i] h L[j])⟩ :: (nG t rs[i] h i (L.drop (j+1))).1,(nG t rs[i] h i (L.drop (j+1))).2):=by
     rw [List.drop_eq_getElem_cons k];rfl
    obtain ⟨q,l⟩:∃ x,x=pI t (uZ t rs[i] h L[j]):=⟨_,rfl⟩;have c5:(pE t rs[i] h L[j]).after=uZ t rs[i] h L[j]:=rfl;have C:=Yy H.next;have B:(∀ a b:Nat,(H.next+a+b=H.next)=(a+b=0))/\(∀ a b c:Nat,(H.next+a+b+c=H.next)=(a+b+c=0)):=⟨λ_ _=>propext bL,λ_ _ _=>propext bL⟩;try simp [go_sem,seval,Mat.c,Mat.d,Host.c,Host.d,Stp26.c,Rule.c,Rule.d,f,aA f,<- n,s,k,aA k,C,B,<- l]
    repeat first|intro _|refine ⟨fY,?_⟩
    refine aB (Rp t ht rs[i] b2 h L[j]) ((by first|rfl|(simp [go_sem,<- List.map_take,<- List.map_drop,Mat.c,Mat.d,Host.c,Host.d,Stp26.c,Rule.c,Rule.d,f,aA f,<- n,s,k,aA k,C,B,<- l];done))) ?_;try simp [go_sem,seval,Mat.c,Mat.d,Host.c,Host.d,Stp26.c,Rule.c,Rule.d,f,aA f,<- n,s,k,aA k,C,B,<- l]
    repeat first|intro _|refine ⟨fY,?_⟩
    refine aU (λA=>?_) (λA=>?_)
    .try simp [go_sem] at A
     have P:nT t rs[i] h L[j]≠0:=by simpa using A
     rw [if_pos P] at o;have hE:jJ t h 0 rs=(E,nT t rs[i] h L[j]):=by rw [hV,p,w,o,if_pos P,u];simp
     try simp [go_sem,seval,Mat.c,Mat.d,Host.c,Host.d,Stp26.c,Rule.c,Rule.d,f,aA f,<- n,s,k,aA k,C,B,<- l]
     rw [hE] at R;exact R _ (hw _ _ _ M (λx J=>by simp [go_sem,bU J]) eq) eq
    .try simp [go_sem] at A
     rw [if_neg (cG A)] at o;try simp [go_sem,seval,Mat.c,Mat.d,Host.c,Host.d,Stp26.c,Rule.c,Rule.d,f,aA f,<- n,s,k,aA k,C,B,<- l]
     refine aB (Bm t ht (uZ t rs[i] h L[j])) ((by first|rfl|(simp [go_sem,<- List.map_take,<- List.map_drop,Mat.c,Mat.d,Host.c,Host.d,Stp26.c,Rule.c,Rule.d,f,aA f,<- n,s,k,aA k,C,B,<- l];done))) ?_;try simp [go_sem,seval,Mat.c,Mat.d,Host.c,Host.d,Stp26.c,Rule.c,Rule.d,f,aA f,<- n,s,k,aA k,C,B,<- l]
     refine aU (λz=>?_) (λz=>?_)
     .try simp [go_sem] at z
      have O:lR t (uZ t rs[i] h L[j])≠0:=by simpa using z
      rw [if_pos O] at o;have hE:jJ t h 0 rs=(E,lR t (uZ t rs[i] h L[j])):=by rw [hV,p,w,o,if_pos O,u];simp
      try simp [go_sem,seval,Mat.c,Mat.d,Host.c,Host.d,Stp26.c,Rule.c,Rule.d,f,aA f,<- n,s,k,aA k,C,B,<- l]
      rw [hE] at R;exact R _ (hw _ _ _ M (λx J=>by simp [go_sem,bU J]) eq) eq
     .try simp [go_sem] at z
      rw [if_neg (cG z),<- l] at o;have c4:∃ F,E++[⟨(i:Int),L[j],q⟩]=vs++F/\nG t rs[i] h i L=(F++(nG t rs[i] h i (L.drop (j+1))).1,(nG t rs[i] h i (L.drop (j+1))).2):=⟨F++[⟨(i:Int),L[j],q⟩],by rw [u];simp,by rw [w,o];simp⟩;have c0:∃ r,(jJ t h 0 rs).1=E++⟨(i:Int),L[j],q⟩ :: r:=by
       rw [hV,p];split
       .exact ⟨(nG t rs[i] h i (L.drop (j+1))).1,by rw [w,o,u];simp⟩
       .exact ⟨(nG t rs[i] h i (L.drop (j+1))).1++(jJ t h (i+1) (rs.drop (i+1))).1,by rw [w,o,u];simp⟩
      try simp [go_sem,seval,Mat.c,Mat.d,Host.c,Host.d,Stp26.c,Rule.c,Rule.d,f,aA f,<- n,s,k,aA k,C,B,<- l]
      unfold dQ;refine hs E ⟨(i:Int),L[j],q⟩ _ c0 ?_ ?_ _ (λH1 I1 f1 n1=>?_)
      focus refine hw _ _ _ M ?_ ?_;intro x J;simp [go_sem,bU J];simp [go_sem];omega
      focus simp [go_sem];omega
      simp [go_sem] at f1 n1;have g1:=f1 c bL bL;simp [go_sem,s] at g1;try simp [go_sem,seval,Mat.c,Mat.d,Host.c,Host.d,Stp26.c,Rule.c,Rule.d,f,aA f,<- n,s,k,aA k,C,B,<- l,g1]
      repeat first|intro _|refine ⟨fY,?_⟩
      refine gU (j+1) bL ((a2 _ _ _).2 ⟨(c),(E++[⟨(i:Int),L[j],q⟩]),?_,?_,?_,?_,?_,?_,?_,?_,?_,?_,?_,?_,?_,(by first|assumption|omega|(simp [go_sem,Mat.c,Mat.d,Host.c,Host.d,Stp26.c,Rule.c,Rule.d,f,aA f,<- n,s,k,aA k,C,B,<- l,g1,h5,A,z];done)|(simp_all<;>omega)),(by exact I1),(by omega),(by exact c1),(by exact c4)⟩)<;>first|omega|(simp [go_sem,seval,Mat.c,Mat.d,Host.c,Host.d,Stp26.c,Rule.c,Rule.d,f,aA f,<- n,s,k,aA k,C,B,<- l,g1]<;>omega)
   .try simp [go_sem] at k
    obtain ⟨F,u,w⟩:=hM;have c3:nG t rs[i] h i L=(F,0):=by rw [w,cR bL];simp [nG]
    rw [c3,if_neg bS] at p;have c2:jJ t h 0 rs=(E++(jJ t h (i+1) (rs.drop (i+1))).1,(jJ t h (i+1) (rs.drop (i+1))).2):=by rw [hV,p,u];simp
    try simp [go_sem,seval,Mat.c,Mat.d,Host.c,Host.d,Stp26.c,Rule.c,Rule.d,f,aA f,<- n,s]
    repeat first|intro _|refine ⟨fY,?_⟩
    refine gU (i+1) bL ((a3 _ _ _).2 ⟨(E),?_,?_,?_,?_,?_,?_,(by first|assumption|omega|(simp [go_sem,Mat.c,Mat.d,Host.c,Host.d,Stp26.c,Rule.c,Rule.d,f,aA f,<- n,s,h5,k];done)|(simp_all<;>omega)),(by exact M),(by exact b6),(by exact c2)⟩)<;>first|omega|(simp [go_sem,seval,Mat.c,Mat.d,Host.c,Host.d,Stp26.c,Rule.c,Rule.d,f,aA f,<- n,s]<;>omega)
 .try simp [go_sem] at f
  have hE:jJ t h 0 rs=(vs,0):=by rw [hV,cR bL];simp [jJ]
  try simp [go_sem,seval,Mat.c,Mat.d,Host.c,Host.d,Stp26.c,Rule.c,Rule.d,N]
  rw [hE] at R;exact R _ hI b3
structure XS where
 A:List Host
 M:List Arr
 all:Bool
def AV (a b:Arr):Bool:=decide (cJ a.key b.key=0)
def zU (x:XS)(hs:List Host)(a:Arr):XS:=⟨hs,if x.M.any (AV a)=true then x.M else x.M++[a],x.all⟩
def kY (most:Int)(i:Int)(x:XS)(v:Vis):XS :=
 if AB x.A v.az<0/\(x.A.length:Int)=most then { x with all:=false }
 else if AB x.A v.az<0 then zU x (x.A++[v.az]) ⟨v.V,i,x.A.length,v.m⟩
 else zU x x.A ⟨v.V,i,AB x.A v.az,v.m⟩
theorem D5 (a b:Arr):Pua 27 [b.d,.adr a.c] (.bool (AV a b)):=by
 refine Tz.p0 func27 rfl λQ e _=>?_;have Y:=wa @Arr.d.eq_1 @Arr.c.eq_1;refine wv (h:=aB (uL a b) wl ?_);exact wv (h:=e _ _ (by simp [go_sem,AV];rfl))
structure HX (H:AHeap) (s hb al at' ar ab:Nat) (i:Int) (d:D) (x:XS):Prop where
 s:H.get s=some ⟨41,2,[[.own hb x.A.length,d]],false⟩
 hb:H.get hb=some ⟨33,3,x.A.map Host.c,false⟩
 J:H.get al=some ⟨4,1,[[.bool x.all]],false⟩
 at':H.get at'=some ⟨3,1,[[dI i]],false⟩
 ar:H.get ar=some ⟨39,1,[[.own ab x.M.length]],false⟩
 ab:H.get ab=some ⟨81,6,x.M.map Arr.c,false⟩
theorem Qs (most i:Int)(s F u f r H:Nat)(d:D)(x:XS)(v:Vis)(G:AHeap)(Q:D->AHeap->Prop)(hx:HX G s F u f r H i d x)
  (hd:s≠F/\s≠u/\s≠f/\s≠r/\s≠H/\F≠u/\F≠f/\F≠r/\F≠H/\u≠f/\u≠r/\u≠H/\f≠r/\f≠H/\r≠H)
  (hl:s<G.next/\F<G.next/\u<G.next/\f<G.next/\r<G.next/\H<G.next) (h1:x.A.length<=1000000000) (J:x.M.length<=1000000000)
  (q:∀ H',HX H' s F u f r H i d (kY most i x v)->(∀ j,j<G.next->j≠s->j≠F->j≠u->j≠r->j≠H->H'.get j=G.get j)->G.next<=H'.next->Q (.tup []) H') :
  ACalls prog 24 [dI v.V,v.m.d,v.az.d,.ptr s 1 0 0,.adr [dI most],.ptr u 1 0 0,.ptr f 1 0 0,.ptr r 1 0 0] G Q:=by
 obtain ⟨e1,e2,e3,e4,e5,e6⟩:=hx;obtain ⟨l1,l2,l3,l4,l5,l6⟩:=hl;have f1:=bU l1;have f2:=bU l2;have f3:=bU l3;have f4:=bU l4;have f5:=bU l5;have f6:=bU l6;obtain ⟨n1,n2,n3,n4,n5,n6,n7,n8,n9,R,P,O,N,M,L⟩:=hd;have m1:=n1.symm;have m2:=n2.symm;have m3:=n3.symm;have m4:=n4.symm;have m5:=n5.symm;have m6:=n6.symm;have m7:=n7.symm;have m8:=n8.symm;have m9:=n9.symm;have a0:=R.symm;have Z:=P.symm;have X:=O.symm;have W:=N.symm;have V:=M.symm;have U:=L.symm;obtain ⟨k,T⟩:=cY (AB x.A v.az);refine (Tz.cK ⟨λt=>t==12,λ_=>[]⟩ func24 rfl ?_);have Y:=xa2 e1 e2 e3 (xb0 e4 e5 e6 f1 f2 f3 f4 f5 f6 n1 n2 (xb0 n3 n4 n5 n6 n7 n8 n9 R P O N (xb0 M L m1 m2 m3 m4 m5 m6 m7 m8 m9 (xb0 a0 Z X W V U @Mat.d.eq_1 @Mat.c.eq_1 @Host.d.eq_1 @Host.c.eq_1 @Arr.c.eq_1 (Eq.symm T)))));refine wv (h:=mP ((EX x.A v.az)) wr wl rfl ?_);refine jH (λJ=>?_) λJ=>?_
 .have I:kY most i x v={ x with all:=false }:=by
   unfold kY;rw [<- T,if_pos (by first|exact J|(simpa using J))]
  refine wv (h:=?_);rw [I] at q;exact q _ ⟨by simp [go_sem,Y],by simp [go_sem,Y],by simp [go_sem,Y],by simp [go_sem,Y],by simp [go_sem,Y],by simp [go_sem,Y]⟩ (λj E C B A z w=>by simp [go_sem,C,B,A,z,w,bU E]) ei
 .have hn2:¬ (k<0/\(x.A.length:Int)=most):=by first|exact J|(intro hh;exact J hh.1 hh.2)|(simpa using J)
  refine dD (λS=>?_) λS=>?_
  .have hk0:k<0:=by first|exact S|(simpa using S)
   obtain ⟨n,b⟩:∃ a:Arr,a=⟨v.V,i,(x.A.length:Int),v.m⟩:=⟨_,rfl⟩;obtain ⟨o,e⟩:∃ l:List Host,l=x.A++[v.az]:=⟨_,rfl⟩;have I:kY most i x v=zU x o n:=by
    unfold kY;rw [<- T,if_neg hn2,if_pos hk0,e,b]
   have K:Pua 26 [.list (x.M.map Arr.c),.fn 27 [.adr [dI v.V,dI i,dI x.A.length,dLI v.m.m.i,dLI v.m.m.j,dLI v.m.vars]]] (.bool (x.M.any (AV n))):=by
    rw [b];exact y4 x.M _ _ _ (by simp [go_sem,dLI]) eh λy _=>D5 ⟨v.V,i,(x.A.length:Int),v.m⟩ y
   refine wp (h:=mP (K) wr wl rfl ?_);refine jH (λp=>?_) λp=>?_
   .have hA:x.M.any (AV n)=false:=by first|exact p|(simpa using p)
    have g:zU x o n=⟨o,x.M++[n],x.all⟩:=by unfold zU;rw [hA];rfl
    refine wp (h:=?_);rw [I,g] at q;exact q _ ⟨by simp [go_sem,Y,e],by simp [go_sem,Y,e],by simp [go_sem,Y],by simp [go_sem,Y],by simp [go_sem,Y,b],by simp [go_sem,Y,b]⟩ (λj E C B A z w=>by simp [go_sem,C,B,A,z,w,bU E]) ei
   .have hA:x.M.any (AV n)=true:=by first|exact p|(simpa using p)
    have g:zU x o n=⟨o,x.M,x.all⟩:=by unfold zU;rw [hA];rfl
    refine wv (h:=?_);rw [I,g] at q;exact q _ ⟨by simp [go_sem,Y,e],by simp [go_sem,Y,e],by simp [go_sem,Y],by simp [go_sem,Y],by simp [go_sem,Y,b],by simp [go_sem,Y,b]⟩ (λj E C B A z w=>by simp [go_sem,C,B,A,z,w,bU E]) ei
  .have hk0:¬ k<0:=by first|exact S|(simpa using S)|omega
   obtain ⟨n,b⟩:∃ a:Arr,a=⟨v.V,i,k,v.m⟩:=⟨_,rfl⟩;obtain ⟨o,e⟩:∃ l:List Host,l=x.A:=⟨_,rfl⟩;have I:kY most i x v=zU x o n:=by
    unfold kY;rw [<- T,if_neg hn2,if_neg hk0,e,b]
   have K:Pua 26 [.list (x.M.map Arr.c),.fn 27 [.adr [dI v.V,dI i,dI k,dLI v.m.m.i,dLI v.m.m.j,dLI v.m.vars]]] (.bool (x.M.any (AV n))):=by
    rw [b];exact y4 x.M _ _ _ (by simp [go_sem,dLI]) eh λy _=>D5 ⟨v.V,i,k,v.m⟩ y
   refine wp (h:=mP (K) wr wl rfl ?_);refine jH (λp=>?_) λp=>?_
   .have hA:x.M.any (AV n)=false:=by first|exact p|(simpa using p)
    have g:zU x o n=⟨o,x.M++[n],x.all⟩:=by unfold zU;rw [hA];rfl
    refine wp (h:=?_);rw [I,g] at q;exact q _ ⟨by simp [go_sem,Y,e],by simp [go_sem,Y,e],by simp [go_sem,Y],by simp [go_sem,Y],by simp [go_sem,Y,b],by simp [go_sem,Y,b]⟩ (λj E C B A z w=>by simp [go_sem,C,B,A,z,w,bU E]) ei
   .have hA:x.M.any (AV n)=true:=by first|exact p|(simpa using p)
    have g:zU x o n=⟨o,x.M,x.all⟩:=by unfold zU;rw [hA];rfl
    refine wv (h:=?_);rw [I,g] at q;exact q _ ⟨by simp [go_sem,Y,e],by simp [go_sem,Y,e],by simp [go_sem,Y],by simp [go_sem,Y],by simp [go_sem,Y,b],by simp [go_sem,Y,b]⟩ (λj E C B A z w=>by simp [go_sem,C,B,A,z,w,bU E]) ei
theorem WE (l:List ByteArray):eL (l.map cS)=l.map cS:=mZ λc hc=>by
 rw [aS] at hc;obtain ⟨x,_,rfl⟩:=hc;rfl
theorem U6 (l:List Attr):eL (l.map Attr.c)=l.map Attr.c:=mZ λc hc=>by
 rw [aS] at hc;obtain ⟨x,_,rfl⟩:=hc;simp [Attr.c,gI,lA,wV,dI,WE]
theorem U5 (l:List NodeTy):eL (l.map NodeTy.c)=l.map NodeTy.c:=mZ λc hc=>by
 rw [aS] at hc;obtain ⟨x,_,rfl⟩:=hc;simp [NodeTy.c,gI,lA,dI,U6]
theorem PT (l:List EdgeTy):eL (l.map EdgeTy.c)=l.map EdgeTy.c:=mZ λc hc=>by
 rw [aS] at hc;obtain ⟨x,_,rfl⟩:=hc;simp [EdgeTy.c,gI,lA,dI]
theorem Pure.dd {P:Program}{f:FuncId}{args args':Xa2}{r:D}(c:Pure P f args' r)(i:args.map lA=args'):Pure P f args r:=by
 subst i;refine ⟨c.1,λM w a k b=>c.2 M w a k ⟨by simpa using b.len,λj u d h e=>?_⟩⟩;rw [aW,bQ] at e;obtain ⟨y,g,rfl⟩:=e;exact Hr (b.Y j u y h g)
theorem s9 (a:Xa0):Pua 78 [dLI a,dLI a] (.bool true):=by
 refine Tz.p0 func78 rfl λQ f Y=>?_;refine wo (h:=bA (λi e H=>(e 0=dLI a/\e 1=dLI a/\e 5=dI i)/\(i<=a.length)) (λi=>a.length - i) 0 ⟨wg,wi⟩ λk d i e H c=>?_);obtain ⟨g,j⟩:=c;have Y:=wa Y g;refine wv (h:=?_);repeat first|intro _|refine ⟨iV,?_⟩
 refine wq (λb=>?_) λb=>?_
 .have Y:=xa1 Y b (aA b);exact wo (h:=wx d (i+1) ⟨wg,wj⟩)
 .have Y:=wa Y b;exact wv (h:=f _ _ wy)
theorem Ff (a:Mat):Pua 40 [a.d,a.d] (.bool true):=by
 refine Tz.p0 func40 rfl λQ e _=>?_;have Y:=wa @Mat.d.eq_1 @Mat.c.eq_1;refine wo (h:=aB (s9 a.m.i) wl ?_);refine wo (h:=aN (λb=>s9 a.m.j) (λb=>wl) ?_);refine wo (h:=aN (λb=>s9 a.vars) (λb=>wl) ?_);exact wo (h:=e _ _ wy)
def vA:Xa0->Xa0->Int
 | x :: l,y :: m=>if x≠y then IntKind.i64.wrap (x - y) else vA l m
 | l,m=>IntKind.i64.wrap ((l.length:Int) - m.length)
theorem Bx {l m:Xa0}(h:l=[]\/m=[]):vA l m=IntKind.i64.wrap ((l.length:Int) - m.length):=by
 rcases h with rfl|rfl
 .cases m<;>simp [vA]
 .cases l<;>simp [vA]
theorem FF (x y:Int)(l m:Xa0):vA (x :: l) (y :: m)=if x≠y then IntKind.i64.wrap (x - y) else vA l m:=by simp [vA]
def XL (x:Int):Prop:=-9223372036854775808<=x/\x<=9223372036854775807
theorem X0 {x y:Int}(b:XL x)(a:XL y)(h:x≠y):IntKind.i64.wrap (x - y)≠0:=by
 rw [IntKind.wrap_i64];unfold XL at b a;omega
theorem Mu:∀ {a b:Xa0},(∀ x∈a,XL x)->(∀ x∈b,XL x)->a.length<=1000000000000000->b.length<=1000000000000000->(vA a b=0↔a=b)
 | [],b,_,_,_,h2=>by
  rw [Bx (.inl rfl),IntKind.wrap_i64];cases b with
  | nil=>simp
  | cons y m=>simp at h2 ⊢;omega
 | x :: l,[],_,_,h1,_=>by
  rw [Bx (.inr rfl),IntKind.wrap_i64];simp at h1 ⊢;omega
 | x :: l,y :: m,ha,hb,h1,h2=>by
  have ih:=Mu (a:=l) (b:=m) (λz hz=>ha z (cZ _ hz)) (λz hz=>hb z (cZ _ hz)) (by simp at h1;omega) (by simp at h2;omega);rw [FF];by_cases h:x=y
  .subst h;rw [if_neg bS,ih];simp
  .rw [if_pos h];have:=X0 (ha x bS) (hb y bS) h;constructor
   .intro h0;exact absurd h0 this
   .intro h0;cases h0;exact absurd rfl h
theorem uP (a b:Xa0):Pua 77 [dLI a,dLI b] (dI (vA a b)):=by
 refine Tz.pK ⟨λt=>t==2000000,λ_=>[]⟩ func77 rfl (λQ l=>?_);have Y:=trivial;refine wv (h:=bA (λi e H=>(e 0=dLI a/\e 1=dLI b/\e 5=dI i)/\(i<=a.length)/\(i<=b.length)/\(vA (a.drop i) (b.drop i)=vA a b)) (λi=>a.length - i) 0 ⟨wg,wi,wi,(by rfl)⟩ λq g i e H f=>?_);obtain ⟨o,p,n,k⟩:=f;have Y:=wa Y o;refine wv (h:=?_);repeat first|intro _|refine ⟨iV,?_⟩
 refine wq (λm=>?_) λm=>?_
 .have hia:i<a.length:=bL;have d:i<b.length:=bL;have c:=k;rw [List.drop_eq_getElem_cons hia,List.drop_eq_getElem_cons d,FF] at c;have Y:=xa2 Y m (aA hia) (aA d);refine wv (h:=?_);repeat first|intro _|refine ⟨iV,?_⟩
  refine wq (λj=>?_) λj=>?_
  .rw [if_pos j] at c;exact wo (h:=l _ _ (by simp [go_sem,<- c]))
  .rw [if_neg (cG j)] at c;exact wo (h:=wx g (i+1) ⟨wg,wj,wj,(by exact c)⟩)
 .have hX:vA a b=IntKind.i64.wrap ((a.length:Int) - b.length):=by
   rw [<- k,Bx]
   .congr 1;rw [dV,dV];omega
   .rcases bD i a.length with h|h
    .right;rw [List.drop_eq_nil_iff];omega
    .left;rw [List.drop_eq_nil_iff];omega
  exact wo (h:=l _ _ (eD hX))
theorem JK {a b:Xa0}(ha:∀ x∈a,XL x)(hb:∀ x∈b,XL x)(h1:a.length<=1000000000000000)(h2:b.length<=1000000000000000):GQ a b:=⟨_,uP a b,Mu ha hb h1 h2⟩
end Go.Abs
end
