/- Conditions of the program: witness, given, Satisfies. · Cond -/
import Derived.Test.YtmaibfgcngmjhaaGreatZeAG
import Derived.Test.YtmaibfgcngmjhaaGreatZeAA
import Derived.Test.YtmaibfgcngmjhaaGreatZeAU
import Derived.Test.YtmaibfgcngmjhaaGreatZeAS
import Derived.Test.YtmaibfgcngmjhaaGreatZeAT
set_option linter.unusedVariables false
set_option linter.unusedSimpArgs false
section
set_option maxRecDepth 100000
set_option maxHeartbeats 4000000
open Go Go.Proofs Tryz
namespace Go.Abs
def Q9 (t:Types)(h:Host)(inj:Bool)(c:Cond)(m:Mat):Prf × Int:=if (qK t h inj c m).2=0 then qK t h inj c m else (kO,(qK t h inj c m).2)
def Kd (W:Prf × Int):Prf × Int:=if W.2=0 then W else (kO,W.2)
theorem VZ (t:Types)(h:Host)(inj:Bool)(c:Cond)(m:Mat):Q9 t h inj c m=Kd (qK t h inj c m):=rfl
theorem EK (t:Types)(h:Host)(d:Bool)(c:Cond)(m:Mat):∃ wc wm wk we,Q9 t h d c m=(Prf.mk wc wm wk,we)/\(qK t h d c m).2=we/\(we=0->qK t h d c m=(Prf.mk wc wm wk,we)):=by
 cases e:Q9 t h d c m with
 | mk a b =>
  cases a with
  | mk wc wm wk =>
   refine ⟨wc,wm,wk,b,rfl,?_,?_⟩
   .unfold Q9 at e;split at e
    .rw [e]
    .exact congrArg Prod.snd e
   .intro h0;unfold Q9 at e;split at e
    .exact e
    .rename_i h1;have:=congrArg Prod.snd e;simp only at this;exact absurd (this.trans h0) h1
theorem Ig (t:Types)(ht:t.ok)(h:Host)(N:HostOk t h)(a:Bool)(c:Cond)(p:Pattern)(R:CondV t p c)(hp:PatOk t p)(g:c.kind=5)
  (Z:∀ k∈c.y,∀ m:Mat,MatOk t c.u h m->Pua 321 [.agg (scnC t h a),.agg k.c,m.d] (.tup [.agg (Q9 t h a k m).1.c,dI (Q9 t h a k m).2])) (m:Mat) (O:MatOk t p h m) :
  Pua 368 [.agg (scnC t h a),.agg c.c,m.d] (.tup [.agg (Q9 t h a c m).1.c,dI (Q9 t h a c m).2]):=by
 obtain ⟨K,a0⟩:=R.kinds;have q:=MT t h a c m;rw [VZ];obtain ⟨W,J⟩:=cY (qK t h a c m);rw [<- J] at q ⊢;obtain ⟨P,a1⟩:=R.ex g hp;have D:0<c.y.length:=by have:=K (.inr g);omega
 obtain ⟨y,f⟩:∃ k,k=c.y[0]:=⟨_,rfl⟩;have E:y∈c.y:=f ▸ aC D;obtain ⟨X,I⟩:=cY (AD t c.map c.u h m a);have G:∀ x∈X.1,MatOk t c.u h x:=I ▸ TX P N O;rw [if_neg bL,if_neg bL,if_neg bL,if_pos g,BS D,<- f,<- I] at q;refine uT em (λQ z=>(Tz.cK ⟨λt=>t==6||t==11||t==12,λr=>match r with|7=>[(0,10),(1,10),(2,10),(3,10),(4,10),(5,10),(6,10)]|_=>[]⟩ func368 rfl ?_));have Y:=xa6 @Cond.F @scnC.eq_1 @Mat.d.eq_1 @Mat.c.eq_1 @Prf.F (aA D) (Eq.symm f) g;refine wv (h:=aB ((by have j:=E7 t ht p c P h N m O a;rw [<- I,Cond.F,g] at j;unfold scnC Mat.d Mat.c dLI dI at j;exact j)) wl ?_);refine dD (λB=>?_) λB=>?_
 .rw [if_pos (cG B)] at q;have l:Kd W=(kO,X.2):=by rw [q];unfold Kd;rw [if_neg (cG B)]
  refine wv (h:=?_);exact z _ _ (by simp [go_sem,Y,l,kO,kD,Prf.F,lA,gI,eL,dLI,f8,gL])
 .rw [if_neg (cG B)] at q;refine wv (h:=?_);repeat first|intro _|refine ⟨fY,?_⟩
  refine bA (λi e H=>(e 3=.adr (scnC t h a)/\e 4=.adr c.c/\e 5=.adr m.c/\e 6=.ptr 0 1 0 0/\e 25=.list (X.1.map Mat.c)/\e 26=dI X.1.length/\e 27=dI i)/\(H.get 0=some ⟨313,5,[[dI 0,.nil,.nil,.nil,.nil]],false⟩)/\(0<H.next)/\(i<=X.1.length)/\(YR ((X.1.drop i).map λx=>(x,qK t h a y x))=W)) (λi=>X.1.length - i) 0 ⟨wg,wn,wn,wi,(by exact q.symm)⟩ λI0 L i e H F=>?_;obtain ⟨E0,w,u,hi,A⟩:=F;have Y:=xa2 Y E0 w (bU u);refine dD (λg=>?_) λg=>?_
  .obtain ⟨U,S,T,s,hw,v,C⟩:=EK t h a y X.1[i];have n:i<X.1.length:=g;have b:=A;rw [y0 _ n] at b;simp only [YR] at b;have V:=Yy H.next;have Y:=xa2 Y g (aA n) V;refine wv (h:=?_);repeat first|intro _|refine ⟨fY,?_⟩
   refine aJ ((by have j:=Z y E X.1[i] (G _ (aC n));simp only [hw,Prf.F,Cond.F] at j;unfold scnC Mat.d Mat.c dLI dI at j;exact j)) wl ?_;refine wv (h:=?_);repeat first|intro _|refine ⟨fY,?_⟩
   refine wq (λM=>?_) λM=>?_
   .have h8':s=0:=by simpa using M
    rw [C h8'] at b;simp only at b;rw [if_pos bL] at b;have l:Kd W=(Prf.mk 0 X.1[i] [Prf.mk U S T],0):=by rw [<- b,h8'];rfl
    refine wv (h:=?_);exact z _ _ (by simp [go_sem,Y,l,kO,kD,Prf.F,lA,gI,eL,dLI,f8,gL])
   .have h8':s≠0:=by simpa using M
    refine dD (λo=>?_) λo=>?_
    .have h10':s≠10:=by simpa using o
     rw [v,if_pos h10'] at b;have l:Kd W=(kO,s):=by rw [<- b];unfold Kd;rw [if_neg h8']
     refine wv (h:=?_);exact z _ _ (by simp [go_sem,Y,l,kO,kD,Prf.F,lA,gI,eL,dLI,f8,gL])
    .have h10':s=10:=by simpa using o
     rw [v,if_neg bL] at b;refine wv (h:=?_);repeat first|intro _|refine ⟨fY,?_⟩
     exact wx L (i+1) ⟨wg,wn,wn,wj,(by exact b)⟩
  .rw [cR bL] at A;simp only [kG,YR] at A;have l:Kd W=(kO,10):=by rw [<- A];rfl
   have Y:=wa Y g;refine wv (h:=?_);exact z _ _ (by simp [go_sem,Y,l,kO,kD,Prf.F,lA,gI,eL,dLI,f8,gL])
theorem Kq (t:Types)(ht:t.ok)(h:Host)(ho:HostOk t h)(g:Bool):∀ (c:Cond) (p:Pattern),CondV t p c->PatOk t p->∀ m:Mat,MatOk t p h m ->
  Pua 321 [.agg (scnC t h g),.agg c.c,m.d] (.tup [.agg (Q9 t h g c m).1.c,dI (Q9 t h g c m).2]):=by
 refine lU λc ih p F U m hm=>?_;obtain ⟨a8,b3⟩:=F.kinds;have V:c.y.length<=1000000:=by have:=Qc c.y;have:=v7 c;have:=F.sz;omega
 have E:c.kind=5->Pua 368 [.agg (scnC t h g),.agg c.c,m.d] (.tup [.agg (Q9 t h g c m).1.c,dI (Q9 t h g c m).2]):=λG=>by
  obtain ⟨hE,w⟩:=F.ex G U;exact Ig t ht h ho g c p F U G (λk hk m' a3=>ih k hk c.u (w k hk) hE.pq m' a3) m hm
 have l:=MT t h g c m;rw [VZ] at E ⊢;obtain ⟨W,a7⟩:=cY (qK t h g c m);rw [<- a7] at l E ⊢;refine uT em (λQ z=>(Tz.cK ⟨λt=>t==6||t==8||t==10||t==12||t==13||t==16||t==17,λr=>match r with|3=>[(0,10),(1,10),(2,10),(3,10),(4,10),(5,10),(6,10)]|_=>[]⟩ func321 rfl ?_));have Y:=xa3 @Cond.F @scnC.eq_1 @Mat.d.eq_1 @Mat.c.eq_1 @Prf.F;refine dD (λh2=>?_) λh2=>?_
 .have h2':c.kind=2:=by simpa using h2
  have hl:0<c.y.length:=by have:=a8 (.inl h2');omega
  obtain ⟨k0,v⟩:∃ k,k=c.y[0]:=⟨_,rfl⟩;have X:k0∈c.y:=v ▸ aC hl;have b1:=F.ct bL k0 X;obtain ⟨wc,wm,wk,s,T,o,B⟩:=EK t h g k0 m;rw [if_pos h2',BS hl,<- v,o] at l;unfold Yz at l;have Y:=xa2 Y (aA hl) (Eq.symm v) h2';refine wp (h:=aJ ((by have q:=ih k0 X p b1 U m hm;simp only [T,Prf.F,Cond.F] at q;unfold scnC Mat.d Mat.c dLI dI at q;exact q)) wl ?_);refine jH (λG=>?_) λG=>?_
  .rw [if_pos (cG G)] at l;have n:Kd W=(kO,10):=by rw [l];rfl
   refine wv (h:=?_);exact z _ _ (by simp [go_sem,Y,n,kO,kD,Prf.F,lA,gI,eL,dLI,f8,gL])
  .rw [if_neg (cG G)] at l;refine dD (λh7=>?_) λh7=>?_
   .rw [if_pos (cG h7)] at l;have n:Kd W=(kO,0):=by rw [l];rfl
    refine wv (h:=?_);exact z _ _ (by simp [go_sem,Y,n,kO,kD,Prf.F,lA,gI,eL,dLI,f8,gL])
   .rw [if_neg (cG h7)] at l;have n:Kd W=(kO,s):=by rw [l];unfold Kd;rw [if_neg (cG G)]
    refine wv (h:=?_);exact z _ _ (by simp [go_sem,Y,n,kO,kD,Prf.F,lA,gI,eL,dLI,f8,gL])
 .have h2':c.kind≠2:=by simpa using h2
  rw [if_neg h2'] at l;refine dD (λN=>?_) λN=>?_
  .have h10':c.kind=3:=by simpa using N
   have w:=F.ct bL;rw [if_pos h10'] at l;have Y:=wa Y h10';refine wp (h:=o8 (Ghosts.step (Ghosts.refl _) 1 0 4 313 5 _ _ (eu) rfl rfl rfl) (λi e H=>∃ D:List Prf,(e 3=.adr (scnC t h g)/\e 4=.adr c.c/\e 5=.adr m.c/\e 6=.ptr 0 1 0 0/\e 20=dI c.kind/\e 10=.ptr 1 1 0 0/\e 45=.list (c.y.map Cond.c)/\e 46=dI c.y.length/\e 47=dI i)/\(H.get 0=some ⟨313,5,[[dI 0,.nil,.nil,.nil,.nil]],false⟩)/\(0<H.next)/\(H.get 1=some ⟨313,5,[[dI 0,.nil,.nil,.nil,.own 2 D.length]],false⟩)/\(1<H.next)/\(H.get 2=some ⟨313,5,D.map Prf.c,false⟩)/\(2<H.next)/\(i<=c.y.length)/\(Oe ((c.y.drop i).map λk=>qK t h g k m) D=W)/\(D.length<=i)/\(c.y.length<=1000000)) (λi=>c.y.length - i) 0 ⟨([]),wg,wn,wn,wn,wn,wn,wn,wi,(by exact l.symm),bS,(by exact V)⟩ λI2 b0 i e H a6=>?_);obtain ⟨D,E2,a2,S,a0,P,Z,O,hi,C,b2,a4⟩:=a6;have Y:=xa6 Y E2 a2 (bU S) a0 (bU P) Z (bU O);refine dD (λy=>?_) λy=>?_
   .obtain ⟨A,j⟩:∃ k,k=c.y[i]:=⟨_,rfl⟩;have u:A∈c.y:=j ▸ aC y;obtain ⟨wc,wm,wk,s,T,o,B⟩:=EK t h g A m;have f:=C;rw [y0 _ y,<- j] at f;simp only [Oe] at f;have Y:=xa2 Y y (aA y) (Eq.symm j);refine wp (h:=aB ((by have q:=ih A u p (w A u) U m hm;simp only [T,Prf.F,Cond.F] at q;unfold scnC Mat.d Mat.c dLI dI at q;exact q)) wl ?_);refine jH (λM=>?_) λM=>?_
    .have h16':s≠0:=by simpa using M
     rw [o,if_pos h16'] at f;have n:Kd W=(kO,s):=by rw [<- f];unfold Kd;rw [if_neg h16']
     refine wv (h:=?_);exact z _ _ (by simp [go_sem,Y,n,kO,kD,Prf.F,lA,gI,eL,dLI,f8,gL])
    .have h16':s=0:=by simpa using M
     rw [o,if_neg bL,B h16'] at f;exact wp (h:=wx b0 (i+1) ⟨(D++[.mk wc wm wk]),wg,wn,wn,wn,wn,wn,wn,wj,(by exact f),et,(by exact a4)⟩)
   .rw [cR bL] at C;simp only [kG,Oe] at C;have n:Kd W=(.mk 0 kD D,0):=by rw [<- C];rfl
    refine wv (h:=?_);exact z _ _ (by simp [go_sem,Y,n,kO,kD,Prf.F,lA,gI,eL,dLI,f8,gL])
  .have h10':c.kind≠3:=by simpa using N
   rw [if_neg h10'] at l;refine dD (λL=>?_) λL=>?_
   .have h21':c.kind=4:=by simpa using L
    have w:=F.ct bL;rw [if_pos h21'] at l;have Y:=wa Y h21';refine wp (h:=bA (λi e H=>(e 3=.adr (scnC t h g)/\e 4=.adr c.c/\e 5=.adr m.c/\e 6=.ptr 0 1 0 0/\e 20=dI c.kind/\e 73=.list (c.y.map Cond.c)/\e 74=dI c.y.length/\e 75=dI i)/\(H.get 0=some ⟨313,5,[[dI 0,.nil,.nil,.nil,.nil]],false⟩)/\(0<H.next)/\(i<=c.y.length)/\(Yt ((c.y.drop i).map λk=>qK t h g k m) i=W)) (λi=>c.y.length - i) 0 ⟨wg,wn,wn,wi,(by exact l.symm)⟩ λI4 a9 i e H a5=>?_);obtain ⟨E4,a1,R,hi,C⟩:=a5;have Y:=xa2 Y E4 a1 (bU R);refine dD (λx=>?_) λx=>?_
    .obtain ⟨A,j⟩:∃ k,k=c.y[i]:=⟨_,rfl⟩;have u:A∈c.y:=j ▸ aC x;obtain ⟨wc,wm,wk,s,T,o,B⟩:=EK t h g A m;have f:=C;rw [y0 _ x,<- j] at f;simp only [Yt] at f;have Y:=xa2 Y x (aA x) (Eq.symm j);refine wp (h:=aB ((by have q:=ih A u p (w A u) U m hm;simp only [T,Prf.F,Cond.F] at q;unfold scnC Mat.d Mat.c dLI dI at q;exact q)) wl ?_);refine jH (λK=>?_) λK=>?_
     .have h26':s=0:=by simpa using K
      rw [B h26'] at f;simp only at f;rw [if_pos bL] at f;have n:Kd W=(.mk i kD [.mk wc wm wk],0):=by rw [<- f,h26'];rfl
      refine wv (h:=?_);exact z _ _ (by simp [go_sem,Y,n,kO,kD,Prf.F,lA,gI,eL,dLI,f8,gL])
     .have h26':s≠0:=by simpa using K
      refine dD (λJ=>?_) λJ=>?_
      .have h28':s≠10:=by simpa using J
       rw [o,if_pos h28'] at f;have n:Kd W=(kO,s):=by rw [<- f];unfold Kd;rw [if_neg h26']
       refine wv (h:=?_);exact z _ _ (by simp [go_sem,Y,n,kO,kD,Prf.F,lA,gI,eL,dLI,f8,gL])
      .have h28':s=10:=by simpa using J
       rw [o,if_neg bL] at f;exact wp (h:=wx a9 (i+1) ⟨wg,wn,wn,wj,(by exact f)⟩)
    .rw [cR bL] at C;simp only [kG,Yt] at C;have n:Kd W=(kO,10):=by rw [<- C];rfl
     refine wv (h:=?_);exact z _ _ (by simp [go_sem,Y,n,kO,kD,Prf.F,lA,gI,eL,dLI,f8,gL])
   .have h21':c.kind≠4:=by simpa using L
    rw [if_neg h21'] at l;refine dD (λI=>?_) λI=>?_
    .have h32':c.kind=5:=by simpa using I
     obtain ⟨vc,vm,vk,ve,hV⟩:∃ vc vm vk ve,Kd W=(Prf.mk vc vm vk,ve):=by
      cases hh:Kd W with
      | mk a b=>cases a;exact ⟨_,_,_,_,rfl⟩
     have Y:=wa Y h32';refine wv (h:=aB ((by have q:=E h32';simp only [hV,Prf.F,Cond.F,h32'] at q;unfold scnC Mat.d Mat.c dLI dI at q;exact q)) wl ?_);refine wv (h:=?_);exact z _ _ (by simp [go_sem,Y,hV,kO,kD,Prf.F,lA,gI,eL,dLI,f8,gL])
    .have h32':c.kind≠5:=by simpa using I
     rw [if_neg h32'] at l;have n:Kd W=(kO,0):=by rw [l];rfl
     refine wv (h:=?_);exact z _ _ (by simp [go_sem,Y,n,kO,kD,Prf.F,lA,gI,eL,dLI,f8,gL])
def Y2 (t:Types)(p:Pattern)(c:Cond)(h:Host)(m:Mat)(inj:Bool):Int :=
 if condF t p c≠0 then condF t p c
 else if dH t h≠0 then dH t h
 else if fX t p.o h.o m.m inj≠0 then fX t p.o h.o m.m inj
 else if (eJ t p h m.m).2≠0 then (eJ t p h m.m).2
 else if (eJ t p h m.m).1≠m.vars then 11 else 0
theorem Hc (t:Types)(g:t.ok)(p:Pattern)(c:Cond)(o:c.ok)(n:c.size<=1000000)(h:Host)(m:Mat)(a:Bool):Pua 320 [t.d,p.d,.agg c.c,h.d,m.d,.bool a] (dI (Y2 t p c h m a)):=by
 refine Tz.p0 func320 rfl λQ f _=>?_;have Y:=xa7 @Cond.F @Pattern.d.eq_1 @Pattern.c.eq_1 @Host.d.eq_1 @Host.c.eq_1 @Mat.d.eq_1 @Mat.c.eq_1 @Graph.c.eq_1 @Part.c.eq_1;refine wv (h:=aB ((by have i:=An t g p c o n;rw [Cond.F] at i;unfold Types.d Types.c Pattern.d Pattern.c dLI dI at i;exact i)) wl ?_);refine dD (λl=>?_) λl=>?_
 .have hM:Y2 t p c h m a=condF t p c:=by unfold Y2;rw [if_pos l]
  exact wv (h:=f _ _ (eD hM))
 .have hM:Y2 t p c h m a=if dH t h≠0 then dH t h else if fX t p.o h.o m.m a≠0 then fX t p.o h.o m.m a else if (eJ t p h m.m).2≠0 then (eJ t p h m.m).2 else if (eJ t p h m.m).1≠m.vars then 11 else 0:=by unfold Y2;rw [if_neg (cG l)]
  refine wv (h:=aB (rU t g h) wl ?_);refine dD (λk=>?_) λk=>?_
  .have h5':dH t h≠0:=k;rw [if_pos h5'] at hM;exact wv (h:=f _ _ (by simp [go_sem,hM,dH]))
  .have h5':¬ dH t h≠0:=by unfold dH;simpa using k
   rw [if_neg h5'] at hM;refine wv (h:=aB (zL t g p.o h.o m.m a) wl ?_);refine dD (λj=>?_) λj=>?_
   .rw [if_pos (cG j)] at hM;exact wv (h:=f _ _ (eD hM))
   .rw [if_neg (cG j)] at hM;refine wv (h:=aB (As t g p h m.m) wl ?_);refine dD (λe=>?_) λe=>?_
    .rw [if_pos (cG e)] at hM;exact wv (h:=f _ _ (eD hM))
    .rw [if_neg (cG e)] at hM;refine wp (h:=aB (yV (eJ t p h m.m).1 m.vars) wl ?_);refine jH (λb=>?_) λb=>?_
     .rw [if_pos (cG b)] at hM;exact wv (h:=f _ _ (eD hM))
     .rw [if_neg (cG b)] at hM;exact wv (h:=f _ _ (eD hM))
theorem Eg (t:Types)(f:t.ok)(p:Pattern)(c:Cond)(o:c.ok)(g:CondV t p c)(k:PatOk t p)(h:Host)(l:HostOk t h)(m:Mat)(n:MatOk t p h m)(a:Bool)(r:Y2 t p c h m a=0) :
  Pua 261 [t.d,p.d,.agg c.c,h.d,m.d,.bool a] (.tup [.agg (Q9 t h a c m).1.c,dI (Q9 t h a c m).2]):=by
 obtain ⟨w,s,u,v,e,j,i⟩:=EK t h a c m;refine uT em (λQ q=>(Tz.cK ⟨λt=>t==12,λ_=>[]⟩ func261 rfl ?_));have Y:=xa7 @Cond.F @scnC.eq_1 @Pattern.d.eq_1 @Pattern.c.eq_1 @Host.d.eq_1 @Host.c.eq_1 @Mat.d.eq_1 @Mat.c.eq_1 @Prf.F;refine wv (h:=aB ((by have b:=Hc t f p c o g.sz h m a;rw [r,Cond.F] at b;unfold Types.d Types.c Pattern.d Pattern.c Host.d Host.c Mat.d Mat.c dLI dI at b;exact b)) wl ?_);refine wv (h:=aB ((by have b:=Kq t f h l a c p g k m n;simp only [e,Prf.F,Cond.F] at b;unfold scnC Mat.d Mat.c dLI dI at b;exact b)) wl ?_);refine wv (h:=?_);exact q _ _ (by simp [go_sem,Y,e,Prf.F,lA,gI,eL,dLI,f8,gL])
theorem Cd (t:Types)(n:t.ok)(p:Pattern)(c:Cond)(s:c.ok)(u:CondV t p c)(o:PatOk t p)(h:Host)(q:HostOk t h)(m:Mat)(r:MatOk t p h m)(a:Bool)(v:Y2 t p c h m a=0) :
  Pua 191 [t.d,p.d,.agg c.c,h.d,m.d,.bool a] (.tup [.bool (pG t h a c m).1,dI (pG t h a c m).2]):=by
 obtain ⟨y,w,x,e,l,f,k⟩:=EK t h a c m;have b:pG t h a c m=if e=10 then (false,0) else (decide (e=0),e):=by unfold pG V3;rw [f]
 refine Tz.pK ⟨λt=>t==14,λ_=>[]⟩ func191 rfl (λQ j=>?_);have Y:=xa6 @Cond.F @Pattern.d.eq_1 @Pattern.c.eq_1 @Host.d.eq_1 @Host.c.eq_1 @Mat.d.eq_1 @Mat.c.eq_1 @Prf.F;refine wv (h:=aB ((by have g:=Eg t n p c s u o h q m r a v;simp only [l,Prf.F,Cond.F] at g;unfold Types.d Types.c Pattern.d Pattern.c Host.d Host.c Mat.d Mat.c dLI dI at g;exact g)) wl ?_);refine dD (λi=>?_) λi=>?_
 .rw [if_pos (cG i)] at b;exact wv (h:=j _ _ (eD b))
 .rw [if_neg (cG i)] at b;exact wv (h:=j _ _ (by simp [go_sem,b,DW]))
theorem Tm {H:AHeap}{d:D}(h:d.U=true):fM H d=d:=by cases d<;>first|rfl|simp [D.U] at h
theorem Tl {H:AHeap}{d:D}(h:d.U=true):jN H d=d:=by
 cases d with
 | agg cs =>
  simp only [D.U] at h;simp only [jN];congr 1;conv=>rhs;rw [<- List.map_id cs]
  exact bY λy a=>Tm (iR h y a)
 | _=>exact Tm (H:=H) h
theorem Tj (H:AHeap){d:D}(h:d.U=true):sL H d=d:=by
 cases d with
 | tup vs =>
  simp only [D.U] at h;simp only [sL];congr 1;conv=>rhs;rw [<- List.map_id vs]
  exact bY λy a=>Tl (iR h y a)
 | _=>exact Tl (H:=H) h
theorem Zj {P:Program}{f:FuncId}{args:Xa2}{r:D}(a:r.U=true)(h:ACalls P f args .ak λd H'=>jT H' d=r):Pure P f args r:=by
 refine aV (ACalls.bw (h.mono λd H' e=>⟨?_,a⟩));rw [e];exact Tj _ a
theorem UA {H:AHeap}{a:List Nat}{vals:Yb}(d:a.length=vals.length)(f:∀ (i q:Nat) (v:Xa0),a[i]?=some q->vals[i]?=some v->H.get q=some ⟨3,1,v.map cI,false⟩):(mA a vals).map (·.map (fM H))=vals.map cL:=by
 apply fC;intro i;simp only [aW];by_cases e:i<vals.length
 .have hq:i<a.length:=bL;have b:=aA e;have c:=aA hq;rw [t6 c b,b];have:=f i _ _ c b;simp [fM,this,cL,dLI]
 .rw [bC (by rw [kI d];omega),bC bL];rfl
theorem Kj (h:Host)(hn:h.o.i.length<=100000)(he:h.o.j.length<=100000)(hv:h.values.length<=100000)(hr:∀ v∈h.values,v.length<=100000):Pua 193 [h.d] h.d:=by
 refine Zj (Host.dw h) ?_;obtain ⟨Q,hQ⟩:∃ Q:D->AHeap->Prop,∀ d H',Q d H'↔jT H' d=h.d:=⟨_,λ_ _=>Iff.rfl⟩;rw [show (λd H'=>jT H' d=h.d)=Q from funext λd=>funext λH'=>propext (hQ d H').symm];refine (Tz.cK ⟨λt=>t==2||t==3||t==25||t==1000001,λr=>match r with|1=>[(0,10),(1,10),(2,10),(3,10),(4,10),(5,10),(6,10),(7,10)]|5=>[(0,2),(1,2),(0,4),(1,4),(0,5),(1,5)]|_=>[]⟩ func193 rfl ?_);have Y:=wa @Host.d.eq_1 @Host.c.eq_1;refine wv (h:=?_);refine mO (jC h.o.i bL) (by simp [go_sem,dLI]) eh (Ju _) rfl eh ?_;refine wv (h:=?_);refine mO (JM h.o.j bL) eh eh (ZA _) rfl eh ?_;refine wp (h:=o8 (Ghosts.step (Ghosts.refl _) 11 0 2 27 1 _ _ (eu) rfl rfl rfl) (λi e H=>∃ qs:List Nat,(e 1=.adr h.c/\e 2=.ptr 0 1 0 0/\e 3=.ptr 11 1 0 0/\e 17=.list (h.values.map cL)/\e 18=dI h.values.length/\e 19=dI i)/\(H.get 0=some ⟨33,3,[[.nil,.nil,.nil]],false⟩)/\(0<H.next)/\(H.get 11=some ⟨33,3,[[dLI h.o.i,.list (h.o.j.map Edge.c),.own 13 i]],false⟩)/\(11<H.next)/\(H.get 13=some ⟨27,1,mA qs (h.values.take i),false⟩)/\(13<H.next)/\(i<=h.values.length)/\(qs.length=(h.values.take i).length)/\(∀ q∈qs,13<q/\q<H.next)/\(13<H.next)/\(∀ (k q:Nat) (v:Xa0),qs[k]?=some q->(h.values.take i)[k]?=some v->H.get q=some ⟨3,1,v.map cI,false⟩)) (λi=>h.values.length - i) 0 ⟨([]),wg,wn,wn,wn,wn,(by simp [go_sem,Y,mA]),wn,wi,(by rfl),(by intro q hq;cases hq),eh,(by intro k q v hk;simp at hk)⟩ λI0 hI0 i e H hi0=>?_);obtain ⟨qs,E0,g0_0,n0_0,g11_0,n11_0,g13_0,n13_0,hi,hql,hqr,hnx,hgq⟩:=hi0;have Y:=xa6 Y E0 g0_0 (bU n0_0) g11_0 (bU n11_0) g13_0 (bU n13_0);refine dD (λh3=>?_) λh3=>?_
 .have hr8:=hr _ (aC h3);have hrl:(mA qs (h.values.take i)).length=i:=by rw [kI hql];simp;omega
  have hgq2:∀ H2:AHeap,H2.get (H.next+2)=some ⟨3,1,h.values[i].map cI,false⟩->(∀ q∈qs,H2.get q=H.get q)->∀ (k q:Nat) (v:Xa0),(qs++[H.next+2])[k]?=some q->(h.values.take (i+1))[k]?=some v->H2.get q=some ⟨3,1,v.map cI,false⟩:=λH2 g1 g2 k q v e1 e2=>by
   rw [aD h3] at e2;have hqi:qs.length=i:=by rw [hql];simp;omega
   have hti:(h.values.take i).length=i:=by simp;omega
   by_cases hk:k<i
   .rw [aY bL] at e1;rw [aY bL] at e2;rw [g2 q (aK e1)];exact hgq k q v e1 e2
   .have h1':=(aL.1 e1).1;have:k=i:=by simp at h1';omega
    subst this;rw [bF bL,hqi,nU] at e1;rw [bF bL,hti,nU] at e2;simp at e1 e2;subst e1 e2;exact g1
  have Y:=xa3 Y h3 (aA h3) @cL.eq_1 hrl;exact wp (h:=wx hI0 (i+1) ⟨(qs++[H.next+2]),wg,wn,wn,wn,wn,(by rw [aD h3,zO hql];simp [go_sem,Y,cL]),wn,wj,(by simp [hql];omega),(by intro q hq;rw [aQ,aX] at hq;rcases hq with hq|rfl;(have:=hqr q hq;simp [go_sem];omega);(simp [go_sem];omega)),eq,(by exact hgq2 _ (by simp [go_sem,Y,cL]) (λq hq=>by have:=hqr q hq;simp [go_sem,bU this.2,(bL:q≠13),(bL:q≠11)]))⟩)
 .rw [aH bL] at hql hgq;have hie:i=h.values.length:=bL;refine wv (h:=?_);refine (hQ _ _).2 ?_;obtain ⟨E,hEq⟩:=cY (H.put 0 ⟨33,3,[[D.list (List.map cI h.o.i),D.list (List.map Edge.c h.o.j),D.own 13 i]],false⟩);rw [<- hEq];have hE13:E.get 13=some ⟨27,1,mA qs (h.values.take i),false⟩:=by rw [hEq];simp [go_sem,g13_0]
  rw [aH (bL:h.values.length<=i)] at hE13;have hR:=UA (H:=E) hql (λk q v e1 e2=>by
   have:=hqr q (aK e1);rw [hEq];simp [go_sem,(bL:q≠0)];exact hgq k q v e1 e2)
  have hrl:=kI hql;simp only [jT,kZ,oR,fM,gA,kG,hE13,hrl,hR,hie,if_true];rfl
theorem HW (t:Types)(o:t.ok)(k:Int):Own prog 263 [t.d,dI k] 3 1 ((pW t k).map cI):=by
 have p:=r8 o k;refine Tz.oK ⟨λt=>t==9||t==16,λ_=>[]⟩ func263 rfl (λQ q=>?_);have Y:=trivial;refine wv (h:=aB (sJ t o k) wl ?_);refine wo (h:=bA (λi e H=>∃ b:Xa0,(e 2=.adr t.c/\e 17=.list ((bZ t k).map Attr.c)/\e 18=dI (bZ t k).length/\e 19=dI i/\e 7=.own 0 b.length)/\(H.get 0=some ⟨3,1,b.map cI,false⟩)/\(0<H.next)/\(i<=(bZ t k).length)/\(b=((bZ t k).take i).map (λa=>a.am))) (λi=>(bZ t k).length - i) 0 ⟨([]),wg,wn,wn,wi,(by rfl)⟩ λu n i e H m=>?_);obtain ⟨b,r,g,f,s,l⟩:=m;have Y:=xa2 Y r g (bU f);refine dD (λj=>?_) λj=>?_
 .have hxl:b.length=i:=by rw [l];simp;omega
  have Y:=xa2 Y j (aA j) @Attr.c.eq_1;exact wo (h:=wx n (i+1) ⟨(b++[(bZ t k)[i].am]),wg,wn,wn,wj,(by rw [fN _ j,<- l])⟩)
 .have hX:b=pW t k:=by rw [l,lK _ bL];rfl
  refine wv (h:=?_);exact q _ _ _ (by simp [go_sem,Y,hX,dLI]) (by simp [go_sem,Y,hX,dLI])
theorem HH.br {H H':AHeap}{lo a b V:Nat}{qs:List Nat}{x:Host}(h:HH H lo a b V qs x)(hn:H.next<=H'.next){q:Nat}{nd:Int}{v:Xa0}(hlo:lo<=q)(hq:∀ j∈a :: b :: V :: qs,j≠q)(hq2:q<H'.next)
  (ga:H'.get a=some ⟨3,1,(x.o.i++[nd]).map cI,false⟩) (gq:H'.get q=some ⟨3,1,v.map cI,false⟩) (gV:H'.get V=some ⟨27,1,mA qs x.values++[[.own q v.length]],false⟩) (hf:∀ j∈b :: qs,H'.get j=H.get j) :
  HH H' lo a b V (qs++[q]) ⟨⟨x.o.i++[nd],x.o.j⟩,x.values++[v]⟩ where
 ga:=ga
 gb:=(hf b bS).trans h.gb
 gV:=by rw [zO h.len];exact gV
 len:=by simp [h.len]
 gq i q' v' h1 h2:=by
  by_cases hi:i<qs.length
  .rw [aY hi] at h1;rw [aY (by rw [<- h.len];exact hi)] at h2;exact (hf q' (by simp [aK h1])).trans (h.gq i q' v' h1 h2)
  .have h1':=(aL.1 h1).1;have:i=qs.length:=by simp at h1';omega
   subst this;simp at h1;rw [h.len] at h2;simp at h2;subst h1 h2;exact gq
 nd:=by
  have:=h.nd;have e:a :: b :: V :: (qs++[q])=(a :: b :: V :: qs)++[q]:=rfl;rw [e,gG];exact ⟨this,by simp,λy hy z hz=>by rw [aX] at hz;subst hz;exact hq y hy⟩
 W j hj:=by
  have e:a :: b :: V :: (qs++[q])=(a :: b :: V :: qs)++[q]:=rfl;rw [e,aQ,aX] at hj;rcases hj with hj|rfl
  .exact ⟨(h.W j hj).1,cH (h.W j hj).2 hn⟩
  .exact ⟨hlo,hq2⟩
def stpC (r:Rule)(m:Mat)(h:Host)(A B C:D)(tr co:Part):Xa2:=[.str r.name,dLI r.left.o.i,.list (r.left.o.j.map Edge.c),.list (r.left.q.map Slot.c),dI r.left.vars,.list (r.left.R.map Test.c),
 dLI r.right.o.i,.list (r.right.o.j.map Edge.c),.list (r.right.q.map Slot.c),dI r.right.vars,.list (r.right.R.map Test.c),
 dLI r.G.i,dLI r.G.j,dLI r.O.i,dLI r.O.j,.bool r.inj,
 dI r.cond.kind,.list (r.cond.y.map Cond.c),dLI r.cond.map.i,dLI r.cond.map.j,dLI r.cond.u.o.i,.list (r.cond.u.o.j.map Edge.c),.list (r.cond.u.q.map Slot.c),dI r.cond.u.vars,.list (r.cond.u.R.map Test.c),
 dLI m.m.i,dLI m.m.j,dLI m.vars,dLI h.o.i,.list (h.o.j.map Edge.c),.list (h.values.map cL),A,B,C,dLI tr.i,dLI tr.j,dLI co.i,dLI co.j]
def trE (h:Host)(tr:Part)(k:Int):Edge:=⟨(eA h.o k).type,iA tr.i (eA h.o k).from_,iA tr.i (eA h.o k).L⟩
def bdN (h:Host)(d:Part)(i:Nat):Host:=⟨⟨(d.i.take i).map (gN h.o),[]⟩,(d.i.take i).map λk=>h.values[k.toNat]?.getD []⟩
def bdE (h:Host)(d tr:Part)(i:Nat):Host:=⟨⟨d.i.map (gN h.o),(d.j.take i).map (trE h tr)⟩,d.i.map λk=>h.values[k.toNat]?.getD []⟩
theorem Xx (h:Host)(d a:Part){i:Nat}(b:d.i.length<=i):bdE h d a 0=bdN h d i:=by unfold bdE bdN;rw [aH b];rfl
theorem Rn (t:Types)(ht:t.ok)(r:Rule)(hR:RuleV t r)(m:Mat)(h:Host)(ho:HostOk t h)(d o u:Part)(e8:∀ x∈d.i,0<=x/\x<h.o.i.length)(e9:∀ x∈d.j,0<=x/\x<h.o.j.length)
  (h7:d.i.length<=40/\d.j.length<=80) (g6:o.i.length=h.o.i.length) (h8:u.i.length=r.right.o.i.length/\u.j.length=r.right.o.j.length)
  (f0:∀ i,i<r.right.o.i.length->(u.i[i]?.getD 0=((d.i.length+(dC r.O.i i).length:Nat):Int)↔mem r.O.i i=false))
  (f1:∀ i,i<r.right.o.j.length->(u.j[i]?.getD 0=((d.j.length+(dC r.O.j i).length:Nat):Int)↔mem r.O.j i=false))
  (s a b V:Nat) (G:AHeap) (hs:G.get s=some ⟨136,38,[stpC r m h (.own a 0) (.own b 0) (.own V 0) o u],false⟩) (I:HH G 0 a b V [] ⟨⟨[],[]⟩,[]⟩) (g7:s<G.next) (e0:s≠a/\s≠b/\s≠V) (c6:∀ j,G.next<=j->¬ G.J j) (Q:D->AHeap->Prop)
  (hQ:∀ qs H',HH H' 0 a b V qs (kP t r u (bdE h d o d.j.length))->H'.get s=some ⟨136,38,[stpC r m h (.own a (kP t r u (bdE h d o d.j.length)).o.i.length) (.own b (kP t r u (bdE h d o d.j.length)).o.j.length) (.own V (kP t r u (bdE h d o d.j.length)).values.length) o u],false⟩ ->
   (∀ j∈a :: b :: V :: qs,j≠s)->(∀ j∈qs,G.next<=j)->(∀ j,j<G.next->j∉[s,a,b,V]->H'.get j=G.get j)->G.next<=H'.next->Q (.tup []) H') :
  ACalls prog 196 [t.d,.ptr s 1 0 0,d.d] G Q:=by
 have h6:=bW hR.gr;have e7:=eI hR.gr;have h5:=bW ho.gg;have e5:=eI ho.gg;have g5:=ho.vl;have i2:=I.W a I.a6;have i0:=I.W b I.a2;have i3:=I.W V I.ba;have i1:=I.ab;obtain ⟨h0,g9,g8⟩:=e0;refine (Tz.cK ⟨λt=>t==6||t==7||t==12||t==16||t==59||t==166||t==1000001,λr=>match r with|1=>[(1,10),(2,10),(3,10),(5,10),(6,10),(7,10),(8,10),(9,10),(1,11),(2,11),(3,11),(5,11),(6,11),(7,11),(8,11),(9,11),(10,11),(5,12),(6,12),(7,12),(8,12),(9,12)]|5=>[(2,13),(3,13),(4,13),(5,13),(6,13)]|6=>[(2,6),(3,6),(4,6),(5,6),(6,7),(6,8),(6,10),(6,11),(2,12),(3,12),(4,12),(5,12),(2,13),(3,13),(4,13),(5,13)]|12=>[(2,28),(3,28),(4,28),(5,28),(6,28)]|19=>[(2,8),(3,8),(4,8),(5,8),(2,9),(3,9),(4,9),(5,9)]|25=>[(2,28),(3,28),(4,28),(5,28),(6,28)]|_=>[]⟩ func196 rfl ?_);have g3:=xa4 (b8 (bL:V≠b)) (b8 (bL:V≠a)) (b8 (bL:V≠s)) (b8 (bL:b≠a)) (b8 (bL:b≠s)) (b8 (bL:a≠s));have f9:=xa2 (bU (bL:s<G.next)) (bU (bL:a<G.next)) (bU (bL:b<G.next)) (bU (bL:V<G.next));have Y:=xa6 hs @stpC.eq_1 @Part.d.eq_1 @Part.c.eq_1 @Host.c.eq_1 @Graph.c.eq_1 g3 f9;refine wp (h:=bA (λi e H=>∃ X:Nat,∃ w:Nat,∃ x:Host,∃ qs:List Nat,(e 1=.ptr s 1 0 0/\e 3=.adr t.c/\e 5=.adr d.c/\e 6=.ptr X 1 0 0/\e 7=.ptr w 1 0 0/\e 28=dLI d.i/\e 29=dI d.i.length/\e 30=dI i)/\(H.get X=some ⟨33,3,[h.c],false⟩)/\(X<H.next)/\(H.get w=some ⟨30,2,[r.right.o.c],false⟩)/\(w<H.next)/\(H.get s=some ⟨136,38,[stpC r m h (.own a x.o.i.length) (.own b x.o.j.length) (.own V x.values.length) o u],false⟩)/\(s<H.next)/\(i<=d.i.length)/\(HH H 0 a b V qs x)/\(x=bdN h d i)/\(∀ j∈a :: b :: V :: qs,j≠s)/\(∀ j∈qs,G.next<=j)/\(∀ j,H.next<=j->¬ H.J j)/\(∀ j,j<G.next->j∉[s,a,b,V]->H.get j=G.get j)/\(G.next<=H.next)/\(G.next<=X/\X<w)) (λi=>d.i.length - i) 0 ⟨(G.next+10),(G.next+11),(⟨⟨[],[]⟩,[]⟩),([]),wg,wn,wn,wn,wn,wn,wn,wi,(by exact I.same ei (λj hj=>by have:=(I.W j hj).2;simp [go_sem,bU this])),(by rfl),(by intro j hj;simp at hj;omega),(by intro j hj;cases hj),(by intro j hj;simp [go_sem,gP,jQ,pJ] at hj ⊢;exact ⟨bL,bL,c6 j bL⟩),(by intro j hj A;simp [go_sem,bU hj]),ei,bL⟩ λI0 f4 i e H e4=>?_);obtain ⟨X,w,x,qs,E0,gX_0,nX_0,gYb_0,nYb_0,d2,c2,hi,f,J,E,R,q,P,N,f2⟩:=e4;have g2:=xa2 (b8 (bL:w≠X)) (b8 (bL:w≠V)) (b8 (bL:w≠b)) (xb0 (b8 (bL:w≠a)) (b8 (bL:w≠s)) (b8 (bL:X≠V)) (b8 (bL:X≠b)) (b8 (bL:X≠a)) (b8 (bL:X≠s)) (b8 (bL:V≠b)) (b8 (bL:V≠a)) (b8 (bL:V≠s)) (b8 (bL:b≠a)) (b8 (bL:b≠s)) (b8 (bL:a≠s)));have Y:=xa7 Y E0 gX_0 (bU nX_0) gYb_0 (bU nYb_0) d2 (bU c2) g2;refine dD (λh3=>?_) λh3=>?_
 .obtain ⟨k,hk⟩:∃ y,y=d.i[i]:=⟨_,rfl⟩;have b5:=e8 _ (aC h3);rw [<- hk] at b5;have S:k.toNat<h.o.i.length:=bL;have b4:k.toNat<h.values.length:=bL;obtain ⟨n,g⟩:∃ y:Host,y=⟨⟨x.o.i++[h.o.i[k.toNat]],x.o.j⟩,x.values++[h.values[k.toNat]]⟩:=⟨_,rfl⟩;have B:n=bdN h d (i+1):=by rw [g,J];unfold bdN;rw [aD h3,<- hk];simp [gN,aA S,aA b4]
  have g4:(h.values[k.toNat]).length<=1000:=by
   have:=(ho.row _ (aC b4)).1;omega
  have M:x.o.i.length=i/\x.o.j.length=0/\x.values.length=i:=by rw [J];simp [bdN];omega
  have C:n.o.i.length=x.o.i.length+1/\n.o.j.length=x.o.j.length/\n.values.length=x.values.length+1:=by rw [g];simp
  have a5:=f.ga;have a6:=f.gV;have b0:=kI f.len;have b1:=f.W a f.a6;have b2:=f.W V f.ba;have a2:=f.W b f.a2;have a8:∀ j∈a :: b :: V :: qs,j≠H.next+20+6:=λj hj=>by have:=(f.W j hj).2;omega
  have p:∀ j∈b :: qs,j≠a/\j≠s/\j≠V/\j<H.next:=λj hj=>by
   rcases aP.1 hj with rfl|hj
   .exact ⟨bL,bL,bL,a2.2⟩
   .exact ⟨(f.qn hj).1,E j (f.ay hj),(f.qn hj).2.2,(f.W j (f.ay hj)).2⟩
  have K:∀ j∈a :: b :: V :: (qs++[H.next+20+6]),j≠s:=λj hj=>by
   have e:a :: b :: V :: (qs++[H.next+20+6])=(a :: b :: V :: qs)++[H.next+20+6]:=rfl;rw [e,aQ,aX] at hj;rcases hj with hj|rfl
   .exact E j hj
   .omega
  have L:∀ j∈qs++[H.next+20+6],G.next<=j:=λj hj=>by
   rw [aQ,aX] at hj;rcases hj with hj|rfl
   .exact R j hj
   .omega
  have f8:=xa2 (bU (bL:s<H.next)) (bU (bL:a<H.next)) (bU (bL:b<H.next)) (bU (bL:V<H.next));have Y:=xb0 Y h3 (aA h3) (Eq.symm hk) (aA S) (aA b4) a5 a6 b0 C @cL.eq_1 f8;exact wp (h:=wx f4 (i+1) ⟨X,w,n,(qs++[H.next+20+6]),wg,wn,wn,wn,wn,wn,wn,wj,(by rw [g];exact f.br ei (dN _) a8 ei (by simp [go_sem,Y,cI]) cl cl (λj hj=>by obtain ⟨k1,k2,Z,k4⟩:=p j hj;simp [go_sem,k1,k2,Z,bU k4])),(by exact B),(by exact K),(by exact L),(by intro j hj;simp [go_sem,gP,jQ] at hj ⊢;exact ⟨bL,q j bL⟩),(by intro j hj A;simp only [aP,dU,or_false,not_or] at A;simp [go_sem,A,bU (bL:j<H.next)];exact P j hj (fg A)),ei,(by exact f2)⟩)
 .have hx4:x=bdE h d o 0:=by rw [J,Xx _ _ _ bL]
  have f7:=xa2 (bU (bL:s<H.next)) (bU (bL:a<H.next)) (bU (bL:b<H.next)) (bU (bL:V<H.next));have Y:=wa Y f7;refine wp (h:=bA (λi e H=>∃ x:Host,(e 1=.ptr s 1 0 0/\e 3=.adr t.c/\e 5=.adr d.c/\e 6=.ptr X 1 0 0/\e 7=.ptr w 1 0 0/\e 73=dLI d.j/\e 74=dI d.j.length/\e 75=dI i)/\(H.get X=some ⟨33,3,[h.c],false⟩)/\(X<H.next)/\(H.get w=some ⟨30,2,[r.right.o.c],false⟩)/\(w<H.next)/\(H.get s=some ⟨136,38,[stpC r m h (.own a x.o.i.length) (.own b x.o.j.length) (.own V x.values.length) o u],false⟩)/\(s<H.next)/\(i<=d.j.length)/\(HH H 0 a b V qs x)/\(x=bdE h d o i)/\(∀ j,H.next<=j->¬ H.J j)/\(∀ j,j<G.next->j∉[s,a,b,V]->H.get j=G.get j)/\(G.next<=H.next)) (λi=>d.j.length - i) 0 ⟨x,wg,wn,wn,wn,wn,wn,wn,wi,(by exact f),(by exact hx4),(by exact q),(by exact P),(by exact N)⟩ λI2 f3 i e H e3=>?_);obtain ⟨x,E2,gX_2,nX_2,gYb_2,nYb_2,d1,c1,hi,f,J,q,P,N⟩:=e3;have g1:=xa2 (b8 (bL:w≠X)) (b8 (bL:w≠V)) (b8 (bL:w≠b)) (xb0 (b8 (bL:w≠a)) (b8 (bL:w≠s)) (b8 (bL:X≠V)) (b8 (bL:X≠b)) (b8 (bL:X≠a)) (b8 (bL:X≠s)) (b8 (bL:V≠b)) (b8 (bL:V≠a)) (b8 (bL:V≠s)) (b8 (bL:b≠a)) (b8 (bL:b≠s)) (b8 (bL:a≠s)));have Y:=xa7 Y E2 gX_2 (bU nX_2) gYb_2 (bU nYb_2) d1 (bU c1) g1;refine dD (λh9=>?_) λh9=>?_
  .obtain ⟨k,hk⟩:∃ y,y=d.j[i]:=⟨_,rfl⟩;have b5:=e9 _ (aC h9);rw [<- hk] at b5;have S:k.toNat<h.o.j.length:=bL;obtain ⟨y,hy⟩:=cY (h.o.j[k.toNat]);have a9:=(e5.2 _ (aC S)).2;rw [<- hy] at a9;have a1:y.from_.toNat<o.i.length:=bL;have a0:y.L.toNat<o.i.length:=bL;have d7:eA h.o k=y:=by rw [hy];simp [eA,aA S]
   have d9:trE h o k=⟨y.type,o.i[y.from_.toNat],o.i[y.L.toNat]⟩:=by unfold trE;rw [d7];simp [iA,aA a1,aA a0]
   obtain ⟨n,g⟩:∃ z:Host,z=⟨⟨x.o.i,x.o.j++[trE h o k]⟩,x.values⟩:=⟨_,rfl⟩;have B:n=bdE h d o (i+1):=by rw [g,J];unfold bdE;rw [aD h9,<- hk];simp
   have M:x.o.j.length=i:=by rw [J];simp [bdE];omega
   have C:n.o.i.length=x.o.i.length/\n.o.j.length=x.o.j.length+1/\n.values.length=x.values.length:=by rw [g];simp
   have a4:=f.gb;have b1:=f.W a f.a6;have b2:=f.W V f.ba;have a2:=f.W b f.a2;have p:∀ j∈a :: V :: qs,j≠b/\j≠s/\j<H.next:=λj hj=>by
    have a3:j∈a :: b :: V :: qs:=by simp only [aP] at hj ⊢;rcases hj with h|h|h<;>simp [h]
    refine ⟨?_,E j a3,(f.W j a3).2⟩;rintro rfl;have:=f.nd;simp only [gC,aP,not_or] at this;simp only [aP] at hj;rcases hj with h|h|h
    .exact this.1.1 h.symm
    .exact this.2.1.1 h
    .exact this.2.1.2 h
   have f6:=xa2 (bU (bL:s<H.next)) (bU (bL:a<H.next)) (bU (bL:b<H.next)) (bU (bL:V<H.next));have Y:=xb0 Y h9 (aA h9) (Eq.symm hk) (aA S) (Eq.symm hy) (aA a1) (aA a0) a4 C @Edge.c.eq_1 f6;exact wp (h:=wx f3 (i+1) ⟨n,wg,wn,wn,wn,wn,wn,wn,wj,(by rw [g];exact f.j ei (by simp [go_sem,Y,d9,Edge.c]) (λj hj=>by obtain ⟨k1,k2,Z⟩:=p j hj;simp [go_sem,k1,k2,bU Z])),(by exact B),(by intro j hj;simp [go_sem,gP,jQ] at hj ⊢;first|exact ⟨bL,q j bL⟩|exact q j bL|exact ⟨bL,bL,q j bL⟩),(by intro j hj A;simp only [aP,dU,or_false,not_or] at A;simp [go_sem,A,bU (bL:j<H.next)];exact P j hj (fg A)),ei⟩)
  .have hx5:x=Hy t r (bdE h d o d.j.length) 0:=by rw [J,(bL:i=d.j.length)];simp [Hy,dC]
   have f5:=xa2 (bU (bL:s<H.next)) (bU (bL:a<H.next)) (bU (bL:b<H.next)) (bU (bL:V<H.next));have Y:=wa Y f5;refine wp (h:=bA (λi e H=>∃ x:Host,∃ qs:List Nat,(e 1=.ptr s 1 0 0/\e 3=.adr t.c/\e 5=.adr d.c/\e 7=.ptr w 1 0 0/\e 121=dLI r.right.o.i/\e 122=dI r.right.o.i.length/\e 123=dI i)/\(H.get w=some ⟨30,2,[r.right.o.c],false⟩)/\(w<H.next)/\(H.get s=some ⟨136,38,[stpC r m h (.own a x.o.i.length) (.own b x.o.j.length) (.own V x.values.length) o u],false⟩)/\(s<H.next)/\(i<=r.right.o.i.length)/\(HH H 0 a b V qs x)/\(x=Hy t r (bdE h d o d.j.length) i)/\(∀ j∈a :: b :: V :: qs,j≠s)/\(∀ j∈qs,G.next<=j)/\(∀ j,H.next<=j->¬ H.J j)/\(∀ j,j<G.next->j∉[s,a,b,V]->H.get j=G.get j)/\(G.next<=H.next)) (λi=>r.right.o.i.length - i) 0 ⟨x,qs,wg,wn,wn,wn,wn,wi,(by exact f),(by exact hx5),(by exact E),(by exact R),(by exact q),(by exact P),(by exact N)⟩ λI4 c8 i e H e2=>?_);obtain ⟨x,qs,E4,gYb_4,nYb_4,d0,c0,hi,f,J,E,R,q,P,N⟩:=e2;have g0:=xa8 (b8 (bL:w≠V)) (b8 (bL:w≠b)) (b8 (bL:w≠a)) (b8 (bL:w≠s)) (b8 (bL:V≠b)) (b8 (bL:V≠a)) (b8 (bL:V≠s)) (b8 (bL:b≠a)) (b8 (bL:b≠s)) (b8 (bL:a≠s));have Y:=xa5 Y E4 gYb_4 (bU nYb_4) d0 (bU c0) g0;refine dD (λW=>?_) λW=>?_
   .have hsu:=qU r.O.i i;obtain ⟨nd,c4⟩:∃ y,y=r.right.o.i[i]:=⟨_,rfl⟩;have e6:gN r.right.o (i:Int)=nd:=by rw [c4];simp [gN,aA W]
    have h1:=mM r.O.i i;have T:i<u.i.length:=bL;have O:=f0 i W;rw [aA T,aF] at O;have M:x.o.i.length=d.i.length+(dC r.O.i i).length/\x.values.length=x.o.i.length/\x.o.j.length<=100:=by rw [J];simp [Hy,bdE];omega
    have a5:=f.ga;have a6:=f.gV;have b0:=kI f.len;have b1:=f.W a f.a6;have b2:=f.W V f.ba;have a2:=f.W b f.a2;have d5:=xa2 (bU (bL:s<H.next)) (bU (bL:a<H.next)) (bU (bL:b<H.next)) (bU (bL:V<H.next));have Y:=xa7 Y W (aA W) (Eq.symm c4) (aA T) a5 a6 b0 d5;refine jH (λb7=>?_) λb7=>?_
    .have hm:mem r.O.i i=false:=O.1 (by simpa [M.1] using b7);rw [if_neg (by rw [hm];simp)] at hsu;have h4:(pW t nd).length<=8:=by unfold pW;rw [bR];exact vG hR.vf nd
     obtain ⟨n,g⟩:∃ y:Host,y=⟨⟨x.o.i++[nd],x.o.j⟩,x.values++[pW t nd]⟩:=⟨_,rfl⟩;obtain ⟨F,v⟩:∃ y,y=qs++[H.next]:=⟨_,rfl⟩;have B:n=Hy t r (bdE h d o d.j.length) (i+1):=by rw [g,J];unfold Hy;rw [hsu];simp [e6]
     have C:n.o.i.length=x.o.i.length+1/\n.o.j.length=x.o.j.length/\n.values.length=x.values.length+1:=by rw [g];simp
     have a8:∀ j∈a :: b :: V :: qs,j≠H.next:=λj hj=>by have:=(f.W j hj).2;omega
     have p:∀ j∈b :: qs,j≠a/\j≠s/\j≠V/\j<H.next:=λj hj=>by
      rcases aP.1 hj with rfl|hj
      .exact ⟨bL,bL,bL,a2.2⟩
      .exact ⟨(f.qn hj).1,E j (f.ay hj),(f.qn hj).2.2,(f.W j (f.ay hj)).2⟩
     have K:∀ j∈a :: b :: V :: F,j≠s:=λj hj=>by
      have e:a :: b :: V :: F=(a :: b :: V :: qs)++[H.next]:=by rw [v];rfl
      rw [e,aQ,aX] at hj;rcases hj with hj|rfl
      .exact E j hj
      .omega
     have L:∀ j∈F,G.next<=j:=λj hj=>by
      rw [v,aQ,aX] at hj;rcases hj with hj|rfl
      .exact R j hj
      .omega
     have Y:=xa2 Y (aA W) (aA T) C;refine wp (h:=?_);refine s4 H.next (HW t ht nd) em rfl (by first|omega|(simp [go_sem];done)|(first|(simp [go_sem];done)|(simp [go_sem];omega))) (by simp [gP,jQ];exact q _ bL) (by first|trivial|(simp [go_sem];done)|(simp [go_sem,chk];done)|(simp [go_sem,chk];omega)) ?_;exact wp (h:=wx c8 (i+1) ⟨n,F,wg,wn,wn,wn,wn,wj,(by first|exact l|exact l.same ei (λ_ _=>rfl)|exact l.same ei (λj hj=>by have:=(l.W j hj).2;simp [go_sem,bU this])|(rw [g,v];exact f.br ei (dN _) a8 ei (by simp [go_sem,Y,cI]) cl cl (λj hj=>by obtain ⟨k1,k2,Z,k4⟩:=p j hj;simp [go_sem,k1,k2,Z,bU k4]))),(by exact B),(by exact K),(by exact L),(by intro j hj;simp [go_sem,gP,jQ] at hj ⊢;first|exact ⟨bL,q j bL⟩|exact q j bL),(by first|exact a7|(intro j hj A;simp only [aP,dU,or_false,not_or] at A;simp [go_sem,A,bU (bL:j<H.next)];exact P j hj (fg A))),ei⟩)
    .have hm:mem r.O.i i=true:=by
      cases b3:mem r.O.i i with
      | true=>rfl
      | false=>exact absurd (by simpa [M.1] using O.2 b3) b7
     rw [if_pos hm,dG] at hsu;obtain ⟨n,g⟩:∃ y,y=x:=⟨_,rfl⟩;obtain ⟨F,v⟩:∃ y,y=qs:=⟨_,rfl⟩;have B:n=Hy t r (bdE h d o d.j.length) (i+1):=by rw [g,J];unfold Hy;rw [hsu]
     have l:HH H 0 a b V F n:=by rw [g,v];exact f
     have K:∀ j∈a :: b :: V :: F,j≠s:=by rw [v];exact E
     have L:∀ j∈F,G.next<=j:=by rw [v];exact R
     have a7:=P;have Y:=wa Y g;exact wp (h:=wx c8 (i+1) ⟨n,F,wg,wn,wn,wn,wn,wj,(by first|exact l|exact l.same ei (λ_ _=>rfl)|exact l.same ei (λj hj=>by have:=(l.W j hj).2;simp [go_sem,bU this])|(rw [g,v];exact f.br ei (dN _) a8 ei (by simp [go_sem,Y,cI]) cl cl (λj hj=>by obtain ⟨k1,k2,Z,k4⟩:=p j hj;simp [go_sem,k1,k2,Z,bU k4]))),(by exact B),(by exact K),(by exact L),(by intro j hj;simp [go_sem,gP,jQ] at hj ⊢;first|exact ⟨bL,q j bL⟩|exact q j bL),(by first|exact a7|(intro j hj A;simp only [aP,dU,or_false,not_or] at A;simp [go_sem,A,bU (bL:j<H.next)];exact P j hj (fg A))),ei⟩)
   .have hie:i=r.right.o.i.length:=bL;have d8:x=Su t r u (Hy t r (bdE h d o d.j.length) r.right.o.i.length) 0:=by rw [J,hie];simp [Su,dC]
    have d4:=xa2 (bU (bL:s<H.next)) (bU (bL:a<H.next)) (bU (bL:b<H.next)) (bU (bL:V<H.next));have Y:=wa Y d4;refine wp (h:=bA (λi e H=>∃ x:Host,(e 1=.ptr s 1 0 0/\e 3=.adr t.c/\e 5=.adr d.c/\e 174=.list (r.right.o.j.map Edge.c)/\e 175=dI r.right.o.j.length/\e 176=dI i)/\(H.get s=some ⟨136,38,[stpC r m h (.own a x.o.i.length) (.own b x.o.j.length) (.own V x.values.length) o u],false⟩)/\(s<H.next)/\(i<=r.right.o.j.length)/\(HH H 0 a b V qs x)/\(x=Su t r u (Hy t r (bdE h d o d.j.length) r.right.o.i.length) i)/\(∀ j,j<G.next->j∉[s,a,b,V]->H.get j=G.get j)/\(G.next<=H.next)) (λi=>r.right.o.j.length - i) 0 ⟨x,wg,wn,wn,wi,(by exact f),(by exact d8),(by exact P),(by exact N)⟩ λI6 c7 i e H e1=>?_);obtain ⟨x,E6,c9,b9,hi,f,J,P,N⟩:=e1;have d6:=xa4 (b8 (bL:V≠b)) (b8 (bL:V≠a)) (b8 (bL:V≠s)) (b8 (bL:b≠a)) (b8 (bL:b≠s)) (b8 (bL:a≠s));have Y:=xa3 Y E6 c9 (bU b9) d6;refine dD (λU=>?_) λU=>?_
    .have hsu:=qU r.O.j i;obtain ⟨y,hy⟩:=cY (r.right.o.j[i]);have c3:r.right.o.j[i]?.getD cK=y:=by rw [hy,aA U];rfl
     have a9:=(e7.2 _ (aC U)).2;rw [<- hy] at a9;have a1:y.from_.toNat<u.i.length:=bL;have a0:y.L.toNat<u.i.length:=bL;have h2:=mM r.O.j i;have T:i<u.j.length:=bL;have O:=f1 i U;rw [aA T,aF] at O;have M:x.o.j.length=d.j.length+(dC r.O.j i).length:=by rw [J];simp [Su,Hy,bdE]
     have a4:=f.gb;have a2:=f.W b f.a2;have b1:=f.W a f.a6;have b2:=f.W V f.ba;have d3:=xa2 (bU (bL:s<H.next)) (bU (bL:a<H.next)) (bU (bL:b<H.next)) (bU (bL:V<H.next));have Y:=xa8 Y U (aA U) (Eq.symm hy) (aA a1) (aA a0) (aA T) a4 @Edge.c.eq_1 d3;refine jH (λb6=>?_) λb6=>?_
     .have hm:mem r.O.j i=false:=O.1 (by simpa [M] using b6);rw [if_neg (by rw [hm];simp)] at hsu;have c5:freshE u y=⟨y.type,u.i[y.from_.toNat],u.i[y.L.toNat]⟩:=by unfold freshE;rw [aA a1,aA a0];rfl
      obtain ⟨n,g⟩:∃ z:Host,z=⟨⟨x.o.i,x.o.j++[freshE u y]⟩,x.values⟩:=⟨_,rfl⟩;have B:n=Su t r u (Hy t r (bdE h d o d.j.length) r.right.o.i.length) (i+1):=by rw [g,J];unfold Su;rw [hsu];simp [c3]
      have C:n.o.i.length=x.o.i.length/\n.o.j.length=x.o.j.length+1/\n.values.length=x.values.length:=by rw [g];simp
      have p:∀ j∈a :: V :: qs,j≠b/\j≠s/\j<H.next:=λj hj=>by
       have a3:j∈a :: b :: V :: qs:=by simp only [aP] at hj ⊢;rcases hj with h|h|h<;>simp [h]
       refine ⟨?_,E j a3,(f.W j a3).2⟩;rintro rfl;have:=f.nd;simp only [gC,aP,not_or] at this;simp only [aP] at hj;rcases hj with h|h|h
       .exact this.1.1 h.symm
       .exact this.2.1.1 h
       .exact this.2.1.2 h
      have Y:=wa Y C;exact wp (h:=wx c7 (i+1) ⟨n,wg,wn,wn,wj,(by first|exact l|exact l.same ei (λ_ _=>rfl)|exact l.same ei (λj hj=>by have:=(l.W j hj).2;simp [go_sem,bU this])|(rw [g];exact f.j ei (by simp [go_sem,Y,c5,Edge.c]) (λj hj=>by obtain ⟨k1,k2,Z⟩:=p j hj;simp [go_sem,k1,k2,bU Z]))),(by exact B),(by first|exact a7|(intro j hj A;simp only [aP,dU,or_false,not_or] at A;simp [go_sem,A,bU (bL:j<H.next)];exact P j hj (fg A))),ei⟩)
     .have hm:mem r.O.j i=true:=by
       cases b3:mem r.O.j i with
       | true=>rfl
       | false=>exact absurd (by simpa [M] using O.2 b3) b6
      rw [if_pos hm,dG] at hsu;obtain ⟨n,g⟩:∃ z,z=x:=⟨_,rfl⟩;have B:n=Su t r u (Hy t r (bdE h d o d.j.length) r.right.o.i.length) (i+1):=by rw [g,J];unfold Su;rw [hsu]
      have l:HH H 0 a b V qs n:=by rw [g];exact f
      have a7:=P;have Y:=wa Y g;exact wp (h:=wx c7 (i+1) ⟨n,wg,wn,wn,wj,(by first|exact l|exact l.same ei (λ_ _=>rfl)|exact l.same ei (λj hj=>by have:=(l.W j hj).2;simp [go_sem,bU this])|(rw [g];exact f.j ei (by simp [go_sem,Y,c5,Edge.c]) (λj hj=>by obtain ⟨k1,k2,Z⟩:=p j hj;simp [go_sem,k1,k2,bU Z]))),(by exact B),(by first|exact a7|(intro j hj A;simp only [aP,dU,or_false,not_or] at A;simp [go_sem,A,bU (bL:j<H.next)];exact P j hj (fg A))),ei⟩)
    .have hX:x=kP t r u (bdE h d o d.j.length):=by rw [J,(bL:i=r.right.o.j.length)];rfl
     rw [hX] at f;have Y:=wa Y hX;refine wv (h:=?_);exact hQ qs _ f cl E R P N
def nQ (c:Part)(s:Slot):Int:=c.i[s.node.toNat]?.getD 0
def VQ (c:Part)(vs:Xa0)(F:FM)(s:Slot):FM:=M6 F (nQ c s) s.Q (dJ s.E vs)
def FA (c:Part)(vs:Xa0)(l:List Slot):FM:=l.foldl (VQ c vs) λ_ _=>none
theorem Uh (c:Part)(vs:Xa0)(l:List Slot)(s:Slot):FA c vs (l++[s])=M6 (FA c vs l) (nQ c s) s.Q (dJ s.E vs):=by unfold FA;rw [eG];rfl
theorem XO (c:Part)(vs:Xa0)(u v x:Int):∀ (l:List Slot) (F:FM),l.foldl (VQ c vs) F u v=some x->(∃ s∈l,nQ c s=u/\s.Q=v/\dJ s.E vs=x)\/F u v=some x
 | [],F,h=>.inr h
 | s :: l,F,h=>by
  rcases XO c vs u v x l _ h with ⟨s',hs',e⟩|h'
  .exact .inl ⟨s',cZ _ hs',e⟩
  .unfold VQ M6 at h';split at h'
   .rename_i he;exact .inl ⟨s,j5 ..,he.1.symm,he.2.symm,by simpa using h'⟩
   .exact .inr h'
theorem HF {c:Part}{vs:Xa0}{l:List Slot}{u v x:Int}(h:FA c vs l u v=some x):∃ s∈l,nQ c s=u/\s.Q=v/\dJ s.E vs=x:=by
 rcases XO c vs u v x l _ h with h|h
 .exact h
 .cases h
theorem ZM (c:Part)(vs:Xa0)(u v:Int):∀ (l:List Slot) (F:FM),((∃ s∈l,nQ c s=u/\s.Q=v)\/(F u v).isSome=true)->(l.foldl (VQ c vs) F u v).isSome=true
 | [],F,h=>h.elim (λ⟨s,hs,_⟩=>by cases hs) id
 | s :: l,F,h=>ZM c vs u v l _ (by
   by_cases he:nQ c s=u/\s.Q=v
   .right;unfold VQ M6;rw [if_pos ⟨he.1.symm,he.2.symm⟩];rfl
   .rcases h with ⟨s',hs',e⟩|h
    .rcases aP.1 hs' with rfl|h2
     .exact absurd e he
     .exact .inl ⟨s',h2,e⟩
    .right;unfold VQ M6;split
     .rfl
     .exact h)
def EqK (c:Part)(vs:Xa0)(l:List Slot):Prop:=∀ s∈l,∀ s'∈l,nQ c s=nQ c s'->s.Q=s'.Q->dJ s.E vs=dJ s'.E vs
theorem XN {c:Part}{vs:Xa0}{l:List Slot}(h:EqK c vs l){s:Slot}(d:s∈l):FA c vs l (nQ c s) s.Q=some (dJ s.E vs):=by
 have g:=ZM c vs (nQ c s) s.Q l (λ_ _=>none) (.inl ⟨s,d,rfl,rfl⟩);obtain ⟨x,f⟩:=l8.1 g;have a:FA c vs l (nQ c s) s.Q=some x:=f;obtain ⟨e,b,k,j,i⟩:=HF a;rw [a,<- i,h e b s d k j]
theorem XQ {c:Part}{vs:Xa0}{l:List Slot}(h:EqK c vs l){s:Slot}(m:∀ x,FA c vs l (nQ c s) s.Q=some x->x=dJ s.E vs):EqK c vs (l++[s]):=by
 have d:∀ j∈l,nQ c j=nQ c s->j.Q=s.Q->dJ j.E vs=dJ s.E vs:=λj k i g=>by
  have:=XN h k;rw [i,g] at this;exact m _ this
 intro a f b e i g;rw [aQ,aX] at f e;rcases f with f|rfl<;>rcases e with e|rfl
 .exact h a f b e i g
 .exact d a f i g
 .exact (d b e i.symm g.symm).symm
 .rfl
theorem qQ {c:Part}{s:Slot}:f9 c s=(nQ c s).toNat:=rfl
theorem Xu {c:Part}{vs:Xa0}{l:List Slot}{i:Nat}(e:i<l.length){x:Int}(h:FA c vs (l.take i) (nQ c l[i]) l[i].Q=some x)(m:x≠dJ l[i].E vs):z8 c vs l=true:=by
 obtain ⟨o,a,j,g,f⟩:=HF h;obtain ⟨k,n,rfl⟩:=aM a;rw [mR] at j g f;have d:k<i:=by simp at n;omega
 have b:k<l.length:=bL;rw [y8,aZ];refine ⟨i,by simpa using e,?_⟩;rw [aZ];refine ⟨k,by simpa using d,?_⟩;unfold xL FG;simp only [aA b,aA e,qQ,j,g,f];simp [m]
theorem SS {c:Part}{vs:Xa0}{l:List Slot}(g:∀ s∈l,0<=nQ c s)(h:EqK c vs l):z8 c vs l=false:=by
 rw [y8,bP];intro a;rw [aZ] at a;obtain ⟨i,d,a⟩:=a;rw [aZ] at a;obtain ⟨k,j,a⟩:=a;rw [bN] at d j;have b:k<l.length:=bL;unfold xL FG at a;simp only [aA b,aA d,qQ,aR,decide_eq_true_eq] at a;obtain ⟨p,n,m⟩:=a;have r:=g _ (aC b);have q:=g _ (aC d);have o:(nQ c l[k]).toNat=(nQ c l[i]).toNat:=of_decide_eq_true p;have f:l[k].Q=l[i].Q:=by simpa using n
 have e:dJ l[k].E vs≠dJ l[i].E vs:=by simpa using m
 exact e (h _ (aC b) _ (aC d) bL f)
/-! ### the values that are set -/
def A8 (F:FM)(dn:Int->Int->Bool)(vals:Yb):Yb :=
 (List.range vals.length).map λ(n:Nat)=>(List.range (vals[n]?.getD []).length).map λ(a:Nat)=>if dn n a=true then (F n a).getD 0 else (vals[n]?.getD [])[a]?.getD 0
theorem uR (F:FM)(dn:Int->Int->Bool)(vals:Yb):(A8 F dn vals).length=vals.length:=by simp [A8]
theorem sQ (F:FM)(dn:Int->Int->Bool)(vals:Yb)(n:Nat):((A8 F dn vals)[n]?.getD []).length=(vals[n]?.getD []).length:=by
 unfold A8;by_cases a:n<vals.length
 .simp [aW,vT a]
 .rw [bC et,bC bL]
theorem A7 (F:FM)(dn:Int->Int->Bool)(vals:Yb){n a:Nat}(b:n<vals.length)(c:a<(vals[n]?.getD []).length):((A8 F dn vals)[n]?.getD [])[a]?=some (if dn n a=true then (F n a).getD 0 else (vals[n]?.getD [])[a]?.getD 0):=by
 unfold A8;rw [aW,vT b,fS,aF,aW,vT c,fS]
theorem Im {x y:Yb}(i:x.length=y.length)(h:∀ n:Nat,(x[n]?.getD []).length=(y[n]?.getD []).length)(g:∀ n a:Nat,n<y.length->a<(y[n]?.getD []).length->(x[n]?.getD [])[a]?=(y[n]?.getD [])[a]?):x=y:=by
 apply gF i;intro n j c;have d:x[n]?.getD []=x[n]:=by rw [aA j];rfl
 have b:y[n]?.getD []=y[n]:=by rw [aA c];rfl
 have e:=h n;rw [d,b] at e;apply fC;intro a;by_cases f:a<y[n].length
 .have:=g n a c (by rw [b];exact f);rwa [d,b] at this
 .rw [bC bL,bC bL]
theorem UZ (F:FM)(vals:Yb){dn:Int->Int->Bool}(h:∀ n a:Nat,n<vals.length->a<(vals[n]?.getD []).length->dn n a=false):A8 F dn vals=vals:=by
 refine Im (uR _ _ _) (sQ _ _ _) λn a c b=>?_;rw [A7 _ _ _ c b,if_neg (by rw [h n a c b];simp),aA b];rfl
theorem Jr {vals:Yb}{u:Nat}(a:u<vals.length)(r:Xa0)(n:Nat):(vals.set u r)[n]?.getD []=if n=u then r else vals[n]?.getD []:=by
 rw [cT];split
 .rename_i h;subst h;simp [a]
 .rename_i h;rw [if_neg (λe=>h e.symm)]
theorem UX (F:FM)(vals:Yb){dn dn':Int->Int->Bool}{u a:Nat}{x:Int}(i:u<vals.length)(k:a<(vals[u]?.getD []).length)(g:F u a=some x)(j:∀ n b:Nat,n<vals.length->b<(vals[n]?.getD []).length->dn' n b=(dn n b||(decide (n=u)&&decide (b=a)))) :
  (A8 F dn vals).set u (((A8 F dn vals)[u]?.getD []).set a x)=A8 F dn' vals:=by
 have c:u<(A8 F dn vals).length:=by rw [uR];exact i
 refine Im (by rw [iZ,uR,uR]) (λn=>?_) λn b d f=>?_
 .rw [Jr c,sQ];split
  .rename_i h;subst h;rw [iZ,sQ]
  .rw [sQ]
 .rw [uR] at d;rw [sQ] at f;rw [Jr c,A7 _ _ _ d f,j n b d f];split
  .rename_i h;subst h;rw [cT];by_cases e:a=b
   .subst e;rw [if_pos rfl,if_pos (by rw [sQ];exact k),if_pos bS,g];rfl
   .rw [if_neg e,A7 _ _ _ d f];congr 1;rw [show decide (b=a)=false by simp;omega,GT,xW]
  .rename_i h;rw [A7 _ _ _ d f];congr 1;rw [show decide (n=u)=false by simp;omega,GS,xW]
theorem PE {c:Part}{vs:Xa0}(vals:Yb):∀ (i:Nat) (l:List Slot),l.length=i->(∀ s∈l,0<=nQ c s/\f9 c s<vals.length/\0<=s.Q/\s.Q<(vals[f9 c s]?.getD []).length) ->
  ∀ n a:Nat,n<vals.length->a<(vals[n]?.getD []).length->((xE c vs l vals)[n]?.getD [])[a]?=some ((FA c vs l n a).getD ((vals[n]?.getD [])[a]?.getD 0))
 | 0,l,hl,hp,n,a,hn,ha=>by
  have:l=[]:=bI hl;subst this;show (vals[n]?.getD [])[a]?=_;rw [aA ha];rfl
 | i+1,l,hl,hp,n,a,hn,ha=>by
  obtain ⟨l',s,rfl⟩:∃ l' s,l=l'++[s]:=⟨l.dropLast,l.getLast (by intro e;rw [e] at hl;cases hl),(List.dropLast_concat_getLast _).symm⟩;have ih:=PE (c:=c) (vs:=vs) vals i l' (by simp at hl;exact hl) (λs' hs'=>hp s' (List.mem_append_left _ hs'));obtain ⟨p1,p2,p3,p4⟩:=hp s bS;obtain ⟨q1,q2⟩:=uQ c vs l' vals;rw [LE,Uh,Jr bL];unfold M6;split
  .rename_i h;rw [cT];by_cases hsa:s.Q.toNat=a
   .rw [if_pos hsa,if_pos (by rw [q2];omega),if_pos ⟨by rw [h,qQ];omega,bL⟩];rfl
   .rw [if_neg hsa,if_neg bL,<- h];exact ih n a hn ha
  .rename_i h;rw [if_neg (by rw [qQ] at h;omega)];exact ih n a hn ha
theorem UY {c:Part}{vs:Xa0}{vals:Yb}{l:List Slot}(g:∀ s∈l,0<=nQ c s/\f9 c s<vals.length/\0<=s.Q/\s.Q<(vals[f9 c s]?.getD []).length)
  {dn:Int->Int->Bool} (h:∀ n a:Nat,n<vals.length->a<(vals[n]?.getD []).length->dn n a=(FA c vs l n a).isSome):A8 (FA c vs l) dn vals=xE c vs l vals:=by
 obtain ⟨f,e⟩:=uQ c vs l vals;refine Im (by rw [uR,f]) (λn=>by rw [sQ,e]) λn a b d=>?_;rw [f] at b;rw [e] at d;rw [A7 _ _ _ b d,PE vals _ l rfl g n a b d,h n a b d];cases FA c vs l n a<;>simp
end Go.Abs
end
