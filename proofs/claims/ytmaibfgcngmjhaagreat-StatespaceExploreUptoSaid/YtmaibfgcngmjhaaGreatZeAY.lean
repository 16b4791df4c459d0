/- slices.symMergeCmpFunc at integers: two stretches in order b -/
import Derived.Test.YtmaibfgcngmjhaaGreatZeAG
import Derived.Test.YtmaibfgcngmjhaaGreatZeAX
import Derived.Test.YtmaibfgcngmjhaaGreatZeAA
set_option linter.unusedVariables false
set_option linter.unusedSimpArgs false
section
set_option maxRecDepth 100000
set_option maxHeartbeats 4000000
open Go Go.Proofs Tryz
namespace Go.Abs
structure Mrg (f:Int->Xa0) (l:Xa0) (a m b:Nat):Prop where
 nd:l.Nodup
 le:a<m/\m<b/\b<=l.length
 s1:Srtd f l a m
 s2:Srtd f l m b
 am:VX l a m b
def abY (g:FuncId)(caps:Xa2)(f:Int->Xa0)(n:Nat):Prop:=∀ (G:AHeap) (id:Nat) (xs:Xa0) (hg:G.get id=some ⟨3,1,xs.map cI,false⟩) (hl:xs.length<=100000) (cg:CmpBy g caps f xs) (a m b:Nat) (hnb:b - a<=n) (M:Mrg f xs a m b)
  {N:Nat} {A MM B:Int} (eN:N=xs.length) (eA:A=a) (eM:MM=m) (eB:B=b) (Q:D->AHeap->Prop)
  (hQ:∀ ys H',Rng xs ys a b->Srtd f ys a b->H'.get id=some ⟨3,1,ys.map cI,false⟩->(∀ j,j≠id->H'.get j=G.get j)->G.next<=H'.next->Q (.tup []) H'),ACalls prog 248 [.own id N,dI A,dI MM,dI B,.fn g caps] G Q
theorem Kh (g:FuncId)(a3:Xa2)(P:D.N a3=true)(f:Int->Xa0)(n:Nat)(ih:abY g a3 f n):abY g a3 f (n+1):=by
 intro G id L O hl cg a m b k5 M N A MM B eN eA eM eB Q hQ;subst eN eA eM eB;obtain ⟨k7,k6,k0⟩:=M.le;have e3:∀ (p q:Nat) (hp:p<L.length) (hq:q<L.length),∃ c,Pure prog g (dI L[p] :: dI L[q] :: a3) (dI c)/\(c<0↔cJ (f (iA L p)) (f (iA L q))<0):=λp q hp hq=>by
  rw [jU hp,jU hq];exact cg _ (aC hp) _ (aC hq)
 have s1:(m:Int) - a=((m - a:Nat):Int):=bL;have s2:(b:Int) - m=((b - m:Nat):Int):=bL;refine (Tz.c0 func248 rfl ?_);try simp [go_sem,seval,O,cV,s1,s2,P]
 repeat first|intro _|refine ⟨fY,?_⟩
 refine aU (λh0=>?_) (λh0=>?_)
 .try simp [go_sem] at h0
  have f8:m=a+1:=bL;try simp [go_sem,seval,O,cV,s1,s2,P]
  obtain ⟨I0,e2⟩:∃ I0:Nat->dO->AHeap->Prop,∀ (c:Nat) (e:dO) (H:AHeap),I0 c e H↔(∃ i:Nat,∃ j:Nat,(e 0=.own id L.length)/\(e 1=dI a)/\(e 2=dI m)/\(e 3=dI b)/\(e 4=.fn g a3)/\(e 10=dI i)/\(e 11=dI j)/\(m<=i/\i<=j/\j<=b)/\(j - i<=c)/\(m<i->cJ (f (iA L ((i - 1:Nat):Int))) (f (iA L a))<0)/\(j<b->¬ cJ (f (iA L j)) (f (iA L a))<0)/\(H.get id=some ⟨3,1,L.map cI,false⟩)/\(∀ j,j≠id->H.get j=G.get j)/\(G.next<=H.next)):=⟨λc e H=>_,λ_ _ _=>Iff.rfl⟩;refine tI I0 (λc=>c) (b) ((e2 _ _ _).2 ⟨(m),(b),?_,?_,?_,?_,?_,?_,?_,bL,bL,(by exact λh=>by omega),(by exact λh=>by omega),(by exact O),(by exact λ_ _=>rfl),(by exact aT _)⟩) ?_;iterate 7 (first|omega|(simp [go_sem,seval,O,cV,s1,s2,P]<;>omega))
  intro c e H j7;obtain ⟨i,j,j1,i7,i3,h8,h2,f4,f2,hi,hj,k2,k1,J,a1,b1⟩:=(e2 _ _ _).1 j7;have F0:=xa5 j1 i7 i3 h8 h2 f4 f2;try simp [go_sem,seval,O,cV,s1,s2,P,F0,J]
  refine aU (λh3=>?_) (λh3=>?_)
  .try simp [go_sem] at h3
   obtain ⟨h,hh⟩:=cY ((i+j) / 2);have v:h<L.length:=bL;have F:a<L.length:=bL;have V:(((i:Int)+(j:Int)) / 2)=(h:Int):=bL;have hu:=zW (bL:0<=(i:Int)+(j:Int)) (bL:(i:Int)+(j:Int)<=18446744073709551615);obtain ⟨c0,j9,b5⟩:=e3 h a v F;try simp [go_sem,seval,O,cV,s1,s2,P,F0,J,h3,<- hh,V,aA v,aA F]
   repeat first|intro _|refine ⟨fY,?_⟩
   refine aJ (j9) ((by first|rfl|(simp [go_sem,<- List.map_take,<- List.map_drop,O,cV,s1,s2,P,F0,J,h3,<- hh,V,aA v,aA F];done))) ?_;try simp [go_sem,seval,O,cV,s1,s2,P,F0,J,h3,<- hh,V,aA v,aA F]
   repeat first|intro _|refine ⟨fY,?_⟩
   refine aU (λh5=>?_) (λh5=>?_)
   .try simp [go_sem] at h5
    obtain ⟨i',a0⟩:∃ i':Nat,i'=h+1:=⟨_,rfl⟩;obtain ⟨j',I⟩:∃ j':Nat,j'=j:=⟨_,rfl⟩;have a8:m<i'->cJ (f (iA L ((i' - 1:Nat):Int))) (f (iA L a))<0:=λ_=>by rw [(bL:i' - 1=h)];exact b5.1 bL
    have a9:j'<b->¬ cJ (f (iA L j')) (f (iA L a))<0:=λq=>by rw [I];exact k1 bL
    try simp [go_sem,seval,O,cV,s1,s2,P,F0,J,h3,<- hh,V,aA v,aA F,a0,I]
    repeat first|intro _|refine ⟨fY,?_⟩
    refine gU (c - 1) bL ((e2 _ _ _).2 ⟨(i'),(j'),?_,?_,?_,?_,?_,?_,?_,bL,bL,(by exact a8),(by exact a9),(by first|exact J|(simp [go_sem];exact J)),(by first|exact a1|(intro j I;simp [go_sem];exact a1 j I)),(by first|exact b1|(simp [go_sem];omega))⟩)<;>first|omega|(simp [go_sem,seval,O,cV,s1,s2,P,F0,J,h3,<- hh,V,aA v,aA F,a0,I]<;>omega)
   .try simp [go_sem] at h5
    obtain ⟨i',a0⟩:∃ i':Nat,i'=i:=⟨_,rfl⟩;obtain ⟨j',I⟩:∃ j':Nat,j'=h:=⟨_,rfl⟩;have a8:m<i'->cJ (f (iA L ((i' - 1:Nat):Int))) (f (iA L a))<0:=λq=>by rw [a0];exact k2 bL
    have a9:j'<b->¬ cJ (f (iA L j')) (f (iA L a))<0:=λq=>by rw [I];exact λw=>by have:=b5.2 w;omega
    try simp [go_sem,seval,O,cV,s1,s2,P,F0,J,h3,<- hh,V,aA v,aA F,a0,I]
    refine gU (c - 1) bL ((e2 _ _ _).2 ⟨(i'),(j'),?_,?_,?_,?_,?_,?_,?_,bL,bL,(by exact a8),(by exact a9),(by first|exact J|(simp [go_sem];exact J)),(by first|exact a1|(intro j I;simp [go_sem];exact a1 j I)),(by first|exact b1|(simp [go_sem];omega))⟩)<;>first|omega|(simp [go_sem,seval,O,cV,s1,s2,P,F0,J,h3,<- hh,V,aA v,aA F,a0,I]<;>omega)
  .try simp [go_sem] at h3
   have g0:j=i:=bL;try simp [go_sem,seval,O,cV,s1,s2,P,F0,J]
   obtain ⟨I2,g4⟩:∃ I2:Nat->dO->AHeap->Prop,∀ (k:Nat) (e:dO) (H:AHeap),I2 k e H↔((e 0=.own id L.length)/\(e 1=dI a)/\(e 2=dI m)/\(e 3=dI b)/\(e 4=.fn g a3)/\(e 10=dI i)/\(e 13=dI k)/\(a<=k/\k+1<=i)/\(H.get id=some ⟨3,1,(iU L a (a+1) (k+1)).map cI,false⟩)/\(∀ j,j≠id->H.get j=G.get j)/\(G.next<=H.next)):=⟨λk e H=>_,λ_ _ _=>Iff.rfl⟩;refine tI I2 (λk=>i - k) (a) ((g4 _ _ _).2 ⟨?_,?_,?_,?_,?_,?_,?_,bL,(by rw [(sM (cC a 1)).2];first|exact J|(simp [go_sem];exact J)),(by first|exact a1|(intro j I;simp [go_sem];exact a1 j I)),(by first|exact b1|(simp [go_sem];omega))⟩) ?_;iterate 7 (first|omega|(simp [go_sem,seval,O,cV,s1,s2,P,F0,J]<;>omega))
   intro k e H j6;obtain ⟨j0,i6,i2,h7,h1,f3,f1,hk,a6,c1,d8⟩:=(g4 _ _ _).1 j6;have F2:=xa5 j0 i6 i2 h7 h1 f3 f1;try simp [go_sem,seval,O,cV,s1,s2,P,J,F2,a6]
   repeat first|intro _|refine ⟨fY,?_⟩
   refine aU (λh9=>?_) (λh9=>?_)
   .try simp [go_sem] at h9
    obtain ⟨zs,hz⟩:∃ z,z=iU L a (a+1) (k+1):=⟨_,rfl⟩;have d6:zs.length=L.length:=by rw [hz,oD (cC a 1) bL]
    rw [<- hz] at a6;have v:k<zs.length:=bL;have F:k+1<zs.length:=bL;have e1:((k:Int)+1).toNat=k+1:=bL;have f5:((zs.map cI).set k (cI zs[k+1])).set (k+1) (cI zs[k])=(iU L a (a+1) (k+1+1)).map cI:=by rw [Hv v F,hz,Z2 hk.1 bL]
    have q1:(0:Int)<=(k:Int)+1/\(k:Int)+1<L.length:=bL;try simp [go_sem,seval,O,cV,s1,s2,P,J,F2,a6,h9,e1,q1,aA v,aA F,d6,cT]
    repeat first|intro _|refine ⟨fY,?_⟩
    refine gU (k+1) bL ((g4 _ _ _).2 ⟨?_,?_,?_,?_,?_,?_,?_,bL,(by simp [go_sem,a6];exact f5),(by intro j I;simp [go_sem,I,c1 j I]),eq⟩)<;>first|omega|(simp [go_sem,seval,O,cV,s1,s2,P,J,F2,a6,h9,e1,q1,aA v,aA F,d6,cT]<;>omega)
   .try simp [go_sem] at h9
    have f9:k+1=i:=bL;rw [f9] at a6;obtain ⟨r1,r2⟩:=aaP (f:=f) (e:=i) M.nd bL bL k0 (by rw [<- f8];exact M.s2) (λp v F=>M.am a p bL bL bL F) (λh=>by rw [<- g0];exact k1 bL) (λh=>k2 bL);try simp [go_sem,seval,O,cV,s1,s2,P,J,F2,a6]
    exact hQ _ _ r1 r2 a6 c1 d8
 .try simp [go_sem] at h0
  try simp [go_sem,seval,O,cV,s1,s2,P]
  repeat first|intro _|refine ⟨fY,?_⟩
  refine aU (λg7=>?_) (λg7=>?_)
  .try simp [go_sem] at g7
   have f8:b=m+1:=bL;try simp [go_sem,seval,O,cV,s1,s2,P]
   obtain ⟨I4,e0⟩:∃ I4:Nat->dO->AHeap->Prop,∀ (c:Nat) (e:dO) (H:AHeap),I4 c e H↔(∃ i:Nat,∃ j:Nat,(e 0=.own id L.length)/\(e 1=dI a)/\(e 2=dI m)/\(e 3=dI b)/\(e 4=.fn g a3)/\(e 14=dI i)/\(e 15=dI j)/\(a<=i/\i<=j/\j<=m)/\(j - i<=c)/\(a<i->¬ cJ (f (iA L m)) (f (iA L ((i - 1:Nat):Int)))<0)/\(j<m->cJ (f (iA L m)) (f (iA L j))<0)/\(H.get id=some ⟨3,1,L.map cI,false⟩)/\(∀ j,j≠id->H.get j=G.get j)/\(G.next<=H.next)):=⟨λc e H=>_,λ_ _ _=>Iff.rfl⟩;refine tI I4 (λc=>c) (m) ((e0 _ _ _).2 ⟨(a),(m),?_,?_,?_,?_,?_,?_,?_,bL,bL,(by exact λh=>by omega),(by exact λh=>by omega),(by exact O),(by exact λ_ _=>rfl),(by exact aT _)⟩) ?_;iterate 7 (first|omega|(simp [go_sem,seval,O,cV,s1,s2,P]<;>omega))
   intro c e H j5;obtain ⟨i,j,i9,i5,i1,h6,g9,f0,e5,hi,hj,k1,k2,J,a1,b1⟩:=(e0 _ _ _).1 j5;have F4:=xa5 i9 i5 i1 h6 g9 f0 e5;try simp [go_sem,seval,O,cV,s1,s2,P,F4,J]
   refine aU (λb7=>?_) (λb7=>?_)
   .try simp [go_sem] at b7
    obtain ⟨h,hh⟩:=cY ((i+j) / 2);have v:m<L.length:=bL;have F:h<L.length:=bL;have V:(((i:Int)+(j:Int)) / 2)=(h:Int):=bL;have hu:=zW (bL:0<=(i:Int)+(j:Int)) (bL:(i:Int)+(j:Int)<=18446744073709551615);obtain ⟨c0,j8,b5⟩:=e3 m h v F;try simp [go_sem,seval,O,cV,s1,s2,P,F4,J,b7,<- hh,V,aA v,aA F]
    repeat first|intro _|refine ⟨fY,?_⟩
    refine aJ (j8) ((by first|rfl|(simp [go_sem,<- List.map_take,<- List.map_drop,O,cV,s1,s2,P,F4,J,b7,<- hh,V,aA v,aA F];done))) ?_;try simp [go_sem,seval,O,cV,s1,s2,P,F4,J,b7,<- hh,V,aA v,aA F]
    repeat first|intro _|refine ⟨fY,?_⟩
    refine aU (λg6=>?_) (λg6=>?_)
    .try simp [go_sem] at g6
     obtain ⟨i',a0⟩:∃ i':Nat,i'=h+1:=⟨_,rfl⟩;obtain ⟨j',I⟩:∃ j':Nat,j'=j:=⟨_,rfl⟩;have a9:a<i'->¬ cJ (f (iA L m)) (f (iA L ((i' - 1:Nat):Int)))<0:=λ_=>by rw [(bL:i' - 1=h)];exact λw=>by have:=b5.2 w;omega
     have a8:j'<m->cJ (f (iA L m)) (f (iA L j'))<0:=λq=>by rw [I];exact k2 bL
     try simp [go_sem,seval,O,cV,s1,s2,P,F4,J,b7,<- hh,V,aA v,aA F,a0,I]
     repeat first|intro _|refine ⟨fY,?_⟩
     refine gU (c - 1) bL ((e0 _ _ _).2 ⟨(i'),(j'),?_,?_,?_,?_,?_,?_,?_,bL,bL,(by exact a9),(by exact a8),(by first|exact J|(simp [go_sem];exact J)),(by first|exact a1|(intro j I;simp [go_sem];exact a1 j I)),(by first|exact b1|(simp [go_sem];omega))⟩)<;>first|omega|(simp [go_sem,seval,O,cV,s1,s2,P,F4,J,b7,<- hh,V,aA v,aA F,a0,I]<;>omega)
    .try simp [go_sem] at g6
     obtain ⟨i',a0⟩:∃ i':Nat,i'=i:=⟨_,rfl⟩;obtain ⟨j',I⟩:∃ j':Nat,j'=h:=⟨_,rfl⟩;have a9:a<i'->¬ cJ (f (iA L m)) (f (iA L ((i' - 1:Nat):Int)))<0:=λq=>by rw [a0];exact k1 bL
     have a8:j'<m->cJ (f (iA L m)) (f (iA L j'))<0:=λq=>by rw [I];exact b5.1 bL
     try simp [go_sem,seval,O,cV,s1,s2,P,F4,J,b7,<- hh,V,aA v,aA F,a0,I]
     refine gU (c - 1) bL ((e0 _ _ _).2 ⟨(i'),(j'),?_,?_,?_,?_,?_,?_,?_,bL,bL,(by exact a9),(by exact a8),(by first|exact J|(simp [go_sem];exact J)),(by first|exact a1|(intro j I;simp [go_sem];exact a1 j I)),(by first|exact b1|(simp [go_sem];omega))⟩)<;>first|omega|(simp [go_sem,seval,O,cV,s1,s2,P,F4,J,b7,<- hh,V,aA v,aA F,a0,I]<;>omega)
   .try simp [go_sem] at b7
    have g0:j=i:=bL;try simp [go_sem,seval,O,cV,s1,s2,P,F4,J]
    obtain ⟨I6,g3⟩:∃ I6:Nat->dO->AHeap->Prop,∀ (k:Nat) (e:dO) (H:AHeap),I6 k e H↔((e 0=.own id L.length)/\(e 1=dI a)/\(e 2=dI m)/\(e 3=dI b)/\(e 4=.fn g a3)/\(e 14=dI i)/\(e 17=dI k)/\(i<=k/\k<=m)/\(H.get id=some ⟨3,1,(iU L k m (m+1)).map cI,false⟩)/\(∀ j,j≠id->H.get j=G.get j)/\(G.next<=H.next)):=⟨λk e H=>_,λ_ _ _=>Iff.rfl⟩;refine tI I6 (λk=>k) (m) ((g3 _ _ _).2 ⟨?_,?_,?_,?_,?_,?_,?_,bL,(by rw [(sM (cC m 1)).1];first|exact J|(simp [go_sem];exact J)),(by first|exact a1|(intro j I;simp [go_sem];exact a1 j I)),(by first|exact b1|(simp [go_sem];omega))⟩) ?_;iterate 7 (first|omega|(simp [go_sem,seval,O,cV,s1,s2,P,F4,J]<;>omega))
    intro k e H j4;obtain ⟨i8,i4,i0,h4,g8,e6,e4,hk,a6,c1,d8⟩:=(g3 _ _ _).1 j4;have F6:=xa5 i8 i4 i0 h4 g8 e6 e4;try simp [go_sem,seval,O,cV,s1,s2,P,J,F6,a6]
    refine aU (λd9=>?_) (λd9=>?_)
    .try simp [go_sem] at d9
     obtain ⟨zs,hz⟩:∃ z,z=iU L k m (m+1):=⟨_,rfl⟩;have d6:zs.length=L.length:=by rw [hz,oD hk.2 (cC m 1)]
     rw [<- hz] at a6;have v:k<zs.length:=bL;have F:k - 1<zs.length:=bL;have e1:((k:Int) - 1).toNat=k - 1:=bL;have f5:((zs.map cI).set k (cI zs[k - 1])).set (k - 1) (cI zs[k])=(iU L (k - 1) m (m+1)).map cI:=by rw [Hv v F,hz,O5 bL hk.2 bL]
     have q1:(0:Int)<=(k:Int) - 1/\(k:Int) - 1<L.length:=bL;have j2:¬ k=k - 1:=bL;try simp [go_sem,seval,O,cV,s1,s2,P,J,F6,a6,d9,e1,q1,aA v,aA F,d6,cT,j2]
     repeat first|intro _|refine ⟨fY,?_⟩
     refine gU (k - 1) bL ((g3 _ _ _).2 ⟨?_,?_,?_,?_,?_,?_,?_,bL,(by simp [go_sem,a6];exact f5),(by intro j I;simp [go_sem,I,c1 j I]),eq⟩)<;>first|omega|(simp [go_sem,seval,O,cV,s1,s2,P,J,F6,a6,d9,e1,q1,aA v,aA F,d6,cT,j2]<;>omega)
    .try simp [go_sem] at d9
     have f9:k=i:=bL;rw [f9] at a6;obtain ⟨r1,r2⟩:=WX (f:=f) (s:=i) M.nd hi.1 bL bL M.s1 (λp v F=>M.am p m v F bL bL) k1 (λh=>by have:=k2 bL;rw [g0] at this;exact this);rw [<- f8] at r1 r2 a6;try simp [go_sem,seval,O,cV,s1,s2,P,J,F6,a6]
     exact hQ _ _ r1 r2 a6 c1 d8
  .try simp [go_sem] at g7
   obtain ⟨o,l⟩:∃ x:Nat,x=(a+b) / 2:=⟨_,rfl⟩;obtain ⟨E,k4⟩:∃ x:Nat,x=o+m:=⟨_,rfl⟩;have t:(((a:Int)+(b:Int)) / 2)=(o:Int):=bL;have k3:=zW (bL:0<=(a:Int)+(b:Int)) (bL:(a:Int)+(b:Int)<=18446744073709551615);have d:(o:Int)+(m:Int)=(E:Int):=bL;try simp [go_sem,seval,O,cV,s1,s2,P,<- l,t,d]
   repeat first|intro _|refine ⟨fY,?_⟩
   refine aU (λg5=>?_) (λg5=>?_)
   .try simp [go_sem] at g5
    obtain ⟨s0,T⟩:∃ x:Nat,x=E - b:=⟨_,rfl⟩;obtain ⟨r0,u⟩:∃ x:Nat,x=o:=⟨_,rfl⟩;have j3:(a<=s0/\s0<=r0/\r0<=m/\r0<=o/\m<=E - r0/\E - s0<=b/\r0<=E)/\(a<s0->E - s0=b)/\(r0<m->E - r0=m):=bL;have e9:(E:Int) - b=(s0:Int):=bL;try simp [go_sem,seval,O,cV,s1,s2,P,<- l,t,d,e9,u]
    repeat first|intro _|refine ⟨fY,?_⟩
    obtain ⟨I8,b8⟩:∃ I8:Nat->dO->AHeap->Prop,∀ (c:Nat) (e:dO) (H:AHeap),I8 c e H↔(∃ s:Nat,∃ r:Nat,(e 0=.own id L.length)/\(e 1=dI a)/\(e 2=dI m)/\(e 3=dI b)/\(e 4=.fn g a3)/\(e 18=dI o)/\(e 19=dI E)/\(e 20=dI s)/\(e 21=dI r)/\(e 22=dI ((E:Int) - 1))/\(s0<=s/\s<=r/\r<=r0)/\(r - s<=c)/\(s0<s->¬ cJ (f (iA L ((E - s:Nat):Int))) (f (iA L ((s - 1:Nat):Int)))<0)/\(r<r0->cJ (f (iA L ((E - 1 - r:Nat):Int))) (f (iA L r))<0)/\(H.get id=some ⟨3,1,L.map cI,false⟩)/\(∀ j,j≠id->H.get j=G.get j)/\(G.next<=H.next)):=⟨λc e H=>_,λ_ _ _=>Iff.rfl⟩;refine tI I8 (λc=>c) (r0) ((b8 _ _ _).2 ⟨(s0),(r0),?_,?_,?_,?_,?_,?_,?_,?_,?_,?_,bL,bL,(by exact λh=>by omega),(by exact λh=>by omega),(by exact O),(by exact λ_ _=>rfl),(by exact aT _)⟩) ?_;iterate 10 (first|omega|(simp [go_sem,seval,O,cV,s1,s2,P,<- l,t,d,e9,u]<;>omega))
    intro c e H g1;obtain ⟨s,r,d5,d4,d3,d2,d1,c6,c5,c4,c3,c2,hi,hj,k1,k2,J,a1,b1⟩:=(b8 _ _ _).1 g1;have Z:=xa8 d5 d4 d3 d2 d1 c6 c5 c4 c3 c2;try simp [go_sem,seval,O,cV,s1,s2,P,<- l,t,d,e9,u,Z,J]
    refine aU (λa4=>?_) (λa4=>?_)
    .try simp [go_sem] at a4
     obtain ⟨h,hh⟩:=cY ((s+r) / 2);obtain ⟨pc,f7⟩:∃ x:Nat,x=E - 1 - h:=⟨_,rfl⟩;have v:pc<L.length:=bL;have F:h<L.length:=bL;have V:(((s:Int)+(r:Int)) / 2)=(h:Int):=bL;have hu:=zW (bL:0<=(s:Int)+(r:Int)) (bL:(s:Int)+(r:Int)<=18446744073709551615);have e8:(E:Int) - 1 - h=(pc:Int):=bL;obtain ⟨c0,g2,b5⟩:=e3 pc h v F;try simp [go_sem,seval,O,cV,s1,s2,P,<- l,t,d,e9,u,Z,J,a4,<- hh,V,e8,aA v,aA F]
     repeat first|intro _|refine ⟨fY,?_⟩
     refine aJ (g2) ((by first|rfl|(simp [go_sem,<- List.map_take,<- List.map_drop,O,cV,s1,s2,P,<- l,t,d,e9,u,Z,J,a4,<- hh,V,e8,aA v,aA F];done))) ?_;try simp [go_sem,seval,O,cV,s1,s2,P,<- l,t,d,e9,u,Z,J,a4,<- hh,V,e8,aA v,aA F]
     repeat first|intro _|refine ⟨fY,?_⟩
     refine aU (λd0=>?_) (λd0=>?_)
     .try simp [go_sem] at d0
      obtain ⟨i',a0⟩:∃ i':Nat,i'=h+1:=⟨_,rfl⟩;obtain ⟨j',I⟩:∃ j':Nat,j'=r:=⟨_,rfl⟩;have a9:s0<i'->¬ cJ (f (iA L ((E - i':Nat):Int))) (f (iA L ((i' - 1:Nat):Int)))<0:=λ_=>by rw [(bL:i' - 1=h),(bL:E - i'=pc)];exact λw=>by have:=b5.2 w;omega
      have a8:j'<r0->cJ (f (iA L ((E - 1 - j':Nat):Int))) (f (iA L j'))<0:=λq=>by rw [I];exact k2 bL
      try simp [go_sem,seval,O,cV,s1,s2,P,<- l,t,d,e9,u,Z,J,a4,<- hh,V,e8,aA v,aA F,a0,I]
      repeat first|intro _|refine ⟨fY,?_⟩
      refine gU (c - 1) bL ((b8 _ _ _).2 ⟨(i'),(j'),?_,?_,?_,?_,?_,?_,?_,?_,?_,?_,bL,bL,(by exact a9),(by exact a8),(by first|exact J|(simp [go_sem];exact J)),(by first|exact a1|(intro j I;simp [go_sem];exact a1 j I)),(by first|exact b1|(simp [go_sem];omega))⟩)<;>first|omega|(simp [go_sem,seval,O,cV,s1,s2,P,<- l,t,d,e9,u,Z,J,a4,<- hh,V,e8,aA v,aA F,a0,I]<;>omega)
     .try simp [go_sem] at d0
      obtain ⟨i',a0⟩:∃ i':Nat,i'=s:=⟨_,rfl⟩;obtain ⟨j',I⟩:∃ j':Nat,j'=h:=⟨_,rfl⟩;have a9:s0<i'->¬ cJ (f (iA L ((E - i':Nat):Int))) (f (iA L ((i' - 1:Nat):Int)))<0:=λq=>by rw [a0];exact k1 bL
      have a8:j'<r0->cJ (f (iA L ((E - 1 - j':Nat):Int))) (f (iA L j'))<0:=λq=>by rw [I,<- f7];exact b5.1 bL
      try simp [go_sem,seval,O,cV,s1,s2,P,<- l,t,d,e9,u,Z,J,a4,<- hh,V,e8,aA v,aA F,a0,I]
      refine gU (c - 1) bL ((b8 _ _ _).2 ⟨(i'),(j'),?_,?_,?_,?_,?_,?_,?_,?_,?_,?_,bL,bL,(by exact a9),(by exact a8),(by first|exact J|(simp [go_sem];exact J)),(by first|exact a1|(intro j I;simp [go_sem];exact a1 j I)),(by first|exact b1|(simp [go_sem];omega))⟩)<;>first|omega|(simp [go_sem,seval,O,cV,s1,s2,P,<- l,t,d,e9,u,Z,J,a4,<- hh,V,e8,aA v,aA F,a0,I]<;>omega)
    .try simp [go_sem] at a4
     have f6:r=s:=bL;have C:Cut f L a m b s (E - s):=⟨M.nd,bL,M.s1,M.s2,M.am,λq1 q2=>k1 bL,λq1 q2=>by
      have:=k2 bL;rw [f6,(bL:E - 1 - s=E - s - 1)] at this;exact this⟩
     obtain ⟨ys,b0⟩:∃ y,y=iU L s m (E - s):=⟨_,rfl⟩;have d7:ys.length=L.length:=by rw [b0];exact C.W.len
     have b4:ys.Nodup:=by rw [b0];exact C.W.1.nodup_iff.2 M.nd
     have cy:CmpBy g a3 f ys:=by rw [b0];exact cg.a8 C.W.1
     have hL:=C.left;have R:=C.right;have a5:=@Cut.done f L a m b s (E - s) C;rw [<- b0,(bL:s+(E - s - m)=o)] at hL R;rw [<- b0,(bL:s+(E - s - m)=o)] at a5;have e7:(E:Int) - s=((E - s:Nat):Int):=bL;try simp [go_sem,seval,O,cV,s1,s2,P,<- l,t,d,e9,u,Z,J,e7]
     repeat first|intro _|refine ⟨fY,?_⟩
     refine aU (λc9=>?_) (λc9=>?_)
     .try simp [go_sem] at c9
      have b9:s<m/\m<E - s:=bL;try simp [go_sem,seval,O,cV,s1,s2,P,<- l,t,d,e9,u,Z,J,e7]
      unfold dQ;refine Ip (N:=L.length) (A:=(s:Int)) (M:=(m:Int)) (B:=((E - s:Nat):Int)) _ _ L J hl g a3 s m (E - s) b9.1 b9.2 bL rfl rfl rfl rfl _ λH1 gY fR nR=>?_;have b6:∀ j,j≠id->H1.get j=G.get j:=λj hj=>(fR j hj).trans (a1 j hj);have c7:G.next<=H1.next:=bL;rw [<- b0] at gY;try simp [go_sem,seval,O,cV,s1,s2,P,<- l,t,d,e9,u,Z,J,e7]
      repeat first|intro _|refine ⟨fY,?_⟩
      refine aU (λb3=>?_) (λb3=>?_)
      .try simp [go_sem] at b3
       try simp [go_sem,seval,O,cV,s1,s2,P,<- l,t,d,e9,u,Z,J,e7]
       unfold dQ;refine ih (N:=L.length) (A:=(a:Int)) (MM:=(s:Int)) (B:=(o:Int)) _ _ ys gY bL cy a s o bL ⟨b4,bL,hL.1,hL.2.1,hL.2.2⟩ d7.symm rfl rfl rfl _ λk H2 K S1 gK fK nK=>?_;have a2:∀ j,j≠id->H2.get j=G.get j:=λj hj=>(fK j hj).trans (b6 j hj);have a7:G.next<=H2.next:=bL;try simp [go_sem,seval,O,cV,s1,s2,P,<- l,t,d,e9,u,Z,J,e7]
       repeat first|intro _|refine ⟨fY,?_⟩
       refine aU (λX=>?_) (λX=>?_)
       .try simp [go_sem] at X
        have b2:k.Nodup:=K.1.nodup_iff.2 b4;have c8:=K.len;have W:Srtd f k o (E - s)/\Srtd f k (E - s) b/\VX k o (E - s) b:=by
         refine ⟨λi j v F S=>?_,λi j v F S=>?_,λi j v F S p4=>?_⟩
         .rw [K.2 i bL,K.2 j bL];exact R.1 i j v F S
         .rw [K.2 i bL,K.2 j bL];exact R.2.1 i j v F S
         .rw [K.2 i bL,K.2 j bL];exact R.2.2 i j v F S p4
        try simp [go_sem,seval,O,cV,s1,s2,P,<- l,t,d,e9,u,Z,J,e7]
        unfold dQ;refine ih (N:=L.length) (A:=(o:Int)) (MM:=((E - s:Nat):Int)) (B:=(b:Int)) _ _ k gK bL (cy.a8 K.1) o (E - s) b bL ⟨b2,bL,W.1,W.2.1,W.2.2⟩ bL rfl rfl rfl _ λz H3 R2 S2 gZ fZ nZ=>?_;have Y:∀ j,j≠id->H3.get j=G.get j:=λj hj=>(fZ j hj).trans (a2 j hj);have U:G.next<=H3.next:=bL;try simp [go_sem,seval,O,cV,s1,s2,P,<- l,t,d,e9,u,Z,J,e7]
        obtain ⟨w1,w2⟩:=a5 K S1 R2 S2;exact hQ z _ w1 w2 gZ Y U
       .try simp [go_sem] at X
        obtain ⟨z,hz⟩:∃ x,x=k:=⟨_,rfl⟩;have R2:Rng k z o b:=by rw [hz];exact Rng.refl _ _ _
        have S2:Srtd f z o b:=λi j v F S=>by
         rw [hz,K.2 i bL,K.2 j bL];rcases bD o (E - s) with h|h
         .rw [(bL:b=E - s)] at S;exact R.1 i j v F S
         .rw [(bL:o=E - s)] at v;exact R.2.1 i j v F S
        have gZ:=gK;rw [<- hz] at gZ;have Y:=a2;have U:=a7;try simp [go_sem,seval,O,cV,s1,s2,P,<- l,t,d,e9,u,Z,J,e7]
        obtain ⟨w1,w2⟩:=a5 K S1 R2 S2;exact hQ z _ w1 w2 gZ Y U
      .try simp [go_sem] at b3
       obtain ⟨k,hk⟩:∃ x,x=ys:=⟨_,rfl⟩;have K:Rng ys k a o:=by rw [hk];exact Rng.refl _ _ _
       have S1:Srtd f k a o:=by
        rw [hk];rcases bD a s with h|h
        .rw [(bL:o=s)];exact hL.1
        .rw [(bL:a=s)];exact hL.2.1
       have gK:=gY;rw [<- hk] at gK;have a2:=b6;have a7:=c7;try simp [go_sem,seval,O,cV,s1,s2,P,<- l,t,d,e9,u,Z,J,e7,gK]
       repeat first|intro _|refine ⟨fY,?_⟩
       refine aU (λX=>?_) (λX=>?_)
       .try simp [go_sem] at X
        have b2:k.Nodup:=K.1.nodup_iff.2 b4;have c8:=K.len;have W:Srtd f k o (E - s)/\Srtd f k (E - s) b/\VX k o (E - s) b:=by
         refine ⟨λi j v F S=>?_,λi j v F S=>?_,λi j v F S p4=>?_⟩
         .rw [K.2 i bL,K.2 j bL];exact R.1 i j v F S
         .rw [K.2 i bL,K.2 j bL];exact R.2.1 i j v F S
         .rw [K.2 i bL,K.2 j bL];exact R.2.2 i j v F S p4
        try simp [go_sem,seval,O,cV,s1,s2,P,<- l,t,d,e9,u,Z,J,e7,gK]
        unfold dQ;refine ih (N:=L.length) (A:=(o:Int)) (MM:=((E - s:Nat):Int)) (B:=(b:Int)) _ _ k gK bL (cy.a8 K.1) o (E - s) b bL ⟨b2,bL,W.1,W.2.1,W.2.2⟩ bL rfl rfl rfl _ λz H3 R2 S2 gZ fZ nZ=>?_;have Y:∀ j,j≠id->H3.get j=G.get j:=λj hj=>(fZ j hj).trans (a2 j hj);have U:G.next<=H3.next:=bL;try simp [go_sem,seval,O,cV,s1,s2,P,<- l,t,d,e9,u,Z,J,e7,gK]
        obtain ⟨w1,w2⟩:=a5 K S1 R2 S2;exact hQ z _ w1 w2 gZ Y U
       .try simp [go_sem] at X
        obtain ⟨z,hz⟩:∃ x,x=k:=⟨_,rfl⟩;have R2:Rng k z o b:=by rw [hz];exact Rng.refl _ _ _
        have S2:Srtd f z o b:=λi j v F S=>by
         rw [hz,K.2 i bL,K.2 j bL];rcases bD o (E - s) with h|h
         .rw [(bL:b=E - s)] at S;exact R.1 i j v F S
         .rw [(bL:o=E - s)] at v;exact R.2.1 i j v F S
        have gZ:=gK;rw [<- hz] at gZ;have Y:=a2;have U:=a7;try simp [go_sem,seval,O,cV,s1,s2,P,<- l,t,d,e9,u,Z,J,e7,gK]
        obtain ⟨w1,w2⟩:=a5 K S1 R2 S2;exact hQ z _ w1 w2 gZ Y U
     .try simp [go_sem] at c9
      have gY:H.get id=some ⟨3,1,ys.map cI,false⟩:=by
       have:ys=L:=by
        rw [b0];rcases bD s m with h|h
        .rw [(bL:E - s=m)];exact (sM bL).2
        .rw [(bL:s=m)];exact (sM bL).1
       rw [this];exact J
      have b6:=a1;have c7:=b1;try simp [go_sem,seval,O,cV,s1,s2,P,<- l,t,d,e9,u,Z,J,e7,gY]
      repeat first|intro _|refine ⟨fY,?_⟩
      refine aU (λb3=>?_) (λb3=>?_)
      .try simp [go_sem] at b3
       try simp [go_sem,seval,O,cV,s1,s2,P,<- l,t,d,e9,u,Z,J,e7,gY]
       unfold dQ;refine ih (N:=L.length) (A:=(a:Int)) (MM:=(s:Int)) (B:=(o:Int)) _ _ ys gY bL cy a s o bL ⟨b4,bL,hL.1,hL.2.1,hL.2.2⟩ d7.symm rfl rfl rfl _ λk H2 K S1 gK fK nK=>?_;have a2:∀ j,j≠id->H2.get j=G.get j:=λj hj=>(fK j hj).trans (b6 j hj);have a7:G.next<=H2.next:=bL;try simp [go_sem,seval,O,cV,s1,s2,P,<- l,t,d,e9,u,Z,J,e7,gY]
       repeat first|intro _|refine ⟨fY,?_⟩
       refine aU (λX=>?_) (λX=>?_)
       .try simp [go_sem] at X
        have b2:k.Nodup:=K.1.nodup_iff.2 b4;have c8:=K.len;have W:Srtd f k o (E - s)/\Srtd f k (E - s) b/\VX k o (E - s) b:=by
         refine ⟨λi j v F S=>?_,λi j v F S=>?_,λi j v F S p4=>?_⟩
         .rw [K.2 i bL,K.2 j bL];exact R.1 i j v F S
         .rw [K.2 i bL,K.2 j bL];exact R.2.1 i j v F S
         .rw [K.2 i bL,K.2 j bL];exact R.2.2 i j v F S p4
        try simp [go_sem,seval,O,cV,s1,s2,P,<- l,t,d,e9,u,Z,J,e7,gY]
        unfold dQ;refine ih (N:=L.length) (A:=(o:Int)) (MM:=((E - s:Nat):Int)) (B:=(b:Int)) _ _ k gK bL (cy.a8 K.1) o (E - s) b bL ⟨b2,bL,W.1,W.2.1,W.2.2⟩ bL rfl rfl rfl _ λz H3 R2 S2 gZ fZ nZ=>?_;have Y:∀ j,j≠id->H3.get j=G.get j:=λj hj=>(fZ j hj).trans (a2 j hj);have U:G.next<=H3.next:=bL;try simp [go_sem,seval,O,cV,s1,s2,P,<- l,t,d,e9,u,Z,J,e7,gY]
        obtain ⟨w1,w2⟩:=a5 K S1 R2 S2;exact hQ z _ w1 w2 gZ Y U
       .try simp [go_sem] at X
        obtain ⟨z,hz⟩:∃ x,x=k:=⟨_,rfl⟩;have R2:Rng k z o b:=by rw [hz];exact Rng.refl _ _ _
        have S2:Srtd f z o b:=λi j v F S=>by
         rw [hz,K.2 i bL,K.2 j bL];rcases bD o (E - s) with h|h
         .rw [(bL:b=E - s)] at S;exact R.1 i j v F S
         .rw [(bL:o=E - s)] at v;exact R.2.1 i j v F S
        have gZ:=gK;rw [<- hz] at gZ;have Y:=a2;have U:=a7;try simp [go_sem,seval,O,cV,s1,s2,P,<- l,t,d,e9,u,Z,J,e7,gY]
        obtain ⟨w1,w2⟩:=a5 K S1 R2 S2;exact hQ z _ w1 w2 gZ Y U
      .try simp [go_sem] at b3
       obtain ⟨k,hk⟩:∃ x,x=ys:=⟨_,rfl⟩;have K:Rng ys k a o:=by rw [hk];exact Rng.refl _ _ _
       have S1:Srtd f k a o:=by
        rw [hk];rcases bD a s with h|h
        .rw [(bL:o=s)];exact hL.1
        .rw [(bL:a=s)];exact hL.2.1
       have gK:=gY;rw [<- hk] at gK;have a2:=b6;have a7:=c7;try simp [go_sem,seval,O,cV,s1,s2,P,<- l,t,d,e9,u,Z,J,e7,gY,gK]
       repeat first|intro _|refine ⟨fY,?_⟩
       refine aU (λX=>?_) (λX=>?_)
       .try simp [go_sem] at X
        have b2:k.Nodup:=K.1.nodup_iff.2 b4;have c8:=K.len;have W:Srtd f k o (E - s)/\Srtd f k (E - s) b/\VX k o (E - s) b:=by
         refine ⟨λi j v F S=>?_,λi j v F S=>?_,λi j v F S p4=>?_⟩
         .rw [K.2 i bL,K.2 j bL];exact R.1 i j v F S
         .rw [K.2 i bL,K.2 j bL];exact R.2.1 i j v F S
         .rw [K.2 i bL,K.2 j bL];exact R.2.2 i j v F S p4
        try simp [go_sem,seval,O,cV,s1,s2,P,<- l,t,d,e9,u,Z,J,e7,gY,gK]
        unfold dQ;refine ih (N:=L.length) (A:=(o:Int)) (MM:=((E - s:Nat):Int)) (B:=(b:Int)) _ _ k gK bL (cy.a8 K.1) o (E - s) b bL ⟨b2,bL,W.1,W.2.1,W.2.2⟩ bL rfl rfl rfl _ λz H3 R2 S2 gZ fZ nZ=>?_;have Y:∀ j,j≠id->H3.get j=G.get j:=λj hj=>(fZ j hj).trans (a2 j hj);have U:G.next<=H3.next:=bL;try simp [go_sem,seval,O,cV,s1,s2,P,<- l,t,d,e9,u,Z,J,e7,gY,gK]
        obtain ⟨w1,w2⟩:=a5 K S1 R2 S2;exact hQ z _ w1 w2 gZ Y U
       .try simp [go_sem] at X
        obtain ⟨z,hz⟩:∃ x,x=k:=⟨_,rfl⟩;have R2:Rng k z o b:=by rw [hz];exact Rng.refl _ _ _
        have S2:Srtd f z o b:=λi j v F S=>by
         rw [hz,K.2 i bL,K.2 j bL];rcases bD o (E - s) with h|h
         .rw [(bL:b=E - s)] at S;exact R.1 i j v F S
         .rw [(bL:o=E - s)] at v;exact R.2.1 i j v F S
        have gZ:=gK;rw [<- hz] at gZ;have Y:=a2;have U:=a7;try simp [go_sem,seval,O,cV,s1,s2,P,<- l,t,d,e9,u,Z,J,e7,gY,gK]
        obtain ⟨w1,w2⟩:=a5 K S1 R2 S2;exact hQ z _ w1 w2 gZ Y U
   .try simp [go_sem] at g5
    obtain ⟨s0,T⟩:∃ x:Nat,x=a:=⟨_,rfl⟩;obtain ⟨r0,u⟩:∃ x:Nat,x=m:=⟨_,rfl⟩;have j3:(a<=s0/\s0<=r0/\r0<=m/\r0<=o/\m<=E - r0/\E - s0<=b/\r0<=E)/\(a<s0->E - s0=b)/\(r0<m->E - r0=m):=bL;try simp [go_sem,seval,O,cV,s1,s2,P,<- l,t,d,T,u]
    repeat first|intro _|refine ⟨fY,?_⟩
    obtain ⟨I8,b8⟩:∃ I8:Nat->dO->AHeap->Prop,∀ (c:Nat) (e:dO) (H:AHeap),I8 c e H↔(∃ s:Nat,∃ r:Nat,(e 0=.own id L.length)/\(e 1=dI a)/\(e 2=dI m)/\(e 3=dI b)/\(e 4=.fn g a3)/\(e 18=dI o)/\(e 19=dI E)/\(e 20=dI s)/\(e 21=dI r)/\(e 22=dI ((E:Int) - 1))/\(s0<=s/\s<=r/\r<=r0)/\(r - s<=c)/\(s0<s->¬ cJ (f (iA L ((E - s:Nat):Int))) (f (iA L ((s - 1:Nat):Int)))<0)/\(r<r0->cJ (f (iA L ((E - 1 - r:Nat):Int))) (f (iA L r))<0)/\(H.get id=some ⟨3,1,L.map cI,false⟩)/\(∀ j,j≠id->H.get j=G.get j)/\(G.next<=H.next)):=⟨λc e H=>_,λ_ _ _=>Iff.rfl⟩;refine tI I8 (λc=>c) (r0) ((b8 _ _ _).2 ⟨(s0),(r0),?_,?_,?_,?_,?_,?_,?_,?_,?_,?_,bL,bL,(by exact λh=>by omega),(by exact λh=>by omega),(by exact O),(by exact λ_ _=>rfl),(by exact aT _)⟩) ?_;iterate 10 (first|omega|(simp [go_sem,seval,O,cV,s1,s2,P,<- l,t,d,T,u]<;>omega))
    intro c e H g1;obtain ⟨s,r,d5,d4,d3,d2,d1,c6,c5,c4,c3,c2,hi,hj,k1,k2,J,a1,b1⟩:=(b8 _ _ _).1 g1;have Z:=xa8 d5 d4 d3 d2 d1 c6 c5 c4 c3 c2;try simp [go_sem,seval,O,cV,s1,s2,P,<- l,t,d,T,u,Z,J]
    refine aU (λa4=>?_) (λa4=>?_)
    .try simp [go_sem] at a4
     obtain ⟨h,hh⟩:=cY ((s+r) / 2);obtain ⟨pc,f7⟩:∃ x:Nat,x=E - 1 - h:=⟨_,rfl⟩;have v:pc<L.length:=bL;have F:h<L.length:=bL;have V:(((s:Int)+(r:Int)) / 2)=(h:Int):=bL;have hu:=zW (bL:0<=(s:Int)+(r:Int)) (bL:(s:Int)+(r:Int)<=18446744073709551615);have e8:(E:Int) - 1 - h=(pc:Int):=bL;obtain ⟨c0,g2,b5⟩:=e3 pc h v F;try simp [go_sem,seval,O,cV,s1,s2,P,<- l,t,d,T,u,Z,J,a4,<- hh,V,e8,aA v,aA F]
     repeat first|intro _|refine ⟨fY,?_⟩
     refine aJ (g2) ((by first|rfl|(simp [go_sem,<- List.map_take,<- List.map_drop,O,cV,s1,s2,P,<- l,t,d,T,u,Z,J,a4,<- hh,V,e8,aA v,aA F];done))) ?_;try simp [go_sem,seval,O,cV,s1,s2,P,<- l,t,d,T,u,Z,J,a4,<- hh,V,e8,aA v,aA F]
     repeat first|intro _|refine ⟨fY,?_⟩
     refine aU (λd0=>?_) (λd0=>?_)
     .try simp [go_sem] at d0
      obtain ⟨i',a0⟩:∃ i':Nat,i'=h+1:=⟨_,rfl⟩;obtain ⟨j',I⟩:∃ j':Nat,j'=r:=⟨_,rfl⟩;have a9:s0<i'->¬ cJ (f (iA L ((E - i':Nat):Int))) (f (iA L ((i' - 1:Nat):Int)))<0:=λ_=>by rw [(bL:i' - 1=h),(bL:E - i'=pc)];exact λw=>by have:=b5.2 w;omega
      have a8:j'<r0->cJ (f (iA L ((E - 1 - j':Nat):Int))) (f (iA L j'))<0:=λq=>by rw [I];exact k2 bL
      try simp [go_sem,seval,O,cV,s1,s2,P,<- l,t,d,T,u,Z,J,a4,<- hh,V,e8,aA v,aA F,a0,I]
      repeat first|intro _|refine ⟨fY,?_⟩
      refine gU (c - 1) bL ((b8 _ _ _).2 ⟨(i'),(j'),?_,?_,?_,?_,?_,?_,?_,?_,?_,?_,bL,bL,(by exact a9),(by exact a8),(by first|exact J|(simp [go_sem];exact J)),(by first|exact a1|(intro j I;simp [go_sem];exact a1 j I)),(by first|exact b1|(simp [go_sem];omega))⟩)<;>first|omega|(simp [go_sem,seval,O,cV,s1,s2,P,<- l,t,d,T,u,Z,J,a4,<- hh,V,e8,aA v,aA F,a0,I]<;>omega)
     .try simp [go_sem] at d0
      obtain ⟨i',a0⟩:∃ i':Nat,i'=s:=⟨_,rfl⟩;obtain ⟨j',I⟩:∃ j':Nat,j'=h:=⟨_,rfl⟩;have a9:s0<i'->¬ cJ (f (iA L ((E - i':Nat):Int))) (f (iA L ((i' - 1:Nat):Int)))<0:=λq=>by rw [a0];exact k1 bL
      have a8:j'<r0->cJ (f (iA L ((E - 1 - j':Nat):Int))) (f (iA L j'))<0:=λq=>by rw [I,<- f7];exact b5.1 bL
      try simp [go_sem,seval,O,cV,s1,s2,P,<- l,t,d,T,u,Z,J,a4,<- hh,V,e8,aA v,aA F,a0,I]
      refine gU (c - 1) bL ((b8 _ _ _).2 ⟨(i'),(j'),?_,?_,?_,?_,?_,?_,?_,?_,?_,?_,bL,bL,(by exact a9),(by exact a8),(by first|exact J|(simp [go_sem];exact J)),(by first|exact a1|(intro j I;simp [go_sem];exact a1 j I)),(by first|exact b1|(simp [go_sem];omega))⟩)<;>first|omega|(simp [go_sem,seval,O,cV,s1,s2,P,<- l,t,d,T,u,Z,J,a4,<- hh,V,e8,aA v,aA F,a0,I]<;>omega)
    .try simp [go_sem] at a4
     have f6:r=s:=bL;have C:Cut f L a m b s (E - s):=⟨M.nd,bL,M.s1,M.s2,M.am,λq1 q2=>k1 bL,λq1 q2=>by
      have:=k2 bL;rw [f6,(bL:E - 1 - s=E - s - 1)] at this;exact this⟩
     obtain ⟨ys,b0⟩:∃ y,y=iU L s m (E - s):=⟨_,rfl⟩;have d7:ys.length=L.length:=by rw [b0];exact C.W.len
     have b4:ys.Nodup:=by rw [b0];exact C.W.1.nodup_iff.2 M.nd
     have cy:CmpBy g a3 f ys:=by rw [b0];exact cg.a8 C.W.1
     have hL:=C.left;have R:=C.right;have a5:=@Cut.done f L a m b s (E - s) C;rw [<- b0,(bL:s+(E - s - m)=o)] at hL R;rw [<- b0,(bL:s+(E - s - m)=o)] at a5;have e7:(E:Int) - s=((E - s:Nat):Int):=bL;try simp [go_sem,seval,O,cV,s1,s2,P,<- l,t,d,T,u,Z,J,e7]
     repeat first|intro _|refine ⟨fY,?_⟩
     refine aU (λc9=>?_) (λc9=>?_)
     .try simp [go_sem] at c9
      have b9:s<m/\m<E - s:=bL;try simp [go_sem,seval,O,cV,s1,s2,P,<- l,t,d,T,u,Z,J,e7]
      unfold dQ;refine Ip (N:=L.length) (A:=(s:Int)) (M:=(m:Int)) (B:=((E - s:Nat):Int)) _ _ L J hl g a3 s m (E - s) b9.1 b9.2 bL rfl rfl rfl rfl _ λH1 gY fR nR=>?_;have b6:∀ j,j≠id->H1.get j=G.get j:=λj hj=>(fR j hj).trans (a1 j hj);have c7:G.next<=H1.next:=bL;rw [<- b0] at gY;try simp [go_sem,seval,O,cV,s1,s2,P,<- l,t,d,T,u,Z,J,e7]
      repeat first|intro _|refine ⟨fY,?_⟩
      refine aU (λb3=>?_) (λb3=>?_)
      .try simp [go_sem] at b3
       try simp [go_sem,seval,O,cV,s1,s2,P,<- l,t,d,T,u,Z,J,e7]
       unfold dQ;refine ih (N:=L.length) (A:=(a:Int)) (MM:=(s:Int)) (B:=(o:Int)) _ _ ys gY bL cy a s o bL ⟨b4,bL,hL.1,hL.2.1,hL.2.2⟩ d7.symm rfl rfl rfl _ λk H2 K S1 gK fK nK=>?_;have a2:∀ j,j≠id->H2.get j=G.get j:=λj hj=>(fK j hj).trans (b6 j hj);have a7:G.next<=H2.next:=bL;try simp [go_sem,seval,O,cV,s1,s2,P,<- l,t,d,T,u,Z,J,e7]
       repeat first|intro _|refine ⟨fY,?_⟩
       refine aU (λX=>?_) (λX=>?_)
       .try simp [go_sem] at X
        have b2:k.Nodup:=K.1.nodup_iff.2 b4;have c8:=K.len;have W:Srtd f k o (E - s)/\Srtd f k (E - s) b/\VX k o (E - s) b:=by
         refine ⟨λi j v F S=>?_,λi j v F S=>?_,λi j v F S p4=>?_⟩
         .rw [K.2 i bL,K.2 j bL];exact R.1 i j v F S
         .rw [K.2 i bL,K.2 j bL];exact R.2.1 i j v F S
         .rw [K.2 i bL,K.2 j bL];exact R.2.2 i j v F S p4
        try simp [go_sem,seval,O,cV,s1,s2,P,<- l,t,d,T,u,Z,J,e7]
        unfold dQ;refine ih (N:=L.length) (A:=(o:Int)) (MM:=((E - s:Nat):Int)) (B:=(b:Int)) _ _ k gK bL (cy.a8 K.1) o (E - s) b bL ⟨b2,bL,W.1,W.2.1,W.2.2⟩ bL rfl rfl rfl _ λz H3 R2 S2 gZ fZ nZ=>?_;have Y:∀ j,j≠id->H3.get j=G.get j:=λj hj=>(fZ j hj).trans (a2 j hj);have U:G.next<=H3.next:=bL;try simp [go_sem,seval,O,cV,s1,s2,P,<- l,t,d,T,u,Z,J,e7]
        obtain ⟨w1,w2⟩:=a5 K S1 R2 S2;exact hQ z _ w1 w2 gZ Y U
       .try simp [go_sem] at X
        obtain ⟨z,hz⟩:∃ x,x=k:=⟨_,rfl⟩;have R2:Rng k z o b:=by rw [hz];exact Rng.refl _ _ _
        have S2:Srtd f z o b:=λi j v F S=>by
         rw [hz,K.2 i bL,K.2 j bL];rcases bD o (E - s) with h|h
         .rw [(bL:b=E - s)] at S;exact R.1 i j v F S
         .rw [(bL:o=E - s)] at v;exact R.2.1 i j v F S
        have gZ:=gK;rw [<- hz] at gZ;have Y:=a2;have U:=a7;try simp [go_sem,seval,O,cV,s1,s2,P,<- l,t,d,T,u,Z,J,e7]
        obtain ⟨w1,w2⟩:=a5 K S1 R2 S2;exact hQ z _ w1 w2 gZ Y U
      .try simp [go_sem] at b3
       obtain ⟨k,hk⟩:∃ x,x=ys:=⟨_,rfl⟩;have K:Rng ys k a o:=by rw [hk];exact Rng.refl _ _ _
       have S1:Srtd f k a o:=by
        rw [hk];rcases bD a s with h|h
        .rw [(bL:o=s)];exact hL.1
        .rw [(bL:a=s)];exact hL.2.1
       have gK:=gY;rw [<- hk] at gK;have a2:=b6;have a7:=c7;try simp [go_sem,seval,O,cV,s1,s2,P,<- l,t,d,T,u,Z,J,e7,gK]
       repeat first|intro _|refine ⟨fY,?_⟩
       refine aU (λX=>?_) (λX=>?_)
       .try simp [go_sem] at X
        have b2:k.Nodup:=K.1.nodup_iff.2 b4;have c8:=K.len;have W:Srtd f k o (E - s)/\Srtd f k (E - s) b/\VX k o (E - s) b:=by
         refine ⟨λi j v F S=>?_,λi j v F S=>?_,λi j v F S p4=>?_⟩
         .rw [K.2 i bL,K.2 j bL];exact R.1 i j v F S
         .rw [K.2 i bL,K.2 j bL];exact R.2.1 i j v F S
         .rw [K.2 i bL,K.2 j bL];exact R.2.2 i j v F S p4
        try simp [go_sem,seval,O,cV,s1,s2,P,<- l,t,d,T,u,Z,J,e7,gK]
        unfold dQ;refine ih (N:=L.length) (A:=(o:Int)) (MM:=((E - s:Nat):Int)) (B:=(b:Int)) _ _ k gK bL (cy.a8 K.1) o (E - s) b bL ⟨b2,bL,W.1,W.2.1,W.2.2⟩ bL rfl rfl rfl _ λz H3 R2 S2 gZ fZ nZ=>?_;have Y:∀ j,j≠id->H3.get j=G.get j:=λj hj=>(fZ j hj).trans (a2 j hj);have U:G.next<=H3.next:=bL;try simp [go_sem,seval,O,cV,s1,s2,P,<- l,t,d,T,u,Z,J,e7,gK]
        obtain ⟨w1,w2⟩:=a5 K S1 R2 S2;exact hQ z _ w1 w2 gZ Y U
       .try simp [go_sem] at X
        obtain ⟨z,hz⟩:∃ x,x=k:=⟨_,rfl⟩;have R2:Rng k z o b:=by rw [hz];exact Rng.refl _ _ _
        have S2:Srtd f z o b:=λi j v F S=>by
         rw [hz,K.2 i bL,K.2 j bL];rcases bD o (E - s) with h|h
         .rw [(bL:b=E - s)] at S;exact R.1 i j v F S
         .rw [(bL:o=E - s)] at v;exact R.2.1 i j v F S
        have gZ:=gK;rw [<- hz] at gZ;have Y:=a2;have U:=a7;try simp [go_sem,seval,O,cV,s1,s2,P,<- l,t,d,T,u,Z,J,e7,gK]
        obtain ⟨w1,w2⟩:=a5 K S1 R2 S2;exact hQ z _ w1 w2 gZ Y U
     .try simp [go_sem] at c9
      have gY:H.get id=some ⟨3,1,ys.map cI,false⟩:=by
       have:ys=L:=by
        rw [b0];rcases bD s m with h|h
        .rw [(bL:E - s=m)];exact (sM bL).2
        .rw [(bL:s=m)];exact (sM bL).1
       rw [this];exact J
      have b6:=a1;have c7:=b1;try simp [go_sem,seval,O,cV,s1,s2,P,<- l,t,d,T,u,Z,J,e7,gY]
      repeat first|intro _|refine ⟨fY,?_⟩
      refine aU (λb3=>?_) (λb3=>?_)
      .try simp [go_sem] at b3
       try simp [go_sem,seval,O,cV,s1,s2,P,<- l,t,d,T,u,Z,J,e7,gY]
       unfold dQ;refine ih (N:=L.length) (A:=(a:Int)) (MM:=(s:Int)) (B:=(o:Int)) _ _ ys gY bL cy a s o bL ⟨b4,bL,hL.1,hL.2.1,hL.2.2⟩ d7.symm rfl rfl rfl _ λk H2 K S1 gK fK nK=>?_;have a2:∀ j,j≠id->H2.get j=G.get j:=λj hj=>(fK j hj).trans (b6 j hj);have a7:G.next<=H2.next:=bL;try simp [go_sem,seval,O,cV,s1,s2,P,<- l,t,d,T,u,Z,J,e7,gY]
       repeat first|intro _|refine ⟨fY,?_⟩
       refine aU (λX=>?_) (λX=>?_)
       .try simp [go_sem] at X
        have b2:k.Nodup:=K.1.nodup_iff.2 b4;have c8:=K.len;have W:Srtd f k o (E - s)/\Srtd f k (E - s) b/\VX k o (E - s) b:=by
         refine ⟨λi j v F S=>?_,λi j v F S=>?_,λi j v F S p4=>?_⟩
         .rw [K.2 i bL,K.2 j bL];exact R.1 i j v F S
         .rw [K.2 i bL,K.2 j bL];exact R.2.1 i j v F S
         .rw [K.2 i bL,K.2 j bL];exact R.2.2 i j v F S p4
        try simp [go_sem,seval,O,cV,s1,s2,P,<- l,t,d,T,u,Z,J,e7,gY]
        unfold dQ;refine ih (N:=L.length) (A:=(o:Int)) (MM:=((E - s:Nat):Int)) (B:=(b:Int)) _ _ k gK bL (cy.a8 K.1) o (E - s) b bL ⟨b2,bL,W.1,W.2.1,W.2.2⟩ bL rfl rfl rfl _ λz H3 R2 S2 gZ fZ nZ=>?_;have Y:∀ j,j≠id->H3.get j=G.get j:=λj hj=>(fZ j hj).trans (a2 j hj);have U:G.next<=H3.next:=bL;try simp [go_sem,seval,O,cV,s1,s2,P,<- l,t,d,T,u,Z,J,e7,gY]
        obtain ⟨w1,w2⟩:=a5 K S1 R2 S2;exact hQ z _ w1 w2 gZ Y U
       .try simp [go_sem] at X
        obtain ⟨z,hz⟩:∃ x,x=k:=⟨_,rfl⟩;have R2:Rng k z o b:=by rw [hz];exact Rng.refl _ _ _
        have S2:Srtd f z o b:=λi j v F S=>by
         rw [hz,K.2 i bL,K.2 j bL];rcases bD o (E - s) with h|h
         .rw [(bL:b=E - s)] at S;exact R.1 i j v F S
         .rw [(bL:o=E - s)] at v;exact R.2.1 i j v F S
        have gZ:=gK;rw [<- hz] at gZ;have Y:=a2;have U:=a7;try simp [go_sem,seval,O,cV,s1,s2,P,<- l,t,d,T,u,Z,J,e7,gY]
        obtain ⟨w1,w2⟩:=a5 K S1 R2 S2;exact hQ z _ w1 w2 gZ Y U
      .try simp [go_sem] at b3
       obtain ⟨k,hk⟩:∃ x,x=ys:=⟨_,rfl⟩;have K:Rng ys k a o:=by rw [hk];exact Rng.refl _ _ _
       have S1:Srtd f k a o:=by
        rw [hk];rcases bD a s with h|h
        .rw [(bL:o=s)];exact hL.1
        .rw [(bL:a=s)];exact hL.2.1
       have gK:=gY;rw [<- hk] at gK;have a2:=b6;have a7:=c7;try simp [go_sem,seval,O,cV,s1,s2,P,<- l,t,d,T,u,Z,J,e7,gY,gK]
       repeat first|intro _|refine ⟨fY,?_⟩
       refine aU (λX=>?_) (λX=>?_)
       .try simp [go_sem] at X
        have b2:k.Nodup:=K.1.nodup_iff.2 b4;have c8:=K.len;have W:Srtd f k o (E - s)/\Srtd f k (E - s) b/\VX k o (E - s) b:=by
         refine ⟨λi j v F S=>?_,λi j v F S=>?_,λi j v F S p4=>?_⟩
         .rw [K.2 i bL,K.2 j bL];exact R.1 i j v F S
         .rw [K.2 i bL,K.2 j bL];exact R.2.1 i j v F S
         .rw [K.2 i bL,K.2 j bL];exact R.2.2 i j v F S p4
        try simp [go_sem,seval,O,cV,s1,s2,P,<- l,t,d,T,u,Z,J,e7,gY,gK]
        unfold dQ;refine ih (N:=L.length) (A:=(o:Int)) (MM:=((E - s:Nat):Int)) (B:=(b:Int)) _ _ k gK bL (cy.a8 K.1) o (E - s) b bL ⟨b2,bL,W.1,W.2.1,W.2.2⟩ bL rfl rfl rfl _ λz H3 R2 S2 gZ fZ nZ=>?_;have Y:∀ j,j≠id->H3.get j=G.get j:=λj hj=>(fZ j hj).trans (a2 j hj);have U:G.next<=H3.next:=bL;try simp [go_sem,seval,O,cV,s1,s2,P,<- l,t,d,T,u,Z,J,e7,gY,gK]
        obtain ⟨w1,w2⟩:=a5 K S1 R2 S2;exact hQ z _ w1 w2 gZ Y U
       .try simp [go_sem] at X
        obtain ⟨z,hz⟩:∃ x,x=k:=⟨_,rfl⟩;have R2:Rng k z o b:=by rw [hz];exact Rng.refl _ _ _
        have S2:Srtd f z o b:=λi j v F S=>by
         rw [hz,K.2 i bL,K.2 j bL];rcases bD o (E - s) with h|h
         .rw [(bL:b=E - s)] at S;exact R.1 i j v F S
         .rw [(bL:o=E - s)] at v;exact R.2.1 i j v F S
        have gZ:=gK;rw [<- hz] at gZ;have Y:=a2;have U:=a7;try simp [go_sem,seval,O,cV,s1,s2,P,<- l,t,d,T,u,Z,J,e7,gY,gK]
        obtain ⟨w1,w2⟩:=a5 K S1 R2 S2;exact hQ z _ w1 w2 gZ Y U
theorem zF (g:FuncId)(caps:Xa2)(hc:D.N caps=true)(f:Int->Xa0):∀ n,abY g caps f n
 | 0=>λG id xs hg hl cg a m b hnb M=>by have:=M.le;omega
 | n+1=>Kh g caps hc f n (zF g caps hc f n)
def LowAt (l:Xa0)(t:Nat):Prop:=∀ p q:Nat,p<t->t<=q->q<l.length->iA l p<iA l q
theorem LowAt.W {l m:Xa0}{a b t:Nat}(hn:l.Nodup)(h:LowAt l t)(R:Rng l m a b)(hb:b<=l.length)(ht:t<=a\/b<=t):LowAt m t:=λp q h1 h2 h3=>by
 have hl:=R.len;have key:∀ i:Nat,i<l.length->∃ j:Nat,iA m i=iA l j/\j<l.length/\(i<t↔j<t):=λi hi=>by
  by_cases hc:a<=i/\i<b
  .obtain ⟨j,hj,e⟩:=R.from hn hb hc.1 hc.2;exact ⟨j,e,bL,bL⟩
  .exact ⟨i,R.2 i bL,hi,Iff.rfl⟩
 obtain ⟨x,ex,x1,x2⟩:=key p bL;obtain ⟨y,ey,y1,y2⟩:=key q bL;rw [ex,ey];exact h x y bL bL y1
theorem Srtd.W {f:Int->Xa0}{l m:Xa0}{a b c d:Nat}(h:Srtd f l c d)(R:Rng l m a b)(hd:d<=a\/b<=c):Srtd f m c d:=λi j h1 h2 h3=>by
 rw [R.2 i bL,R.2 j bL];exact h i j h1 h2 h3
structure Blks (f:Int->Xa0) (xs l:Xa0) (s k:Nat):Prop where
 pm:l.Perm xs
 dT:∀ j:Nat,j<k->Srtd f l (j * (2 * s)) (j * (2 * s)+2 * s)
 one:∀ j:Nat,2 * k<=j->Srtd f l (j * s) (min (j * s+s) l.length)
 am:∀ j:Nat,LowAt l (j * (2 * s))/\(2 * k<=j->LowAt l (j * s))
theorem Blks.next {f:Int->Xa0}{xs l m:Xa0}{s k:Nat}(o:xs.Nodup)(h:Blks f xs l s k)(r:0<s)(n:k * (2 * s)+2 * s<=l.length)(R:Rng l m (k * (2 * s)) (k * (2 * s)+2 * s))(S:Srtd f m (k * (2 * s)) (k * (2 * s)+2 * s)):Blks f xs m s (k+1):=by
 have d:l.Nodup:=h.pm.nodup_iff.2 o;have p:=R.len;have c:∀ {i j:Nat},i<j->i * (2 * s)+2 * s<=j * (2 * s):=λ {i j} q=>by
  have:=c9 (2 * s) (bL:i+1<=j);rw [Nat.add_mul,Aw] at this;exact this
 have a:∀ {j:Nat},2 * (k+1)<=j->k * (2 * s)+2 * s<=j * s:=λ {j} b=>by
  have:=c9 s b;have e:2 * (k+1) * s=k * (2 * s)+2 * s:=by rw [sG 2,CD,Nat.add_mul,Aw]
  omega
 refine ⟨R.1.trans h.pm,λj b=>?_,λj b=>?_,λj=>⟨?_,λb=>?_⟩⟩
 .by_cases g:j<k
  .exact (h.dT j g).W R (.inl (c g))
  .rw [(bL:j=k)];exact S
 .rw [p];exact (h.one j bL).W R (.inr (a b))
 .refine (h.am j).1.W d R n ?_;by_cases g:j<=k
  .exact .inl (c9 _ g)
  .exact .inr (c bL)
 .exact ((h.am j).2 bL).W d R n (.inr (a b))
theorem Blks.c5 {f:Int->Xa0}{xs l m:Xa0}{s k:Nat}(r:xs.Nodup)(h:Blks f xs l s k)(u:0<s)(w:k * (2 * s)<=l.length/\l.length<k * (2 * s)+2 * s)(R:Rng l m (k * (2 * s)) l.length)(S:Srtd f m (k * (2 * s)) l.length):Blks f xs m (2 * s) 0:=by
 have g:l.Nodup:=h.pm.nodup_iff.2 r;have v:=R.len;have a:∀ {i j:Nat},i<j->i * (2 * s)+2 * s<=j * (2 * s):=λ {i j} t=>by
  have:=c9 (2 * s) (bL:i+1<=j);rw [Nat.add_mul,Aw] at this;exact this
 have n:∀ j:Nat,LowAt m (j * (2 * s)):=λj=>by
  by_cases d:j<=k
  .exact (h.am j).1.W g R (aT _) (.inl (c9 _ d))
  .have:=a (Nat.lt_of_not_le d);exact λp q c b e=>by omega
 refine ⟨R.1.trans h.pm,λj o=>by omega,λj _=>?_,λj=>⟨?_,λ_=>n j⟩⟩
 .by_cases d:j<k
  .have:=(h.dT j d).W R (.inl (a d));exact λp q c b e=>this p q c b bL
  .by_cases o:j=k
   .subst o;exact λp q c b e=>S p q c b bL
   .have:=a (bL:k<j);exact λp q c b e=>by omega
 .have:=n (2 * j);rw [show 2 * j * (2 * s)=j * (2 * (2 * s)) by rw [sG 2 j,CD]] at this;exact this
theorem Blks.dp {f:Int->Xa0}{xs l:Xa0}{s k e:Nat}(d:xs.Nodup)(h:Blks f xs l s k)(n:0<s)(q:k * (2 * s)+s<e)(p:e<=l.length)(o:e<=k * (2 * s)+2 * s):Mrg f l (k * (2 * s)) (k * (2 * s)+s) e:=by
 have g:2 * k * s=k * (2 * s):=by rw [sG 2 k,CD]
 have r:(2 * k+1) * s=k * (2 * s)+s:=by rw [Nat.add_mul,g,Aw]
 refine ⟨h.pm.nodup_iff.2 d,bL,λi j c a b=>?_,λi j c a b=>?_,λi j c a b m=>?_⟩
 .exact h.one (2 * k) (aT _) i j bL a bL
 .exact h.one (2 * k+1) bL i j bL a bL
 .exact (h.am (2 * k+1)).2 bL i j bL bL bL
theorem Yd {f:Int->Xa0}{l:Xa0}{n:Nat}(d:l.Perm (oF n))(S:Srtd f l 0 l.length):l=yP f (λ_=>true) n:=by
 refine Qd (cA.2 λi j e c b=>?_) (BR n).1 λx=>?_
 .have:=S i j (dN i) b c;rwa [jU e,jU c] at this
 .rw [d.mem_iff,(BR n).2];unfold oF;rw [aS];constructor
  .rintro ⟨k,a,rfl⟩;exact ⟨k,bN.1 a,rfl,rfl⟩
  .rintro ⟨k,a,rfl,_⟩;exact ⟨k,bN.2 a,rfl⟩
theorem Ht {n k:Nat}(a:k<n):iA (oF n) k=(k:Int):=by
 unfold iA oF;simp [a]
theorem Rs (G:AHeap)(id:Nat)(n:Nat)(hg:G.get id=some ⟨3,1,(oF n).map cI,false⟩)(hl:n<=100000)(g:FuncId)(a:Xa2)(I:D.N a=true)(f:Int->Xa0)(cg:CmpBy g a f (oF n)){A:Int}(eA:A=n)(Q:D->AHeap->Prop)
  (hQ:∀ H',H'.get id=some ⟨3,1,(yP f (λ_=>true) n).map cI,false⟩->(∀ j,j≠id->H'.get j=G.get j)->G.next<=H'.next->Q (.tup []) H'):ACalls prog 184 [.own id n,dI A,.fn g a] G Q:=by
 subst eA;have T:(oF n).length=n:=by simp [oF]
 have o:(oF n).Nodup:=kW.2 (List.nodup_range.imp λh e=>h bL);refine (Tz.c0 func184 rfl ?_);have Y:=wa hg I;refine wv (h:=bA (λk e H=>∃ t:Xa0,(e 0=.own id n/\e 1=dI n/\e 2=.fn g a/\e 6=dI 20/\e 7=dI ((k:Int) * 20)/\e 8=dI ((k:Int) * 20+20))/\(k * 20<=n)/\(t.Perm (oF n))/\(∀ j:Nat,j<k->Srtd f t (j * 20) (j * 20+20))/\(∀ j:Nat,LowAt t (j * 20))/\(∀ p:Nat,k * 20<=p->iA t p=iA (oF n) p)/\(H.get id=some ⟨3,1,t.map cI,false⟩)/\(∀ j,j≠id->H.get j=G.get j)/\(G.next<=H.next)) (λk=>n - k * 20) 0 ⟨(oF n),wg,bL,(by exact List.Perm.refl _),(by exact λj l=>by omega),(by exact λj p q h1 h2 h3=>by rw [Ht bL,Ht bL];omega),(by exact λp _=>rfl),(by exact hg),(by exact λ_ _=>rfl),(by exact aT _)⟩ λI0 b5 k e H b3=>?_);obtain ⟨t,E0,hk,w,a4,W,V,hH,a9,b8⟩:=b3;have b7:t.length=n:=by rw [w.length_eq,T]
 have u:t.Nodup:=w.nodup_iff.2 o;have cy:=cg.a8 w;have a1:∀ e:Nat,e<=n->Asc t (k * 20) e:=λe he i j F E p3=>by rw [V i F,V j bL,Ht bL,Ht bL];omega
 have Y:=xa1 Y E0 hH;refine dD (λh2=>?_) λh2=>?_
 .have Y:=wa Y h2;refine wv (h:=?_);unfold dQ;refine Cw (N:=n) (A:=(k:Int) * 20) (B:=(k:Int) * 20+20) _ _ t hH bL u g a I f cy (k * 20) (k * 20+20) bL bL (a1 _ bL) bL bL bL _ λC z m S1 r fR nR=>?_;have a0:=m.len;have d:∀ j,j≠id->z.get j=G.get j:=λj l=>(fR j l).trans (a9 j l);have b:G.next<=z.next:=bL;have a6:=m.1.trans w;have a3:∀ j:Nat,j<k+1->Srtd f C (j * 20) (j * 20+20):=λj l=>by
   by_cases I:j<k
   .exact (a4 j I).W m (.inl bL)
   .rw [(bL:j=k)];exact S1
  have a8:∀ j:Nat,LowAt C (j * 20):=λj=>(W j).W u m bL bL;have a5:∀ p:Nat,(k+1) * 20<=p->iA C p=iA (oF n) p:=λp hp=>by rw [m.2 p bL];exact V p bL
  exact wp (h:=wx b5 (k+1) ⟨C,wg,bL,(by exact a6),(by exact a3),(by exact a8),(by exact a5),(by first|exact r|(simp [go_sem];exact r)),(by exact d),(by exact b)⟩)
 .refine wv (h:=?_);unfold dQ;refine Cw (N:=n) (A:=(k:Int) * 20) (B:=(n:Int)) _ _ t hH bL u g a I f cy (k * 20) n bL bL (a1 _ bL) bL bL rfl _ λC z m S1 r fR nR=>?_;have a0:=m.len;have d:∀ j,j≠id->z.get j=G.get j:=λj l=>(fR j l).trans (a9 j l);have b:G.next<=z.next:=bL;have B0:Blks f (oF n) C 20 0:=⟨m.1.trans w,λj l=>by omega,λj _=>by
   by_cases I:j<k
   .have:=(a4 j I).W m (.inl bL);exact λp q F E p3=>this p q F E bL
   .by_cases l:j=k
    .subst l;exact λp q F E p3=>S1 p q F E bL
    .exact λp q F E p3=>by omega,λj=>⟨by have:=(W (2 * j)).W u m bL bL;rw [(bL:2 * j * 20=j * (2 * 20))] at this;exact this,λ_=>(W j).W u m bL bL⟩⟩
  refine wv (h:=bA (λc e H=>∃ s:Nat,∃ vs:Xa0,(e 0=.own id n/\e 1=dI n/\e 2=.fn g a/\e 6=dI s)/\(c=n - s)/\(0<s/\s<=200000)/\(Blks f (oF n) vs s 0)/\(H.get id=some ⟨3,1,vs.map cI,false⟩)/\(∀ j,j≠id->H.get j=G.get j)/\(G.next<=H.next)) (λc=>c) (n - 20) ⟨20,C,wg,(by rfl),bL,(by exact B0),(by exact r),(by exact d),(by exact b)⟩ λI2 b0 c e H b2=>?_);obtain ⟨s,vs,E2,c0,v,L,Z,P,O⟩:=b2;have Y:=xa1 Y E2 Z;refine dD (λh7=>?_) λh7=>?_
  .have Y:=wa Y h7;refine wp (h:=bA (λc2 e H=>∃ M:Nat,∃ X:Nat,∃ S:Xa0,(e 0=.own id n/\e 1=dI n/\e 2=.fn g a/\e 6=dI s/\e 7=dI X/\e 8=dI ((X:Int)+2 * s))/\(c2=n - X)/\(X<=n)/\(X=M * (2 * s))/\(Blks f (oF n) S s M)/\(H.get id=some ⟨3,1,S.map cI,false⟩)/\(∀ j,j≠id->H.get j=G.get j)/\(G.next<=H.next)) (λc2=>c2) n ⟨0,0,vs,wg,(by simp),bL,(by simp),(by exact L),(by exact Z),(by exact P),(by exact O)⟩ λI4 b4 c2 e H b1=>?_);obtain ⟨M,X,S,E4,b9,c1,J,R,K,y,a7⟩:=b1;have U:S.length=n:=by rw [R.pm.length_eq,T]
   have cw:=cg.a8 R.pm;have Y:=xa1 Y E4 K;refine dD (λh9=>?_) λh9=>?_
   .have hlt:X+2 * s<=n:=bL;have Y:=wa Y h9;refine wp (h:=?_);unfold dQ;refine zF g a I f _ (N:=n) (A:=(X:Int)) (MM:=(X:Int)+s) (B:=(X:Int)+2 * s) _ _ S K bL cw X (X+s) (X+2 * s) (aT _) (by rw [J];exact R.dp o v.1 bL bL bL) bL rfl bL bL _ λC z m S1 r fR nR=>?_;have d:∀ j,j≠id->z.get j=G.get j:=λj l=>(fR j l).trans (y j l);have b:G.next<=z.next:=bL;have a0:=m.len;have B3:Blks f (oF n) C s (M+1):=R.next o v.1 bL (by rw [<- J];exact m) (by rw [<- J];exact S1);exact wp (h:=wx b4 (n - (X+2 * s)) ⟨(M+1),(X+2 * s),C,wg,(by rfl),bL,(by rw [Nat.add_mul,Aw,<- J]),(by exact B3),(by first|exact r|(simp [go_sem];exact r)),(by exact d),(by exact b)⟩)
   .refine jH (λb6=>?_) λb6=>?_
    .refine wv (h:=?_);unfold dQ;refine zF g a I f _ (N:=n) (A:=(X:Int)) (MM:=(X:Int)+s) (B:=(n:Int)) _ _ S K bL cw X (X+s) n (aT _) (by rw [J];exact R.dp o v.1 bL bL bL) bL rfl bL rfl _ λv2 z m S1 r fR nR=>?_;have d:∀ j,j≠id->z.get j=G.get j:=λj l=>(fR j l).trans (y j l);have b:G.next<=z.next:=bL;have B4:Blks f (oF n) v2 (2 * s) 0:=R.c5 o v.1 bL (by rw [<- J,U];exact m) (by rw [<- J,U];exact S1);exact wp (h:=wx b0 (n - 2 * s) ⟨(2 * s),v2,wg,(by rfl),bL,(by exact B4),(by first|exact r|(simp [go_sem];exact r)),(by exact d),(by exact b)⟩)
    .obtain ⟨v2,a2⟩:∃ x,x=S:=⟨_,rfl⟩;have B4:Blks f (oF n) v2 (2 * s) 0:=by
      rw [a2];exact R.c5 o v.1 bL (Rng.refl _ _ _) (by
       rw [<- J,U];have h1:=R.one (2 * M) (aT _);rw [show 2 * M * s=X by rw [J,sG 2 M,CD]] at h1;exact λp q F E p3=>h1 p q F E bL)
     have r:H.get id=some ⟨3,1,v2.map cI,false⟩:=by rw [a2];exact K
     have d:=y;have b:=a7;exact wp (h:=wx b0 (n - 2 * s) ⟨(2 * s),v2,wg,(by rfl),bL,(by exact B4),(by first|exact r|(simp [go_sem];exact r)),(by exact d),(by exact b)⟩)
  .have hvl:vs.length=n:=by rw [L.pm.length_eq,T]
   have hE:vs=yP f (λ_=>true) n:=Yd L.pm (λp q F E p3=>L.one 0 (aT _) p q bL E bL);refine wv (h:=?_);exact hQ _ (by rw [<- hE];exact Z) P O
theorem VF {a b:Xa0}{i:Nat}(d:i<a.length)(c:i<b.length):cJ (a.drop i) (b.drop i)=if cmp1 a[i] b[i]≠0 then cmp1 a[i] b[i] else cJ (a.drop (i+1)) (b.drop (i+1)):=by
 rw [List.drop_eq_getElem_cons d,List.drop_eq_getElem_cons c];simp only [cJ,cmp1];split
 .simp
 .split
  .simp
  .simp
theorem GD (a b:Xa0):Pua 108 [dLI a,dLI b] (dI (cJ a b)):=by
 refine Tz.p0 func108 rfl λQ g Y=>?_;refine wp (h:=bA (λi e H=>(e 1=dLI b/\e 0=dLI a/\e 9=dLI a/\e 10=dI a.length/\e 11=dI i)/\(i<=a.length/\i<=b.length)/\(cJ (a.drop i) (b.drop i)=cJ a b)) (λi=>a.length - i) 0 ⟨wg,wi,(by rfl)⟩ λr l i e H k=>?_);obtain ⟨p,q,f⟩:=k;have Y:=wa Y p;refine dD (λd=>?_) λd=>?_
 .have Y:=xa1 Y d (aA d);refine wv (h:=?_);repeat first|intro _|refine ⟨fY,?_⟩
  refine wq (λo=>?_) λo=>?_
  .have hR:cJ a b=1:=by
    rw [<- f,List.drop_eq_getElem_cons d,cR (bL:b.length<=i)];rfl
   exact wv (h:=g _ _ (eD hR))
  .have hib:i<b.length:=bL;have c:=VF d hib;rw [f] at c;have Y:=wa Y (aA hib);refine wp (h:=aB (lQ a[i] b[i]) wl ?_);refine wv (h:=?_);repeat first|intro _|refine ⟨fY,?_⟩
   refine wq (λm=>?_) λm=>?_
   .rw [if_pos (cG m)] at c;exact wv (h:=g _ _ (eD c))
   .rw [if_neg (cG m)] at c;have j:=c.symm;exact wp (h:=wx l (i+1) ⟨wg,wj,(by exact j)⟩)
 .have hai:i=a.length:=bL;refine wv (h:=?_);repeat first|intro _|refine ⟨fY,?_⟩
  refine wq (λn=>?_) λn=>?_
  .have hR:cJ a b = -1:=by
    rw [<- f,cR (bL:a.length<=i),List.drop_eq_getElem_cons (bL:i<b.length)];rfl
   exact wv (h:=g _ _ (eD hR))
  .have hR:cJ a b=0:=by
    rw [<- f,cR (bL:a.length<=i),cR (bL:b.length<=i)];rfl
   exact wv (h:=g _ _ (eD hR))
theorem Bl (l:Xa0)(b:l.length<=1000000):Pua 182 [dLI l] (dLI (oU l)):=by
 refine Tz.pK ⟨λt=>t==5,λ_=>[]⟩ func182 rfl (λQ a=>?_);have Y:=trivial;exact wp (h:=a _ _ (by simp [go_sem,oU,dLI,cI,Nat.add_comm]))
theorem vE (g:Graph)(i j:Int):(gJ g i j).length<=g.j.length:=by
 unfold gJ;rw [lV];unfold AG;rw [bR];exact dA (iC _ _) bS
theorem Nz (g:Graph)(l:Xa0)(k:Int):((IM g l k).flatMap oU).length<=(2 * l.length+1) * (g.j.length+1):=by
 have b:∀ a:Yb,(∀ p∈a,p.length<=g.j.length)->(a.flatMap oU).length<=a.length * (g.j.length+1):=λa=>by
  induction a with
  | nil=>simp
  | cons p a ih =>
   intro h;have f:=ih λq c=>h q (fg c);have e:=h p bS;have d:(oU p).length=p.length+1:=by simp [oU]
   rw [iO,aO,cD,d,Nat.add_mul,Aw];omega
 have:=b (IM g l k) λp hp=>by
  unfold IM at hp;rcases aQ.1 hp with hp|hp
  .obtain ⟨j,_,hp⟩:=bM.1 hp;simp only [aP,dU,or_false] at hp;rcases hp with rfl|rfl<;>exact vE _ _ _
  .rw [aX.1 hp];exact vE _ _ _
 rwa [IL] at this
def Fi (g:Graph)(l:Xa0)(k:Int):Xa0:=(l.flatMap λj=>[gJ g j k,gJ g k j]).flatMap oU
theorem LG {g:Graph}{l:Xa0}{k:Int}{i:Nat}(h:i<l.length):Fi g (l.take (i+1)) k=Fi g (l.take i) k++oU (gJ g l[i] k)++oU (gJ g k l[i]):=by
 unfold Fi;rw [aD h,mW,mW];simp only [iO,vS,dG,List.append_assoc]
theorem DI {g:Graph}{l:Xa0}{k:Int}(b:l.length<=1000)(c:g.j.length<=1000):(Fi g l k).length<=2100000:=by
 have a:=Nz g l k;have d:(2 * l.length+1) * (g.j.length+1)<=2001 * 1001:=iY bL bL;unfold IM at a;rw [mW,aO] at a;unfold Fi;omega
theorem wL {g:Graph}(he:g.j.length<=1000)(i j:Int):(oU (gJ g i j)).length<=1001:=by
 have:=vE g i j;unfold oU;simp;omega
theorem Sn (h:Host)(hv:h.values.length=h.o.i.length)(U:h.o.i.length<=1000)(p:h.o.j.length<=1000)(S:∀ v∈h.values,v.length<=1000)(l:Xa0)(k:Int)(hl:l.length<=1000)(V:0<=k/\k<h.o.i.length) :
  Pua 110 [h.d,dLI (l++[k])] (dLI (jA h l k)):=by
 have K:k.toNat<h.o.i.length:=bL;have z:k.toNat<h.values.length:=bL;have e0:((l++[k]).length:Int) - 1=l.length:=bS;have e1:((l.length:Int)).toNat=l.length:=bL;have e2:(l++[k])[l.length]?=some k:=bS;have e3:gN h.o k=h.o.i[k.toNat]:=by unfold gN;rw [aA K];rfl
 have M:vN h k=h.values[k.toNat]:=by unfold vN;rw [aA z];rfl
 have e5:(l++[k]).length=l.length+1:=bS;have B:=S _ (aC z);have R:k<(h.values.length:Int):=bL;have P:Q8 .i64 (l.length:Int):=dE bL bL;have T:=Nz h.o l k;obtain ⟨s,o⟩:∃ x,x=h.values[k.toNat]:=⟨_,rfl⟩;obtain ⟨f,b⟩:∃ x,x=l++[k]:=⟨_,rfl⟩;have eo:f.length=l.length+1:=by rw [b,e5]
 have I:f[l.length]?=some k:=by rw [b,e2]
 have D:l.length<f.length:=bL;have e8:f[l.length]=k:=by rw [aA D] at I;exact Option.some.inj I
 have L:f.take l.length=l:=by rw [b];simp
 have e9:(f.map cI).take l.length=l.map cI:=by rw [<- List.map_take,L]
 rw [<- o] at B M;rw [<- b];refine Tz.pK ⟨λt=>t==21,λr=>match r with|2=>[(6,7),(6,8),(6,10),(6,11)]|_=>[]⟩ func110 rfl (λQ X=>?_);have N:(l.length:Int)<(l.length:Int)+1/\(l.length:Int)<=(l.length:Int)+1:=bL;have O:1+s.length<=4294967296:=bL;have Y:=xa2 @Host.d.eq_1 @Host.c.eq_1 eo (xb0 I e8 L e9 V R P O N (aA K) (aA z) (Eq.symm o));refine wp (h:=bA (λi e H=>∃ c:Nat,∃ a:Xa0,(e 1=dLI f/\e 2=.adr h.c/\e 5=dI k/\e 6=.own c a.length/\e 32=dLI l/\e 33=dI l.length/\e 34=dI i)/\(H.get c=some ⟨3,1,a.map cI,false⟩)/\(c<H.next)/\(i<=l.length)/\(a=h.o.i[k.toNat] :: (s++Fi h.o (l.take i) k))) (λi=>l.length - i) 0 ⟨6,(h.o.i[k.toNat] :: s),wg,wn,wn,wi,(by simp [Fi])⟩ λI0 G i e H E=>?_);obtain ⟨c,a,E0,q,m,hi,u⟩:=E;have Y:=xa3 Y @Host.c.eq_1 E0 q (bU m);refine dD (λw=>?_) λw=>?_
 .obtain ⟨J,n⟩:∃ y,y=h.o.i[k.toNat] :: (s++Fi h.o (l.take (i+1)) k):=⟨_,rfl⟩;have C:J=a++oU (gJ h.o l[i] k)++oU (gJ h.o k l[i]):=by rw [n,LG w,u];simp
  have A:a.length<=2102000:=by
   have:=DI (g:=h.o) (k:=k) (show (l.take i).length<=1000 by simp;omega) p;rw [u];simp;omega
  have F:=wL p l[i] k;have W:=wL p k l[i];have j:a.length+(oU (gJ h.o l[i] k)).length<=4294967296/\a.length+(oU (gJ h.o l[i] k)).length+(oU (gJ h.o k l[i])).length<=4294967296:=bL;have Y:=xa3 Y w (aA w) C j;refine wp (h:=aB (zY h.o bL _ _) wl ?_);refine wp (h:=aB (Bl _ (dA (vE _ _ _) bL)) wl ?_);refine wp (h:=aB (zY h.o bL _ _) wl ?_);refine wp (h:=aB (Bl _ (dA (vE _ _ _) bL)) wl ?_);exact wp (h:=wx G (i+1) ⟨c,J,wg,wn,wn,wj,(by exact n)⟩)
 .have A:a.length<=2102000:=by
   have:=DI (g:=h.o) (k:=k) (show (l.take i).length<=1000 by simp;omega) p;rw [u];simp;omega
  have F:=wL p k k;have j:a.length+(oU (gJ h.o k k)).length<=4294967296:=bL;have Z:jA h l k=a++oU (gJ h.o k k):=by
   rw [u,aH bL];unfold jA IM Fi;rw [e3,M];simp
  have Y:=wa Y j;refine wp (h:=aB (zY h.o bL _ _) wl ?_);refine wp (h:=aB (Bl _ (dA (vE _ _ _) bL)) wl ?_);exact wp (h:=X _ _ (by rw [Z];simp [go_sem,Y,dLI]))
end Go.Abs
end
