/- Layer 27: the undoing rule; where elements come from. · Laye -/
import Derived.Test.YtpdanmkcpjdmjaaGreatZkAF
import Derived.Test.YtpdanmkcpjdmjaaGreatZkAA
import Derived.Test.YtpdanmkcpjdmjaaGreatZkAX
import Derived.Test.YtpdanmkcpjdmjaaGreatZkAW
set_option linter.unusedVariables false
set_option linter.unusedSimpArgs false
section
set_option maxRecDepth 100000
set_option maxHeartbeats 4000000
open Go Go.Proofs Tryz
namespace Go.Abs
structure UndOk (t:Types) (s:Stp26):Prop where
 sl:SlotsOk t s
 c1:s.y.h.length=s.C.right.j.h.length
 c2:∀ x∈s.y.h,0<=x/\x<s.after.j.h.length
 c3:s.y.i.length<=1000
 m1:s.V.m.h.length=s.C.left.j.h.length
 m2:∀ x∈s.V.m.h,0<=x/\x<s.B.j.h.length
 Y:(s.C.right.j.h.length<=1000/\s.C.right.j.i.length<=1000)/\s.C.left.j.h.length<=1000/\s.C.left.j.i.length<=1000
 k:s.C.u.h.length=s.C.q.h.length/\s.C.u.i.length=s.C.q.i.length
 il:s.C.u.h.length<=1000000/\s.C.u.i.length<=1000000
 cy:s.C.u.h.Nodup/\s.C.u.i.Nodup
 ir:(∀ x∈s.C.u.h,0<=x/\x<s.C.right.j.h.length)/\∀ x∈s.C.u.i,0<=x/\x<s.C.right.j.i.length
section
variable {t:Types} {r:Rule} {h:Host} {m:Mat}
theorem StepIn.ak (S:StepIn t r h m):∀ x∈(c7 r h m).h,0<=x/\x<(Abs.b9 t r h m).j.h.length:=λx hx=>by
 obtain ⟨i,hi,rfl⟩:=oX hx;rw [S.aH,eW] at hi;rw [S.bd,S.aH];exact S.aC.bm (j:=(i:Int)) aD
theorem StepIn.au (S:StepIn t r h m):∀ x∈(c7 r h m).i,0<=x/\x<(Abs.b9 t r h m).j.i.length:=λx hx=>by
 obtain ⟨i,hi,rfl⟩:=oX hx;rw [S.bl,eW] at hi;rw [S.a7,S.bl];exact S.ba.bm (j:=(i:Int)) aD
theorem StepOk.cD (K:StepOk t r h m):SlotsOk t (aO t r h m):=by
 have u:m.m.h.length=r.left.j.h.length:=K.S.hm.len;have v:=bR K.S.hR.pl.gg;have s:=K.S.ho.vl;have a:∀ i:Nat,i<m.m.h.length->0<=iA m.m.h i/\iA m.m.h i<h.j.h.length:=λi b=>K.S.cz _ (fB aD aD);have c:∀ i:Nat,i<m.m.h.length->(oF (aO t r h m) i).length=(bI t (gN h.j (iA m.m.h i))).length:=λi b=>K.S.ho.cj (a i b).1 (a i b).2;refine ⟨by show m.m.h.length<=1000;omega,λi b=>⟨⟨(a i b).1,by have:=(a i b).2;show iA m.m.h i<h.k.length;omega,(a i b).2⟩,c i b,by rw [c i b];exact rH K.S.ho.vf _⟩,λi b j=>?_⟩;have o:=a i b;have k:=K.S.aC.aq ((mem_iff _ _).1 j);obtain ⟨p,e,q,_⟩:=K.S.aC.aB k;have f:=K.S.bd;have l:=K.S.bA;have g:=K.ci.1;have d:=K.cm (i:=(iA m.m.h i).toNat) aD (by rw [K.S.a6,show (((iA m.m.h i).toNat:Nat):Int)=iA m.m.h i by omega,e];omega);rw [show (((iA m.m.h i).toNat:Nat):Int)=iA m.m.h i by omega] at d;have n:(b9 t r h m).j.h.length=(bW t r h m).j.h.length:=rfl;refine ⟨?_,?_,?_,?_⟩
 .show iA m.m.h i<(Abs.c6 r h m).h.length;rw [K.S.a6,i5];exact o.2
 .show 0<=iA (Abs.c6 r h m).h (iA m.m.h i);rw [K.S.a6,e];omega
 .show iA (Abs.c6 r h m).h (iA m.m.h i)<(b9 t r h m).k.length;rw [K.S.a6,e];omega
 .show (h.k[(iA m.m.h i).toNat]?.getD []).length<=((b9 t r h m).k[(iA (Abs.c6 r h m).h (iA m.m.h i)).toNat]?.getD []).length;rw [d.v2];exact aZ _
theorem StepOk.bP (K:StepOk t r h m)(hr:r.ok):UndOk t (aO t r h m) where
 sl:=K.cD
 c1:=by show (Abs.c7 r h m).h.length=_;rw [K.S.aH,eW];rfl
 c2:=K.S.ak
 c3:=by
  have:=bR K.S.hR.gr;show (Abs.c7 r h m).i.length<=1000;rw [K.S.bl,eW];omega
 m1:=K.S.hm.len
 m2:=K.S.cz
 Y:=by
  have h1:=bR K.S.hR.gr;have h2:=bR K.S.hR.pl.gg;exact ⟨⟨by show r.right.j.h.length<=_;omega,by show r.right.j.i.length<=_;omega⟩,by show r.left.j.h.length<=_;omega,by show r.left.j.i.length<=_;omega⟩
 k:=⟨K.S.hR.q.1.1.symm,K.S.hR.q.1.2.symm⟩
 il:=⟨hr.i1,hr.i2⟩
 cy:=K.S.br
 ir:=⟨K.S.hR.q.2.2.2.1,K.S.hR.q.2.2.2.2⟩
end
def oC (t:Types)(s:Stp26):Int:=if 10<(g6 t s s.V.m.h.length).length then 3 else 0
def zY (t:Types)(s:Stp26):Rule:=if 10<(g6 t s s.V.m.h.length).length then kG else b5 t s
theorem T0 (l:List Slot):eE (l.map Slot.c)=l.map Slot.c:=jR λc hc=>by
 rw [aW] at hc;obtain ⟨x,_,rfl⟩:=hc;rfl
theorem y6 (t:Types)(y:t.ok)(s:Stp26)(x:UndOk t s):Pua 30 [t.d,.agg s.c] (.tup [(zY t s).d,dI (oC t s)]):=by
 obtain ⟨f,C,i,B,z,g,⟨⟨J,I⟩,H,G⟩,⟨u,q⟩,⟨w,v⟩,a,l⟩:=x;have j:=J2 t y s f;obtain ⟨L,k⟩:=fD (g6 t s s.V.m.h.length);rw [<- k] at j;have p:=Bs s.C.right.j s.after.j s.y.h aD aD i;have o:=Bs s.C.left.j s.B.j s.V.m.h aD aD g;obtain ⟨F,e⟩:∃ zs,zs=s.y.h.map (gN s.after.j):=⟨_,rfl⟩;obtain ⟨E,b⟩:∃ zs,zs=s.V.m.h.map (gN s.B.j):=⟨_,rfl⟩;rw [<- e] at p;rw [<- b] at o;simp only [Stp26.c,Rule.c,Mat.c,Host.c,dE,dF] at j;refine pS (by first|rfl|(simp [go_sem];done)) (λQ n=>(Tz.cK ⟨λt=>t==4||t==6||t==7,λr=>match r with|2=>[(0,40),(1,40),(2,40),(3,40),(4,40),(5,40),(6,40),(7,40),(8,40),(9,40),(10,40),(11,40),(13,40),(14,40),(15,40),(16,40),(17,40),(18,40),(19,40),(20,40),(21,40),(22,40),(23,40),(24,40),(25,40),(26,40),(28,40),(29,40),(30,40),(31,40),(33,40),(34,40),(35,40),(36,40)]|_=>[]⟩ func30 rfl ?_));have Y:=xa2 @Stp26.c.eq_1 @Rule.c.eq_1 @Mat.c.eq_1 @Host.c.eq_1;refine oL (h:=aI (p) wl ?_);refine oL (h:=aI (o) wl ?_);refine oL (h:=aI (j) wl ?_);refine oL (h:=aI (wW s.y.h aD) wl ?_);refine oL (h:=dO (λA=>wW s.y.i aD) (λA=>wl) ?_);refine oL (h:=aB (Bt s.C.q.h s.C.u.h s.C.right.j.h.length a.1 l.1 u w) wl ?_);refine oL (h:=aB (Bt s.C.q.i s.C.u.i s.C.right.j.i.length a.2 l.2 q v) wl ?_);refine oL (h:=wq (λD=>?_) λD=>?_)
 .refine lS (h:=?_);exact n _ _ (by simp [go_sem,zY,oC,<- k,(aD:10<L.length),kG,pU,Rule.d,Rule.c,Cond.E,Cond.s,Cond.map,Cond.o])
 .refine lS (h:=?_);exact n _ _ (by simp [go_sem,Y,zY,oC,<- k,(aD:¬ 10<L.length),b5,oS,y5,Vm,kM,<- e,<- b,Rule.d,Rule.c,Cond.E,Cond.s,Cond.map,Cond.o,d9,pX,T0])
theorem UA (c b a:W3)(k:Nat):Ku c b a (k+1)=Ku c b a k++if 0<=iA b k then [(iA b k,idx a (iA c k))] else []:=by simp [Ku,bS]
theorem Uz (b a keep:W3)(k:Nat):Np b a keep (k+1)=Np b a keep k++if mem keep k=true then [] else [(iA b k,iA a k)]:=by simp [Np,bS]
theorem CR (n:Nat)(h d c f j keep:W3)(hn:n<=1000000)(a1:d.length<=h.length)(a2:∀ x∈d,x<n)(a3:∀ x∈f,0<=x/\x<n)(a4:f.length<=j.length) :
  Pua 53 [dI n,dLI h,dLI d,dLI c,dLI f,dLI j,dLI keep] (dLI (Ct n h d c f j keep)):=by
 refine Tz.pK ⟨λt=>t==15,λ_=>[]⟩ func53 rfl (λQ hQ=>?_);try simp [go_sem,seval]
 repeat first|intro _|refine ⟨gX,?_⟩
 obtain ⟨I0,A⟩:∃ I0:Nat->eF->AHeap->Prop,∀ (i:Nat) (e:eF) (H:AHeap),I0 i e H↔(∃ w:W3,(e 1=dLI h)/\(e 3=dLI c)/\(e 4=dLI f)/\(e 5=dLI j)/\(e 6=dLI keep)/\(e 15=.own 0 n)/\(e 22=dLI d)/\(e 23=dI d.length)/\(e 24=dI i)/\(H.get 0=some ⟨3,1,w.map cI,false⟩)/\(0<H.next)/\(i<=d.length)/\(w=nY (Ku h d c i) (List.replicate n 0))/\(w.length=n)):=⟨λi e H=>_,λ_ _ _=>Iff.rfl⟩;refine FJ I0 (λi=>d.length - i) (0) ((A _ _ _).2 ⟨((List.replicate n 0)),?_,?_,?_,?_,?_,?_,?_,?_,?_,?_,?_,(by first|assumption|omega|(simp [go_sem];done)|(simp_all;done)),(by rfl),(by simp)⟩) ?_;iterate 11 (first|omega|(simp [go_sem,seval]<;>omega))
 intro i e H b0;obtain ⟨w,Z,X,V,T,R,M,K,I,F,a7,a5,hi,hx,m⟩:=(A _ _ _).1 b0;have x0:=bL a5;have v:=xa9 Z X V T R M K I F a7 x0;try simp [go_sem,seval,v]
 refine bC (λp=>?_) (λp=>?_)
 .try simp [go_sem] at p
  have hP:=UA h d c i;have r:i<h.length:=aD;rw [lU p,lU r] at hP;have b2:=a2 _ (aC p);try simp [go_sem,seval,v,p,aA p,aA r,m]
  repeat first|intro _|refine ⟨gX,?_⟩
  refine bC (λO=>?_) (λO=>?_)
  .try simp [go_sem] at O
   have a8:0<=d[i]:=by simpa using O
   have g:d[i].toNat<w.length:=aD;obtain ⟨y,a⟩:=fD (w.set d[i].toNat (idx c h[i]));have q:y=nY (Ku h d c (i+1)) (List.replicate n 0):=by rw [a,hP,if_pos a8,Hx,<- hx]
   try simp [go_sem,seval,v,p,aA p,aA r,m,aA g,a,b6]
   repeat first|intro _|refine ⟨gX,?_⟩
   refine aB (xE c h[i]) ((by first|rfl|(simp [go_sem,<- List.map_take,<- List.map_drop,v,p,aA p,aA r,m,aA g,a,b6];done))) ?_;try simp [go_sem,seval,v,p,aA p,aA r,m,aA g,a,b6]
   repeat first|intro _|refine ⟨gX,?_⟩
   refine mI (i+1) aD ((A _ _ _).2 ⟨(y),?_,?_,?_,?_,?_,?_,?_,?_,?_,?_,?_,(by first|assumption|omega|(simp [go_sem,v,p,aA p,aA r,m,aA g,a,b6,O];done)|(simp_all<;>omega)),(by exact q),(by rw [q,iY,eL])⟩)<;>first|omega|(simp [go_sem,seval,v,p,aA p,aA r,m,aA g,a,b6]<;>omega)
  .try simp [go_sem] at O
   obtain ⟨y,a⟩:=fD (w);have q:y=nY (Ku h d c (i+1)) (List.replicate n 0):=by rw [a,hP,if_neg (eQ O),dS,<- hx]
   try simp [go_sem,seval,v,p,aA p,aA r,m,a]
   repeat first|intro _|refine ⟨gX,?_⟩
   refine mI (i+1) aD ((A _ _ _).2 ⟨(y),?_,?_,?_,?_,?_,?_,?_,?_,?_,?_,?_,(by first|assumption|omega|(simp [go_sem,v,p,aA p,aA r,m,a,O];done)|(simp_all<;>omega)),(by exact q),(by rw [q,iY,eL])⟩)<;>first|omega|(simp [go_sem,seval,v,p,aA p,aA r,m,a]<;>omega)
 .try simp [go_sem] at p
  have hX:w=nY (Ku h d c d.length) (List.replicate n 0):=by rw [hx,(aD:i=d.length)]
  try simp [go_sem,seval,v]
  repeat first|intro _|refine ⟨gX,?_⟩
  obtain ⟨I2,z⟩:∃ I2:Nat->eF->AHeap->Prop,∀ (k:Nat) (e:eF) (H:AHeap),I2 k e H↔(∃ B:W3,(e 1=dLI h)/\(e 3=dLI c)/\(e 4=dLI f)/\(e 5=dLI j)/\(e 6=dLI keep)/\(e 15=.own 0 n)/\(e 22=dLI d)/\(e 23=dI d.length)/\(e 41=dLI f)/\(e 42=dI f.length)/\(e 43=dI k)/\(H.get 0=some ⟨3,1,B.map cI,false⟩)/\(0<H.next)/\(k<=f.length)/\(B=nY (Np f j keep k) w)/\(B.length=n)):=⟨λk e H=>_,λ_ _ _=>Iff.rfl⟩;refine FJ I2 (λk=>f.length - k) (0) ((z _ _ _).2 ⟨(w),?_,?_,?_,?_,?_,?_,?_,?_,?_,?_,?_,(by simp [go_sem,v]),?_,(by first|assumption|omega|(simp [go_sem,v];done)|(simp_all;done)),(by rfl),(by exact m)⟩) ?_;iterate 12 (first|omega|(simp [go_sem,seval,v]<;>omega))
  intro k e H a9;obtain ⟨B,Y,W,U,S,P,L,J,G,E,D,C,b,a0,hk,hy,b1⟩:=(z _ _ _).1 a9;have x0:=bL a0;have u:=xb0 Y W U S P L J G E D C x0;try simp [go_sem,seval,u,b]
  refine bC (λl=>?_) (λl=>?_)
  .try simp [go_sem] at l
   have o:k<j.length:=aD;have b3:=a3 _ (aC l);have g:f[k].toNat<B.length:=aD;have N:=Uz f j keep k;rw [lU l,lU o] at N;try simp [go_sem,seval,u,b,l,aA l,aA o,aA g]
   repeat first|intro _|refine ⟨gX,?_⟩
   refine aB (fU keep k) ((by first|rfl|(simp [go_sem,<- List.map_take,<- List.map_drop,u,b,l,aA l,aA o,aA g];done))) ?_;try simp [go_sem,seval,u,b,l,aA l,aA o,aA g]
   repeat first|intro _|refine ⟨gX,?_⟩
   refine bC (λs=>?_) (λs=>?_)
   .try simp [go_sem] at s
    obtain ⟨y,a⟩:=fD (B.set f[k].toNat j[k]);have q:y=nY (Np f j keep (k+1)) w:=by rw [a,N,if_neg (eQ s),Hx,<- hy]
    try simp [go_sem,seval,u,b,l,aA l,aA o,aA g,a,b6]
    repeat first|intro _|refine ⟨gX,?_⟩
    refine mI (k+1) aD ((z _ _ _).2 ⟨(y),?_,?_,?_,?_,?_,?_,?_,?_,?_,?_,?_,(by simp [go_sem,u,b,l,aA l,aA o,aA g,a,b6]),?_,(by first|assumption|omega|(simp [go_sem,u,b,l,aA l,aA o,aA g,a,b6,p,s];done)|(simp_all<;>omega)),(by exact q),(by rw [q,iY];exact m)⟩)<;>first|omega|(simp [go_sem,seval,u,b,l,aA l,aA o,aA g,a,b6]<;>omega)
   .try simp [go_sem] at s
    obtain ⟨y,a⟩:=fD (B);have q:y=nY (Np f j keep (k+1)) w:=by rw [a,N,if_pos (eQ s),dS,<- hy]
    try simp [go_sem,seval,u,b,l,aA l,aA o,aA g,a]
    repeat first|intro _|refine ⟨gX,?_⟩
    refine mI (k+1) aD ((z _ _ _).2 ⟨(y),?_,?_,?_,?_,?_,?_,?_,?_,?_,?_,?_,(by simp [go_sem,u,b,l,aA l,aA o,aA g,a]),?_,(by first|assumption|omega|(simp [go_sem,u,b,l,aA l,aA o,aA g,a,p,s];done)|(simp_all<;>omega)),(by exact q),(by rw [q,iY];exact m)⟩)<;>first|omega|(simp [go_sem,seval,u,b,l,aA l,aA o,aA g,a]<;>omega)
  .try simp [go_sem] at l
   have hE:B=Ct n h d c f j keep:=by rw [hy,(aD:k=f.length),hX];rfl
   have a6:=Wo n h d c f j keep;rw [hE] at b;try simp [go_sem,seval,u,b,b]
   exact hQ _ _ (by first|(left;(simp [go_sem,u,b,b,a6,dLI]);done)|(right;(simp [go_sem,u,b,b,a6,dLI]);done))
def rC (t:Types)(s:Stp26):Bool:=decide (jU t s.C s.B s.V=0)&&decide (eU t s.C s.B s.V=s)
theorem oQ {t:Types}{s:Stp26}(e:s.C.ok)(h:rC t s=true):s=aO t s.C s.B s.V/\StepOk t s.C s.B s.V/\UndOk t s:=by
 unfold rC at h;simp only [aN,decide_eq_true_eq] at h;obtain ⟨b,a⟩:=h;unfold eU at a;rw [if_pos b] at a;have f:f6 t s.C s.B=0/\iC t s.C s.B s.V=0:=by
  unfold jU at b;split at b
  .contradiction
  .rename_i hh;exact ⟨by simpa using hh,b⟩
 obtain ⟨d,c⟩:=xI f.1;have K:=U7 (KU e d) (lE c) f.2;refine ⟨a.symm,K,?_⟩;have g:=K.bP e;rw [a] at g;exact g
theorem PU:(Cond.mk 1 [] ⟨[],[]⟩ Vm).ok/\(Cond.mk 1 [] ⟨[],[]⟩ Vm).size<=1000000:=by
 refine ⟨(sI _).2 ⟨⟨?_,?_,?_,?_,?_,?_⟩,?_⟩,?_⟩<;>simp [Cond.map,Cond.o,Cond.s,Vm,Cond.size,Cond.aa]
theorem tO {t:Types}{s:Stp26}(b:s.C.ok)(a:UndOk t s):(b5 t s).ok:=by
 obtain ⟨⟨⟨f,e⟩,d,c⟩⟩:=show _/\True from ⟨a.Y,trivial⟩;have h:=SE s.C.u.h s.C.right.j.h.length;have g:=SE s.C.u.i s.C.right.j.i.length;refine ⟨b.name,?_,?_,?_,?_,PU.1,PU.2⟩
 .show (fS s.C.u.h s.C.right.j.h.length).length<=1000000;omega
 .show (fS s.C.u.i s.C.right.j.i.length).length<=1000000;omega
 .show (dZ (fS s.C.u.h s.C.right.j.h.length) s.C.u.h s.C.q.h).length<=1000000;unfold dZ;rw [aT];omega
 .show (dZ (fS s.C.u.i s.C.right.j.i.length) s.C.u.i s.C.q.i).length<=1000000;unfold dZ;rw [aT];omega
def yG (t:Types)(s:Stp26):Int:=if (cW t).2≠0 then (cW t).2 else if rC t s=true then 0 else 1
def uZ (t:Types)(s:Stp26):Int:=if yG t s≠0 then yG t s else oC t s
def l6 (t:Types)(s:Stp26):Rule:=if yG t s≠0 then kG else zY t s
structure CmpA (t:Types) (s:Stp26):Prop where
 b:∀ i (h1:i<(eU t s.C s.B s.V).B.k.length) (h2:i<s.B.k.length),Ta (eU t s.C s.B s.V).B.k[i] s.B.k[i]
 a:∀ i (h1:i<(eU t s.C s.B s.V).after.k.length) (h2:i<s.after.k.length),Ta (eU t s.C s.B s.V).after.k[i] s.after.k[i]
theorem Bu (t:Types)(m:t.ok)(s:Stp26)(q:s.C.ok):Pua 23 [t.d,.agg s.c] (.tup [(l6 t s).d,dI (uZ t s)]):=by
 have v:=Br t m;have p:=z8 t m s q rfl rfl;have n:rC t s=true->Pua 30 [t.d,.agg s.c] (.tup [(zY t s).d,dI (oC t s)]):=λh=>y6 t m s (oQ q h).2.2;obtain ⟨b,f⟩:=fD (rC t s);have a:(decide (jU t s.C s.B s.V=0)&&decide (eU t s.C s.B s.V=s))=b:=f.symm;rw [a] at p;rw [<- f] at n;obtain ⟨e,g⟩:=fD ((cW t).2);rw [<- g] at v;have r:l6 t s=if e≠0 then kG else if b=true then zY t s else kG:=by unfold l6 yG;rw [<- g,<- f];by_cases l:e=0<;>by_cases k:b=true<;>simp [l,k]
 have u:uZ t s=if e≠0 then e else if b=true then oC t s else 1:=by unfold uZ yG;rw [<- g,<- f];by_cases l:e=0<;>by_cases k:b=true<;>simp [l,k]
 rw [r,u];simp only [Stp26.c,Rule.c,Mat.c,Host.c,dE,dF] at p n;clear f a g r u;refine Tz.pK ⟨λt=>t==4,λ_=>[]⟩ func23 rfl (λQ o=>?_);have Y:=xa2 @Stp26.c.eq_1 @Rule.c.eq_1 @Mat.c.eq_1 @Host.c.eq_1;refine lS (h:=aB (v) wl ?_);refine lS (h:=wq (λj=>?_) λj=>?_)
 .exact lS (h:=o _ _ (by simp [go_sem,j,kG,pU,Rule.d,Rule.c,Cond.E,Cond.s,Cond.map,Cond.o]))
 .refine oL (h:=aB (p) wl ?_);refine oL (h:=wq (λi=>?_) λi=>?_)
  .exact lS (h:=o _ _ (by simp [go_sem,j,i,kG,pU,Rule.d,Rule.c,Cond.E,Cond.s,Cond.map,Cond.o]))
  .refine lS (h:=aB (n (eQ i)) wl ?_);exact lS (h:=o _ _ (by simp [go_sem,j,i]))
theorem Mw (t:Types)(b:t.ok)(s:Stp26)(e:s.C.ok):Pua 19 [t.d,.agg s.c] (.tup [(l6 t s).d,dI (uZ t s)]):=by
 have a:=Bu t b s e;simp only [Stp26.c,Rule.c,Mat.c,Host.c,dE,dF] at a;refine Tz.pK ⟨λt=>t==4,λ_=>[]⟩ func19 rfl (λQ f=>?_);have Y:=xa2 @Stp26.c.eq_1 @Rule.c.eq_1 @Mat.c.eq_1 @Host.c.eq_1;refine lS (h:=aB (a) wl ?_);exact lS (h:=f _ _ wy)
def Gp (s u:Stp26):Part:=⟨BZ s.Q.h u.Q.h u.y.h s.V.m.h u.after.j.h.length,BZ s.Q.i u.Q.i u.y.i s.V.m.i u.after.j.i.length⟩
structure IsoOk (s u:Stp26):Prop where
 fn:u.after.j.h.length<=1000000/\u.after.j.i.length<=1000000
 ft:(∀ x∈s.Q.h,x<u.Q.h.length)/\∀ x∈s.Q.i,x<u.Q.i.length
 fu:(∀ x∈u.Q.h,x<u.after.j.h.length)/\∀ x∈u.Q.i,x<u.after.j.i.length
 fc:(∀ x∈u.y.h,0<=x/\x<u.after.j.h.length)/\∀ x∈u.y.i,0<=x/\x<u.after.j.i.length
 fm:u.y.h.length<=s.V.m.h.length/\u.y.i.length<=s.V.m.i.length
def stpZ:UN:=[.str ⟨#[]⟩,.nil,.nil,.nil,.int .i64 (0),.nil,.nil,.nil,.nil,.int .i64 (0),.nil,.nil,.nil,.nil,.nil,.bool false,.int .i64 (0),.nil,.nil,.nil,.nil,.nil,.nil,.int .i64 (0),.nil,.nil,.nil,.nil,.nil,.nil,.nil,.nil,.nil,.nil,.nil,.nil,.nil,.nil]
@[go_sem] theorem aaK:stpZ.length=38:=rfl
def vV (s u:Stp26)(m0:Part):Part:=⟨Ct u.after.j.h.length m0.h u.Q.h s.Q.h u.y.h s.V.m.h s.C.q.h,Ct u.after.j.i.length m0.i u.Q.i s.Q.i u.y.i s.V.m.i s.C.q.i⟩
structure BackOk (s u:Stp26) (m0:Part):Prop where
 fn:u.after.j.h.length<=1000000/\u.after.j.i.length<=1000000
 fi:u.Q.h.length<=m0.h.length/\u.Q.i.length<=m0.i.length
 fu:(∀ x∈u.Q.h,x<u.after.j.h.length)/\∀ x∈u.Q.i,x<u.after.j.i.length
 fc:(∀ x∈u.y.h,0<=x/\x<u.after.j.h.length)/\∀ x∈u.y.i,0<=x/\x<u.after.j.i.length
 fm:u.y.h.length<=s.V.m.h.length/\u.y.i.length<=s.V.m.i.length
def rW (s:Stp26)(m0:Part):Mat:=⟨⟨s.y.h.map (idx m0.h),s.y.i.map (idx m0.i)⟩,[]⟩
theorem Vu (t:Types):mC t.d=t.d:=by simp [Types.d,Types.c,mC,iI,tG,FF]
theorem W6 (r:Rule):mC r.d=r.d:=by simp [Rule.d,Rule.c,mC,iI,dLI,dI,d9,pX,Dd,Dc,Ig]
theorem W7 (h:Host):mC h.d=h.d:=by simp [Host.d,Host.c,mC,iI,dLI,dI,d9,pX,Vw]
theorem YE (l:W3):mC (dLI l)=dLI l:=by simp [dLI,mC,d9]
theorem aaG (t:Types)(r:Rule)(h:Host)(a b:W3):[t.d,r.d,h.d,.agg [dLI a,dLI b,.nil]].map mC=[t.d,r.d,h.d,.agg [dLI a,dLI b,dLI []]]:=by
 simp [Vu,W6,W7,mC,iI,YE];simp [dLI]
theorem CQ (t:Types)(ht:t.ok)(s:Stp26)(r:Rule)(hr:r.ok)(h:Host)(m0:Part)(a6:s.y.h.length<=1000)(a5:s.y.i.length<=1000){v:Stp26}{er:Int}(hv:v=eU t r h (rW s m0))(he:er=jU t r h (rW s m0))(a:er=0->BackOk s v m0) :
  Pua 24 [t.d,.agg s.c,r.d,h.d,m0.d] (.tup [.agg (if er=0 then v else lO).c,(if er=0 then vV s v m0 else ⟨[],[]⟩:Part).d,dI er]):=by
 have O:=CG t ht r hr h (rW s m0) hv he;obtain ⟨R,N⟩:∃ M,M=s.y.h.map (idx m0.h):=⟨_,rfl⟩;obtain ⟨M2,L⟩:∃ M,M=s.y.i.map (idx m0.i):=⟨_,rfl⟩;have a2:rW s m0=⟨⟨R,M2⟩,[]⟩:=by rw [N,L];rfl
 rw [a2] at O;have l1:R.length=s.y.h.length:=by rw [N];simp
 have l2:M2.length=s.y.i.length:=by rw [L];simp
 have bN:=λf:er=0=>CR v.after.j.h.length m0.h v.Q.h s.Q.h v.y.h s.V.m.h s.C.q.h (a f).fn.1 (a f).fi.1 (a f).fu.1 (a f).fc.1 (a f).fm.1;have bE:=λf:er=0=>CR v.after.j.i.length m0.i v.Q.i s.Q.i v.y.i s.V.m.i s.C.q.i (a f).fn.2 (a f).fi.2 (a f).fu.2 (a f).fc.2 (a f).fm.2;obtain ⟨p,W⟩:=fD (Ct v.after.j.h.length m0.h v.Q.h s.Q.h v.y.h s.V.m.h s.C.q.h);obtain ⟨q,V⟩:=fD (Ct v.after.j.i.length m0.i v.Q.i s.Q.i v.y.i s.V.m.i s.C.q.i);have S:vV s v m0=⟨p,q⟩:=by rw [W,V];rfl
 rw [<- W] at bN;rw [<- V] at bE;rw [S];simp only [Stp26.c,Rule.c,Mat.c,Host.c,dE,dF] at O;have O:=O.dr (aaG t r h R M2);unfold Rule.d Host.d at O;simp only [Rule.c,Host.c] at O;clear a W V S hv he;refine Tz.pK ⟨λt=>t==10||t==11||t==13||t==18,λr=>match r with|5=>[(0,7),(1,7),(2,7)]|10=>[(0,7),(1,7),(2,7)]|_=>[]⟩ func24 rfl (λQ hQ=>?_);have Y:=xa2 @Stp26.c.eq_1 @Rule.c.eq_1 @Mat.c.eq_1 @Host.c.eq_1;refine oL (h:=lB (Ghosts.step (Ghosts.step (Ghosts.refl _) 2 0 0 3 1 _ _ (rfl) rfl rfl rfl) 2 0 1 3 1 _ _ (rfl) rfl rfl rfl) (λi e H=>(e 5=.adr t.c/\e 6=.adr s.c/\e 7=.adr r.c/\e 8=.adr h.c/\e 9=.adr m0.c/\e 10=.ptr 0 1 0 0/\e 11=.ptr 1 1 0 0/\e 13=.ptr 2 1 0 0/\e 22=dLI s.y.h/\e 23=dI s.y.h.length/\e 24=dI i)/\(H.get 0=some ⟨70,38,[stpZ],false⟩)/\(0<H.next)/\(H.get 1=some ⟨58,2,[[.nil,.nil]],false⟩)/\(1<H.next)/\(H.get 2=some ⟨65,3,[[.own 3 i,.own 4 0,.nil]],false⟩)/\(2<H.next)/\(H.get 3=some ⟨3,1,((s.y.h.take i).map (idx m0.h)).map cI,false⟩)/\(3<H.next)/\(H.get 4=some ⟨3,1,[],false⟩)/\(4<H.next)/\(i<=s.y.h.length)) (λi=>s.y.h.length - i) 0 ⟨wg,(by simp [go_sem,Y,stpZ]),wn,wn,wn,wn,wn,(by rfl),wn,wn,wn,wi⟩ λI0 a4 i e H a0=>?_);obtain ⟨E0,K,E,I,C,o,A,l,y,j,w,hi⟩:=a0;have Y:=xb0 Y E0 K (bL E) I (bL C) o (bL A) l (bL y) j (bL w);refine lS (h:=wq (λU=>?_) λU=>?_)
 .have hSt:(s.y.h.take (i+1)).map (idx m0.h)=(s.y.h.take i).map (idx m0.h)++[idx m0.h s.y.h[i]]:=by rw [aE U,List.map_append];rfl
  have a1:((s.y.h.take i).map (idx m0.h)).length=i:=by simp;omega
  have Y:=xa2 Y U (aA U) a1;refine oL (h:=aI (xE m0.h s.y.h[i]) wl ?_);exact oL (h:=wx a4 (i+1) ⟨wg,(by simp [go_sem,Y]),wn,wn,wn,wn,wn,(by simp [go_sem,Y,hSt]),wn,wn,wn,wj⟩)
 .have S:i=s.y.h.length:=aD;rw [aG aD,<- N] at l;rw [S,<- l1] at o;have Y:=xa2 @Stp26.c.eq_1 @Rule.c.eq_1 @Mat.c.eq_1 (xb0 @Host.c.eq_1 E0 K (bL E) I (bL C) o (bL A) l (bL y) j (bL w));refine oL (h:=aY (λk e H=>(e 5=.adr t.c/\e 6=.adr s.c/\e 7=.adr r.c/\e 8=.adr h.c/\e 9=.adr m0.c/\e 10=.ptr 0 1 0 0/\e 11=.ptr 1 1 0 0/\e 13=.ptr 2 1 0 0/\e 22=dLI s.y.h/\e 23=dI s.y.h.length/\e 42=dLI s.y.i/\e 43=dI s.y.i.length/\e 44=dI k)/\(H.get 0=some ⟨70,38,[stpZ],false⟩)/\(0<H.next)/\(H.get 1=some ⟨58,2,[[.nil,.nil]],false⟩)/\(1<H.next)/\(H.get 2=some ⟨65,3,[[.own 3 R.length,.own 4 k,.nil]],false⟩)/\(2<H.next)/\(H.get 3=some ⟨3,1,R.map cI,false⟩)/\(3<H.next)/\(H.get 4=some ⟨3,1,((s.y.i.take k).map (idx m0.i)).map cI,false⟩)/\(4<H.next)/\(k<=s.y.i.length)) (λk=>s.y.i.length - k) 0 ⟨wg,wn,wn,wn,wn,wn,wn,wn,wn,(by exact j),wn,wi⟩ λI2 a3 k e H Z=>?_);obtain ⟨E2,J,D,G,B,n,z,F,x,g,u,hk⟩:=Z;have Y:=xb0 Y E2 J (bL D) G (bL B) n (bL z) F (bL x) g (bL u);refine lS (h:=wq (λT=>?_) λT=>?_)
  .have hSt2:(s.y.i.take (k+1)).map (idx m0.i)=(s.y.i.take k).map (idx m0.i)++[idx m0.i s.y.i[k]]:=by rw [aE T,List.map_append];rfl
   have P:((s.y.i.take k).map (idx m0.i)).length=k:=by simp;omega
   have Y:=xa2 Y T (aA T) P;refine oL (h:=aI (xE m0.i s.y.i[k]) wl ?_);exact oL (h:=wx a3 (k+1) ⟨wg,wn,wn,wn,wn,wn,wn,wn,wn,(by simp [go_sem,Y,hSt2]),wn,wj⟩)
  .have hK:k=s.y.i.length:=aD;rw [aG aD,<- L] at g;rw [hK,<- l2] at n;have Y:=xa2 @Stp26.c.eq_1 @Rule.c.eq_1 @Mat.c.eq_1 (xb0 @Host.c.eq_1 E2 J (bL D) G (bL B) n (bL z) F (bL x) g (bL u));refine lS (h:=AM (O) wz wl wz ?_);refine lS (h:=wq (λb=>?_) λb=>?_)
   .refine lS (h:=?_);have X:¬ er=0:=by simpa using b
    exact hQ _ _ (by simp [go_sem,X,lO,kG,pU,iW,Part.d,Part.c,Stp26.c,Rule.c,Mat.c,Host.c,Cond.E,Cond.s,Cond.map,Cond.o,dLI,dI])
   .refine oL (h:=aI (bN (eQ b)) wl ?_);refine oL (h:=aI (bE (eQ b)) wl ?_);refine oL (h:=?_);have hz:er=0:=by simpa using b
    exact hQ _ _ (by simp [go_sem,Y,hz,Part.d,Part.c,Stp26.c,Rule.c,Mat.c,Host.c])
def xS (s:Stp26)(b:Part):Stp26:=⟨s.C,s.V,s.B,s.after,⟨jH s.Q.h b.h,jH s.Q.i b.i⟩,s.y⟩
def Aw (m:Part):Part:=⟨iX m.h,iX m.i⟩
def qW (g:Graph):Part:=⟨gB g.h.length,gB g.i.length⟩
theorem yN {n:Nat}{k:Int}(h0:0<=k)(h:k<n):iA (gB n) k=k:=by
 unfold iA gB;rw [aM,fR aD];simp;omega
theorem MN {n:Nat}:∀ x∈gB n,0<=x/\x<n:=λx hx=>by
 unfold gB at hx;obtain ⟨k,hk,rfl⟩:=aW.1 hx;have:=bA.1 hk;omega
theorem GR (n:Nat):(gB n).Nodup:=by
 unfold gB;rw [eX,G0];exact List.pairwise_lt_range.imp λh=>by omega
theorem Dp {n:Nat}{k:Int}(a:0<=k)(h:k<n):iA (iX (gB n)) k=k:=by
 have:=(Dq (iF n) MN (GR n) a h).2;rw [yN a h] at this;exact this
theorem A0 {t:Types}{g:Host}(ho:HostOk t g):HIso g g (qW g.j) where
 nl:=iF _
 el:=iF _
 nn:=rfl
 en:=rfl
 av:=ho.vl
 bv:=ho.vl
 ni:=MN
 ei:=MN
 nd:=GR _
 ed:=GR _
 ty p h0 h:=by show _=gN g.j (iA (gB _) p);rw [yN h0 h]
 eg p h0 h:=by
  have hE:=vM ho.gg h0 h;show eA g.j (iA (gB _) p)=⟨_,iA (gB _) _,iA (gB _) _⟩;rw [yN h0 h,yN hE.1.1 hE.1.2,yN hE.2.1.1 hE.2.1.2]
 va p h0 h:=by show _=g.k[(iA (gB _) p).toNat]?.getD [];rw [yN h0 h]
theorem xD {l:W3}{f:Int->Int}(h:∀ x∈l,f x=x):l.map f=l:=(bJ (g:=id) h).trans (List.map_id l)
theorem NZ {l:W3}{n:Nat}(h:∀ x∈l,x<n):jH l (iX (gB n))=l:=by
 unfold jH;refine xD λx a=>?_;split
 .exact Dp (by assumption) (h x a)
 .rfl
section
variable {t:Types} {r:Rule} {h g:Host} {m m':Mat} {m0:Part}
theorem BN {t:Types}{r:Rule}{h:Host}{m:Mat}(d:r.ok)(a:jU t r h m=0):StepOk t r h m:=by
 unfold jU at a;split at a
 .contradiction
 .rename_i hg;obtain ⟨c,b⟩:=xI (eQ hg);exact U7 (KU d c) (lE b) a
theorem StepIn.bM (S:StepIn t r h m):(∀ x∈(c6 r h m).h,x<(Abs.b9 t r h m).j.h.length)/\∀ x∈(c6 r h m).i,x<(Abs.b9 t r h m).j.i.length:=by
 constructor
 .intro x hx;obtain ⟨i,a,rfl⟩:=oX hx;rw [S.a6] at a ⊢;rw [i5] at a;rw [S.bd];by_cases b:(i:Int)∈lN r.q.h m.m.h h.j.h.length
  .obtain ⟨p,d,c,_⟩:=S.aC.aB b;omega
  .rw [S.aC.b6 aD b];omega
 .intro x hx;obtain ⟨i,a,rfl⟩:=oX hx;rw [S.bK] at a ⊢;rw [i5] at a;rw [S.a7];by_cases b:(i:Int)∈lN r.q.i m.m.i h.j.i.length
  .obtain ⟨p,d,c,_⟩:=S.ba.aB b;omega
  .rw [S.ba.b6 aD b];omega
theorem R8 {l:W3}{n N:Nat}(hl:l.length=n)(hr:∀ x∈l,0<=x/\x<n)(hd:l.Nodup){tr:W3}(ht:∀ x∈tr,x<n):∀ x∈jH tr (iX l),x<n:=λx hx=>by
 unfold jH at hx;obtain ⟨y,hy,rfl⟩:=aW.1 hx;split
 .exact (rO hl hr hd (by assumption) (ht y hy)).1.2
 .exact ht y hy
theorem Back.bq (B:Back t r h m g m0 m'):IsoOk (xS (aO t r h m) (Aw m0)) (aO t (b5 t (aO t r h m)) g m') where
 fn:=by
  have b:=B.K'.nn;have a:=B.K'.ne;exact ⟨by show (b9 t _ g m').j.h.length<=_;show (bW t _ g m').j.h.length<=_;omega,by show (bW t _ g m').j.i.length<=_;omega⟩
 ft:=by
  constructor
  .show ∀ x∈jH (c6 r h m).h (iX m0.h),x<(c6 _ g m').h.length;rw [B.K'.S.a6,i5];exact R8 (N:=0) B.I.nl (by rw [B.I.nn];exact B.I.ni) B.I.nd (by rw [B.I.nn];exact B.K.S.bM.1)
  .show ∀ x∈jH (c6 r h m).i (iX m0.i),x<(c6 _ g m').i.length;rw [B.K'.S.bK,i5];exact R8 (N:=0) B.I.el (by rw [B.I.en];exact B.I.ei) B.I.ed (by rw [B.I.en];exact B.K.S.bM.2)
 fu:=B.K'.S.bM
 fc:=⟨B.K'.S.ak,B.K'.S.au⟩
 fm:=by
  constructor
  .show (c7 _ g m').h.length<=m.m.h.length;rw [B.K'.S.aH,eW,B.aL.2,B.K.S.hm.len];exact aZ _
  .show (c7 _ g m').i.length<=m.m.i.length;rw [B.K'.S.bl,eW,B.K.S.hm.bk];exact aZ _
theorem Back.cr (B:Back t r h m g m0 m'):BackOk (aO t r h m) (aO t (b5 t (aO t r h m)) g m') m0 where
 fn:=B.bq.fn
 fi:=by
  constructor
  .show (c6 _ g m').h.length<=m0.h.length;rw [B.K'.S.a6,i5,B.I.nl];exact aZ _
  .show (c6 _ g m').i.length<=m0.i.length;rw [B.K'.S.bK,i5,B.I.el];exact aZ _
 fu:=B.bq.fu
 fc:=B.bq.fc
 fm:=B.bq.fm
theorem Back.same (B:Back t r h m g m0 m'):vV (aO t r h m) (aO t (b5 t (aO t r h m)) g m') m0=Gp (xS (aO t r h m) (Aw m0)) (aO t (b5 t (aO t r h m)) g m'):=by
 have a:=B.K'.S.bd;have c:=B.K'.S.a7;rw [B.aL.2] at a;have e:=B.bB.same a;have d:=B.bZ.same c;have b:=B.K'.S.aH;rw [B.aL.2] at b;have f:(⟨(vV (aO t r h m) (aO t (b5 t (aO t r h m)) g m') m0).h,(vV (aO t r h m) (aO t (b5 t (aO t r h m)) g m') m0).i⟩:Part)=⟨(Gp (xS (aO t r h m) (Aw m0)) (aO t (b5 t (aO t r h m)) g m')).h,(Gp (xS (aO t r h m) (Aw m0)) (aO t (b5 t (aO t r h m)) g m')).i⟩:=by
  congr 1
  .show Ct _ m0.h (c6 _ g m').h (c6 r h m).h (c7 _ g m').h m.m.h r.q.h=BZ (jH (c6 r h m).h (iX m0.h)) (c6 _ g m').h (c7 _ g m').h m.m.h _;rw [B.K.S.a6,B.K'.S.a6,b];exact e
  .show Ct _ m0.i (c6 _ g m').i (c6 r h m).i (c7 _ g m').i m.m.i r.q.i=BZ (jH (c6 r h m).i (iX m0.i)) (c6 _ g m').i (c7 _ g m').i m.m.i _;rw [B.K.S.bK,B.K'.S.bK,B.K'.S.bl];exact d
 exact f
theorem Ti (K:StepOk t r h m)(hr:r.ok)(h0:jU t (b5 t (aO t r h m)) (b9 t r h m) ⟨c7 r h m,[]⟩=0):Back t r h m (b9 t r h m) (qW (b9 t r h m).j) ⟨c7 r h m,[]⟩ where
 K:=K
 I:=A0 (lE K.after)
 bn:=by
  show (c7 r h m).h=_;refine (xD λx hx=>?_).symm;exact Dp (K.S.ak x hx).1 (K.S.ak x hx).2
 be:=by
  show (c7 r h m).i=_;refine (xD λx hx=>?_).symm;exact Dp (K.S.au x hx).1 (K.S.au x hx).2
 K':=BN (tO hr (K.bP hr)) h0
theorem Ye (K:StepOk t r h m):xS (aO t r h m) (Aw (qW (b9 t r h m).j))=aO t r h m:=by
 have b:jH (c6 r h m).h (iX (gB (b9 t r h m).j.h.length))=(c6 r h m).h:=NZ K.S.bM.1;have a:jH (c6 r h m).i (iX (gB (b9 t r h m).j.i.length))=(c6 r h m).i:=NZ K.S.bM.2;show (⟨r,m,h,b9 t r h m,⟨jH (c6 r h m).h _,jH (c6 r h m).i _⟩,c7 r h m⟩:Stp26)=⟨r,m,h,b9 t r h m,c6 r h m,c7 r h m⟩;rw [show (Aw (qW (b9 t r h m).j)).h=iX (gB (b9 t r h m).j.h.length) from rfl,show (Aw (qW (b9 t r h m).j)).i=iX (gB (b9 t r h m).j.i.length) from rfl,b,a]
end
def D8 (s:Stp26):Mat:=⟨s.y,[]⟩
def Ga (t:Types)(s:Stp26):Int:=if uZ t s≠0 then uZ t s else jU t (l6 t s) s.after (D8 s)
def zS (t:Types)(s:Stp26):Stp26:=if Ga t s=0 then eU t (l6 t s) s.after (D8 s) else lO
def UO (t:Types)(s:Stp26):Part:=if Ga t s=0 then Gp s (eU t (l6 t s) s.after (D8 s)) else ⟨[],[]⟩
theorem GM {t:Types}{s:Stp26}(b:s.C.ok)(h:uZ t s=0):rC t s=true/\l6 t s=b5 t s/\(l6 t s).ok:=by
 unfold uZ at h;split at h
 .contradiction
 .rename_i h1;have a:yG t s=0:=by simpa using h1
  have c:rC t s=true:=by
   unfold yG at a;split at a
   .contradiction
   .split at a
    .assumption
    .cases a
  unfold oC at h;split at h
  .cases h
  .rename_i h2;have d:l6 t s=b5 t s:=by unfold l6 zY;rw [if_neg h1,if_neg h2]
   exact ⟨c,d,by rw [d];exact tO b (oQ b c).2.2⟩
theorem NO {t:Types}{s:Stp26}(b:s=aO t s.C s.B s.V)(K:StepOk t s.C s.B s.V):rW s (qW s.after.j)=D8 s:=by
 have a:∀ {l:W3} {n:Nat},(∀ x∈l,0<=x/\x<n)->l.map (idx (gB n))=l:=λ {l n} g=>xD λx f=>by
  have c:=g x f;have:=Cb (GR n) (q:=x.toNat) (by rw [iF];omega);rw [show ((x.toNat:Nat):Int)=x by omega,yN c.1 c.2] at this;exact this
 have e:=K.S.ak;have d:=K.S.au;have i:s.y=c7 s.C s.B s.V:=congrArg Stp26.y b;have h:s.after=b9 t s.C s.B s.V:=congrArg Stp26.after b;rw [<- i,<- h] at e d;show (⟨⟨s.y.h.map (idx (gB s.after.j.h.length)),s.y.i.map (idx (gB s.after.j.i.length))⟩,[]⟩:Mat)=⟨⟨s.y.h,s.y.i⟩,[]⟩;rw [a e,a d]
theorem L9 {t:Types}{s:Stp26}(d:s.C.ok)(h:Ga t s=0):∃ r h m,s=aO t r h m/\zS t s=aO t (b5 t s) s.after (D8 s)/\UO t s=Gp s (aO t (b5 t s) s.after (D8 s))/\Back t r h m s.after (qW s.after.j) (D8 s):=by
 have c:zS t s=eU t (l6 t s) s.after (D8 s)/\UO t s=Gp s (eU t (l6 t s) s.after (D8 s)):=⟨by unfold zS;rw [if_pos h],by unfold UO;rw [if_pos h]⟩;unfold Ga at h;split at h
 .contradiction
 .rename_i h1;obtain ⟨f,i,_⟩:=GM d (eQ h1);rw [i] at h c;have g:eU t (b5 t s) s.after (D8 s)=aO t (b5 t s) s.after (D8 s):=by unfold eU;rw [if_pos h]
  rw [g] at c;obtain ⟨e,K,_⟩:=oQ d f;obtain ⟨r,b,m,a⟩:∃ r b m,s=aO t r b m:=⟨_,_,_,e⟩;refine ⟨r,b,m,a,c.1,c.2,?_⟩;subst a;exact Ti K d h
theorem L8 {t:Types}{s:Stp26}(g:s.C.ok)(h:Ga t s=0):HIso (zS t s).after s.B (UO t s)/\IsoOk s (zS t s)/\BackOk s (zS t s) (qW s.after.j)/\vV s (zS t s) (qW s.after.j)=UO t s/\rW s (qW s.after.j)=D8 s:=by
 obtain ⟨r,b,m,f,o,n,B⟩:=L9 g h;rw [o,n];subst f;have a:xS (aO t r b m) (Aw (qW (aO t r b m).after.j))=aO t r b m:=Ye B.K;have k:=B.dt;have d:=B.bq;have j:=B.cr;have i:=B.same;have e:rW (aO t r b m) (qW (b9 t r b m).j)=D8 (aO t r b m):=NO rfl B.K;have c:vV (aO t r b m) (aO t (b5 t (aO t r b m)) (b9 t r b m) (D8 (aO t r b m))) (qW (b9 t r b m).j)=Gp (aO t r b m) (aO t (b5 t (aO t r b m)) (b9 t r b m) (D8 (aO t r b m))):=by
  have:=i;rw [a] at this;exact this
 rw [a] at d;refine ⟨?_,d,j,c,e⟩;have l:Gp (aO t r b m) (aO t (b5 t (aO t r b m)) (b9 t r b m) (D8 (aO t r b m)))=Gp (xS (aO t r b m) (Aw (qW (aO t r b m).after.j))) (aO t (b5 t (aO t r b m)) (b9 t r b m) (D8 (aO t r b m))):=by rw [a]
 show HIso (b9 t (b5 t (aO t r b m)) (b9 t r b m) (D8 (aO t r b m))) b (Gp (aO t r b m) (aO t (b5 t (aO t r b m)) (b9 t r b m) (D8 (aO t r b m))));rw [l];exact k
theorem Bx (l:W3)(n:Nat)(s:n<=1000000)(h:∀ v:Int,0<=v->v<n->v∈l):Pua 56 [dLI l,dI n] (.bool true):=by
 refine Tz.p0 func56 rfl λQ p Y=>?_;refine wv (h:=aY (λk e H=>(e 0=dLI l/\e 1=dI n/\e 5=dI k)/\(k<=n)) (λk=>n - k) 0 ⟨wg,wi⟩ λx i k e H d=>?_);obtain ⟨r,t⟩:=d;have Y:=wa Y r;refine dK (λm=>?_) λm=>?_
 .have Y:=wa Y m;refine wv (h:=aY (λj e H=>∃ b:Bool,(e 0=dLI l/\e 1=dI n/\e 5=dI k/\e 6=.bool b/\e 7=dI j)/\(j<=l.length)/\(b=mem (l.take j) k)) (λj=>l.length - j) 0 ⟨false,wg,wi,(by simp [yP])⟩ λw g j e H c=>?_);obtain ⟨b,q,u,f⟩:=c;have Y:=wa Y q;refine wv (h:=?_);repeat first|intro _|refine ⟨iD,?_⟩
  refine wq (λa=>?_) λa=>?_
  .have Y:=xa1 Y a (aA a);exact wo (h:=wx g (j+1) ⟨((b||l[j]==(k:Int))),wg,wj,(by rw [f,BF _ _ a];rfl)⟩)
  .rw [aG aD] at f;have o:b=true:=by rw [f];exact (mem_iff _ _).2 (h k aD aD)
   have Y:=wa Y o;exact wo (h:=wx i (k+1) ⟨wg,wj⟩)
 .have Y:=wa Y m;exact wv (h:=p _ _ wy)
theorem OR (a b:Graph)(m:Part)(i:eD a b m=0)(f:graphF b=0)(k:∀ v:Int,0<=v->v<b.h.length->v∈m.h)(j:∀ v:Int,0<=v->v<b.i.length->v∈m.i):Pua 27 [a.d,b.d,m.d] (.bool true):=by
 have e:=r8 a b m;rw [i] at e;have c:=bR f;refine Tz.p0 func27 rfl λQ g Y=>?_;refine wo (h:=aB (e) wl ?_);refine wo (h:=aK (λc=>Bx m.h b.h.length aD k) (λc=>wl) ?_);refine wo (h:=aK (λc=>Bx m.i b.i.length aD j) (λc=>wl) ?_);exact wo (h:=g _ _ wy)
theorem HIso.db {a b:Host}{m:Part}(I:HIso a b m)(g:graphF a.j=0)(f:graphF b.j=0):eD a.j b.j m=0:=by
 refine AY g f I.nl I.el (λi c e=>?_) (λk c d=>?_)
 .exact ⟨I.ni _ (fB c (by rw [I.nl];exact e)),(I.ty i c e).symm⟩
 .have:=I.eg k c d;rw [this];exact ⟨I.ei _ (fB c (by rw [I.el];exact d)),rfl,rfl,rfl⟩
theorem HL (a b:Host)(m:Part)(I:HIso a b m)(z:graphF a.j=0)(s:graphF b.j=0):Pua 8 [a.d,b.d,m.d] (.bool true):=by
 have t:=I.db z s;have u:=y8 a.j b.j m;have B:Ca a.j b.j m=true:=by unfold Ca;simp [t,I.nd,I.ed]
 rw [B] at u;have C:=OR a.j b.j m t s (λv q p=>w5 (I.nl.trans I.nn) I.ni I.nd ⟨q,p⟩) (λv q p=>w5 (I.el.trans I.en) I.ei I.ed ⟨q,p⟩);have l:=I.av;have k:=I.bv;have w:=I.nl;refine Tz.p0 func8 rfl λQ A _=>?_;have Y:=xa2 @Host.d.eq_1 @Host.c.eq_1 l k;refine wp (h:=aB (u) wl ?_);refine wp (h:=aK (λy=>C) (λy=>wl) ?_);refine wp (h:=aY (λi e H=>(e 3=.adr a.c/\e 4=.adr b.c/\e 5=.adr m.c/\e 7=dI i)/\(i<=a.j.h.length)) (λi=>a.j.h.length - i) 0 ⟨wg,wi⟩ λG n i e H j=>?_);obtain ⟨E,F⟩:=j;have Y:=wa Y E;refine wv (h:=?_);repeat first|intro _|refine ⟨gX,?_⟩
 refine wq (λo=>?_) λo=>?_
 .have hia:i<a.k.length:=aD;have f:i<m.h.length:=aD;have x:=I.ni _ (aC f);have g:m.h[i].toNat<b.k.length:=aD;have r:=I.va i aD aD;rw [lU f,show ((i:Int)).toNat=i by omega,aA hia,aA g,Option.getD_some,Option.getD_some] at r;have D:=Gk a.k[i];have Y:=xa5 Y o (aA hia) (aA f) (aA g) @cL.eq_1 (Eq.symm r);refine wp (h:=aI (D) wl ?_);exact wp (h:=wx n (i+1) ⟨wg,wj⟩)
 .have Y:=wa Y o;exact wv (h:=A _ _ wy)
theorem U1 {t:Types}{s:Stp26}(c:s.C.ok)(h:Ga t s=0):(zS t s).C.ok/\zS t s=eU t (zS t s).C (zS t s).B (zS t s).V/\0=jU t (zS t s).C (zS t s).B (zS t s).V:=by
 have e:zS t s=eU t (l6 t s) s.after (D8 s):=by unfold zS;rw [if_pos h]
 have a:=h;unfold Ga at a;split at a
 .contradiction
 .rename_i f;have d:=(GM c (eQ f)).2.2;have b:eU t (l6 t s) s.after (D8 s)=aO t (l6 t s) s.after (D8 s):=by unfold eU;rw [if_pos a]
  rw [e,b];refine ⟨d,?_,a.symm⟩;show aO t (l6 t s) s.after (D8 s)=eU t (l6 t s) s.after (D8 s);rw [b]
theorem Tj {t:Types}{s:Stp26}(c:s.C.ok)(h:Ga t s=0):graphF (zS t s).after.j=0/\graphF s.B.j=0:=by
 obtain ⟨r,b,m,a,d,e,B⟩:=L9 c h;rw [d,a];rw [a] at B;exact ⟨(lE B.K'.after).gg,B.K.S.ho.gg⟩
def n7 (l:List Stp26)(i:Nat):Stp26:=l[i]?.getD lO
def Gd (t:Types)(l:List Stp26)(i:Nat):Int:=if rC t (n7 l i)=false then 1 else if 0<i/\(n7 l (i - 1)).after≠(n7 l i).B then 11 else 0
def t7 (t:Types)(l:List Stp26):Int :=
 if (cW t).2≠0 then (cW t).2 else if l.length=0 then 7 else if 30<l.length then 3 else bU (Gd t l) 0 l.length
def rX (t:Types)(s:Stp26)(g:Host)(m:Part):Stp26:=eU t (b5 t s) g (rW s m)
def Nf (t:Types)(s:Stp26)(g:Host)(m:Part):Int:=jU t (b5 t s) g (rW s m)
def y4 (t:Types)(l:List Stp26):Nat->Host->Part->List Stp26->List Stp26 × Part × Int
 | 0,_,m,out=>(out,m,0)
 | c+1,g,m,out=>if oC t (n7 l c)≠0 then ([],⟨[],[]⟩,oC t (n7 l c)) else if Nf t (n7 l c) g m≠0 then ([],⟨[],[]⟩,Nf t (n7 l c) g m)
  else y4 t l c (rX t (n7 l c) g m).after (vV (n7 l c) (rX t (n7 l c) g m) m) (out++[rX t (n7 l c) g m])
def oW (l:List Stp26):Host:=(n7 l (l.length - 1)).after
def eG (t:Types)(l:List Stp26):List Stp26 × Part × Int:=if t7 t l≠0 then ([],⟨[],[]⟩,t7 t l) else y4 t l l.length (oW l) (qW (oW l).j) []
structure Chain (t:Types) (l:List Stp26):Prop where
 vf:(cW t).2=0
 pos:0<l.length
 bg:l.length<=30
 dg:∀ i,i<l.length->rC t (n7 l i)=true
 dO:∀ i,0<i->i<l.length->(n7 l (i - 1)).after=(n7 l i).B
theorem P4 {t:Types}{l:List Stp26}(h:t7 t l=0):Chain t l:=by
 unfold t7 at h;split at h
 .contradiction
 .rename_i h1;split at h
  .cases h
  .rename_i h2;split at h
   .cases h
   .rename_i h3;have b:=λ(i:Nat) (a:i<l.length)=>eI l.length 0 h i (eB _) aD;refine ⟨by simpa using h1,aD,aD,λi a=>?_,λi d a=>?_⟩
    .have:=b i a;unfold Gd at this;split at this
     .cases this
     .rename_i h4;simpa using h4
    .have:=b i a;unfold Gd at this;split at this
     .cases this
     .split at this
      .cases this
      .rename_i h4;refine bB λc=>h4 ⟨d,c⟩
theorem Dw {l:W3}{n:Nat}(c:l.length=n)(b:∀ x∈l,0<=x/\x<n)(a:l.Nodup){y:Int}(e:0<=y)(h:y<n):idx l y=iA (iX l) y:=by
 obtain ⟨f,d⟩:=rO c b a e h;have:=Cb a (q:=(iA (iX l) y).toNat) aD;rw [show (((iA (iX l) y).toNat:Nat):Int)=iA (iX l) y by omega,d] at this;exact this
theorem TA {t:Types}{s:Stp26}{g:Host}{m:Part}(c:s.C.ok)(q:rC t s=true)(I:HIso g s.after m):rW s m=⟨⟨jH s.y.h (iX m.h),jH s.y.i (iX m.i)⟩,[]⟩ /\
  (m.h.length=s.after.j.h.length/\m.i.length=s.after.j.i.length)/\((∀ x∈s.y.h,0<=x/\x<s.after.j.h.length)/\∀ x∈s.y.i,0<=x/\x<s.after.j.i.length) /\
  (∀ x∈s.Q.h,x<s.after.j.h.length)/\∀ x∈s.Q.i,x<s.after.j.i.length:=by
 obtain ⟨b,K,_⟩:=oQ c q;have f:=K.S.ak;have e:=K.S.au;have d:=K.S.bM;have u:s.y=c7 s.C s.B s.V:=congrArg Stp26.y b;have h:s.after=b9 t s.C s.B s.V:=congrArg Stp26.after b;have r:s.Q=c6 s.C s.B s.V:=congrArg Stp26.Q b;rw [<- u,<- h] at f e;rw [<- h,<- r] at d;have a:∀ {l p:W3} {n:Nat},l.length=n->(∀ x∈l,0<=x/\x<n)->l.Nodup->(∀ x∈p,0<=x/\x<n)->p.map (idx l)=jH p (iX l):=λ {l p n} k c o j=>by
  unfold jH;refine bJ λx i=>?_;have:=j x i;rw [if_pos this.1];exact Dw k c o this.1 this.2
 refine ⟨?_,⟨by rw [I.nl,I.nn],by rw [I.el,I.en]⟩,⟨f,e⟩,d.1,d.2⟩;unfold rW;rw [a (I.nl.trans I.nn) I.ni I.nd f,a (I.el.trans I.en) I.ei I.ed e]
theorem HI {t:Types}{s:Stp26}{g:Host}{m:Part}(f:s.C.ok)(i:rC t s=true)(I:HIso g s.after m)(h:Nf t s g m=0) :
  BackOk s (rX t s g m) m/\IsoOk (xS s (Aw m)) (rX t s g m)/\Gp (xS s (Aw m)) (rX t s g m)=vV s (rX t s g m) m/\HIso (rX t s g m).after s.B (vV s (rX t s g m) m):=by
 obtain ⟨n,_,a,_,_⟩:=TA f i I;obtain ⟨j,K,k⟩:=oQ f i;have e:rX t s g m=aO t (b5 t s) g (rW s m):=by unfold rX eU;unfold Nf at h;rw [if_pos h]
 rw [e];have l:=BN (tO f k) h;obtain ⟨r,b,x,d⟩:∃ r b x,s=aO t r b x:=⟨_,_,_,j⟩;subst d;have B:Back t r b x g m (rW (aO t r b x) m):=by
  refine ⟨K,I,?_,?_,l⟩
  .show (c7 r b x).h.map (idx m.h)=_;exact bJ λy c=>Dw (I.nl.trans I.nn) I.ni I.nd (a.1 y c).1 (a.1 y c).2
  .show (c7 r b x).i.map (idx m.i)=_;exact bJ λy c=>Dw (I.el.trans I.en) I.ei I.ed (a.2 y c).1 (a.2 y c).2
 refine ⟨B.cr,B.bq,B.same.symm,?_⟩;rw [B.same];exact B.dt
def Zo (l:List Stp26)(c:Nat)(g:Host)(m:Part):Prop:=c=0\/HIso g (n7 l (c - 1)).after m
theorem Uj {t:Types}{l:List Stp26}(b:Chain t l)(d:∀ s∈l,s.C.ok):Zo l l.length (oW l) (qW (oW l).j):=by
 right
 have h:=b.pos;have f:=b.dg (l.length - 1) aD;have e:n7 l (l.length - 1)∈l:=by unfold n7;rw [aA aD];exact aC _
 obtain ⟨c,K,_⟩:=oQ (d _ e) f;have a:=lE K.after;have g:(n7 l (l.length - 1)).after=b9 t (n7 l (l.length - 1)).C (n7 l (l.length - 1)).B (n7 l (l.length - 1)).V:=congrArg Stp26.after c;rw [<- g] at a;exact A0 a
theorem VP {t:Types}{l:List Stp26}(b:Chain t l){c:Nat}(a:c<l.length){g:Host}{m:Part}(I:HIso g (n7 l c).B m):Zo l c g m:=by
 by_cases h:c=0
 .exact .inl h
 .right
  rw [b.dO c aD a];exact I
theorem IB (l:W3):(iX l).length=l.length:=by unfold iX;rw [iY,eL]
theorem qR {l:List Stp26}{i:Nat}(h:i<l.length):n7 l i=l[i]:=by unfold n7;rw [aA h];rfl
theorem Mv (t:Types)(D:t.ok)(l:List Stp26)(S:l.length<=1000000)(M:∀ s∈l,s.C.ok):Pua 29 [t.d,.list (l.map Stp26.c)] (dI (t7 t l)):=by
 obtain ⟨G,I⟩:=fD (bU (Gd t l) 0 l.length);have O:t7 t l=if (cW t).2≠0 then (cW t).2 else if l.length=0 then 7 else if 30<l.length then 3 else G:=by rw [I];rfl
 rw [O];refine Tz.pK ⟨λt=>t==7,λ_=>[]⟩ func29 rfl (λQ f=>?_);have Y:=trivial;refine lS (h:=aB (Br t D) wl ?_);refine lS (h:=wq (λp=>?_) λp=>?_)
 .exact lS (h:=f _ _ (by simp [go_sem,p]))
 .refine oL (h:=wq (λq=>?_) λq=>?_)
  .exact lS (h:=f _ _ (by simp [go_sem,p,q]))
  .refine oL (h:=wq (λP=>?_) λP=>?_)
   .exact lS (h:=f _ _ (by simp [go_sem,p,q,(aD:30<l.length)]))
   .have hpre:(if (cW t).2≠0 then (cW t).2 else if l.length=0 then 7 else if 30<l.length then 3 else G)=G:=by rw [if_neg (eQ p),if_neg (eQ q),if_neg aD]
    rw [hpre] at f;refine oL (h:=aY (λi e H=>(e 2=.adr t.c/\e 1=.list (l.map Stp26.c)/\e 21=.list (l.map Stp26.c)/\e 22=dI l.length/\e 23=dI i)/\(i<=l.length)/\(bU (Gd t l) i (l.length - i)=G)) (λi=>l.length - i) 0 ⟨wg,wi,(by exact I.symm)⟩ λU A i e H y=>?_);obtain ⟨R,T,a⟩:=y;have Y:=wa Y R;refine lS (h:=wq (λm=>?_) λm=>?_)
    .rw [eV _ m] at a;have E:=aC m;obtain ⟨s,u⟩:=fD (l[i]);have r:n7 l i=s:=by rw [u,qR m]
     rw [<- u] at E;obtain ⟨b,F⟩:=fD (rC t s);have o:Gd t l i=if b=false then 1 else if 0<i/\(n7 l (i - 1)).after≠s.B then 11 else 0:=by unfold Gd;rw [r,<- F]
     have B:=z8 t D s (M s E) rfl rfl;have z:(decide (jU t s.C s.B s.V=0)&&decide (eU t s.C s.B s.V=s))=b:=F.symm;rw [z] at B;simp only [Stp26.c,Rule.c,Mat.c,Host.c,dE,dF] at B;have Y:=xa6 Y m (aA m) (Eq.symm u) @Stp26.c.eq_1 @Rule.c.eq_1 @Mat.c.eq_1 @Host.c.eq_1;refine oL (h:=aB (B) wl ?_);refine oL (h:=wq (λk=>?_) λk=>?_)
     .have hbf:b=false:=by simpa using k
      rw [o,if_pos hbf,if_pos aD] at a;exact lS (h:=f _ _ (by simp [go_sem,<- a]))
     .have hbt:b=true:=by simpa using k
      rw [hbt,if_neg dB] at o;obtain ⟨w,C⟩:=fD (n7 l (i - 1));have n:i - 1<l.length:=aD;have x:l[i - 1]=w:=by rw [C,qR n]
      have v:((i:Int) - 1).toNat=i - 1:=aD;rw [<- C] at o;have J:=Ce w.after s.B;unfold Host.d Host.c at J;have Y:=xa2 Y v (aA n) x;refine oL (h:=dO (λN=>J) (λN=>wl) ?_);refine oL (h:=wq (λj=>?_) λj=>?_)
      .have hne:0<i/\w.after≠s.B:=by simpa using j
       have g:Gd t l i=11:=by rw [o,if_pos hne]
       rw [g,if_pos aD] at a;exact lS (h:=f _ _ (by simp [go_sem,<- a]))
      .have hst2:bU (Gd t l) (i+1) (l.length - (i+1))=G:=by
        have g:Gd t l i=0:=by
         rw [o,if_neg];rintro ⟨L,K⟩;have:=j;simp [L,K] at this
        rw [g,if_neg aD] at a;exact a
       exact oL (h:=wx A (i+1) ⟨wg,wj,(by exact hst2)⟩)
    .have hz0:G=0:=by rw [<- a,(aD:l.length - i=0)];rfl
     exact lS (h:=f _ _ (by simp [go_sem,hz0]))
theorem yH (t:Types)(F:t.ok)(s:Stp26)(w:s.C.ok):Pua 7 [t.d,.agg s.c] (.tup [.agg (zS t s).c,(UO t s).d,dI (Ga t s)]):=by
 have D:=Bu t F s w;obtain ⟨R,B⟩:=fD (l6 t s);obtain ⟨k,j⟩:∃ e,e=uZ t s:=⟨_,rfl⟩;obtain ⟨v,r⟩:=fD (eU t (l6 t s) s.after (D8 s));obtain ⟨i,u⟩:∃ e,e=jU t (l6 t s) s.after (D8 s):=⟨_,rfl⟩;obtain ⟨p,z⟩:=fD (Gp s v);have x:Ga t s=if k≠0 then k else i:=by unfold Ga;rw [<- j,<- u]
 have l:k=0->(s.after.j.h.length<=100000/\s.after.j.i.length<=100000)/\(s.y.h.length<=1000/\s.y.i.length<=1000)/\rW s (qW s.after.j)=D8 s:=λm=>by
  obtain ⟨O,P,S⟩:=GM w (j ▸ m);obtain ⟨G,K,A⟩:=oQ w O;have o:=A.Y;have U:=A.c1;refine ⟨?_,⟨aD,A.c3⟩,?_⟩
  .rw [G];have g:=K.nn;have f:=K.ne;exact ⟨by show (bW t _ _ _).j.h.length<=_;omega,by show (bW t _ _ _).j.i.length<=_;omega⟩
  .exact NO G K
 have C:k=0->Pua 24 [t.d,.agg s.c,R.d,s.after.d,(qW s.after.j).d] (.tup [.agg (if i=0 then v else lO).c,(if i=0 then p else ⟨[],[]⟩:Part).d,dI i]):=λm=>by
  have N:=(GM w (j ▸ m)).2.2;obtain ⟨_,⟨M,L⟩,E⟩:=l m;have o:=CQ t F s (l6 t s) N s.after (qW s.after.j) M L (v:=v) (er:=i) (by rw [E];exact r) (by rw [E];exact u) (λg=>by
   have f:Ga t s=0:=by rw [x,if_neg aD,g]
   have n:=(L8 w f).2.2.1;have e:zS t s=v:=by unfold zS;rw [if_pos f,r]
   rw [e] at n;exact n)
  have T:i=0->vV s v (qW s.after.j)=p:=λg=>by
   have f:Ga t s=0:=by rw [x,if_neg aD,g]
   have n:=(L8 w f).2.2.2.1;have e:zS t s=v:=by unfold zS;rw [if_pos f,r]
   rw [e] at n;rw [n,z];unfold UO;rw [if_pos f,r]
  rw [<- B] at o;by_cases g:i=0
  .rw [if_pos g,if_pos g] at o ⊢;rw [T g] at o;exact o
  .rw [if_neg g,if_neg g] at o ⊢;exact o
 have J:k=0->Pua 25 [s.after.j.d] (qW s.after.j).d:=λm=>wV s.after.j (l m).1.1 (l m).1.2;have H:zS t s=if k=0/\i=0 then v else lO:=by
  unfold zS;rw [x,<- r];by_cases a:k=0<;>by_cases b:i=0<;>simp [a,b]
 have y:UO t s=if k=0/\i=0 then p else ⟨[],[]⟩:=by
  unfold UO;rw [x,<- r,<- z];by_cases a:k=0<;>by_cases b:i=0<;>simp [a,b]
 rw [<- B,<- j] at D;rw [H,y,x];obtain ⟨q,n⟩:=fD (qW s.after.j);rw [<- n] at C J;simp only [Stp26.c,Rule.c,Mat.c,Host.c,dE,dF] at D C;clear x H y z u r j B l n;refine Tz.pK ⟨λt=>t==4||t==5||t==7,λ_=>[]⟩ func7 rfl (λQ I=>?_);have Y:=xa2 @Stp26.c.eq_1 @Rule.c.eq_1 @Mat.c.eq_1 @Host.c.eq_1;refine lS (h:=aB (D) wl ?_);refine lS (h:=wq (λf=>?_) λf=>?_)
 .exact lS (h:=I _ _ (by simp [go_sem,f,lO,kG,pU,iW,Part.d,Part.c,Stp26.c,Rule.c,Mat.c,Host.c,Cond.E,Cond.s,Cond.map,Cond.o,dLI,dI]))
 .refine lS (h:=aI (J (eQ f)) wl ?_);refine lS (h:=aI (C (eQ f)) wl ?_);refine lS (h:=?_);have m:k=0:=by simpa using f
  exact I _ _ (by by_cases g:i=0<;>simp [go_sem,m,g,lO,kG,pU,iW,Part.d,Part.c,Stp26.c,Rule.c,Mat.c,Host.c,Cond.E,Cond.s,Cond.map,Cond.o,dLI,dI])
def Zg:Rule:=⟨⟨#[99,108,111,115,101]⟩,⟨⟨[3,1],[⟨0,0,1⟩]⟩,[],0,[]⟩,⟨⟨[3],[]⟩,[],0,[]⟩,⟨[0],[]⟩,⟨[0],[]⟩,true,.mk 1 [] ⟨[],[]⟩ pU⟩
def shH:Host:=⟨⟨[3,1,1],[⟨0,0,1⟩,⟨0,0,2⟩]⟩,[[],[10],[5]]⟩
def clM:Mat:=⟨⟨[0,2],[1]⟩,[]⟩
def clS:Stp26:=eU exT Zg shH clM
theorem SZ:fewR Zg=true:=by decide +kernel
theorem cl1:jU exT Zg shH clM=0:=by decide +kernel
theorem cl2:uZ exT clS=0:=by decide +kernel
theorem cl3:(l6 exT clS).right.l=[⟨1,0,⟨-1,5⟩⟩]:=by decide +kernel
theorem cl4:Ga exT clS=0:=by decide +kernel
theorem cl5:(zS exT clS).after=shH:=by decide +kernel
theorem cl6:UO exT clS=⟨[0,1,2],[0,1]⟩:=by decide +kernel
theorem Dn:Pua 21 [] shH.d:=by
 refine pS (by first|rfl|(simp [go_sem];done)) (λQ a=>(Tz.cK ⟨λt=>t==0,λ_=>[]⟩ func21 rfl ?_));have Y:=trivial;refine lS (h:=?_);exact a _ _ (by simp [go_sem,shH,Host.d,Host.c,Edge.c,cL,dLI,cI,dI])
theorem Kh:Pua 18 [] (.tup [.agg clS.c,dI 0]):=by
 have a:=Hm exT (GY SO) Zg (Nd SZ) shH clM;rw [cl1] at a;have b:eU exT Zg shH clM=clS:=rfl;rw [b] at a;generalize clS=v at *;refine Tz.pK ⟨λt=>t==0||t==2,λr=>match r with|2=>[(0,3),(1,3),(2,3),(0,4),(1,4),(2,4),(3,4)]|_=>[]⟩ func18 rfl (λQ e=>?_);have Y:=xa2 @Stp26.c.eq_1 @Rule.c.eq_1 @Mat.c.eq_1 @Host.c.eq_1;refine lS (h:=aI (BA) wl ?_);refine lS (h:=aI (Dn) wl ?_);refine lS (h:=aI (a.dr (by simp [go_sem,tG,FF,Zg,shH,clM,pU,Rule.d,Rule.c,Types.d,Types.c,Host.d,Host.c,Mat.d,Mat.c,Slot.c,Edge.c,cL,dLI,cI,dI,Cond.E,Cond.s,Cond.map,Cond.o,mC,iI,eE])) wl ?_);exact lS (h:=e _ _ wy)
theorem ON (a:Host):Pua 10 [a.d,a.d] (.bool true):=by
 have:=Fw a a (λi _ _=>Jl _);rwa [show decide (a=a)=true by simp] at this
theorem vH:Pua 6 [] (.bool true):=by
 have g:=GY SO;have i:clS.C.ok:=by
  have e:clS.C=Zg:=by unfold clS eU;rw [if_pos cl1];rfl
  rw [e];exact Nd SZ
 have f:=Mw exT g clS i;have b:=yH exT g clS i;have k:=Kh;rw [cl2] at f;rw [cl4,cl6] at b;have m:=cl3;have j:=cl5;have o:=Cj [⟨1,0,⟨-1,5⟩⟩] [⟨1,0,⟨-1,5⟩⟩];have n:=ON shH;generalize clS=s at *;generalize l6 exT s=R at *;generalize zS exT s=u at *;simp only [Stp26.c,Rule.c,Mat.c,Host.c,dE,dF] at f b k;refine Tz.pK ⟨λt=>t==1||t==2||t==4||t==6||t==7,λr=>match r with|5=>[(11,16),(12,16),(13,16),(26,27),(26,28),(27,28)]|_=>[]⟩ func6 rfl (λQ l=>?_);have Y:=xa4 @Stp26.c.eq_1 @Rule.c.eq_1 @Mat.c.eq_1 @Host.c.eq_1 m j;refine lS (h:=aB (BA) wl ?_);refine lS (h:=aB (k) wl ?_);refine lS (h:=aB (f) wl ?_);refine lS (h:=aB (b) wl ?_);refine oL (h:=dO (λa=>(by simpa [Slot.c,Term.c,dI] using o)) (λa=>wl) ?_);refine oL (h:=dO (λa=>Dn) (λa=>wl) ?_);refine oL (h:=dO (λa=>(by simpa [Host.d,Host.c,j,dLI] using n)) (λa=>wl) ?_);refine oL (h:=dO (λa=>OS ⟨[0,1,2],[0,1]⟩) (λa=>wl) ?_);exact oL (h:=l _ _ wy)
theorem HIso.inj {a b:Host}{s:Part}(I:HIso a b s){x y:Int}(d:0<=x/\x<a.j.h.length)(c:0<=y/\y<a.j.h.length)(h:iA s.h x=iA s.h y):x=y:=by
 have e:=I.nl;have:=EE I.nd (i:=x.toNat) (j:=y.toNat) aD aD (by rw [show ((x.toNat:Nat):Int)=x by omega,show ((y.toNat:Nat):Int)=y by omega];exact h);omega
theorem HIso.cV {a b:Host}{s:Part}(I:HIso a b s){v:Int}(h:0<=v/\v<b.j.h.length):∃ x:Int,(0<=x/\x<a.j.h.length)/\iA s.h x=v:=by
 obtain ⟨i,d,c⟩:=oX (w5 (by rw [I.nl,I.nn]) I.ni I.nd h);have:=I.nl;exact ⟨i,aD,c⟩
theorem HIso.da {a b:Host}{s:Part}(I:HIso a b s){v:Int}(h:0<=v/\v<b.j.i.length):∃ x:Int,(0<=x/\x<a.j.i.length)/\iA s.i x=v:=by
 obtain ⟨i,d,c⟩:=oX (w5 (by rw [I.el,I.en]) I.ei I.ed h);have:=I.el;exact ⟨i,aD,c⟩
theorem HIso.cY {a b:Host}{s:Part}(I:HIso a b s){x y:Int}(d:0<=x/\x<a.j.i.length)(c:0<=y/\y<a.j.i.length)(h:iA s.i x=iA s.i y):x=y:=by
 have e:=I.el;have:=EE I.ed (i:=x.toNat) (j:=y.toNat) aD aD (by rw [show ((x.toNat:Nat):Int)=x by omega,show ((y.toNat:Nat):Int)=y by omega];exact h);omega
theorem HIso.dw {a b:Host}{s:Part}(I:HIso a b s){x:Int}(h:0<=x/\x<a.j.h.length):0<=iA s.h x/\iA s.h x<b.j.h.length:=I.ni _ (fB h.1 (by rw [I.nl];exact h.2))
theorem HIso.dx {a b:Host}{s:Part}(I:HIso a b s){x:Int}(h:0<=x/\x<a.j.i.length):0<=iA s.i x/\iA s.i x<b.j.i.length:=I.ei _ (fB h.1 (by rw [I.el];exact h.2))
theorem Y0 {l:W3}{n:Nat}(a:∀ x∈l,0<=x/\x<n){i:Int}(b:0<=i)(h:i<l.length):0<=l[i.toNat]?.getD 0/\l[i.toNat]?.getD 0<n:=by
 rw [aA aD];exact a _ (aC _)
theorem MQ {l:W3}{f:Int->Int}{i:Int}(h0:0<=i)(h:i<l.length):(l.map f)[i.toNat]?.getD 0=f (l[i.toNat]?.getD 0):=by
 rw [aM,aA aD];rfl
theorem Rj {l:W3}{f:Int->Int}{n:Nat}{k:Int}(b:∀ x∈l,0<=x/\x<n)(c:0<=k/\k<n)(d:∀ x y:Int,0<=x/\x<n->0<=y/\y<n->f x=f y->x=y):mem (l.map f) (f k)=mem l k:=by
 rw [aS,mem_iff,mem_iff,aW];exact ⟨λ⟨x,a,e⟩=>d x k (b x a) c e ▸ a,λh=>⟨k,h,rfl⟩⟩
theorem IR {α β:Type}{f g:α->List β}:∀ (l:List α),(∀ x∈l,f x=g x)->l.flatMap f=l.flatMap g
 | [],_=>rfl
 | a :: l,h=>by rw [oA,oA,h a dB,IR l λx hx=>h x (by simp [hx])]
def Dt (s m:Part):Part:=⟨m.h.map (iA s.h),m.i.map (iA s.i)⟩
theorem HIso.haveV {a b:Host}{s:Part}(I:HIso a b s){m:Part}(g:∀ x∈m.h,0<=x/\x<a.j.h.length){c:Slot}(f:0<=c.node)(e:c.node<m.h.length):Abs.haveV b (Dt s m) c=Abs.haveV a m c:=by
 have d:=Y0 g f e;unfold Go.Abs.haveV Dt;simp only;rw [MQ f e,I.va _ d.1 d.2]
theorem HIso.slotsV {a b:Host}{s:Part}(I:HIso a b s){m:Part}(hm:∀ x∈m.h,0<=x/\x<a.j.h.length):∀ (l:List Slot) (st:W3 × List Bool),(∀ c∈l,0<=c.node/\c.node<m.h.length)->Abs.slotsV b (Dt s m) st l=Abs.slotsV a m st l
 | [],st,_=>rfl
 | c :: l,st,h=>by
  have hc:=h c dB;have e1:=I.haveV hm hc.1 hc.2;have e2:lJ b (Dt s m) st c=lJ a m st c:=by unfold lJ;rw [e1]
  simp only [Go.Abs.slotsV];rw [e1,e2,I.slotsV hm l _ λx hx=>h x (by simp [hx])]
theorem HIso.k {a b:Host}{s:Part}(I:HIso a b s){m:Part}(d:∀ x∈m.h,0<=x/\x<a.j.h.length){p:Pattern}(h:∀ c∈p.l,0<=c.node/\c.node<m.h.length)(vs:W3):eP p b (Dt s m) vs=eP p a m vs:=by
 unfold eP;rw [I.slotsV d _ _ h]
theorem Pd {l:W3}{f:Int->Int}{n:Nat}(c:∀ x∈l,0<=x/\x<n)(g:∀ x y:Int,0<=x/\x<n->0<=y/\y<n->f x=f y->x=y):(l.map f).Nodup↔l.Nodup:=by
 rw [eX,eX,G0];constructor
 .exact λh=>h.imp λa b=>a (by rw [b])
 .exact λh=>h.imp_of_mem λe d a b=>a (g _ _ (c _ e) (c _ d) b)
theorem Dh {l:W3}{f:Int->Int}{i:Nat}(h:i<l.length):(l.map f)[i]?.getD 0=f (l[i]?.getD 0):=by
 rw [aM,aA h];rfl
theorem HIso.mNE {t:Types}{a b:Host}{s:Part}(I:HIso a b s){p:Graph}{m:Part}{i:Nat}(f:i<m.h.length)(h:Abs.mNE t p a.j m i=0):Abs.mNE t p b.j (Dt s m) i=0:=by
 unfold Go.Abs.mNE at h ⊢;split at h
 .cases h
 .rename_i h1;split at h
  .rename_i h2;have c:0<=m.h[i]?.getD 0/\m.h[i]?.getD 0<a.j.h.length:=aD;have e:(Dt s m).h[i]?.getD 0=iA s.h (m.h[i]?.getD 0):=Dh f;have g:=I.dw c;have d:=I.ty _ c.1 c.2;unfold gN at d;rw [e,if_neg aD,<- d,if_pos h2]
  .cases h
theorem HIso.mapEE {a b:Host}{s:Part}(I:HIso a b s)(q:graphF a.j=0){p:Graph}(g:graphF p=0){m:Part}(o:m.h.length=p.h.length){i:Nat}(k:i<m.i.length)(d:i<p.i.length)(h:Abs.mapEE p a.j m i=0):Abs.mapEE p b.j (Dt s m) i=0:=by
 unfold Go.Abs.mapEE at h ⊢;split at h
 .cases h
 .rename_i h1;split at h
  .cases h
  .rename_i h2;split at h
   .cases h
   .rename_i h3;have e:0<=m.i[i]?.getD 0/\m.i[i]?.getD 0<a.j.i.length:=aD;have j:(Dt s m).i[i]?.getD 0=iA s.i (m.i[i]?.getD 0):=Dh k;have r:=I.dx e;have f:=I.eg _ e.1 e.2;have c:=((dP g).2 _ (aC d)).2;rw [j,if_neg aD];unfold eA at f;rw [f];rw [aA d,Option.getD_some] at h2 h3 ⊢;have n:(Dt s m).h[p.i[i].w.toNat]?.getD 0=iA s.h (m.h[p.i[i].w.toNat]?.getD 0):=MQ c.1.1 aD;have l:(Dt s m).h[p.i[i].M.toNat]?.getD 0=iA s.h (m.h[p.i[i].M.toNat]?.getD 0):=MQ c.2.1 aD;rw [n,l];simp only [not_or,ne_eq,gU] at h2 h3;rw [if_neg (eQ h2),if_neg];rintro (h6|h6)
    .exact h6 (by rw [h3.1])
    .exact h6 (by rw [h3.2])
theorem HIso.matchE {t:Types}{a b:Host}{s:Part}(I:HIso a b s)(B:graphF a.j=0){p:Graph}(A:graphF p=0){m:Part}{inj:Bool}(h:Abs.matchE t p a.j m inj=0):Abs.matchE t p b.j (Dt s m) inj=0:=by
 have M:=qY h;unfold Go.Abs.matchE at h ⊢;have w:(Dt s m).h.length=m.h.length:=aT ..;have v:(Dt s m).i.length=m.i.length:=aT ..;rw [w,v];have z:=M.len;have E:=M.bk;rw [if_neg aD] at h ⊢;split at h
 .rename_i d;exact absurd h d
 .rename_i d;split at h
  .rename_i c;exact absurd h c
  .rename_i c;split at h
   .cases h
   .rename_i h3;rw [gU] at d c;have D:bU (Go.Abs.mNE t p b.j (Dt s m)) 0 p.h.length=0:=iK _ _ λj k g=>I.mNE aD (eI _ _ d j k g);have C:bU (Go.Abs.mapEE p b.j (Dt s m)) 0 p.i.length=0:=iK _ _ λj k g=>I.mapEE B A z aD aD (eI _ _ c j k g);rw [if_neg (by rw [D];simp),if_neg (by rw [C];simp),if_neg];rintro ⟨e,hd⟩;refine h3 ⟨e,?_⟩;have u:=Pd (l:=m.h) (f:=iA s.h) (n:=a.j.h.length) (λx o=>by
     obtain ⟨i,e,rfl⟩:=aQ o;exact (M.bj i e aD).1) (λx y d c h=>I.inj d c h)
    have r:=Pd (l:=m.i) (f:=iA s.i) (n:=a.j.i.length) (λx o=>by
     obtain ⟨i,e,rfl⟩:=aQ o;exact M.b2 i e) (λx y d c h=>I.cY d c h)
    rcases hd with hd|hd
    .exact .inl λq=>hd (u.2 q)
    .exact .inr λq=>hd (r.2 q)
end Go.Abs
end
