/- Layer 27: the undoing rule; where elements come from. · Laye -/
import Derived.Test.YtbgbahlipnaflaaGreatZvAG
import Derived.Test.YtbgbahlipnaflaaGreatZvAA
import Derived.Test.YtbgbahlipnaflaaGreatZvAX
import Derived.Test.YtbgbahlipnaflaaGreatZvAW
import Derived.Laws.BitsLemmas
set_option linter.unusedVariables false
set_option linter.unusedSimpArgs false
section
set_option maxRecDepth 100000
set_option maxHeartbeats 4000000
open Go Go.Proofs Tryz
namespace Go.Abs
structure UndOk (t:Types) (s:Stp26):Prop where
 sl:SlotsOk t s
 c1:s.B.h.length=s.x.right.j.h.length
 c2:∀ x∈s.B.h,0<=x/\x<s.after.j.h.length
 c3:s.B.i.length<=1000
 m1:s.U.m.h.length=s.x.left.j.h.length
 m2:∀ x∈s.U.m.h,0<=x/\x<s.C.j.h.length
 Y:(s.x.right.j.h.length<=1000/\s.x.right.j.i.length<=1000)/\s.x.left.j.h.length<=1000/\s.x.left.j.i.length<=1000
 k:s.x.s.h.length=s.x.q.h.length/\s.x.s.i.length=s.x.q.i.length
 il:s.x.s.h.length<=1000000/\s.x.s.i.length<=1000000
 cw:s.x.s.h.Nodup/\s.x.s.i.Nodup
 ir:(∀ x∈s.x.s.h,0<=x/\x<s.x.right.j.h.length)/\∀ x∈s.x.s.i,0<=x/\x<s.x.right.j.i.length
section
variable {t:Types} {r:Rule} {h:Host} {m:Mat}
theorem StepIn.a6 (S:StepIn t r h m):∀ x∈(cT r h m).h,0<=x/\x<(bP t r h m).j.h.length:=λx hx=>by
 obtain ⟨i,hi,rfl⟩:=mZ hx;rw [S.bc,eV] at hi;rw [S.cd,S.bc];exact S.ak.cj (j:=(i:Int)) aD
theorem StepIn.bh (S:StepIn t r h m):∀ x∈(cT r h m).i,0<=x/\x<(bP t r h m).j.i.length:=λx hx=>by
 obtain ⟨i,hi,rfl⟩:=mZ hx;rw [S.ca,eV] at hi;rw [S.b4,S.ca];exact S.ba.cj (j:=(i:Int)) aD
theorem StepOk.e2 (K:StepOk t r h m):SlotsOk t (aP t r h m):=by
 have u:m.m.h.length=r.left.j.h.length:=K.S.hm.len;have v:=bK K.S.hR.pl.gg;have s:=K.S.ho.vl;have a:∀ i:Nat,i<m.m.h.length->0<=iA m.m.h i/\iA m.m.h i<h.j.h.length:=λi b=>K.S.d6 _ (eB aD aD);have c:∀ i:Nat,i<m.m.h.length->(n7 (aP t r h m) i).length=(bL t (gN h.j (iA m.m.h i))).length:=λi b=>K.S.ho.di (a i b).1 (a i b).2;refine ⟨by show m.m.h.length<=1000;omega,λi b=>⟨⟨(a i b).1,by have:=(a i b).2;show iA m.m.h i<h.k.length;omega,(a i b).2⟩,c i b,by rw [c i b];exact pV K.S.ho.vf _⟩,λi b j=>?_⟩;have o:=a i b;have k:=K.S.ak.ap ((mem_iff _ _).1 j);obtain ⟨p,e,q,_⟩:=K.S.ak.a8 k;have f:=K.S.cd;have l:=K.S.cA;have g:=K.em.1;have d:=K.ep (i:=(iA m.m.h i).toNat) aD (by rw [K.S.b2,show (((iA m.m.h i).toNat:Nat):Int)=iA m.m.h i by omega,e];omega);rw [show (((iA m.m.h i).toNat:Nat):Int)=iA m.m.h i by omega] at d;have n:(bP t r h m).j.h.length=(bT t r h m).j.h.length:=rfl;refine ⟨?_,?_,?_,?_⟩
 .show iA m.m.h i<(dK r h m).h.length;rw [K.S.b2,jT];exact o.2
 .show 0<=iA (dK r h m).h (iA m.m.h i);rw [K.S.b2,e];omega
 .show iA (dK r h m).h (iA m.m.h i)<(bP t r h m).k.length;rw [K.S.b2,e];omega
 .show (h.k[(iA m.m.h i).toNat]?.getD []).length<=((bP t r h m).k[(iA (dK r h m).h (iA m.m.h i)).toNat]?.getD []).length;rw [d.v2];exact bC _
theorem StepOk.dN (K:StepOk t r h m)(hr:r.ok):UndOk t (aP t r h m) where
 sl:=K.e2
 c1:=by show (cT r h m).h.length=_;rw [K.S.bc,eV];rfl
 c2:=K.S.a6
 c3:=by
  have:=bK K.S.hR.gr;show (cT r h m).i.length<=1000;rw [K.S.ca,eV];omega
 m1:=K.S.hm.len
 m2:=K.S.d6
 Y:=by
  have h1:=bK K.S.hR.gr;have h2:=bK K.S.hR.pl.gg;exact ⟨⟨by show r.right.j.h.length<=_;omega,by show r.right.j.i.length<=_;omega⟩,by show r.left.j.h.length<=_;omega,by show r.left.j.i.length<=_;omega⟩
 k:=⟨K.S.hR.q.1.1.symm,K.S.hR.q.1.2.symm⟩
 il:=⟨hr.i1,hr.i2⟩
 cw:=K.S.cp
 ir:=⟨K.S.hR.q.2.2.2.1,K.S.hR.q.2.2.2.2⟩
end
def HY (t:Types)(s:Stp26):Int:=if 10<(i9 t s s.U.m.h.length).length then 3 else 0
def HW (t:Types)(s:Stp26):Rule:=if 10<(i9 t s s.U.m.h.length).length then jF else dC t s
theorem V3 (l:List Slot):eW (l.map Slot.c)=l.map Slot.c:=kQ λc hc=>by
 rw [aT] at hc;obtain ⟨x,_,rfl⟩:=hc;rfl
theorem G5 (t:Types)(y:t.ok)(s:Stp26)(x:UndOk t s):Pua 127 [t.d,.agg s.c] (.tup [(HW t s).d,dI (HY t s)]):=by
 obtain ⟨f,C,i,B,z,g,⟨⟨J,I⟩,H,G⟩,⟨u,q⟩,⟨w,v⟩,a,l⟩:=x;have j:=Li t y s f;obtain ⟨L,k⟩:=c7 (i9 t s s.U.m.h.length);rw [<- k] at j;have p:=Ce s.x.right.j s.after.j s.B.h aD aD i;have o:=Ce s.x.left.j s.C.j s.U.m.h aD aD g;obtain ⟨F,e⟩:∃ zs,zs=s.B.h.map (gN s.after.j):=⟨_,rfl⟩;obtain ⟨E,b⟩:∃ zs,zs=s.U.m.h.map (gN s.C.j):=⟨_,rfl⟩;rw [<- e] at p;rw [<- b] at o;simp only [Stp26.c,Rule.c,Mat.c,Host.c,dP,dS] at j;refine qP gt (λQ n=>(Tz.cK ⟨λt=>t==4||t==6||t==7,λr=>match r with|2=>[(0,40),(1,40),(2,40),(3,40),(4,40),(5,40),(6,40),(7,40),(8,40),(9,40),(10,40),(11,40),(13,40),(14,40),(15,40),(16,40),(17,40),(18,40),(19,40),(20,40),(21,40),(22,40),(23,40),(24,40),(25,40),(26,40),(28,40),(29,40),(30,40),(31,40),(33,40),(34,40),(35,40),(36,40)]|_=>[]⟩ func127 rfl ?_));have Y:=xa2 @Stp26.c.eq_1 @Rule.c.eq_1 @Mat.c.eq_1 @Host.c.eq_1;refine rL (h:=aH (p) wl ?_);refine rL (h:=aH (o) wl ?_);refine rL (h:=aH (j) wl ?_);refine rL (h:=aH (xP s.B.h aD) wl ?_);refine rL (h:=dM (λA=>xP s.B.i aD) (λA=>wl) ?_);refine rL (h:=aB (Cf s.x.q.h s.x.s.h s.x.right.j.h.length a.1 l.1 u w) wl ?_);refine rL (h:=aB (Cf s.x.q.i s.x.s.i s.x.right.j.i.length a.2 l.2 q v) wl ?_);refine rL (h:=wq (λD=>?_) λD=>?_)
 .refine j4 (h:=?_);exact n _ _ (by simp [go_sem,HW,HY,<- k,(aD:10<L.length),jF,o8,Rule.d,Rule.c,Cond.D,Cond.u,Cond.map,Cond.o])
 .refine j4 (h:=?_);exact n _ _ (by simp [go_sem,Y,HW,HY,<- k,(aD:¬ 10<L.length),dC,gX,iZ,XA,lD,<- e,<- b,Rule.d,Rule.c,Cond.D,Cond.u,Cond.map,Cond.o,eQ,qT,V3])
theorem WL (c b a:V2)(k:Nat):LP c b a (k+1)=LP c b a k++if 0<=iA b k then [(iA b k,idx a (iA c k))] else []:=by simp [LP,bR]
theorem WK (b a keep:V2)(k:Nat):OZ b a keep (k+1)=OZ b a keep k++if mem keep k=true then [] else [(iA b k,iA a k)]:=by simp [OZ,bR]
theorem Dy (n:Nat)(h d c f j keep:V2)(hn:n<=1000000)(a1:d.length<=h.length)(a2:∀ x∈d,x<n)(a3:∀ x∈f,0<=x/\x<n)(a4:f.length<=j.length) :
  Pua 129 [dI n,dLI h,dLI d,dLI c,dLI f,dLI j,dLI keep] (dLI (Db n h d c f j keep)):=by
 refine Tz.pK ⟨λt=>t==15,λ_=>[]⟩ func129 rfl (λQ hQ=>?_);try simp [go_sem,seval]
 repeat first|intro _|refine ⟨fK,?_⟩
 obtain ⟨I0,A⟩:∃ I0:Nat->eF->AHeap->Prop,∀ (i:Nat) (e:eF) (H:AHeap),I0 i e H↔(∃ w:V2,(e 1=dLI h)/\(e 3=dLI c)/\(e 4=dLI f)/\(e 5=dLI j)/\(e 6=dLI keep)/\(e 15=.own 0 n)/\(e 22=dLI d)/\(e 23=dI d.length)/\(e 24=dI i)/\(H.get 0=some ⟨3,1,w.map cI,false⟩)/\(0<H.next)/\(i<=d.length)/\(w=oW (LP h d c i) (List.replicate n 0))/\(w.length=n)):=⟨λi e H=>_,λ_ _ _=>Iff.rfl⟩;refine Aa I0 (λi=>d.length - i) (0) ((A _ _ _).2 ⟨((List.replicate n 0)),?_,?_,?_,?_,?_,?_,?_,?_,?_,?_,?_,(by first|assumption|omega|(simp [go_sem];done)|(simp_all;done)),(by rfl),(by simp)⟩) ?_;iterate 11 (first|omega|(simp [go_sem,seval]<;>omega))
 intro i e H b0;obtain ⟨w,Z,X,V,T,R,M,K,I,F,a7,a5,hi,hx,m⟩:=(A _ _ _).1 b0;have x0:=bS a5;have v:=xa9 Z X V T R M K I F a7 x0;try simp [go_sem,seval,v]
 refine bB (λp=>?_) (λp=>?_)
 .try simp [go_sem] at p
  have hP:=WL h d c i;have r:i<h.length:=aD;rw [iK p,iK r] at hP;have b2:=a2 _ (aC p);try simp [go_sem,seval,v,p,aA p,aA r,m]
  repeat first|intro _|refine ⟨fK,?_⟩
  refine bB (λO=>?_) (λO=>?_)
  .try simp [go_sem] at O
   have a8:0<=d[i]:=by simpa using O
   have g:d[i].toNat<w.length:=aD;obtain ⟨y,a⟩:=c7 (w.set d[i].toNat (idx c h[i]));have q:y=oW (LP h d c (i+1)) (List.replicate n 0):=by rw [a,hP,if_pos a8,It,<- hx]
   try simp [go_sem,seval,v,p,aA p,aA r,m,aA g,a,cW]
   repeat first|intro _|refine ⟨fK,?_⟩
   refine aB (uE c h[i]) ((by first|rfl|(simp [go_sem,<- List.map_take,<- List.map_drop,v,p,aA p,aA r,m,aA g,a,cW];done))) ?_;try simp [go_sem,seval,v,p,aA p,aA r,m,aA g,a,cW]
   repeat first|intro _|refine ⟨fK,?_⟩
   refine iO (i+1) aD ((A _ _ _).2 ⟨(y),?_,?_,?_,?_,?_,?_,?_,?_,?_,?_,?_,(by first|assumption|omega|(simp [go_sem,v,p,aA p,aA r,m,aA g,a,cW,O];done)|(simp_all<;>omega)),(by exact q),(by rw [q,kG,fM])⟩)<;>first|omega|(simp [go_sem,seval,v,p,aA p,aA r,m,aA g,a,cW]<;>omega)
  .try simp [go_sem] at O
   obtain ⟨y,a⟩:=c7 (w);have q:y=oW (LP h d c (i+1)) (List.replicate n 0):=by rw [a,hP,if_neg (bY O),dU,<- hx]
   try simp [go_sem,seval,v,p,aA p,aA r,m,a]
   repeat first|intro _|refine ⟨fK,?_⟩
   refine iO (i+1) aD ((A _ _ _).2 ⟨(y),?_,?_,?_,?_,?_,?_,?_,?_,?_,?_,?_,(by first|assumption|omega|(simp [go_sem,v,p,aA p,aA r,m,a,O];done)|(simp_all<;>omega)),(by exact q),(by rw [q,kG,fM])⟩)<;>first|omega|(simp [go_sem,seval,v,p,aA p,aA r,m,a]<;>omega)
 .try simp [go_sem] at p
  have hX:w=oW (LP h d c d.length) (List.replicate n 0):=by rw [hx,(aD:i=d.length)]
  try simp [go_sem,seval,v]
  repeat first|intro _|refine ⟨fK,?_⟩
  obtain ⟨I2,z⟩:∃ I2:Nat->eF->AHeap->Prop,∀ (k:Nat) (e:eF) (H:AHeap),I2 k e H↔(∃ B:V2,(e 1=dLI h)/\(e 3=dLI c)/\(e 4=dLI f)/\(e 5=dLI j)/\(e 6=dLI keep)/\(e 15=.own 0 n)/\(e 22=dLI d)/\(e 23=dI d.length)/\(e 41=dLI f)/\(e 42=dI f.length)/\(e 43=dI k)/\(H.get 0=some ⟨3,1,B.map cI,false⟩)/\(0<H.next)/\(k<=f.length)/\(B=oW (OZ f j keep k) w)/\(B.length=n)):=⟨λk e H=>_,λ_ _ _=>Iff.rfl⟩;refine Aa I2 (λk=>f.length - k) (0) ((z _ _ _).2 ⟨(w),?_,?_,?_,?_,?_,?_,?_,?_,?_,?_,?_,(iq v),?_,(by first|assumption|omega|(simp [go_sem,v];done)|(simp_all;done)),(by rfl),(by exact m)⟩) ?_;iterate 12 (first|omega|(simp [go_sem,seval,v]<;>omega))
  intro k e H a9;obtain ⟨B,Y,W,U,S,P,L,J,G,E,D,C,b,a0,hk,hy,b1⟩:=(z _ _ _).1 a9;have x0:=bS a0;have u:=xb0 Y W U S P L J G E D C x0;try simp [go_sem,seval,u,b]
  refine bB (λl=>?_) (λl=>?_)
  .try simp [go_sem] at l
   have o:k<j.length:=aD;have b3:=a3 _ (aC l);have g:f[k].toNat<B.length:=aD;have N:=WK f j keep k;rw [iK l,iK o] at N;try simp [go_sem,seval,u,b,l,aA l,aA o,aA g]
   repeat first|intro _|refine ⟨fK,?_⟩
   refine aB (gF keep k) ((by first|rfl|(simp [go_sem,<- List.map_take,<- List.map_drop,u,b,l,aA l,aA o,aA g];done))) ?_;try simp [go_sem,seval,u,b,l,aA l,aA o,aA g]
   repeat first|intro _|refine ⟨fK,?_⟩
   refine bB (λs=>?_) (λs=>?_)
   .try simp [go_sem] at s
    obtain ⟨y,a⟩:=c7 (B.set f[k].toNat j[k]);have q:y=oW (OZ f j keep (k+1)) w:=by rw [a,N,if_neg (bY s),It,<- hy]
    try simp [go_sem,seval,u,b,l,aA l,aA o,aA g,a,cW]
    repeat first|intro _|refine ⟨fK,?_⟩
    refine iO (k+1) aD ((z _ _ _).2 ⟨(y),?_,?_,?_,?_,?_,?_,?_,?_,?_,?_,?_,(by simp [go_sem,u,b,l,aA l,aA o,aA g,a,cW]),?_,(by first|assumption|omega|(simp [go_sem,u,b,l,aA l,aA o,aA g,a,cW,p,s];done)|(simp_all<;>omega)),(by exact q),(by rw [q,kG];exact m)⟩)<;>first|omega|(simp [go_sem,seval,u,b,l,aA l,aA o,aA g,a,cW]<;>omega)
   .try simp [go_sem] at s
    obtain ⟨y,a⟩:=c7 (B);have q:y=oW (OZ f j keep (k+1)) w:=by rw [a,N,if_pos (bY s),dU,<- hy]
    try simp [go_sem,seval,u,b,l,aA l,aA o,aA g,a]
    repeat first|intro _|refine ⟨fK,?_⟩
    refine iO (k+1) aD ((z _ _ _).2 ⟨(y),?_,?_,?_,?_,?_,?_,?_,?_,?_,?_,?_,(by simp [go_sem,u,b,l,aA l,aA o,aA g,a]),?_,(by first|assumption|omega|(simp [go_sem,u,b,l,aA l,aA o,aA g,a,p,s];done)|(simp_all<;>omega)),(by exact q),(by rw [q,kG];exact m)⟩)<;>first|omega|(simp [go_sem,seval,u,b,l,aA l,aA o,aA g,a]<;>omega)
  .try simp [go_sem] at l
   have hE:B=Db n h d c f j keep:=by rw [hy,(aD:k=f.length),hX];rfl
   have a6:=YF n h d c f j keep;rw [hE] at b;try simp [go_sem,seval,u,b,b]
   exact hQ _ _ (by first|(left;(simp [go_sem,u,b,b,a6,dLI]);done)|(right;(simp [go_sem,u,b,b,a6,dLI]);done))
def tY (t:Types)(s:Stp26):Bool:=decide (jJ t s.x s.C s.U=0)&&decide (fQ t s.x s.C s.U=s)
theorem OT {t:Types}{s:Stp26}(e:s.x.ok)(h:tY t s=true):s=aP t s.x s.C s.U/\StepOk t s.x s.C s.U/\UndOk t s:=by
 unfold tY at h;simp only [aM,decide_eq_true_eq] at h;obtain ⟨b,a⟩:=h;unfold fQ at a;rw [if_pos b] at a;have f:fW t s.x s.C=0/\gM t s.x s.C s.U=0:=by
  unfold jJ at b;split at b
  .contradiction
  .rename_i hh;exact ⟨by simpa using hh,b⟩
 obtain ⟨d,c⟩:=uG f.1;have K:=Xg (IB e d) (lK c) f.2;refine ⟨a.symm,K,?_⟩;have g:=K.dN e;rw [a] at g;exact g
theorem Ey:(Cond.mk 1 [] ⟨[],[]⟩ XA).ok/\(Cond.mk 1 [] ⟨[],[]⟩ XA).size<=1000000:=by
 refine ⟨(s5 _).2 ⟨⟨?_,?_,?_,?_,?_,?_⟩,?_⟩,?_⟩<;>simp [Cond.map,Cond.o,Cond.u,XA,Cond.size,Cond.aa]
theorem HX {t:Types}{s:Stp26}(b:s.x.ok)(a:UndOk t s):(dC t s).ok:=by
 obtain ⟨⟨⟨f,e⟩,d,c⟩⟩:=show _/\True from ⟨a.Y,trivial⟩;have h:=BD s.x.s.h s.x.right.j.h.length;have g:=BD s.x.s.i s.x.right.j.i.length;refine ⟨b.name,?_,?_,?_,?_,Ey.1,Ey.2⟩
 .show (fH s.x.s.h s.x.right.j.h.length).length<=1000000;omega
 .show (fH s.x.s.i s.x.right.j.i.length).length<=1000000;omega
 .show (dA (fH s.x.s.h s.x.right.j.h.length) s.x.s.h s.x.q.h).length<=1000000;unfold dA;rw [aR];omega
 .show (dA (fH s.x.s.i s.x.right.j.i.length) s.x.s.i s.x.q.i).length<=1000000;unfold dA;rw [aR];omega
def CD (t:Types)(s:Stp26):Int:=if (dG t).2≠0 then (dG t).2 else if tY t s=true then 0 else 1
def Cc (t:Types)(s:Stp26):Int:=if CD t s≠0 then CD t s else HY t s
def qL (t:Types)(s:Stp26):Rule:=if CD t s≠0 then jF else HW t s
structure CmpA (t:Types) (s:Stp26):Prop where
 b:∀ i (h1:i<(fQ t s.x s.C s.U).C.k.length) (h2:i<s.C.k.length),KN (fQ t s.x s.C s.U).C.k[i] s.C.k[i]
 a:∀ i (h1:i<(fQ t s.x s.C s.U).after.k.length) (h2:i<s.after.k.length),KN (fQ t s.x s.C s.U).after.k[i] s.after.k[i]
theorem Cg (t:Types)(m:t.ok)(s:Stp26)(q:s.x.ok):Pua 58 [t.d,.agg s.c] (.tup [(qL t s).d,dI (Cc t s)]):=by
 have v:=Cd t m;have p:=PE t m s q rfl rfl;have n:tY t s=true->Pua 127 [t.d,.agg s.c] (.tup [(HW t s).d,dI (HY t s)]):=λh=>G5 t m s (OT q h).2.2;obtain ⟨b,f⟩:=c7 (tY t s);have a:(decide (jJ t s.x s.C s.U=0)&&decide (fQ t s.x s.C s.U=s))=b:=f.symm;rw [a] at p;rw [<- f] at n;obtain ⟨e,g⟩:=c7 ((dG t).2);rw [<- g] at v;have r:qL t s=if e≠0 then jF else if b=true then HW t s else jF:=by unfold qL CD;rw [<- g,<- f];by_cases l:e=0<;>by_cases k:b=true<;>simp [l,k]
 have u:Cc t s=if e≠0 then e else if b=true then HY t s else 1:=by unfold Cc CD;rw [<- g,<- f];by_cases l:e=0<;>by_cases k:b=true<;>simp [l,k]
 rw [r,u];simp only [Stp26.c,Rule.c,Mat.c,Host.c,dP,dS] at p n;clear f a g r u;refine Tz.pK ⟨λt=>t==4,λ_=>[]⟩ func58 rfl (λQ o=>?_);have Y:=xa2 @Stp26.c.eq_1 @Rule.c.eq_1 @Mat.c.eq_1 @Host.c.eq_1;refine j4 (h:=aB (v) wl ?_);refine j4 (h:=wq (λj=>?_) λj=>?_)
 .exact j4 (h:=o _ _ (by simp [go_sem,j,jF,o8,Rule.d,Rule.c,Cond.D,Cond.u,Cond.map,Cond.o]))
 .refine rL (h:=aB (p) wl ?_);refine rL (h:=wq (λi=>?_) λi=>?_)
  .exact j4 (h:=o _ _ (by simp [go_sem,j,i,jF,o8,Rule.d,Rule.c,Cond.D,Cond.u,Cond.map,Cond.o]))
  .refine j4 (h:=aB (n (bY i)) wl ?_);exact j4 (h:=o _ _ (by simp [go_sem,j,i]))
theorem N6 (t:Types)(b:t.ok)(s:Stp26)(e:s.x.ok):Pua 20 [t.d,.agg s.c] (.tup [(qL t s).d,dI (Cc t s)]):=by
 have a:=Cg t b s e;simp only [Stp26.c,Rule.c,Mat.c,Host.c,dP,dS] at a;refine Tz.pK ⟨λt=>t==4,λ_=>[]⟩ func20 rfl (λQ f=>?_);have Y:=xa2 @Stp26.c.eq_1 @Rule.c.eq_1 @Mat.c.eq_1 @Host.c.eq_1;refine j4 (h:=aB (a) wl ?_);exact j4 (h:=f _ _ wy)
def JJ (s u:Stp26):Part:=⟨CH s.V.h u.V.h u.B.h s.U.m.h u.after.j.h.length,CH s.V.i u.V.i u.B.i s.U.m.i u.after.j.i.length⟩
structure IsoOk (s u:Stp26):Prop where
 fn:u.after.j.h.length<=1000000/\u.after.j.i.length<=1000000
 ft:(∀ x∈s.V.h,x<u.V.h.length)/\∀ x∈s.V.i,x<u.V.i.length
 fu:(∀ x∈u.V.h,x<u.after.j.h.length)/\∀ x∈u.V.i,x<u.after.j.i.length
 fc:(∀ x∈u.B.h,0<=x/\x<u.after.j.h.length)/\∀ x∈u.B.i,0<=x/\x<u.after.j.i.length
 fm:u.B.h.length<=s.U.m.h.length/\u.B.i.length<=s.U.m.i.length
def stpZ:UN:=[.str ⟨#[]⟩,.nil,.nil,.nil,.int .i64 (0),.nil,.nil,.nil,.nil,.int .i64 (0),.nil,.nil,.nil,.nil,.nil,.bool false,.int .i64 (0),.nil,.nil,.nil,.nil,.nil,.nil,.int .i64 (0),.nil,.nil,.nil,.nil,.nil,.nil,.nil,.nil,.nil,.nil,.nil,.nil,.nil,.nil]
@[go_sem] theorem aeT:stpZ.length=38:=rfl
def GK (s u:Stp26)(m0:Part):Part:=⟨Db u.after.j.h.length m0.h u.V.h s.V.h u.B.h s.U.m.h s.x.q.h,Db u.after.j.i.length m0.i u.V.i s.V.i u.B.i s.U.m.i s.x.q.i⟩
structure BackOk (s u:Stp26) (m0:Part):Prop where
 fn:u.after.j.h.length<=1000000/\u.after.j.i.length<=1000000
 fi:u.V.h.length<=m0.h.length/\u.V.i.length<=m0.i.length
 fu:(∀ x∈u.V.h,x<u.after.j.h.length)/\∀ x∈u.V.i,x<u.after.j.i.length
 fc:(∀ x∈u.B.h,0<=x/\x<u.after.j.h.length)/\∀ x∈u.B.i,0<=x/\x<u.after.j.i.length
 fm:u.B.h.length<=s.U.m.h.length/\u.B.i.length<=s.U.m.i.length
def F1 (s:Stp26)(m0:Part):Mat:=⟨⟨s.B.h.map (idx m0.h),s.B.i.map (idx m0.i)⟩,[]⟩
theorem XI (t:Types):mK t.d=t.d:=by simp [Types.d,Types.c,mK,iI,uC,Gt]
theorem Zt (r:Rule):mK r.d=r.d:=by simp [Rule.d,Rule.c,mK,iI,dLI,dI,eQ,qT,DW,DV,Ji]
theorem Zu (h:Host):mK h.d=h.d:=by simp [Host.d,Host.c,mK,iI,dLI,dI,eQ,qT,XK]
theorem abX (l:V2):mK (dLI l)=dLI l:=by simp [dLI,mK,eQ]
theorem Z6 (t:Types)(r:Rule)(h:Host)(a b:V2):[t.d,r.d,h.d,.agg [dLI a,dLI b,.nil]].map mK=[t.d,r.d,h.d,.agg [dLI a,dLI b,dLI []]]:=by
 simp [XI,Zt,Zu,mK,iI,abX];simp [dLI]
theorem N4 (t:Types)(ht:t.ok)(s:Stp26)(r:Rule)(hr:r.ok)(h:Host)(m0:Part)(a6:s.B.h.length<=1000)(a5:s.B.i.length<=1000){v:Stp26}{er:Int}(hv:v=fQ t r h (F1 s m0))(he:er=jJ t r h (F1 s m0))(a:er=0->BackOk s v m0) :
  Pua 59 [t.d,.agg s.c,r.d,h.d,m0.d] (.tup [.agg (if er=0 then v else mO).c,(if er=0 then GK s v m0 else ⟨[],[]⟩:Part).d,dI er]):=by
 have O:=tO t ht r hr h (F1 s m0) hv he;obtain ⟨R,N⟩:∃ M,M=s.B.h.map (idx m0.h):=⟨_,rfl⟩;obtain ⟨M2,L⟩:∃ M,M=s.B.i.map (idx m0.i):=⟨_,rfl⟩;have a2:F1 s m0=⟨⟨R,M2⟩,[]⟩:=by rw [N,L];rfl
 rw [a2] at O;have l1:R.length=s.B.h.length:=by rw [N];simp
 have l2:M2.length=s.B.i.length:=by rw [L];simp
 have bN:=λf:er=0=>Dy v.after.j.h.length m0.h v.V.h s.V.h v.B.h s.U.m.h s.x.q.h (a f).fn.1 (a f).fi.1 (a f).fu.1 (a f).fc.1 (a f).fm.1;have bE:=λf:er=0=>Dy v.after.j.i.length m0.i v.V.i s.V.i v.B.i s.U.m.i s.x.q.i (a f).fn.2 (a f).fi.2 (a f).fu.2 (a f).fc.2 (a f).fm.2;obtain ⟨p,W⟩:=c7 (Db v.after.j.h.length m0.h v.V.h s.V.h v.B.h s.U.m.h s.x.q.h);obtain ⟨q,V⟩:=c7 (Db v.after.j.i.length m0.i v.V.i s.V.i v.B.i s.U.m.i s.x.q.i);have S:GK s v m0=⟨p,q⟩:=by rw [W,V];rfl
 rw [<- W] at bN;rw [<- V] at bE;rw [S];simp only [Stp26.c,Rule.c,Mat.c,Host.c,dP,dS] at O;have O:=O.gk (Z6 t r h R M2);unfold Rule.d Host.d at O;simp only [Rule.c,Host.c] at O;clear a W V S hv he;refine Tz.pK ⟨λt=>t==10||t==11||t==13||t==18,λr=>match r with|5=>[(0,7),(1,7),(2,7)]|10=>[(0,7),(1,7),(2,7)]|_=>[]⟩ func59 rfl (λQ hQ=>?_);have Y:=xa2 @Stp26.c.eq_1 @Rule.c.eq_1 @Mat.c.eq_1 @Host.c.eq_1;refine rL (h:=l9 (Ghosts.step (Ghosts.step (Ghosts.refl _) 2 0 0 3 1 _ _ (rfl) rfl rfl rfl) 2 0 1 3 1 _ _ (rfl) rfl rfl rfl) (λi e H=>(e 5=.adr t.c/\e 6=.adr s.c/\e 7=.adr r.c/\e 8=.adr h.c/\e 9=.adr m0.c/\e 10=.ptr 0 1 0 0/\e 11=.ptr 1 1 0 0/\e 13=.ptr 2 1 0 0/\e 22=dLI s.B.h/\e 23=dI s.B.h.length/\e 24=dI i)/\(H.get 0=some ⟨57,38,[stpZ],false⟩)/\(0<H.next)/\(H.get 1=some ⟨36,2,[[.nil,.nil]],false⟩)/\(1<H.next)/\(H.get 2=some ⟨55,3,[[.own 3 i,.own 4 0,.nil]],false⟩)/\(2<H.next)/\(H.get 3=some ⟨3,1,((s.B.h.take i).map (idx m0.h)).map cI,false⟩)/\(3<H.next)/\(H.get 4=some ⟨3,1,[],false⟩)/\(4<H.next)/\(i<=s.B.h.length)) (λi=>s.B.h.length - i) 0 ⟨wg,(by simp [go_sem,Y,stpZ]),wn,wn,wn,wn,wn,(by rfl),wn,wn,wn,wi⟩ λI0 a4 i e H a0=>?_);obtain ⟨E0,K,E,I,C,o,A,l,y,j,w,hi⟩:=a0;have Y:=xb0 Y E0 K (bS E) I (bS C) o (bS A) l (bS y) j (bS w);refine j4 (h:=wq (λU=>?_) λU=>?_)
 .have hSt:(s.B.h.take (i+1)).map (idx m0.h)=(s.B.h.take i).map (idx m0.h)++[idx m0.h s.B.h[i]]:=by rw [List.take_succ_eq_append_getElem U,List.map_append];rfl
  have a1:((s.B.h.take i).map (idx m0.h)).length=i:=by simp;omega
  have Y:=xa2 Y U (aA U) a1;refine rL (h:=aH (uE m0.h s.B.h[i]) wl ?_);exact rL (h:=wx a4 (i+1) ⟨wg,cl,wn,wn,wn,wn,wn,(iv hSt),wn,wn,wn,wj⟩)
 .have S:i=s.B.h.length:=aD;rw [aG aD,<- N] at l;rw [S,<- l1] at o;have Y:=xa2 @Stp26.c.eq_1 @Rule.c.eq_1 @Mat.c.eq_1 (xb0 @Host.c.eq_1 E0 K (bS E) I (bS C) o (bS A) l (bS y) j (bS w));refine rL (h:=bA (λk e H=>(e 5=.adr t.c/\e 6=.adr s.c/\e 7=.adr r.c/\e 8=.adr h.c/\e 9=.adr m0.c/\e 10=.ptr 0 1 0 0/\e 11=.ptr 1 1 0 0/\e 13=.ptr 2 1 0 0/\e 22=dLI s.B.h/\e 23=dI s.B.h.length/\e 42=dLI s.B.i/\e 43=dI s.B.i.length/\e 44=dI k)/\(H.get 0=some ⟨57,38,[stpZ],false⟩)/\(0<H.next)/\(H.get 1=some ⟨36,2,[[.nil,.nil]],false⟩)/\(1<H.next)/\(H.get 2=some ⟨55,3,[[.own 3 R.length,.own 4 k,.nil]],false⟩)/\(2<H.next)/\(H.get 3=some ⟨3,1,R.map cI,false⟩)/\(3<H.next)/\(H.get 4=some ⟨3,1,((s.B.i.take k).map (idx m0.i)).map cI,false⟩)/\(4<H.next)/\(k<=s.B.i.length)) (λk=>s.B.i.length - k) 0 ⟨wg,wn,wn,wn,wn,wn,wn,wn,wn,(by exact j),wn,wi⟩ λI2 a3 k e H Z=>?_);obtain ⟨E2,J,D,G,B,n,z,F,x,g,u,hk⟩:=Z;have Y:=xb0 Y E2 J (bS D) G (bS B) n (bS z) F (bS x) g (bS u);refine j4 (h:=wq (λT=>?_) λT=>?_)
  .have hSt2:(s.B.i.take (k+1)).map (idx m0.i)=(s.B.i.take k).map (idx m0.i)++[idx m0.i s.B.i[k]]:=by rw [List.take_succ_eq_append_getElem T,List.map_append];rfl
   have P:((s.B.i.take k).map (idx m0.i)).length=k:=by simp;omega
   have Y:=xa2 Y T (aA T) P;refine rL (h:=aH (uE m0.i s.B.i[k]) wl ?_);exact rL (h:=wx a3 (k+1) ⟨wg,wn,wn,wn,wn,wn,wn,wn,wn,(iv hSt2),wn,wj⟩)
  .have hK:k=s.B.i.length:=aD;rw [aG aD,<- L] at g;rw [hK,<- l2] at n;have Y:=xa2 @Stp26.c.eq_1 @Rule.c.eq_1 @Mat.c.eq_1 (xb0 @Host.c.eq_1 E2 J (bS D) G (bS B) n (bS z) F (bS x) g (bS u));refine j4 (h:=Bj (O) wz wl wz ?_);refine j4 (h:=wq (λb=>?_) λb=>?_)
   .refine j4 (h:=?_);have X:¬ er=0:=by simpa using b
    exact hQ _ _ (by simp [go_sem,X,mO,jF,o8,jQ,Part.d,Part.c,Stp26.c,Rule.c,Mat.c,Host.c,Cond.D,Cond.u,Cond.map,Cond.o,dLI,dI])
   .refine rL (h:=aH (bN (bY b)) wl ?_);refine rL (h:=aH (bE (bY b)) wl ?_);refine rL (h:=?_);have hz:er=0:=by simpa using b
    exact hQ _ _ (by simp [go_sem,Y,hz,Part.d,Part.c,Stp26.c,Rule.c,Mat.c,Host.c])
def xS (s:Stp26)(b:Part):Stp26:=⟨s.x,s.U,s.C,s.after,⟨mE s.V.h b.h,mE s.V.i b.i⟩,s.B⟩
def D9 (m:Part):Part:=⟨oR m.h,oR m.i⟩
def w3 (g:Graph):Part:=⟨f6 g.h.length,f6 g.i.length⟩
theorem wF {n:Nat}{k:Int}(h0:0<=k)(h:k<n):iA (f6 n) k=k:=by
 unfold iA f6;rw [aN,gJ aD];simp;omega
theorem HE {n:Nat}:∀ x∈f6 n,0<=x/\x<n:=λx hx=>by
 unfold f6 at hx;obtain ⟨k,hk,rfl⟩:=aT.1 hx;have:=aV.1 hk;omega
theorem DZ (n:Nat):(f6 n).Nodup:=by
 unfold f6;rw [e8,Am];exact List.pairwise_lt_range.imp λh=>by omega
theorem D8 {n:Nat}{k:Int}(a:0<=k)(h:k<n):iA (oR (f6 n)) k=k:=by
 have:=(OB (g9 n) HE (DZ n) a h).2;rw [wF a h] at this;exact this
theorem MV {t:Types}{g:Host}(ho:HostOk t g):HIso g g (w3 g.j) where
 nl:=g9 _
 el:=g9 _
 nn:=rfl
 en:=rfl
 av:=ho.vl
 bv:=ho.vl
 ni:=HE
 ei:=HE
 nd:=DZ _
 ed:=DZ _
 ty p h0 h:=by show _=gN g.j (iA (f6 _) p);rw [wF h0 h]
 eg p h0 h:=by
  have hE:=wN ho.gg h0 h;show eA g.j (iA (f6 _) p)=⟨_,iA (f6 _) _,iA (f6 _) _⟩;rw [wF h0 h,wF hE.1.1 hE.1.2,wF hE.2.1.1 hE.2.1.2]
 va p h0 h:=by show _=g.k[(iA (f6 _) p).toNat]?.getD [];rw [wF h0 h]
theorem x9 {l:V2}{f:Int->Int}(h:∀ x∈l,f x=x):l.map f=l:=(b8 (g:=id) h).trans (List.map_id l)
theorem Px {l:V2}{n:Nat}(h:∀ x∈l,x<n):mE l (oR (f6 n))=l:=by
 unfold mE;refine x9 λx a=>?_;split
 .exact D8 ic (h x a)
 .rfl
section
variable {t:Types} {r:Rule} {h g:Host} {m m':Mat} {m0:Part}
theorem kD {t:Types}{r:Rule}{h:Host}{m:Mat}(d:r.ok)(a:jJ t r h m=0):StepOk t r h m:=by
 unfold jJ at a;split at a
 .contradiction
 .rename_i hg;obtain ⟨c,b⟩:=uG (bY hg);exact Xg (IB d c) (lK b) a
theorem StepIn.dt (S:StepIn t r h m):(∀ x∈(dK r h m).h,x<(bP t r h m).j.h.length)/\∀ x∈(dK r h m).i,x<(bP t r h m).j.i.length:=by
 constructor
 .intro x hx;obtain ⟨i,a,rfl⟩:=mZ hx;rw [S.b2] at a ⊢;rw [jT] at a;rw [S.cd];by_cases b:(i:Int)∈mC r.q.h m.m.h h.j.h.length
  .obtain ⟨p,d,c,_⟩:=S.ak.a8 b;omega
  .rw [S.ak.dT aD b];omega
 .intro x hx;obtain ⟨i,a,rfl⟩:=mZ hx;rw [S.da] at a ⊢;rw [jT] at a;rw [S.b4];by_cases b:(i:Int)∈mC r.q.i m.m.i h.j.i.length
  .obtain ⟨p,d,c,_⟩:=S.ba.a8 b;omega
  .rw [S.ba.dT aD b];omega
theorem Ua {l:V2}{n N:Nat}(hl:l.length=n)(hr:∀ x∈l,0<=x/\x<n)(hd:l.Nodup){tr:V2}(ht:∀ x∈tr,x<n):∀ x∈mE tr (oR l),x<n:=λx hx=>by
 unfold mE at hx;obtain ⟨y,hy,rfl⟩:=aT.1 hx;split
 .exact (HK hl hr hd ic (ht y hy)).1.2
 .exact ht y hy
theorem Back.cN (B:Back t r h m g m0 m'):IsoOk (xS (aP t r h m) (D9 m0)) (aP t (dC t (aP t r h m)) g m') where
 fn:=by
  have b:=B.K'.nn;have a:=B.K'.ne;exact ⟨by show (bP t _ g m').j.h.length<=_;show (bT t _ g m').j.h.length<=_;omega,by show (bT t _ g m').j.i.length<=_;omega⟩
 ft:=by
  constructor
  .show ∀ x∈mE (dK r h m).h (oR m0.h),x<(dK _ g m').h.length;rw [B.K'.S.b2,jT];exact Ua (N:=0) B.I.nl (by rw [B.I.nn];exact B.I.ni) B.I.nd (by rw [B.I.nn];exact B.K.S.dt.1)
  .show ∀ x∈mE (dK r h m).i (oR m0.i),x<(dK _ g m').i.length;rw [B.K'.S.da,jT];exact Ua (N:=0) B.I.el (by rw [B.I.en];exact B.I.ei) B.I.ed (by rw [B.I.en];exact B.K.S.dt.2)
 fu:=B.K'.S.dt
 fc:=⟨B.K'.S.a6,B.K'.S.bh⟩
 fm:=by
  constructor
  .show (cT _ g m').h.length<=m.m.h.length;rw [B.K'.S.bc,eV,B.bp.2,B.K.S.hm.len];exact bC _
  .show (cT _ g m').i.length<=m.m.i.length;rw [B.K'.S.ca,eV,B.K.S.hm.ci];exact bC _
theorem Back.fq (B:Back t r h m g m0 m'):BackOk (aP t r h m) (aP t (dC t (aP t r h m)) g m') m0 where
 fn:=B.cN.fn
 fi:=by
  constructor
  .show (dK _ g m').h.length<=m0.h.length;rw [B.K'.S.b2,jT,B.I.nl];exact bC _
  .show (dK _ g m').i.length<=m0.i.length;rw [B.K'.S.da,jT,B.I.el];exact bC _
 fu:=B.cN.fu
 fc:=B.cN.fc
 fm:=B.cN.fm
theorem Back.same (B:Back t r h m g m0 m'):GK (aP t r h m) (aP t (dC t (aP t r h m)) g m') m0=JJ (xS (aP t r h m) (D9 m0)) (aP t (dC t (aP t r h m)) g m'):=by
 have a:=B.K'.S.cd;have c:=B.K'.S.b4;rw [B.bp.2] at a;have e:=B.cC.same a;have d:=B.dp.same c;have b:=B.K'.S.bc;rw [B.bp.2] at b;have f:(⟨(GK (aP t r h m) (aP t (dC t (aP t r h m)) g m') m0).h,(GK (aP t r h m) (aP t (dC t (aP t r h m)) g m') m0).i⟩:Part)=⟨(JJ (xS (aP t r h m) (D9 m0)) (aP t (dC t (aP t r h m)) g m')).h,(JJ (xS (aP t r h m) (D9 m0)) (aP t (dC t (aP t r h m)) g m')).i⟩:=by
  congr 1
  .show Db _ m0.h (dK _ g m').h (dK r h m).h (cT _ g m').h m.m.h r.q.h=CH (mE (dK r h m).h (oR m0.h)) (dK _ g m').h (cT _ g m').h m.m.h _;rw [B.K.S.b2,B.K'.S.b2,b];exact e
  .show Db _ m0.i (dK _ g m').i (dK r h m).i (cT _ g m').i m.m.i r.q.i=CH (mE (dK r h m).i (oR m0.i)) (dK _ g m').i (cT _ g m').i m.m.i _;rw [B.K.S.da,B.K'.S.da,B.K'.S.ca];exact d
 exact f
theorem L2 (K:StepOk t r h m)(hr:r.ok)(h0:jJ t (dC t (aP t r h m)) (bP t r h m) ⟨cT r h m,[]⟩=0):Back t r h m (bP t r h m) (w3 (bP t r h m).j) ⟨cT r h m,[]⟩ where
 K:=K
 I:=MV (lK K.after)
 bn:=by
  show (cT r h m).h=_;refine (x9 λx hx=>?_).symm;exact D8 (K.S.a6 x hx).1 (K.S.a6 x hx).2
 be:=by
  show (cT r h m).i=_;refine (x9 λx hx=>?_).symm;exact D8 (K.S.bh x hx).1 (K.S.bh x hx).2
 K':=kD (HX hr (K.dN hr)) h0
theorem aa4 (K:StepOk t r h m):xS (aP t r h m) (D9 (w3 (bP t r h m).j))=aP t r h m:=by
 have b:mE (dK r h m).h (oR (f6 (bP t r h m).j.h.length))=(dK r h m).h:=Px K.S.dt.1;have a:mE (dK r h m).i (oR (f6 (bP t r h m).j.i.length))=(dK r h m).i:=Px K.S.dt.2;show (⟨r,m,h,bP t r h m,⟨mE (dK r h m).h _,mE (dK r h m).i _⟩,cT r h m⟩:Stp26)=⟨r,m,h,bP t r h m,dK r h m,cT r h m⟩;rw [show (D9 (w3 (bP t r h m).j)).h=oR (f6 (bP t r h m).j.h.length) from rfl,show (D9 (w3 (bP t r h m).j)).i=oR (f6 (bP t r h m).j.i.length) from rfl,b,a]
end
def Zc (l:List Stp26)(i:Nat):Stp26:=l[i]?.getD mO
structure Chain (t:Types) (l:List Stp26):Prop where
 vf:(dG t).2=0
 pos:0<l.length
 cf:l.length<=30
 chk:∀ i,i<l.length->tY t (Zc l i)=true
 con:∀ i,0<i->i<l.length->(Zc l (i - 1)).after=(Zc l i).C
theorem abD {l:List Stp26}{i:Nat}(h:i<l.length):Zc l i=l[i]:=by unfold Zc;rw [aA h];rfl
def Hn:V2->V2->Int
 | x :: l,y :: m=>if x≠y then IntKind.i64.wrap (x - y) else Hn l m
 | l,m=>IntKind.i64.wrap ((l.length:Int) - m.length)
theorem Kq {l m:V2}(h:l=[]\/m=[]):Hn l m=IntKind.i64.wrap ((l.length:Int) - m.length):=by
 rcases h with rfl|rfl
 .cases m<;>simp [Hn]
 .cases l<;>simp [Hn]
theorem Nj (x y:Int)(l m:V2):Hn (x :: l) (y :: m)=if x≠y then IntKind.i64.wrap (x - y) else Hn l m:=by simp [Hn]
def W1 (x:Int):Prop:=-9223372036854775808<=x/\x<=9223372036854775807
theorem Y2 {x y:Int}(b:W1 x)(a:W1 y)(h:x≠y):IntKind.i64.wrap (x - y)≠0:=by
 rw [IntKind.wrap_i64];unfold W1 at b a;omega
theorem Ni:∀ {a b:V2},(∀ x∈a,W1 x)->(∀ x∈b,W1 x)->a.length<=1000000000000000->b.length<=1000000000000000->(Hn a b=0↔a=b)
 | [],b,_,_,_,h2=>by
  rw [Kq (.inl rfl),IntKind.wrap_i64];cases b with
  | nil=>simp
  | cons y m=>simp at h2 ⊢;omega
 | x :: l,[],_,_,h1,_=>by
  rw [Kq (.inr rfl),IntKind.wrap_i64];simp at h1 ⊢;omega
 | x :: l,y :: m,ha,hb,h1,h2=>by
  have ih:=Ni (a:=l) (b:=m) (λz hz=>ha z (dX _ hz)) (λz hz=>hb z (dX _ hz)) (by simp at h1;omega) (by simp at h2;omega);rw [Nj];by_cases h:x=y
  .subst h;rw [if_neg aE,ih];simp
  .rw [if_pos h];have:=Y2 (ha x aE) (hb y aE) h;constructor
   .intro h0;exact absurd h0 this
   .intro h0;cases h0;exact absurd rfl h
theorem IT (a b:V2):Pua 62 [dLI a,dLI b] (dI (Hn a b)):=by
 refine Tz.pK ⟨λt=>t==2000000,λ_=>[]⟩ func62 rfl (λQ l=>?_);have Y:=trivial;refine wv (h:=bA (λi e H=>(e 0=dLI a/\e 1=dLI b/\e 5=dI i)/\(i<=a.length)/\(i<=b.length)/\(Hn (a.drop i) (b.drop i)=Hn a b)) (λi=>a.length - i) 0 ⟨wg,wi,wi,(by rfl)⟩ λq g i e H f=>?_);obtain ⟨o,p,n,k⟩:=f;have Y:=wa Y o;refine wv (h:=?_);repeat first|intro _|refine ⟨iS,?_⟩
 refine wq (λm=>?_) λm=>?_
 .have hia:i<a.length:=aD;have d:i<b.length:=aD;have c:=k;rw [fV hia,fV d,Nj] at c;have Y:=xa2 Y m (aA hia) (aA d);refine wv (h:=?_);repeat first|intro _|refine ⟨iS,?_⟩
  refine wq (λj=>?_) λj=>?_
  .rw [if_pos j] at c;exact wo (h:=l _ _ (by simp [go_sem,<- c]))
  .rw [if_neg (bY j)] at c;exact wo (h:=wx g (i+1) ⟨wg,wj,wj,(by exact c)⟩)
 .have hX:Hn a b=IntKind.i64.wrap ((a.length:Int) - b.length):=by
   rw [<- k,Kq]
   .congr 1;rw [f8,f8];omega
   .rcases bX i a.length with h|h
    .right;rw [List.drop_eq_nil_iff];omega
    .left;rw [List.drop_eq_nil_iff];omega
  exact wo (h:=l _ _ (iq hX))
theorem RL {a b:V2}(ha:∀ x∈a,W1 x)(hb:∀ x∈b,W1 x)(h1:a.length<=1000000000000000)(h2:b.length<=1000000000000000):KN a b:=⟨_,IT a b,Ni ha hb h1 h2⟩
def KP (s:Stp26):Mat:=⟨s.B,[]⟩
def Xb (t:Types)(s:Stp26):Int:=if Cc t s≠0 then Cc t s else jJ t (qL t s) s.after (KP s)
def Si (t:Types)(s:Stp26):Stp26:=if Xb t s=0 then fQ t (qL t s) s.after (KP s) else mO
def YU (t:Types)(s:Stp26):Part:=if Xb t s=0 then JJ s (fQ t (qL t s) s.after (KP s)) else ⟨[],[]⟩
theorem NX {t:Types}{s:Stp26}(b:s.x.ok)(h:Cc t s=0):tY t s=true/\qL t s=dC t s/\(qL t s).ok:=by
 unfold Cc at h;split at h
 .contradiction
 .rename_i h1;have a:CD t s=0:=by simpa using h1
  have c:tY t s=true:=by
   unfold CD at a;split at a
   .contradiction
   .split at a
    .assumption
    .cases a
  unfold HY at h;split at h
  .cases h
  .rename_i h2;have d:qL t s=dC t s:=by unfold qL HW;rw [if_neg h1,if_neg h2]
   exact ⟨c,d,by rw [d];exact HX b (OT b c).2.2⟩
theorem Pn {t:Types}{s:Stp26}(b:s=aP t s.x s.C s.U)(K:StepOk t s.x s.C s.U):F1 s (w3 s.after.j)=KP s:=by
 have a:∀ {l:V2} {n:Nat},(∀ x∈l,0<=x/\x<n)->l.map (idx (f6 n))=l:=λ {l n} g=>x9 λx f=>by
  have c:=g x f;have:=zK (DZ n) (q:=x.toNat) (by rw [g9];omega);rw [show ((x.toNat:Nat):Int)=x by omega,wF c.1 c.2] at this;exact this
 have e:=K.S.a6;have d:=K.S.bh;have i:s.B=cT s.x s.C s.U:=congrArg Stp26.B b;have h:s.after=bP t s.x s.C s.U:=congrArg Stp26.after b;rw [<- i,<- h] at e d;show (⟨⟨s.B.h.map (idx (f6 s.after.j.h.length)),s.B.i.map (idx (f6 s.after.j.i.length))⟩,[]⟩:Mat)=⟨⟨s.B.h,s.B.i⟩,[]⟩;rw [a e,a d]
theorem Y5 {t:Types}{s:Stp26}(d:s.x.ok)(h:Xb t s=0):∃ r h m,s=aP t r h m/\Si t s=aP t (dC t s) s.after (KP s)/\YU t s=JJ s (aP t (dC t s) s.after (KP s))/\Back t r h m s.after (w3 s.after.j) (KP s):=by
 have c:Si t s=fQ t (qL t s) s.after (KP s)/\YU t s=JJ s (fQ t (qL t s) s.after (KP s)):=⟨by unfold Si;rw [if_pos h],by unfold YU;rw [if_pos h]⟩;unfold Xb at h;split at h
 .contradiction
 .rename_i h1;obtain ⟨f,i,_⟩:=NX d (bY h1);rw [i] at h c;have g:fQ t (dC t s) s.after (KP s)=aP t (dC t s) s.after (KP s):=by unfold fQ;rw [if_pos h]
  rw [g] at c;obtain ⟨e,K,_⟩:=OT d f;obtain ⟨r,b,m,a⟩:∃ r b m,s=aP t r b m:=⟨_,_,_,e⟩;refine ⟨r,b,m,a,c.1,c.2,?_⟩;subst a;exact L2 K d h
theorem Xa {t:Types}{s:Stp26}(g:s.x.ok)(h:Xb t s=0):HIso (Si t s).after s.C (YU t s)/\IsoOk s (Si t s)/\BackOk s (Si t s) (w3 s.after.j)/\GK s (Si t s) (w3 s.after.j)=YU t s/\F1 s (w3 s.after.j)=KP s:=by
 obtain ⟨r,b,m,f,o,n,B⟩:=Y5 g h;rw [o,n];subst f;have a:xS (aP t r b m) (D9 (w3 (aP t r b m).after.j))=aP t r b m:=aa4 B.K;have k:=B.g3;have d:=B.cN;have j:=B.fq;have i:=B.same;have e:F1 (aP t r b m) (w3 (bP t r b m).j)=KP (aP t r b m):=Pn rfl B.K;have c:GK (aP t r b m) (aP t (dC t (aP t r b m)) (bP t r b m) (KP (aP t r b m))) (w3 (bP t r b m).j)=JJ (aP t r b m) (aP t (dC t (aP t r b m)) (bP t r b m) (KP (aP t r b m))):=by
  have:=i;rw [a] at this;exact this
 rw [a] at d;refine ⟨?_,d,j,c,e⟩;have l:JJ (aP t r b m) (aP t (dC t (aP t r b m)) (bP t r b m) (KP (aP t r b m)))=JJ (xS (aP t r b m) (D9 (w3 (aP t r b m).after.j))) (aP t (dC t (aP t r b m)) (bP t r b m) (KP (aP t r b m))):=by rw [a]
 show HIso (bP t (dC t (aP t r b m)) (bP t r b m) (KP (aP t r b m))) b (JJ (aP t r b m) (aP t (dC t (aP t r b m)) (bP t r b m) (KP (aP t r b m))));rw [l];exact k
theorem N5 (t:Types)(F:t.ok)(s:Stp26)(w:s.x.ok):Pua 21 [t.d,.agg s.c] (.tup [.agg (Si t s).c,(YU t s).d,dI (Xb t s)]):=by
 have D:=Cg t F s w;obtain ⟨R,B⟩:=c7 (qL t s);obtain ⟨k,j⟩:∃ e,e=Cc t s:=⟨_,rfl⟩;obtain ⟨v,r⟩:=c7 (fQ t (qL t s) s.after (KP s));obtain ⟨i,u⟩:∃ e,e=jJ t (qL t s) s.after (KP s):=⟨_,rfl⟩;obtain ⟨p,z⟩:=c7 (JJ s v);have x:Xb t s=if k≠0 then k else i:=by unfold Xb;rw [<- j,<- u]
 have l:k=0->(s.after.j.h.length<=100000/\s.after.j.i.length<=100000)/\(s.B.h.length<=1000/\s.B.i.length<=1000)/\F1 s (w3 s.after.j)=KP s:=λm=>by
  obtain ⟨O,P,S⟩:=NX w (j ▸ m);obtain ⟨G,K,A⟩:=OT w O;have o:=A.Y;have U:=A.c1;refine ⟨?_,⟨aD,A.c3⟩,?_⟩
  .rw [G];have g:=K.nn;have f:=K.ne;exact ⟨by show (bT t _ _ _).j.h.length<=_;omega,by show (bT t _ _ _).j.i.length<=_;omega⟩
  .exact Pn G K
 have C:k=0->Pua 59 [t.d,.agg s.c,R.d,s.after.d,(w3 s.after.j).d] (.tup [.agg (if i=0 then v else mO).c,(if i=0 then p else ⟨[],[]⟩:Part).d,dI i]):=λm=>by
  have N:=(NX w (j ▸ m)).2.2;obtain ⟨_,⟨M,L⟩,E⟩:=l m;have o:=N4 t F s (qL t s) N s.after (w3 s.after.j) M L (v:=v) (er:=i) (by rw [E];exact r) (by rw [E];exact u) (λg=>by
   have f:Xb t s=0:=by rw [x,if_neg aD,g]
   have n:=(Xa w f).2.2.1;have e:Si t s=v:=by unfold Si;rw [if_pos f,r]
   rw [e] at n;exact n)
  have T:i=0->GK s v (w3 s.after.j)=p:=λg=>by
   have f:Xb t s=0:=by rw [x,if_neg aD,g]
   have n:=(Xa w f).2.2.2.1;have e:Si t s=v:=by unfold Si;rw [if_pos f,r]
   rw [e] at n;rw [n,z];unfold YU;rw [if_pos f,r]
  rw [<- B] at o;by_cases g:i=0
  .rw [if_pos g,if_pos g] at o ⊢;rw [T g] at o;exact o
  .rw [if_neg g,if_neg g] at o ⊢;exact o
 have J:k=0->Pua 60 [s.after.j.d] (w3 s.after.j).d:=λm=>Fc s.after.j (l m).1.1 (l m).1.2;have H:Si t s=if k=0/\i=0 then v else mO:=by
  unfold Si;rw [x,<- r];by_cases a:k=0<;>by_cases b:i=0<;>simp [a,b]
 have y:YU t s=if k=0/\i=0 then p else ⟨[],[]⟩:=by
  unfold YU;rw [x,<- r,<- z];by_cases a:k=0<;>by_cases b:i=0<;>simp [a,b]
 rw [<- B,<- j] at D;rw [H,y,x];obtain ⟨q,n⟩:=c7 (w3 s.after.j);rw [<- n] at C J;simp only [Stp26.c,Rule.c,Mat.c,Host.c,dP,dS] at D C;clear x H y z u r j B l n;refine Tz.pK ⟨λt=>t==4||t==5||t==7,λ_=>[]⟩ func21 rfl (λQ I=>?_);have Y:=xa2 @Stp26.c.eq_1 @Rule.c.eq_1 @Mat.c.eq_1 @Host.c.eq_1;refine j4 (h:=aB (D) wl ?_);refine j4 (h:=wq (λf=>?_) λf=>?_)
 .exact j4 (h:=I _ _ (by simp [go_sem,f,mO,jF,o8,jQ,Part.d,Part.c,Stp26.c,Rule.c,Mat.c,Host.c,Cond.D,Cond.u,Cond.map,Cond.o,dLI,dI]))
 .refine j4 (h:=aH (J (bY f)) wl ?_);refine j4 (h:=aH (C (bY f)) wl ?_);refine j4 (h:=?_);have m:k=0:=by simpa using f
  exact I _ _ (by by_cases g:i=0<;>simp [go_sem,m,g,mO,jF,o8,jQ,Part.d,Part.c,Stp26.c,Rule.c,Mat.c,Host.c,Cond.D,Cond.u,Cond.map,Cond.o,dLI,dI])
def clR:Rule:=⟨⟨#[99,108,111,115,101]⟩,⟨⟨[3,1],[⟨0,0,1⟩]⟩,[],0,[]⟩,⟨⟨[3],[]⟩,[],0,[]⟩,⟨[0],[]⟩,⟨[0],[]⟩,true,.mk 1 [] ⟨[],[]⟩ o8⟩
def shH:Host:=⟨⟨[3,1,1],[⟨0,0,1⟩,⟨0,0,2⟩]⟩,[[],[10],[5]]⟩
def clM:Mat:=⟨⟨[0,2],[1]⟩,[]⟩
def clS:Stp26:=fQ exT clR shH clM
theorem U3:fewR clR=true:=by decide +kernel
theorem cl1:jJ exT clR shH clM=0:=by decide +kernel
theorem cl2:Cc exT clS=0:=by decide +kernel
theorem cl3:(qL exT clS).right.l=[⟨1,0,⟨-1,5⟩⟩]:=by decide +kernel
theorem cl4:Xb exT clS=0:=by decide +kernel
theorem cl5:(Si exT clS).after=shH:=by decide +kernel
theorem cl6:YU exT clS=⟨[0,1,2],[0,1]⟩:=by decide +kernel
theorem D6:Pua 24 [] shH.d:=by
 refine qP gt (λQ a=>(Tz.cK ⟨λt=>t==0,λ_=>[]⟩ func24 rfl ?_));have Y:=trivial;refine j4 (h:=?_);exact a _ _ (by simp [go_sem,shH,Host.d,Host.c,Edge.c,cL,dLI,cI,dI])
theorem LC:Pua 19 [] (.tup [.agg clS.c,dI 0]):=by
 have a:=Ij exT (HO UQ) clR (OO U3) shH clM;rw [cl1] at a;have b:fQ exT clR shH clM=clS:=rfl;rw [b] at a;generalize clS=v at *;refine Tz.pK ⟨λt=>t==0||t==2,λr=>match r with|2=>[(0,3),(1,3),(2,3),(0,4),(1,4),(2,4),(3,4)]|_=>[]⟩ func19 rfl (λQ e=>?_);have Y:=xa2 @Stp26.c.eq_1 @Rule.c.eq_1 @Mat.c.eq_1 @Host.c.eq_1;refine j4 (h:=aH (Cn) wl ?_);refine j4 (h:=aH (D6) wl ?_);refine j4 (h:=aH (a.gk (by simp [go_sem,uC,Gt,clR,shH,clM,o8,Rule.d,Rule.c,Types.d,Types.c,Host.d,Host.c,Mat.d,Mat.c,Slot.c,Edge.c,cL,dLI,cI,dI,Cond.D,Cond.u,Cond.map,Cond.o,mK,iI,eW])) wl ?_);exact j4 (h:=e _ _ wy)
theorem Qo (a:Host):Pua 23 [a.d,a.d] (.bool true):=by
 have:=Qn a a (λi _ _=>TI _);rwa [show decide (a=a)=true by simp] at this
theorem Gv:Pua 5 [] (.bool true):=by
 have g:=HO UQ;have i:clS.x.ok:=by
  have e:clS.x=clR:=by unfold clS fQ;rw [if_pos cl1];rfl
  rw [e];exact OO U3
 have f:=N6 exT g clS i;have b:=N5 exT g clS i;have k:=LC;rw [cl2] at f;rw [cl4,cl6] at b;have m:=cl3;have j:=cl5;have o:=C2 [⟨1,0,⟨-1,5⟩⟩] [⟨1,0,⟨-1,5⟩⟩];have n:=Qo shH;generalize clS=s at *;generalize qL exT s=R at *;generalize Si exT s=u at *;simp only [Stp26.c,Rule.c,Mat.c,Host.c,dP,dS] at f b k;refine Tz.pK ⟨λt=>t==1||t==2||t==4||t==6||t==7,λr=>match r with|5=>[(11,16),(12,16),(13,16),(26,27),(26,28),(27,28)]|_=>[]⟩ func5 rfl (λQ l=>?_);have Y:=xa4 @Stp26.c.eq_1 @Rule.c.eq_1 @Mat.c.eq_1 @Host.c.eq_1 m j;refine j4 (h:=aB (Cn) wl ?_);refine j4 (h:=aB (k) wl ?_);refine j4 (h:=aB (f) wl ?_);refine j4 (h:=aB (b) wl ?_);refine rL (h:=dM (λa=>(by simpa [Slot.c,Term.c,dI] using o)) (λa=>wl) ?_);refine rL (h:=dM (λa=>D6) (λa=>wl) ?_);refine rL (h:=dM (λa=>(by simpa [Host.d,Host.c,j,dLI] using n)) (λa=>wl) ?_);refine rL (h:=dM (λa=>Qv ⟨[0,1,2],[0,1]⟩) (λa=>wl) ?_);exact rL (h:=l _ _ wy)
theorem HIso.inj {a b:Host}{s:Part}(I:HIso a b s){x y:Int}(d:0<=x/\x<a.j.h.length)(c:0<=y/\y<a.j.h.length)(h:iA s.h x=iA s.h y):x=y:=by
 have e:=I.nl;have:=CR I.nd (i:=x.toNat) (j:=y.toNat) aD aD (by rw [show ((x.toNat:Nat):Int)=x by omega,show ((y.toNat:Nat):Int)=y by omega];exact h);omega
theorem HIso.fv {a b:Host}{s:Part}(I:HIso a b s){v:Int}(h:0<=v/\v<b.j.h.length):∃ x:Int,(0<=x/\x<a.j.h.length)/\iA s.h x=v:=by
 obtain ⟨i,d,c⟩:=mZ (By (by rw [I.nl,I.nn]) I.ni I.nd h);have:=I.nl;exact ⟨i,aD,c⟩
theorem HIso.gj {a b:Host}{s:Part}(I:HIso a b s){v:Int}(h:0<=v/\v<b.j.i.length):∃ x:Int,(0<=x/\x<a.j.i.length)/\iA s.i x=v:=by
 obtain ⟨i,d,c⟩:=mZ (By (by rw [I.el,I.en]) I.ei I.ed h);have:=I.el;exact ⟨i,aD,c⟩
theorem HIso.fL {a b:Host}{s:Part}(I:HIso a b s){x y:Int}(d:0<=x/\x<a.j.i.length)(c:0<=y/\y<a.j.i.length)(h:iA s.i x=iA s.i y):x=y:=by
 have e:=I.el;have:=CR I.ed (i:=x.toNat) (j:=y.toNat) aD aD (by rw [show ((x.toNat:Nat):Int)=x by omega,show ((y.toNat:Nat):Int)=y by omega];exact h);omega
theorem HIso.g4 {a b:Host}{s:Part}(I:HIso a b s){x:Int}(h:0<=x/\x<a.j.h.length):0<=iA s.h x/\iA s.h x<b.j.h.length:=I.ni _ (eB h.1 (by rw [I.nl];exact h.2))
theorem HIso.ha {a b:Host}{s:Part}(I:HIso a b s){x:Int}(h:0<=x/\x<a.j.i.length):0<=iA s.i x/\iA s.i x<b.j.i.length:=I.ei _ (eB h.1 (by rw [I.el];exact h.2))
theorem acK {l:V2}{n:Nat}(a:∀ x∈l,0<=x/\x<n){i:Int}(b:0<=i)(h:i<l.length):0<=l[i.toNat]?.getD 0/\l[i.toNat]?.getD 0<n:=by
 rw [aA aD];exact a _ (aC _)
theorem Ot {l:V2}{f:Int->Int}{i:Int}(h0:0<=i)(h:i<l.length):(l.map f)[i.toNat]?.getD 0=f (l[i.toNat]?.getD 0):=by
 rw [aN,aA aD];rfl
theorem Tg {l:V2}{f:Int->Int}{n:Nat}{k:Int}(b:∀ x∈l,0<=x/\x<n)(c:0<=k/\k<n)(d:∀ x y:Int,0<=x/\x<n->0<=y/\y<n->f x=f y->x=y):mem (l.map f) (f k)=mem l k:=by
 rw [aU,mem_iff,mem_iff,aT];exact ⟨λ⟨x,a,e⟩=>d x k (b x a) c e ▸ a,λh=>⟨k,h,rfl⟩⟩
theorem J1 {α β:Type}{f g:α->List β}:∀ (l:List α),(∀ x∈l,f x=g x)->l.flatMap f=l.flatMap g
 | [],_=>rfl
 | a :: l,h=>by rw [pE,pE,h a aE,J1 l λx hx=>h x (iw hx)]
def Hd (s m:Part):Part:=⟨m.h.map (iA s.h),m.i.map (iA s.i)⟩
theorem HIso.haveV {a b:Host}{s:Part}(I:HIso a b s){m:Part}(g:∀ x∈m.h,0<=x/\x<a.j.h.length){c:Slot}(f:0<=c.node)(e:c.node<m.h.length):Abs.haveV b (Hd s m) c=Abs.haveV a m c:=by
 have d:=acK g f e;unfold Go.Abs.haveV Hd;simp only;rw [Ot f e,I.va _ d.1 d.2]
theorem HIso.slotsV {a b:Host}{s:Part}(I:HIso a b s){m:Part}(hm:∀ x∈m.h,0<=x/\x<a.j.h.length):∀ (l:List Slot) (st:V2 × List Bool),(∀ c∈l,0<=c.node/\c.node<m.h.length)->Abs.slotsV b (Hd s m) st l=Abs.slotsV a m st l
 | [],st,_=>rfl
 | c :: l,st,h=>by
  have hc:=h c aE;have e1:=I.haveV hm hc.1 hc.2;have e2:mF b (Hd s m) st c=mF a m st c:=by unfold mF;rw [e1]
  simp only [Go.Abs.slotsV];rw [e1,e2,I.slotsV hm l _ λx hx=>h x (iw hx)]
theorem HIso.k {a b:Host}{s:Part}(I:HIso a b s){m:Part}(d:∀ x∈m.h,0<=x/\x<a.j.h.length){p:Pattern}(h:∀ c∈p.l,0<=c.node/\c.node<m.h.length)(vs:V2):eZ p b (Hd s m) vs=eZ p a m vs:=by
 unfold eZ;rw [I.slotsV d _ _ h]
theorem QS {l:V2}{f:Int->Int}{n:Nat}(c:∀ x∈l,0<=x/\x<n)(g:∀ x y:Int,0<=x/\x<n->0<=y/\y<n->f x=f y->x=y):(l.map f).Nodup↔l.Nodup:=by
 rw [e8,e8,Am];constructor
 .exact λh=>h.imp λa b=>a (by rw [b])
 .exact λh=>h.imp_of_mem λe d a b=>a (g _ _ (c _ e) (c _ d) b)
theorem D1 {l:V2}{f:Int->Int}{i:Nat}(h:i<l.length):(l.map f)[i]?.getD 0=f (l[i]?.getD 0):=by
 rw [aN,aA h];rfl
theorem HIso.mNE {t:Types}{a b:Host}{s:Part}(I:HIso a b s){p:Graph}{m:Part}{i:Nat}(f:i<m.h.length)(h:Abs.mNE t p a.j m i=0):Abs.mNE t p b.j (Hd s m) i=0:=by
 unfold Go.Abs.mNE at h ⊢;split at h
 .cases h
 .rename_i h1;split at h
  .rename_i h2;have c:0<=m.h[i]?.getD 0/\m.h[i]?.getD 0<a.j.h.length:=aD;have e:(Hd s m).h[i]?.getD 0=iA s.h (m.h[i]?.getD 0):=D1 f;have g:=I.g4 c;have d:=I.ty _ c.1 c.2;unfold gN at d;rw [e,if_neg aD,<- d,if_pos h2]
  .cases h
theorem HIso.mapEE {a b:Host}{s:Part}(I:HIso a b s)(q:graphF a.j=0){p:Graph}(g:graphF p=0){m:Part}(o:m.h.length=p.h.length){i:Nat}(k:i<m.i.length)(d:i<p.i.length)(h:Abs.mapEE p a.j m i=0):Abs.mapEE p b.j (Hd s m) i=0:=by
 unfold Go.Abs.mapEE at h ⊢;split at h
 .cases h
 .rename_i h1;split at h
  .cases h
  .rename_i h2;split at h
   .cases h
   .rename_i h3;have e:0<=m.i[i]?.getD 0/\m.i[i]?.getD 0<a.j.i.length:=aD;have j:(Hd s m).i[i]?.getD 0=iA s.i (m.i[i]?.getD 0):=D1 k;have r:=I.ha e;have f:=I.eg _ e.1 e.2;have c:=((dY g).2 _ (aC d)).2;rw [j,if_neg aD];unfold eA at f;rw [f];rw [aA d,Option.getD_some] at h2 h3 ⊢;have n:(Hd s m).h[p.i[i].w.toNat]?.getD 0=iA s.h (m.h[p.i[i].w.toNat]?.getD 0):=Ot c.1.1 aD;have l:(Hd s m).h[p.i[i].M.toNat]?.getD 0=iA s.h (m.h[p.i[i].M.toNat]?.getD 0):=Ot c.2.1 aD;rw [n,l];simp only [not_or,ne_eq,iM] at h2 h3;rw [if_neg (bY h2),if_neg];rintro (h6|h6)
    .exact h6 (by rw [h3.1])
    .exact h6 (by rw [h3.2])
theorem HIso.matchE {t:Types}{a b:Host}{s:Part}(I:HIso a b s)(B:graphF a.j=0){p:Graph}(A:graphF p=0){m:Part}{inj:Bool}(h:Abs.matchE t p a.j m inj=0):Abs.matchE t p b.j (Hd s m) inj=0:=by
 have M:=rW h;unfold Go.Abs.matchE at h ⊢;have w:(Hd s m).h.length=m.h.length:=aR ..;have v:(Hd s m).i.length=m.i.length:=aR ..;rw [w,v];have z:=M.len;have E:=M.ci;rw [if_neg aD] at h ⊢;split at h
 .rename_i d;exact absurd h d
 .rename_i d;split at h
  .rename_i c;exact absurd h c
  .rename_i c;split at h
   .cases h
   .rename_i h3;rw [iM] at d c;have D:bW (Go.Abs.mNE t p b.j (Hd s m)) 0 p.h.length=0:=iT _ _ λj k g=>I.mNE aD (eU _ _ d j k g);have C:bW (Go.Abs.mapEE p b.j (Hd s m)) 0 p.i.length=0:=iT _ _ λj k g=>I.mapEE B A z aD aD (eU _ _ c j k g);rw [if_neg (by rw [D];simp),if_neg (by rw [C];simp),if_neg];rintro ⟨e,hd⟩;refine h3 ⟨e,?_⟩;have u:=QS (l:=m.h) (f:=iA s.h) (n:=a.j.h.length) (λx o=>by
     obtain ⟨i,e,rfl⟩:=aO o;exact (M.b5 i e aD).1) (λx y d c h=>I.inj d c h)
    have r:=QS (l:=m.i) (f:=iA s.i) (n:=a.j.i.length) (λx o=>by
     obtain ⟨i,e,rfl⟩:=aO o;exact M.dx i e) (λx y d c h=>I.fL d c h)
    rcases hd with hd|hd
    .exact .inl λq=>hd (u.2 q)
    .exact .inr λq=>hd (r.2 q)
theorem JT {t:Types}{b:Host}(H:HostOk t b):nC t b.j=true:=by
 rw [rP H.gg];exact EV (λa d=>(p5 H a d).2) λx c=>(H.ed x c).1
theorem OL {t:Types}{p g:Graph}{b:Host}(h:eH t p g=0)(H:HostOk t b):eH t p b.j=0:=by
 have a:=JT H;have c:=H.gg;unfold eH at h ⊢;rw [a,c];split at h
 .exact absurd h ic
 .rename_i h1;rw [if_neg h1];split at h
  .exact absurd h ic
  .rename_i h2;rw [if_neg h2];split at h
   .exact absurd h ic
   .split at h
    .cases h
    .rename_i h4;simp only [c8,cZ,not_or,Bool.not_eq_false] at h4;rw [if_neg aE,h4.1];rfl
theorem OU {t:Types}{p g:Graph}{m:Part}{inj:Bool}(h:checkE t p g m inj=0):eH t p g=0:=by
 unfold checkE at h;split at h
 .exact absurd h ic
 .rename_i h1;simpa using h1
theorem HIso.checkE {t:Types}{a b:Host}{s:Part}(I:HIso a b s)(d:graphF a.j=0)(c:HostOk t b){p:Graph}{m:Part}{inj:Bool}(h:Abs.checkE t p a.j m inj=0):Abs.checkE t p b.j (Hd s m) inj=0:=by
 have G:=oS h;unfold Go.Abs.checkE;rw [if_neg (by rw [OL (OU h) c];simp)];exact I.matchE d G.1.gp G.2
theorem UV {a keep:V2}{f:Int->Int}{n:Nat}(g:∀ x∈a,0<=x/\x<n)(c:∀ x y:Int,0<=x/\x<n->0<=y/\y<n->f x=f y->x=y):oD (a.map f) keep=oD a keep:=by
 have l:∀ i k:Nat,i<a.length->k<a.length->tE (a.map f) keep i k=tE a keep i k:=λi k e d=>by
  unfold tE;rw [D1 e,D1 d,aA e,aA d,Option.getD_some,Option.getD_some];congr 1;exact decide_eq_decide.2 ⟨λh=>c _ _ (g _ (aC e)) (g _ (aC d)) h,λh=>by rw [h]⟩
 unfold oD FF;rw [aR];refine J1 _ λi c=>?_;have b:=aV.1 c;unfold mQ;congr 1;exact HQ λk j=>l _ _ b (by have:=aV.1 j;omega)
theorem Yh {a keep:V2}{f:Int->Int}:iC (a.map f) keep=(iC a keep).map f:=by
 unfold iC;rw [aR,FY];refine b8 λi b=>?_;exact D1 (aV.1 (d8.1 b).1)
theorem Yg {a keep:V2}{x:Int}(h:x∈iC a keep):x∈a:=by
 obtain ⟨i,_,_,b⟩:=rZ.1 h;exact aL b
theorem HIso.comp {a b:Host}{s:Part}(I:HIso a b s)(J:graphF b.j=0){l:Graph}{keep m:Part}(h:oZ l a.j keep m=0):oZ l b.j keep (Hd s m)=0:=by
 obtain ⟨p,T,S,R,t⟩:=wS h;obtain ⟨A,M,E,D⟩:=kS p;obtain ⟨z,w⟩:=uD p;have r:=λ(x y:Int) (c:0<=x/\x<a.j.h.length) (h2:0<=y/\y<a.j.h.length) (h:iA s.h x=iA s.h y)=>I.inj c h2 h;have u:=λ(x y:Int) (c:0<=x/\x<a.j.i.length) (h2:0<=y/\y<a.j.i.length) (h:iA s.i x=iA s.i y)=>I.fL c h2 h;have gN_:∀ {k:Int},0<=k->k<l.h.length->iA (Hd s m).h k=iA s.h (iA m.h k):=λd c=>uZ _ d aD;have gE_:∀ {k:Int},0<=k->k<l.i.length->iA (Hd s m).i k=iA s.i (iA m.i k):=λd c=>uZ _ d aD;have K:eR l b.j (Hd s m)=0:=by
  refine BA A J (by rw [<- E];exact aR ..) (by rw [<- D];exact aR ..) (λi d c=>?_) (λk d c=>?_)
  .obtain ⟨e,q⟩:=zG p d c;rw [gN_ d c];exact ⟨I.g4 e,by rw [<- I.ty _ e.1 e.2,q]⟩
  .obtain ⟨e,q,C,B⟩:=rU p d c;have f:=wN A d c;rw [gE_ d c,gN_ f.1.1 f.1.2,gN_ f.2.1.1 f.2.1.2,I.eg _ e.1 e.2,C,B];exact ⟨I.ha e,q,rfl,rfl⟩
 have L:wQ b.j (Hd s m).i (iC (Hd s m).h keep.h)=[]:=by
  unfold wQ at t ⊢;rw [List.map_eq_nil_iff,rI] at t ⊢;intro k H;obtain ⟨x,g,f⟩:=I.gj (v:=k) (by have:=aV.1 H;omega);have o:=t x.toNat (aV.2 aD);have j:=((dY M).2 _ (OP g.1 g.2)).2;have c:=I.eg x g.1 g.2;rw [f] at c;have O:b.j.i[k]?.getD cH=⟨(eA a.j x).type,iA s.h (eA a.j x).w,iA s.h (eA a.j x).M⟩:=by
   unfold eA at c;rw [Int.toNat_natCast] at c;exact c
  have N:a.j.i[x.toNat]?.getD cH=eA a.j x:=rfl;have n:∀ v∈iC m.h keep.h,0<=v/\v<a.j.h.length:=λv F=>z v (Yg F);unfold yN at o ⊢;rw [O];rw [N] at o;show ¬ (!mem (m.i.map (iA s.i)) (k:Int)&&(mem (iC (m.h.map (iA s.h)) keep.h) (iA s.h (eA a.j x).w)||mem (iC (m.h.map (iA s.h)) keep.h) (iA s.h (eA a.j x).M)))=true;rw [Yh,Tg n j.1 r,Tg n j.2 r,<- f,Tg w g u];rw [show ((x.toNat:Nat):Int)=x by omega] at o;exact o
 unfold oZ compG;rw [if_neg (by rw [if_neg (by rw [K];simp)];have G:subF l keep=0:=T;rw [G];simp),if_neg,if_neg (by rw [L];simp)];have Q:oD (Hd s m).h keep.h=[]:=by rw [<- S];exact UV z r
 have P:oD (Hd s m).i keep.i=[]:=by rw [<- R];exact UV w u
 rw [Q,P];simp
theorem JW {t:Types}{p:Graph}{h:Host}(a:graphF p=0)(b:fZ t p=true)(H:HostOk t h):eH t p h.j=0:=by
 unfold eH;rw [if_neg (by rw [H.vf];simp),if_neg (by rw [a];simp),if_neg (by rw [H.gg];simp),rP a,b,JT H];rfl
theorem Rl {t:Types}{h:Host}{inj:Bool}{c:Cond}{m:Mat}:((mJ t h inj c m).2=0/\(mJ t h inj c m).1=true)↔ND t h inj c m=0:=by
 unfold mJ;constructor
 .intro hh;split at hh
  .exact absurd hh.2 aE
  .exact hh.1
 .intro hh;rw [hh,if_neg (by decide)];simp
theorem W5 (t:Types)(h:Host)(inj:Bool)(m:Mat):ND t h inj trueC m=0:=by
 unfold ND;rw [Dh];rfl
section
variable {t:Types} {r:Rule} {h:Host} {m:Mat}
theorem StepIn.fw (S:StepIn t r h m){x:Int}(c:x∈mC r.q.h m.m.h h.j.h.length):gN (bT t r h m).j (iA (nP r.q.h m.m.h h.j.h.length) x)=gN h.j x /\
  (bT t r h m).k[(iA (nP r.q.h m.m.h h.j.h.length) x).toNat]?.getD []=h.k[x.toNat]?.getD []:=by
 obtain ⟨p,f,e,d⟩:=S.ak.a8 c;have a:p<(bZ r h m).h.length:=by rw [S.bb];exact e
 have b:(bZ r h m).h[p]=x:=by rw [<- iK a,S.bb];exact d
 rw [f];constructor
 .unfold gN;rw [Int.toNat_natCast,S.bw,aS (bY a),aN,aA a,b];rfl
 .rw [Int.toNat_natCast,Nr,aS (bY a),aN,aA a,b];rfl
theorem StepIn.fx (S:StepIn t r h m){x:Int}(c:x∈mC r.q.i m.m.i h.j.i.length):eA (bT t r h m).j (iA (nP r.q.i m.m.i h.j.i.length) x) =
  ⟨(eA h.j x).type,iA (nP r.q.h m.m.h h.j.h.length) (eA h.j x).w,iA (nP r.q.h m.m.h h.j.h.length) (eA h.j x).M⟩:=by
 obtain ⟨p,n,l,j⟩:=S.ba.a8 c;have b:p<(bZ r h m).i.length:=by rw [S.bu];exact l
 have i:(bZ r h m).i[p]=x:=by rw [<- iK b,S.bu];exact j
 have e:eA (bT t r h m).j (p:Int)=gEd h.j (bZ r h m) x:=by
  unfold eA;rw [Int.toNat_natCast,S.cr,aS (bY b),aN,aA b,i];rfl
 rw [n,e,CV];obtain ⟨g,f⟩:=qJ S.sub (k:=x) (by rw [S.bu];exact c);have a:∀ v:Int,v∈(bZ r h m).h->iA (nP r.q.h m.m.h h.j.h.length) v=(pI (bZ r h m).h v:Int):=λv d=>by
  rw [S.ak.dg (S.cG v d),<- S.bb,BP S.cb,if_pos ((mem_iff _ _).2 d)]
 rw [a _ g,a _ f]
theorem StepIn.gs (S:StepIn t r h m){x:Int}(a:x∈mC r.q.i m.m.i h.j.i.length):(eA h.j x).w∈mC r.q.h m.m.h h.j.h.length/\(eA h.j x).M∈mC r.q.h m.m.h h.j.h.length:=by
 have:=qJ S.sub (k:=x) (by rw [S.bu];exact a);rwa [S.bb] at this
end
end Go.Abs
end
