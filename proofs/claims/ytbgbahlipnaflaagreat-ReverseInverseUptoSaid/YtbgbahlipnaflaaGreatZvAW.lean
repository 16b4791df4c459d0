/- The step of the program: what is handed to its parts. · The  -/
import Derived.Test.YtbgbahlipnaflaaGreatZvAV
import Derived.Test.YtbgbahlipnaflaaGreatZvAG
import Derived.Test.YtbgbahlipnaflaaGreatZvAU
import Derived.Test.YtbgbahlipnaflaaGreatZvAA
import Derived.Test.YtbgbahlipnaflaaGreatZvAM
import Derived.Test.YtbgbahlipnaflaaGreatZvAS
set_option linter.unusedVariables false
set_option linter.unusedSimpArgs false
section
set_option maxRecDepth 100000
set_option maxHeartbeats 4000000
open Go Go.Proofs Tryz
namespace Go.Abs
theorem Z4 {d:V2}(c:d.Pairwise (· < ·)){n:Nat}{x:Int}(f:0<=x)(e:x<n)(b:x∈d):∃ p:Nat,p<d.length/\(mS d n)[x.toNat]?=some (p:Int):=by
 obtain ⟨p,a,rfl⟩:=aO b;refine ⟨p,a,?_⟩;rw [p9 _ aD,show ((d[p].toNat:Nat):Int)=d[p] by omega,rE (jC c) a]
theorem YH {a d:V2}{n:Nat}(i:d.Pairwise (· < ·)){k:Int}(l:0<=k)(j:k<a.length)(c:0<=iA a k/\iA a k<n)(g:iA a k∈d):∃ p:Nat,p<d.length/\(qF a (o6 d n))[k.toNat]?.getD 0=p:=by
 obtain ⟨p,f,h⟩:=Z4 i c.1 c.2 g;have b:k.toNat<a.length:=aD;have e:iA a k=a[k.toNat]:=by unfold iA;rw [aA b];rfl
 refine ⟨p,f,?_⟩;unfold qF o6;rw [aN,aA b,d7,Option.getD_some,<- e,h];rfl
theorem Nh {keep a at_:V2}{b:Nat}(d:a.Nodup)(o:keep.length=a.length)(l:∀ k∈keep,∃ p:Nat,p<b/\at_[k.toNat]?.getD 0=p)(i:Nat) :
  Kl keep a at_ b i=((b+(bH a i).length:Nat):Int)↔mem a i=false:=by
 have f:=Nu d (i:Int);have j:=ED a i a.length;unfold Kl;cases g:mem a i with
 | true =>
  rw [g] at f;have m:¬ g6 a a.length i<0:=by simpa using f
  have c:(g6 a a.length i).toNat<keep.length:=aD;obtain ⟨p,n,h⟩:=l _ (aC c);rw [if_pos aD,aA c,Option.getD_some,h];constructor
  .intro e;omega
  .intro e;cases e
 | false =>
  rw [g] at f;have m:g6 a a.length i<0:=by simpa using f
  rw [if_neg aD,Oq d];simp
theorem U0 {keep b at_:V2}{a c i:Nat}(h:i<a):(ER keep b at_ a c)[i]?.getD 0=Kl keep b at_ c i:=by
 unfold ER;simp [h]
section
variable {t:Types} {r:Rule} {h:Host} {m:Mat}
theorem StepIn.e6 (S:StepIn t r h m){k:Int}(a:k∈r.q.i):iA m.m.i k∈(bZ r h m).i:=by
 have c:=S.hR.q;have g:=S.hm.ci;have b:=c.2.2.1 k a;have f:=yD S.fl.2 b.1 aD a;rw [S.dc];have d:=S.hm.dx k.toNat aD;have e:iA m.m.i k=m.m.i[k.toNat]' aD:=by unfold iA;rw [aA aD];rfl
 exact dQ.2 ⟨by rw [e];exact d,f⟩
theorem StepIn.kN (S:StepIn t r h m):∀ k∈r.q.h,(0<=k/\k<m.m.h.length)/\(0<=iA m.m.h k/\iA m.m.h k<h.j.h.length)/\∃ p:Nat,p<(bZ r h m).h.length/\(qF m.m.h (dK r h m).h)[k.toNat]?.getD 0=p:=λk hk=>by
 have hr:=S.hR.q.2.1 k hk;have hl:=S.hm.len;have hi:=S.cG _ (S.d5 hk);exact ⟨aD,hi,YH S.cb hr.1 aD hi (S.d5 hk)⟩
theorem StepIn.kE (S:StepIn t r h m):∀ k∈r.q.i,(0<=k/\k<m.m.i.length)/\(0<=iA m.m.i k/\iA m.m.i k<h.j.i.length)/\∃ p:Nat,p<(bZ r h m).i.length/\(qF m.m.i (dK r h m).i)[k.toNat]?.getD 0=p:=λk hk=>by
 have hr:=S.hR.q.2.2.1 k hk;have hl:=S.hm.ci;have hi:=S.fk _ (S.e6 hk);exact ⟨aD,hi,YH S.et hr.1 aD hi (S.e6 hk)⟩
theorem StepIn.hr (S:StepIn t r h m):∀ i,i<r.right.j.h.length->((cT r h m).h[i]?.getD 0=(((bZ r h m).h.length+(bH r.s.h i).length:Nat):Int)↔mem r.s.h i=false):=λi hi=>by
 have:=Nh S.cp.1 S.hR.q.1.1 (λk hk=>(S.kN k hk).2.2) i;unfold cT;simp only;rw [U0 hi];exact this
theorem StepIn.hs (S:StepIn t r h m):∀ i,i<r.right.j.i.length->((cT r h m).i[i]?.getD 0=(((bZ r h m).i.length+(bH r.s.i i).length:Nat):Int)↔mem r.s.i i=false):=λi hi=>by
 have:=Nh S.cp.2 S.hR.q.1.2 (λk hk=>(S.kE k hk).2.2) i;unfold cT;simp only;rw [U0 hi];exact this
theorem StepIn.bdE (S:StepIn t r h m):Abs.bdE h (bZ r h m) (dK r h m) (bZ r h m).i.length=⟨cJ h.j (bZ r h m),(bZ r h m).h.map λk=>h.k[k.toNat]?.getD []⟩:=by
 unfold Go.Abs.bdE cJ;rw [if_pos S.sub,aG (bC _)];congr 2;refine b8 λk e=>?_;obtain ⟨d,c⟩:=qJ S.sub e;have a:∀ v:Int,v∈(bZ r h m).h->iA (dK r h m).h v=(pI (bZ r h m).h v:Int):=λv b=>by
  have f:=S.cG v b;unfold iA dK o6;simp only;rw [p9 _ aD,Option.getD_some,show ((v.toNat:Nat):Int)=v by omega,BP S.cb,if_pos ((mem_iff _ _).2 b)]
 unfold trE;rw [a _ d,a _ c];rfl
theorem StepIn.grow (S:StepIn t r h m):j9 t r (cT r h m) (Go.Abs.bdE h (bZ r h m) (dK r h m) (bZ r h m).i.length)=bT t r h m:=by
 rw [S.bdE];rfl
end
theorem Zy {t:Types}{r:Rule}{h:Host}{m:Mat}(a:Ha t r h m=0):checkE t r.left.j h.j m.m r.inj=0/\(eG t r.left h m.m).2=0/\(eG t r.left h m.m).1=m.vars:=by
 unfold Ha at a;split at a
 .cases a
 .rename_i h1;split at a
  .exact absurd a ic
  .rename_i h2;split at a
   .cases a
   .rename_i h3;exact ⟨by simpa using h1,by simpa using h2,by simpa using h3⟩
theorem Ys {t:Types}{r:Rule}(h:ruleF t r=0):condF t r.left r.cond=0:=by
 unfold ruleF at h;split at h
 .exact absurd h ic
 .split at h
  .cases h
  .split at h
   .exact absurd h ic
   .split at h
    .exact absurd h ic
    .split at h
     .exact absurd h ic
     .split at h
      .cases h
      .exact h
def xK (t:Types)(r:Rule)(h:Host)(m:Mat):Stp26:=if gM t r h m=0 then aP t r h m else mO
theorem abL {P:Program}{f:FuncId}{args:UN}{r:D}(a:r.Q=true)(h:∀ Q:D->AHeap->Prop,(∀ d H',(jR H' d).Q=true->(jR H' d=r\/Pg (jR H' d)=r)->Q d H')->ACalls P f args .as Q):Pure P f args r:=by
 refine Mu a λQ c=>ACalls.de (h _ λd H' e b=>c _ _ ?_);rw [Ue _ e];exact b
theorem SA (t:Types)(T:t.ok)(r:Rule)(hr:r.ok)(U:ruleF t r=0)(h:Host)(b8:fG t h=0)(m:Mat):Pua 85 [t.d,r.d,h.d,m.d] (.tup [.agg (xK t r h m).c,dI (gM t r h m)]):=by
 refine abL (by simp [go_sem,D.Q,D.L,Stp26.Q]) λQ G=>?_;have w:=IB hr U;have N:=lK b8;have e4:=Ys U;refine (Tz.cK ⟨λt=>t==8||t==11||t==13||t==15,λr=>match r with|15=>[(0,2),(2,3),(0,4),(0,6),(1,6),(2,6),(3,6),(4,6)]|16=>[(6,7),(6,8),(6,9),(6,10),(6,11),(6,12)]|17=>[(20,21),(20,22),(20,23),(20,24),(20,25),(20,26),(20,27),(20,28),(20,29),(20,30),(20,31),(20,32),(20,33),(20,34),(20,35),(20,36),(20,37),(20,38),(20,39),(20,40)]|_=>[]⟩ func85 rfl ?_);have Y:=xa2 @Host.d.eq_1 @Host.c.eq_1 @Mat.d.eq_1 @Mat.c.eq_1;refine wv (h:=aB (NK t T r h m) wl ?_);refine dR (λh2=>?_) λh2=>?_
 .have b:gM t r h m=Ha t r h m:=by unfold gM lC;rw [QF,if_pos h2];simp [h2]
  have f:xK t r h m=mO:=by unfold xK;rw [if_neg aD]
  refine wv (h:=?_);refine G _ _ (by simp [go_sem,jR,lB,rJ,f5,D.Q,D.L]) (by first|(left;(simp [go_sem,jR,lB,rJ,f5,b,f,mO,jF,o8,jQ,Stp26.c,Rule.c,Mat.c,Host.c,Cond.D,Cond.u,Cond.map,Cond.o,dLI,dI]);done)|(right;(simp [go_sem,jR,lB,rJ,f5,b,f,mO,jF,o8,jQ,Stp26.c,Rule.c,Mat.c,Host.c,Cond.D,Cond.u,Cond.map,Cond.o,dLI,dI]);done))
 .have hp0:o7 t r h m=oZ (lD r.left.j h.j m.m) h.j r.q m.m:=by rw [QF,if_neg aD]
  obtain ⟨c1,d5,b0⟩:=Zy (aD:Ha t r h m=0);have o:=TS c1;have b7:BV t r.left.j h.j m.m=lD r.left.j h.j m.m:=by unfold BV;rw [if_pos o]
  have W:=rW (oS o).2;have d9:=bK w.pl.gg;have d8:=bK w.gr;have e0:=bK N.gg;have d6:=W.len;have c9:=W.ci;have d7:=w.kl;have d4:=N.vl;have b1:∀ v∈h.k,v.length<=100000:=λv hv=>by have:=(N.row v hv).1;omega
  have Y:=xa1 Y o b7;refine wv (h:=aB (G2 t T r.left.j h.j m.m) wl ?_);refine wv (h:=aB (LM (lD r.left.j h.j m.m) h.j r.q m.m aD aD aD aD aD) wl ?_);refine dR (λh8=>?_) λh8=>?_
  .have hpe:o7 t r h m≠0:=aD;have b:gM t r h m=o7 t r h m:=by unfold gM lC;rw [if_pos hpe,if_pos hpe]
   have f:xK t r h m=mO:=by unfold xK;rw [if_neg aD]
   refine wv (h:=?_);refine G _ _ (by simp [go_sem,jR,lB,rJ,f5,D.Q,D.L]) (by first|(left;(simp [go_sem,jR,lB,rJ,f5,b,hp0,f,mO,jF,o8,jQ,Stp26.c,Rule.c,Mat.c,Host.c,Cond.D,Cond.u,Cond.map,Cond.o,dLI,dI]);done)|(right;(simp [go_sem,jR,lB,rJ,f5,b,hp0,f,mO,jF,o8,jQ,Stp26.c,Rule.c,Mat.c,Host.c,Cond.D,Cond.u,Cond.map,Cond.o,dLI,dI]);done))
  .have hpre:o7 t r h m=0:=aD;have S:=NL w N hpre;have s:=MG S hpre;have hP:u9 (lD r.left.j h.j m.m) h.j r.q m.m=bZ r h m:=rfl;have c2:ZY t r.left r.cond h m r.inj=0:=by
    unfold ZY;rw [if_neg aD,if_neg aD,if_neg aD,if_neg aD,if_neg (by rw [b0];simp)]
   have F:lC t r h m=if (mJ t h r.inj r.cond m).2≠0 then (mJ t h r.inj r.cond m).2 else if (mJ t h r.inj r.cond m).1=false then 16 else 0:=by unfold lC;rw [if_neg aD]
   have Y:=wa Y hP;refine wv (h:=aB ((by have M:=BY t T r.left r.cond hr.cond w.cond w.pl h N m s r.inj c2;simp only [Cond.A] at M;unfold Types.d Types.c Pattern.d Pattern.c Host.d Host.c Mat.d Mat.c dLI dI at M;exact M)) wl ?_);refine dR (λL=>?_) λL=>?_
   .have b:gM t r h m=(mJ t h r.inj r.cond m).2:=by unfold gM;rw [F,if_pos L];simp [L]
    have f:xK t r h m=mO:=by unfold xK;rw [if_neg aD]
    refine wv (h:=?_);refine G _ _ (by simp [go_sem,jR,lB,rJ,f5,D.Q,D.L]) (by first|(left;(simp [go_sem,jR,lB,rJ,f5,b,f,mO,jF,o8,jQ,Stp26.c,Rule.c,Mat.c,Host.c,Cond.D,Cond.u,Cond.map,Cond.o,dLI,dI]);done)|(right;(simp [go_sem,jR,lB,rJ,f5,b,f,mO,jF,o8,jQ,Stp26.c,Rule.c,Mat.c,Host.c,Cond.D,Cond.u,Cond.map,Cond.o,dLI,dI]);done))
   .refine iY (λK=>?_) λK=>?_
    .have b:gM t r h m=16:=by
      have:(mJ t h r.inj r.cond m).1=false:=by simpa using K
      have V:lC t r h m=16:=by rw [F,if_neg aD,if_pos this]
      unfold gM;rw [if_pos aD,V]
     have f:xK t r h m=mO:=by unfold xK;rw [if_neg aD]
     refine wv (h:=?_);refine G _ _ (by simp [go_sem,jR,lB,rJ,f5,D.Q,D.L]) (by first|(left;(simp [go_sem,jR,lB,rJ,f5,b,f,mO,jF,o8,jQ,Stp26.c,Rule.c,Mat.c,Host.c,Cond.D,Cond.u,Cond.map,Cond.o,dLI,dI]);done)|(right;(simp [go_sem,jR,lB,rJ,f5,b,f,mO,jF,o8,jQ,Stp26.c,Rule.c,Mat.c,Host.c,Cond.D,Cond.u,Cond.map,Cond.o,dLI,dI]);done))
    .have V:lC t r h m=0:=by
      have a5:(mJ t h r.inj r.cond m).1=true:=by simpa using K
      rw [F,if_neg aD,if_neg (by rw [a5];simp)]
     have hK:=w.q;have z:=S.kN;have A:=S.kE;obtain ⟨l,g⟩:=c7 (dK r h m);obtain ⟨u,a⟩:=c7 (cT r h m);have a3:o6 (bZ r h m).h h.j.h.length=l.h:=by rw [g];rfl
     have a2:o6 (bZ r h m).i h.j.i.length=l.i:=by rw [g];rfl
     have R:l.h.length=h.j.h.length:=by rw [<- a3];exact mR _ _
     have c6:l.i.length=h.j.i.length:=by rw [<- a2];exact mR _ _
     rw [<- g] at z A;have c4:ER r.q.h r.s.h (qF m.m.h l.h) r.right.j.h.length (bZ r h m).h.length=u.h:=by rw [a,g];rfl
     have c3:ER r.q.i r.s.i (qF m.m.i l.i) r.right.j.i.length (bZ r h m).i.length=u.i:=by rw [a,g];rfl
     have c0:=S.len;have a9:=s.vl;have a8:Sm m.vars:=λv hv=>by have:=s.vs v hv;omega
     have d0:=w.pl.vars;have a1:u.h.length=r.right.j.h.length:=by rw [a];simp [cT,ER]
     have a0:u.i.length=r.right.j.i.length:=by rw [a];simp [cT,ER]
     have X:=S.hr;have Z:=S.hs;have hB:=S.grow;rw [<- a] at X Z hB;rw [<- g] at hB;have Y:=xa3 Y a3 a2 c4 c3;refine wv (h:=aH (Ii m aD aD aD) wl ?_);refine wv (h:=aH (KZ h aD aD aD b1) wl ?_);refine wp (h:=aH (If h.j.h.length aD (bZ r h m).h S.cb aD) wl ?_);refine wp (h:=aH (If h.j.i.length aD (bZ r h m).i S.et aD) wl ?_);refine wp (h:=aH (Dn r.right.j.h.length aD r.q.h r.s.h m.m.h l.h (bZ r h m).h.length aD aD hK.2.2.2.1 (λx n=>(z x n).1) (λx n=>by have:=(z x n).2.1;omega) (λx n=>by obtain ⟨p,_,hp⟩:=(z x n).2.2;omega)) wl ?_);refine wp (h:=aH (Dn r.right.j.i.length aD r.q.i r.s.i m.m.i l.i (bZ r h m).i.length aD aD hK.2.2.2.2 (λx n=>(A x n).1) (λx n=>by have:=(A x n).2.1;omega) (λx n=>by obtain ⟨p,_,hp⟩:=(A x n).2.2;omega)) wl ?_);refine wp (h:=?_);refine zR (.step (.step (.step (.refl _) 9 0 31 3 1 _ _ ig rfl rfl rfl) 9 0 32 145 3 _ _ ig rfl rfl rfl) 9 0 33 26 1 _ _ ig rfl rfl rfl) ?_;simp [go_sem];unfold fT;refine Sz t T r w m h N (bZ r h m) l u S.cG S.fk c0 R ⟨a1,a0⟩ X Z 9 73 74 75 _ (by simp [go_sem,stpC,dLI]) ⟨by simp [go_sem],by simp [go_sem],by simp [go_sem,mH],rfl,λi q v h1 _=>by simp at h1,by simp,λq M=>by simp at M;rcases M with rfl|rfl|rfl<;>simp [go_sem]⟩ eq aE (λj hj b=>?_) _ (λqs H1 a4 C b3 b2 b9 b5=>?_)
     .simp [go_sem,lY,oG,Aj,vG] at b hj;omega
     rw [hB] at a4 C;have c8:76<=H1.next:=by simp [go_sem] at b5;omega
     have k0:=b9 0 eq aE;simp [go_sem] at k0;have y:∀ j,j<73->j∉73 :: 74 :: 75 :: qs:=λj hj hm=>by
      simp only [aW] at hm;rcases hm with h|h|h|h
      .omega
      .omega
      .omega
      .have:=b2 j h;simp [go_sem] at this;omega
     refine wp (h:=?_);unfold fT;refine Vs t T r w m h (bT t r h m) l u (a ▸ S.put) a9 a8 H1 9 73 74 75 qs C a4 b3 aD _ (λH2 I B b4=>?_) (λH2 I H B b4=>?_)
     .have m0:=(B 0 aD (y 0 aD)).trans k0;have b:gM t r h m=sP t (bT t r h m).j u m.vars r.right.l:=by unfold gM;rw [if_neg aD,<- a,if_pos I]
      have f:xK t r h m=mO:=by unfold xK;rw [if_neg aD]
      simp [go_sem,seval,m0];refine bB (λhc=>?_) (λhc=>absurd (bY hc) I);simp [go_sem,seval,m0];refine G _ _ (by simp [go_sem,jR,lB,rJ,f5,D.Q,D.L]) (by first|(left;(simp [go_sem,jR,lB,rJ,f5,b,f,mO,jF,o8,jQ,Stp26.c,Rule.c,Mat.c,Host.c,Cond.D,Cond.u,Cond.map,Cond.o,dLI,dI]);done)|(right;(simp [go_sem,jR,lB,rJ,f5,b,f,mO,jF,o8,jQ,Stp26.c,Rule.c,Mat.c,Host.c,Cond.D,Cond.u,Cond.map,Cond.o,dLI,dI]);done))
     have m0:=(B 0 aD (y 0 aD)).trans k0;have m9:=(B 9 aD (y 9 aD)).trans C;simp only [stpC] at m9;have a7:H2.get 73=some ⟨3,1,(bT t r h m).j.h.map cI,false⟩:=H.ga;have a6:H2.get 74=some ⟨145,3,(bT t r h m).j.i.map Edge.c,false⟩:=H.gb;have Y:=xa3 Y m0 m9 a7 a6;refine iY (λJ=>?_) λJ=>?_
     .have b:gM t r h m=3:=by
       unfold gM;rw [if_neg aD,<- a,if_neg aD,if_pos (by first|exact J|omega)]
      have f:xK t r h m=mO:=by unfold xK;rw [if_neg aD]
      refine wv (h:=?_);refine G _ _ (by simp [go_sem,jR,lB,rJ,f5,D.Q,D.L]) (by first|(left;(simp [go_sem,jR,lB,rJ,f5,b,f,mO,jF,o8,jQ,Stp26.c,Rule.c,Mat.c,Host.c,Cond.D,Cond.u,Cond.map,Cond.o,dLI,dI]);done)|(right;(simp [go_sem,jR,lB,rJ,f5,b,f,mO,jF,o8,jQ,Stp26.c,Rule.c,Mat.c,Host.c,Cond.D,Cond.u,Cond.map,Cond.o,dLI,dI]);done))
     .have b:gM t r h m=0:=by
       unfold gM;rw [if_neg aD,<- a,if_neg aD,if_neg (by first|exact J|omega)]
      have f:xK t r h m=aP t r h m:=by unfold xK;rw [if_pos b]
      have hW:bP t r h m=⟨(bT t r h m).j,uU u m.vars r.right.l (bT t r h m).k⟩:=by rw [a];rfl
      have P:=(qO u m.vars r.right.l (bT t r h m).k).1;have c5:∀ k:Blk,Q (.tup [.agg (stpC r m h (.own 73 (bT t r h m).j.h.length) (.own 74 (bT t r h m).j.i.length) (.own 75 (bT t r h m).k.length) l u),dI 0]) (H2.put 0 k):=λk=>by
       obtain ⟨E,hE⟩:=c7 (H2.put 0 k);have h5:HH E 0 73 74 75 qs (bP t r h m):=by
        rw [hW];exact H.same (by rw [hE];simp [go_sem]) (λj hj=>by
         have b6:j≠0:=λe=>y 0 aD (e ▸ hj);rw [hE];simp [go_sem,b6])
       have hd:=h5.de;have e1:(bP t r h m).j.h.length=(bT t r h m).j.h.length:=by rw [hW]
       have e2:(bP t r h m).j.i.length=(bT t r h m).j.i.length:=by rw [hW]
       have e3:(bP t r h m).k.length=(bT t r h m).k.length:=by rw [hW];exact P
       rw [e1,e2,e3] at hd;simp only [lB,i5,j7,Host.d,Host.c,D.agg.injEq,List.cons.injEq,and_true] at hd;obtain ⟨d1,d2,d3⟩:=hd;have O:jR E (.tup [.agg (stpC r m h (.own 73 (bT t r h m).j.h.length) (.own 74 (bT t r h m).j.i.length) (.own 75 (bT t r h m).k.length) l u),dI 0])=.tup [.agg (xK t r h m).c,dI (gM t r h m)]:=by
        rw [b,f];simp only [jR,lB,stpC,i5,j7,d1,d2,d3];simp [lB,rJ,f5,aP,Stp26.c,Rule.c,Mat.c,Host.c,dLI,dI,g,a]
       rw [<- hE];exact G _ _ (by rw [O];simp [go_sem,D.Q,D.L,Stp26.Q]) (.inl O)
      refine wv (h:=?_);exact c5 _
theorem uG {t:Types}{r:Rule}{h:Host}(a:fW t r h=0):ruleF t r=0/\fG t h=0:=by
 unfold fW at a;split at a
 .exact absurd a ic
 .rename_i h1;exact ⟨by simpa using h1,a⟩
theorem Do (t:Types)(g:t.ok)(r:Rule)(i:r.ok)(a:ruleF t r=0)(h:Host)(b:fG t h=0)(m:Mat){v:Stp26}{e:Int}(f:v=xK t r h m)(j:e=gM t r h m):Pua 85 [t.d,r.d,h.d,m.d] (.tup [.agg v.c,dI e]):=by
 subst f j;exact SA t g r i a h b m
theorem Ij (t:Types)(j:t.ok)(r:Rule)(k:r.ok)(h:Host)(m:Mat):Pua 40 [t.d,r.d,h.d,m.d] (.tup [.agg (fQ t r h m).c,dI (jJ t r h m)]):=by
 obtain ⟨v,i⟩:=c7 (xK t r h m);obtain ⟨e,f⟩:=c7 (gM t r h m);refine Tz.pK ⟨λt=>t==8,λ_=>[]⟩ func40 rfl (λQ l=>?_);have Y:=xa3 @Host.d.eq_1 @Host.c.eq_1 @Mat.d.eq_1 @Mat.c.eq_1 @Stp26.c.eq_1;refine wv (h:=aB (Ih t j r k h) wl ?_);refine dR (λn=>?_) λn=>?_
 .have a:jJ t r h m=fW t r h:=by unfold jJ;rw [if_pos n]
  have g:fQ t r h m=mO:=by unfold fQ;rw [if_neg aD]
  exact wv (h:=l _ _ (by simp [go_sem,a,g,mO,jF,o8,jQ,Stp26.c,Rule.c,Mat.c,Host.c,Cond.D,Cond.u,Cond.map,Cond.o,dLI,dI]))
 .have hz:=uG (aD:fW t r h=0);have a:jJ t r h m=e:=by rw [f];unfold jJ;rw [if_neg aD]
  have g:fQ t r h m=v:=by rw [i];unfold fQ xK;rw [a,f]
  refine wv (h:=aB ((by have b:=Do t j r k hz.1 h hz.2 m i f;simp only [Stp26.c,Rule.c,Mat.c,Host.c,dP,dS] at b;unfold Mat.d Mat.c Host.d Host.c dLI at b;exact b)) wl ?_);exact wv (h:=l _ _ (by simp [go_sem,a,g,Stp26.c,Rule.c,Mat.c,Host.c]))
theorem G0 (t:Types)(q:t.ok)(r:Rule)(z:r.ok)(h:Host):Pua 38 [t.d,r.d,h.d] (.tup [.list ((mU t r h).1.map Mat.c),dI (mU t r h).2]):=by
 refine Tz.pK ⟨λt=>t==11||t==13||t==14,λ_=>[]⟩ func38 rfl (λQ w=>?_);have Y:=wa @Host.d.eq_1 @Host.c.eq_1;refine wv (h:=aB (Ih t q r z h) wl ?_);refine dR (λD=>?_) λD=>?_
 .have hS:mU t r h=([],fW t r h):=by unfold mU;rw [if_pos D]
  exact wv (h:=w _ _ (iq hS))
 .have hz:=uG (aD:fW t r h=0);refine wv (h:=aB (EF t q r.left h r.inj) wl ?_);refine dR (λC=>?_) λC=>?_
  .have hS:mU t r h=([],(eX t r.left h r.inj).2):=by unfold mU;rw [if_neg aD,if_pos C]
   exact wv (h:=w _ _ (iq hS))
  .have hS:mU t r h=((eX t r.left h r.inj).1.filter λm=>decide (gM t r h m=0),0):=by unfold mU;rw [if_neg aD,if_neg aD]
   have x:=AW t r.left h r.inj;obtain ⟨L,B⟩:=c7 ((eX t r.left h r.inj).1);rw [<- B] at hS x;have Y:=wa Y (Eq.symm B);refine wp (h:=bA (λi e H=>∃ g:List Mat,(e 3=.adr t.c/\e 4=.adr r.c/\e 5=.adr h.c/\e 36=.list (L.map Mat.c)/\e 37=dI L.length/\e 11=.own 0 g.length/\e 38=dI i)/\(H.get 0=some ⟨55,3,g.map Mat.c,false⟩)/\(0<H.next)/\(i<=L.length)/\(g=(L.take i).filter λm=>decide (gM t r h m=0))/\(g.length<=i)) (λi=>L.length - i) 0 ⟨([]),wg,wn,wn,wi,(by rfl),(by simp)⟩ λJ n i e H u=>?_);obtain ⟨g,G,p,k,I,f,F⟩:=u;have Y:=xa2 Y G p (bS k);refine dR (λo=>?_) λo=>?_
   .obtain ⟨v,E⟩:=c7 (xK t r h L[i]);obtain ⟨e,A⟩:=c7 (gM t r h L[i]);obtain ⟨b,a⟩:∃ y,y=g++[L[i]].filter λm=>decide (gM t r h m=0):=⟨_,rfl⟩;have l:gM t r h L[i]=e:=A.symm;have Y:=xa3 Y o (aA o) @Mat.c.eq_1 @Stp26.c.eq_1;refine wp (h:=aB ((by have s:=Do t q r z hz.1 h hz.2 L[i] E A;simp only [Stp26.c,Rule.c,Mat.c,Host.c,dP,dS] at s;unfold Mat.d Mat.c Host.d Host.c dLI at s;exact s)) wl ?_);refine iY (λj=>?_) λj=>?_
    .have hm3:b=g++[L[i]]:=by rw [a,KR (by rw [l];simpa using j)];rfl
     have Y:=wa Y hm3;exact wp (h:=wx n (i+1) ⟨b,wg,wn,wn,wj,(by rw [List.take_succ_eq_append_getElem o,fN,<- f,a]),(by rw [hm3];first|(simp;omega)|omega)⟩)
    .have hm3:b=g:=by rw [a,KS (by rw [l];simpa using j)];simp
     have Y:=wa Y hm3;exact wp (h:=wx n (i+1) ⟨b,wg,wn,wn,wj,(by rw [List.take_succ_eq_append_getElem o,fN,<- f,a]),(by rw [hm3];first|(simp;omega)|omega)⟩)
   .rw [aG aD] at f;exact wv (h:=w _ _ (by simp [go_sem,Y,hS,<- f]))
deriving instance DecidableEq for Edge
deriving instance DecidableEq for Graph
deriving instance DecidableEq for Part
deriving instance DecidableEq for Host
deriving instance DecidableEq for Mat
theorem Nd {x y:Edge}(h:x.type=y.type/\x.w=y.w/\x.M=y.M):x=y:=by
 obtain ⟨a,b,c⟩:=x;obtain ⟨d,e,f⟩:=y;obtain ⟨rfl,rfl,rfl⟩:=h;rfl
theorem Uo (a b:Part):decide (a=b)=(decide (a.h=b.h)&&decide (a.i=b.i)):=by
 rw [aU];cases a;cases b;simp
theorem Eg (a b:Graph):decide (a=b)=(decide (a.h=b.h)&&decide (a.i=b.i)):=by
 rw [aU];cases a;cases b;simp
theorem abY (a b:Mat):decide (a=b)=(decide (a.m=b.m)&&decide (a.vars=b.vars)):=by
 rw [aU];cases a;cases b;simp
theorem UJ (a b:Host):decide (a=b)=(decide (a.j=b.j)&&decide (a.k=b.k)):=by
 rw [aU];cases a;cases b;simp
theorem IZ (a b:V2):Pua 130 [dLI a,dLI b] (.bool (decide (a=b))):=by
 refine Tz.p0 func130 rfl λQ g Y=>?_;refine eP (λm=>?_) λm=>?_
 .refine wv (h:=?_);have c:a≠b:=by intro h;subst h;omega
  exact g _ _ (iq c)
 .refine wv (h:=bA (λi e H=>(e 0=dLI a/\e 1=dLI b/\e 5=dI i)/\(i<=a.length)/\(a.take i=b.take i)) (λi=>a.length - i) 0 ⟨wg,wi,(by rfl)⟩ λp j i e H d=>?_);obtain ⟨n,o,f⟩:=d;have Y:=wa Y n;refine wv (h:=?_);repeat first|intro _|refine ⟨iS,?_⟩
  refine wq (λl=>?_) λl=>?_
  .have hib:i<b.length:=aD;have Y:=xa1 Y l hib;refine eP (λk=>?_) λk=>?_
   .refine wv (h:=?_);have c:a≠b:=by intro h;subst h;exact k rfl
    exact g _ _ (iq c)
   .exact wo (h:=wx j (i+1) ⟨wg,wj,(by rw [List.take_succ_eq_append_getElem l,List.take_succ_eq_append_getElem hib,f,k])⟩)
  .rw [aG aD,aG aD] at f;exact wv (h:=g _ _ (iq f))
theorem Qy (a b:Graph):Pua 61 [a.d,b.d] (.bool (decide (a=b))):=by
 refine Tz.p0 func61 rfl λQ m Y=>?_;refine wo (h:=aB (IZ a.h b.h) wl ?_);refine eP (λj=>?_) λj=>?_
 .refine wv (h:=?_);have f:a≠b:=by intro h;subst h;simp at j
  exact m _ _ (iq f)
 .have hab:a.h=b.h/\a.i.length=b.i.length:=by (try simp at j);obtain ⟨p,r⟩:=j;exact ⟨p,aD⟩
  refine wv (h:=bA (λi e H=>(e 2=.adr a.c/\e 3=.adr b.c/\e 5=dI i)/\(i<=a.i.length)/\(a.i.take i=b.i.take i)) (λi=>a.i.length - i) 0 ⟨wg,wi,(by rfl)⟩ λt n i e H k=>?_);obtain ⟨q,s,l⟩:=k;have Y:=wa Y q;refine wv (h:=?_);repeat first|intro _|refine ⟨iS,?_⟩
  refine wq (λg=>?_) λg=>?_
  .have hib:i<b.i.length:=aD;have Y:=xa2 Y g (aA g) (aA hib);refine eP (λo=>?_) λo=>?_
   .refine wv (h:=?_);have f:a≠b:=by intro h;subst h;simp at o
    exact m _ _ (iq f)
   .exact wo (h:=wx n (i+1) ⟨wg,wj,(by rw [List.take_succ_eq_append_getElem g,List.take_succ_eq_append_getElem hib,l,Nd o])⟩)
  .have hE:a.i=b.i:=by rw [aG aD,aG aD] at l;exact l
   exact wv (h:=m _ _ (by simp [go_sem,Eg,hab.1,hE]))
def KN (a b:V2):Prop:=∃ k:Int,Pure prog 62 [dLI a,dLI b] (dI k)/\(k=0↔a=b)
theorem IU (a:V2):Pua 62 [dLI a,dLI a] (dI 0):=by
 refine Tz.p0 func62 rfl λQ f Y=>?_;refine wv (h:=bA (λi e H=>(e 0=dLI a/\e 1=dLI a/\e 5=dI i)/\(i<=a.length)) (λi=>a.length - i) 0 ⟨wg,wi⟩ λk d i e H c=>?_);obtain ⟨g,j⟩:=c;have Y:=wa Y g;refine wv (h:=?_);repeat first|intro _|refine ⟨iS,?_⟩
 refine wq (λb=>?_) λb=>?_
 .have Y:=xa1 Y b (aA b);exact wo (h:=wx d (i+1) ⟨wg,wj⟩)
 .have Y:=wa Y b;exact wo (h:=f _ _ wy)
theorem TI (a:V2):KN a a:=⟨0,IU a,by simp⟩
theorem Qn (a b:Host)(t:∀ i (l:i<a.k.length) (x:i<b.k.length),KN a.k[i] b.k[i]):Pua 23 [a.d,b.d] (.bool (decide (a=b))):=by
 refine Tz.p0 func23 rfl λQ p _=>?_;have Y:=wa @Host.d.eq_1 @Host.c.eq_1;refine wo (h:=aB (Qy a.j b.j) wl ?_);refine eP (λl=>?_) λl=>?_
 .refine wv (h:=?_);have f:a≠b:=by intro h;subst h;simp at l
  exact p _ _ (iq f)
 .have hab:a.j=b.j/\a.k.length=b.k.length:=by (try simp at l);obtain ⟨s,v⟩:=l;exact ⟨s,aD⟩
  refine wv (h:=bA (λi e H=>(e 2=.adr a.c/\e 3=.adr b.c/\e 5=dI i)/\(i<=a.k.length)/\(a.k.take i=b.k.take i)) (λi=>a.k.length - i) 0 ⟨wg,wi,(by rfl)⟩ λy q i e H n=>?_);obtain ⟨u,w,o⟩:=n;have Y:=wa Y u;refine wv (h:=?_);repeat first|intro _|refine ⟨iS,?_⟩
  refine wq (λj=>?_) λj=>?_
  .have hib:i<b.k.length:=aD;obtain ⟨k,m,g⟩:=t i j hib;have Y:=xa3 Y j (aA j) (aA hib) @cL.eq_1;refine wo (h:=aH (m) wl ?_);refine eP (λr=>?_) λr=>?_
   .refine wv (h:=?_);have f:a≠b:=by intro h;subst h;exact r (g.2 rfl)
    exact p _ _ (iq f)
   .exact wo (h:=wx q (i+1) ⟨wg,wj,(by rw [List.take_succ_eq_append_getElem j,List.take_succ_eq_append_getElem hib,o,g.1 r])⟩)
  .have hV:a.k=b.k:=by rw [aG aD,aG aD] at o;exact o
   exact wv (h:=p _ _ (by simp [go_sem,UJ,hab.1,hV]))
theorem tO (t:Types)(b:t.ok)(r:Rule)(f:r.ok)(h:Host)(m:Mat){v:Stp26}{e:Int}(a:v=fQ t r h m)(g:e=jJ t r h m):Pua 40 [t.d,r.d,h.d,m.d] (.tup [.agg v.c,dI e]):=by
 subst a g;exact Ij t b r f h m
theorem p7 {g:Graph}{p:Part}(h:subF g p=0):(cJ g p).h.length=p.h.length/\(cJ g p).i.length=p.i.length:=by
 unfold cJ;rw [if_pos h];simp
theorem abA {g:Graph}{p:Part}(h:subF g p=0):p.h.length<=g.h.length/\p.i.length<=g.i.length:=by
 obtain ⟨_,c,b,a⟩:=nQ h;exact ⟨O1 c b,O1 (uO h) a⟩
theorem J4 {g:Graph}{p:Part}(h:subF g p=0):graphF (cJ g p)=0:=by
 obtain ⟨l,i,j,m⟩:=nQ h;obtain ⟨q,v⟩:=p7 h;obtain ⟨u,t⟩:=abA h;have r:=bK l;have c:=dY l;refine Fx aD aD (λa f=>?_) (λx d=>?_)
 .unfold cJ at f;rw [if_pos h,aT] at f;obtain ⟨n,b,rfl⟩:=f;exact c.1 _ (CU (j n b).1 (j n b).2)
 .rw [q];unfold cJ at d;rw [if_pos h,aT] at d;obtain ⟨k,e,rfl⟩:=d;rw [CV];have s:=c.2 _ (OP (m k e).1 (m k e).2);have o:=qJ h e;have y:=(zD i o.1).1;have w:=(zD i o.2).1;exact ⟨s.1,by show (0:Int)<=(pI _ _:Nat)/\((pI _ _:Nat):Int)<_;omega,by show (0:Int)<=(pI _ _:Nat)/\((pI _ _:Nat):Int)<_;omega⟩
theorem BA {a b:Graph}{m:Part}(l:graphF a=0)(j:graphF b=0)(p:m.h.length=a.h.length)(l2:m.i.length=a.i.length)
  (f:∀ i:Int,0<=i->i<a.h.length->(0<=iA m.h i/\iA m.h i<b.h.length)/\gN b (iA m.h i)=gN a i)
  (g:∀ k:Int,0<=k->k<a.i.length->(0<=iA m.i k/\iA m.i k<b.i.length)/\(eA a k).type=(eA b (iA m.i k)).type/\iA m.h (eA a k).w=(eA b (iA m.i k)).w/\iA m.h (eA a k).M=(eA b (iA m.i k)).M):eR a b m=0:=by
 unfold eR;rw [if_neg (by rw [l];simp),if_neg (by rw [j];simp),if_neg aD];have n:bW (lT a b m) 0 a.h.length=0:=iT _ _ λi _ r=>by
  have:=f i aD aD;unfold iA gN at this;unfold lT;simp only [Int.toNat_natCast] at this;rw [if_neg aD,if_neg (by rw [this.2];simp)]
 rw [if_neg (by rw [n];simp)];refine iT _ _ λk _ q=>?_;have:=g k aD aD;unfold iA eA at this;simp only [Int.toNat_natCast] at this;obtain ⟨o,e,d,c⟩:=this;unfold mapEE;rw [if_neg aD,if_neg (by rw [e];simp),if_neg];rintro (h|h)
 .exact h d
 .exact h c
theorem EV {t:Types}{g:Graph}(c:∀ a∈g.h,a<t.h.length)(d:∀ x∈g.i,x.type<t.i.length):fZ t g=true:=by
 unfold fZ;rw [aM,cZ,cZ,gB,gB];exact ⟨λa e=>by have:=c a e;simpa using this,λx b=>by have:=d x b;simpa using this⟩
section
variable {g:Graph} {p:Part} {more:Graph} {kept:Part} {im:V2}
end
theorem aaR {g:Graph}{i:Nat}(h:i<g.h.length):gN g i=g.h[i]:=by unfold gN;simp [h]
theorem UU {g:Graph}{i:Nat}(h:i<g.i.length):eA g i=g.i[i]:=by unfold eA;simp [h]
section
variable {t:Types} {a b:Rule} {o:Ovl}
theorem qQ {g:Graph}(a:(dG t).2=0)(c:graphF g=0)(b:fZ t g=true):c9 t ⟨g,[],0,[]⟩=0:=by
 unfold c9;rw [if_neg (by rw [a];simp),if_neg (by show ¬ graphF g≠0;rw [c];simp),if_neg (by show ¬ fZ t g=false;rw [b];simp),if_neg (by show ¬ inF 0 0 12=false;decide),if_neg aE,if_neg (by simp [iB]),if_neg (by show ¬ l6 0 []≠0;decide),if_neg (by show ¬ mem (kZ (0:Int).toNat []) false=true;decide)]
end
theorem Zn {n:Nat}{p:V2}(h:Cw n p){i j:Nat}(c:i<p.length)(b:j<p.length)(a:i≠j):p[i]≠p[j]:=by
 intro d;rcases Nat.lt_or_gt_of_ne a with hlt|hlt
 .exact h.2.2 i j hlt b (by rw [aA c,aA b,d])
 .exact h.2.2 j i hlt c (by rw [aA c,aA b,d])
theorem Tc {n:Nat}{p:V2}(h:Cw n p):p.Nodup:=by
 rw [e8,dF];exact λa b e c d=>Zn h e c aD
section
variable {g:Graph} {p q:V2}
end
section
variable {t:Types} {g:Graph} {d:Dr24}
structure GrOk (t:Types) (g G:Graph):Prop where
 ok:graphF G=0
 ty:fZ t G=true
 no:∀ i:Int,0<=i->i<g.h.length->gN G i=gN g i
 ed:∀ k:Int,0<=k->k<g.i.length->eA G k=eA g k
 fi:∀ k:Int,g.i.length<=k->k<G.i.length->p6 t (eA G k).type (gN G (eA G k).w) (gN G (eA G k).M)=true
 ln:g.h.length<=G.h.length
 le:g.i.length<=G.i.length
end
/-! ### type graphs -/
structure MadeTy (t:Types):Prop where
 v:(dG t).2=0
 b6:t.b6
 ne:t.i.length<=5
 nn:t.h.length<=6
structure SlotIn (t:Types) (ns:V2) (v:Int) (s:Slot):Prop where
 n0:0<=s.node
 n1:s.node<ns.length
 a0:0<=s.J
 a1:s.J<(bL t (ns[s.node.toNat]?.getD 0)).length
 v0 : -1<=s.y.O
 v1:s.y.O<v
 d0 : -1000000<=s.y.add
 d1:s.y.add<=1000000
theorem SlotIn.mono {t:Types}{ns:V2}{v w:Int}{s:Slot}(h:SlotIn t ns v s)(hv:v<=w):SlotIn t ns w s:=⟨h.n0,h.n1,h.a0,h.a1,h.v0,by have:=h.v1;omega,h.d0,h.d1⟩
theorem Xj {t:Types}{p:Pattern}{s:Slot}(h:SlotIn t p.j.h p.vars s):g5 t p s=0:=by
 obtain ⟨g,f,e,d,c,i,b,a⟩:=h;unfold g5;rw [if_pos];unfold mT inF Pattern.D;simp only [aM,decide_eq_true_eq];exact ⟨⟨⟨⟨g,f⟩,e,d⟩,c,aD⟩,b,a⟩
def T5 (l:List Slot):Prop:=∀ (i:Nat) (h:i<l.length),((l.take i).any (sameSlot l[i]))=false
theorem Vt {t:Types}{p:Pattern}(c:∀ s∈p.l,SlotIn t p.j.h p.vars s)(b:T5 p.l):bW (uR t p) 0 p.l.length=0:=by
 refine iT _ _ λj _ d=>?_;have a:j<p.l.length:=aD;rw [Bt a,if_neg (by rw [Xj (c _ (aC a))];simp),if_neg (by rw [b j a];simp)]
def OC (t:Types)(d:Dr24):Part:=⟨(AF (Rp t d).h.length d.bi).take (Re t d).h.length,(AF (Rp t d).i.length d.bi).take (Re t d).i.length⟩
structure Core24 (t:Types) (d:Dr24):Prop where
 g0:graphF (n9 t d.left.j)=0
 t0:fZ t (n9 t d.left.j)=true
 gR:graphF (Lh t d)=0
 tR:fZ t (Lh t d)=true
 sub:subF (n9 t d.left.j) (A4 t d)=0
 mor:eR (cJ (n9 t d.left.j) (A4 t d)) (Lh t d) (OC t d)=0
 inj:BW (cJ (n9 t d.left.j) (A4 t d)) (Lh t d) (OC t d)=true
 hk:pX t (Lh t d) (bH (OC t d).h (Lh t d).h.length) (bH (OC t d).i (Lh t d).i.length)=true
theorem PR {t:Types}{r:Rule}(a:(dG t).2=0)(c:lJ r.name=true)(e:c9 t r.left=0)(b:iV t r=0)(f:keptF r=0)(d:pX t r.right.j r.N r.ad=true)(g:condF t r.left r.cond=0):ruleF t r=0:=by
 unfold ruleF;rw [if_neg (by rw [a];simp),if_neg (by rw [c];simp),if_neg (by rw [e];simp),if_neg (by rw [b];simp),if_neg (by rw [f];simp),if_neg (by rw [d];simp),g]
theorem Pu {t:Types}{p:Pattern}(a:c9 t p=0):condF t p trueC=0:=by
 unfold condF;rw [if_neg (by rw [a];simp),if_neg (by decide)];rfl
theorem Jk (n:Nat):(f6 n).Nodup:=Tc (Fj n)
theorem Mj {t:Types}{r:Rule}(d:graphF r.right.j=0)(b:fZ t r.right.j=true)(a:r.right.vars=r.left.vars)(e:r.right.G=[])(f:r.right.l.length<=10)(c:bW (uR t r.right) 0 r.right.l.length=0):iV t r=0:=by
 unfold iV;rw [if_neg (by rw [d];simp),if_neg (by rw [b];simp),if_neg (by rw [a,e];simp),if_neg aD,c]
theorem Rf {r:Rule}(a:subF r.left.j r.q=0)(b:eR (cJ r.left.j r.q) r.right.j r.s=0)(c:BW (cJ r.left.j r.q) r.right.j r.s=true):keptF r=0:=by
 unfold keptF;rw [if_neg (by rw [a];simp),if_neg (by rw [b];simp),if_neg (by rw [c];simp)]
def yQ (p:Nat->Bool)(n:Nat):Nat:=((List.range n).filter p).length
theorem BJ (p:Nat->Bool)(n:Nat):yQ p (n+1)=yQ p n+(if p n=true then 1 else 0):=by
 unfold yQ;rw [bR,fN,aI];by_cases h:p n=true<;>simp [h]
theorem Ko (p:Nat->Bool):∀ n,yQ p n+yQ (λi=>!p i) n=n
 | 0=>rfl
 | n+1=>by
  have ih:=Ko p n;rw [BJ,BJ];cases p n<;>simp<;>omega
theorem QL (l:V2)(n:Nat):(bH l n).length=yQ (λi=>!mem l i) n:=by unfold bH yQ;rw [aR]
theorem Kn {p q:Nat->Bool}{n:Nat}(h:∀ i,i<n->p i=q i):yQ p n=yQ q n:=by
 unfold yQ;rw [HQ λi a=>h i (aV.1 a)]
theorem U2 (p:Nat->Bool)(v:Nat):∀ n,yQ (λi=>p i||decide (i=v)) n=yQ p n+(if v<n/\p v=false then 1 else 0)
 | 0=>by simp [yQ]
 | n+1=>by
  rw [BJ,BJ,U2 p v n];by_cases h:n=v
  .subst h;cases hp:p n<;>simp [hp]
  .have e:decide (n=v)=false:=by simpa using h
   have c:(v<n+1/\p v=false)↔(v<n/\p v=false):=⟨λ⟨a,b⟩=>⟨aD,b⟩,λ⟨a,b⟩=>⟨aD,b⟩⟩;rw [e,qD];simp only [c];omega
theorem LA (l:V2)(v:Int){j:Nat}(h:j<l.length):mem (l.take (j+1)) v=(mem (l.take j) v||decide (l[j]=v)):=by
 rw [aU,c8,mem_iff,mem_iff,List.take_succ_eq_append_getElem h,aZ,bD,decide_eq_true_eq];exact ⟨λh=>h.imp id Eq.symm,λh=>h.imp id Eq.symm⟩
def Kh (l:V2)(k:Nat):Nat:=((List.range k).filter λi=>!mem (l.take i) (l[i]?.getD 0)).length
theorem Kg (l:V2)(k:Nat):Kh l (k+1)=Kh l k+if mem (l.take k) (l[k]?.getD 0)=true then 0 else 1:=by
 unfold Kh;rw [bR,fN,aI];cases h:mem (l.take k) (l[k]?.getD 0)<;>simp [h]
theorem RD {l:V2}{n:Nat}(hr:∀ x∈l,0<=x/\x<n):∀ k,k<=l.length->Kh l k=yQ (λi=>mem (l.take k) i) n
 | 0,_=>by
  have:yQ (λi=>mem (l.take 0) (i:Int)) n=yQ (λ_=>false) n:=Kn λi _=>by simp [BB]
  have h2:yQ (λ_=>false) n=0:=by
   unfold yQ;rw [rI.2 (λ_ _=>by simp)];rfl
  rw [this,h2];rfl
 | k+1,hk=>by
  have ih:=RD hr k aD;have hx:=hr _ (aC (aD:k<l.length));have e:yQ (λi=>mem (l.take (k+1)) (i:Int)) n=yQ (λi=>mem (l.take k) (i:Int)||decide (i=l[k].toNat)) n:=Kn λi _=>by
   rw [LA l _ (aD:k<l.length)];congr 1;rw [decide_eq_decide];omega
  rw [e,U2,Kg,ih,aA (aD:k<l.length),Option.getD_some,show ((l[k].toNat:Nat):Int)=l[k] by omega];have hlt:l[k].toNat<n:=aD;cases hm:mem (l.take k) l[k]<;>simp [hlt]
theorem QK {l:V2}{n:Nat}(a:∀ x∈l,0<=x/\x<n):(bH l n).length+Kh l l.length=n:=by
 rw [QL,RD a l.length (bC _),vK];have:=Ko (λi=>mem l (i:Int)) n;omega
theorem Ke {l:V2}(hd:l.Nodup):∀ k,k<=l.length->Kh l k=k
 | 0,_=>rfl
 | k+1,hk=>by
  rw [Kg,Ke hd k aD,if_neg];rw [LY,bJ];intro hm;have hk':k<l.length:=aD;rw [mem_iff,aA hk',Option.getD_some] at hm;have h2:(l.take (k+1)).Nodup:=(List.take_sublist _ _).nodup hd;rw [List.take_succ_eq_append_getElem hk',pC] at h2;exact h2.2.2 _ hm _ (bD.2 rfl) rfl
theorem DR {l:V2}{n:Nat}(a:∀ x∈l,0<=x/\x<n)(b:l.Nodup):(bH l n).length+l.length=n:=by
 have:=QK a;rw [Ke b _ (bC _)] at this;exact this
section
variable {t:Types} {r:Rule} {h:Host} {m:Mat}
theorem StepIn.d6 (S:StepIn t r h m):∀ x∈m.m.h,0<=x/\x<h.j.h.length:=λx hx=>by
 obtain ⟨i,hi,rfl⟩:=aO hx;have:=S.hm.len;exact (S.hm.b5 i hi aD).1
theorem StepIn.hp (S:StepIn t r h m):∀ x∈m.m.i,0<=x/\x<h.j.i.length:=λx hx=>by
 obtain ⟨i,hi,rfl⟩:=aO hx;exact S.hm.dx i hi
end
structure StepOk (t:Types) (r:Rule) (h:Host) (m:Mat):Prop where
 S:StepIn t r h m
 ey:o7 t r h m=0
 hA:eG t r.left h m.m=(m.vars,0)
 put:sP t (bT t r h m).j (cT r h m) m.vars r.right.l=0
 nn:(bT t r h m).j.h.length<=40
 ne:(bT t r h m).j.i.length<=80
theorem Xg {t:Types}{r:Rule}{h:Host}{m:Mat}(f:RuleV t r)(e:HostOk t h)(c:gM t r h m=0):StepOk t r h m:=by
 unfold gM at c;split at c
 .contradiction
 .rename_i h1;have d:lC t r h m=0:=by simpa using h1
  unfold lC at d;split at d
  .contradiction
  .rename_i h2;have a:o7 t r h m=0:=by simpa using h2
   have b:eG t r.left h m.m=(m.vars,0):=by
    unfold o7 at a;split at a
    .cases a
    .split at a
     .contradiction
     .rename_i h4;split at a
      .cases a
      .rename_i h5;exact Prod.ext (bY h5) (bY h4)
   split at c
   .contradiction
   .rename_i h3;split at c
    .cases c
    .rename_i h4;exact ⟨NL f e a,a,b,by simpa using h3,aD,aD⟩
theorem StepOk.after {t:Types}{r:Rule}{h:Host}{m:Mat}(S:StepOk t r h m):fG t (bP t r h m)=0:=S.S.after S.put S.nn S.ne
theorem YK {t:Types}{r:Rule}{h:Host}{m:Mat}(a:m∈(mU t r h).1):fW t r h=0/\gM t r h m=0:=by
 unfold mU at a;split at a
 .cases a
 .rename_i h1;split at a
  .cases a
  .exact ⟨by simpa using h1,of_decide_eq_true (d8.1 a).2⟩
@[go_sem] theorem ajZ (o:Option UInt8)(a:D):((Option.map cU o).getD [a]).length=1:=by cases o<;>rfl
@[go_sem] theorem ajN (o:Option B3)(c b a:D):((Option.map cT3 o).getD [c,b,a]).length=3:=by cases o<;>rfl
@[go_sem] theorem aj0 (o:Option B2)(b a:D):((Option.map cP o).getD [b,a]).length=2:=by cases o<;>rfl
theorem DW (l:List Slot):eW (l.map Slot.c)=l.map Slot.c:=kQ λc hc=>by
 rw [aT] at hc;obtain ⟨x,_,rfl⟩:=hc;rfl
theorem DV (l:List Test):eW (l.map Test.c)=l.map Test.c:=kQ λc hc=>by
 rw [aT] at hc;obtain ⟨x,_,rfl⟩:=hc;rfl
theorem Zv (c:Cond):iI c.c=c.c:=by
 refine l5 (p:=λc=>iI c.c=c.c) (λc b=>?_) c;rw [Cond.A];have f:eW (c.u.map Cond.c)=c.u.map Cond.c:=kQ λd a=>by
  rw [aT] at a;obtain ⟨x,e,rfl⟩:=a;exact b x e
 simp [iI,mK,dLI,dI,eQ,qT,DW,DV,f]
theorem Ji (l:List Cond):eW (l.map Cond.c)=l.map Cond.c:=kQ λc hc=>by
 rw [aT] at hc;obtain ⟨x,_,rfl⟩:=hc;exact Zv x
theorem XK (l:Yb):eW (l.map cL)=l.map cL:=kQ λc hc=>by
 rw [aT] at hc;obtain ⟨x,_,rfl⟩:=hc;simp [cL,dLI,iI,mK,eQ]
theorem XO (n a:Nat):(if a<n then (a:Int) else (n:Int))=((min n a:Nat):Int):=by split<;>omega
def small (d:Dr5)(a b:Nat):Dr5:=⟨d.h.take (min d.h.length a),d.i.take (min d.i.length b)⟩
theorem Gg (d:Dr5)(a b:Nat)(q:a<=1000)(p:b<=1000):Pua 51 [.agg d.c,dI a,dI b] (.agg (small d a b).c):=by
 have i:=XO d.h.length a;have g:=XO d.i.length b;obtain ⟨n,f⟩:∃ m,min d.h.length a=m:=⟨_,rfl⟩;obtain ⟨l,e⟩:∃ m,min d.i.length b=m:=⟨_,rfl⟩;rw [f] at i;rw [e] at g;have k:n<=d.h.length:=aD;have j:l<=d.i.length:=aD;refine Tz.pK ⟨λt=>t==6,λ_=>[]⟩ func51 rfl (λQ o=>?_);have Y:=xa1 @Dr5.c.eq_1 i g;exact wo (h:=o _ _ (by simp [go_sem,small,Y,f,e]))
structure Dr26 where
 types:List B2
 bE:List B2
 x:Dr24
 bo:Dr15
def Dr26.c (d:Dr26):UN:=[.list (d.types.map cP),.list (d.bE.map cP)]++d.x.c++d.bo.c
@[go_sem] theorem Dr26.Q (d:Dr26):D.L d.c=true:=by simp [Dr26.c,zQ,Dr24.Q,Dr15.c,D.L,D.Q,YA,EA]
def UY (d:Dr24):Dr24:={ d with left:={ d.left with j:=small d.left.j 3 2 } }
def t26 (d:Dr26):Types:=qX d.types d.bE
def r26 (d:Dr26):Rule:=Fo (t26 d) (UY d.x)
def Rn (d:Dr26):Host:=Ou (t26 d) ⟨d.bo.h.take (min d.bo.h.length 6),d.bo.i.take (min d.bo.i.length 8)⟩
theorem SS (d:Dr26):Pua 50 [.agg d.c] (.tup [(t26 d).d,(r26 d).d,(Rn d).d]):=by
 have i:=Jt d.types d.bE;obtain ⟨T,o⟩:=dH (qX d.types d.bE);have p:=S7 d.types d.bE;rw [o] at i p;have f:(if (6:Int)<(d.bo.h.length:Int) then (6:Int) else (d.bo.h.length:Int))=((min d.bo.h.length 6:Nat):Int):=by split<;>omega
 have e:(if (8:Int)<(d.bo.i.length:Int) then (8:Int) else (d.bo.i.length:Int))=((min d.bo.i.length 8:Nat):Int):=by split<;>omega
 obtain ⟨k,b⟩:∃ m,min d.bo.h.length 6=m:=⟨_,rfl⟩;obtain ⟨j,a⟩:∃ m,min d.bo.i.length 8=m:=⟨_,rfl⟩;rw [b] at f;rw [a] at e;have n:k<=d.bo.h.length:=aD;have l:j<=d.bo.i.length:=aD;refine qP gt (λQ q=>(Tz.cK ⟨λt=>t==1||t==2||t==3||t==4||t==5,λr=>match r with|3=>[(15,20),(16,20),(17,20)]|_=>[]⟩ func50 rfl ?_));have Y:=xa6 @Dr26.c.eq_1 @Dr24.c.eq_1 @Dr15.c.eq_1 @Dr5.c.eq_1 @Host.d.eq_1 @Host.c.eq_1 f e;refine j4 (h:=aB (p) wl ?_);refine j4 (h:=aB (Gg d.x.left.j 3 2 aD aD) wl ?_);refine rL (h:=aH ((by have g:=IN T i (UY d.x);simp only [UY,Dr24.c,Dr5.c] at g;exact g)) wl ?_);refine rL (h:=aH ((by have g:=S3 T i ⟨d.bo.h.take k,d.bo.i.take j⟩;simpa [go_sem,Dr15.c,Host.d,Host.c] using g)) wl ?_);refine rL (h:=?_);exact q _ _ (by simp [go_sem,Y,t26,r26,Rn,UY,o,b,a,Types.d,Types.c,Host.d,Host.c,Rule.d,uC,uX,eQ,qT,DW,DV,Ji,XK])
@[go_sem] theorem ajL (o:Option Mat)(d b a:D):((Option.map Mat.c o).getD [d,b,a]).length=3:=by cases o<;>rfl
/-! ### StepCounts -/
@[go_sem] theorem acR (l:V2):Kh l 0=0:=rfl
deriving instance DecidableEq for Term
deriving instance DecidableEq for Slot
deriving instance DecidableEq for Test
deriving instance DecidableEq for Pattern
mutual
def Xn:Cond→Cond→Bool
 | .mk k l m p,.mk k' l' m' p'=>decide (k=k')&&decide (m=m')&&decide (p=p')&&CC l l'
def CC:List Cond→List Cond→Bool
 | [],[]=>true
 | [],_ :: _=>false
 | _ :: _,[]=>false
 | a :: l,b :: l'=>Xn a b&&CC l l'
end
mutual
theorem Md:∀ a b:Cond,Xn a b=true↔a=b
 | .mk k l m p,.mk k' l' m' p'=>by
  have:=Iy l l';simp only [Xn,aM,decide_eq_true_eq,this,Cond.mk.injEq];constructor
  ·rintro ⟨⟨⟨h1,h2⟩,h3⟩,h4⟩;exact ⟨h1,h4,h2,h3⟩
  ·rintro ⟨h1,h4,h2,h3⟩;exact ⟨⟨⟨h1,h2⟩,h3⟩,h4⟩
theorem Iy:∀ a b:List Cond,CC a b=true↔a=b
 | [],[]=>by simp [CC]
 | [],_ :: _=>by simp [CC]
 | _ :: _,[]=>by simp [CC]
 | a :: l,b :: l'=>by
  have h1:=Md a b;have h2:=Iy l l';simp [CC,h1,h2]
end
instance:DecidableEq Cond:=fun a b=>decidable_of_iff _ (Md a b)
deriving instance DecidableEq for Rule
deriving instance DecidableEq for Stp26
theorem Vu {x y:Slot}(h:x.node=y.node/\x.J=y.J/\x.y.O=y.y.O/\x.y.add=y.y.add):x=y:=by
 obtain ⟨a,b,⟨c,d⟩⟩:=x;obtain ⟨e,f,⟨g,i⟩⟩:=y;obtain ⟨rfl,rfl,rfl,rfl⟩:=h;rfl
theorem Vq {x y:Test}(h:x.D=y.D/\x.left.O=y.left.O/\x.left.add=y.left.add/\x.right.O=y.right.O/\x.right.add=y.right.add):x=y:=by
 obtain ⟨a,⟨b,c⟩,⟨d,e⟩⟩:=x;obtain ⟨f,⟨g,i⟩,⟨j,k⟩⟩:=y;obtain ⟨rfl,rfl,rfl,rfl,rfl⟩:=h;rfl
theorem Xz (a b:Pattern):decide (a=b)=(decide (a.j=b.j)&&decide (a.vars=b.vars)&&decide (a.l=b.l)&&decide (a.G=b.G)):=by
 rw [aU];cases a;cases b;simp [Cond.D,Cond.u,Cond.map,Cond.o,and_comm,and_left_comm,and_assoc]
theorem ZQ (a b:Cond):decide (a=b)=(decide (a.D=b.D)&&decide (a.map=b.map)&&decide (a.o=b.o)&&decide (a.u=b.u)):=by
 rw [aU];simp only [aM,decide_eq_true_eq];cases a;cases b
 simp only [Cond.mk.injEq,Cond.D,Cond.u,Cond.map,Cond.o];constructor
 .rintro ⟨f,e,d,c⟩;exact ⟨⟨⟨f,d⟩,c⟩,e⟩
 .rintro ⟨⟨⟨f,d⟩,c⟩,e⟩;exact ⟨f,e,d,c⟩
theorem Zh (a b:Rule):decide (a=b)=(decide (a.name=b.name)&&decide (a.inj=b.inj)&&decide (a.left=b.left)&&decide (a.right=b.right)&&decide (a.q=b.q)&&decide (a.s=b.s)&&decide (a.cond=b.cond)):=by
 rw [aU];cases a;cases b;simp [Cond.D,Cond.u,Cond.map,Cond.o,and_comm,and_left_comm,and_assoc]
theorem abC (a b:Stp26):decide (a=b)=(decide (a.x=b.x)&&decide (a.U=b.U)&&decide (a.C=b.C)&&decide (a.after=b.after)&&decide (a.V=b.V)&&decide (a.B=b.B)):=by
 rw [aU];cases a;cases b;simp [and_assoc]
theorem C3 (a b:List Edge):Pua 185 [.list (a.map Edge.c),.list (b.map Edge.c)] (.bool (decide (a=b))):=by
 refine Tz.p0 func185 rfl λQ k Y=>?_;refine wv (h:=?_);repeat first|intro _|refine ⟨iS,?_⟩
 refine wq (λn=>?_) λn=>?_
 .refine wv (h:=?_);have d:a≠b:=by intro h;subst h;omega
  exact k _ _ (iq d)
 .refine wo (h:=bA (λi e H=>(e 0=.list (a.map Edge.c)/\e 1=.list (b.map Edge.c)/\e 12=dI a.length/\e 13=dI i)/\(i<=a.length)/\(a.take i=b.take i)) (λi=>a.length - i) 0 ⟨wg,wi,(by rfl)⟩ λq l i e H g=>?_);obtain ⟨o,p,j⟩:=g;have Y:=wa Y o;refine dR (λf=>?_) λf=>?_
  .have hib:i<b.length:=aD;have Y:=xa2 Y f (aA f) (aA hib);refine wv (h:=?_);repeat first|intro _|refine ⟨iS,?_⟩
   refine wq (λm=>?_) λm=>?_
   .refine wv (h:=?_);have d:a≠b:=by intro h;subst h;simp at m
    exact k _ _ (iq d)
   .exact wo (h:=wx l (i+1) ⟨wg,wj,(by rw [List.take_succ_eq_append_getElem f,List.take_succ_eq_append_getElem hib,j,Nd m])⟩)
  .have hab:a=b:=by rw [aG aD,aG aD] at j;exact j
   exact wv (h:=k _ _ (iq hab))
theorem C2 (a b:List Slot):Pua 22 [.list (a.map Slot.c),.list (b.map Slot.c)] (.bool (decide (a=b))):=by
 refine Tz.p0 func22 rfl λQ k Y=>?_;refine wv (h:=?_);repeat first|intro _|refine ⟨iS,?_⟩
 refine wq (λn=>?_) λn=>?_
 .refine wv (h:=?_);have d:a≠b:=by intro h;subst h;omega
  exact k _ _ (iq d)
 .refine wo (h:=bA (λi e H=>(e 0=.list (a.map Slot.c)/\e 1=.list (b.map Slot.c)/\e 12=dI a.length/\e 13=dI i)/\(i<=a.length)/\(a.take i=b.take i)) (λi=>a.length - i) 0 ⟨wg,wi,(by rfl)⟩ λq l i e H g=>?_);obtain ⟨o,p,j⟩:=g;have Y:=wa Y o;refine dR (λf=>?_) λf=>?_
  .have hib:i<b.length:=aD;have Y:=xa2 Y f (aA f) (aA hib);refine wv (h:=?_);repeat first|intro _|refine ⟨iS,?_⟩
   refine wq (λm=>?_) λm=>?_
   .refine wv (h:=?_);have d:a≠b:=by intro h;subst h;simp at m
    exact k _ _ (iq d)
   .exact wo (h:=wx l (i+1) ⟨wg,wj,(by rw [List.take_succ_eq_append_getElem f,List.take_succ_eq_append_getElem hib,j,Vu m])⟩)
  .have hab:a=b:=by rw [aG aD,aG aD] at j;exact j
   exact wv (h:=k _ _ (iq hab))
theorem J9 (a b:List Test):Pua 268 [.list (a.map Test.c),.list (b.map Test.c)] (.bool (decide (a=b))):=by
 refine Tz.p0 func268 rfl λQ k Y=>?_;refine wv (h:=?_);repeat first|intro _|refine ⟨iS,?_⟩
 refine wq (λn=>?_) λn=>?_
 .refine wv (h:=?_);have d:a≠b:=by intro h;subst h;omega
  exact k _ _ (iq d)
 .refine wo (h:=bA (λi e H=>(e 0=.list (a.map Test.c)/\e 1=.list (b.map Test.c)/\e 12=dI a.length/\e 13=dI i)/\(i<=a.length)/\(a.take i=b.take i)) (λi=>a.length - i) 0 ⟨wg,wi,(by rfl)⟩ λq l i e H g=>?_);obtain ⟨o,p,j⟩:=g;have Y:=wa Y o;refine dR (λf=>?_) λf=>?_
  .have hib:i<b.length:=aD;have Y:=xa2 Y f (aA f) (aA hib);refine wv (h:=?_);repeat first|intro _|refine ⟨iS,?_⟩
   refine wq (λm=>?_) λm=>?_
   .refine wv (h:=?_);have d:a≠b:=by intro h;subst h;simp at m
    exact k _ _ (iq d)
   .exact wo (h:=wx l (i+1) ⟨wg,wj,(by rw [List.take_succ_eq_append_getElem f,List.take_succ_eq_append_getElem hib,j,Vq m])⟩)
  .have hab:a=b:=by rw [aG aD,aG aD] at j;exact j
   exact wv (h:=k _ _ (iq hab))
theorem n8 (a b:Part):Pua 105 [a.d,b.d] (.bool (decide (a=b))):=by
 refine Tz.p0 func105 rfl λQ e Y=>?_;refine wo (h:=aB (mP a.h b.h) wl ?_);refine wo (h:=aK (λc=>mP a.i b.i) (λc=>wl) ?_);have Y:=wa Y @Uo;exact wo (h:=e _ _ wy)
theorem Ro (a b:Graph):Pua 267 [a.d,b.d] (.bool (decide (a=b))):=by
 refine Tz.p0 func267 rfl λQ e Y=>?_;refine wo (h:=aB (mP a.h b.h) wl ?_);refine wo (h:=aK (λc=>C3 a.i b.i) (λc=>wl) ?_);have Y:=wa Y @Eg;exact wo (h:=e _ _ wy)
theorem vU (a b:Pattern):Pua 182 [a.d,b.d] (.bool (decide (a=b))):=by
 refine Tz.p0 func182 rfl λQ e Y=>?_;refine wo (h:=aB (Ro a.j b.j) wl ?_);refine wo (h:=aK (λc=>C2 a.l b.l) (λc=>wl) ?_);refine wo (h:=aK (λc=>J9 a.G b.G) (λc=>wl) ?_);have Y:=wa Y @Xz;exact wo (h:=e _ _ wy)
theorem Ka (a b:Yb)(g:FuncId)(n:∀ x y:V2,Pure prog g [dLI x,dLI y] (.bool (decide (x=y)))):Pua 186 [.list (a.map cL),.list (b.map cL),.fn g []] (.bool (decide (a=b))):=by
 refine Tz.p0 func186 rfl λQ k Y=>?_;refine wv (h:=?_);repeat first|intro _|refine ⟨iS,?_⟩
 refine wq (λo=>?_) λo=>?_
 .refine wv (h:=?_);have c:a≠b:=by intro h;subst h;omega
  exact k _ _ (iq c)
 .refine wo (h:=bA (λi e H=>(e 0=.list (a.map cL)/\e 1=.list (b.map cL)/\e 2=.fn g []/\e 15=.list (a.map cL)/\e 16=dI a.length/\e 17=dI i)/\(i<=a.length)/\(a.take i=b.take i)) (λi=>a.length - i) 0 ⟨wg,wi,(by rfl)⟩ λr l i e H f=>?_);obtain ⟨p,q,j⟩:=f;have Y:=wa Y p;refine dR (λd=>?_) λd=>?_
  .have hib:i<b.length:=aD;have Y:=xa3 Y d (aA d) (aA hib) @cL.eq_1;refine wo (h:=aB (n a[i] b[i]) wl ?_);refine wv (h:=?_);repeat first|intro _|refine ⟨iS,?_⟩
   refine wq (λm=>?_) λm=>?_
   .refine wv (h:=?_);have c:a≠b:=by intro h;subst h;exact m rfl
    exact k _ _ (iq c)
   .exact wo (h:=wx l (i+1) ⟨wg,wj,(by rw [List.take_succ_eq_append_getElem d,List.take_succ_eq_append_getElem hib,j,m])⟩)
  .have hab:a=b:=by rw [aG aD,aG aD] at j;exact j
   exact wv (h:=k _ _ (iq hab))
theorem Kb (a b:List Cond)(g:FuncId)(p:∀ x∈a,∀ y:Cond,Pure prog g [.agg x.c,.agg y.c] (.bool (decide (x=y)))):Pua 269 [.list (a.map Cond.c),.list (b.map Cond.c),.fn g []] (.bool (decide (a=b))):=by
 refine Tz.pK ⟨λt=>t==8||t==9,λ_=>[]⟩ func269 rfl (λQ l=>?_);have Y:=@Cond.A;refine wv (h:=?_);repeat first|intro _|refine ⟨iS,?_⟩
 refine wq (λq=>?_) λq=>?_
 .refine wv (h:=?_);have d:a≠b:=by intro h;subst h;omega
  exact l _ _ (iq d)
 .refine wo (h:=bA (λi e H=>(e 0=.list (a.map Cond.c)/\e 1=.list (b.map Cond.c)/\e 2=.fn g []/\e 15=.list (a.map Cond.c)/\e 16=dI a.length/\e 17=dI i)/\(i<=a.length)/\(a.take i=b.take i)) (λi=>a.length - i) 0 ⟨wg,wi,(by rfl)⟩ λu m i e H j=>?_);obtain ⟨r,s,k⟩:=j;have Y:=wa Y r;refine dR (λf=>?_) λf=>?_
  .have hib:i<b.length:=aD;have Y:=xa2 Y f (aA f) (aA hib);refine wo (h:=aB ((by have o:=p _ (aC f) b[i];rwa [Cond.A,Cond.A] at o)) wl ?_);refine wv (h:=?_);repeat first|intro _|refine ⟨iS,?_⟩
   refine wq (λn=>?_) λn=>?_
   .refine wv (h:=?_);have d:a≠b:=by intro h;subst h;exact n rfl
    exact l _ _ (iq d)
   .exact wo (h:=wx m (i+1) ⟨wg,wj,(by rw [List.take_succ_eq_append_getElem f,List.take_succ_eq_append_getElem hib,k,n])⟩)
  .have hab:a=b:=by rw [aG aD,aG aD] at k;exact k
   exact wv (h:=l _ _ (iq hab))
theorem Hm:∀ a b:Cond,Pua 184 [.agg a.c,.agg b.c] (.bool (decide (a=b))):=by
 refine l5 λa i b=>?_;simp only [Cond.A];refine Tz.pK ⟨λt=>t==5||t==6,λr=>match r with|1=>[(0,4),(1,4),(2,4),(3,4),(0,5),(1,5),(2,5),(3,5),(4,5),(2,6),(3,6)]|_=>[]⟩ func184 rfl (λQ g=>?_);have Y:=@Cond.A;refine wo (h:=aK (λd=>n8 a.map b.map) (λd=>wl) ?_);refine wo (h:=aK (λd=>mP a.o.j.h b.o.j.h) (λd=>wl) ?_);refine wo (h:=aK (λd=>C3 a.o.j.i b.o.j.i) (λd=>wl) ?_);refine eP (λf=>?_) λf=>?_
 .refine wv (h:=?_);have e:a≠b:=by intro h;subst h;simp at f
  exact g _ _ (iq e)
 .have hab:(((a.D=b.D/\a.map=b.map)/\a.o.vars=b.o.vars)/\a.o.j.h=b.o.j.h)/\a.o.j.i=b.o.j.i:=by (try simp at f);refine ⟨⟨⟨⟨?_,?_⟩,?_⟩,?_⟩,?_⟩<;>first|(simp_all;done)|omega
  refine wo (h:=aB (C2 a.o.l b.o.l) wl ?_);refine wo (h:=aK (λd=>J9 a.o.G b.o.G) (λd=>wl) ?_);refine wo (h:=aK (λd=>Kb a.u b.u 184 i) (λd=>wl) ?_);exact wo (h:=g _ _ (by rw [ZQ,Xz,Eg];simp [go_sem,hab.1.1.1.1,hab.1.1.1.2,hab.1.1.2,hab.1.2,hab.2]))
theorem SN (a b:Rule):Pua 102 [a.d,b.d] (.bool (decide (a=b))):=by
 have e:=Hm a.cond b.cond;rw [Cond.A,Cond.A] at e;refine Tz.p0 func102 rfl λQ f Y=>?_;refine wo (h:=aK (λc=>vU a.left b.left) (λc=>wl) ?_);refine wo (h:=aK (λc=>vU a.right b.right) (λc=>wl) ?_);refine wo (h:=aK (λc=>mP a.q.h b.q.h) (λc=>wl) ?_);refine wo (h:=aK (λc=>mP a.q.i b.q.i) (λc=>wl) ?_);refine wo (h:=aK (λc=>n8 a.s b.s) (λc=>wl) ?_);refine wo (h:=aK (λc=>e) (λc=>wl) ?_);exact wo (h:=f _ _ (by rw [Zh,Uo a.q b.q];simp [go_sem,mW]))
theorem GZ (a b:Mat):Pua 103 [a.d,b.d] (.bool (decide (a=b))):=by
 refine Tz.p0 func103 rfl λQ f _=>?_;have Y:=wa @Mat.d.eq_1 @Mat.c.eq_1;refine wo (h:=aB (n8 a.m b.m) wl ?_);refine wo (h:=aK (λe=>mP a.vars b.vars) (λe=>wl) ?_);have Y:=wa Y @abY;exact wo (h:=f _ _ wy)
theorem JU (a b:Host):Pua 104 [a.d,b.d] (.bool (decide (a=b))):=by
 refine Tz.p0 func104 rfl λQ f _=>?_;have Y:=wa @Host.d.eq_1 @Host.c.eq_1;refine wo (h:=aB (mP a.j.h b.j.h) wl ?_);refine wo (h:=aK (λe=>C3 a.j.i b.j.i) (λe=>wl) ?_);refine wo (h:=aK (λe=>Ka a.k b.k 183 mP) (λe=>wl) ?_);have Y:=xa1 Y @UJ @Eg;exact wo (h:=f _ _ wy)
theorem SB (a b:Stp26):Pua 46 [.agg a.c,.agg b.c] (.bool (decide (a=b))):=by
 refine Tz.p0 func46 rfl λQ g _=>?_;have Y:=xa2 @Stp26.c.eq_1 @Rule.c.eq_1 @Mat.c.eq_1 @Host.c.eq_1;refine won (h:=aB (SN a.x b.x) wl ?_);refine won (h:=aK (λe=>(by have f:=GZ a.U b.U;unfold Mat.d Mat.c at f;exact f)) (λe=>wl) ?_);refine won (h:=aK (λe=>JU a.C b.C) (λe=>wl) ?_);refine won (h:=aK (λe=>JU a.after b.after) (λe=>wl) ?_);refine won (h:=aK (λe=>n8 a.V b.V) (λe=>wl) ?_);refine won (h:=aK (λe=>n8 a.B b.B) (λe=>wl) ?_);exact won (h:=g _ _ (by rw [abC];simp [go_sem,mW]))
theorem PE (t:Types)(g:t.ok)(s:Stp26)(i:s.x.ok){v:Stp26}{e:Int}(f:v=fQ t s.x s.C s.U)(k:e=jJ t s.x s.C s.U) :
  Pua 11 [t.d,.agg s.c] (.bool (decide (e=0)&&decide (v=s))):=by
 have a:=tO t g s.x i s.C s.U f k;have b:=SB v s;simp only [Stp26.c,Rule.c,Mat.c,Host.c,dP,dS] at a b;unfold Mat.d Mat.c Host.d Host.c dLI at a;refine Tz.pK ⟨λt=>t==5,λ_=>[]⟩ func11 rfl (λQ l=>?_);have Y:=xa2 @Stp26.c.eq_1 @Rule.c.eq_1 @Mat.c.eq_1 @Host.c.eq_1;refine j4 (h:=aB (a) wl ?_);refine rL (h:=aK (λj=>b) (λj=>wl) ?_);exact rL (h:=l _ _ wy)
structure Stp26.le (s:Stp26):Prop where
 r:s.x.le
 m:s.U.m.le
 t:s.V.le
 c:s.B.le
theorem U7 {l:V2}(b:l.Nodup){v:Int}(c:0<=g6 l l.length v):∃ p:Nat,∃ hp:p<l.length,l[p]=v/\g6 l l.length v=p:=by
 by_cases a:v∈l
 .obtain ⟨p,hp,rfl⟩:=aO a;exact ⟨p,hp,rfl,rE b hp⟩
 .rw [sA a _ (bC _)] at c;omega
section
variable {t:Types} {r:Rule} {h:Host} {m:Mat}
theorem StepOk.dr (K:StepOk t r h m){i:Nat}(b:i<h.j.h.length)(a:0<=iA (dK r h m).h i) :
  ∃ p:Nat,∃ hp:p<(bZ r h m).h.length,(bZ r h m).h[p]=(i:Int)/\iA (dK r h m).h i=p:=by
 have e:iA (dK r h m).h i=g6 (bZ r h m).h (bZ r h m).h.length i:=by
  unfold iA dK o6;simp only;rw [show ((i:Int)).toNat=i by omega,p9 _ b,Option.getD_some]
 rw [e] at a ⊢;obtain ⟨p,hp,d,c⟩:=U7 (jC K.S.cb) a;exact ⟨p,hp,d,c⟩
theorem StepOk.ds (K:StepOk t r h m){i:Nat}(b:i<h.j.i.length)(a:0<=iA (dK r h m).i i) :
  ∃ p:Nat,∃ hp:p<(bZ r h m).i.length,(bZ r h m).i[p]=(i:Int)/\iA (dK r h m).i i=p:=by
 have e:iA (dK r h m).i i=g6 (bZ r h m).i (bZ r h m).i.length i:=by
  unfold iA dK o6;simp only;rw [show ((i:Int)).toNat=i by omega,p9 _ b,Option.getD_some]
 rw [e] at a ⊢;obtain ⟨p,hp,d,c⟩:=U7 (jC K.S.et) a;exact ⟨p,hp,d,c⟩
theorem StepOk.fj (K:StepOk t r h m):∀ s∈r.right.l,0<=mL (cT r h m) s/\fX (cT r h m) s<(bT t r h m).k.length/\0<=s.J/\s.J<((bT t r h m).k[fX (cT r h m) s]?.getD []).length:=λs hs=>by
 have P:=K.S.put;have a:=(K.S.hR.l s hs).2.1;exact ⟨(P.spot s hs).1,(P.spot s hs).2.1,a.1,(P.J s hs).1⟩
theorem StepOk.value (K:StepOk t r h m){n a:Nat}(hn:n<(bT t r h m).k.length)(ha:a<((bT t r h m).k[n]?.getD []).length) :
  ((bP t r h m).k[n]?.getD [])[a]?=some ((FA (cT r h m) m.vars r.right.l n a).getD (((bT t r h m).k[n]?.getD [])[a]?.getD 0)) :=
 Jb _ _ r.right.l rfl K.fj n a hn ha
theorem StepOk.em (K:StepOk t r h m):(bP t r h m).k.length=(bT t r h m).k.length/\∀ n:Nat,((bP t r h m).k[n]?.getD []).length=((bT t r h m).k[n]?.getD []).length :=
 ⟨(qO _ _ _ _).1,λn=>(qO (cT r h m) m.vars r.right.l (bT t r h m).k).2 n⟩
theorem StepOk.hu (K:StepOk t r h m):EqK (cT r h m) m.vars r.right.l:=by
 refine TC ?_;have:=K.put;unfold sP at this;split at this
 .cases this
 .rename_i hc;simpa using hc
structure RemN (t:Types) (r:Rule) (h:Host) (m:Mat) (i:Nat) (k:Int):Prop where
 n1:k.toNat<(bP t r h m).j.h.length
 n2:(bP t r h m).j.h[k.toNat]?.getD 0=h.j.h[i]?.getD 0
 v1:k.toNat<(bP t r h m).k.length
 v2:((bP t r h m).k[k.toNat]?.getD []).length=(h.k[i]?.getD []).length
 v3:∀ a:Nat,a<(h.k[i]?.getD []).length->(∀ s∈r.right.l,¬ (mL (cT r h m) s=k/\s.J=a))->((bP t r h m).k[k.toNat]?.getD [])[a]?.getD 0=(h.k[i]?.getD [])[a]?.getD 0
theorem StepOk.ep (K:StepOk t r h m){i:Nat}(q:i<h.j.h.length)(y:0<=iA (dK r h m).h i):RemN t r h m i (iA (dK r h m).h i):=by
 obtain ⟨p,c,f,w⟩:=K.dr q y;have e:=K.S.bw;have D:(bT t r h m).j.h.length=(bZ r h m).h.length+r.N.length:=by rw [e,aI,aR,aR]
 have k:=K.S.cA;have g:(bP t r h m).j=(bT t r h m).j:=rfl;obtain ⟨C,j⟩:=K.em;have z:(bT t r h m).j.h[p]?.getD 0=h.j.h[i]?.getD 0:=by
  rw [e,aS (bY c),aN,aA c,d7,Option.getD_some,f];unfold gN;rw [show ((i:Int)).toNat=i by omega]
 have d:(bT t r h m).k[p]?.getD []=h.k[i]?.getD []:=by
  rw [Nr,aS (bY c),aN,aA c,d7,Option.getD_some,f];rw [show ((i:Int)).toNat=i by omega]
 rw [w];have b:((p:Nat):Int).toNat=p:=aD;refine ⟨by rw [b,g];omega,by rw [b,g];exact z,by rw [b];omega,by rw [b,j,d],λa u o=>?_⟩;rw [b,K.value aD (by rw [d];exact u),Option.getD_some];have v:FA (cT r h m) m.vars r.right.l p a=none:=by
  cases n:FA (cT r h m) m.vars r.right.l p a with
  | none=>rfl
  | some x =>
   obtain ⟨s,l,B,A,_⟩:=BS n;exact absurd ⟨B,A⟩ (o s l)
 rw [v,d];rfl
theorem StepOk.ft (K:StepOk t r h m){i:Nat}(l:i<h.j.i.length)(o:0<=iA (dK r h m).i i) :
  (iA (dK r h m).i i).toNat<(bP t r h m).j.i.length/\eA (bP t r h m).j (iA (dK r h m).i i)=⟨(eA h.j i).type,iA (dK r h m).h (eA h.j i).w,iA (dK r h m).h (eA h.j i).M⟩:=by
 obtain ⟨p,b,f,n⟩:=K.ds l o;have S:=K.S;have d:=S.cr;have u:(bT t r h m).j.i.length=(bZ r h m).i.length+r.ad.length:=by rw [d,aI,aR,aR]
 have q:(bP t r h m).j=(bT t r h m).j:=rfl;rw [n,q];refine ⟨aD,?_⟩;have e:eA (bT t r h m).j (p:Int)=gEd h.j (bZ r h m) (i:Int):=by
  unfold eA;rw [show ((p:Nat):Int).toNat=p by omega,d,aS (bY b),aN,aA b,d7,Option.getD_some,f]
 rw [e,CV];have k:(i:Int)∈(bZ r h m).i:=f ▸ aC b;obtain ⟨j,g⟩:=qJ S.sub k;have a:∀ v:Int,v∈(bZ r h m).h->iA (dK r h m).h v=(pI (bZ r h m).h v:Int):=λv c=>by
  have s:=S.cG v c;unfold iA dK o6;simp only;rw [p9 _ aD,Option.getD_some,show ((v.toNat:Nat):Int)=v by omega,BP S.cb,if_pos ((mem_iff _ _).2 c)]
 rw [a _ j,a _ g]
end
end Go.Abs
end
