/- The step of the program: apply. · The step of the program: A -/
import Derived.Test.YtpdanmkcpjdmjaaGreatZkAF
import Derived.Test.YtpdanmkcpjdmjaaGreatZkAU
import Derived.Test.YtpdanmkcpjdmjaaGreatZkAV
import Derived.Test.YtpdanmkcpjdmjaaGreatZkAM
import Derived.Test.YtpdanmkcpjdmjaaGreatZkAS
set_option linter.unusedVariables false
set_option linter.unusedSimpArgs false
section
set_option maxRecDepth 100000
set_option maxHeartbeats 4000000
open Go Go.Proofs Tryz
namespace Go.Abs
theorem Xc {t:Types}{r:Rule}{h:Host}{m:Mat}(a:Gn t r h m=0):checkE t r.left.j h.j m.m r.inj=0/\(dV t r.left h m.m).2=0/\(dV t r.left h m.m).1=m.vars:=by
 unfold Gn at a;split at a
 .cases a
 .rename_i h1;split at a
  .exact absurd a (by assumption)
  .rename_i h2;split at a
   .cases a
   .rename_i h3;exact ⟨by simpa using h1,by simpa using h2,by simpa using h3⟩
theorem Wb {t:Types}{r:Rule}(h:ruleF t r=0):condF t r.left r.cond=0:=by
 unfold ruleF at h;split at h
 .exact absurd h (by assumption)
 .split at h
  .cases h
  .split at h
   .exact absurd h (by assumption)
   .split at h
    .exact absurd h (by assumption)
    .split at h
     .exact absurd h (by assumption)
     .split at h
      .cases h
      .exact h
def x8 (t:Types)(r:Rule)(h:Host)(m:Mat):Stp26:=if iC t r h m=0 then aO t r h m else lO
theorem Ys {P:Program}{f:FuncId}{args:UN}{r:D}(a:r.P=true)(h:∀ Q:D->AHeap->Prop,(∀ d H',(iZ H' d).P=true->(iZ H' d=r\/UQ (iZ H' d)=r)->Q d H')->ACalls P f args .an Q):Pure P f args r:=by
 refine Sk a λQ c=>ACalls.bO (h _ λd H' e b=>c _ _ ?_);rw [Sd _ e];exact b
theorem QG (t:Types)(T:t.ok)(r:Rule)(hr:r.ok)(U:ruleF t r=0)(h:Host)(b8:fX t h=0)(m:Mat):Pua 63 [t.d,r.d,h.d,m.d] (.tup [.agg (x8 t r h m).c,dI (iC t r h m)]):=by
 refine Ys (by simp [go_sem,D.P,D.L,Stp26.P]) λQ G=>?_;have w:=KU hr U;have N:=lE b8;have e6:=Wb U;refine (Tz.cK ⟨λt=>t==8||t==11||t==13||t==15,λr=>match r with|15=>[(0,2),(2,3),(0,4),(0,6),(1,6),(2,6),(3,6),(4,6)]|16=>[(6,7),(6,8),(6,9),(6,10),(6,11),(6,12)]|17=>[(20,21),(20,22),(20,23),(20,24),(20,25),(20,26),(20,27),(20,28),(20,29),(20,30),(20,31),(20,32),(20,33),(20,34),(20,35),(20,36),(20,37),(20,38),(20,39),(20,40)]|_=>[]⟩ func63 rfl ?_);have Y:=xa2 @Host.d.eq_1 @Host.c.eq_1 @Mat.d.eq_1 @Mat.c.eq_1;refine wv (h:=aB (Me t T r h m) wl ?_);refine dK (λh2=>?_) λh2=>?_
 .have b:iC t r h m=Gn t r h m:=by unfold iC lM;rw [O2,if_pos h2];simp [h2]
  have f:x8 t r h m=lO:=by unfold x8;rw [if_neg aD]
  refine wv (h:=?_);refine G _ _ (by simp [go_sem,iZ,j7,qK,fI,D.P,D.L]) (by first|(left;(simp [go_sem,iZ,j7,qK,fI,b,f,lO,kG,pU,iW,Stp26.c,Rule.c,Mat.c,Host.c,Cond.E,Cond.s,Cond.map,Cond.o,dLI,dI]);done)|(right;(simp [go_sem,iZ,j7,qK,fI,b,f,lO,kG,pU,iW,Stp26.c,Rule.c,Mat.c,Host.c,Cond.E,Cond.s,Cond.map,Cond.o,dLI,dI]);done))
 .have hp0:pF t r h m=oG (kM r.left.j h.j m.m) h.j r.q m.m:=by rw [O2,if_neg aD]
  obtain ⟨c2,d7,b0⟩:=Xc (aD:Gn t r h m=0);have o:=RT c2;have b7:Bg t r.left.j h.j m.m=kM r.left.j h.j m.m:=by unfold Bg;rw [if_pos o]
  have W:=qY (rD o).2;have e4:=bR w.pl.gg;have e0:=bR w.gr;have e5:=bR N.gg;have d8:=W.len;have d4:=W.bk;have d9:=w.kl;have d6:=N.vl;have b1:∀ v∈h.k,v.length<=100000:=λv hv=>by have:=(N.row v hv).1;omega
  have Y:=xa1 Y o b7;refine wv (h:=aB (Gg t T r.left.j h.j m.m) wl ?_);refine wv (h:=aB (Ks (kM r.left.j h.j m.m) h.j r.q m.m aD aD aD aD aD) wl ?_);refine dK (λh8=>?_) λh8=>?_
  .have hpe:pF t r h m≠0:=aD;have b:iC t r h m=pF t r h m:=by unfold iC lM;rw [if_pos hpe,if_pos hpe]
   have f:x8 t r h m=lO:=by unfold x8;rw [if_neg aD]
   refine wv (h:=?_);refine G _ _ (by simp [go_sem,iZ,j7,qK,fI,D.P,D.L]) (by first|(left;(simp [go_sem,iZ,j7,qK,fI,b,hp0,f,lO,kG,pU,iW,Stp26.c,Rule.c,Mat.c,Host.c,Cond.E,Cond.s,Cond.map,Cond.o,dLI,dI]);done)|(right;(simp [go_sem,iZ,j7,qK,fI,b,hp0,f,lO,kG,pU,iW,Stp26.c,Rule.c,Mat.c,Host.c,Cond.E,Cond.s,Cond.map,Cond.o,dLI,dI]);done))
  .have hpre:pF t r h m=0:=aD;have S:=Hn w N hpre;have s:=Lr S hpre;have hP:uE (kM r.left.j h.j m.m) h.j r.q m.m=bY r h m:=rfl;have c3:XA t r.left r.cond h m r.inj=0:=by
    unfold XA;rw [if_neg aD,if_neg aD,if_neg aD,if_neg aD,if_neg (by rw [b0];simp)]
   have F:lM t r h m=if (mO t h r.inj r.cond m).2≠0 then (mO t h r.inj r.cond m).2 else if (mO t h r.inj r.cond m).1=false then 16 else 0:=by unfold lM;rw [if_neg aD]
   have Y:=wa Y hP;refine wv (h:=aB ((by have M:=Bi t T r.left r.cond hr.cond w.cond w.pl h N m s r.inj c3;simp only [Cond.A] at M;unfold Types.d Types.c Pattern.d Pattern.c Host.d Host.c Mat.d Mat.c dLI dI at M;exact M)) wl ?_);refine dK (λL=>?_) λL=>?_
   .have b:iC t r h m=(mO t h r.inj r.cond m).2:=by unfold iC;rw [F,if_pos L];simp [L]
    have f:x8 t r h m=lO:=by unfold x8;rw [if_neg aD]
    refine wv (h:=?_);refine G _ _ (by simp [go_sem,iZ,j7,qK,fI,D.P,D.L]) (by first|(left;(simp [go_sem,iZ,j7,qK,fI,b,f,lO,kG,pU,iW,Stp26.c,Rule.c,Mat.c,Host.c,Cond.E,Cond.s,Cond.map,Cond.o,dLI,dI]);done)|(right;(simp [go_sem,iZ,j7,qK,fI,b,f,lO,kG,pU,iW,Stp26.c,Rule.c,Mat.c,Host.c,Cond.E,Cond.s,Cond.map,Cond.o,dLI,dI]);done))
   .refine i7 (λK=>?_) λK=>?_
    .have b:iC t r h m=16:=by
      have:(mO t h r.inj r.cond m).1=false:=by simpa using K
      have V:lM t r h m=16:=by rw [F,if_neg aD,if_pos this]
      unfold iC;rw [if_pos aD,V]
     have f:x8 t r h m=lO:=by unfold x8;rw [if_neg aD]
     refine wv (h:=?_);refine G _ _ (by simp [go_sem,iZ,j7,qK,fI,D.P,D.L]) (by first|(left;(simp [go_sem,iZ,j7,qK,fI,b,f,lO,kG,pU,iW,Stp26.c,Rule.c,Mat.c,Host.c,Cond.E,Cond.s,Cond.map,Cond.o,dLI,dI]);done)|(right;(simp [go_sem,iZ,j7,qK,fI,b,f,lO,kG,pU,iW,Stp26.c,Rule.c,Mat.c,Host.c,Cond.E,Cond.s,Cond.map,Cond.o,dLI,dI]);done))
    .have V:lM t r h m=0:=by
      have a5:(mO t h r.inj r.cond m).1=true:=by simpa using K
      rw [F,if_neg aD,if_neg (by rw [a5];simp)]
     have hK:=w.q;have z:=S.kN;have A:=S.kE;obtain ⟨l,g⟩:=fD (c6 r h m);obtain ⟨u,a⟩:=fD (c7 r h m);have a3:n4 (bY r h m).h h.j.h.length=l.h:=by rw [g];rfl
     have a2:n4 (bY r h m).i h.j.i.length=l.i:=by rw [g];rfl
     have R:l.h.length=h.j.h.length:=by rw [<- a3];exact lX _ _
     have c9:l.i.length=h.j.i.length:=by rw [<- a2];exact lX _ _
     rw [<- g] at z A;have c5:D5 r.q.h r.u.h (pH m.m.h l.h) r.right.j.h.length (bY r h m).h.length=u.h:=by rw [a,g];rfl
     have c4:D5 r.q.i r.u.i (pH m.m.i l.i) r.right.j.i.length (bY r h m).i.length=u.i:=by rw [a,g];rfl
     have c1:=S.len;have a9:=s.vl;have a8:Sm m.vars:=λv hv=>by have:=s.vs v hv;omega
     have d5:=w.pl.vars;have a1:u.h.length=r.right.j.h.length:=by rw [a];simp [c7,D5]
     have a0:u.i.length=r.right.j.i.length:=by rw [a];simp [c7,D5]
     have X:=S.dL;have Z:=S.dM;have hB:=S.grow;rw [<- a] at X Z hB;rw [<- g] at hB;have Y:=xa3 Y a3 a2 c5 c4;refine wv (h:=aI (Hl m aD aD aD) wl ?_);refine wv (h:=aI (JO h aD aD aD b1) wl ?_);refine wp (h:=aI (Hj h.j.h.length aD (bY r h m).h S.bb aD) wl ?_);refine wp (h:=aI (Hj h.j.i.length aD (bY r h m).i S.cp aD) wl ?_);refine wp (h:=aI (CF r.right.j.h.length aD r.q.h r.u.h m.m.h l.h (bY r h m).h.length aD aD hK.2.2.2.1 (λx n=>(z x n).1) (λx n=>by have:=(z x n).2.1;omega) (λx n=>by obtain ⟨p,_,hp⟩:=(z x n).2.2;omega)) wl ?_);refine wp (h:=aI (CF r.right.j.i.length aD r.q.i r.u.i m.m.i l.i (bY r h m).i.length aD aD hK.2.2.2.2 (λx n=>(A x n).1) (λx n=>by have:=(A x n).2.1;omega) (λx n=>by obtain ⟨p,_,hp⟩:=(A x n).2.2;omega)) wl ?_);refine wp (h:=?_);refine yX (.step (.step (.step (.refl _) 9 0 31 3 1 _ _ (by simp [go_sem];rfl) rfl rfl rfl) 9 0 32 134 3 _ _ (by simp [go_sem];rfl) rfl rfl rfl) 9 0 33 48 1 _ _ (by simp [go_sem];rfl) rfl rfl rfl) ?_;simp [go_sem];unfold fE;refine QF t T r w m h N (bY r h m) l u S.bF S.cP c1 R ⟨a1,a0⟩ X Z 9 73 74 75 _ (by simp [go_sem,stpC,dLI]) ⟨by simp [go_sem],by simp [go_sem],by simp [go_sem,lL],rfl,λi q v h1 _=>by simp at h1,by simp,λq M=>by simp at M;rcases M with rfl|rfl|rfl<;>simp [go_sem]⟩ (by simp [go_sem]) dB (λj hj b=>?_) _ (λqs H1 a4 C b3 b2 c0 b5=>?_)
     .simp [go_sem,qE,uL,L0,JA] at b hj;omega
     rw [hB] at a4 C;have d0:76<=H1.next:=by simp [go_sem] at b5;omega
     have k0:=c0 0 (by simp [go_sem]) dB;simp [go_sem] at k0;have y:∀ j,j<73->j∉73 :: 74 :: 75 :: qs:=λj hj hm=>by
      simp only [aV] at hm;rcases hm with h|h|h|h
      .omega
      .omega
      .omega
      .have:=b2 j h;simp [go_sem] at this;omega
     refine wp (h:=?_);unfold fE;refine Tq t T r w m h (bW t r h m) l u (a ▸ S.put) a9 a8 H1 9 73 74 75 qs C a4 b3 aD _ (λH2 I B b4=>?_) (λH2 I H B b4=>?_)
     .have m0:=(B 0 aD (y 0 aD)).trans k0;have b:iC t r h m=sN t (bW t r h m).j u m.vars r.right.l:=by unfold iC;rw [if_neg aD,<- a,if_pos I]
      have f:x8 t r h m=lO:=by unfold x8;rw [if_neg aD]
      simp [go_sem,seval,m0];refine bC (λhc=>?_) (λhc=>absurd (eQ hc) I);simp [go_sem,seval,m0];refine G _ _ (by simp [go_sem,iZ,j7,qK,fI,D.P,D.L]) (by first|(left;(simp [go_sem,iZ,j7,qK,fI,b,f,lO,kG,pU,iW,Stp26.c,Rule.c,Mat.c,Host.c,Cond.E,Cond.s,Cond.map,Cond.o,dLI,dI]);done)|(right;(simp [go_sem,iZ,j7,qK,fI,b,f,lO,kG,pU,iW,Stp26.c,Rule.c,Mat.c,Host.c,Cond.E,Cond.s,Cond.map,Cond.o,dLI,dI]);done))
     have m0:=(B 0 aD (y 0 aD)).trans k0;have m9:=(B 9 aD (y 9 aD)).trans C;simp only [stpC] at m9;have a7:H2.get 73=some ⟨3,1,(bW t r h m).j.h.map cI,false⟩:=H.ga;have a6:H2.get 74=some ⟨134,3,(bW t r h m).j.i.map Edge.c,false⟩:=H.gb;have Y:=xa3 Y m0 m9 a7 a6;refine i7 (λJ=>?_) λJ=>?_
     .have b:iC t r h m=3:=by
       unfold iC;rw [if_neg aD,<- a,if_neg aD,if_pos (by first|exact J|omega)]
      have f:x8 t r h m=lO:=by unfold x8;rw [if_neg aD]
      refine wv (h:=?_);refine G _ _ (by simp [go_sem,iZ,j7,qK,fI,D.P,D.L]) (by first|(left;(simp [go_sem,iZ,j7,qK,fI,b,f,lO,kG,pU,iW,Stp26.c,Rule.c,Mat.c,Host.c,Cond.E,Cond.s,Cond.map,Cond.o,dLI,dI]);done)|(right;(simp [go_sem,iZ,j7,qK,fI,b,f,lO,kG,pU,iW,Stp26.c,Rule.c,Mat.c,Host.c,Cond.E,Cond.s,Cond.map,Cond.o,dLI,dI]);done))
     .have b:iC t r h m=0:=by
       unfold iC;rw [if_neg aD,<- a,if_neg aD,if_neg (by first|exact J|omega)]
      have f:x8 t r h m=aO t r h m:=by unfold x8;rw [if_pos b]
      have hW:b9 t r h m=⟨(bW t r h m).j,v7 u m.vars r.right.l (bW t r h m).k⟩:=by rw [a];rfl
      have P:=(pR u m.vars r.right.l (bW t r h m).k).1;have c8:∀ k:Blk,Q (.tup [.agg (stpC r m h (.own 73 (bW t r h m).j.h.length) (.own 74 (bW t r h m).j.i.length) (.own 75 (bW t r h m).k.length) l u),dI 0]) (H2.put 0 k):=λk=>by
       obtain ⟨E,hE⟩:=fD (H2.put 0 k);have h5:HH E 0 73 74 75 qs (b9 t r h m):=by
        rw [hW];exact H.same (by rw [hE];simp [go_sem]) (λj hj=>by
         have b6:j≠0:=λe=>y 0 aD (e ▸ hj);rw [hE];simp [go_sem,b6])
       have hd:=h5.bO;have e1:(b9 t r h m).j.h.length=(bW t r h m).j.h.length:=by rw [hW]
       have e2:(b9 t r h m).j.i.length=(bW t r h m).j.i.length:=by rw [hW]
       have e3:(b9 t r h m).k.length=(bW t r h m).k.length:=by rw [hW];exact P
       rw [e1,e2,e3] at hd;simp only [j7,iH,jF,Host.d,Host.c,D.agg.injEq,List.cons.injEq,and_true] at hd;obtain ⟨d1,d2,d3⟩:=hd;have O:iZ E (.tup [.agg (stpC r m h (.own 73 (bW t r h m).j.h.length) (.own 74 (bW t r h m).j.i.length) (.own 75 (bW t r h m).k.length) l u),dI 0])=.tup [.agg (x8 t r h m).c,dI (iC t r h m)]:=by
        rw [b,f];simp only [iZ,j7,stpC,iH,jF,d1,d2,d3];simp [j7,qK,fI,aO,Stp26.c,Rule.c,Mat.c,Host.c,dLI,dI,g,a]
       rw [<- hE];exact G _ _ (by rw [O];simp [go_sem,D.P,D.L,Stp26.P]) (.inl O)
      refine wv (h:=?_);exact c8 _
theorem xI {t:Types}{r:Rule}{h:Host}(a:f6 t r h=0):ruleF t r=0/\fX t h=0:=by
 unfold f6 at a;split at a
 .exact absurd a (by assumption)
 .rename_i h1;exact ⟨by simpa using h1,a⟩
theorem Mf (t:Types)(g:t.ok)(r:Rule)(i:r.ok)(a:ruleF t r=0)(h:Host)(b:fX t h=0)(m:Mat){v:Stp26}{e:Int}(f:v=x8 t r h m)(j:e=iC t r h m):Pua 63 [t.d,r.d,h.d,m.d] (.tup [.agg v.c,dI e]):=by
 subst f j;exact QG t g r i a h b m
theorem Hm (t:Types)(j:t.ok)(r:Rule)(k:r.ok)(h:Host)(m:Mat):Pua 33 [t.d,r.d,h.d,m.d] (.tup [.agg (eU t r h m).c,dI (jU t r h m)]):=by
 obtain ⟨v,i⟩:=fD (x8 t r h m);obtain ⟨e,f⟩:=fD (iC t r h m);refine Tz.pK ⟨λt=>t==8,λ_=>[]⟩ func33 rfl (λQ l=>?_);have Y:=xa3 @Host.d.eq_1 @Host.c.eq_1 @Mat.d.eq_1 @Mat.c.eq_1 @Stp26.c.eq_1;refine wv (h:=aB (QE t j r k h) wl ?_);refine dK (λn=>?_) λn=>?_
 .have a:jU t r h m=f6 t r h:=by unfold jU;rw [if_pos n]
  have g:eU t r h m=lO:=by unfold eU;rw [if_neg aD]
  exact wv (h:=l _ _ (by simp [go_sem,a,g,lO,kG,pU,iW,Stp26.c,Rule.c,Mat.c,Host.c,Cond.E,Cond.s,Cond.map,Cond.o,dLI,dI]))
 .have hz:=xI (aD:f6 t r h=0);have a:jU t r h m=e:=by rw [f];unfold jU;rw [if_neg aD]
  have g:eU t r h m=v:=by rw [i];unfold eU x8;rw [a,f]
  refine wv (h:=aB ((by have b:=Mf t j r k hz.1 h hz.2 m i f;simp only [Stp26.c,Rule.c,Mat.c,Host.c,dE,dF] at b;unfold Mat.d Mat.c Host.d Host.c dLI at b;exact b)) wl ?_);exact wv (h:=l _ _ (by simp [go_sem,a,g,Stp26.c,Rule.c,Mat.c,Host.c]))
deriving instance DecidableEq for Edge
deriving instance DecidableEq for Graph
deriving instance DecidableEq for Part
deriving instance DecidableEq for Host
deriving instance DecidableEq for Mat
theorem LN {x y:Edge}(h:x.type=y.type/\x.w=y.w/\x.M=y.M):x=y:=by
 obtain ⟨a,b,c⟩:=x;obtain ⟨d,e,f⟩:=y;obtain ⟨rfl,rfl,rfl⟩:=h;rfl
theorem Sp (a b:Part):decide (a=b)=(decide (a.h=b.h)&&decide (a.i=b.i)):=by
 rw [aS];cases a;cases b;simp
theorem Dz (a b:Graph):decide (a=b)=(decide (a.h=b.h)&&decide (a.i=b.i)):=by
 rw [aS];cases a;cases b;simp
theorem YF (a b:Mat):decide (a=b)=(decide (a.m=b.m)&&decide (a.vars=b.vars)):=by
 rw [aS];cases a;cases b;simp
theorem SI (a b:Host):decide (a=b)=(decide (a.j=b.j)&&decide (a.k=b.k)):=by
 rw [aS];cases a;cases b;simp
theorem H5 (a b:W3):Pua 28 [dLI a,dLI b] (.bool (decide (a=b))):=by
 refine Tz.p0 func28 rfl λQ g Y=>?_;refine d8 (λm=>?_) λm=>?_
 .refine wv (h:=?_);have c:a≠b:=by intro h;subst h;omega
  exact g _ _ (by simp [go_sem,c])
 .refine wv (h:=aY (λi e H=>(e 0=dLI a/\e 1=dLI b/\e 5=dI i)/\(i<=a.length)/\(a.take i=b.take i)) (λi=>a.length - i) 0 ⟨wg,wi,(by rfl)⟩ λp j i e H d=>?_);obtain ⟨n,o,f⟩:=d;have Y:=wa Y n;refine wv (h:=?_);repeat first|intro _|refine ⟨iD,?_⟩
  refine wq (λl=>?_) λl=>?_
  .have hib:i<b.length:=aD;have Y:=xa1 Y l hib;refine d8 (λk=>?_) λk=>?_
   .refine wv (h:=?_);have c:a≠b:=by intro h;subst h;exact k rfl
    exact g _ _ (by simp [go_sem,c])
   .exact wo (h:=wx j (i+1) ⟨wg,wj,(by rw [aE l,aE hib,f,k])⟩)
  .rw [aG aD,aG aD] at f;exact wv (h:=g _ _ (by simp [go_sem,f]))
theorem OV (a b:Graph):Pua 31 [a.d,b.d] (.bool (decide (a=b))):=by
 refine Tz.p0 func31 rfl λQ m Y=>?_;refine wo (h:=aB (H5 a.h b.h) wl ?_);refine d8 (λj=>?_) λj=>?_
 .refine wv (h:=?_);have f:a≠b:=by intro h;subst h;simp at j
  exact m _ _ (by simp [go_sem,f])
 .have hab:a.h=b.h/\a.i.length=b.i.length:=by (try simp at j);obtain ⟨p,r⟩:=j;exact ⟨p,aD⟩
  refine wv (h:=aY (λi e H=>(e 2=.adr a.c/\e 3=.adr b.c/\e 5=dI i)/\(i<=a.i.length)/\(a.i.take i=b.i.take i)) (λi=>a.i.length - i) 0 ⟨wg,wi,(by rfl)⟩ λt n i e H k=>?_);obtain ⟨q,s,l⟩:=k;have Y:=wa Y q;refine wv (h:=?_);repeat first|intro _|refine ⟨iD,?_⟩
  refine wq (λg=>?_) λg=>?_
  .have hib:i<b.i.length:=aD;have Y:=xa2 Y g (aA g) (aA hib);refine d8 (λo=>?_) λo=>?_
   .refine wv (h:=?_);have f:a≠b:=by intro h;subst h;simp at o
    exact m _ _ (by simp [go_sem,f])
   .exact wo (h:=wx n (i+1) ⟨wg,wj,(by rw [aE g,aE hib,l,LN o])⟩)
  .have hE:a.i=b.i:=by rw [aG aD,aG aD] at l;exact l
   exact wv (h:=m _ _ (by simp [go_sem,Dz,hab.1,hE]))
def Ta (a b:W3):Prop:=∃ k:Int,Pure prog 32 [dLI a,dLI b] (dI k)/\(k=0↔a=b)
theorem HV (a:W3):Pua 32 [dLI a,dLI a] (dI 0):=by
 refine Tz.p0 func32 rfl λQ f Y=>?_;refine wv (h:=aY (λi e H=>(e 0=dLI a/\e 1=dLI a/\e 5=dI i)/\(i<=a.length)) (λi=>a.length - i) 0 ⟨wg,wi⟩ λk d i e H c=>?_);obtain ⟨g,j⟩:=c;have Y:=wa Y g;refine wv (h:=?_);repeat first|intro _|refine ⟨iD,?_⟩
 refine wq (λb=>?_) λb=>?_
 .have Y:=xa1 Y b (aA b);exact wo (h:=wx d (i+1) ⟨wg,wj⟩)
 .have Y:=wa Y b;exact wo (h:=f _ _ wy)
theorem Jl (a:W3):Ta a a:=⟨0,HV a,by simp⟩
theorem Fw (a b:Host)(t:∀ i (l:i<a.k.length) (x:i<b.k.length),Ta a.k[i] b.k[i]):Pua 10 [a.d,b.d] (.bool (decide (a=b))):=by
 refine Tz.p0 func10 rfl λQ p _=>?_;have Y:=wa @Host.d.eq_1 @Host.c.eq_1;refine wo (h:=aB (OV a.j b.j) wl ?_);refine d8 (λl=>?_) λl=>?_
 .refine wv (h:=?_);have f:a≠b:=by intro h;subst h;simp at l
  exact p _ _ (by simp [go_sem,f])
 .have hab:a.j=b.j/\a.k.length=b.k.length:=by (try simp at l);obtain ⟨s,v⟩:=l;exact ⟨s,aD⟩
  refine wv (h:=aY (λi e H=>(e 2=.adr a.c/\e 3=.adr b.c/\e 5=dI i)/\(i<=a.k.length)/\(a.k.take i=b.k.take i)) (λi=>a.k.length - i) 0 ⟨wg,wi,(by rfl)⟩ λy q i e H n=>?_);obtain ⟨u,w,o⟩:=n;have Y:=wa Y u;refine wv (h:=?_);repeat first|intro _|refine ⟨iD,?_⟩
  refine wq (λj=>?_) λj=>?_
  .have hib:i<b.k.length:=aD;obtain ⟨k,m,g⟩:=t i j hib;have Y:=xa3 Y j (aA j) (aA hib) @cL.eq_1;refine wo (h:=aI (m) wl ?_);refine d8 (λr=>?_) λr=>?_
   .refine wv (h:=?_);have f:a≠b:=by intro h;subst h;exact r (g.2 rfl)
    exact p _ _ (by simp [go_sem,f])
   .exact wo (h:=wx q (i+1) ⟨wg,wj,(by rw [aE j,aE hib,o,g.1 r])⟩)
  .have hV:a.k=b.k:=by rw [aG aD,aG aD] at o;exact o
   exact wv (h:=p _ _ (by simp [go_sem,SI,hab.1,hV]))
theorem CG (t:Types)(b:t.ok)(r:Rule)(f:r.ok)(h:Host)(m:Mat){v:Stp26}{e:Int}(a:v=eU t r h m)(g:e=jU t r h m):Pua 33 [t.d,r.d,h.d,m.d] (.tup [.agg v.c,dI e]):=by
 subst a g;exact Hm t b r f h m
theorem AG {g:Graph}{p:Part}(h:subF g p=0):(bZ g p).h.length=p.h.length/\(bZ g p).i.length=p.i.length:=by
 unfold bZ;rw [if_pos h];simp
theorem Yk {g:Graph}{p:Part}(h:subF g p=0):p.h.length<=g.h.length/\p.i.length<=g.i.length:=by
 obtain ⟨_,c,b,a⟩:=rL h;exact ⟨Nr c b,Nr (Hh h) a⟩
theorem RE {g:Graph}{p:Part}(h:subF g p=0):graphF (bZ g p)=0:=by
 obtain ⟨l,i,j,m⟩:=rL h;obtain ⟨q,v⟩:=AG h;obtain ⟨u,t⟩:=Yk h;have r:=bR l;have c:=dP l;refine EF aD aD (λa f=>?_) (λx d=>?_)
 .unfold bZ at f;rw [if_pos h,aW] at f;obtain ⟨n,b,rfl⟩:=f;exact c.1 _ (EI (j n b).1 (j n b).2)
 .rw [q];unfold bZ at d;rw [if_pos h,aW] at d;obtain ⟨k,e,rfl⟩:=d;rw [EJ];have s:=c.2 _ (Ng (m k e).1 (m k e).2);have o:=pN h e;have y:=(BY i o.1).1;have w:=(BY i o.2).1;exact ⟨s.1,by show (0:Int)<=(pT _ _:Nat)/\((pT _ _:Nat):Int)<_;omega,by show (0:Int)<=(pT _ _:Nat)/\((pT _ _:Nat):Int)<_;omega⟩
theorem AY {a b:Graph}{m:Part}(l:graphF a=0)(j:graphF b=0)(p:m.h.length=a.h.length)(l2:m.i.length=a.i.length)
  (f:∀ i:Int,0<=i->i<a.h.length->(0<=iA m.h i/\iA m.h i<b.h.length)/\gN b (iA m.h i)=gN a i)
  (g:∀ k:Int,0<=k->k<a.i.length->(0<=iA m.i k/\iA m.i k<b.i.length)/\(eA a k).type=(eA b (iA m.i k)).type/\iA m.h (eA a k).w=(eA b (iA m.i k)).w/\iA m.h (eA a k).M=(eA b (iA m.i k)).M):eD a b m=0:=by
 unfold eD;rw [if_neg (by rw [l];simp),if_neg (by rw [j];simp),if_neg aD];have n:bU (kI a b m) 0 a.h.length=0:=iK _ _ λi _ r=>by
  have:=f i aD aD;unfold iA gN at this;unfold kI;simp only [Int.toNat_natCast] at this;rw [if_neg aD,if_neg (by rw [this.2];simp)]
 rw [if_neg (by rw [n];simp)];refine iK _ _ λk _ q=>?_;have:=g k aD aD;unfold iA eA at this;simp only [Int.toNat_natCast] at this;obtain ⟨o,e,d,c⟩:=this;unfold mapEE;rw [if_neg aD,if_neg (by rw [e];simp),if_neg];rintro (h|h)
 .exact h d
 .exact h c
theorem Ea {t:Types}{g:Graph}(c:∀ a∈g.h,a<t.h.length)(d:∀ x∈g.i,x.type<t.i.length):fQ t g=true:=by
 unfold fQ;rw [aN,cD,cD,fM,fM];exact ⟨λa e=>by have:=c a e;simpa using this,λx b=>by have:=d x b;simpa using this⟩
section
variable {g:Graph} {p:Part} {more:Graph} {kept:Part} {im:W3}
end
section
variable {t:Types} {a b:Rule} {o:Ovl}
theorem tW {g:Graph}(a:(cW t).2=0)(c:graphF g=0)(b:fQ t g=true):cX t ⟨g,[],0,[]⟩=0:=by
 unfold cX;rw [if_neg (by rw [a];simp),if_neg (by show ¬ graphF g≠0;rw [c];simp),if_neg (by show ¬ fQ t g=false;rw [b];simp),if_neg (by show ¬ inF 0 0 12=false;decide),if_neg dB,if_neg (by simp [gK]),if_neg (by show ¬ kT 0 []≠0;decide),if_neg (by show ¬ mem (j5 (0:Int).toNat []) false=true;decide)]
end
section
variable {g:Graph} {p q:W3}
end
section
variable {t:Types} {g:Graph} {d:Dr24}
structure GrOk (t:Types) (g G:Graph):Prop where
 ok:graphF G=0
 ty:fQ t G=true
 no:∀ i:Int,0<=i->i<g.h.length->gN G i=gN g i
 ed:∀ k:Int,0<=k->k<g.i.length->eA G k=eA g k
 fi:∀ k:Int,g.i.length<=k->k<G.i.length->o6 t (eA G k).type (gN G (eA G k).w) (gN G (eA G k).M)=true
 ln:g.h.length<=G.h.length
 le:g.i.length<=G.i.length
end
/-! ### type graphs -/
structure MadeTy (t:Types):Prop where
 v:(cW t).2=0
 a8:t.a8
 ne:t.i.length<=5
 nn:t.h.length<=6
structure SlotIn (t:Types) (ns:W3) (v:Int) (s:Slot):Prop where
 n0:0<=s.node
 n1:s.node<ns.length
 a0:0<=s.J
 a1:s.J<(bI t (ns[s.node.toNat]?.getD 0)).length
 v0 : -1<=s.x.N
 v1:s.x.N<v
 d0 : -1000000<=s.x.add
 d1:s.x.add<=1000000
theorem SlotIn.mono {t:Types}{ns:W3}{v w:Int}{s:Slot}(h:SlotIn t ns v s)(hv:v<=w):SlotIn t ns w s:=⟨h.n0,h.n1,h.a0,h.a1,h.v0,by have:=h.v1;omega,h.d0,h.d1⟩
theorem U9 {t:Types}{p:Pattern}{s:Slot}(h:SlotIn t p.j.h p.vars s):gF t p s=0:=by
 obtain ⟨g,f,e,d,c,i,b,a⟩:=h;unfold gF;rw [if_pos];unfold lZ inF Pattern.E;simp only [aN,decide_eq_true_eq];exact ⟨⟨⟨⟨g,f⟩,e,d⟩,c,aD⟩,b,a⟩
def R3 (l:List Slot):Prop:=∀ (i:Nat) (h:i<l.length),((l.take i).any (sameSlot l[i]))=false
theorem Tr {t:Types}{p:Pattern}(c:∀ s∈p.l,SlotIn t p.j.h p.vars s)(b:R3 p.l):bU (tS t p) 0 p.l.length=0:=by
 refine iK _ _ λj _ d=>?_;have a:j<p.l.length:=aD;rw [AU a,if_neg (by rw [U9 (c _ (aC a))];simp),if_neg (by rw [b j a];simp)]
def MZ (t:Types)(d:Dr24):Part:=⟨(Ac (PE t d).h.length d.aG).take (Px t d).h.length,(Ac (PE t d).i.length d.aG).take (Px t d).i.length⟩
structure Core24 (t:Types) (d:Dr24):Prop where
 g0:graphF (nC t d.left.j)=0
 t0:fQ t (nC t d.left.j)=true
 gR:graphF (J1 t d)=0
 tR:fQ t (J1 t d)=true
 sub:subF (nC t d.left.j) (Au t d)=0
 mor:eD (bZ (nC t d.left.j) (Au t d)) (J1 t d) (MZ t d)=0
 inj:Ca (bZ (nC t d.left.j) (Au t d)) (J1 t d) (MZ t d)=true
 dG:vE t (J1 t d) (bP (MZ t d).h (J1 t d).h.length) (bP (MZ t d).i (J1 t d).i.length)=true
theorem Vf {t:Types}{r:Rule}(a:(cW t).2=0)(c:lD r.name=true)(e:cX t r.left=0)(b:g7 t r=0)(f:keptF r=0)(d:vE t r.right.j r.R r.ai=true)(g:condF t r.left r.cond=0):ruleF t r=0:=by
 unfold ruleF;rw [if_neg (by rw [a];simp),if_neg (by rw [c];simp),if_neg (by rw [e];simp),if_neg (by rw [b];simp),if_neg (by rw [f];simp),if_neg (by rw [d];simp),g]
theorem U3 {t:Types}{p:Pattern}(a:cX t p=0):condF t p trueC=0:=by
 unfold condF;rw [if_neg (by rw [a];simp),if_neg (by decide)];rfl
theorem TB {t:Types}{r:Rule}(d:graphF r.right.j=0)(b:fQ t r.right.j=true)(a:r.right.vars=r.left.vars)(e:r.right.G=[])(f:r.right.l.length<=10)(c:bU (tS t r.right) 0 r.right.l.length=0):g7 t r=0:=by
 unfold g7;rw [if_neg (by rw [d];simp),if_neg (by rw [b];simp),if_neg (by rw [a,e];simp),if_neg aD,c]
theorem VN {r:Rule}(a:subF r.left.j r.q=0)(b:eD (bZ r.left.j r.q) r.right.j r.u=0)(c:Ca (bZ r.left.j r.q) r.right.j r.u=true):keptF r=0:=by
 unfold keptF;rw [if_neg (by rw [a];simp),if_neg (by rw [b];simp),if_neg (by rw [c];simp)]
def xU (p:Nat->Bool)(n:Nat):Nat:=((List.range n).filter p).length
theorem A5 (p:Nat->Bool)(n:Nat):xU p (n+1)=xU p n+(if p n=true then 1 else 0):=by
 unfold xU;rw [bS,jA,aH];by_cases h:p n=true<;>simp [h]
theorem Jj (p:Nat->Bool):∀ n,xU p n+xU (λi=>!p i) n=n
 | 0=>rfl
 | n+1=>by
  have ih:=Jj p n;rw [A5,A5];cases p n<;>simp<;>omega
theorem O8 (l:W3)(n:Nat):(bP l n).length=xU (λi=>!mem l i) n:=by unfold bP xU;rw [aT]
theorem Ji {p q:Nat->Bool}{n:Nat}(h:∀ i,i<n->p i=q i):xU p n=xU q n:=by
 unfold xU;rw [List.filter_congr λi a=>h i (bA.1 a)]
theorem SY (p:Nat->Bool)(v:Nat):∀ n,xU (λi=>p i||decide (i=v)) n=xU p n+(if v<n/\p v=false then 1 else 0)
 | 0=>by simp [xU]
 | n+1=>by
  rw [A5,A5,SY p v n];by_cases h:n=v
  .subst h;cases hp:p n<;>simp [hp]
  .have e:decide (n=v)=false:=by simpa using h
   have c:(v<n+1/\p v=false)↔(v<n/\p v=false):=⟨λ⟨a,b⟩=>⟨aD,b⟩,λ⟨a,b⟩=>⟨aD,b⟩⟩;rw [e,pC];simp only [c];omega
theorem BF (l:W3)(v:Int){j:Nat}(h:j<l.length):mem (l.take (j+1)) v=(mem (l.take j) v||decide (l[j]=v)):=by
 rw [aS,cZ,mem_iff,mem_iff,aE h,aX,bG,decide_eq_true_eq];exact ⟨λh=>h.imp id Eq.symm,λh=>h.imp id Eq.symm⟩
def Jb (l:W3)(k:Nat):Nat:=((List.range k).filter λi=>!mem (l.take i) (l[i]?.getD 0)).length
theorem Ja (l:W3)(k:Nat):Jb l (k+1)=Jb l k+if mem (l.take k) (l[k]?.getD 0)=true then 0 else 1:=by
 unfold Jb;rw [bS,jA,aH];cases h:mem (l.take k) (l[k]?.getD 0)<;>simp [h]
theorem PQ {l:W3}{n:Nat}(hr:∀ x∈l,0<=x/\x<n):∀ k,k<=l.length->Jb l k=xU (λi=>mem (l.take k) i) n
 | 0,_=>by
  have:xU (λi=>mem (l.take 0) (i:Int)) n=xU (λ_=>false) n:=Ji λi _=>by simp [yP]
  have h2:xU (λ_=>false) n=0:=by
   unfold xU;rw [qJ.2 (λ_ _=>by simp)];rfl
  rw [this,h2];rfl
 | k+1,hk=>by
  have ih:=PQ hr k aD;have hx:=hr _ (aC (aD:k<l.length));have e:xU (λi=>mem (l.take (k+1)) (i:Int)) n=xU (λi=>mem (l.take k) (i:Int)||decide (i=l[k].toNat)) n:=Ji λi _=>by
   rw [BF l _ (aD:k<l.length)];congr 1;rw [decide_eq_decide];omega
  rw [e,SY,Ja,ih,aA (aD:k<l.length),Option.getD_some,show ((l[k].toNat:Nat):Int)=l[k] by omega];have hlt:l[k].toNat<n:=aD;cases hm:mem (l.take k) l[k]<;>simp [hlt]
theorem O7 {l:W3}{n:Nat}(a:∀ x∈l,0<=x/\x<n):(bP l n).length+Jb l l.length=n:=by
 rw [O8,PQ a l.length (aZ _),KB];have:=Jj (λi=>mem l (i:Int)) n;omega
theorem I9 {l:W3}(hd:l.Nodup):∀ k,k<=l.length->Jb l k=k
 | 0,_=>rfl
 | k+1,hk=>by
  rw [Ja,I9 hd k aD,if_neg];rw [KE,bQ];intro hm;have hk':k<l.length:=aD;rw [mem_iff,aA hk',Option.getD_some] at hm;have h2:(l.take (k+1)).Nodup:=(List.take_sublist _ _).nodup hd;rw [aE hk',n9] at h2;exact h2.2.2 _ hm _ (bG.2 rfl) rfl
theorem C9 {l:W3}{n:Nat}(a:∀ x∈l,0<=x/\x<n)(b:l.Nodup):(bP l n).length+l.length=n:=by
 have:=O7 a;rw [I9 b _ (aZ _)] at this;exact this
section
variable {t:Types} {r:Rule} {h:Host} {m:Mat}
theorem StepIn.cz (S:StepIn t r h m):∀ x∈m.m.h,0<=x/\x<h.j.h.length:=λx hx=>by
 obtain ⟨i,hi,rfl⟩:=aQ hx;have:=S.hm.len;exact (S.hm.bj i hi aD).1
theorem StepIn.dJ (S:StepIn t r h m):∀ x∈m.m.i,0<=x/\x<h.j.i.length:=λx hx=>by
 obtain ⟨i,hi,rfl⟩:=aQ hx;exact S.hm.b2 i hi
end
structure StepOk (t:Types) (r:Rule) (h:Host) (m:Mat):Prop where
 S:StepIn t r h m
 c8:pF t r h m=0
 sol:dV t r.left h m.m=(m.vars,0)
 put:sN t (bW t r h m).j (c7 r h m) m.vars r.right.l=0
 nn:(bW t r h m).j.h.length<=40
 ne:(bW t r h m).j.i.length<=80
theorem U7 {t:Types}{r:Rule}{h:Host}{m:Mat}(f:RuleV t r)(e:HostOk t h)(c:iC t r h m=0):StepOk t r h m:=by
 unfold iC at c;split at c
 .contradiction
 .rename_i h1;have d:lM t r h m=0:=by simpa using h1
  unfold lM at d;split at d
  .contradiction
  .rename_i h2;have a:pF t r h m=0:=by simpa using h2
   have b:dV t r.left h m.m=(m.vars,0):=by
    unfold pF at a;split at a
    .cases a
    .split at a
     .contradiction
     .rename_i h4;split at a
      .cases a
      .rename_i h5;exact Prod.ext (eQ h5) (eQ h4)
   split at c
   .contradiction
   .rename_i h3;split at c
    .cases c
    .rename_i h4;exact ⟨Hn f e a,a,b,by simpa using h3,aD,aD⟩
theorem StepOk.after {t:Types}{r:Rule}{h:Host}{m:Mat}(S:StepOk t r h m):fX t (b9 t r h m)=0:=S.S.after S.put S.nn S.ne
theorem Wu {t:Types}{r:Rule}{h:Host}{m:Mat}(a:m∈(Cw t r h).1):f6 t r h=0/\iC t r h m=0:=by
 unfold Cw at a;split at a
 .cases a
 .rename_i h1;split at a
  .cases a
  .exact ⟨by simpa using h1,of_decide_eq_true (fK.1 a).2⟩
@[go_sem] theorem afM (o:Option UInt8)(a:D):((Option.map cU o).getD [a]).length=1:=by cases o<;>rfl
@[go_sem] theorem afA (o:Option B3)(c b a:D):((Option.map cT3 o).getD [c,b,a]).length=3:=by cases o<;>rfl
@[go_sem] theorem afN (o:Option B2)(b a:D):((Option.map cP o).getD [b,a]).length=2:=by cases o<;>rfl
theorem Dd (l:List Slot):eE (l.map Slot.c)=l.map Slot.c:=jR λc hc=>by
 rw [aW] at hc;obtain ⟨x,_,rfl⟩:=hc;rfl
theorem Dc (l:List Test):eE (l.map Test.c)=l.map Test.c:=jR λc hc=>by
 rw [aW] at hc;obtain ⟨x,_,rfl⟩:=hc;rfl
theorem W8 (c:Cond):iI c.c=c.c:=by
 refine kS (p:=λc=>iI c.c=c.c) (λc b=>?_) c;rw [Cond.A];have f:eE (c.s.map Cond.c)=c.s.map Cond.c:=jR λd a=>by
  rw [aW] at a;obtain ⟨x,e,rfl⟩:=a;exact b x e
 simp [iI,mC,dLI,dI,d9,pX,Dd,Dc,f]
theorem Ig (l:List Cond):eE (l.map Cond.c)=l.map Cond.c:=jR λc hc=>by
 rw [aW] at hc;obtain ⟨x,_,rfl⟩:=hc;exact W8 x
theorem Vw (l:Yb):eE (l.map cL)=l.map cL:=jR λc hc=>by
 rw [aW] at hc;obtain ⟨x,_,rfl⟩:=hc;simp [cL,dLI,iI,mC,d9]
theorem VB (n a:Nat):(if a<n then (a:Int) else (n:Int))=((min n a:Nat):Int):=by split<;>omega
def small (d:Dr5)(a b:Nat):Dr5:=⟨d.h.take (min d.h.length a),d.i.take (min d.i.length b)⟩
theorem Fr (d:Dr5)(a b:Nat)(q:a<=1000)(p:b<=1000):Pua 13 [.agg d.c,dI a,dI b] (.agg (small d a b).c):=by
 have i:=VB d.h.length a;have g:=VB d.i.length b;obtain ⟨n,f⟩:∃ m,min d.h.length a=m:=⟨_,rfl⟩;obtain ⟨l,e⟩:∃ m,min d.i.length b=m:=⟨_,rfl⟩;rw [f] at i;rw [e] at g;have k:n<=d.h.length:=aD;have j:l<=d.i.length:=aD;refine Tz.pK ⟨λt=>t==6,λ_=>[]⟩ func13 rfl (λQ o=>?_);have Y:=xa1 @Dr5.c.eq_1 i g;exact wo (h:=o _ _ (by simp [go_sem,small,Y,f,e]))
structure Dr26 where
 types:List B2
 aU:List B2
 C:Dr24
 aJ:Dr15
def Dr26.c (d:Dr26):UN:=[.list (d.types.map cP),.list (d.aU.map cP)]++d.C.c++d.aJ.c
@[go_sem] theorem Dr26.P (d:Dr26):D.L d.c=true:=by simp [Dr26.c,yW,Dr24.P,Dr15.c,D.L,D.P,Wl,DR]
def SU (d:Dr24):Dr24:={ d with left:={ d.left with j:=small d.left.j 3 2 } }
def Yj (d:Dr26):Types:=p6 d.types d.aU
def r26 (d:Dr26):Rule:=Ex (Yj d) (SU d.C)
def M6 (d:Dr26):Host:=MR (Yj d) ⟨d.aJ.h.take (min d.aJ.h.length 6),d.aJ.i.take (min d.aJ.i.length 8)⟩
theorem QX (d:Dr26):Pua 12 [.agg d.c] (.tup [(Yj d).d,(r26 d).d,(M6 d).d]):=by
 have i:=Io d.types d.aU;obtain ⟨T,o⟩:=gA (p6 d.types d.aU);have p:=Rc d.types d.aU;rw [o] at i p;have f:(if (6:Int)<(d.aJ.h.length:Int) then (6:Int) else (d.aJ.h.length:Int))=((min d.aJ.h.length 6:Nat):Int):=by split<;>omega
 have e:(if (8:Int)<(d.aJ.i.length:Int) then (8:Int) else (d.aJ.i.length:Int))=((min d.aJ.i.length 8:Nat):Int):=by split<;>omega
 obtain ⟨k,b⟩:∃ m,min d.aJ.h.length 6=m:=⟨_,rfl⟩;obtain ⟨j,a⟩:∃ m,min d.aJ.i.length 8=m:=⟨_,rfl⟩;rw [b] at f;rw [a] at e;have n:k<=d.aJ.h.length:=aD;have l:j<=d.aJ.i.length:=aD;refine pS (by first|rfl|(simp [go_sem];done)) (λQ q=>(Tz.cK ⟨λt=>t==1||t==2||t==3||t==4||t==5,λr=>match r with|3=>[(15,20),(16,20),(17,20)]|_=>[]⟩ func12 rfl ?_));have Y:=xa6 @Dr26.c.eq_1 @Dr24.c.eq_1 @Dr15.c.eq_1 @Dr5.c.eq_1 @Host.d.eq_1 @Host.c.eq_1 f e;refine lS (h:=aB (p) wl ?_);refine lS (h:=aB (Fr d.C.left.j 3 2 aD aD) wl ?_);refine oL (h:=aI ((by have g:=HP T i (SU d.C);simp only [SU,Dr24.c,Dr5.c] at g;exact g)) wl ?_);refine oL (h:=aI ((by have g:=Q8 T i ⟨d.aJ.h.take k,d.aJ.i.take j⟩;simpa [go_sem,Dr15.c,Host.d,Host.c] using g)) wl ?_);refine oL (h:=?_);exact q _ _ (by simp [go_sem,Y,Yj,r26,M6,SU,o,b,a,Types.d,Types.c,Host.d,Host.c,Rule.d,tG,tX,d9,pX,Dd,Dc,Ig,Vw])
@[go_sem] theorem ae8 (o:Option Mat)(d b a:D):((Option.map Mat.c o).getD [d,b,a]).length=3:=by cases o<;>rfl
/-! ### StepCounts -/
@[go_sem] theorem Y9 (l:W3):Jb l 0=0:=rfl
deriving instance DecidableEq for Term
deriving instance DecidableEq for Slot
deriving instance DecidableEq for Test
deriving instance DecidableEq for Pattern
mutual
def Vc:Cond→Cond→Bool
 | .mk k l m p,.mk k' l' m' p'=>decide (k=k')&&decide (m=m')&&decide (p=p')&&BT l l'
def BT:List Cond→List Cond→Bool
 | [],[]=>true
 | [],_ :: _=>false
 | _ :: _,[]=>false
 | a :: l,b :: l'=>Vc a b&&BT l l'
end
mutual
theorem KQ:∀ a b:Cond,Vc a b=true↔a=b
 | .mk k l m p,.mk k' l' m' p'=>by
  have:=HB l l';simp only [Vc,aN,decide_eq_true_eq,this,Cond.mk.injEq];constructor
  ·rintro ⟨⟨⟨h1,h2⟩,h3⟩,h4⟩;exact ⟨h1,h4,h2,h3⟩
  ·rintro ⟨h1,h4,h2,h3⟩;exact ⟨⟨⟨h1,h2⟩,h3⟩,h4⟩
theorem HB:∀ a b:List Cond,BT a b=true↔a=b
 | [],[]=>by simp [BT]
 | [],_ :: _=>by simp [BT]
 | _ :: _,[]=>by simp [BT]
 | a :: l,b :: l'=>by
  have h1:=KQ a b;have h2:=HB l l';simp [BT,h1,h2]
end
instance:DecidableEq Cond:=fun a b=>decidable_of_iff _ (KQ a b)
deriving instance DecidableEq for Rule
deriving instance DecidableEq for Stp26
theorem Ts {x y:Slot}(h:x.node=y.node/\x.J=y.J/\x.x.N=y.x.N/\x.x.add=y.x.add):x=y:=by
 obtain ⟨a,b,⟨c,d⟩⟩:=x;obtain ⟨e,f,⟨g,i⟩⟩:=y;obtain ⟨rfl,rfl,rfl,rfl⟩:=h;rfl
theorem Tn {x y:Test}(h:x.E=y.E/\x.left.N=y.left.N/\x.left.add=y.left.add/\x.right.N=y.right.N/\x.right.add=y.right.add):x=y:=by
 obtain ⟨a,⟨b,c⟩,⟨d,e⟩⟩:=x;obtain ⟨f,⟨g,i⟩,⟨j,k⟩⟩:=y;obtain ⟨rfl,rfl,rfl,rfl,rfl⟩:=h;rfl
theorem Vl (a b:Pattern):decide (a=b)=(decide (a.j=b.j)&&decide (a.vars=b.vars)&&decide (a.l=b.l)&&decide (a.G=b.G)):=by
 rw [aS];cases a;cases b;simp [Cond.E,Cond.s,Cond.map,Cond.o,and_comm,and_left_comm,and_assoc]
theorem Xt (a b:Cond):decide (a=b)=(decide (a.E=b.E)&&decide (a.map=b.map)&&decide (a.o=b.o)&&decide (a.s=b.s)):=by
 rw [aS];simp only [aN,decide_eq_true_eq];cases a;cases b
 simp only [Cond.mk.injEq,Cond.E,Cond.s,Cond.map,Cond.o];constructor
 .rintro ⟨f,e,d,c⟩;exact ⟨⟨⟨f,d⟩,c⟩,e⟩
 .rintro ⟨⟨⟨f,d⟩,c⟩,e⟩;exact ⟨f,e,d,c⟩
theorem WU (a b:Rule):decide (a=b)=(decide (a.name=b.name)&&decide (a.inj=b.inj)&&decide (a.left=b.left)&&decide (a.right=b.right)&&decide (a.q=b.q)&&decide (a.u=b.u)&&decide (a.cond=b.cond)):=by
 rw [aS];cases a;cases b;simp [Cond.E,Cond.s,Cond.map,Cond.o,and_comm,and_left_comm,and_assoc]
theorem Ym (a b:Stp26):decide (a=b)=(decide (a.C=b.C)&&decide (a.V=b.V)&&decide (a.B=b.B)&&decide (a.after=b.after)&&decide (a.Q=b.Q)&&decide (a.y=b.y)):=by
 rw [aS];cases a;cases b;simp [and_assoc]
theorem Ck (a b:List Edge):Pua 95 [.list (a.map Edge.c),.list (b.map Edge.c)] (.bool (decide (a=b))):=by
 refine Tz.p0 func95 rfl λQ k Y=>?_;refine wv (h:=?_);repeat first|intro _|refine ⟨iD,?_⟩
 refine wq (λn=>?_) λn=>?_
 .refine wv (h:=?_);have d:a≠b:=by intro h;subst h;omega
  exact k _ _ (by simp [go_sem,d])
 .refine wo (h:=aY (λi e H=>(e 0=.list (a.map Edge.c)/\e 1=.list (b.map Edge.c)/\e 12=dI a.length/\e 13=dI i)/\(i<=a.length)/\(a.take i=b.take i)) (λi=>a.length - i) 0 ⟨wg,wi,(by rfl)⟩ λq l i e H g=>?_);obtain ⟨o,p,j⟩:=g;have Y:=wa Y o;refine dK (λf=>?_) λf=>?_
  .have hib:i<b.length:=aD;have Y:=xa2 Y f (aA f) (aA hib);refine wv (h:=?_);repeat first|intro _|refine ⟨iD,?_⟩
   refine wq (λm=>?_) λm=>?_
   .refine wv (h:=?_);have d:a≠b:=by intro h;subst h;simp at m
    exact k _ _ (by simp [go_sem,d])
   .exact wo (h:=wx l (i+1) ⟨wg,wj,(by rw [aE f,aE hib,j,LN m])⟩)
  .have hab:a=b:=by rw [aG aD,aG aD] at j;exact j
   exact wv (h:=k _ _ (by simp [go_sem,hab]))
theorem Cj (a b:List Slot):Pua 20 [.list (a.map Slot.c),.list (b.map Slot.c)] (.bool (decide (a=b))):=by
 refine Tz.p0 func20 rfl λQ k Y=>?_;refine wv (h:=?_);repeat first|intro _|refine ⟨iD,?_⟩
 refine wq (λn=>?_) λn=>?_
 .refine wv (h:=?_);have d:a≠b:=by intro h;subst h;omega
  exact k _ _ (by simp [go_sem,d])
 .refine wo (h:=aY (λi e H=>(e 0=.list (a.map Slot.c)/\e 1=.list (b.map Slot.c)/\e 12=dI a.length/\e 13=dI i)/\(i<=a.length)/\(a.take i=b.take i)) (λi=>a.length - i) 0 ⟨wg,wi,(by rfl)⟩ λq l i e H g=>?_);obtain ⟨o,p,j⟩:=g;have Y:=wa Y o;refine dK (λf=>?_) λf=>?_
  .have hib:i<b.length:=aD;have Y:=xa2 Y f (aA f) (aA hib);refine wv (h:=?_);repeat first|intro _|refine ⟨iD,?_⟩
   refine wq (λm=>?_) λm=>?_
   .refine wv (h:=?_);have d:a≠b:=by intro h;subst h;simp at m
    exact k _ _ (by simp [go_sem,d])
   .exact wo (h:=wx l (i+1) ⟨wg,wj,(by rw [aE f,aE hib,j,Ts m])⟩)
  .have hab:a=b:=by rw [aG aD,aG aD] at j;exact j
   exact wv (h:=k _ _ (by simp [go_sem,hab]))
theorem IY (a b:List Test):Pua 173 [.list (a.map Test.c),.list (b.map Test.c)] (.bool (decide (a=b))):=by
 refine Tz.p0 func173 rfl λQ k Y=>?_;refine wv (h:=?_);repeat first|intro _|refine ⟨iD,?_⟩
 refine wq (λn=>?_) λn=>?_
 .refine wv (h:=?_);have d:a≠b:=by intro h;subst h;omega
  exact k _ _ (by simp [go_sem,d])
 .refine wo (h:=aY (λi e H=>(e 0=.list (a.map Test.c)/\e 1=.list (b.map Test.c)/\e 12=dI a.length/\e 13=dI i)/\(i<=a.length)/\(a.take i=b.take i)) (λi=>a.length - i) 0 ⟨wg,wi,(by rfl)⟩ λq l i e H g=>?_);obtain ⟨o,p,j⟩:=g;have Y:=wa Y o;refine dK (λf=>?_) λf=>?_
  .have hib:i<b.length:=aD;have Y:=xa2 Y f (aA f) (aA hib);refine wv (h:=?_);repeat first|intro _|refine ⟨iD,?_⟩
   refine wq (λm=>?_) λm=>?_
   .refine wv (h:=?_);have d:a≠b:=by intro h;subst h;simp at m
    exact k _ _ (by simp [go_sem,d])
   .exact wo (h:=wx l (i+1) ⟨wg,wj,(by rw [aE f,aE hib,j,Tn m])⟩)
  .have hab:a=b:=by rw [aG aD,aG aD] at j;exact j
   exact wv (h:=k _ _ (by simp [go_sem,hab]))
theorem nB (a b:Part):Pua 66 [a.d,b.d] (.bool (decide (a=b))):=by
 refine Tz.p0 func66 rfl λQ e Y=>?_;refine wo (h:=aB (lV a.h b.h) wl ?_);refine wo (h:=aK (λc=>lV a.i b.i) (λc=>wl) ?_);have Y:=wa Y @Sp;exact wo (h:=e _ _ wy)
theorem PD (a b:Graph):Pua 172 [a.d,b.d] (.bool (decide (a=b))):=by
 refine Tz.p0 func172 rfl λQ e Y=>?_;refine wo (h:=aB (lV a.h b.h) wl ?_);refine wo (h:=aK (λc=>Ck a.i b.i) (λc=>wl) ?_);have Y:=wa Y @Dz;exact wo (h:=e _ _ wy)
theorem uY (a b:Pattern):Pua 114 [a.d,b.d] (.bool (decide (a=b))):=by
 refine Tz.p0 func114 rfl λQ e Y=>?_;refine wo (h:=aB (PD a.j b.j) wl ?_);refine wo (h:=aK (λc=>Cj a.l b.l) (λc=>wl) ?_);refine wo (h:=aK (λc=>IY a.G b.G) (λc=>wl) ?_);have Y:=wa Y @Vl;exact wo (h:=e _ _ wy)
theorem IZ (a b:Yb)(g:FuncId)(n:∀ x y:W3,Pure prog g [dLI x,dLI y] (.bool (decide (x=y)))):Pua 96 [.list (a.map cL),.list (b.map cL),.fn g []] (.bool (decide (a=b))):=by
 refine Tz.p0 func96 rfl λQ k Y=>?_;refine wv (h:=?_);repeat first|intro _|refine ⟨iD,?_⟩
 refine wq (λo=>?_) λo=>?_
 .refine wv (h:=?_);have c:a≠b:=by intro h;subst h;omega
  exact k _ _ (by simp [go_sem,c])
 .refine wo (h:=aY (λi e H=>(e 0=.list (a.map cL)/\e 1=.list (b.map cL)/\e 2=.fn g []/\e 15=.list (a.map cL)/\e 16=dI a.length/\e 17=dI i)/\(i<=a.length)/\(a.take i=b.take i)) (λi=>a.length - i) 0 ⟨wg,wi,(by rfl)⟩ λr l i e H f=>?_);obtain ⟨p,q,j⟩:=f;have Y:=wa Y p;refine dK (λd=>?_) λd=>?_
  .have hib:i<b.length:=aD;have Y:=xa3 Y d (aA d) (aA hib) @cL.eq_1;refine wo (h:=aB (n a[i] b[i]) wl ?_);refine wv (h:=?_);repeat first|intro _|refine ⟨iD,?_⟩
   refine wq (λm=>?_) λm=>?_
   .refine wv (h:=?_);have c:a≠b:=by intro h;subst h;exact m rfl
    exact k _ _ (by simp [go_sem,c])
   .exact wo (h:=wx l (i+1) ⟨wg,wj,(by rw [aE d,aE hib,j,m])⟩)
  .have hab:a=b:=by rw [aG aD,aG aD] at j;exact j
   exact wv (h:=k _ _ (by simp [go_sem,hab]))
theorem I7 (a b:List Cond)(g:FuncId)(p:∀ x∈a,∀ y:Cond,Pure prog g [.agg x.c,.agg y.c] (.bool (decide (x=y)))):Pua 174 [.list (a.map Cond.c),.list (b.map Cond.c),.fn g []] (.bool (decide (a=b))):=by
 refine Tz.pK ⟨λt=>t==8||t==9,λ_=>[]⟩ func174 rfl (λQ l=>?_);have Y:=@Cond.A;refine wv (h:=?_);repeat first|intro _|refine ⟨iD,?_⟩
 refine wq (λq=>?_) λq=>?_
 .refine wv (h:=?_);have d:a≠b:=by intro h;subst h;omega
  exact l _ _ (by simp [go_sem,d])
 .refine wo (h:=aY (λi e H=>(e 0=.list (a.map Cond.c)/\e 1=.list (b.map Cond.c)/\e 2=.fn g []/\e 15=.list (a.map Cond.c)/\e 16=dI a.length/\e 17=dI i)/\(i<=a.length)/\(a.take i=b.take i)) (λi=>a.length - i) 0 ⟨wg,wi,(by rfl)⟩ λu m i e H j=>?_);obtain ⟨r,s,k⟩:=j;have Y:=wa Y r;refine dK (λf=>?_) λf=>?_
  .have hib:i<b.length:=aD;have Y:=xa2 Y f (aA f) (aA hib);refine wo (h:=aB ((by have o:=p _ (aC f) b[i];rwa [Cond.A,Cond.A] at o)) wl ?_);refine wv (h:=?_);repeat first|intro _|refine ⟨iD,?_⟩
   refine wq (λn=>?_) λn=>?_
   .refine wv (h:=?_);have d:a≠b:=by intro h;subst h;exact n rfl
    exact l _ _ (by simp [go_sem,d])
   .exact wo (h:=wx m (i+1) ⟨wg,wj,(by rw [aE f,aE hib,k,n])⟩)
  .have hab:a=b:=by rw [aG aD,aG aD] at k;exact k
   exact wv (h:=l _ _ (by simp [go_sem,hab]))
theorem Gy:∀ a b:Cond,Pua 115 [.agg a.c,.agg b.c] (.bool (decide (a=b))):=by
 refine kS λa i b=>?_;simp only [Cond.A];refine Tz.pK ⟨λt=>t==5||t==6,λr=>match r with|1=>[(0,4),(1,4),(2,4),(3,4),(0,5),(1,5),(2,5),(3,5),(4,5),(2,6),(3,6)]|_=>[]⟩ func115 rfl (λQ g=>?_);have Y:=@Cond.A;refine wo (h:=aK (λd=>nB a.map b.map) (λd=>wl) ?_);refine wo (h:=aK (λd=>lV a.o.j.h b.o.j.h) (λd=>wl) ?_);refine wo (h:=aK (λd=>Ck a.o.j.i b.o.j.i) (λd=>wl) ?_);refine d8 (λf=>?_) λf=>?_
 .refine wv (h:=?_);have e:a≠b:=by intro h;subst h;simp at f
  exact g _ _ (by simp [go_sem,e])
 .have hab:(((a.E=b.E/\a.map=b.map)/\a.o.vars=b.o.vars)/\a.o.j.h=b.o.j.h)/\a.o.j.i=b.o.j.i:=by (try simp at f);refine ⟨⟨⟨⟨?_,?_⟩,?_⟩,?_⟩,?_⟩<;>first|(simp_all;done)|omega
  refine wo (h:=aB (Cj a.o.l b.o.l) wl ?_);refine wo (h:=aK (λd=>IY a.o.G b.o.G) (λd=>wl) ?_);refine wo (h:=aK (λd=>I7 a.s b.s 115 i) (λd=>wl) ?_);exact wo (h:=g _ _ (by rw [Xt,Vl,Dz];simp [go_sem,hab.1.1.1.1,hab.1.1.1.2,hab.1.1.2,hab.1.2,hab.2]))
theorem QS (a b:Rule):Pua 64 [a.d,b.d] (.bool (decide (a=b))):=by
 have e:=Gy a.cond b.cond;rw [Cond.A,Cond.A] at e;refine Tz.p0 func64 rfl λQ f Y=>?_;refine wo (h:=aK (λc=>uY a.left b.left) (λc=>wl) ?_);refine wo (h:=aK (λc=>uY a.right b.right) (λc=>wl) ?_);refine wo (h:=aK (λc=>lV a.q.h b.q.h) (λc=>wl) ?_);refine wo (h:=aK (λc=>lV a.q.i b.q.i) (λc=>wl) ?_);refine wo (h:=aK (λc=>nB a.u b.u) (λc=>wl) ?_);refine wo (h:=aK (λc=>e) (λc=>wl) ?_);exact wo (h:=f _ _ (by rw [WU,Sp a.q b.q];simp [go_sem,qI]))
theorem Ge (a b:Mat):Pua 65 [a.d,b.d] (.bool (decide (a=b))):=by
 refine Tz.p0 func65 rfl λQ f _=>?_;have Y:=wa @Mat.d.eq_1 @Mat.c.eq_1;refine wo (h:=aB (nB a.m b.m) wl ?_);refine wo (h:=aK (λe=>lV a.vars b.vars) (λe=>wl) ?_);have Y:=wa Y @YF;exact wo (h:=f _ _ wy)
theorem Ce (a b:Host):Pua 57 [a.d,b.d] (.bool (decide (a=b))):=by
 refine Tz.p0 func57 rfl λQ f _=>?_;have Y:=wa @Host.d.eq_1 @Host.c.eq_1;refine wo (h:=aB (lV a.j.h b.j.h) wl ?_);refine wo (h:=aK (λe=>Ck a.j.i b.j.i) (λe=>wl) ?_);refine wo (h:=aK (λe=>IZ a.k b.k 94 lV) (λe=>wl) ?_);have Y:=xa1 Y @SI @Dz;exact wo (h:=f _ _ wy)
theorem QH (a b:Stp26):Pua 34 [.agg a.c,.agg b.c] (.bool (decide (a=b))):=by
 refine Tz.p0 func34 rfl λQ g _=>?_;have Y:=xa2 @Stp26.c.eq_1 @Rule.c.eq_1 @Mat.c.eq_1 @Host.c.eq_1;refine Yf (h:=aB (QS a.C b.C) wl ?_);refine Yf (h:=aK (λe=>(by have f:=Ge a.V b.V;unfold Mat.d Mat.c at f;exact f)) (λe=>wl) ?_);refine Yf (h:=aK (λe=>Ce a.B b.B) (λe=>wl) ?_);refine Yf (h:=aK (λe=>Ce a.after b.after) (λe=>wl) ?_);refine Yf (h:=aK (λe=>nB a.Q b.Q) (λe=>wl) ?_);refine Yf (h:=aK (λe=>nB a.y b.y) (λe=>wl) ?_);exact Yf (h:=g _ _ (by rw [Ym];simp [go_sem,qI]))
theorem z8 (t:Types)(g:t.ok)(s:Stp26)(i:s.C.ok){v:Stp26}{e:Int}(f:v=eU t s.C s.B s.V)(k:e=jU t s.C s.B s.V) :
  Pua 11 [t.d,.agg s.c] (.bool (decide (e=0)&&decide (v=s))):=by
 have a:=CG t g s.C i s.B s.V f k;have b:=QH v s;simp only [Stp26.c,Rule.c,Mat.c,Host.c,dE,dF] at a b;unfold Mat.d Mat.c Host.d Host.c dLI at a;refine Tz.pK ⟨λt=>t==5,λ_=>[]⟩ func11 rfl (λQ l=>?_);have Y:=xa2 @Stp26.c.eq_1 @Rule.c.eq_1 @Mat.c.eq_1 @Host.c.eq_1;refine lS (h:=aB (a) wl ?_);refine oL (h:=aK (λj=>b) (λj=>wl) ?_);exact oL (h:=l _ _ wy)
structure Stp26.le (s:Stp26):Prop where
 r:s.C.le
 m:s.V.m.le
 t:s.Q.le
 c:s.y.le
theorem S3 {l:W3}(b:l.Nodup){v:Int}(c:0<=gG l l.length v):∃ p:Nat,∃ hp:p<l.length,l[p]=v/\gG l l.length v=p:=by
 by_cases a:v∈l
 .obtain ⟨p,hp,rfl⟩:=aQ a;exact ⟨p,hp,rfl,qD b hp⟩
 .rw [rF a _ (aZ _)] at c;omega
section
variable {t:Types} {r:Rule} {h:Host} {m:Mat}
theorem StepOk.b0 (K:StepOk t r h m){i:Nat}(b:i<h.j.h.length)(a:0<=iA (Abs.c6 r h m).h i) :
  ∃ p:Nat,∃ hp:p<(bY r h m).h.length,(bY r h m).h[p]=(i:Int)/\iA (Abs.c6 r h m).h i=p:=by
 have e:iA (Abs.c6 r h m).h i=gG (bY r h m).h (bY r h m).h.length i:=by
  unfold iA Abs.c6 n4;simp only;rw [show ((i:Int)).toNat=i by omega,o8 _ b,Option.getD_some]
 rw [e] at a ⊢;obtain ⟨p,hp,d,c⟩:=S3 (mL K.S.bb) a;exact ⟨p,hp,d,c⟩
theorem StepOk.b1 (K:StepOk t r h m){i:Nat}(b:i<h.j.i.length)(a:0<=iA (Abs.c6 r h m).i i) :
  ∃ p:Nat,∃ hp:p<(bY r h m).i.length,(bY r h m).i[p]=(i:Int)/\iA (Abs.c6 r h m).i i=p:=by
 have e:iA (Abs.c6 r h m).i i=gG (bY r h m).i (bY r h m).i.length i:=by
  unfold iA Abs.c6 n4;simp only;rw [show ((i:Int)).toNat=i by omega,o8 _ b,Option.getD_some]
 rw [e] at a ⊢;obtain ⟨p,hp,d,c⟩:=S3 (mL K.S.cp) a;exact ⟨p,hp,d,c⟩
theorem StepOk.cO (K:StepOk t r h m):∀ s∈r.right.l,0<=lP (Abs.c7 r h m) s/\fF (Abs.c7 r h m) s<(bW t r h m).k.length/\0<=s.J/\s.J<((bW t r h m).k[fF (Abs.c7 r h m) s]?.getD []).length:=λs hs=>by
 have P:=K.S.put;have a:=(K.S.hR.l s hs).2.1;exact ⟨(P.spot s hs).1,(P.spot s hs).2.1,a.1,(P.J s hs).1⟩
theorem StepOk.value (K:StepOk t r h m){n a:Nat}(hn:n<(bW t r h m).k.length)(ha:a<((bW t r h m).k[n]?.getD []).length) :
  ((b9 t r h m).k[n]?.getD [])[a]?=some ((FA (Abs.c7 r h m) m.vars r.right.l n a).getD (((bW t r h m).k[n]?.getD [])[a]?.getD 0)) :=
 Ia _ _ r.right.l rfl K.cO n a hn ha
theorem StepOk.ci (K:StepOk t r h m):(b9 t r h m).k.length=(bW t r h m).k.length/\∀ n:Nat,((b9 t r h m).k[n]?.getD []).length=((bW t r h m).k[n]?.getD []).length :=
 ⟨(pR _ _ _ _).1,λn=>(pR (Abs.c7 r h m) m.vars r.right.l (bW t r h m).k).2 n⟩
theorem StepOk.dN (K:StepOk t r h m):Zp (Abs.c7 r h m) m.vars r.right.l:=by
 refine RF ?_;have:=K.put;unfold sN at this;split at this
 .cases this
 .rename_i hc;simpa using hc
structure RemN (t:Types) (r:Rule) (h:Host) (m:Mat) (i:Nat) (k:Int):Prop where
 n1:k.toNat<(b9 t r h m).j.h.length
 n2:(b9 t r h m).j.h[k.toNat]?.getD 0=h.j.h[i]?.getD 0
 v1:k.toNat<(b9 t r h m).k.length
 v2:((b9 t r h m).k[k.toNat]?.getD []).length=(h.k[i]?.getD []).length
 v3:∀ a:Nat,a<(h.k[i]?.getD []).length->(∀ s∈r.right.l,¬ (lP (c7 r h m) s=k/\s.J=a))->((b9 t r h m).k[k.toNat]?.getD [])[a]?.getD 0=(h.k[i]?.getD [])[a]?.getD 0
theorem StepOk.cm (K:StepOk t r h m){i:Nat}(q:i<h.j.h.length)(y:0<=iA (Abs.c6 r h m).h i):RemN t r h m i (iA (Abs.c6 r h m).h i):=by
 obtain ⟨p,c,f,w⟩:=K.b0 q y;have e:=K.S.aS;have D:(bW t r h m).j.h.length=(bY r h m).h.length+r.R.length:=by rw [e,aH,aT,aT]
 have k:=K.S.bA;have g:(b9 t r h m).j=(bW t r h m).j:=rfl;obtain ⟨C,j⟩:=K.ci;have z:(bW t r h m).j.h[p]?.getD 0=h.j.h[i]?.getD 0:=by
  rw [e,aR (eQ c),aM,aA c,dM,Option.getD_some,f];unfold gN;rw [show ((i:Int)).toNat=i by omega]
 have d:(bW t r h m).k[p]?.getD []=h.k[i]?.getD []:=by
  rw [LV,aR (eQ c),aM,aA c,dM,Option.getD_some,f];rw [show ((i:Int)).toNat=i by omega]
 rw [w];have b:((p:Nat):Int).toNat=p:=aD;refine ⟨by rw [b,g];omega,by rw [b,g];exact z,by rw [b];omega,by rw [b,j,d],λa u o=>?_⟩;rw [b,K.value aD (by rw [d];exact u),Option.getD_some];have v:FA (Abs.c7 r h m) m.vars r.right.l p a=none:=by
  cases n:FA (Abs.c7 r h m) m.vars r.right.l p a with
  | none=>rfl
  | some x =>
   obtain ⟨s,l,B,A,_⟩:=Bd n;exact absurd ⟨B,A⟩ (o s l)
 rw [v,d];rfl
theorem StepOk.cU (K:StepOk t r h m){i:Nat}(l:i<h.j.i.length)(o:0<=iA (Abs.c6 r h m).i i) :
  (iA (Abs.c6 r h m).i i).toNat<(b9 t r h m).j.i.length/\eA (b9 t r h m).j (iA (Abs.c6 r h m).i i)=⟨(eA h.j i).type,iA (Abs.c6 r h m).h (eA h.j i).w,iA (Abs.c6 r h m).h (eA h.j i).M⟩:=by
 obtain ⟨p,b,f,n⟩:=K.b1 l o;have S:=K.S;have d:=S.bt;have u:(bW t r h m).j.i.length=(bY r h m).i.length+r.ai.length:=by rw [d,aH,aT,aT]
 have q:(b9 t r h m).j=(bW t r h m).j:=rfl;rw [n,q];refine ⟨aD,?_⟩;have e:eA (bW t r h m).j (p:Int)=gEd h.j (bY r h m) (i:Int):=by
  unfold eA;rw [show ((p:Nat):Int).toNat=p by omega,d,aR (eQ b),aM,aA b,dM,Option.getD_some,f]
 rw [e,EJ];have k:(i:Int)∈(bY r h m).i:=f ▸ aC b;obtain ⟨j,g⟩:=pN S.sub k;have a:∀ v:Int,v∈(bY r h m).h->iA (Abs.c6 r h m).h v=(pT (bY r h m).h v:Int):=λv c=>by
  have s:=S.bF v c;unfold iA Abs.c6 n4;simp only;rw [o8 _ aD,Option.getD_some,show ((v.toNat:Nat):Int)=v by omega,Ba S.bb,if_pos ((mem_iff _ _).2 c)]
 rw [a _ j,a _ g]
end
end Go.Abs
end
