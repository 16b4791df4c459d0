/- Plain law of Before: each match of the inverse whose created -/
import Derived.Test.YtbgbahlipnaflaaGreatZvAZ
import Derived.Test.YtbgbahlipnaflaaGreatZvAG
import Derived.Test.YtbgbahlipnaflaaGreatZvAA
set_option linter.unusedVariables false
set_option linter.unusedSimpArgs false
section
set_option maxRecDepth 100000
set_option maxHeartbeats 4000000
open Go Go.Proofs Tryz
namespace Go.Abs
def A1 (t:Types)(r:Rule)(h:Host)(m:Part)(i:Int):Bool :=
 decide (gN h.j (iA m.h i)=gN r.right.j i)&&decide (h.k[(iA m.h i).toNat]?.getD []=iP t (gN r.right.j i))
def tC (t:Types)(r:Rule)(h:Host)(m:Part):Bool:=(bH r.s.h r.right.j.h.length).all (A1 t r h m)
def R2 (t:Types)(r:Rule)(h:Host)(m:Mat):Host:=bP t (kT r) h m
def R1 (r:Rule)(h:Host)(m:Mat):Mat:=⟨cT (kT r) h m,[]⟩
def B1 (t:Types)(r:Rule)(h:Host)(m:Mat):Stp26:=aP t r (R2 t r h m) (R1 r h m)
def Hp (t:Types)(r:Rule)(h:Host):Int:=if tD t r≠0 then tD t r else (mU t (kT r) h).2
def LO (t:Types)(r:Rule)(h:Host):List Stp26:=if Hp t r h=0 then ((mU t (kT r) h).1.filter λm=>tC t r h m.m).map (B1 t r h) else []
theorem R6 {t:Types}{r:Rule}{h:Host}{m:Mat}(a:m∈(mU t r h).1):jJ t r h m=0:=by
 unfold mU at a;split at a
 .cases a
 .rename_i h1;split at a
  .cases a
  .have h2:=(d8.1 a).2;unfold jJ;rw [if_neg h1];simpa using h2
theorem XY {t:Types}{r:Rule}{h:Host}{m:Mat}(hr:r.ok)(hi:tD t r=0)(hl:tC t r h m.m=true):Bq t (kT r) h m:=λi h0 h1 hn=>by
 have hn':i∉r.s.h:=λhc=>hn (fF.2 ⟨⟨h0,h1⟩,hc⟩);unfold tC at hl;have:=cF.1 hl i (dQ.2 ⟨⟨h0,h1⟩,hn'⟩);unfold A1 at this;simp only [aM,decide_eq_true_eq] at this;exact this
theorem YC {t:Types}{r:Rule}{h:Host}{m:Mat}(b:r.ok)(e:tD t r=0)(i:m∈(mU t (kT r) h).1)(j:tC t r h m.m=true) :
  jJ t (kT r) h m=0/\fQ t (kT r) h m=aP t (kT r) h m/\jJ t r (R2 t r h m) (R1 r h m)=0/\fQ t r (R2 t r h m) (R1 r h m)=B1 t r h m/\(∃ p,HIso (B1 t r h m).after h p)/\fG t (B1 t r h m).after=0/\tY t (B1 t r h m)=true:=by
 obtain ⟨o,n,d,g⟩:=CO b e;have c:=R6 i;have K:=kD d c;obtain ⟨l,k⟩:=n.fU K d g rfl (XY b e j);have a:jJ t r (R2 t r h m) (R1 r h m)=0:=l;have f:fQ t r (R2 t r h m) (R1 r h m)=B1 t r h m:=by unfold fQ;rw [if_pos a];rfl
 refine ⟨c,by unfold fQ;rw [if_pos c],a,f,k,(kD b a).after,?_⟩;unfold tY;show (decide (jJ t r (R2 t r h m) (R1 r h m)=0)&&decide (fQ t r (R2 t r h m) (R1 r h m)=B1 t r h m))=true;rw [a,f];simp
theorem MQ {t:Types}{r:Rule}{h:Host}{m:Mat}(a:r.ok)(c:tD t r=0)(d:ruleF t r=0)(K:StepOk t r h m)(b:r.right.l=[])(L:Bq t r h m) :
  jJ t (kT r) (bP t r h m) ⟨cT r h m,[]⟩=0/\∃ p,HIso (bP t (kT r) (bP t r h m) ⟨cT r h m,[]⟩) h p:=by
 obtain ⟨e,i,g,f⟩:=CO a c;exact e.fU K a d b L
theorem Wm {t:Types}{k:Int}:iP t k=(bL t k).map λa=>a.ao:=rfl
theorem Wk {t:Types}{r:Rule}{h:Host}{m:Mat}(K:StepOk t r h m)(g:r.right.l=[]):tC t r (bP t r h m) (cT r h m)=true:=by
 have S:=K.S;unfold tC;rw [cF];intro i l;obtain ⟨j,k⟩:=dQ.1 l;obtain ⟨f,p,o,n⟩:=S.ak.aj j k;obtain ⟨b,a⟩:=S.dv (f:=f) p;rw [S.bb] at b a;have c:iA r.N f=i:=o;have e:(bP t r h m).k=(bT t r h m).k:=by
  show uU (cT r h m) m.vars r.right.l (bT t r h m).k=_;rw [g];rfl
 have d:iA (cT r h m).h i=((mC r.q.h m.m.h h.j.h.length).length+f:Nat):=by rw [S.bc,n]
 unfold A1;simp only [aM,decide_eq_true_eq];constructor
 .show gN (bT t r h m).j _=_;rw [d,b,c]
 .rw [e,d,Int.toNat_natCast,a,c]
theorem tU {t:Types}{p g:Graph}{m:Part}{inj:Bool}(h:matchE t p g m inj=0):(m.h.length=p.h.length/\m.i.length=p.i.length)/\(∀ i,i<p.h.length->mNE t p g m i=0)/\(∀ i,i<p.i.length->mapEE p g m i=0) /\
  (inj=true->m.h.Nodup/\m.i.Nodup):=by
 unfold matchE at h;split at h
 .cases h
 .rename_i h1;split at h
  .exact absurd h ic
  .rename_i h2;split at h
   .exact absurd h ic
   .rename_i h3;split at h
    .cases h
    .rename_i h4;refine ⟨aD,λi b=>eU p.h.length 0 aD i (eL _) aD,λi b=>eU p.i.length 0 aD i (eL _) aD,λa=>⟨aY λq=>h4 ⟨a,.inl q⟩,aY λq=>h4 ⟨a,.inr q⟩⟩⟩
theorem L7 {l:V2}{i:Nat}(h:i<l.length){k:Nat}(a:l[i]=(k:Int)):l.take (i+1)=l.take i++[(k:Int)]:=by
 rw [List.take_succ_eq_append_getElem h,a]
theorem Jm {l:V2}(b:l.Nodup){i:Nat}(h:i<l.length):mem (l.take i) l[i]=false:=by
 rw [bJ];intro c;obtain ⟨j,d,a⟩:=aO ((mem_iff _ _).1 c);rw [cX] at d;rw [Ao] at a;have:=(i6 b).1 a;omega
theorem M3 (n i k:Nat):yE (List.replicate n (-1)) i k=true:=by
 unfold yE;rw [c8,decide_eq_true_eq,decide_eq_true_eq]
 left
 by_cases h:i<n
 .simp [h]
 .simp [h]
section
variable {t:Types} {p g:Graph} {m:Part} {inj:Bool}
def Xh (t:Types)(p g:Graph)(inj:Bool):Srch:=⟨t,p,g,List.replicate p.h.length (-1),List.replicate p.i.length (-1),inj⟩
theorem Rx (h:matchE t p g m inj=0):∀ (d i:Nat),i+d=p.i.length->m.i∈C1 (Xh t p g inj) m.h d (m.i.take i)
 | 0,i,hi=>by
  have:=(tU h).1;unfold C1;rw [aG aD];exact bD.2 rfl
 | d+1,i,hi=>by
  obtain ⟨⟨l1,l2⟩,_,he,hj⟩:=tU h;have hx:i<m.i.length:=aD;have e:=he i aD;unfold mapEE at e;have em:m.i[i]?.getD 0=m.i[i]:=by rw [aA hx];rfl
  rw [em] at e;split at e
  .cases e
  .rename_i q1;split at e
   .cases e
   .rename_i q2;split at e
    .cases e
    .rename_i q3;obtain ⟨k,hk⟩:∃ k:Nat,m.i[i]=(k:Int):=⟨m.i[i].toNat,aD⟩;have ih:=Rx h d (i+1) aD;rw [L7 hx hk] at ih;unfold C1;refine bQ.2 ⟨k,d8.2 ⟨aV.2 (by show k<g.i.length;omega),?_⟩,ih⟩;rw [hk,Int.toNat_natCast] at q2 q3;have lt:(m.i.take i).length=i:=by rw [cX];omega
     unfold Te;rw [lt];refine B6.2 ⟨M3 _ _ _,B6.2 ⟨?_,?_⟩⟩
     .show (!(inj&&mem (m.i.take i) (k:Int)))=true;by_cases hi:inj=true
      .have:=Jm (hj hi).2 hx;rw [hk] at this;rw [this];simp
      .have:inj=false:=by simpa using hi
       rw [this];rfl
     .unfold Ar WD edX;simp only [decide_eq_true_eq];show [(g.i[k]?.getD cH).type,(g.i[k]?.getD cH).w,(g.i[k]?.getD cH).M]=[(p.i[i]?.getD cH).type,m.h[(p.i[i]?.getD cH).w.toNat]?.getD 0,m.h[(p.i[i]?.getD cH).M.toNat]?.getD 0];rw [Classical.not_not.1 q2,Classical.not_not.1 (λc=>q3 (.inl c)),Classical.not_not.1 (λc=>q3 (.inr c))]
theorem Rv (h:matchE t p g m inj=0):∀ (d i:Nat),i+d=p.h.length->m∈Be (Xh t p g inj) d (m.h.take i)
 | 0,i,hi=>by
  have:=(tU h).1;unfold Be;rw [aG aD];refine aT.2 ⟨m.i,?_,rfl⟩;have:=Rx h p.i.length 0 aD;rw [GR] at this;exact this
 | d+1,i,hi=>by
  obtain ⟨⟨l1,l2⟩,hn,_,hj⟩:=tU h;have hx:i<m.h.length:=aD;have e:=hn i aD;unfold mNE at e;have em:m.h[i]?.getD 0=m.h[i]:=by rw [aA hx];rfl
  rw [em] at e;split at e
  .cases e
  .rename_i q1;split at e
   .rename_i q2;obtain ⟨k,hk⟩:∃ k:Nat,m.h[i]=(k:Int):=⟨m.h[i].toNat,aD⟩;have ih:=Rv h d (i+1) aD;rw [L7 hx hk] at ih;unfold Be;refine bQ.2 ⟨k,d8.2 ⟨aV.2 (by show k<g.h.length;omega),?_⟩,ih⟩;rw [hk,Int.toNat_natCast] at q2;have lt:(m.h.take i).length=i:=by rw [cX];omega
    unfold Ly;rw [lt];refine B6.2 ⟨M3 _ _ _,B6.2 ⟨?_,q2⟩⟩;show (!(inj&&mem (m.h.take i) (k:Int)))=true;by_cases hi:inj=true
    .have:=Jm (hj hi).1 hx;rw [hk] at this;rw [this];simp
    .have:inj=false:=by simpa using hi
     rw [this];rfl
   .cases e
theorem YM (h:matchE t p g m inj=0):m∈yU (Xh t p g inj):=by
 have:=Rv h p.h.length 0 aD;rw [GR] at this;exact this
end
theorem YL {t:Types}{r:Rule}{h:Host}{m:Mat}(i:r.ok)(e:jJ t r h m=0)(c:(mU t r h).2=0):m∈(mU t r h).1:=by
 have K:=kD i e;have g:gM t r h m=0:=by
  unfold jJ at e;split at e
  .contradiction
  .exact e
 have f:=K.ey;have a:=K.hA;have d:checkE t r.left.j h.j m.m r.inj=0:=by
  unfold o7 at f;split at f
  .cases f
  .rename_i q;simpa using q
 obtain ⟨G,j⟩:=oS d;have b:eH t r.left.j h.j=0:=by
  unfold checkE at d;split at d
  .rename_i q;exact absurd d q
  .rename_i q;simpa using q
 unfold mU at c ⊢;split at c
 .rename_i q;exact absurd c q
 .rename_i q1;rw [if_neg q1];split at c
  .rename_i q;exact absurd c q
  .rename_i q2;rw [if_neg q2];refine d8.2 ⟨?_,by simpa using g⟩;unfold eG at a;unfold eX at q2 ⊢;split at q2
   .rename_i q;exact absurd q (bY q2)
   .rename_i q3;rw [if_neg q3];split at q2
    .rename_i q;exact absurd q (bY q2)
    .rename_i q4;rw [if_neg q4];split at q2
     .rename_i q;exact absurd q (bY q2)
     .rename_i q5;rw [if_neg q5];rw [if_neg q3,if_neg q4] at a;split at a
      .rename_i q;have:=congrArg Prod.snd a;exact absurd this q
      .have hm:m.m∈(kC t r.left.j h.j r.inj).1:=by
        unfold kC at q5 ⊢;rw [if_neg (by rw [b];simp)] at q5 ⊢;rw [UX] at q5 ⊢;split at q5
        .exact absurd q5 aE
        .rename_i q6;rw [if_neg q6];exact YM j
       unfold tI;refine List.mem_filterMap.2 ⟨m.m,hm,?_⟩;have l:(eZ r.left h m.m []).2=0:=congrArg Prod.snd a;have k:(eZ r.left h m.m []).1=m.vars:=congrArg Prod.fst a;rw [if_pos l,k]
theorem R5 {t:Types}{r:Rule}{h:Host}(a:Hp t r h=0):tD t r=0/\(mU t (kT r) h).2=0:=by
 unfold Hp at a;split at a
 .rename_i q;exact absurd a q
 .rename_i q;exact ⟨by simpa using q,a⟩
theorem YD {t:Types}{r:Rule}{h:Host}{x:Stp26}(a:x∈LO t r h):∃ m,m∈(mU t (kT r) h).1/\tC t r h m.m=true/\x=B1 t r h m/\tD t r=0:=by
 unfold LO at a;split at a
 .rename_i he;obtain ⟨m,b,rfl⟩:=aT.1 a;obtain ⟨d,c⟩:=d8.1 b;exact ⟨m,d,c,rfl,(R5 he).1⟩
 .cases a
theorem Z2 {t:Types}{r:Rule}{h:Host}{x:Stp26}(b:r.ok)(a:x∈LO t r h):tY t x=true/\(∃ p,HIso x.after h p)/\fG t x.after=0/\x.x=r:=by
 obtain ⟨m,c,d,rfl,e⟩:=YD a;obtain ⟨_,_,_,_,i,g,f⟩:=YC b e c d;exact ⟨f,i,g,rfl⟩
theorem Wr {t:Types}{s:Stp26}(b:s.x.ok)(k:tY t s=true)(m:ruleF t s.x=0)(L:Bq t s.x s.C s.U)(f:Hp t s.x s.after=0) :
  ∃ x∈LO t s.x s.after,(∃ p,HIso x.C s.C p)/\fG t x.C=0:=by
 obtain ⟨c,l⟩:=R5 f;obtain ⟨n,K⟩:=Kt b k;obtain ⟨_,h,_⟩:=Fw c;obtain ⟨_,e,_⟩:=AS h;obtain ⟨r,q,d,o⟩:=CO b c;have a:s.after=bP t s.x s.C s.U:=congrArg Stp26.after n;obtain ⟨g,p,I⟩:=MQ b c m K e L;have i:(⟨cT s.x s.C s.U,[]⟩:Mat)∈(mU t (kT s.x) s.after).1:=YL d (by rw [a];exact g) l;have j:tC t s.x s.after (cT s.x s.C s.U)=true:=by rw [a];exact Wk K e
 refine ⟨B1 t s.x s.after ⟨cT s.x s.C s.U,[]⟩,?_,⟨p,?_⟩,?_⟩
 .unfold LO;rw [if_pos f];exact aT.2 ⟨_,d8.2 ⟨i,j⟩,rfl⟩
 .show HIso (bP t (kT s.x) s.after ⟨cT s.x s.C s.U,[]⟩) s.C p;rw [a];exact I
 .show fG t (bP t (kT s.x) s.after ⟨cT s.x s.C s.U,[]⟩)=0;rw [a];exact (kD d g).after
def Hf (t:Types)(r:Rule):Int:=if ruleF t r≠0 then ruleF t r else if tA r=false then 8 else 0
theorem PQ (r:Rule)(e:r.b3):Pua 140 [r.d] (.bool (tA r)):=by
 obtain ⟨c,b,a⟩:=e;refine Tz.p0 func140 rfl λQ f Y=>?_;exact wo (h:=f _ _ (by simp [go_sem,tA,mW]))
theorem SM (t:Types)(l:t.ok)(r:Rule)(m:r.ok)(a:r.b3):Pua 78 [t.d,r.d] (dI (Hf t r)):=by
 have i:=IA t l r m;have j:=PQ r a;obtain ⟨B,g⟩:=c7 (tA r);obtain ⟨E,f⟩:=c7 (ruleF t r);rw [<- g] at j;rw [<- f] at i;have k:Hf t r=if E≠0 then E else if B=false then 8 else 0:=by rw [f,g];rfl
 rw [k];refine Tz.p0 func78 rfl λQ b Y=>?_;refine wv (h:=aB (i) wl ?_);refine dR (λe=>?_) λe=>?_
 .have h2':¬ E=0:=by simpa using e
  exact wv (h:=b _ _ (by simp [go_sem,h2',dI]))
 .have h2':E=0:=by simpa using e
  refine wp (h:=aB (j) wl ?_);refine iY (λc=>?_) λc=>?_
  .have h4':B=false:=by simpa using c
   exact wv (h:=b _ _ (by simp [go_sem,h2',h4',dI]))
  .have h4':B=true:=by simpa using c
   exact wv (h:=b _ _ (by simp [go_sem,h2',h4',dI]))
theorem P8 (t:Types)(l:t.ok)(r:Rule)(m:r.ok)(a:r.b3):Pua 29 [t.d,r.d] (dI (Hf t r)):=by
 have i:=AL t l r m;have j:=Lm r a;obtain ⟨B,g⟩:=c7 (tA r);obtain ⟨E,f⟩:=c7 (ruleF t r);rw [<- g] at j;rw [<- f] at i;have k:Hf t r=if E≠0 then E else if B=false then 8 else 0:=by rw [f,g];rfl
 rw [k];refine Tz.p0 func29 rfl λQ b Y=>?_;refine wv (h:=aB (i) wl ?_);refine dR (λe=>?_) λe=>?_
 .have h2':¬ E=0:=by simpa using e
  exact wv (h:=b _ _ (by simp [go_sem,h2',dI]))
 .have h2':E=0:=by simpa using e
  refine wp (h:=aB (j) wl ?_);refine iY (λc=>?_) λc=>?_
  .have h4':B=false:=by simpa using c
   exact wv (h:=b _ _ (by simp [go_sem,h2',h4',dI]))
  .have h4':B=true:=by simpa using c
   exact wv (h:=b _ _ (by simp [go_sem,h2',h4',dI]))
theorem Gb (g:Graph)(b:g.h.length<=100000)(e:g.i.length<=100000):Pua 146 [g.d] g.d:=by
 refine Mu gt (λQ a=>ACalls.c5 2 (Tz.cK ⟨λt=>t==2||t==5||t==8,λr=>match r with|1=>[(2,3),(2,4)]|_=>[]⟩ func146 rfl ?_));have Y:=trivial;refine wv (h:=?_);refine nB 0 (gL g.h aD) gt rfl (by first|omega|simp [go_sem]) (by simp [lY,oG,Aj,vG]) ij ?_;refine wv (h:=?_);refine nB 1 (zP g.i aD) gt rfl (by first|omega|simp [go_sem]) (by simp [lY,oG,Aj,vG]) ij ?_;exact wv (h:=a _ _ (by simp [go_sem,Graph.d,Graph.c]))
theorem SL (r:Rule)(g:r.left.j.h.length<=1000/\r.left.j.i.length<=1000)(f:r.right.j.h.length<=1000/\r.right.j.i.length<=1000)(e:r.q.h.length<=1000/\r.q.i.length<=1000)(b:r.s.h.length<=1000/\r.s.i.length<=1000):Pua 81 [r.d] (plain24 r).d:=by
 refine Mu gt (λQ a=>ACalls.c5 4 (Tz.cK ⟨λt=>t==2||t==18||t==22||t==27||t==31,λr=>match r with|1=>[(0,5),(1,5),(5,7),(5,8),(5,9),(0,10),(1,10),(5,12),(10,12),(5,13),(10,13),(5,14),(10,14),(0,15),(1,15),(5,16),(10,16),(15,16),(5,17),(10,17),(15,17),(5,18),(10,18),(15,18),(0,19),(1,19),(5,21),(10,21),(15,21),(19,21),(5,22),(10,22),(15,22),(19,22),(5,23),(10,23),(15,23),(19,23),(0,24),(1,24),(5,25),(10,25),(15,25),(19,25),(24,25),(5,26),(10,26),(15,26),(19,26),(24,26),(5,27),(10,27),(15,27),(19,27),(24,27),(0,28),(1,28),(5,30),(10,30),(15,30),(19,30),(24,30),(28,30),(5,31),(10,31),(15,31),(19,31),(24,31),(28,31)]|_=>[]⟩ func81 rfl ?_));have Y:=trivial;refine wv (h:=aH (Gb r.left.j aD aD) wl ?_);refine wv (h:=aH (Gb r.right.j aD aD) wl ?_);refine wv (h:=?_);refine nB 0 (gL r.q.h aD) gt rfl (by first|omega|simp [go_sem]) (by simp [lY,oG,Aj,vG]) ij ?_;refine wv (h:=?_);refine nB 1 (gL r.q.i aD) gt rfl (by first|omega|simp [go_sem]) (by simp [lY,oG,Aj,vG]) ij ?_;refine wv (h:=?_);refine nB 2 (gL r.s.h aD) gt rfl (by first|omega|simp [go_sem]) (by simp [lY,oG,Aj,vG]) ij ?_;refine wv (h:=?_);refine nB 3 (gL r.s.i aD) gt rfl (by first|omega|simp [go_sem]) (by simp [lY,oG,Aj,vG]) ij ?_;exact wv (h:=a _ _ (by simp [go_sem,plain24,trueC,Rule.d,Rule.c,Cond.D,Cond.u,Cond.map,Cond.o]))
theorem Ga (keep a:V2)(n:Nat)(C:a.Nodup)(B:∀ x∈a,0<=x/\x<n)(I:a.length=keep.length)(w:a.length<=1000000):Pua 82 [dLI keep,dLI a] (.tup [dLI (fH a n),dLI (dA (fH a n) a keep)]):=by
 have m:=kM a;have u:=Il C B;obtain ⟨b,j⟩:=c7 (fH a n);rw [<- j] at u;have p:∀ x∈b,x∈a:=λx A=>(fF.1 (j ▸ A)).2;have k:b.length=a.length:=by rw [<- u];exact m
 rw [<- j];refine Tz.pK ⟨λt=>t==6||t==7,λ_=>[]⟩ func82 rfl (λQ E=>?_);have Y:=trivial;refine wv (h:=kU (gL a w) wl ?_);refine wv (h:=?_);unfold fT;refine AC (ty:=3) (xs:=a) eq w ?_;rw [u];refine wp (h:=bA (λi e H=>(e 0=dLI keep/\e 1=dLI a/\e 6=.own 0 a.length/\e 14=.own 0 a.length/\e 15=dI a.length/\e 7=.own 1 i/\e 16=dI i)/\(H.get 0=some ⟨3,1,b.map cI,false⟩)/\(0<H.next)/\(H.get 1=some ⟨3,1,(dA (b.take i) a keep).map cI,false⟩)/\(1<H.next)/\(i<=b.length)) (λi=>b.length - i) 0 ⟨wg,wn,wn,(by simp [go_sem,dA]),wn,wi⟩ λJ v i e H r=>?_);obtain ⟨z,g,f,c,d,D⟩:=r;have Y:=xa4 Y z g (bS f) c (bS d);refine dR (λy=>?_) λy=>?_
 .have hiy:i<b.length:=aD;obtain ⟨G,F,_⟩:=CP ((mem_iff _ _).2 (p _ (aC hiy)));have o:(idx a b[i]).toNat<keep.length:=aD;have s:dA (b.take (i+1)) a keep=dA (b.take i) a keep++[keep[(idx a b[i]).toNat]]:=by unfold dA;rw [List.take_succ_eq_append_getElem hiy,List.map_append];simp [iA,aA o]
  have l:(dA (b.take i) a keep).length=i:=by simp [dA];omega
  have Y:=xa4 Y y (aA hiy) (aA o) l k;refine wp (h:=aB (uE a b[i]) wl ?_);exact wp (h:=wx v (i+1) ⟨wg,wn,wn,(by simp [go_sem,Y,s,cI]),wn,wj⟩)
 .rw [aG aD] at c;have q:i=b.length:=aD;have l:(dA b a keep).length=b.length:=by simp [dA]
  have Y:=xa4 z g (bS f) c (bS d) k;exact wv (h:=E _ _ (by simp [go_sem,Y,q,l,k,dLI]))
theorem Vn (l a keep:V2):(dA l a keep).length=l.length:=by simp [dA]
theorem Su (l a keep:V2){i:Nat}(h:i<l.length):dA (l.take (i+1)) a keep=dA (l.take i) a keep++[iA keep (idx a l[i])]:=by unfold dA;rw [List.take_succ_eq_append_getElem h,List.map_append];rfl
theorem IM (keep a l:V2)(O:a.Nodup)(A:∀ x∈l,x∈a)(Z:a.length=keep.length)(X:l.length<=1000):Pua 35 [dLI keep,dLI a,dLI l] (dLI (dA l a keep)):=by
 refine Tz.pK ⟨λt=>t==7,λ_=>[]⟩ func35 rfl (λQ T=>?_);have Y:=trivial;refine wv (h:=bA (λi e H=>∃ c:V2,(e 0=dLI keep/\e 1=dLI a/\e 2=dLI l/\e 7=.own 0 c.length/\e 8=dI i)/\(H.get 0=some ⟨3,1,c.map cI,false⟩)/\(0<H.next)/\(i<=l.length)/\(c.length=i)/\(c=dA (l.take i) a keep)) (λi=>l.length - i) 0 ⟨([]),wg,wn,wn,wi,(by rfl),(by simp [dA])⟩ λI0 D i e H C=>?_);obtain ⟨c,V,s,n,hi,M,J⟩:=C;have Y:=xa2 Y V s (bS n);refine wv (h:=?_);repeat first|intro _|refine ⟨fK,?_⟩
 refine wq (λq=>?_) λq=>?_
 .have hm:=A _ (aC q);obtain ⟨W,I,u⟩:=CP ((mem_iff _ _).2 hm);have z:(idx a l[i]).toNat<keep.length:=aD;have S:=Su l a keep q;have N:=Ya z;have Y:=xa1 Y q (aA q);refine wv (h:=bA (λk e H=>∃ f:V2,(e 0=dLI keep/\e 1=dLI a/\e 2=dLI l/\e 7=.own 0 f.length/\e 8=dI i/\e 9=dI k)/\(H.get 0=some ⟨3,1,f.map cI,false⟩)/\(0<H.next)/\(k<=a.length)/\(f=if (idx a l[i]).toNat<k then c++[keep[(idx a l[i]).toNat]] else c)/\(f.length<=i+1)) (λk=>a.length - k) 0 ⟨c,wg,cl,wn,wi,(by simp),aD⟩ λI2 p k e H B=>?_);obtain ⟨f,U,r,m,P,y,L⟩:=B;have Y:=xa2 Y U r (bS m);refine wv (h:=?_);repeat first|intro _|refine ⟨fK,?_⟩
  refine wq (λF=>?_) λF=>?_
  .have hkk:k<keep.length:=aD;have Y:=xa2 Y F (aA F) (aA hkk);refine wv (h:=?_);repeat first|intro _|refine ⟨fK,?_⟩
   refine wq (λE=>?_) λE=>?_
   .have hkp:(idx a l[i]).toNat=k:=by
     rw [aA I] at u;have v:=Option.some.inj u;exact (i6 O).1 (v.trans E.symm)
    have w:f=c:=by rw [y,if_neg aD]
    obtain ⟨j,b⟩:∃ x,x=f++[keep[k]]:=⟨_,rfl⟩;have d:j=if (idx a l[i]).toNat<k+1 then c++[keep[(idx a l[i]).toNat]] else c:=by rw [if_pos aD,b,w];simp [hkp]
    have Y:=wa Y b;exact wp (h:=wx p (k+1) ⟨j,wg,cl,wn,wj,(by exact d),(by rw [d];split<;>(try simp)<;>omega)⟩)
   .have hkp:(idx a l[i]).toNat≠k:=λR=>E (by
     rw [aA I] at u;have v:=Option.some.inj u;simp only [R] at v;exact v)
    obtain ⟨j,b⟩:∃ x,x=f:=⟨_,rfl⟩;have d:j=if (idx a l[i]).toNat<k+1 then c++[keep[(idx a l[i]).toNat]] else c:=by
     rw [b,y];by_cases K:(idx a l[i]).toNat<k
     .rw [if_pos K,if_pos aD]
     .rw [if_neg K,if_neg aD]
    have Y:=wa Y b;exact wp (h:=wx p (k+1) ⟨j,wg,cl,wn,wj,(by exact d),(by rw [d];split<;>(try simp)<;>omega)⟩)
  .obtain ⟨G,g⟩:∃ x,x=f:=⟨_,rfl⟩;have o:G=dA (l.take (i+1)) a keep:=by rw [g,y,if_pos aD,S,N,<- J]
   have Y:=wa Y g;exact wp (h:=wx D (i+1) ⟨G,wg,wn,wn,wj,(by rw [o,Vn,cX];omega),(by exact o)⟩)
 .have hE:dA l a keep=c:=by rw [J,aG aD]
  exact wv (h:=T _ _ (iv hE))
def Tp (t:Types)(r:Rule):Rule:=if tD t r=0 then kT r else jF
theorem Rg (t:Types)(r:Rule):tD t r=if Hf t r≠0 then Hf t r else if pX t r.left.j r.bj r.bl=false then 13 else 0:=by
 unfold tD Hf Rule.bj Rule.bl;by_cases a:ruleF t r=0
 .by_cases h2:tA r=false
  .simp [a,h2]
  .simp [a,h2]
 .simp [a]
theorem Yi {t:Types}{r:Rule}(h:Hf t r=0):ruleF t r=0:=by
 unfold Hf at h;split at h
 .exact absurd h ic
 .rename_i q;omega
theorem agE {t:Types}{r:Rule}(c:r.ok)(h:Hf t r=0):RuleV t r/\((r.left.j.h.length<=40/\r.left.j.i.length<=80)/\r.right.j.h.length<=40/\r.right.j.i.length<=80)/\((r.q.h.length<=1000/\r.q.i.length<=1000)/\r.s.h.length<=1000/\r.s.i.length<=1000) /\
  ((∀ i∈r.bj,0<=i/\i<r.left.j.h.length)/\∀ k∈r.bl,0<=k/\k<r.left.j.i.length):=by
 have R:=IB c (Yi h);have l:=bK R.pl.gg;have j:=bK R.gr;have s:=nQ R.sub;have b:=U8 s.2.1 s.2.2.1 aD;have a:=U8 (uO R.sub) s.2.2.2 aD;obtain ⟨g,f⟩:=R.q.1;exact ⟨R,⟨⟨aD,aD⟩,aD,aD⟩,⟨⟨b,a⟩,aD,aD⟩,λi e=>(dQ.1 e).1,λk d=>(dQ.1 d).1⟩
theorem N0 (t:Types)(H:t.ok)(r:Rule)(I:r.ok)(u:r.b3):Pua 37 [t.d,r.d] (.tup [(Tp t r).d,dI (tD t r)]):=by
 have K:=SM t H r I u;obtain ⟨G,s⟩:∃ x,x=Hf t r:=⟨_,rfl⟩;obtain ⟨a,w⟩:∃ x,x=r.bj:=⟨_,rfl⟩;obtain ⟨b,v⟩:∃ x,x=r.bl:=⟨_,rfl⟩;obtain ⟨D,g⟩:∃ x,x=pX t r.left.j r.bj r.bl:=⟨_,rfl⟩;obtain ⟨Z,q⟩:∃ x,x=tD t r:=⟨_,rfl⟩;have f:Z=if G≠0 then G else if D=false then 13 else 0:=by rw [q,Rg,s,g]
 have e:G=0->_:=λh=>agE (t:=t) I (by rw [<- s];exact h);have T:G=0->Pua 79 [r.d] (.tup [dLI a,dLI b]):=λh=>by
  obtain ⟨_,⟨⟨M,L⟩,_⟩,_⟩:=e h;rw [w,v];exact NY r aD aD
 have S:G=0->Pua 80 [t.d,r.left.j.d,dLI a,dLI b] (.bool D):=λh=>by
  obtain ⟨R,_,_,O,N⟩:=e h;rw [w,v,g];exact Dv t H _ R.pl.gg R.pl.ty _ _ O N
 have P:G=0->Pua 81 [r.d] (plain24 r).d:=λh=>by
  obtain ⟨_,⟨⟨M,L⟩,V,U⟩,⟨k,p,o⟩,_⟩:=e h;exact SL r ⟨aD,aD⟩ ⟨aD,aD⟩ k ⟨p,o⟩
 obtain ⟨F,j⟩:∃ x,x=(gX r).h:=⟨_,rfl⟩;obtain ⟨E,i⟩:∃ x,x=(gX r).i:=⟨_,rfl⟩;obtain ⟨p,m⟩:∃ x,x=(iZ r).h:=⟨_,rfl⟩;obtain ⟨o,l⟩:∃ x,x=(iZ r).i:=⟨_,rfl⟩;have C:G=0->Pua 82 [dLI r.q.h,dLI r.s.h] (.tup [dLI F,dLI p]):=λh=>by
  obtain ⟨R,_,⟨_,X,_⟩,_⟩:=e h;rw [j,m];exact Ga _ _ _ R.ak.cw R.ak.ir R.q.1.1.symm aD
 have B:G=0->Pua 82 [dLI r.q.i,dLI r.s.i] (.tup [dLI E,dLI o]):=λh=>by
  obtain ⟨R,_,⟨_,_,W⟩,_⟩:=e h;rw [i,l];exact Ga _ _ _ R.ba.cw R.ba.ir R.q.1.2.symm aD
 have J:Tp t r=if Z=0 then ⟨r.name,⟨r.right.j,[],0,[]⟩,⟨r.left.j,[],0,[]⟩,⟨F,E⟩,⟨p,o⟩,r.inj,trueC⟩ else jF:=by rw [q,j,i,m,l];rfl
 rw [<- s] at K;rw [J,<- q];clear J q j i m l e w v g s;refine Tz.pK ⟨λt=>t==4||t==9,λ_=>[]⟩ func37 rfl (λQ y=>?_);have Y:=xa6 @plain24.eq_1 @trueC.eq_1 @Rule.d.eq_1 @Rule.c.eq_1 @Cond.D.eq_1 @Cond.u.eq_1 @Cond.map.eq_1 @Cond.o.eq_1;refine j4 (h:=aB (K) wl ?_);refine j4 (h:=wq (λA=>?_) λA=>?_)
 .have hne:¬ G=0:=by simpa using A
  have n:Z=G:=by rw [f,if_pos hne]
  exact j4 (h:=y _ _ (by simp [go_sem,n,hne,jF,o8,Rule.d,Rule.c,Cond.D,Cond.u,Cond.map,Cond.o,dLI,dI]))
 .have hg0:G=0:=by simpa using A
  rw [if_neg (bY hg0)] at f;refine j4 (h:=aB (T hg0) wl ?_);refine rL (h:=aB (S hg0) wl ?_);refine rL (h:=wq (λz=>?_) λz=>?_)
  .have n:Z=13:=by rw [f,if_pos (bY z)]
   exact j4 (h:=y _ _ (by simp [go_sem,n,jF,o8,Rule.d,Rule.c,Cond.D,Cond.u,Cond.map,Cond.o,dLI,dI]))
  .have n:Z=0:=by rw [f,if_neg (bY z)]
   refine j4 (h:=aB (P hg0) wl ?_);refine j4 (h:=aB (C hg0) wl ?_);refine j4 (h:=aB (B hg0) wl ?_);exact j4 (h:=y _ _ (by simp [go_sem,n,trueC,Rule.d,Rule.c,Cond.D,Cond.u,Cond.map,Cond.o,dLI,dI]))
theorem DQ (l:V2)(n:Nat):bH (bH l n) n=fH l n:=EG (lR _ _) (qZ _ _) λx=>by
 rw [dQ,fF,dQ];constructor
 .rintro ⟨h1,h2⟩;exact ⟨h1,aY λh=>h2 ⟨h1,h⟩⟩
 .rintro ⟨h1,h2⟩;exact ⟨h1,λh=>h.2 h2⟩
theorem Ln (t:Types)(S:t.ok)(r:Rule)(T:r.ok)(C:r.b3):Pua 7 [t.d,r.d] (.tup [(Tp t r).d,dI (tD t r)]):=by
 have V:=P8 t S r T C;obtain ⟨G,A⟩:∃ x,x=Hf t r:=⟨_,rfl⟩;obtain ⟨a,E⟩:∃ x,x=r.bj:=⟨_,rfl⟩;obtain ⟨b,D⟩:∃ x,x=r.bl:=⟨_,rfl⟩;obtain ⟨O,o⟩:∃ x,x=r.N:=⟨_,rfl⟩;obtain ⟨N,n⟩:∃ x,x=r.ad:=⟨_,rfl⟩;obtain ⟨P,j⟩:∃ x,x=pX t r.left.j r.bj r.bl:=⟨_,rfl⟩;obtain ⟨Z,z⟩:∃ x,x=tD t r:=⟨_,rfl⟩;have i:Z=if G≠0 then G else if P=false then 13 else 0:=by rw [z,Rg,A,j]
 have e:G=0->_:=λh=>agE (t:=t) T (by rw [<- A];exact h);have cD:G=0->Pua 30 [r.d] (.tup [dLI a,dLI b]):=λh=>by
  obtain ⟨_,⟨⟨q,p⟩,_⟩,_⟩:=e h;rw [E,D];exact Cj r aD aD
 have cC:G=0->Pua 33 [r.d] (.tup [dLI O,dLI N]):=λh=>by
  obtain ⟨_,⟨_,q,p⟩,_⟩:=e h;rw [o,n];exact Ck r aD aD
 have cM:G=0->Pua 31 [t.d,r.left.j.d,dLI a,dLI b] (.bool P):=λh=>by
  obtain ⟨R,_,_,X,W⟩:=e h;rw [E,D,j];exact DE t S _ R.pl.gg R.pl.ty _ _ X W
 have cP:G=0->Pua 32 [r.d] (plain24 r).d:=λh=>by
  obtain ⟨_,⟨⟨q,p⟩,q3,q4⟩,⟨k,y,w⟩,_⟩:=e h;exact Gh r ⟨aD,aD⟩ ⟨aD,aD⟩ k ⟨y,w⟩
 obtain ⟨v,g⟩:∃ x,x=(gX r).h:=⟨_,rfl⟩;obtain ⟨u,f⟩:∃ x,x=(gX r).i:=⟨_,rfl⟩;obtain ⟨y,m⟩:∃ x,x=(iZ r).h:=⟨_,rfl⟩;obtain ⟨w,l⟩:∃ x,x=(iZ r).i:=⟨_,rfl⟩;have K:G=0->Pua 34 [dI r.right.j.h.length,dLI O] (dLI v):=λh=>by
  obtain ⟨_,⟨_,q,p⟩,_⟩:=e h;have:=rR O r.right.j.h.length aD;rw [o] at this ⊢;rw [show bH r.N r.right.j.h.length=v by rw [g];exact DQ _ _] at this;exact this
 have J:G=0->Pua 34 [dI r.right.j.i.length,dLI N] (dLI u):=λh=>by
  obtain ⟨_,⟨_,q,p⟩,_⟩:=e h;have:=rR N r.right.j.i.length aD;rw [n] at this ⊢;rw [show bH r.ad r.right.j.i.length=u by rw [f];exact DQ _ _] at this;exact this
 have M:G=0->Pua 35 [dLI r.q.h,dLI r.s.h,dLI v] (dLI y):=λh=>by
  obtain ⟨R,⟨_,q,p⟩,_⟩:=e h;rw [g,m];exact IM _ _ _ R.ak.cw (λx B=>(fF.1 B).2) R.q.1.1.symm (by have:=BD r.s.h r.right.j.h.length;show (fH r.s.h r.right.j.h.length).length<=1000;omega)
 have L:G=0->Pua 35 [dLI r.q.i,dLI r.s.i,dLI u] (dLI w):=λh=>by
  obtain ⟨R,⟨_,q,p⟩,_⟩:=e h;rw [f,l];exact IM _ _ _ R.ba.cw (λx B=>(fF.1 B).2) R.q.1.2.symm (by have:=BD r.s.i r.right.j.i.length;show (fH r.s.i r.right.j.i.length).length<=1000;omega)
 have U:Tp t r=if Z=0 then ⟨r.name,⟨r.right.j,[],0,[]⟩,⟨r.left.j,[],0,[]⟩,⟨v,u⟩,⟨y,w⟩,r.inj,trueC⟩ else jF:=by rw [z,g,f,m,l];rfl
 rw [<- A] at V;rw [U,<- z];clear U z g f m l e E D j A o n;refine Tz.pK ⟨λt=>t==4||t==9,λ_=>[]⟩ func7 rfl (λQ F=>?_);have Y:=xa6 @plain24.eq_1 @trueC.eq_1 @Rule.d.eq_1 @Rule.c.eq_1 @Cond.D.eq_1 @Cond.u.eq_1 @Cond.map.eq_1 @Cond.o.eq_1;refine j4 (h:=aB (V) wl ?_);refine j4 (h:=wq (λI=>?_) λI=>?_)
 .have hne:¬ G=0:=by simpa using I
  have s:Z=G:=by rw [i,if_pos hne]
  exact j4 (h:=F _ _ (by simp [go_sem,s,hne,jF,o8,Rule.d,Rule.c,Cond.D,Cond.u,Cond.map,Cond.o,dLI,dI]))
 .have hg0:G=0:=by simpa using I
  rw [if_neg (bY hg0)] at i;refine j4 (h:=aB (cD hg0) wl ?_);refine rL (h:=aB (cM hg0) wl ?_);refine rL (h:=wq (λH=>?_) λH=>?_)
  .have s:Z=13:=by rw [i,if_pos (bY H)]
   exact j4 (h:=F _ _ (by simp [go_sem,s,jF,o8,Rule.d,Rule.c,Cond.D,Cond.u,Cond.map,Cond.o,dLI,dI]))
  .have s:Z=0:=by rw [i,if_neg (bY H)]
   refine j4 (h:=aB (cP hg0) wl ?_);refine j4 (h:=aB (cC hg0) wl ?_);refine rL (h:=aH (K hg0) wl ?_);refine rL (h:=aH (J hg0) wl ?_);refine rL (h:=aH (M hg0) wl ?_);refine rL (h:=aH (L hg0) wl ?_);exact rL (h:=F _ _ (by simp [go_sem,s,trueC,Rule.d,Rule.c,Cond.D,Cond.u,Cond.map,Cond.o,dLI,dI]))
theorem Xt {v:V2}{al:List Attr}(hl:v.length=al.length)(h:∀ i (p1:i<v.length) (p2:i<al.length),v[i]=al[i].ao):v=al.map λa=>a.ao:=fD (bY hl) λi p1 p2=>by
 rw [iG];exact h i p1 aD
theorem abJ {v:V2}{al:List Attr}{i:Nat}(p1:i<v.length)(p2:i<al.length)(h:¬ v[i]=al[i].ao):¬ v=al.map λa=>a.ao:=λe=>h (by
 subst e;rw [iG])
theorem Lj (t:Types)(N:t.ok)(h:Host)(s:HostOk t h)(n k:Int)(F:0<=n/\n<h.j.h.length) :
  Pua 87 [t.d,h.d,dI n,dI k] (.bool (decide (gN h.j n=k)&&decide (h.k[n.toNat]?.getD []=iP t k))):=by
 have M:=s.vl;have E:n.toNat<h.j.h.length:=aD;have D:n.toNat<h.k.length:=aD;have K:gN h.j n=h.j.h[n.toNat]:=by unfold gN;rw [aA E];rfl
 have J:h.k[n.toNat]?.getD []=h.k[n.toNat]:=by rw [aA D];rfl
 have f:=s.di F.1 F.2;have y:=pV s.vf k;rw [K,J];rw [K,J] at f;have L:=n3 t N k;obtain ⟨b,g⟩:∃ x,x=bL t k:=⟨_,rfl⟩;obtain ⟨v,r⟩:∃ x,x=h.k[n.toNat]:=⟨_,rfl⟩;have u:iP t k=b.map λa=>a.ao:=by rw [g];rfl
 rw [<- g] at L y;have q:h.j.h[n.toNat]=k->v.length=b.length:=λe=>by rw [r,f,e,g]
 rw [u,<- r];refine Tz.pK ⟨λt=>t==12,λ_=>[]⟩ func87 rfl (λQ z=>?_);have Y:=xa2 @Host.d.eq_1 @Host.c.eq_1 (aA E) (aA D);refine iY (λC=>?_) λC=>?_
 .have hne:¬ h.j.h[n.toNat]=k:=by simpa using C
  exact wv (h:=z _ _ (iq hne))
 .have hk:h.j.h[n.toNat]=k:=by simpa using C
  have o:=q hk;refine wv (h:=aB (L) wl ?_);refine wp (h:=bA (λj e H=>(e 2=dI n/\e 5=.adr h.c/\e 27=.list (b.map Attr.c)/\e 28=dI b.length/\e 29=dI j)/\(j<=b.length)/\(∀ i (m:i<v.length) (l:i<b.length),i<j->v[i]=b[i].ao)) (λj=>b.length - j) 0 ⟨wg,wi,(by exact λi _ _ G=>absurd G aD)⟩ λR A j e H w=>?_);obtain ⟨O,P,I⟩:=w;have Y:=wa Y O;refine dR (λp=>?_) λp=>?_
  .have hjv:j<v.length:=aD;have Y:=xa3 Y p (aA p) (Eq.symm r) (aA hjv);refine iY (λB=>?_) λB=>?_
   .have hx:=abJ hjv p (bY B);exact wv (h:=z _ _ (iu hk hx))
   .have he2:∀ i (m:i<v.length) (l:i<b.length),i<j+1->v[i]=b[i].ao:=λi m l G=>by
     rcases bX i j with hc|hc
     .exact I i m l hc
     .have e:i=j:=aD;subst e;simpa using B
    exact wp (h:=wx A (j+1) ⟨wg,wj,(by exact he2)⟩)
  .have hE:=Xt o (λi m l=>I i m l aD);exact wv (h:=z _ _ (by simp [go_sem,hk,<- hE]))
theorem Wl {t:Types}{r:Rule}{h:Host}{m:Part}:tC t r h m=(List.range r.right.j.h.length).all λ(i:Nat)=>mem r.s.h i||A1 t r h m i:=by
 unfold tC;rw [aU,cF,cF];constructor
 .intro hh i hi;rw [c8];by_cases a:mem r.s.h (i:Int)=true
  .exact .inl a
  .exact .inr (hh _ (dQ.2 ⟨⟨aD,by have:=aV.1 hi;omega⟩,λc=>a ((mem_iff _ _).2 c)⟩))
 .intro hh x hx;obtain ⟨⟨e,d⟩,b⟩:=dQ.1 hx;have:=hh x.toNat (aV.2 aD);rw [c8,show ((x.toNat:Nat):Int)=x by omega] at this;rcases this with h1|h1
  .exact absurd ((mem_iff _ _).1 h1) b
  .exact h1
theorem G6 (t:Types)(y:t.ok)(r:Rule)(h:Host)(A:HostOk t h)(a es:V2)(B:a.length=r.right.j.h.length)(z:∀ x∈a,0<=x/\x<h.j.h.length)(F:a.length<=1000)(C:r.s.h.length<=1000000) :
  Pua 39 [t.d,r.d,h.d,dLI a] (.bool (tC t r h ⟨a,es⟩)):=by
 have s:∀ i (b:i<a.length),Pua 87 [t.d,h.d,dI a[i],dI (gN r.right.j i)] (.bool (A1 t r h ⟨a,es⟩ i)):=λi b=>by
  have:=Lj t y h A a[i] (gN r.right.j i) (z _ (aC b));unfold A1;rw [show iA (⟨a,es⟩:Part).h (i:Int)=a[i] from iK b];exact this
 rw [Wl,<- B];obtain ⟨f,m⟩:=c7 (λi=>A1 t r h ⟨a,es⟩ i);have g:(λ(i:Nat)=>mem r.s.h i||A1 t r h ⟨a,es⟩ i)=λ(i:Nat)=>mem r.s.h i||f i:=by rw [m]
 have s:∀ i (b:i<a.length),Pua 87 [t.d,h.d,dI a[i],dI (gN r.right.j i)] (.bool (f i)):=λi b=>by rw [m];exact s i b
 rw [g];clear g m;refine Tz.p0 func39 rfl λQ v Y=>?_;refine wp (h:=bA (λi e H=>(e 4=.adr t.c/\e 5=.adr r.c/\e 6=.adr h.c/\e 11=dLI a/\e 12=dI a.length/\e 13=dI i)/\(i<=a.length)/\((List.range i).all (λ(i:Nat)=>mem r.s.h i||f i)=true)) (λi=>a.length - i) 0 ⟨wg,wi,(by rfl)⟩ λG p i e H k=>?_);obtain ⟨E,b,o⟩:=k;have Y:=wa Y E;refine dR (λj=>?_) λj=>?_
 .have hir:i<r.right.j.h.length:=aD;have l:gN r.right.j i=r.right.j.h[i]:=aaR hir;have Y:=xa2 Y j (aA j) (aA hir);refine wp (h:=aH (gF r.s.h i) wl ?_);refine wp (h:=dM (λD=>(by have u:=s i j;rw [l] at u;exact u)) (λD=>wl) ?_);refine iY (λq=>?_) λq=>?_
  .have hb:(mem r.s.h i||f i)=false:=by
    revert q;cases mem r.s.h i<;>cases f i<;>simp
   have w:(List.range a.length).all (λ(i:Nat)=>mem r.s.h i||f i)=false:=by
    rw [Ap];exact ⟨i,aV.2 j,by rw [hb];simp⟩
   exact wv (h:=v _ _ (iq w))
  .have hb:(mem r.s.h i||f i)=true:=by
    revert q;cases mem r.s.h i<;>cases f i<;>simp
   have n:(List.range (i+1)).all (λ(i:Nat)=>mem r.s.h i||f i)=true:=by rw [bR,sK,o];simpa using hb
   exact wp (h:=wx p (i+1) ⟨wg,wj,(by exact n)⟩)
 .have hI:i=a.length:=aD;rw [hI] at o;exact wv (h:=v _ _ (iq o))
def delN (t:Types)(r:Rule):V2:=if ruleF t r=0 then r.bj else []
def delE (t:Types)(r:Rule):V2:=if ruleF t r=0 then r.bl else []
theorem Xr {t:Types}{r:Rule}(h:ruleF t r=0):(dG t).2=0/\(graphF r.left.j=0/\fZ t r.left.j=true)/\(graphF r.right.j=0/\fZ t r.right.j=true):=by
 unfold ruleF at h;split at h
 .rename_i h1;exact absurd h h1
 .rename_i h1;split at h
  .cases h
  .split at h
   .rename_i h2;exact absurd h h2
   .rename_i h2;split at h
    .rename_i h3;exact absurd h h3
    .rename_i h3;refine ⟨aD,?_,Bv aD⟩;have a:c9 t r.left=0:=aD;unfold c9 at a;rw [if_neg h1] at a;split at a
     .rename_i h4;exact absurd a h4
     .rename_i h4;split at a
      .cases a
      .rename_i h5;exact ⟨aD,by simpa using h5⟩
theorem Lo (t:Types)(c:t.ok)(r:Rule)(e:r.ok):Pua 14 [t.d,r.d] (.tup [dLI (delN t r),dLI (delE t r),dI (ruleF t r)]):=by
 refine Tz.p0 func14 rfl λQ b Y=>?_;refine wv (h:=aB (AL t c r e) wl ?_);refine dR (λa=>?_) λa=>?_
 .have Y:=xa2 Y a @delN.eq_1 @delE.eq_1;exact wv (h:=b _ _ wy)
 .have hg:=Xr a;have f:=bK hg.2.1.1;refine wv (h:=aB (Cj r aD aD) wl ?_);have Y:=xa2 Y a @delN.eq_1 @delE.eq_1;exact wv (h:=b _ _ wy)
structure BefOk (t:Types) (r q:Rule) (h:Host) (m:Mat):Prop where
 len:m.m.h.length=r.right.j.h.length
 b5:∀ x∈m.m.h,0<=x/\x<h.j.h.length
 cf:m.m.h.length<=1000
 il:r.s.h.length<=1000000
theorem Z1 {t:Types}{r:Rule}{h:Host}{m:Mat}(a:r.ok)(d:tD t r=0)(hm:m∈(mU t (kT r) h).1):BefOk t r (kT r) h m/\HostOk t h:=by
 obtain ⟨_,_,b,_⟩:=CO a d;have K:=kD b (R6 hm);have S:=K.S;have g:=bK S.hR.pl.gg;have c:m.m.h.length=r.right.j.h.length:=S.hm.len;exact ⟨⟨c,S.d6,by have:(kT r).left.j.h.length=r.right.j.h.length:=rfl;omega,a.i1⟩,S.ho⟩
theorem Z3 (t:Types)(r:Rule)(h:Host):Hp t r h=if (dG t).2≠0 then (dG t).2 else if tD t r≠0 then tD t r else (mU t (kT r) h).2:=by
 unfold Hp;by_cases a:(dG t).2=0
 .simp [a]
 .have e:ruleF t r=(dG t).2:=by unfold ruleF;rw [if_pos a]
  have:tD t r=(dG t).2:=by
   unfold tD;rw [if_pos (by rw [e];exact a),e]
  simp [this,a]
theorem Rt {α:Type}(p:α->Bool){l:List α}{i:Nat}(h:i<l.length):(l.take (i+1)).filter p=(l.take i).filter p++(if p l[i]=true then [l[i]] else []):=by
 rw [List.take_succ_eq_append_getElem h,fN];congr 1;by_cases a:p l[i]=true
 .simp [a]
 .simp [a]
theorem IH (t:Types)(ht:t.ok)(r:Rule)(hr:r.ok)(hth:r.b3)(h:Host):Pure prog 8 [t.d,r.d,h.d] (.tup [.list ((LO t r h).map Stp26.c),dI (Hp t r h)]):=by
 have cV:=Cd t ht
 have cI:=N0 t ht r hr hth
 obtain ⟨Z,hZ⟩:∃ x,x=Hp t r h:=⟨_,rfl⟩
 obtain ⟨E0,hE0⟩:∃ x,x=(dG t).2:=⟨_,rfl⟩
 obtain ⟨E,hE⟩:∃ x,x=tD t r:=⟨_,rfl⟩
 obtain ⟨A,hA⟩:∃ x,x=(mU t (kT r) h).2:=⟨_,rfl⟩
 obtain ⟨L,hL⟩:∃ x,x=(mU t (kT r) h).1:=⟨_,rfl⟩
 obtain ⟨q,hq⟩:∃ x,x=Tp t r:=⟨_,rfl⟩
 have hqr:E=0→q=kT r:=fun e=>by rw [hq];unfold Tp;rw [if_pos (by rw [← hE];exact e)]
 have hZ':Z=if E0≠0 then E0 else if E≠0 then E else A:=by rw [hZ,Z3,hE0,hE,hA]
 have hLl:L.length≤5000:=by rw [hL];exact Va _ _ _
 have cL:E=0→Pure prog 38 [t.d,q.d,h.d] (.tup [.list (L.map Mat.c),dI A]):=fun e=>by
  rw [hqr e,hL,hA];exact G0 t ht (kT r) (CO hr (by rw [← hE];exact e)).2.2.1 h
 obtain ⟨f,hf⟩:∃ f:Mat→Bool,f=fun m=>tC t r h m.m:=⟨_,rfl⟩
 have cC:E=0→∀ m∈L,Pure prog 39 [t.d,r.d,h.d,dLI m.m.h] (.bool (f m)):=fun e m hm=>by
  rw [hL] at hm
  obtain ⟨b,ho⟩:=Z1 hr (by rw [← hE];exact e) hm
  rw [hf];exact G6 t ht r h ho m.m.h m.m.i b.len b.b5 b.cf b.il
 have good:E=0→∀ m∈L,f m=true→_:=fun e m hm hl=>YC (t:=t) (r:=r) (h:=h) (m:=m) hr (by rw [← hE];exact e) (by rw [← hL];exact hm) (by rw [hf] at hl;exact hl)
 have cA1:E=0→∀ m∈L,f m=true→Pure prog 40 [t.d,q.d,h.d,m.d] (.tup [.agg (aP t (kT r) h m).c,dI 0]):=fun e m hm hl=>by
  obtain ⟨g1,g2,_⟩:=good e m hm hl
  rw [hqr e]
  exact tO t ht (kT r) (CO hr (by rw [← hE];exact e)).2.2.1 h m g2.symm g1.symm
 have cA2:E=0→∀ m∈L,f m=true→Pure prog 40 [t.d,r.d,(bP t (kT r) h m).d,.agg [dLI (cT (kT r) h m).h,dLI (cT (kT r) h m).i,.nil]] (.tup [.agg (B1 t r h m).c,dI 0]):=fun e m hm hl=>by
  obtain ⟨_,_,g3,g4,_⟩:=good e m hm hl
  have:=tO t ht r hr (R2 t r h m) (R1 r h m) g4.symm g3.symm
  exact this.gk (Z6 t r _ _ _)
 have hB:LO t r h=if Z=0 then (L.filter f).map (B1 t r h) else []:=by rw [hZ,hL,hf];rfl
 rw [← hE,← hq] at cI
 rw [← hE0] at cV
 rw [hB,← hZ]
 clear hB hZ hE0 hE hA hL hq hqr hf good
 simp only [Stp26.c,Rule.c,Mat.c,Host.c,dP,dS] at cA1 cA2
 unfold Rule.d Host.d at cA1 cA2
 simp only [Rule.c,Host.c] at cA1 cA2
 refine Tz.pK ⟨fun t=>t==9||t==12||t==14||t==15||t==17,fun _=>[]⟩ func8 rfl (fun Q hQ=>?_)
 have Y:=wa @Stp26.c.eq_1 (wa @Rule.c.eq_1 (wa @Mat.c.eq_1 (wa @Host.c.eq_1 (wa @Rule.d.eq_1 @Host.d.eq_1))))
 refine j4 (h:=aB (cV) wl ?_)
 refine j4 (h:=wq (fun h2=>?_) fun h2=>?_)
 ·have hne:¬ E0=0:=by simpa using h2
  have hz:Z=E0:=by rw [hZ',if_pos hne]
  exact j4 (h:=hQ _ _ (by simp [go_sem,hz,hne]))
 ·rw [if_neg (by simpa using h2)] at hZ'
  refine j4 (h:=aB (cI) wl ?_)
  refine j4 (h:=wq (fun h5=>?_) fun h5=>?_)
  ·have hne:¬ E=0:=by simpa using h5
   have hz:Z=E:=by rw [hZ',if_pos hne]
   exact j4 (h:=hQ _ _ (by simp [go_sem,hz,hne]))
  ·have hg0:E=0:=by simpa using h5
   rw [if_neg (by simpa using hg0)] at hZ'
   refine j4 (h:=aB (cL hg0) wl ?_)
   refine j4 (h:=wq (fun h8=>?_) fun h8=>?_)
   ·have hne:¬ A=0:=by simpa using h8
    exact j4 (h:=hQ _ _ (by simp [go_sem,hZ',hne]))
   ·have hz:Z=0:=by rw [hZ'];simpa using h8
    refine rL (h:=bA (fun i e H=>∃ xs:List Stp26,(e 3=.adr t.c∧e 4=.adr r.c∧e 5=.adr h.c∧e 9=.ptr 0 1 0 0∧e 12=.own 1 xs.length∧e 42=.list (L.map Mat.c)∧e 43=dI L.length∧e 44=dI i)∧(H.get 0=some ⟨41,25,[q.c],false⟩)∧(0<H.next)∧(H.get 1=some ⟨57,38,xs.map Stp26.c,false⟩)∧(1<H.next)∧(i≤L.length)∧(xs.length≤i)∧(xs=((L.take i).filter f).map (B1 t r h))) (fun i=>L.length - i) 0 ⟨([]),wg,wn,wn,wn,wn,wi,(by simp),(by rfl)⟩ fun I0 hI0 i e H hi0=>?_)
    obtain ⟨xs,E0,g0_0,n0_0,g1_0,n1_0,hi,hxl,hx⟩:=hi0
    have Y:=wa Y (wa E0 (wa g0_0 (wa (bS n0_0) (wa g1_0 (bS n1_0)))))
    refine j4 (h:=wq (fun h12=>?_) fun h12=>?_)
    ·obtain ⟨m,hm⟩:∃ m,m=L[i]:=⟨_,rfl⟩
     have hml:m∈L:=by rw [hm];exact aC h12
     have hS:=Rt f h12
     rw [← hm] at hS
     have Y:=wa Y (wa h12 (wa (aA h12) (Eq.symm hm)))
     refine rL (h:=aB (cC hg0 m hml) wl ?_)
     refine rL (h:=wq (fun h14=>?_) fun h14=>?_)
     ·have hfm:f m=false:=by simpa using h14
      obtain ⟨ys,hys'⟩:∃ x,x=xs:=⟨_,rfl⟩
      have hyl:ys.length≤i+1:=by rw [hys'];omega
      have hys:ys=((L.take (i+1)).filter f).map (B1 t r h):=by rw [hys',hS,if_neg (by rw [hfm];simp),dU];exact hx
      have Y:=wa Y hys'
      exact rL (h:=wx hI0 (i+1) ⟨ys,wg,wn,wn,wn,wn,wj,(by (exact hyl)),(by (exact hys))⟩)
     ·have hfm:f m=true:=by simpa using h14
      obtain ⟨ys,hys'⟩:∃ x,x=xs++[B1 t r h m]:=⟨_,rfl⟩
      have hyl:ys.length≤i+1:=by rw [hys'];simp;omega
      have hys:ys=((L.take (i+1)).filter f).map (B1 t r h):=by rw [hys',hS,if_pos hfm,List.map_append,← hx];rfl
      have Y:=wa Y (wa h14 hys')
      refine j4 (h:=aB (cA1 hg0 m hml hfm) wl ?_)
      refine j4 (h:=aB (cA2 hg0 m hml hfm) wl ?_)
      exact rL (h:=wx hI0 (i+1) ⟨ys,wg,wn,wn,wn,wn,wj,(by (exact hyl)),(by (exact hys))⟩)
    ·have hX:xs=(L.filter f).map (B1 t r h):=by rw [hx,aG (by omega)]
     exact j4 (h:=hQ _ _ (by simp [go_sem,Y,hz,← hX]))
def pU (g:Graph)(k:Int):Int:=(eA g k).type
def yA (g:Graph)(v:Int)(o:V2):Nat->Nat
 | 0=>0
 | k+1=>if v<pU g (iA o k) then yA g v o k else k+1
def OD (g:Graph)(o:V2)(i:Nat):V2:=o.take (yA g (pU g i) o o.length)++[(i:Int)]++o.drop (yA g (pU g i) o o.length)
def rD (g:Graph)(i j:Int):Nat->V2
 | 0=>[]
 | n+1=>if Ky i j (eA g n)=true then OD g (rD g i j n) n else rD g i j n
def Fr (g:Graph)(l:V2):V2:=(l.length:Int) :: l.map (pU g)
theorem OE (g:Graph)(v:Int)(o:V2):∀ k,yA g v o k<=k
 | 0=>bC _
 | k+1=>by
  have:=OE g v o k;simp only [yA];split<;>omega
theorem UC {g:Graph}{v:Int}{o:V2}:∀ {k j:Nat},yA g v o k<=j->j<k->v<pU g (iA o j)
 | 0,j,_,h=>absurd h (Nat.not_lt_zero _)
 | k+1,j,h1,h2=>by
  simp only [yA] at h1;split at h1
  .rename_i h;rcases bX j k with hc|hc
   .exact UC h1 hc
   .rw [(aD:j=k)];exact h
  .omega
theorem UB {g:Graph}{v:Int}{o:V2}:∀ {k:Nat},0<yA g v o k->pU g (iA o ((yA g v o k - 1:Nat):Int))<=v
 | 0,h=>absurd h (nT _)
 | k+1,h=>by
  simp only [yA] at h ⊢;split
  .rename_i hc;rw [if_pos hc] at h;exact UB h
  .rename_i hc;rw [(aD:k+1 - 1=k)];omega
theorem X4 (g:Graph)(o:V2)(i:Nat):(OD g o i).length=o.length+1:=by
 have:=OE g (pU g i) o o.length;unfold OD;simp;omega
theorem EB (g:Graph)(i j:Int):∀ n,(rD g i j n).length<=n
 | 0=>bC _
 | n+1=>by
  have:=EB g i j n;simp only [rD];split
  .rw [X4];omega
  .omega
theorem X3 {g:Graph}{o:V2}{i:Nat}{x:Int}:x∈OD g o i↔x=(i:Int)\/x∈o:=by
 unfold OD;rw [aZ,aZ,bD];constructor
 .rintro ((h|h)|h)
  .exact .inr (dD h)
  .exact .inl h
  .exact .inr (e9 h)
 .rintro (h|h)
  .exact .inl (.inr h)
  .rw [<- List.take_append_drop (yA g (pU g i) o o.length) o,aZ] at h;rcases h with h|h
   .exact .inl (.inl h)
   .exact .inr h
theorem Kx {g:Graph}{i j:Int}:∀ {n:Nat} {x:Int},x∈rD g i j n↔∃ k:Nat,k<n/\x=(k:Int)/\Ky i j (eA g k)=true
 | 0,x=>by simp [rD]
 | n+1,x=>by
  simp only [rD];split
  .rename_i h;rw [X3,Kx];constructor
   .rintro (rfl|⟨k,hk,e,hb⟩)
    .exact ⟨n,aD,rfl,h⟩
    .exact ⟨k,aD,e,hb⟩
   .rintro ⟨k,hk,e,hb⟩;rcases bX k n with hc|hc
    .exact .inr ⟨k,hc,e,hb⟩
    .left;rw [e,(aD:k=n)]
  .rename_i h;rw [Kx];constructor
   .rintro ⟨k,hk,e,hb⟩;exact ⟨k,aD,e,hb⟩
   .rintro ⟨k,hk,e,hb⟩;rcases bX k n with hc|hc
    .exact ⟨k,hc,e,hb⟩
    .rw [(aD:k=n)] at hb;exact absurd hb h
theorem GJ (g:Graph)(i j:Int):∀ n,((rD g i j n).map (pU g)).Pairwise (·<=·)
 | 0=>List.Pairwise.nil
 | n+1=>by
  have ih:=GJ g i j n;simp only [rD];split
  .generalize hv:pU g (n:Int)=v;generalize rD g i j n=o at ih ⊢;rw [Am] at ih ⊢;unfold OD;rw [hv];obtain ⟨k,hk⟩:=c7 (yA g v o o.length);have hle:k<=o.length:=hk ▸ OE g v o o.length;have hlo:∀ x∈o.take k,pU g x<=v:=λx hx=>by
    obtain ⟨p,hp,rfl⟩:=aO hx;rw [cX] at hp;rw [Ao];have h0:=UB (g:=g) (v:=v) (o:=o) (k:=o.length) aD;rw [<- hk,iK aD] at h0;rcases bX p (k - 1) with hc|hc
    .have:=dF.1 ih p (k - 1) aD aD hc;omega
    .have e:p=k - 1:=aD;subst e;exact h0
   have hhi:∀ x∈o.drop k,v<pU g x:=λx hx=>by
    obtain ⟨p,hp,rfl⟩:=aO hx;rw [f8] at hp;rw [List.getElem_drop];have:=UC (g:=g) (v:=v) (o:=o) (k:=o.length) (j:=k+p) aD aD;rwa [iK aD] at this
   rw [<- hk,List.append_assoc,List.singleton_append,List.pairwise_append];refine ⟨ih.sublist (List.take_sublist k o),?_,λa ha b hb=>?_⟩
   .rw [List.pairwise_cons];exact ⟨λa ha=>by have:=hhi a ha;omega,ih.sublist (List.drop_sublist k o)⟩
   .have h1:=hlo a ha;rcases aW.1 hb with rfl|hb
    .omega
    .have:=hhi b hb;omega
  .exact ih
theorem No {g:Graph}(i j:Int):∀ n,n<=g.i.length->((rD g i j n).map (pU g)).Perm (OY g i j n)
 | 0,_=>by simp [rD,OY]
 | n+1,hn=>by
  have ih:=No (g:=g) i j n aD;have hx:n<g.i.length:=aD;rw [WI hx];simp only [rD];have e:eA g (n:Int)=g.i[n]:=UU hx;rw [e];split
  .have ht:pU g (n:Int)=g.i[n].type:=by unfold pU;rw [e]
   unfold OD;rw [List.map_append,List.map_append,List.map_singleton,ht,List.append_assoc];refine (List.perm_append_comm_assoc _ _ _).trans ?_;rw [<- List.map_append,List.take_append_drop,List.singleton_append];exact (List.Perm.cons _ ih).trans (List.perm_append_singleton _ _).symm
  .rw [dU];exact ih
theorem VS {l m:V2}(hl:l.Pairwise (·<=·))(hm:m.Pairwise (·<=·))(h:l.Perm m):l=m:=List.Perm.eq_of_pairwise (le:=λa b=>a<=b) (λa b _ _ h1 h2=>by omega) hl hm h
theorem r8 (g:Graph)(i j:Int):(rD g i j g.i.length).map (pU g)=yS g i j:=by
 refine VS (GJ g i j _) (xL _) ((No i j _ (bC _)).trans ?_);exact (vM _ _).symm
theorem lstR_eq {a b:Graph}{i j x y:Int}:Fr a (rD a i j a.i.length)=Fr b (rD b x y b.i.length)↔yS a i j=yS b x y:=by
 unfold Fr;rw [r8,r8];constructor
 .intro h;exact (List.cons.inj h).2
 .intro h;have d:(rD a i j a.i.length).length=(yS a i j).length:=by rw [<- r8,aR]
  have c:(rD b x y b.i.length).length=(yS b x y).length:=by rw [<- r8,aR]
  rw [d,c,h]
theorem VM (l:V2)(v:Int):Pua 108 [dLI l,dI v] (.bool (mem l v)):=by
 refine Tz.p0 func108 rfl λQ k Y=>?_;refine wv (h:=bA (λi e H=>(e 0=dLI l/\e 1=dI v/\e 5=dI i)/\(i<=l.length)/\(∀ (j:Nat) (p:j<l.length),j<i->¬ l[j]=v)) (λi=>l.length - i) 0 ⟨wg,wi,(by exact λj _ g=>absurd g aD)⟩ λq c i e H b=>?_);obtain ⟨n,o,f⟩:=b;have Y:=wa Y n;refine wv (h:=?_);repeat first|intro _|refine ⟨fK,?_⟩
 refine wq (λa=>?_) λa=>?_
 .have Y:=xa1 Y a (aA a);refine wv (h:=?_);repeat first|intro _|refine ⟨fK,?_⟩
  refine wq (λd=>?_) λd=>?_
  .have hm:mem l v=true:=(mem_iff _ _).2 (by have:=aC a;rwa [show l[i]=v by simpa using d] at this);exact wv (h:=k _ _ (iq hm))
  .have hn2:∀ (j:Nat) (p:j<l.length),j<i+1->¬ l[j]=v:=λj p g=>by
    rcases bX j i with hc|hc
    .exact f j p hc
    .have e:j=i:=aD;subst e;simpa using d
   exact wp (h:=wx c (i+1) ⟨wg,wj,(by exact hn2)⟩)
 .have hm:mem l v=false:=by
   rw [bJ];intro hc;obtain ⟨j,m,e⟩:=aO ((mem_iff _ _).1 hc);exact f j m aD e
  exact wv (h:=k _ _ (iq hm))
theorem Oh (g:Graph)(l:V2)(v:∀ x∈l,0<=x/\x<g.i.length)(A:l.length<=100000):Pua 109 [g.d,dLI l] (dLI (Fr g l)):=by
 refine Tz.pK ⟨λt=>t==5||t==9,λ_=>[]⟩ func109 rfl (λQ y=>?_);have Y:=trivial;refine wp (h:=bA (λi e H=>∃ b:V2,(e 1=dLI l/\e 2=.adr g.c/\e 5=.own 0 b.length/\e 6=dI i)/\(H.get 0=some ⟨3,1,b.map cI,false⟩)/\(0<H.next)/\(i<=l.length)/\(b.length=i+1)/\(b=(l.length:Int) :: (l.take i).map (pU g))) (λi=>l.length - i) 0 ⟨([(l.length:Int)]),wg,wn,wn,wi,(by rfl),(by rfl)⟩ λC p i e H o=>?_);obtain ⟨b,z,k,f,B,n,s⟩:=o;have Y:=xa2 Y z k (bS f);refine iY (λj=>?_) λj=>?_
 .have hre:=v _ (aC j);have r:l[i].toNat<g.i.length:=aD;have w:=j8 (pU g) j;have u:pU g l[i]=g.i[l[i].toNat].type:=by unfold pU eA;rw [aA r];rfl
  obtain ⟨q,a⟩:∃ x,x=b++[g.i[l[i].toNat].type]:=⟨_,rfl⟩;have m:q=(l.length:Int) :: (l.take (i+1)).map (pU g):=by rw [a,w,u,s];rfl
  have Y:=xa3 Y j a (aA j) (aA r);exact wp (h:=wx p (i+1) ⟨q,wg,wn,wn,wj,(by rw [a];simp [n]),(by exact m)⟩)
 .have hE:Fr g l=b:=by unfold Fr;rw [s,lS _ aD]
  exact wv (h:=y _ _ (iv hE))
theorem EC {g:Graph}{i j:Int}{n:Nat}{x:Int}(h:x∈rD g i j n):0<=x/\x<n:=by
 obtain ⟨k,hk,e,_⟩:=Kx.1 h;omega
theorem nK (g : Graph) (hl : g.i.length ≤ 100000) (a b : Int) : Pure prog 49 [g.d, dI a, dI b] (dLI (rD g a b g.i.length)) := by
  refine Tz.pK ⟨fun t => t == 7 || t == 60, fun r => match r with | 9 => [(0, 3), (0, 6), (3, 6), (4, 6), (0, 10), (4, 10), (6, 10), (7, 10)] | _ => []⟩ func49 rfl (fun Q hQ => ?_)
  have Y := @chk.eq_1
  refine wv (h := abZ 7 (0) (0) ⟨3, 1, [], false⟩ (by simp [go_sem, Y]) (by simp [go_sem, Y]) (by simp [go_sem, Y]) (fun n e H => ∃ xs : V2, (e 1 = dI a ∧ e 2 = dI b ∧ e 3 = .adr g.c ∧ e 7 = dLI xs ∧ e 8 = dI n) ∧ (n ≤ g.i.length) ∧ (xs = rD g a b n)) (fun n => g.i.length - n) 0 ⟨([]), wg, wi, (by rfl)⟩ fun I0 hI0 n e H hi0 => ?_)
  obtain ⟨xs, E0, hn, hx⟩ := hi0
  have Y := wa Y E0
  refine iY (fun h3 => ?_) fun h3 => ?_
  · have hxl := EB g a b n
    rw [← hx] at hxl
    have heq : eA g (n : Int) = g.i[n] := UU h3
    have hR : rD g a b (n + 1) = if Ky a b g.i[n] = true then OD g xs n else xs := by simp only [rD, heq]; rw [← hx]
    have Y := wa Y (wa h3 (aA h3))
    refine iY (fun h5 => ?_) fun h5 => ?_
    · have hb : Ky a b g.i[n] = false := by
        unfold Ky; rw [bJ]; intro hc
        simp only [aM, decide_eq_true_eq] at hc
        revert h5; simp [hc.1, hc.2]
      obtain ⟨ys, hys'⟩ : ∃ x, x = xs := ⟨_, rfl⟩
      have hys : ys = rD g a b (n + 1) := by rw [hys', hR, if_neg (by rw [hb]; simp)]
      have Y := wa Y hys'
      exact wp (h := wx hI0 (n + 1) ⟨ys, wg, wj, (by (first | exact hys | exact hys hkk | exact hys (by rw [hki, hz]; rfl)))⟩)
    · have hb : Ky a b g.i[n] = true := by
        unfold Ky; simp only [aM, decide_eq_true_eq]
        revert h5; simp <;> omega
      have hv : pU g (n : Int) = g.i[n].type := by unfold pU; rw [heq]
      have Y := wa Y h5
      refine wp (h := bA (fun k e H => (e 1 = dI a ∧ e 2 = dI b ∧ e 3 = .adr g.c ∧ e 7 = dLI xs ∧ e 8 = dI n ∧ e 9 = dI k) ∧ (k ≤ xs.length) ∧ (yA g g.i[n].type xs xs.length = yA g g.i[n].type xs k)) (fun k => k) xs.length ⟨wg, wi, (by rfl)⟩ fun I2 hI2 k e H hi2 => ?_)
      obtain ⟨E2, hk, hki⟩ := hi2
      have hk1 : ¬ k = 0 → ((k : Int) - 1).toNat = k - 1 := fun h => by omega
      obtain ⟨x, hx1, hx2⟩ : ∃ x : Int, (¬ k = 0 → xs[k - 1]? = some x) ∧ (0 < k → 0 ≤ x ∧ x < g.i.length) := by
        refine ⟨xs[k - 1]?.getD 0, fun h => ?_, fun h => ?_⟩
        · rw [aA (show k - 1 < xs.length by omega)]; rfl
        · have hl1 : k - 1 < xs.length := by omega
          rw [aA hl1, Option.getD_some]
          have hin := EC (g := g) (i := a) (j := b) (n := n) (x := xs[k - 1]) (by rw [← hx]; exact aC hl1)
          omega
      obtain ⟨x3, hx3, hxl3⟩ : ∃ x : Int, (0 < xs.length → xs[0]? = some x) ∧ (0 < xs.length → x.toNat < g.i.length) := by
        refine ⟨xs[0]?.getD 0, fun h => ?_, fun h => ?_⟩
        · rw [aA h]; rfl
        · rw [aA h, Option.getD_some]
          have hin := EC (g := g) (i := a) (j := b) (n := n) (x := xs[0]) (by rw [← hx]; exact aC h)
          omega
      have hxl : ¬ k = 0 → x.toNat < g.i.length := fun h => by have := hx2 (by omega); omega
      have hxi : ¬ k = 0 → iA xs ((k - 1 : Nat) : Int) = x := fun h => by unfold iA; rw [Int.toNat_natCast, hx1 h]; rfl
      have hT : (xs.map cI).take k = (xs.take k).map cI := (List.map_take).symm
      have hD : (xs.map cI).drop k = (xs.drop k).map cI := (List.map_drop).symm
      have hA : (xs.map cI).take xs.length = xs.map cI := aG (by simp)
      have hk0 : k = 0 → xs.take k = [] ∧ xs.drop k = xs := fun h => by subst h; exact ⟨rfl, rfl⟩
      have hkl : (xs.take k).length + (xs.drop k).length = xs.length := by simp only [cX, f8]; omega
      obtain ⟨ys, hys'⟩ : ∃ x, x = xs.take k ++ [(n : Int)] ++ xs.drop k := ⟨_, rfl⟩
      have hys : yA g g.i[n].type xs xs.length = k → ys = rD g a b (n + 1) := fun hkk => by rw [hys', hR, if_pos hb]; unfold OD; rw [hv, hkk]
      generalize xs.take k = xk at hT hk0 hkl hys'
      generalize xs.drop k = xd at hD hk0 hkl hys'
      have he0 : 0 < g.i.length := by omega
      by_cases hz : k = 0
      · by_cases hz2 : 0 < xs.length
        · have Y := wa Y (wa E2 (wa hys' (wa hT (wa hD (wa hA (wa hz (wa (hk0 hz).1 (wa (hk0 hz).2 (wa (hx3 hz2) ((aA (hxl3 hz2))))))))))))
          exact wp (h := Jp 7 (H.next + 21) (xk.length + 1 + xd.length) ⟨3, 1, ys.map cI, false⟩ (by simp [go_sem, Y]) (by simp [go_sem, Y]) (by simp only [hys', aR, aI, eO, jW] <;> omega) (n + 1) (by omega) ((hI0 _ _ _).2 ⟨ys, wg, wj, (by (first | exact hys | exact hys hkk | exact hys (by rw [hki, hz]; rfl)))⟩))
        · have Y := wa Y (wa E2 (wa hys' (wa hT (wa hD (wa hA (wa hz (wa (hk0 hz).1 (wa (hk0 hz).2 (wa (b9 (Nat.not_lt.1 hz2)) (aA he0))))))))))
          exact wp (h := Jp 7 (H.next + 21) (xk.length + 1 + xd.length) ⟨3, 1, ys.map cI, false⟩ (by simp [go_sem, Y]) (by simp [go_sem, Y]) (by simp only [hys', aR, aI, eO, jW] <;> omega) (n + 1) (by omega) ((hI0 _ _ _).2 ⟨ys, wg, wj, (by (first | exact hys | exact hys hkk | exact hys (by rw [hki, hz]; rfl)))⟩))
      · have Y := wa Y (wa E2 (wa hys' (wa hT (wa hD (wa hA (wa hz (wa (hk1 hz) (wa (hx1 hz) ((aA (hxl hz)))))))))))
        refine iY (fun h7 => ?_) fun h7 => ?_
        · have hty : pU g x = (g.i[x.toNat]'(hxl hz)).type := by unfold pU eA; rw [aA (hxl hz)]; rfl
          have hlt : g.i[n].type < pU g x := by
            rw [hty]; first | omega | (revert h7; simp; omega)
          have hki2 : yA g g.i[n].type xs xs.length = yA g g.i[n].type xs (k - 1) := by
            rw [hki]
            have hxi' := hxi hz
            obtain ⟨k', rfl⟩ : ∃ k', k = k' + 1 := ⟨k - 1, by omega⟩
            simp only [yA]
            rw [if_pos (by rw [show iA xs (k' : Int) = x from hxi']; exact hlt)]; rfl
          have Y := wa Y h7
          exact wp (h := wx hI2 (k - 1) ⟨wg, wj, (by (exact hki2))⟩)
        · have hkk : yA g g.i[n].type xs xs.length = k := by
            rw [hki]
            first
            | (rw [hz]; rfl)
            | (have hty : pU g x = (g.i[x.toNat]'(hxl hz)).type := by unfold pU eA; rw [aA (hxl hz)]; rfl
               have hlt : ¬ g.i[n].type < pU g x := by
                 rw [hty]; first | omega | (revert h7; simp; omega)
               have hxi' := hxi hz
               obtain ⟨k', rfl⟩ : ∃ k', k = k' + 1 := ⟨k - 1, by omega⟩
               simp only [yA]
               rw [if_neg (by rw [show iA xs (k' : Int) = x from hxi']; exact hlt)])
          exact wp (h := Jp 7 (H.next + 21) (xk.length + 1 + xd.length) ⟨3, 1, ys.map cI, false⟩ (by simp [go_sem, Y]) (by simp [go_sem, Y]) (by simp only [hys', aR, aI, eO, jW] <;> omega) (n + 1) (by omega) ((hI0 _ _ _).2 ⟨ys, wg, wj, (by (first | exact hys | exact hys hkk | exact hys (by rw [hki, hz]; rfl)))⟩))
  · have hE : xs = rD g a b g.i.length := by rw [hx, show n = g.i.length by omega]
    exact wv (h := hQ _ _ (by simp [go_sem, Y, ← hE]))
end Go.Abs
end
