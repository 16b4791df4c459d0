/- Plain law: the comatch is a match of the undoing rule, which -/
import Derived.Test.YtbgbahlipnaflaaGreatZvAY
import Derived.Test.YtbgbahlipnaflaaGreatZvAG
import Derived.Test.YtbgbahlipnaflaaGreatZvAA
import Derived.Test.YtbgbahlipnaflaaGreatZvAW
set_option linter.unusedVariables false
set_option linter.unusedSimpArgs false
section
set_option maxRecDepth 100000
set_option maxHeartbeats 4000000
open Go Go.Proofs Tryz
namespace Go.Abs
theorem RuleV.cM {t:Types}{r:Rule}(R:RuleV t r){q:Nat}(o:q<r.q.i.length):(eA r.left.j (iA r.q.i q)).type=(eA r.right.j (iA r.s.i q)).type /\
  (∃ p:Nat,p<r.q.h.length/\iA r.q.h p=(eA r.left.j (iA r.q.i q)).w/\iA r.s.h p=(eA r.right.j (iA r.s.i q)).w) /\
  (∃ p:Nat,p<r.q.h.length/\iA r.q.h p=(eA r.left.j (iA r.q.i q)).M/\iA r.s.h p=(eA r.right.j (iA r.s.i q)).M):=by
 obtain ⟨n,m⟩:=p7 R.sub;have d:=(nQ R.sub).2.1;have l:iA r.q.i q∈r.q.i:=eB aD aD;obtain ⟨_,c,b,a⟩:=rU R.mo (k:=(q:Int)) aD aD;rw [zO R.sub aD aD,CV] at c b a;obtain ⟨f,e⟩:=qJ R.sub l;obtain ⟨j,i,_⟩:=zD d f;obtain ⟨h,g,_⟩:=zD d e;exact ⟨c,⟨_,j,i,b⟩,⟨_,h,g,a⟩⟩
section
variable {keep into mm:V2} {nL nR nH:Nat}
theorem Yn {c keep:V2}(h:∀ i k:Nat,i<k->k<c.length->c[i]?.getD 0=c[k]?.getD 0->mem keep i=true/\mem keep k=true):oD c keep=[]:=by
 unfold oD FF mQ;rw [List.flatMap_eq_nil_iff];intro i d;rw [List.map_eq_nil_iff,rI];intro b e a;have l:=aV.1 d;have j:=aV.1 e;unfold tE at a;rw [aM,decide_eq_true_eq] at a;obtain ⟨g,f⟩:=h i (i+1+b) aD aD a.1;rw [g,f] at a;exact absurd a.2 aE
theorem Srt.eu (S:Srt keep into mm nL nR nH){j:Int}(b:j∈into):iA (uJ keep into mm nR nH) j<(mC keep mm nH).length:=by
 obtain ⟨q,d,rfl⟩:=mZ b;have e:=S.kl;have a:iA keep q∈keep:=eB aD aD;rw [S.bd aD];obtain ⟨p,c,f,_⟩:=S.a8 (S.ap a);rw [c];omega
theorem Srt.fe (S:Srt keep into mm nL nR nH):oD (uJ keep into mm nR nH) (fH into nR)=[]:=by
 refine Yn λi k d c h=>?_;rw [eV] at c;have e:iA (uJ keep into mm nR nH) (i:Int)=iA (uJ keep into mm nR nH) (k:Int):=h;have hi_:∀ {j:Nat},j<nR->(j:Int)∈into->mem (fH into nR) j=true:=λn l=>(mem_iff _ _).2 (fF.2 ⟨aD,l⟩);by_cases a:(i:Int)∈into
 .by_cases b:(k:Int)∈into
  .exact ⟨hi_ aD a,hi_ c b⟩
  .obtain ⟨f,_,_,m⟩:=S.aj (j:=(k:Int)) aD b;have:=S.eu a;omega
 .obtain ⟨f,s,r,m⟩:=S.aj (j:=(i:Int)) aD a;by_cases b:(k:Int)∈into
  .have:=S.eu b;omega
  .obtain ⟨g,q,p,o⟩:=S.aj (j:=(k:Int)) aD b;have:f=g:=aD;subst this;omega
theorem Srt.fp (S:Srt keep into mm nL nR nH){v:Int}(b:v∈iC (uJ keep into mm nR nH) (fH into nR)):(mC keep mm nH).length<=v:=by
 obtain ⟨i,g,a,e⟩:=rZ.1 b;rw [eV] at g;have c:(i:Int)∉into:=λd=>by
  rw [(mem_iff _ _).2 (fF.2 ⟨aD,d⟩)] at a;cases a
 obtain ⟨f,_,_,h⟩:=S.aj (j:=(i:Int)) aD c;have:iA (uJ keep into mm nR nH) (i:Int)=v:=by unfold iA;rw [Int.toNat_natCast,e];rfl
 omega
theorem Di (S:Srt keep into mm nL nR nH){i:Int}(c:0<=i)(b:i<(fH into nR).length):∃ q:Nat,q<keep.length/\iA (fH into nR) i=iA into q/\iA (dA (fH into nR) into keep) i=iA keep q:=by
 have e:=fF.1 (eB (l:=fH into nR) c b);obtain ⟨q,d,a⟩:=mZ e.2;have f:=S.kl;refine ⟨q,aD,a.symm,?_⟩;unfold dA;rw [uZ _ c b,<- a,zK S.cw d]
theorem xJ (S:Srt keep into mm nL nR nH){q:Nat}(d:q<keep.length):iA (dA (fH into nR) into keep) (pI (fH into nR) (iA into q))=iA keep q:=by
 have e:=S.kl;have a:iA into q∈into:=eB aD aD;obtain ⟨c,b,_⟩:=zD (qZ into nR) (fF.2 ⟨S.ir _ a,a⟩);unfold dA;rw [uZ _ aD aD,b,zK S.cw aD]
theorem uN (S:Srt keep into mm nL nR nH)(g:keep.Nodup):(dA (fH into nR) into keep).Nodup:=by
 unfold dA;rw [e8,Am];refine List.Pairwise.imp_of_mem ?_ (e8.1 (jC (qZ into nR)));intro x y d c a b;obtain ⟨q,e,rfl⟩:=mZ (fF.1 d).2;obtain ⟨p,f,rfl⟩:=mZ (fF.1 c).2;rw [zK S.cw e,zK S.cw f] at b;have:=S.kl;have:=CR g aD aD b;exact a (by rw [this])
end
section
variable {t:Types} {r:Rule} {h:Host} {m:Mat}
theorem StepIn.fo (S:StepIn t r h m){j:Int}(A:0<=j/\j<r.right.j.i.length):eA (bT t r h m).j (iA (cT r h m).i j) =
  ⟨(eA r.right.j j).type,iA (cT r h m).h (eA r.right.j j).w,iA (cT r h m).h (eA r.right.j j).M⟩:=by
 have N:=S.ak;have E:=S.ba;by_cases v:j∈r.s.i
 .obtain ⟨q,F,rfl⟩:=mZ v;have z:=E.kl;have u:iA r.q.i q∈r.q.i:=eB aD aD;have a:=E.kr _ u;obtain ⟨C,⟨p,y,x,w⟩,⟨D,d,c,b⟩⟩:=S.hR.cM (q:=q) aD;obtain ⟨_,o,l,g⟩:=rU (wS S.hc).1 (k:=iA r.q.i q) a.1 a.2;have n:(eA r.left.j (iA r.q.i q)).type=_:=o;have i:iA m.m.h (eA r.left.j (iA r.q.i q)).w=_:=l;have e:iA m.m.h (eA r.left.j (iA r.q.i q)).M=_:=g;rw [S.ca,E.bd aD,S.fx (E.ap u),<- w,<- b,S.bc,N.bd y,N.bd d,x,c,<- C,n,i,e]
 .obtain ⟨f,o,l,g⟩:=E.aj A v;have s:=S.fy (f:=f) o;rw [S.bu] at s;have B:iA r.ad f=j:=l;rw [S.ca,g,s,B];rfl
theorem StepIn.cz (S:StepIn t r h m){p:Nat}(a:p<r.q.h.length):gN (bT t r h m).j (iA (cT r h m).h (iA r.s.h p))=gN h.j (iA m.m.h (iA r.q.h p)):=by
 rw [S.bc,S.ak.bd a,(S.fw (S.ak.ap (eB aD aD))).1]
def GW (t:Types)(r:Rule)(h:Host)(m:Mat):Graph:=lD r.right.j (bT t r h m).j (cT r h m)
def Vl (r:Rule)(h:Host)(m:Mat):Graph:=lD r.left.j h.j m.m
theorem StepIn.dq (S:StepIn t r h m):(GW t r h m).h.length=r.right.j.h.length:=by
 show ((cT r h m).h.map _).length=_;rw [aR,S.bc,eV]
theorem StepIn.f2 (S:StepIn t r h m){i:Int}(h0:0<=i)(h1:i<r.right.j.h.length):gN (GW t r h m) i=gN (bT t r h m).j (iA (cT r h m).h i):=uZ _ h0 (by rw [S.bc,eV];omega)
theorem StepIn.dy (S:StepIn t r h m){i:Int}(h0:0<=i)(h1:i<r.left.j.h.length):gN (Vl r h m) i=gN h.j (iA m.m.h i):=uZ _ h0 (by have:=S.hm.len;omega)
theorem StepIn.ck (S:StepIn t r h m):(Vl r h m).h.length=r.left.j.h.length:=by
 show (m.m.h.map _).length=_;rw [aR];exact S.hm.len
theorem StepOk.ul (K:StepOk t r h m):graphF (GW t r h m)=0/\fZ t (GW t r h m)=true/\eR (GW t r h m) (bT t r h m).j (cT r h m)=0:=by
 have S:=K.S;have H:HostOk t (bP t r h m):=lK K.after;have x:graphF (bT t r h m).j=0:=H.gg;have p:=dY x;have A:=bK S.hR.gr;have n:=dY S.hR.gr;have l:=kF S.hR.gr S.hR.tr;have b:=S.dq;have c:=S.a6;have o:=S.bh;have s:∀ a∈(GW t r h m).h,(0<=a/\a<=99)/\a<t.h.length:=λa d=>by
  obtain ⟨v,q,rfl⟩:=aT.1 d;have u:=CU (g:=(bT t r h m).j) (c v q).1 (c v q).2;exact ⟨p.1 _ u,(p5 H _ u).2⟩
 have z:graphF (GW t r h m)=0:=Fx aD (by show r.right.j.i.length<=80;omega) (λa d=>(s a d).1) λy j=>by
  have:=n.2 y j;rw [<- b] at this;exact this
 refine ⟨z,EV (λa d=>(s a d).2) (λy j=>(l.2 y j).1.2),BA z x ?_ ?_ (λi f w=>?_) (λk f B=>?_)⟩
 .rw [b,S.bc,eV]
 .show _=r.right.j.i.length;rw [S.ca,eV]
 .rw [b] at w;exact ⟨c _ (eB f (by rw [S.bc,eV];omega)),(S.f2 f w).symm⟩
 .have hk':k<r.right.j.i.length:=B;have e:=S.fo ⟨f,hk'⟩;have C:eA (GW t r h m) k=eA r.right.j k:=rfl;rw [e,C];exact ⟨o _ (eB f (by rw [S.ca,eV];omega)),rfl,rfl,rfl⟩
theorem StepOk.fr (K:StepOk t r h m):subF (GW t r h m) (gX r)=0:=by
 have S:=K.S;have e:=S.dq;have s:=S.ba;have j:=kF S.hR.gr S.hR.tr;refine NJ K.ul.1 (λx d=>by rw [e];exact (fF.1 d).1) (qZ _ _) (λx d=>(fF.1 d).1) (qZ _ _) λk o=>?_;obtain ⟨a,f⟩:=fF.1 o;obtain ⟨q,y,rfl⟩:=mZ f;have n:=s.kl;obtain ⟨_,⟨p,v,_,g⟩,⟨w,i,_,c⟩⟩:=S.hR.cM (q:=q) aD;have b:=wN S.hR.gr a.1 a.2;have l:=S.ak.kl;have u:eA (GW t r h m) (iA r.s.i q)=eA r.right.j (iA r.s.i q):=rfl;rw [u];exact ⟨fF.2 ⟨b.1,g ▸ eB aD aD⟩,fF.2 ⟨b.2.1,c ▸ eB aD aD⟩⟩
theorem StepOk.gd (K:StepOk t r h m):oZ (GW t r h m) (bT t r h m).j (gX r) (cT r h m)=0:=by
 have S:=K.S;have N:=S.ak;have E:=S.ba;have y:=K.ul.2.2;have w:=K.fr;have C:oD (cT r h m).h (gX r).h=[]:=by rw [S.bc];exact N.fe
 have B:oD (cT r h m).i (gX r).i=[]:=by rw [S.ca];exact E.fe
 have z:wQ (bT t r h m).j (cT r h m).i (iC (cT r h m).h (gX r).h)=[]:=by
  unfold wQ;rw [List.map_eq_nil_iff,rI];intro x s a;have o:=aV.1 s;have I:(bT t r h m).j.i.length=_:=S.b4;unfold yN at a;rw [aM,c8,cZ] at a;have b:∀ {v:Int},mem (iC (cT r h m).h (gX r).h) v=true->(mC r.q.h m.m.h h.j.h.length).length<=v:=λu=>by
   have:=(mem_iff _ _).1 u;rw [S.bc] at this;exact N.fp this
  by_cases e:x<(mC r.q.i m.m.i h.j.i.length).length
  .obtain ⟨g,k⟩:=E.eh e;have i:=S.fx g;rw [k] at i;have A:(bT t r h m).j.i[x]?.getD cH=_:=i;have c:=S.gs g;obtain ⟨p,H,G,_⟩:=N.a8 c.1;obtain ⟨q,F,D,_⟩:=N.a8 c.2;rw [A] at a;rcases a.2 with hh|hh
   .have:=b hh;simp only at this;omega
   .have:=b hh;simp only at this;omega
  .obtain ⟨j,n,_,l⟩:=E.ew (f:=x - (mC r.q.i m.m.i h.j.i.length).length) aD;have d:(x:Int)∈(cT r h m).i:=by
    rw [S.ca];have:iA (uJ r.q.i r.s.i m.m.i r.right.j.i.length h.j.i.length) j=(x:Int):=by rw [l];omega
    rw [<- this];exact eB n.1 (by rw [eV];omega)
   rw [(mem_iff _ _).2 d] at a;exact absurd a.1 aE
 unfold oZ compG;rw [if_neg (by rw [if_neg (by rw [y];simp),w];simp),if_neg (by rw [C,B];simp),if_neg (by rw [z];simp)]
end
section
variable {t:Types} {r:Rule} {h:Host} {m:Mat}
theorem StepIn.e5 (S:StepIn t r h m):graphF (Vl r h m)=0/\fZ t (Vl r h m)=true:=by
 refine ⟨(kS (wS S.hc).1).1,EV (λa e=>?_) λy c=>((kF S.hR.pl.gg S.hR.pl.ty).2 y c).1.2⟩;obtain ⟨v,d,rfl⟩:=aT.1 e;have b:=S.d6 v d;exact (p5 S.ho _ (CU b.1 b.2)).2
theorem StepOk.gc (K:StepOk t r h m)(U:Rule)(y:U.left.j=GW t r h m)(G:U.right.j=Vl r h m)(A:U.q=gX r)(H:U.s=iZ r):keptF U=0:=by
 have S:=K.S;have N:=S.ak;have E:=S.ba;have f:=K.fr;obtain ⟨F,D⟩:=p7 f;have V:=S.dq;have w:=S.ck;have e:=nQ S.hR.sub;have x:r.q.h.Nodup:=jC e.2.1;have He:r.q.i.Nodup:=jC (uO S.hR.sub);have R:(iZ r).h.length=(gX r).h.length:=by simp [iZ,dA]
 have T:(iZ r).i.length=(gX r).i.length:=by simp [iZ,dA]
 have W:graphF (cJ (GW t r h m) (gX r))=0:=J4 f;have I:eR (cJ (GW t r h m) (gX r)) (Vl r h m) (iZ r)=0:=by
  refine BA W S.e5.1 (by rw [F,R]) (by rw [D,T]) (λi d b=>?_) (λk d b=>?_)
  .rw [F] at b;obtain ⟨q,o,n,j⟩:=Di N d b;have c:iA r.q.h q∈r.q.h:=eB aD aD;have a:=N.kr _ c;have g:=(fF.1 (eB (l:=(gX r).h) d b)).1;have B:iA (iZ r).h i=iA r.q.h q:=j;have C:iA (gX r).h i=iA r.s.h q:=n;rw [B,q9 f d b,w];refine ⟨a,?_⟩;rw [S.dy a.1 a.2,S.f2 g.1 g.2,C,S.cz o]
  .rw [D] at b;obtain ⟨q,o,n,j⟩:=Di E d b;have c:iA r.q.i q∈r.q.i:=eB aD aD;have a:=E.kr _ c;have B:iA (iZ r).i k=iA r.q.i q:=j;have C:iA (gX r).i k=iA r.s.i q:=n;obtain ⟨X,⟨p,P,O,M⟩,⟨Q,v,u,s⟩⟩:=S.hR.cM o;have Z:∀ z,eA (GW t r h m) z=eA r.right.j z:=λ_=>rfl;have Y:∀ z,eA (Vl r h m) z=eA r.left.j z:=λ_=>rfl;have L:iA (iZ r).h (pI (gX r).h (iA r.s.h p))=_:=xJ N P;have J:iA (iZ r).h (pI (gX r).h (iA r.s.h Q))=_:=xJ N v;rw [B,zO f d b,CV,C,Z,Y,<- M,<- s];simp only;rw [L,J,O,u];exact ⟨a,X.symm,rfl,rfl⟩
 refine Rf (by rw [y,A];exact f) (by rw [y,A,G,H];exact I) ?_;rw [y,A,G,H];unfold BW;simp only [aM,decide_eq_true_eq];exact ⟨I,uN N x,uN E He⟩
theorem StepIn.f1 (S:StepIn t r h m){ns es:V2}(v:∀ i∈ns,0<=i/\i<r.left.j.h.length)(A:∀ k∈es,0<=k/\k<r.left.j.i.length):pX t (Vl r h m) ns es=true:=by
 unfold pX;rw [aM,cZ,cZ,gB,gB];have f:=(wS S.hc).1;refine ⟨λi x=>?_,λk w=>?_⟩
 .have hr:=v i x;have C:=S.d6 _ (eB (l:=m.m.h) hr.1 (by have:=S.hm.len;omega));have s:=S.ho.vl;have j:(iA m.m.h i).toNat<h.j.h.length:=aD;have e:=(pJ (S.ho.nd _ j aD)).2.1;have y:gN (Vl r h m) i=h.j.h[(iA m.m.h i).toNat]:=by
   rw [S.dy hr.1 hr.2];unfold gN;rw [aA j];rfl
  unfold absB;unfold oH at e;rw [y];cases u:t.h[(h.j.h[(iA m.m.h i).toNat]).toNat]? with
  | none=>simp
  | some n=>rw [u] at e;simpa using e
 .have hr:=A k w;obtain ⟨g,q,p,o⟩:=rU f (k:=k) hr.1 hr.2;have a:=wN S.hR.pl.gg hr.1 hr.2;have z:=(S.ho.ed _ (OP g.1 g.2)).2;have d:(eA r.left.j k).type=_:=q;have c:iA m.m.h (eA r.left.j k).w=_:=p;have b:iA m.m.h (eA r.left.j k).M=_:=o;have B:(Vl r h m).i[k.toNat]?.getD cH=eA r.left.j k:=rfl;unfold unfitB;rw [B,S.dy a.1.1 a.1.2,S.dy a.2.1.1 a.2.1.2,c,b,d,z];simp
theorem V7 {l:List Slot}(h:l.Pairwise λa b=>¬ (a.node=b.node/\a.J=b.J)):T5 l:=λi hi=>by
 rw [gB];intro x hx hs;obtain ⟨j,hj,rfl⟩:=aO hx;rw [cX] at hj;have:=dF.1 h j i aD hi aD;rw [Ao] at hs;unfold sameSlot at hs;simp at hs;exact this ⟨hs.1,hs.2⟩
theorem PI (t:Types)(s:Stp26)(n:Nat):T5 (i9 t s n):=by
 refine V7 ?_;have d:∀ i k x,x∈mG t s i k->x.node=(i:Int)/\x.J=(k:Int):=λi k x c=>by
  unfold mG at c;split at c
  .rw [bD] at c;subst c;exact ⟨rfl,rfl⟩
  .cases c
 unfold i9;rw [List.pairwise_flatMap];refine ⟨λi _=>?_,List.Pairwise.imp (λ {i j} o x c y e f=>?_) NA⟩
 .unfold s8;rw [List.pairwise_flatMap];refine ⟨λk _=>?_,List.Pairwise.imp (λ {k l} h x c y e f=>?_) NA⟩
  .unfold mG;split<;>simp
  .have a:=(d i k x c).2;have b:=(d i l y e).2;omega
 .unfold s8 at c e;obtain ⟨k,_,m⟩:=bQ.1 c;obtain ⟨l,_,g⟩:=bQ.1 e;have a:=(d i k x m).1;have b:=(d j l y g).1;omega
theorem StepIn.bx (S:StepIn t r h m){i:Nat}(s:i<r.left.j.h.length):(0<=iA m.m.h i/\iA m.m.h i<h.j.h.length)/\(n7 (aP t r h m) i).length=(bL t (gN h.j (iA m.m.h i))).length /\
  ∀ k:Nat,k<(n7 (aP t r h m) i).length->∃ a:Attr,(bL t (gN h.j (iA m.m.h i)))[k]?=some a/\a.ao<=(n7 (aP t r h m) i)[k]?.getD 0/\(n7 (aP t r h m) i)[k]?.getD 0<=a.az:=by
 have g:=S.d6 _ (eB (l:=m.m.h) (n:=(i:Int)) aD (by have:=S.hm.len;omega));have f:=S.ho.vl;have e:(iA m.m.h i).toNat<h.j.h.length:=aD;have d:(iA m.m.h i).toNat<h.k.length:=aD;obtain ⟨_,_,o,j⟩:=pJ (S.ho.nd _ e d);have q:gN h.j (iA m.m.h i)=h.j.h[(iA m.m.h i).toNat]:=by unfold gN;rw [aA e];rfl
 have p:n7 (aP t r h m) i=h.k[(iA m.m.h i).toNat]:=by
  show h.k[(iA m.m.h i).toNat]?.getD []=_;rw [aA d];rfl
 rw [q,p];refine ⟨g,o,λk c=>?_⟩;have b:k<(bL t h.j.h[(iA m.m.h i).toNat]).length:=aD;have:=j k c b;exact ⟨_,aA b,by rw [aA c,Option.getD_some];exact this.1,by rw [aA c,Option.getD_some];exact this.2⟩
theorem StepIn.f0 (S:StepIn t r h m):∀ x∈i9 t (aP t r h m) m.m.h.length,SlotIn t (Vl r h m).h 0 x:=λx hx=>by
 obtain ⟨i,hi,k,hk,_,rfl⟩:=pQ.1 hx;have hml:=S.hm.len;have hi':i<r.left.j.h.length:=aD;obtain ⟨h1,h2,h3⟩:=S.bx hi';obtain ⟨a,_,a1,a2⟩:=h3 k hk;have hu:=S.ck;have e:(Vl r h m).h[((i:Nat):Int).toNat]?.getD 0=gN h.j (iA m.m.h i):=S.dy (i:=(i:Int)) aD aD;have hrow:n7 (aP t r h m) i∈h.k:=by
  have hvl:=S.ho.vl;show h.k[(iA m.m.h i).toNat]?.getD []∈_;rw [aA aD];exact aC _
 have hs:=(S.ho.row _ hrow).2 _ (aC hk);have e5:(n7 (aP t r h m) i)[k]?.getD 0=(n7 (aP t r h m) i)[k]:=by rw [aA hk];rfl
 refine ⟨by simp only;omega,by simp only;omega,by simp only;omega,?_,by simp only;omega,by simp only;omega,?_,?_⟩
 .simp only;rw [e];omega
 .simp only;rw [e5];exact hs.1
 .simp only;rw [e5];exact hs.2
theorem Uw {r:Rule}(h:ruleF t r=0):lJ r.name=true:=by
 unfold ruleF at h;split at h
 .exact absurd h ic
 .split at h
  .cases h
  .rename_i h2;simpa using h2
theorem Ww {U:Rule}:(∀ i∈U.N,0<=i/\i<U.right.j.h.length)/\∀ k∈U.ad,0<=k/\k<U.right.j.i.length:=⟨λi hi=>(dQ.1 hi).1,λk hk=>(dQ.1 hk).1⟩
theorem StepOk.e0 (K:StepOk t r h m)(g:ruleF t r=0)(d:(i9 t (aP t r h m) m.m.h.length).length<=10):ruleF t (dC t (aP t r h m))=0:=by
 have S:=K.S;have a:=S.hR.vf;have L:=S.e5;have c:c9 t ⟨GW t r h m,[],0,[]⟩=0:=qQ a K.ul.1 K.ul.2.1;refine PR a (show lJ r.name=true from Uw g) c (Mj L.1 L.2 rfl rfl d (Vt (p:=(dC t (aP t r h m)).right) S.f0 (PI _ _ _))) (K.gc _ rfl rfl rfl rfl) ?_ (Pu c);have b:=Ww (U:=dC t (aP t r h m));refine S.f1 (λi f=>?_) (λk e=>b.2 k e);have:=b.1 i f;rw [show (dC t (aP t r h m)).right.j=Vl r h m from rfl,S.ck] at this;exact this
end
section
variable {t:Types} {r:Rule} {h:Host} {m:Mat}
theorem Np {t:Types}(b:t.aq){a:Int}(h:0<=a/\a<t.h.length):vO t a a=true:=by
 unfold vO;have:=MN b (a:=a.toNat) aD;rw [show ((a.toNat:Nat):Int)=a by omega] at this;exact this
theorem StepOk.fh (K:StepOk t r h m){inj:Bool}(s:inj=true->(cT r h m).h.Nodup/\(cT r h m).i.Nodup):matchE t (GW t r h m) (bT t r h m).j (cT r h m) inj=0:=by
 have S:=K.S;have H:HostOk t (bP t r h m):=lK K.after;obtain ⟨z,y,c⟩:=K.ul;obtain ⟨_,_,x,w⟩:=kS c;obtain ⟨A,v⟩:=Bz c;have o:=S.dq;have p:=(uD c).1;have u:bW (mNE t (GW t r h m) (bT t r h m).j (cT r h m)) 0 (GW t r h m).h.length=0:=iT _ _ λj _ b=>by
  have q:j<(cT r h m).h.length:=aD;have a:=p _ (eB (l:=(cT r h m).h) (n:=(j:Int)) aD aD);have e:(cT r h m).h[j]?.getD 0=iA (cT r h m).h j:=rfl;have d:(GW t r h m).h[j]?.getD 0=gN (bT t r h m).j (iA (cT r h m).h j):=S.f2 (i:=(j:Int)) aD aD;unfold mNE;rw [e,if_neg aD,d];exact if_pos (Np (nI S.hR.vf) (p5 H _ (CU (g:=(bT t r h m).j) a.1 a.2)))
 have d:bW (mapEE (GW t r h m) (bT t r h m).j (cT r h m)) 0 (GW t r h m).i.length=0:=iT _ _ λj _ b=>v j aD;unfold matchE;rw [if_neg aD,if_neg (by rw [u];simp),if_neg (by rw [d];simp),if_neg];rintro ⟨b,hd⟩;obtain ⟨k,f⟩:=s b;rcases hd with hd|hd
 .exact hd k
 .exact hd f
theorem StepOk.ee (K:StepOk t r h m){inj:Bool}(a:inj=true->(cT r h m).h.Nodup/\(cT r h m).i.Nodup):checkE t (GW t r h m) (bT t r h m).j (cT r h m) inj=0:=by
 have b:eH t (GW t r h m) (bP t r h m).j=0:=JW K.ul.1 K.ul.2.1 (lK K.after);unfold checkE;rw [if_neg (by show ¬ eH t (GW t r h m) (bP t r h m).j≠0;rw [b];simp)];exact K.fh a
theorem StepOk.gy (K:StepOk t r h m):o7 t (dC t (aP t r h m)) (bP t r h m) ⟨cT r h m,[]⟩=0:=by
 have e:checkE t (dC t (aP t r h m)).left.j (bP t r h m).j (cT r h m) (dC t (aP t r h m)).inj=0:=K.ee λb=>by
  have a:(decide (cT r h m).h.Nodup&&decide (cT r h m).i.Nodup)=true:=b;simpa using a
 have c:checkE t (dC t (aP t r h m)).left.j (bP t r h m).j (cT r h m) false=0:=K.ee λb=>by cases b
 have f:c9 t (dC t (aP t r h m)).left=0:=qQ K.S.hR.vf K.ul.1 K.ul.2.1;have d:eG t (dC t (aP t r h m)).left (bP t r h m) (cT r h m)=([],0):=by
  unfold eG;rw [if_neg (by rw [f];simp),if_neg (by rw [K.after];simp),if_neg (by rw [c];simp)];rfl
 unfold o7;simp only;rw [if_neg (by rw [e];simp),d,if_neg aE,if_neg aE];exact K.gd
end
section
variable {t:Types} {r:Rule} {h g:Host} {m:Mat} {m0 p:Part}
theorem BackI.at (B:BackI t r h m g m0 ⟨p,[]⟩){y:Int}(a:0<=y/\y<r.right.j.h.length):gN g.j (iA p.h y)=gN (bT t r h m).j (iA (cT r h m).h y):=by
 have U:=B.cC;have e:=B.K.S.ak.cj a;have i:=U.n;obtain ⟨d,f⟩:=U.of (iA (cT r h m).h y) (by rw [B.K.S.bc];exact e.1) (by rw [B.K.S.bc];omega);have b:=B.I.ty _ d.1 d.2;have c:=U.m y a.1 a.2;rw [<- B.K.S.bc] at c;rw [f] at b;rw [show iA p.h y=_ from c,b];rfl
theorem BackI.co (B:BackI t r h m g m0 ⟨p,[]⟩) :
  (cT (dC t (aP t r h m)) g ⟨p,[]⟩).h=uJ (fH r.s.h r.right.j.h.length) (dA (fH r.s.h r.right.j.h.length) r.s.h r.q.h) p.h r.left.j.h.length g.j.h.length:=by
 have:=B.T.bc;have a:(dC t (aP t r h m)).right.j.h.length=r.left.j.h.length:=B.K.S.ck;rw [a] at this;exact this
theorem BackI.type (B:BackI t r h m g m0 ⟨p,[]⟩){j:Int}(d:0<=j/\j<r.left.j.h.length) :
  gN (bT t (dC t (aP t r h m)) g ⟨p,[]⟩).j (iA (cT (dC t (aP t r h m)) g ⟨p,[]⟩).h j)=gN h.j (iA m.m.h j):=by
 have T:=B.T;have N:=B.K.S.ak;by_cases e:j∈(dC t (aP t r h m)).s.h
 .obtain ⟨q,E,rfl⟩:=mZ e;have u:=T.ak.kl;have w:=T.cz (p:=q) aD;rw [w];obtain ⟨x,s,o,k⟩:=Di N (i:=(q:Int)) aD (by show (q:Int)<((dC t (aP t r h m)).q.h.length:Int);omega);have D:iA (dC t (aP t r h m)).q.h q=iA r.s.h x:=o;have C:iA (dC t (aP t r h m)).s.h q=iA r.q.h x:=k;have c:=N.kl;have a:=N.ir _ (eB (l:=r.s.h) (n:=(x:Int)) aD aD);rw [D,C];show gN g.j (iA p.h (iA r.s.h x))=_;rw [B.at a];exact B.K.S.cz s
 .have hz:(dC t (aP t r h m)).right.j.h.length=r.left.j.h.length:=B.K.S.ck;obtain ⟨f,A,z,y⟩:=T.ak.aj (j:=j) aD e;have b:=(T.dv (f:=f) A).1;rw [T.bb] at b;have v:iA (dC t (aP t r h m)).N f=j:=z;rw [T.bc,y,b,v];exact B.K.S.dy d.1 d.2
theorem BackI.hx (B:BackI t r h m g m0 ⟨p,[]⟩)(h0:ruleF t r=0)(O:(i9 t (aP t r h m) m.m.h.length).length<=10)(X:fG t g=0)(o:o7 t (dC t (aP t r h m)) g ⟨p,[]⟩=0):jJ t (dC t (aP t r h m)) g ⟨p,[]⟩=0:=by
 have K:=B.K;have T:=B.T;have z:=K.e0 h0 O;have f:lC t (dC t (aP t r h m)) g ⟨p,[]⟩=0:=by
  have W:=Rl.2 (W5 t g (dC t (aP t r h m)).inj ⟨p,[]⟩);have E:(dC t (aP t r h m)).cond=trueC:=rfl;unfold lC;rw [if_neg (by rw [o];simp),E,if_neg (by rw [W.1];simp),if_neg (by rw [W.2];simp)]
 have u:=B.cC;have J:=B.dp;have I:=B.co;have P:=K.S.hm.len;have w:(dC t (aP t r h m)).right.j.h.length=r.left.j.h.length:=K.S.ck;have zn:(bT t (dC t (aP t r h m)) g ⟨p,[]⟩).j.h.length=h.j.h.length:=by
  have v:=T.cd;rw [w] at v;exact (u.er v (DT _ _ _ _ _) (u.e3 v)).2.2
 have ze:(bT t (dC t (aP t r h m)) g ⟨p,[]⟩).j.i.length=h.j.i.length:=(J.er T.b4 (DT _ _ _ _ _) (J.e3 T.b4)).2.2;have Q:=bK K.S.ho.gg;have c:∀ {i:Nat},i<r.left.j.h.length->0<=iA (cT (dC t (aP t r h m)) g ⟨p,[]⟩).h i:=λ {i} G=>by
  have:=(u.S'.cj (j:=(i:Int)) aD).1;rw [I];exact this
 have n:sP t (bT t (dC t (aP t r h m)) g ⟨p,[]⟩).j (cT (dC t (aP t r h m)) g ⟨p,[]⟩) [] (i9 t (aP t r h m) m.m.h.length)=0:=by
  have D:vA (cT (dC t (aP t r h m)) g ⟨p,[]⟩) [] (i9 t (aP t r h m) m.m.h.length)=false:=by
   unfold vA;rw [gB];intro a V;rw [LY,gB];intro b U;have s:=aV.1 V;have R:=aV.1 U;have q:b<(i9 t (aP t r h m) m.m.h.length).length:=aD;rw [aA s,aA q];simp only;obtain ⟨i,G,k,F,_,ei⟩:=pQ.1 (aC s);obtain ⟨j,hj,l,hl,_,ej⟩:=pQ.1 (aC q);rw [ei,ej];unfold C8;simp only [aM,decide_eq_true_eq];rintro ⟨h1,h2,Y⟩;have L:=c (i:=i) aD;have s2:=c (i:=j) aD;have Z:(iA (cT (dC t (aP t r h m)) g ⟨p,[]⟩).h j).toNat=(iA (cT (dC t (aP t r h m)) g ⟨p,[]⟩).h i).toNat:=h1;have H:iA (cT (dC t (aP t r h m)) g ⟨p,[]⟩).h j=iA (cT (dC t (aP t r h m)) g ⟨p,[]⟩).h i:=aD;rw [I] at H;have:=u.e1 (.inr ⟨(i:Int),aD,rfl,rfl⟩) (.inr ⟨(j:Int),aD,H,rfl⟩);refine Y ?_;have ho:n7 (aP t r h m) j=n7 (aP t r h m) i:=by
    show h.k[(iA m.m.h j).toNat]?.getD []=h.k[(iA m.m.h i).toNat]?.getD [];rw [this]
   have C:l=k:=aD;rw [ho,C]
  have A:(i9 t (aP t r h m) m.m.h.length).any (zE t (bT t (dC t (aP t r h m)) g ⟨p,[]⟩).j (cT (dC t (aP t r h m)) g ⟨p,[]⟩) [])=false:=by
   rw [gB];intro x N;obtain ⟨i,G,k,F,_,rfl⟩:=pQ.1 N;obtain ⟨_,o2,M⟩:=K.S.bx (i:=i) aD;obtain ⟨a,a1,a2,a3⟩:=M k F;have L:=c (i:=i) aD;have y:=B.type (j:=(i:Int)) aD;unfold zE;have e1:(bT t (dC t (aP t r h m)) g ⟨p,[]⟩).j.h[fX (cT (dC t (aP t r h m)) g ⟨p,[]⟩) ⟨(i:Int),(k:Int),⟨-1,(n7 (aP t r h m) i)[k]?.getD 0⟩⟩]?.getD 0=gN h.j (iA m.m.h i):=y;simp only;rw [e1,Int.toNat_natCast,a1];unfold dO;simp only [Option.getD_some];rw [if_pos aD];simp;omega
  unfold sP;rw [if_neg (by rw [D];simp),if_neg (by rw [A];simp)]
 have d:gM t (dC t (aP t r h m)) g ⟨p,[]⟩=0:=by
  unfold gM;have e:sP t (bT t (dC t (aP t r h m)) g ⟨p,[]⟩).j (cT (dC t (aP t r h m)) g ⟨p,[]⟩) (Mat.mk p []).vars (dC t (aP t r h m)).right.l=0:=n;rw [if_neg (by rw [f];simp),if_neg (by rw [e];simp),if_neg aD]
 unfold jJ fW;rw [if_neg (by rw [if_neg (by rw [z];simp),X];simp),d]
theorem StepOk.gz (K:StepOk t r h m)(c:r.ok)(f:ruleF t r=0)(e:(i9 t (aP t r h m) m.m.h.length).length<=10):jJ t (dC t (aP t r h m)) (bP t r h m) ⟨cT r h m,[]⟩=0:=by
 have d:(dC t (aP t r h m)).ok:=HX (s:=aP t r h m) c (K.dN c);have a:=K.gy;refine (BackI.mk (m0:=w3 (bP t r h m).j) K (MV (lK K.after)) ?_ ?_ (NL (IB d (K.e0 f e)) (lK K.after) a)).hx f e K.after a
 .exact (x9 λx b=>D8 (K.S.a6 x b).1 (K.S.a6 x b).2).symm
 .exact (x9 λx b=>D8 (K.S.bh x b).1 (K.S.bh x b).2).symm
end
def zZ (t:Types)(rs:List Rule)(h:Host):List Stp26:=rs.flatMap λr=>if light26 t r h=true then uP t r h 10 else []
def QQ (l:List Stp26)(c:UInt8):Stp26:=l[((c.toNat:Int).tmod l.length).toNat]?.getD mO
def AH (t:Types)(rs:List Rule)(st:Host × List Stp26)(c:UInt8):Host × List Stp26:=if zZ t rs st.1=[] then st else ((QQ (zZ t rs st.1) c).after,st.2++[QQ (zZ t rs st.1) c])
def Iz (t:Types)(rs:List Rule)(h:Host)(codes:List UInt8):List Stp26:=(codes.foldl (AH t rs) (h,[])).2
theorem Mf {t:Types}{rs:List Rule}{a:Host × List Stp26}(h:zZ t rs a.1=[]):∀ codes:List UInt8,codes.foldl (AH t rs) a=a
 | []=>rfl
 | c :: l=>by
  have e:AH t rs a c=a:=by unfold AH;rw [if_pos h]
  rw [pD,e,Mf h l]
theorem Je {t:Types}{rs:List Rule}{h:Host}{k:Nat}(a:k<rs.length):zZ t (rs.take (k+1)) h=zZ t (rs.take k) h++(if light26 t rs[k] h=true then uP t rs[k] h 10 else []):=by
 unfold zZ;rw [List.take_succ_eq_append_getElem a,List.flatMap_append];simp
theorem Ie (t:Types)(r:Rule)(h:Host)(n:Nat):(uP t r h n).length<=n:=by unfold uP;simp;omega
theorem L8 {t:Types}{r:Rule}{h:Host}{n:Nat}{s:Stp26}(b:s∈uP t r h n):∃ m,m∈(mU t r h).1/\s=aP t r h m/\jJ t r h m=0:=by
 unfold uP at b;obtain ⟨m,d,rfl⟩:=aT.1 b;have a:=dD d;obtain ⟨f,e⟩:=YK a;have c:jJ t r h m=0:=by unfold jJ;rw [if_neg (by rw [f];simp),e]
 exact ⟨m,a,by unfold fQ;rw [if_pos c],c⟩
theorem QP {l:List Stp26}(h:l≠[])(c:UInt8):QQ l c∈l:=by
 have hl:=g7.2 h;have:=eM (aD:0<=(c.toNat:Int)) (aD:(0:Int)<l.length);unfold QQ;rw [aA aD,Option.getD_some];exact aC _
theorem VH (t:Types)(h1:∀ n∈t.h,n.r.length<=1000000000000000)(rs:List Rule)(O:∀ r∈rs,r.le)(a1:rs.length<=2)(h:Host)(codes:List UInt8)(hc:codes.length<=1000) :
  Pua 53 [t.d,.list (rs.map Rule.c),h.d,.list (codes.map cU)] (.list ((Iz t rs h codes).map Stp26.c)):=by
 refine Tz.pK ⟨λt=>t==6||t==9||t==11||t==13,λr=>match r with|13=>[(0,4),(1,4),(0,5),(1,5)]|_=>[]⟩ func53 rfl (λQ hQ=>?_);have Y:=xa1 @Host.d.eq_1 @Host.c.eq_1 @Rule.d.eq_1;refine j4 (h:=bA (λi e H=>∃ b:Host,∃ a:List Stp26,(e 4=.adr t.c/\e 1=.list (rs.map Rule.c)/\e 3=.list (codes.map cU)/\e 6=.ptr 0 1 0 0/\e 9=.own 1 a.length/\e 10=dI i)/\(H.get 0=some ⟨44,3,[b.c],false⟩)/\(0<H.next)/\(H.get 1=some ⟨57,38,a.map Stp26.c,false⟩)/\(1<H.next)/\(i<=codes.length)/\((codes.take i).foldl (AH t rs) (h,[])=(b,a))/\(a.length<=i)) (λi=>codes.length - i) 0 ⟨h,([]),wg,wn,wn,wn,wn,wi,(by rfl),(by simp)⟩ λI0 V i e H U=>?_);obtain ⟨b,a,E0,L,v,J,q,hi,g,a2⟩:=U;have Y:=xa4 Y E0 L (bS v) J (bS q);refine rL (h:=wq (λN=>?_) λN=>?_)
 .obtain ⟨x,X⟩:=c7 (codes[i]);have a0:=lA x;have Y:=xa3 Y N (aA N) (Eq.symm X) @cU.eq_1;refine j4 (h:=bA (λk e H=>∃ c:Nat,∃ P:List Stp26,(e 4=.adr t.c/\e 1=.list (rs.map Rule.c)/\e 3=.list (codes.map cU)/\e 6=.ptr 0 1 0 0/\e 9=.own 1 a.length/\e 10=dI i/\e 11=.own c P.length/\e 12=dI k)/\(H.get 0=some ⟨44,3,[b.c],false⟩)/\(0<H.next)/\(H.get 1=some ⟨57,38,a.map Stp26.c,false⟩)/\(1<H.next)/\(H.get c=some ⟨57,38,P.map Stp26.c,false⟩)/\(c<H.next)/\(k<=rs.length)/\(1<c)/\(P=zZ t (rs.take k) b)/\(P.length<=10 * k)) (λk=>rs.length - k) 0 ⟨H.next,([]),wg,wn,wn,wn,wn,wn,wn,wi,aD,(by rfl),(by simp)⟩ λI2 E k e H T=>?_);obtain ⟨c,P,E2,K,u,I,p,G,o,hk,a3,D,a5⟩:=T;have W:=xa1 (dJ (aD:c≠1)) (dJ (aD:c≠0)) (dJ (aD:1≠0));have Y:=xa8 Y @Host.c.eq_1 E2 K (bS u) I (bS p) G (bS o) W;refine rL (h:=wq (λl=>?_) λl=>?_)
  .obtain ⟨M,f⟩:∃ y,y=P++(if light26 t rs[k] b=true then uP t rs[k] b 10 else []):=⟨_,rfl⟩;have w:M.length<=P.length+10:=by
    rw [f,aI];split
    .have:=Ie t rs[k] b 10;omega
    .simp
   have Y:=xa1 Y l (aA l);refine rL (h:=aH (y7 t h1 rs[k] (O _ (aC l)) b) wl ?_);refine rL (h:=wq (λF=>?_) λF=>?_)
   .have hm3:M=P++uP t rs[k] b 10:=by rw [f,if_pos F]
    have Z:=Ie t rs[k] b 10;have Y:=xa3 Y hm3 @Stp26.c.eq_1 @Mat.c.eq_1 @Rule.c.eq_1;refine rL (h:=aH (P3 t (zI F).1 rs[k] (zI F).2 b 10) wl ?_);exact rL (h:=wx E (k+1) ⟨c,M,wg,wn,wn,wn,wn,wn,wn,wj,aD,(by rw [Je l,<- D,f]),(by have:=w;omega)⟩)
   .have hm3:M=P:=by rw [f,if_neg (by rw [F];simp)];simp
    have Y:=wa Y hm3;exact rL (h:=wx E (k+1) ⟨c,M,wg,wn,wn,wn,wn,wn,wn,wj,aD,(by rw [Je l,<- D,f]),(by have:=w;omega)⟩)
  .rw [aG aD] at D;refine rL (h:=wq (λj=>?_) λj=>?_)
   .have hP0:P=[]:=j;have C:Iz t rs h codes=a:=by
     unfold Iz;rw [<- List.take_append_drop i codes,iL,g,Mf (by rw [<- D];exact hP0)]
    have Y:=wa Y C;exact j4 (h:=hQ _ _ (iv C))
   .have hPn:P≠[]:=λhe=>j he;have a4:=g7.2 hPn;have tm:=eM (aD:0<=(x.toNat:Int)) (aD:(0:Int)<P.length);have B:((x.toNat:Int).tmod P.length).toNat<P.length:=aD;obtain ⟨m,z⟩:∃ s,s=QQ P x:=⟨_,rfl⟩;have S:m=P[((x.toNat:Int).tmod P.length).toNat]:=by rw [z];unfold QQ;rw [aA B];rfl
    have R:[codes[i]].foldl (AH t rs) (b,a)=(m.after,a++[m]):=by
     show AH t rs (b,a) codes[i]=_;unfold AH;rw [<- D,if_neg hPn,z,X]
    have A:(P.length:Int)≠0:=aD;have Y:=xa7 Y j (aA B) (Eq.symm S) A tm @Stp26.c.eq_1 @Mat.c.eq_1 @Rule.c.eq_1;exact rL (h:=wx V (i+1) ⟨m.after,(a++[m]),wg,wn,wn,wn,wn,wj,(by rw [List.take_succ_eq_append_getElem N,iL,g];exact R),ie⟩)
 .have C:Iz t rs h codes=a:=by
   unfold Iz;rw [aG aD] at g;rw [g]
  have Y:=wa Y C;exact j4 (h:=hQ _ _ (iv C))
structure Dr27 where
 first:Dr26
 cg:Dr24
 b7:List UInt8
def Dr27.c (d:Dr27):UN:=d.first.c++d.cg.c++[.list (d.b7.map cU)]
@[go_sem] theorem Dr27.Q (d:Dr27):D.L d.c=true:=by simp [Dr27.c,zQ,Dr26.Q,Dr24.Q,D.L,D.Q,OV]
def Ki (d:Dr24):Dr24:={ d with left:={ d.left with j:=small d.left.j 2 2 } }
def Dr27.bO (d:Dr27):Prop:=d.first.types.length<=8/\d.first.bE.length<=8/\d.b7.length<=4
theorem XJ (l:List Stp26):eW (l.map Stp26.c)=l.map Stp26.c:=kQ λc hc=>by
 rw [aT] at hc;obtain ⟨x,_,rfl⟩:=hc;simp [Stp26.c,Rule.c,Mat.c,Host.c,iI,mK,dLI,dI,eQ,qT,DW,DV,Ji,XK]
theorem A2 (d:Dr27)(t T:Types)(r q:Rule)(h:Host)(g f l:Bool)(L M:List Stp26)
  (y:Pua 50 [.agg d.first.c] (.tup [t.d,r.d,h.d]))
  (x:Pua 52 [t.d,.agg (Ki d.cg).c] q.d)
  (A:Pua 6 [t.d,r.d,h.d] (.bool g))
  (z:Pua 6 [t.d,q.d,h.d] (.bool f))
  (w:d.b7.length<=4->g=true->f=true->Pua 53 [t.d,.list [r.c,q.c],h.d,.list (d.b7.map cU)] (.list (L.map Stp26.c)))
  (s:¬ d.bO->T=⟨[],[]⟩/\M=[]/\l=false)
  (p:d.bO->¬ (g=true/\f=true)->T=t/\M=[]/\l=false)
  (o:d.bO->g=true/\f=true->T=t/\M=L/\l=true) :
  Pua 13 [.agg d.c] (.tup [T.d,.list (M.map Stp26.c),.bool l]):=by
 refine qP gt (λQ n=>(Tz.cK ⟨λt=>t==2||t==5||t==6||t==7||t==8||t==9,λr=>match r with|9=>[(0,4),(1,4),(4,5),(4,6),(4,7)]|_=>[]⟩ func13 rfl ?_));have Y:=xa7 @Dr27.c.eq_1 @Dr26.c.eq_1 @Dr24.c.eq_1 @Dr15.c.eq_1 @Dr5.c.eq_1 @Host.d.eq_1 @Host.c.eq_1 @Rule.d.eq_1 @Rule.c.eq_1;refine rL (h:=wq (λv=>?_) λv=>?_)
 .have e:¬ d.bO:=λe=>by unfold Dr27.bO at e;omega
  obtain ⟨k,j,i⟩:=s e;subst k j i;refine j4 (h:=?_);exact n _ _ (by simp [go_sem,Types.d,Types.c,uC,uX])
 .have e:d.bO:=by unfold Dr27.bO;omega
  refine j4 (h:=aB ((by have b:=y;simp only [Dr26.c,Dr24.c,Dr15.c,dP,dS] at b;unfold Rule.d Host.d at b;exact b)) wl ?_);refine j4 (h:=aB (Gg d.cg.left.j 2 2 aD aD) wl ?_);refine j4 (h:=aB ((by have b:=x;simp only [Ki,Dr24.c,Dr5.c] at b;unfold Rule.d at b;exact b)) wl ?_);refine rL (h:=aB (A) wl ?_);refine rL (h:=aK (λu=>z) (λu=>wl) ?_);refine rL (h:=wq (λm=>?_) λm=>?_)
  .have a:¬ (g=true/\f=true):=λa=>by rw [a.1,a.2] at m;simp at m
   obtain ⟨k,j,i⟩:=p e a;subst k j i;refine j4 (h:=?_);exact n _ _ (by simp [go_sem,Types.d,Types.c,uC,uX])
  .have a:g=true/\f=true:=by cases g<;>cases f<;>simp at m ⊢
   obtain ⟨k,j,i⟩:=o e a;subst k j i;refine j4 (h:=aH (w e.2.2 a.1 a.2) wl ?_);refine j4 (h:=?_);exact n _ _ (by simp [go_sem,Types.d,Types.c,uC,uX,XJ])
def Chn (t:Types):Host->List Stp26->Host->Prop
 | g,[],g'=>g=g'
 | g,s :: l,g'=>s.C=g/\s.x.ok/\tY t s=true/\Chn t s.after l g'
theorem Chn.fs {t:Types}{s:Stp26}(hr:s.x.ok)(hc:tY t s=true):∀ {l:List Stp26} {g:Host},Chn t g l s.C->Chn t g (l++[s]) s.after
 | [],g,h=>⟨h.symm,hr,hc,rfl⟩
 | x :: l,g,h=>⟨h.1,h.2.1,h.2.2.1,h.2.2.2.fs hr hc⟩
def afX (g:Host)(l:List Stp26):Nat->Host
 | 0=>g
 | i+1=>(Zc l i).after
theorem Chn.at {t:Types}:∀ {l:List Stp26} {g g':Host},Chn t g l g'->(∀ i,i<l.length->(Zc l i).C=afX g l i/\(Zc l i).x.ok/\tY t (Zc l i)=true)/\afX g l l.length=g'
 | [],g,g',h=>⟨λi hi=>absurd hi (Nat.not_lt_zero _),h⟩
 | s :: l,g,g',h=>by
  obtain ⟨a,b⟩:=Chn.at h.2.2.2;refine ⟨λi hi=>?_,?_⟩
  .cases i with
   | zero=>exact ⟨h.1,h.2.1,h.2.2.1⟩
   | succ i =>
    have:=a i (bY hi);cases i with
    | zero=>exact this
    | succ i=>exact this
  .rw [<- b];cases l with
   | nil=>rfl
   | cons x l=>rfl
theorem acY {t:Types}{r:Rule}{h:Host}{m:Mat}(a:jJ t r h m=0):tY t (aP t r h m)=true:=by
 unfold tY;rw [aM,decide_eq_true_eq,decide_eq_true_eq];exact ⟨a,by show fQ t r h m=_;unfold fQ;rw [if_pos a]⟩
theorem ZX {t:Types}{s:Stp26}(h:tY t s=true):jJ t s.x s.C s.U=0:=by
 unfold tY at h;simp only [aM,decide_eq_true_eq] at h;exact h.1
theorem ZW {t:Types}{rs:List Rule}{h:Host}{codes:List UInt8}(k:∀ r∈rs,∀ g,light26 t r g=true->r.ok):(Iz t rs h codes).length<=codes.length/\∃ g,Chn t h (Iz t rs h codes) g:=by
 have j:∀ (l:List UInt8) (d:Host × List Stp26),Chn t h d.2 d.1->(l.foldl (AH t rs) d).2.length<=d.2.length+l.length/\Chn t h (l.foldl (AH t rs) d).2 (l.foldl (AH t rs) d).1:=λl=>by
  induction l with
  | nil=>exact λd h=>⟨bC _,h⟩
  | cons c l ih =>
   intro d i;rw [pD];have n:(AH t rs d c).2.length<=d.2.length+1/\Chn t h (AH t rs d c).2 (AH t rs d c).1:=by
    unfold AH;split
    .exact ⟨aD,i⟩
    .rename_i hne;have f:=QP hne c;generalize QQ (zZ t rs d.1) c=s at f ⊢;unfold zZ at f;obtain ⟨r,o,f⟩:=bQ.1 f;split at f
     .rename_i hl;obtain ⟨m,_,e,p⟩:=L8 f;subst e;exact ⟨by simp,Chn.fs (k r o _ hl) (acY p) i⟩
     .cases f
   obtain ⟨a,b⟩:=ih _ n.2;exact ⟨by rw [eO];omega,b⟩
 obtain ⟨a,b⟩:=j codes (h,[]) rfl;exact ⟨by unfold Iz;simpa using a,_,b⟩
def Ky (i j:Int)(x:Edge):Bool:=decide (x.w=i)&&decide (x.M=j)
def OY (g:Graph)(i j:Int)(k:Nat):V2:=((g.i.take k).filter (Ky i j)).map Edge.type
def yS (g:Graph)(i j:Int):V2:=i7 (OY g i j g.i.length)
@[go_sem] theorem aeG (g:Graph)(i j:Int):OY g i j 0=[]:=by simp [OY]
theorem WI {g:Graph}{i j:Int}{k:Nat}(h:k<g.i.length):OY g i j (k+1)=OY g i j k++if Ky i j g.i[k]=true then [g.i[k].type] else []:=by
 unfold OY;rw [List.take_succ_eq_append_getElem h,fN,List.map_append];split<;>rename_i a<;>simp [a]
def Hi (a b:Host)(l:V2)(k j:Nat):Bool :=
 decide (yS a.j j l.length=yS b.j (iA (l++[(k:Int)]) j) k)&&decide (yS a.j l.length j=yS b.j k (iA (l++[(k:Int)]) j))
def CY (a b:Host)(l:V2)(k:Nat):Bool :=
 !(mem l k)&&(decide (gN a.j l.length=gN b.j k)&&(decide (a.k[l.length]?.getD []=b.k[k]?.getD [])&&(List.range (l.length+1)).all (Hi a b l k)))
def jZ (a b:Host):Nat->V2->Option V2
 | 0,l=>some l
 | d+1,l=>(List.range b.j.h.length).findSome? λ(k:Nat)=>if CY a b l k=true then jZ a b d (l++[(k:Int)]) else none
structure FhG (a b:Host):Prop where
 av:a.k.length=a.j.h.length
 bv:b.k.length=b.j.h.length
 an:a.j.h.length<=100000
 bn:b.j.h.length<=100000
 ae:a.j.i.length<=1000000
 be:b.j.i.length<=1000000
theorem Cs {α:Type}{f:Nat->Option α}{n:Nat}(h:∀ k,k<n->f k=none):(List.range n).findSome? f=none:=by
 rw [List.findSome?_eq_none_iff];intro k a;exact h k (aV.1 a)
theorem GE {α:Type}{f:Nat->Option α}:∀ {n k:Nat} {r:α},k<n->(∀ j,j<k->f j=none)->f k=some r->(List.range n).findSome? f=some r
 | 0,k,r,h,_,_=>by omega
 | n+1,k,r,h,hn,hk=>by
  rw [bR,List.findSome?_append];by_cases hkn:k<n
  .rw [GE hkn hn hk];rfl
  .obtain rfl:k=n:=aD;rw [Cs hn];simp [hk]
theorem PH {xs c:V2}(h:xs.Perm c):i7 xs=i7 c:=by
 have d:(i7 xs).Perm (i7 c):=((vM xs _).trans h).trans (vM c _).symm;exact d.eq_of_pairwise (λa b _ _ d e=>by omega) (xL xs) (xL c)
theorem FB {a b:Host}:∀ {m:Nat} {l r:V2},jZ a b m l=some r->r.length=l.length+m
 | 0,l,r,h=>by simp only [jZ,bI] at h;rw [h];rfl
 | m+1,l,r,h=>by
  simp only [jZ] at h;obtain ⟨k,_,hk⟩:=List.exists_of_findSome?_eq_some h;split at hk
  .rw [FB hk];simp;omega
  .cases hk
def mvE (s:Part)(x:Edge):Edge:=⟨x.type,iA s.h x.w,iA s.h x.M⟩
theorem Xy {l:V2}{n:Nat}(d:l.length=n)(a:∀ x∈l,0<=x/\x<n)(b:l.Nodup):l.Perm (f6 n):=by
 refine (List.perm_ext_iff_of_nodup b (DZ n)).2 λx=>⟨λh=>?_,λh=>By d a b (HE x h)⟩;obtain ⟨c,e⟩:=a x h;have:=eB (l:=f6 n) c (by simp [f6];omega);rwa [wF c e] at this
theorem V5 (g:Graph):(f6 g.i.length).map (eA g)=g.i:=by
 refine fD (by simp [f6]) λi b a=>?_;rw [iG];have:(f6 g.i.length)[i]'(bY b)=(i:Int):=by simp [f6]
 rw [this,UU a]
theorem HIso.i {a b:Host}{s:Part}(I:HIso a b s):(a.j.i.map (mvE s)).Perm b.j.i:=by
 have c:a.j.i.map (mvE s)=s.i.map (eA b.j):=by
  refine fD (by simp [I.el]) λi c f=>?_;rw [iG,iG];have e:i<a.j.i.length:=by simpa using c
  have d:i<s.i.length:=by simpa using f
  have:=I.eg i aD aD;rw [iK d,UU e] at this;rw [this];rfl
 rw [c];conv=>rhs;rw [<- V5 b.j]
 exact (Xy (by rw [I.el,I.en]) I.ei I.ed).map _
theorem HIso.hf {a b:Host}{s:Part}(I:HIso a b s)(g:graphF a.j=0){x y:Int}(f:0<=x/\x<a.j.h.length)(d:0<=y/\y<a.j.h.length):yS a.j x y=yS b.j (iA s.h x) (iA s.h y):=by
 unfold yS;refine PH ?_;unfold OY;rw [vK,vK];have j:=((I.i.filter (Ky (iA s.h x) (iA s.h y))).map Edge.type).symm;refine List.Perm.trans (List.Perm.of_eq ?_) j.symm;rw [List.filter_map,FY];rw [show Edge.type ∘ mvE s=Edge.type from rfl];congr 1;refine HQ λe i=>?_;have c:=((dY g).2 e i).2;unfold Ky mvE;simp only [Function.comp];congr 1
 .exact decide_eq_decide.2 ⟨λh=>by rw [h],λh=>I.inj c.1 f h⟩
 .exact decide_eq_decide.2 ⟨λh=>by rw [h],λh=>I.inj c.2 d h⟩
theorem HIso.ht {a b:Host}{s:Part}(I:HIso a b s)(m:graphF a.j=0){i:Nat}(r:i<a.j.h.length):CY a b (s.h.take i) (iA s.h i).toNat=true:=by
 have q:=I.nl;have c:(s.h.take i).length=i:=by simp;omega
 have e:i<s.h.length:=aD;have p:=I.ni _ (eB (l:=s.h) (n:=(i:Int)) aD aD);have k:(((iA s.h i).toNat:Nat):Int)=iA s.h i:=aD;have g:∀ j:Nat,j<i+1->iA (s.h.take i++[iA s.h i]) j=iA s.h j:=λj d=>by
  rw [iK e,<- List.take_succ_eq_append_getElem e];unfold iA;rw [Int.toNat_natCast,List.getElem?_take_of_lt d]
 unfold CY;rw [c,k];simp only [aM,cZ,decide_eq_true_eq];refine ⟨?_,I.ty i aD aD,?_,?_⟩
 .rw [bJ];intro h;rw [mem_iff] at h;obtain ⟨j,d,o⟩:=aO h;rw [Ao] at o;rw [c] at d;have:=CR I.nd (i:=j) (j:=i) aD e (by rw [iK (by omega:j<s.h.length),o]);omega
 .have:=I.va i aD aD;rwa [Int.toNat_natCast] at this
 .rw [cF];intro j d;have f:=aV.1 d;unfold Hi;rw [c,k,g j f,aM,decide_eq_true_eq,decide_eq_true_eq];exact ⟨I.hf m aD aD,I.hf m aD aD⟩
theorem HIso.e7 {a b:Host}{s:Part}(I:HIso a b s)(hg:graphF a.j=0):∀ (m i:Nat),i+m=a.j.h.length->(jZ a b m (s.h.take i)).isSome=true
 | 0,i,h=>by simp [jZ]
 | m+1,i,h=>by
  simp only [jZ,List.findSome?_isSome_iff];have hi:i<a.j.h.length:=aD;have hl:=I.nl;have hs:i<s.h.length:=aD;have hin:=I.ni _ (eB (l:=s.h) (n:=(i:Int)) aD aD);refine ⟨(iA s.h i).toNat,aV.2 aD,?_⟩;rw [if_pos (I.ht hg hi),show (((iA s.h i).toNat:Nat):Int)=iA s.h i by omega,iK hs,<- List.take_succ_eq_append_getElem hs];exact I.e7 hg m (i+1) aD
theorem HIso.gn {a b:Host}{s:Part}(I:HIso a b s)(d:graphF a.j=0):∃ r,jZ a b a.j.h.length []=some r/\r.length=a.j.h.length:=by
 have h:=I.e7 d a.j.h.length 0 aD;rw [GR] at h;obtain ⟨r,c⟩:=gZ.1 h;exact ⟨r,c,by rw [FB c];simp⟩
theorem Tt {l:V2}(a:l.Nodup){i j:Nat}(c:i<l.length)(b:j<l.length)(h:iA l i=iA l j):i=j:=by
 rw [iK c,iK b] at h;exact (i6 a).1 h
theorem UD {a b:Graph}{m:Part}(h:BW a b m=true):eR a b m=0/\m.h.Nodup/\m.i.Nodup:=by
 simpa [BW] using h
theorem Kt {t:Types}{s:Stp26}(c:s.x.ok)(h:tY t s=true):s=aP t s.x s.C s.U/\StepOk t s.x s.C s.U:=by
 unfold tY at h;simp only [aM,decide_eq_true_eq] at h;obtain ⟨b,a⟩:=h;unfold fQ at a;rw [if_pos b] at a;exact ⟨a.symm,kD c b⟩
theorem Srt.fb {keep c e:V2}{u d h:Nat}(S:Srt keep c e u d h)(y:keep.Nodup)(w:e.Nodup):(uJ keep c e d h).Nodup:=by
 have n:∀ i j:Nat,i<d->j<d->iA (uJ keep c e d h) i=iA (uJ keep c e d h) j->i=j:=λi j l k m=>by
  have x:=S.kl;have v:=S.ml;by_cases a:(i:Int)∈c
  .by_cases b:(j:Int)∈c
   .obtain ⟨p,H,D⟩:=mZ a;obtain ⟨q,G,C⟩:=mZ b;have s:iA keep p∈keep:=eB aD aD;have r:iA keep q∈keep:=eB aD aD;have F:=S.kr _ s;have E:=S.kr _ r;rw [<- D,<- C,S.bd aD,S.bd aD] at m;have o:=S.cn (S.ap s) (S.ap r) m;have t:=Tt w (i:=(iA keep p).toNat) (j:=(iA keep q).toNat) aD aD (by
     rw [show (((iA keep p).toNat:Nat):Int)=iA keep p by omega,show (((iA keep q).toNat:Nat):Int)=iA keep q by omega];exact o)
    have A:=Tt y (i:=p) (j:=q) aD aD aD;subst A;omega
   .obtain ⟨f,_,_,B⟩:=S.aj (j:=(j:Int)) aD b;have:=S.eu a;omega
  .obtain ⟨f,M,L,B⟩:=S.aj (j:=(i:Int)) aD a;by_cases b:(j:Int)∈c
   .have:=S.eu b;omega
   .obtain ⟨g,K,J,I⟩:=S.aj (j:=(j:Int)) aD b;have:f=g:=aD;subst this;omega
 rw [e8,dF];intro i j l k z m;have o:i<d:=by rw [eV] at l;exact l
 have t:j<d:=by rw [eV] at k;exact k
 have:=n i j o t (by rw [iK l,iK k];exact m);omega
section
variable {t:Types} {r:Rule} {h:Host} {m:Mat}
theorem StepOk.nodup (K:StepOk t r h m)(c:r.inj=true):m.m.h.Nodup/\m.m.i.Nodup:=by
 have b:=K.ey;unfold o7 at b;split at b
 .cases b
 .rename_i h1;have a:=(oS (bY h1)).2;rw [Jq] at a;split at a
  .exact absurd a ic
  .split at a
   .cases a
   .rename_i hc;exact ⟨aY λq=>hc ⟨c,.inl q⟩,aY λq=>hc ⟨c,.inr q⟩⟩
end
structure InvOf (t:Types) (q w:Rule):Prop where
 lp:w.left=⟨q.right.j,[],0,[]⟩
 rg:w.right.j=q.left.j
 rs:w.right.l=[]
 kp:w.q=gX q
 io:w.s=iZ q
 inj:w.inj=true->q.inj=true
 hy:∀ g m,(mJ t g w.inj w.cond m).2=0/\(mJ t g w.inj w.cond m).1=true
 vf:ruleF t w=0
 ok:w.ok
def Bq (t:Types)(q:Rule)(h:Host)(m:Mat):Prop :=
 ∀ i:Int,0<=i->i<q.left.j.h.length->i∉q.q.h->gN h.j (iA m.m.h i)=gN q.left.j i/\h.k[(iA m.m.h i).toNat]?.getD []=iP t (gN q.left.j i)
section
variable {t:Types} {q w:Rule} {h:Host} {m:Mat}
theorem W8 {q:Rule}{t:Types}{h:Host}{m:Mat}(S:StepIn t q h m){i:Int}(c:i∈q.q.h):i∈(iZ q).h:=by
 obtain ⟨p,b,rfl⟩:=mZ c;have N:=S.ak;have f:=N.kl;have e:=xJ N b;have a:iA q.s.h p∈q.s.h:=eB aD aD;obtain ⟨d,_,_⟩:=zD (qZ q.s.h q.right.j.h.length) (fF.2 ⟨N.ir _ a,a⟩);show iA q.q.h p∈dA (fH q.s.h q.right.j.h.length) q.s.h q.q.h;rw [<- e];exact eB aD (by unfold dA;rw [aR];omega)
theorem StepOk.ej (K:StepOk t q h m)(o:q.right.l=[])(L:Bq t q h m):i9 t (aP t q h m) m.m.h.length=[]:=by
 have S:=K.S;have f:=S.hm.len;rw [lO];intro x l;obtain ⟨i,z,k,r,b,_⟩:=pQ.1 l;obtain ⟨y,g,w⟩:=S.bx (i:=i) aD;apply b;unfold Lz;by_cases hm:mem q.q.h (i:Int)=true
 .rw [show (aP t q h m).x=q from rfl,if_pos hm];have c:(i:Int)∈q.q.h:=(mem_iff _ _).1 hm;have n:(aP t q h m).after.k=(bT t q h m).k:=by
   show uU (cT q h m) m.vars q.right.l (bT t q h m).k=_;rw [o];rfl
  have v:iA (aP t q h m).V.h (iA m.m.h i)=iA (nP q.q.h m.m.h h.j.h.length) (iA m.m.h i):=by
   show iA (dK q h m).h _=_;rw [S.b2]
  have u:=(S.fw (x:=iA m.m.h i) (S.ak.ap c)).2;show (n7 (aP t q h m) i)[k]?.getD 0=((aP t q h m).after.k[(iA (aP t q h m).V.h (iA m.m.h i)).toNat]?.getD [])[k]?.getD 0;rw [n,v,u];rfl
 .rw [show (aP t q h m).x=q from rfl,if_neg hm];have p:(i:Int)∉q.q.h:=λs=>hm ((mem_iff _ _).2 s);obtain ⟨d,j⟩:=L (i:Int) aD aD p;have e:n7 (aP t q h m) i=iP t (gN q.left.j i):=j;show (n7 (aP t q h m) i)[k]?.getD 0=((bL t (gN h.j (iA m.m.h i)))[k]?.getD nX).ao;have a:k<(bL t (gN h.j (iA m.m.h i))).length:=by rw [<- g];exact r
  rw [e,d];rw [d] at a;unfold iP;rw [aN,aA a];rfl
theorem Vx {t:Types}{u w:Rule}{g:Host}{M:Mat}(o:lD w.left.j g.j M.m=lD u.left.j g.j M.m)(b:w.q=u.q)(d:w.s=u.s)(e:u.right.j.h.length=w.right.j.h.length)
  (a:u.right.j.i=w.right.j.i) (ty:∀ k∈w.N,gN w.right.j k=gN u.right.j k) (j:u.right.l=[]) (i:w.right.l=[]) :
  bZ w g M=bZ u g M/\cT w g M=cT u g M/\bP t w g M=bP t u g M/\bT t w g M=bT t u g M:=by
 have c:bZ w g M=bZ u g M:=by unfold bZ;rw [o,b]
 have r:dK w g M=dK u g M:=by unfold dK;rw [c]
 have h:cT w g M=cT u g M:=by unfold cT;rw [r,c,b,d,e,a]
 have q:u.N=w.N:=by unfold Rule.N;rw [d,e]
 have p:u.ad=w.ad:=by unfold Rule.ad;rw [d,a]
 have f:bT t w g M=bT t u g M:=by
  unfold bT j9;rw [c,h,q,p,a];have n:w.N.map (gN w.right.j)=w.N.map (gN u.right.j):=b8 ty;have l:w.N.map (λk=>iP t (gN w.right.j k))=w.N.map (λk=>iP t (gN u.right.j k)):=b8 λk b=>by rw [ty k b]
  rw [n,l]
 exact ⟨c,h,by unfold bP;rw [f,j,i];rfl,f⟩
theorem InvOf.same (K:StepOk t q h m)(V:InvOf t q w)(g:q.right.l=[])(L:Bq t q h m) :
  bZ w (bP t q h m) ⟨cT q h m,[]⟩=bZ (dC t (aP t q h m)) (bP t q h m) ⟨cT q h m,[]⟩/\cT w (bP t q h m) ⟨cT q h m,[]⟩=cT (dC t (aP t q h m)) (bP t q h m) ⟨cT q h m,[]⟩ /\
  bP t w (bP t q h m) ⟨cT q h m,[]⟩=bP t (dC t (aP t q h m)) (bP t q h m) ⟨cT q h m,[]⟩/\(bT t w (bP t q h m) ⟨cT q h m,[]⟩)=bT t (dC t (aP t q h m)) (bP t q h m) ⟨cT q h m,[]⟩:=by
 have S:=K.S;have a:=S.hm.len;have b:(dC t (aP t q h m)).right.j=lD q.left.j h.j m.m:=rfl;refine Vx (by rw [V.lp];rfl) (by rw [V.kp];rfl) (by rw [V.io];rfl) (by rw [b,V.rg];show (m.m.h.map _).length=_;rw [aR,a]) (by rw [b,V.rg];rfl) (λk j=>?_) (K.ej g L) V.rs;obtain ⟨⟨e,c⟩,d⟩:=dQ.1 j;rw [V.io] at d;rw [V.rg] at c;have i:k∉q.q.h:=λl=>d (W8 S l);have f:=(L k e c i).1;rw [b,V.rg,<- f];exact (S.dy e c).symm
theorem InvOf.fa (K:StepOk t q h m)(V:InvOf t q w){inj:Bool}(M:inj=true->q.inj=true):checkE t w.left.j (bP t q h m).j (cT q h m) inj=0:=by
 have S:=K.S;have H:HostOk t (bP t q h m):=lK K.after;have g:w.left.j=q.right.j:=by rw [V.lp]
 have x:=K.ul.2.2;obtain ⟨a1,a2⟩:=Bz x;obtain ⟨_,_,l1,l2⟩:=kS x;have F:=S.dq;have G:=S.a6;have J:=S.hR.q;have lN:(cT q h m).h.length=q.right.j.h.length:=by rw [S.bc,eV]
 have lE:(cT q h m).i.length=q.right.j.i.length:=by rw [S.ca,eV]
 have c:=kF S.hR.gr S.hR.tr;rw [g];have Z:bW (mNE t q.right.j (bP t q h m).j (cT q h m)) 0 q.right.j.h.length=0:=iT _ _ λj _ o=>by
  have L:=G _ (eB (l:=(cT q h m).h) (n:=(j:Int)) aD aD);have e:(cT q h m).h[j]?.getD 0=iA (cT q h m).h j:=rfl;unfold mNE;rw [e,if_neg aD];refine if_pos ?_;show vO t (gN q.right.j (j:Int)) (gN (bP t q h m).j (iA (cT q h m).h j))=true;by_cases b:(j:Int)∈q.s.h
  .obtain ⟨p,hp,X⟩:=mZ b;have d:p<q.q.h.length:=aD;have C:=J.2.1 _ (eB (l:=q.q.h) (n:=(p:Int)) aD aD);have B:=(p7 S.hR.sub).1;obtain ⟨_,y⟩:=zG S.hR.mo (i:=(p:Int)) aD aD;rw [<- X,y,q9 S.hR.sub aD aD];have r:gN (bP t q h m).j (iA (cT q h m).h (iA q.s.h p))=gN h.j (iA m.m.h (iA q.q.h p)):=S.cz d;rw [r];obtain ⟨a,k⟩:∃ a:Nat,(a:Int)=iA q.q.h p:=⟨(iA q.q.h p).toNat,aD⟩;rw [<- k] at C ⊢;have I:=S.hm.len;have u:a<m.m.h.length:=aD;have s:a<q.left.j.h.length:=aD;have P:=(S.hm.b5 a u s).2;have R:gN q.left.j (a:Int)=q.left.j.h[a]:=aaR s;have Q:iA m.m.h (a:Int)=m.m.h[a]:=iK u;rw [R,Q];exact P
  .obtain ⟨f,W,U,T⟩:=S.ak.aj (j:=(j:Int)) ⟨aD,aD⟩ b;have v:=(S.dv (f:=f) W).1;rw [S.bb] at v;have O:iA q.N f=(j:Int):=U;have r:gN (bP t q h m).j (iA (cT q h m).h j)=gN q.right.j (j:Int):=by
    show gN (bT t q h m).j _=_;rw [S.bc,T,v,O]
   rw [r];exact Np (nI S.hR.vf) (c.1 _ (CU aD aD))
 have Y:bW (mapEE q.right.j (bP t q h m).j (cT q h m)) 0 q.right.j.i.length=0:=iT _ _ λj _ o=>a2 j (by show j<q.right.j.i.length;omega);have N:eH t q.right.j (bP t q h m).j=0:=JW S.hR.gr S.hR.tr H;unfold checkE matchE;rw [if_neg (by rw [N];simp),if_neg aD,if_neg (by rw [Z];simp),if_neg (by rw [Y];simp),if_neg];rintro ⟨o,hd⟩;obtain ⟨A,z⟩:=K.nodup (M o);have E:=jC (nQ S.hR.sub).2.1;have D:=jC (uO S.hR.sub);rcases hd with hd|hd
 .exact hd (by rw [S.bc];exact S.ak.fb E A)
 .exact hd (by rw [S.ca];exact S.ba.fb D z)
theorem InvOf.fU (K:StepOk t q h m)(e:q.ok)(x:ruleF t q=0)(V:InvOf t q w)(k:q.right.l=[])(L:Bq t q h m) :
  jJ t w (bP t q h m) ⟨cT q h m,[]⟩=0/\∃ p,HIso (bP t w (bP t q h m) ⟨cT q h m,[]⟩) h p:=by
 have r:=K.ej k L;have u:=K.gz e x (by rw [r];simp);have B:=L2 K e u;obtain ⟨C,A,z,y⟩:=V.same K k L;refine ⟨?_,_,by rw [z];exact B.g3⟩;have j:=B.K';have hc:=V.fa K V.inj;have i:=V.fa K (inj:=false) (λs=>by cases s);have v:c9 t w.left=0:=by rw [V.lp];exact qQ K.S.hR.vf K.S.hR.gr K.S.hR.tr
 have d:eG t w.left (bP t q h m) (cT q h m)=([],0):=by
  unfold eG;rw [if_neg (by rw [v];simp),if_neg (by rw [K.after];simp),if_neg (by rw [i];simp),V.lp];rfl
 have c:oZ (lD w.left.j (bP t q h m).j (cT q h m)) (bP t q h m).j w.q (cT q h m)=0:=by
  have:=j.S.hc;rw [V.lp,V.kp];exact this
 have g:o7 t w (bP t q h m) ⟨cT q h m,[]⟩=0:=by
  unfold o7;simp only;rw [if_neg (by rw [hc];simp),d,if_neg aE,if_neg aE];exact c
 have l:=V.hy (bP t q h m) ⟨cT q h m,[]⟩;have b:lC t w (bP t q h m) ⟨cT q h m,[]⟩=0:=by
  unfold lC;rw [if_neg (by rw [g];simp),if_neg (by rw [l.1];simp),if_neg (by rw [l.2];simp)]
 have f:sP t (bT t w (bP t q h m) ⟨cT q h m,[]⟩).j (cT w (bP t q h m) ⟨cT q h m,[]⟩) (Mat.mk (cT q h m) []).vars w.right.l=0:=by
  rw [V.rs];rfl
 have o:=j.nn;have n:=j.ne;rw [<- y] at o n;have a:gM t w (bP t q h m) ⟨cT q h m,[]⟩=0:=by
  unfold gM;rw [if_neg (by rw [b];simp),if_neg (by rw [f];simp),if_neg aD]
 unfold jJ fW;rw [if_neg (by rw [if_neg (by rw [V.vf];simp),K.after];simp),a]
end
def kT (r:Rule):Rule:=⟨r.name,⟨r.right.j,[],0,[]⟩,⟨r.left.j,[],0,[]⟩,gX r,iZ r,r.inj,trueC⟩
def tD (t:Types)(r:Rule):Int :=
 if ruleF t r≠0 then ruleF t r else if tA r=false then 8
 else if pX t r.left.j (bH r.q.h r.left.j.h.length) (bH r.q.i r.left.j.i.length)=false then 13 else 0
theorem Nf {l keep:V2}(h:l.Nodup):oD l keep=[]:=Yn λi k hik hk he=>by
 have h1:=Tt h (i:=i) (j:=k) aD hk (by
  have e:∀ j:Nat,iA l (j:Int)=l[j]?.getD 0:=λj=>rfl;rw [e,e];exact he)
 omega
theorem XL {n:Nat}{x:Int}(h:x∈f6 n):0<=x/\x<n:=by
 unfold f6 at h;obtain ⟨k,a,rfl⟩:=aT.1 h;have:=aV.1 a;omega
section
variable {t:Types} {r:Rule}
theorem RuleV.ak (R:RuleV t r):Srt r.q.h r.s.h (f6 r.left.j.h.length) r.left.j.h.length r.right.j.h.length r.left.j.h.length :=
 ⟨R.q.1.1,R.q.2.1,R.q.2.2.2.1,(UD R.inj).2.1,g9 _,λx hx=>XL hx,Nf (Jk _)⟩
theorem RuleV.ba (R:RuleV t r):Srt r.q.i r.s.i (f6 r.left.j.i.length) r.left.j.i.length r.right.j.i.length r.left.j.i.length :=
 ⟨R.q.1.2,R.q.2.2.1,R.q.2.2.2.2,(UD R.inj).2.2,g9 _,λx hx=>XL hx,Nf (Jk _)⟩
theorem H7 {keep a g:V2}{e c f:Nat}(S:Srt keep a g e c f){x:Int}:x∈dA (fH a c) a keep↔x∈keep:=by
 have i:=S.kl;constructor
 .intro hx;obtain ⟨y,h,rfl⟩:=aT.1 hx;have b:=(fF.1 h).2;obtain ⟨q,d,rfl⟩:=mZ b;rw [zK S.cw d];exact eB aD aD
 .intro hx;obtain ⟨q,d,rfl⟩:=mZ hx;have b:iA a q∈a:=eB aD aD;refine aT.2 ⟨iA a q,fF.2 ⟨S.ir _ b,b⟩,?_⟩;rw [zK S.cw aD]
theorem L4 {keep a e:V2}{c b d:Nat}(S:Srt keep a e c b d)(f:keep.Pairwise (· < ·)):fH (dA (fH a b) a keep) c=keep:=by
 refine EG (qZ _ _) f λx=>?_;rw [fF,H7 S];exact ⟨λh=>h.2,λh=>⟨S.kr x h,h⟩⟩
theorem L5 {keep a k:V2}{i b j:Nat}(S:Srt keep a k i b j)(o:keep.Pairwise (· < ·)):dA keep (dA (fH a b) a keep) (fH a b)=a:=by
 have n:=S.kl;have l:=uN S (jC o);refine Q8 (by unfold dA;rw [aR];exact n) λp d=>?_;have c:p<keep.length:=by unfold dA at d;rwa [aR] at d
 have f:iA a p∈a:=eB aD aD;obtain ⟨h,g,_⟩:=zD (qZ a b) (fF.2 ⟨S.ir _ f,f⟩);have e:=xJ S c;have m:pI (fH a b) (iA a p)<(dA (fH a b) a keep).length:=by unfold dA;rw [aR];exact h
 show iA (keep.map λx=>iA (fH a b) (idx (dA (fH a b) a keep) x)) (p:Int)=iA a p;rw [uZ _ aD aD,<- e,zK l m,g]
theorem RuleV.dd (R:RuleV t r):r.q.h.Pairwise (· < ·)/\r.q.i.Pairwise (· < ·):=⟨(nQ R.sub).2.1,uO R.sub⟩
theorem RuleV.ec (R:RuleV t r):gX (kT r)=r.q:=by
 show (⟨fH (dA (fH r.s.h r.right.j.h.length) r.s.h r.q.h) r.left.j.h.length,fH (dA (fH r.s.i r.right.j.i.length) r.s.i r.q.i) r.left.j.i.length⟩:Part)=r.q;rw [L4 R.ak R.dd.1,L4 R.ba R.dd.2]
theorem RuleV.fg (R:RuleV t r):iZ (kT r)=r.s:=by
 have e:iZ (kT r)=⟨dA (gX (kT r)).h (iZ r).h (gX r).h,dA (gX (kT r)).i (iZ r).i (gX r).i⟩:=rfl;rw [e,R.ec];have b:dA r.q.h (iZ r).h (gX r).h=r.s.h:=L5 R.ak R.dd.1;have a:dA r.q.i (iZ r).i (gX r).i=r.s.i:=L5 R.ba R.dd.2;rw [b,a]
theorem X2 (R:RuleV t r):keptF (kT r)=0:=by
 have N:=R.ak;have E:=R.ba;have D:=nQ R.sub;have K:=kF R.gr R.tr;have L:=N.kl;have O:=E.kl;have f:subF r.right.j (gX r)=0:=by
  refine NJ R.gr (λx s=>(fF.1 s).1) (qZ _ _) (λx s=>(fF.1 s).1) (qZ _ _) λk M=>?_;obtain ⟨a,u⟩:=fF.1 M;obtain ⟨q,U,rfl⟩:=mZ u;obtain ⟨_,⟨p,B,_,n⟩,⟨C,e,_,b⟩⟩:=R.cM (q:=q) aD;have g:=wN R.gr a.1 a.2;exact ⟨fF.2 ⟨g.1,n ▸ eB aD aD⟩,fF.2 ⟨g.2.1,b ▸ eB aD aD⟩⟩
 obtain ⟨z,y⟩:=p7 f;obtain ⟨T,S⟩:=p7 R.sub;have I:(iZ r).h.length=(gX r).h.length:=by simp [iZ,dA]
 have J:(iZ r).i.length=(gX r).i.length:=by simp [iZ,dA]
 have P:graphF (cJ r.right.j (gX r))=0:=J4 f;have F:eR (cJ r.right.j (gX r)) r.left.j (iZ r)=0:=by
  refine BA P R.pl.gg (by rw [z,I]) (by rw [y,J]) (λi h d=>?_) (λk h d=>?_)
  .rw [z] at d;obtain ⟨q,A,m,l⟩:=Di N h d;have c:iA r.q.h q∈r.q.h:=eB aD aD;have a:=N.kr _ c;have v:iA (iZ r).h i=iA r.q.h q:=l;have w:iA (gX r).h i=iA r.s.h q:=m;rw [v,q9 f h d,w];refine ⟨a,?_⟩;obtain ⟨_,j⟩:=zG R.mo (i:=(q:Int)) aD aD;rw [j,q9 R.sub aD aD]
  .rw [y] at d;obtain ⟨q,A,m,l⟩:=Di E h d;have c:iA r.q.i q∈r.q.i:=eB aD aD;have a:=E.kr _ c;have v:iA (iZ r).i k=iA r.q.i q:=l;have w:iA (gX r).i k=iA r.s.i q:=m;obtain ⟨Q,⟨p,B,H,n⟩,⟨C,e,o,b⟩⟩:=R.cM A;have G:iA (iZ r).h (pI (gX r).h (iA r.s.h p))=_:=xJ N B;have j:iA (iZ r).h (pI (gX r).h (iA r.s.h C))=_:=xJ N e;rw [v,zO f h d,CV,w,<- n,<- b];simp only;rw [G,j,H,o];exact ⟨a,Q.symm,rfl,rfl⟩
 refine Rf (r:=kT r) f F ?_;unfold BW;show (decide (eR (cJ r.right.j (gX r)) r.left.j (iZ r)=0)&&(decide (iZ r).h.Nodup&&decide (iZ r).i.Nodup))=true;simp only [aM,decide_eq_true_eq];exact ⟨F,uN N (jC R.dd.1),uN E (jC R.dd.2)⟩
theorem DS {l m:V2}(n:Nat)(h:∀ x,x∈l↔x∈m):bH l n=bH m n:=EG (lR _ _) (lR _ _) λx=>by rw [dQ,dQ,h x]
theorem Wq (R:RuleV t r):(kT r).N=bH r.q.h r.left.j.h.length/\(kT r).ad=bH r.q.i r.left.j.i.length :=
 ⟨DS _ λx=>H7 R.ak,DS _ λx=>H7 R.ba⟩
theorem ab5 (a:r.ok)(R:RuleV t r):(kT r).ok:=by
 have d:=BD r.s.h r.right.j.h.length;have c:=BD r.s.i r.right.j.i.length;have b:=bK R.gr;refine ⟨a.name,?_,?_,?_,?_,Ey.1,Ey.2⟩
 .show (fH r.s.h r.right.j.h.length).length<=1000000;omega
 .show (fH r.s.i r.right.j.i.length).length<=1000000;omega
 .show (dA (fH r.s.h r.right.j.h.length) r.s.h r.q.h).length<=1000000;unfold dA;rw [aR];omega
 .show (dA (fH r.s.i r.right.j.i.length) r.s.i r.q.i).length<=1000000;unfold dA;rw [aR];omega
theorem Wp (c:ruleF t r=0)(R:RuleV t r)(b:pX t r.left.j (bH r.q.h r.left.j.h.length) (bH r.q.i r.left.j.i.length)=true):ruleF t (kT r)=0:=by
 have a:c9 t ⟨r.right.j,[],0,[]⟩=0:=qQ R.vf R.gr R.tr;obtain ⟨e,d⟩:=Wq R;exact PR (r:=kT r) R.vf (show lJ r.name=true from Uw c) a (Mj (r:=kT r) R.pl.gg R.pl.ty rfl rfl (by show 0<=10;omega) rfl) (X2 R) (by rw [e,d];exact b) (Pu a)
theorem MU {t:Types}{g:Host}{inj:Bool}{c:Cond}{m:Mat}(h:c.D=1):(mJ t g inj c m).2=0/\(mJ t g inj c m).1=true:=by
 refine Rl.2 ?_;unfold ND;rw [Dh,h];rfl
theorem AS (h:tA r=true):r.left=⟨r.left.j,[],0,[]⟩/\r.right.l=[]/\r.cond.D=1:=by
 unfold tA at h;simp only [aM,decide_eq_true_eq,beq_iff_eq] at h;obtain ⟨d,j,i⟩:=h;have a:r.left.l.length=0:=aD;have b:r.left.G.length=0:=aD;have c:r.right.l.length=0:=aD;refine ⟨?_,bM c,i⟩;have f:=bM a;have e:=bM b;cases g:r.left
 rw [g] at f e d;simp only at f e d;subst f e d;rfl
theorem Fw (h:tD t r=0):ruleF t r=0/\tA r=true/\pX t r.left.j (bH r.q.h r.left.j.h.length) (bH r.q.i r.left.j.i.length)=true:=by
 unfold tD at h;split at h
 .exact absurd h ic
 .rename_i h1;split at h
  .cases h
  .rename_i h2;split at h
   .cases h
   .rename_i h3;exact ⟨aD,by simpa using h2,by simpa using h3⟩
theorem CO (a:r.ok)(h:tD t r=0):InvOf t r (kT r)/\InvOf t (kT r) r/\(kT r).ok/\ruleF t (kT r)=0:=by
 obtain ⟨b,j,k⟩:=Fw h;have R:=IB a b;obtain ⟨i,f,e⟩:=AS j;have d:=ab5 a R;have c:=Wp b R k;exact ⟨⟨rfl,rfl,rfl,rfl,rfl,λh=>h,λg m=>MU rfl,c,d⟩,⟨i,rfl,f,R.ec.symm,R.fg.symm,λh=>h,λg m=>MU e,b,a⟩,d,c⟩
end
end Go.Abs
end
