/- Layer 26, the plain law: what is after a step. · Layer 26, t -/
import Derived.Test.YtbgbahlipnaflaaGreatZuAN
import Derived.Test.YtbgbahlipnaflaaGreatZuAP
import Derived.Test.YtbgbahlipnaflaaGreatZuAG
import Derived.Test.YtbgbahlipnaflaaGreatZuAA
import Derived.Test.YtbgbahlipnaflaaGreatZuAE
import Derived.Carry
import Derived.ChangeArms
import Derived.WideShapes
import Derived.DataElems
set_option linter.unusedVariables false
set_option linter.unusedSimpArgs false
section
set_option maxRecDepth 100000
set_option maxHeartbeats 4000000
open Go Go.Proofs Tryz
namespace Go.Abs
theorem Lk {l:V2}(hn:l.Nodup){p:Nat}(hp:p<l.length):∀ n,n<=l.length->gY l n l[p]=if p<n then (p:Int) else -1
 | 0,_=>rfl
 | n+1,h=>by
  rw [rO,Lk hn hp n aD,aA aD,Option.getD_some];by_cases he:n=p
  .subst he;rw [if_pos rfl,if_pos aD]
  .rw [if_neg (λe=>he ((jZ hn).1 e))];by_cases h2:p<n
   .rw [if_pos h2,if_pos aD]
   .rw [if_neg h2,if_neg aD]
theorem qS {l:V2}(b:l.Nodup){p:Nat}(a:p<l.length):gY l l.length l[p]=p:=by rw [Lk b a _ (bF _),if_pos a]
theorem rP {l:V2}{v:Int}(h:v∉l):∀ n,n<=l.length->gY l n v = -1
 | 0,_=>rfl
 | n+1,hl=>by
  rw [rO,rP h n aD,aA aD,Option.getD_some,if_neg];exact λe=>h (e ▸ aC _)
theorem Ll {l:V2}(b:l.Nodup)(v:Int):decide (gY l l.length v<0) = !mem l v:=by
 by_cases h:v∈l
 .obtain ⟨p,a,rfl⟩:=aN h;rw [qS b a,(mem_iff _ _).2 h];simp
 .rw [rP h _ (bF _),bK.2 λc=>h ((mem_iff _ _).1 c)];rfl
theorem Mf {l:V2}(a:l.Nodup)(i:Nat):BO l i=(bG l i).length:=by
 unfold BO bG;rw [aR];congr 1;exact Gy λj _=>Ll a j
theorem Ea {l:V2}:∀ (n j:Nat),j<n->mem l j=false->(bG l n)[(bG l j).length]?=some (j:Int)
 | n+1,j,hj,hm=>by
  rw [qF];by_cases h:j=n
  .subst h;rw [if_neg (by rw [hm];simp),bD (bF _)];simp
  .have:=Ea n j aD hm;rw [aS (aO.1 this).1];exact this
theorem i7 {l:V2}(h:l.Pairwise (· < ·)):l.Nodup:=h.imp λh=>by omega
structure StepIn (t:Types) (r:Rule) (h:Host) (m:Mat):Prop where
 hR:RuleV t r
 ho:HostOk t h
 hm:MOk t r.left.i h.i m.m
 hc:oN (kU r.left.i h.i m.m) h.i r.q m.m=0
section
variable {t:Types} {r:Rule} {h:Host} {m:Mat}
theorem LC (c:RuleV t r)(b:HostOk t h)(a:pE t r h m=0):StepIn t r h m:=by
 unfold pE at a;split at a
 .cases a
 .rename_i h1;split at a
  .exact absurd a (by assumption)
  .split at a
   .cases a
   .exact ⟨c,b,rD (pS (bZ h1)).2,a⟩
theorem StepIn.cG (S:StepIn t r h m):bW r h m=⟨bG (g6 m.m.h r.q.h) h.i.h.length,bG (g6 m.m.j r.q.j) h.i.j.length⟩:=by unfold bW uD;rw [if_pos S.hc]
theorem StepIn.sub (S:StepIn t r h m):subF h.i (bW r h m)=0:=WD S.hc
theorem StepIn.b1 (S:StepIn t r h m):(bW r h m).h.Pairwise (· < ·):=by rw [S.cG];exact lG _ _
theorem StepIn.ej (S:StepIn t r h m):(bW r h m).j.Pairwise (· < ·):=by rw [S.cG];exact lG _ _
theorem StepIn.cx (S:StepIn t r h m):∀ x∈(bW r h m).h,0<=x/\x<h.i.h.length:=(nE S.sub).2.2.1
theorem StepIn.fh (S:StepIn t r h m):∀ x∈(bW r h m).j,0<=x/\x<h.i.j.length:=(nE S.sub).2.2.2
theorem StepIn.len (S:StepIn t r h m):(bW r h m).h.length<=40/\(bW r h m).j.length<=80:=by
 have a:=bI S.ho.gg;have c:=MO S.b1 S.cx;have b:=MO S.ej S.fh;omega
theorem StepIn.fj (S:StepIn t r h m):nZ m.m.h r.q.h=[]/\nZ m.m.j r.q.j=[]:=⟨(vP S.hc).2.2.1,(vP S.hc).2.2.2.1⟩
theorem StepIn.dx (S:StepIn t r h m){k:Int}(a:k∈r.q.h):iA m.m.h k∈(bW r h m).h:=by
 have c:=S.hR.q;have g:=S.hm.len;have b:=c.2.1 k a;have f:=w6 S.fj.1 b.1 aD a;rw [S.cG];have d:=(S.hm.bO k.toNat aD aD).1;have e:iA m.m.h k=m.m.h[k.toNat]' aD:=by unfold iA;rw [aA aD];rfl
 exact dV.2 ⟨by rw [e];exact d,f⟩
theorem StepIn.bt (S:StepIn t r h m):(bS t r h m).i.h=(bW r h m).h.map (gN h.i)++r.N.map (gN r.right.i):=by
 unfold bS j6 cO;rw [if_pos S.sub]
theorem StepIn.ch (S:StepIn t r h m):(bS t r h m).i.j=(bW r h m).j.map (gEd h.i (bW r h m))++r.aa.map (λk=>freshE (cT r h m) (r.right.i.j[k.toNat]?.getD cY)):=by
 unfold bS j6 cO;rw [if_pos S.sub]
theorem Lj:(bS t r h m).k=(bW r h m).h.map (λk=>h.k[k.toNat]?.getD [])++r.N.map (λk=>i4 t (gN r.right.i k)):=rfl
theorem StepIn.cg (S:StepIn t r h m):r.s.h.Nodup/\r.s.j.Nodup:=by
 have:=S.hR.inj;unfold Ba at this;simp only [aL,decide_eq_true_eq] at this;exact this.2
theorem StepIn.dw (S:StepIn t r h m){p:Nat}(c:p<r.s.h.length)(b:p<r.q.h.length):gN r.right.i r.s.h[p]=gN r.left.i r.q.h[p]:=by
 have d:(cO r.left.i r.q).h.length=r.q.h.length:=by unfold cO;rw [if_pos S.hR.sub];simp
 have a:=(yE S.hR.mo (i:=(p:Int)) aD aD).2;rw [qN S.hR.sub aD aD] at a;simpa [iA,aA c,aA b] using a
theorem StepIn.gm (S:StepIn t r h m){i:Nat}(o:i<r.right.i.h.length):∃ n:Nat,(cT r h m).h[i]?=some (n:Int)/\∃ hn:n<(bS t r h m).i.h.length,uT t r.right.i.h[i] ((bS t r h m).i.h[n])=true:=by
 obtain ⟨K,A,J,I,H⟩:=S.hR.q;have E:=S.hm.len;have k:=S.cg.1;have z:(cT r h m).h[i]?=some (Iu r.q.h r.s.h (pY m.m.h (dG r h m).h) (bW r h m).h.length i):=by
  unfold cT DQ;simp [o]
 rw [z];have u:=S.bt;have w:=mX S.hR.vf;have D:=(j7 S.hR.gr S.hR.tr).1 _ (aC o);by_cases hm:(i:Int)∈r.s.h
 .obtain ⟨p,B,C⟩:=aN hm;have s:p<r.q.h.length:=aD;have G:=A _ (aC s);have d:r.q.h[p].toNat<m.m.h.length:=aD;have L:=S.dx (aC s);obtain ⟨n,hn,g⟩:=aN L;have M:=S.cx _ (aC hn);have l:iA m.m.h r.q.h[p]=m.m.h[r.q.h[p].toNat]:=by unfold iA;rw [aA d];rfl
  have e:Iu r.q.h r.s.h (pY m.m.h (dG r h m).h) (bW r h m).h.length i=n:=by
   unfold Iu;rw [<- C,qS k B,if_pos aD];rw [(aD:(p:Int).toNat=p),aA s,Option.getD_some];unfold pY dG oP;rw [aM,aA d,eD,Option.getD_some];rw [<- l,<- g];simp only;rw [pT _ aD,Option.getD_some,show (((bW r h m).h[n].toNat:Nat):Int)=(bW r h m).h[n] by omega,qS (i7 S.b1) hn]
  refine ⟨n,by rw [e],by rw [u];simp;omega,?_⟩;have c:=S.dw B s;rw [C] at c;have x:gN r.right.i (i:Int)=r.right.i.h[i]:=by simp [gN,aA o]
  have j:r.q.h[p].toNat<r.left.i.h.length:=aD;have y:gN r.left.i r.q.h[p]=r.left.i.h[r.q.h[p].toNat]:=by simp [gN,aA j]
  rw [x,y] at c;rw [c];have q:=(S.hm.bO _ d j).2;have v:(bS t r h m).i.h[n]?=some (h.i.h[(m.m.h[r.q.h[p].toNat]).toNat]?.getD 0):=by
   rw [u,aS (bZ hn),aM,aA hn,eD,g,l];rfl
  obtain ⟨_,b⟩:=aO.1 v;rw [b];exact q
 .have hmf:mem r.s.h i=false:=bK.2 λh=>hm ((mem_iff _ _).1 h);have e:Iu r.q.h r.s.h (pY m.m.h (dG r h m).h) (bW r h m).h.length i=(((bW r h m).h.length+(bG r.s.h i).length:Nat):Int):=by
   unfold Iu;rw [if_neg (by rw [rP hm _ (bF _)];omega),Mf k]
  have f:=Ea r.right.i.h.length i o hmf;have F:(bG r.s.h i).length<r.N.length:=(aO.1 f).1;refine ⟨(bW r h m).h.length+(bG r.s.h i).length,by rw [e],by rw [u];simp;omega,?_⟩;have v:(bS t r h m).i.h[(bW r h m).h.length+(bG r.s.h i).length]?=some r.right.i.h[i]:=by
   rw [u,bD aE,aR,wG,aM];have:r.N[(bG r.s.h i).length]?=some (i:Int):=f;rw [this];simp [gN,aA o]
  obtain ⟨_,b⟩:=aO.1 v;rw [b];unfold uT;have:=KF w (a:=(r.right.i.h[i]).toNat) aD;rw [show (((r.right.i.h[i]).toNat:Nat):Int)=r.right.i.h[i] by omega] at this;exact this
theorem StepIn.cr (S:StepIn t r h m):(bS t r h m).k.length=(bS t r h m).i.h.length:=by rw [S.bt,Lj];simp
theorem UQ {k:Int}(b:(dA t).2=0)(f:0<=k)(e:k<t.h.length)(c:xO t k.toNat=false):i5 t k (i4 t k)=0:=by
 unfold i5;rw [if_neg aD,if_neg (by rw [c];simp),if_neg (by simp [i4])];refine iM _ _ λj _ d=>?_;have a:j<(bQ t k).length:=aD;unfold C6 i4;rw [aM,aA a,eD,Option.getD_some,Option.getD_some,if_neg];have:=(DC b k _ (aC a)).le;omega
theorem StepIn.ci (S:StepIn t r h m):∀ k∈r.N,(0<=gN r.right.i k/\gN r.right.i k<t.h.length)/\xO t (gN r.right.i k).toNat=false:=λk hk=>by
 have hr:=mN hk;have hin:=(j7 S.hR.gr S.hR.tr).1 _ (BY hr.1 hr.2);refine ⟨hin,?_⟩;have:=S.hR.hl;unfold pN at this;rw [aL,cX,fZ] at this;have h1:=this.1 k hk;unfold absB at h1;unfold xO;rw [aA (aD:(gN r.right.i k).toNat<t.h.length)] at h1 ⊢;simpa using h1
theorem StepIn.node (S:StepIn t r h m):∀ (n:Nat) (h1:n<(bS t r h m).i.h.length) (h2:n<(bS t r h m).k.length),i5 t (bS t r h m).i.h[n] (bS t r h m).k[n]=0:=λn h1 h2=>by
 have e1:=S.bt;have e2:(bS t r h m).k=_:=Lj;have g1:(bS t r h m).i.h[n]?=some (bS t r h m).i.h[n]:=aA h1;have g2:(bS t r h m).k[n]?=some (bS t r h m).k[n]:=aA h2;generalize (bS t r h m).i.h[n]=x at *;generalize (bS t r h m).k[n]=y at *;rw [e1] at g1;rw [e2] at g2;by_cases hn:n<(bW r h m).h.length
 .rw [aS (bZ hn),aM,aA hn] at g1 g2;simp only [eD,bH] at g1 g2;have hv:=S.cx _ (aC hn);have hl:=S.ho.vl;have a1:(bW r h m).h[n].toNat<h.i.h.length:=aD;have a2:(bW r h m).h[n].toNat<h.k.length:=aD;rw [aA a2] at g2;unfold gN at g1;rw [aA a1] at g1;have:=S.ho.nd _ a1 a2;rw [<- g1,<- g2];exact this
 .have l1:((bW r h m).h.map (gN h.i)).length=(bW r h m).h.length:=aE;have l2:((bW r h m).h.map λk=>h.k[k.toNat]?.getD []).length=(bW r h m).h.length:=aE;rw [bD aD,l1,aM,bU] at g1;rw [bD aD,l2,aM,bU] at g2;obtain ⟨k,hk,rfl⟩:=g1;obtain ⟨k',hk',rfl⟩:=g2;rw [hk] at hk';cases hk'
  obtain ⟨⟨b1,b2⟩,b3⟩:=S.ci k (aK hk);exact UQ S.hR.vf b1 b2 b3
theorem StepIn.gu (S:StepIn t r h m):∀ a∈(bS t r h m).i.h,0<=a/\a<t.h.length:=λa ha=>by
 rw [S.bt,aZ,aX,aX] at ha;rcases ha with ⟨k,hk,rfl⟩|⟨k,hk,rfl⟩
 .exact pO S.ho _ (BY (S.cx k hk).1 (S.cx k hk).2)
 .exact (S.ci k hk).1
theorem StepIn.put (S:StepIn t r h m):PutOk t r (bS t r h m) (cT r h m):=by
 have v:=S.len;have w:=bI S.hR.gr;have q:r.N.length<=r.right.i.h.length:=lF _ _;have p:r.aa.length<=r.right.i.j.length:=lF _ _;have y:(bS t r h m).i.h.length<=80:=by rw [S.bt];simp;omega
 have z:(bS t r h m).i.j.length<=160:=by rw [S.ch];simp;omega
 have x:=S.cr;have d:∀ s∈r.right.o,∃ n:Nat,(cT r h m).h[s.node.toNat]?=some (n:Int)/\∃ a:n<(bS t r h m).i.h.length,s.H<(bQ t (bS t r h m).i.h[n]).length:=λs e=>by
  obtain ⟨⟨C,B⟩,l,A⟩:=S.hR.o s e;have k:s.node.toNat<r.right.i.h.length:=aD;obtain ⟨n,c,a,g⟩:=S.gm k;refine ⟨n,c,a,?_⟩;rw [aA k,Option.getD_some] at l;have b:=(j7 S.hR.gr S.hR.tr).1 _ (aC k);have i:=(qK (S.node n a aD)).1;have j:=(S.gu _ (aC a)).1;rw [tM S.hR.vf b.1 b.2] at l;rw [tM S.hR.vf j i];unfold uT at g;obtain ⟨u,o⟩:=Lm (mX S.hR.vf) ((bS t r h m).i.h[n]).toNat aD (r.right.i.h[s.node.toNat]).toNat (by rw [Int.toNat_of_nonneg b.1];exact g);rw [o,aQ];omega
 refine ⟨by simp [cT,DQ],⟨aD,aD,aD⟩,λs e=>?_,λs e=>?_⟩
 .obtain ⟨n,c,a,g⟩:=d s e;have:fT (cT r h m) s=n:=by unfold fT;rw [c];simp
  rw [this,c];exact ⟨by simp,aD,a⟩
 .obtain ⟨n,c,a,g⟩:=d s e;have:fT (cT r h m) s=n:=by unfold fT;rw [c];simp
  have f:n<(bS t r h m).k.length:=aD;rw [this,aA f,aA a,Option.getD_some,Option.getD_some];have:=(qK (S.node n a f)).2.2.1;exact ⟨aD,g⟩
end
theorem HM {t:Types}(d:t.a7):∀ c:Nat,c<t.h.length->∀ (b:Nat) (a:Int),mem (t.aw c) (b:Int)=true->mem (t.aw b) a=true->mem (t.aw c) a=true:=by
 intro c;induction c using Nat.strongRecOn with
 | _ c ih =>
 intro g b a hb h;have f:=d.C c _ (aA g);have e:=Am t c g (d.au c);rw [e,wY,c7] at hb;rcases hb with hb|hb
 .by_cases h0:0<=t.h[c].C
  .rw [if_pos h0] at hb;rw [e,wY,c7,if_pos h0];exact .inl (ih _ aD aD b a hb h)
  .rw [if_neg h0,AP] at hb;cases hb
 .have:b=c:=by simp at hb;omega
  subst this;exact h
theorem TA {t:Types}(i:(dA t).2=0){ty a b e d:Int}(h:pP t ty a b=true)(g:uT t a e=true)(f:uT t b d=true)(k:0<=e/\e<t.h.length)(j:0<=d/\d<t.h.length):pP t ty e d=true:=by
 have c:=mX i;unfold pP at h ⊢;simp only [aL,decide_eq_true_eq] at h ⊢;obtain ⟨⟨o,n⟩,m,l⟩:=h;obtain ⟨_,q,p⟩:=sF o;unfold uT at g f;rw [show a=((a.toNat:Nat):Int) by omega] at g;rw [show b=((b.toNat:Nat):Int) by omega] at f;refine ⟨⟨?_,n⟩,HM c _ aD a.toNat _ g m,HM c _ aD b.toNat _ f l⟩;simp [given2F,i,insideF,k,j]
section
variable {t:Types} {r:Rule} {h:Host} {m:Mat}
theorem Wy {l a:V2}{es:List Edge}{g:Graph}{n:Int}(d:0<=n)(c:n<l.length)(b:g.h=l++a):gN g n=l[n.toNat]?.getD 0:=by
 unfold gN;rw [b,aS aD]
theorem StepIn.ha (S:StepIn t r h m):∀ x∈(bS t r h m).i.j,((0<=x.type/\x.type<t.j.length)/\(0<=x.w/\x.w<(bS t r h m).i.h.length)/\(0<=x.M/\x.M<(bS t r h m).i.h.length)) /\
  pP t x.type (gN (bS t r h m).i x.w) (gN (bS t r h m).i x.M)=true:=λx hx=>by
 have hbN:=S.bt;have hbin:=S.gu;rw [S.ch,aZ,aX,aX] at hx;rcases hx with ⟨k,hk,rfl⟩|⟨k,hk,rfl⟩
 .have hr:=S.fh k hk;have hy:=Mz hr.1 hr.2;obtain ⟨e1,e2⟩:=S.ho.ed _ hy;have hgi:=(dX S.ho.gg).2 _ hy;obtain ⟨s1,s2⟩:=p7 S.sub hk;obtain ⟨p1,p2,_⟩:=yB S.b1 s1;obtain ⟨q1,q2,_⟩:=yB S.b1 s2;have key:∀ v:Int,v∈(bW r h m).h->oZ (bW r h m).h v<(bW r h m).h.length->iA (bW r h m).h (oZ (bW r h m).h v)=v->gN (bS t r h m).i (oZ (bW r h m).h v)=gN h.i v:=λv hv hp hi=>by
   rw [Wy (es:=[]) aD (bZ hp) hbN,show ((oZ (bW r h m).h v:Nat):Int).toNat=oZ (bW r h m).h v by omega,aM];unfold iA at hi;rw [show ((oZ (bW r h m).h v:Nat):Int).toNat=oZ (bW r h m).h v by omega,aA hp,Option.getD_some] at hi;rw [aA hp,eD,Option.getD_some,hi]
  have hl:(bS t r h m).i.h.length=(bW r h m).h.length+r.N.length:=by rw [hbN];simp
  rw [BZ];refine ⟨⟨⟨hgi.1.1,e1⟩,⟨by simp only;omega,by simp only;omega⟩,by simp only;omega,by simp only;omega⟩,?_⟩;simp only;rw [key _ s1 p1 p2,key _ s2 q1 q2];exact e2
 .have hr:=mN hk;have hk2:k.toNat<r.right.i.j.length:=aD;have hy:=(j7 S.hR.gr S.hR.tr).2 _ (aC hk2);rw [aA hk2,Option.getD_some];obtain ⟨y,hye⟩:=c6 (r.right.i.j[k.toNat]);rw [<- hye] at hy ⊢;have hf:y.w.toNat<r.right.i.h.length:=aD;have ht:y.M.toNat<r.right.i.h.length:=aD;obtain ⟨n1,c1,l1,b1⟩:=S.gm hf;obtain ⟨n2,c2,l2,b2⟩:=S.gm ht;unfold freshE;rw [c1,c2];simp only [Option.getD_some];have hfit:pP t y.type r.right.i.h[y.w.toNat] r.right.i.h[y.M.toNat]=true:=by
   have:=S.hR.hl;unfold pN at this;rw [aL,cX,cX,fZ,fZ] at this;have h1:=this.2 k hk;unfold unfitB at h1;rw [aA hk2,Option.getD_some,<- hye] at h1;unfold gN at h1;rw [aA hf,aA ht] at h1;simpa using h1
  have e1:gN (bS t r h m).i (n1:Int)=(bS t r h m).i.h[n1]:=by simp [gN,aA l1]
  have e2:gN (bS t r h m).i (n2:Int)=(bS t r h m).i.h[n2]:=by simp [gN,aA l2]
  refine ⟨⟨⟨hy.1.1,hy.1.2⟩,⟨aD,aD⟩,aD,aD⟩,?_⟩;rw [e1,e2];exact TA S.hR.vf hfit b1 b2 (hbin _ (aC l1)) (hbin _ (aC l2))
theorem U3 {x:Host}(f:(dA t).2=0)(h:x.i.h.length<=40)(l:x.i.j.length<=80)(s:x.k.length=x.i.h.length)(m:∀ a∈x.i.h,0<=a/\a<t.h.length)
  (d:∀ (n:Nat) (p:n<x.i.h.length) (w:n<x.k.length),i5 t x.i.h[n] x.k[n]=0)
  (c:∀ y∈x.i.j,((0<=y.type/\y.type<t.j.length)/\(0<=y.w/\y.w<x.i.h.length)/\(0<=y.M/\y.M<x.i.h.length))/\pP t y.type (gN x.i y.w) (gN x.i y.M)=true):fM t x=0:=by
 have v:=(mX f).ca;have k:=(mX f).e2;have u:graphF x.i=0:=Eh h l (λa o=>by have:=m a o;omega) λy g=>by
  obtain ⟨⟨r,e,q⟩,_⟩:=c y g;exact ⟨aD,e,q⟩
 have p:(iK (FW t x) 0 x.i.h.length).2=0:=by
  rw [vJ];refine iM _ _ λj _ i=>?_;have b:j<x.i.h.length:=aD;unfold FW;rw [aA b,aA (aD:j<x.k.length),Option.getD_some,Option.getD_some];exact d j b aD
 unfold fM l5;rw [if_neg aD,if_neg aD,if_neg aD,if_neg aD,vJ];refine iM _ _ λj _ i=>?_;have b:j<x.i.j.length:=aD;obtain ⟨r,e⟩:=c _ (aC b);unfold Tx;rw [aA b,Option.getD_some,if_neg aD,if_pos e]
theorem RE {g:Graph}{c:Part}{vs:V2}:∀ (l:List Slot) (vals:Yb),vals.length=g.h.length->(∀ (n:Nat) (h1:n<g.h.length) (h2:n<vals.length),i5 t g.h[n] vals[n]=0) ->
  (∀ s∈l,yC t g c vs s=false)->(∀ s∈l,0<=s.H)->∀ (n:Nat) (h1:n<g.h.length) (h2:n<(uQ c vs l vals).length),i5 t g.h[n] (uQ c vs l vals)[n]=0
 | [],vals,_,hx,_,_=>λn h1 h2=>hx n h1 h2
 | s :: l,vals,hl,hx,ho,ha=>by
  refine RE l (vals.set (fT c s) ((vals[fT c s]?.getD []).set s.H.toNat (dM s.y vs))) (by rw [jP];exact hl) (λn h1 h2=>?_) (λs hs=>ho s (by simp [hs])) (λs hs=>ha s (by simp [hs]));rw [jP] at h2;have hI:=hx n h1 h2;rw [A4];split
  .rename_i hs';subst hs';rw [aA h2,Option.getD_some];obtain ⟨a1,a2,a3,a4⟩:=qK hI;unfold i5;rw [if_neg aD,if_neg (by rw [a2];simp),if_neg (by rw [jP];omega)];refine iM _ _ λj _ hj=>?_;have hja:j<(bQ t g.h[fT c s]).length:=aD;unfold C6;rw [aA hja,Option.getD_some];by_cases hj2:s.H.toNat=j
   .have e:((vals[fT c s]).set s.H.toNat (dM s.y vs))[j]?=some (dM s.y vs):=by rw [<- hj2];exact List.getElem?_set_self aD
    rw [e,Option.getD_some,if_neg];have hO:=ho s aE;unfold yC at hO;rw [aA h1,Option.getD_some,hj2,aA hja,Option.getD_some,Bool.or_eq_false_iff,decide_eq_false_iff_not,decide_eq_false_iff_not] at hO;omega
   .rw [List.getElem?_set_ne hj2,aA (aD:j<(vals[fT c s]).length),Option.getD_some,if_neg];have:=a4 j aD hja;omega
  .exact hI
theorem StepIn.after (S:StepIn t r h m)(a:r8 t (bS t r h m).i (cT r h m) m.vars r.right.o=0)(e:(bS t r h m).i.h.length<=40)(f:(bS t r h m).i.j.length<=80):fM t (bM t r h m)=0:=by
 have d:∀ s∈r.right.o,yC t (bS t r h m).i (cT r h m) m.vars s=false:=by
  unfold r8 at a;split at a
  .cases a
  .split at a
   .cases a
   .rename_i b;rw [JX,fZ] at b;exact λs c=>by simpa using b s c
 exact U3 S.hR.vf e f (by show (uQ _ _ _ _).length=_;rw [(qC _ _ _ _).1];exact S.cr) S.gu (λn g b=>RE _ _ S.cr S.node d (λs c=>(S.hR.o s c).2.1.1) n g b) S.ha
end
def QS (t:Types)(r:Rule)(c:Part)(x0:Host)(a b V:Nat)(qs ns:List Nat):List (Nat × Blk) :=
 [(a,⟨3,1,(j6 t r c x0).i.h.map cI,false⟩),(b,⟨145,3,(j6 t r c x0).i.j.map Edge.c,false⟩),(V,⟨26,1,lZ (qs++ns) (j6 t r c x0).k,false⟩)]
def U4 (t:Types)(r:Rule)(ns:List Nat):List (Nat × Blk):=SN ns (r.N.map λk=>i4 t (gN r.right.i k))
theorem R3 {H H':AHeap}{t:Types}{r:Rule}{c:Part}{m:Host}{I a b V:Nat}{f ns:List Nat}(o:HH H I a b V f m)(F:∀ j∈a :: b :: V :: f,H'.get j=H.get j)(G:ns.length=r.N.length)(x:(a :: b :: V :: (f++ns)).Nodup)
  (C:∀ j∈a :: b :: V :: (f++ns),j<H'.next):HH ((H'.ai (QS t r c m a b V f ns)).ad (U4 t r ns)) 0 a b V (f++ns) (j6 t r c m)/\((H'.ai (QS t r c m a b V f ns)).ad (U4 t r ns)).next=H'.next /\
   (∀ j,j∉a :: b :: V :: (f++ns)->((H'.ai (QS t r c m a b V f ns)).ad (U4 t r ns)).get j=H'.get j)/\(∀ j,((H'.ai (QS t r c m a b V f ns)).ad (U4 t r ns)).D j↔H'.D j\/j∈ns):=by
 have l:(U4 t r ns).map (·.1)=ns:=Hb (bZ G);have z:=o.ab;have n:∀ j∈ns,j≠a/\j≠b/\j≠V/\j∉f:=λj g=>by
  have h:=x;simp only [iS,aV,aZ,not_or,oU] at h;exact ⟨λe=>h.1.2.2.2 (e ▸ g),λe=>h.2.1.2.2 (e ▸ g),λe=>h.2.2.1.2 (e ▸ g),λA=>h.2.2.2.2.2 j A j g rfl⟩
 have J:((U4 t r ns).map (·.1)).Nodup:=by
  rw [l];have h:=x;simp only [iS,oU] at h;exact h.2.2.2.2.1
 have d:∀ j,j∉ns->((H'.ai (QS t r c m a b V f ns)).ad (U4 t r ns)).get j=(H'.ai (QS t r c m a b V f ns)).get j:=λj g=>pM _ _ _ (by rw [l];exact g);have B:((H'.ai (QS t r c m a b V f ns)).ad (U4 t r ns)).next=H'.next:=by
  rw [rB _ _ λp w=>?_,wS];rw [wS];refine C p.1 ?_;have:p.1∈ns:=by rw [<- l];exact pW w
  simp [this]
 have s:(j6 t r c m).k=m.k++r.N.map (λk=>i4 t (gN r.right.i k)):=rfl;refine ⟨⟨?_,?_,?_,?_,λi q v D E=>?_,x,λj g=>⟨eP _,by rw [B];exact C j g⟩⟩,B,λj g=>?_,λj=>?_⟩
 .rw [d a λy=>(n a y).1 rfl];simp [AHeap.ai,AHeap.put,QS,z.1,z.2.1]
 .rw [d b λy=>(n b y).2.1 rfl];simp [AHeap.ai,AHeap.put,QS,z.2.2]
 .rw [d V λy=>(n V y).2.2.1 rfl];simp [AHeap.ai,AHeap.put,QS]
 .rw [s,aQ,aQ,aR,o.len,G]
 .by_cases hi:i<f.length
  .rw [aS hi] at D;rw [s,aS (by rw [<- o.len];exact hi)] at E;have A:=aK D;have u:=o.qn A;rw [d q λy=>(n q y).2.2.2 A,yA _ _ _ (λp w=>?_),F q (o.bi A)]
   .exact o.gq i q v D E
   .simp only [QS,aV,gH,or_false] at w;rcases w with rfl|rfl|rfl
    .exact Ne.symm u.1
    .exact Ne.symm u.2.1
    .exact Ne.symm u.2.2
  .rw [bD aD] at D;rw [s,bD (by rw [<- o.len];omega),<- o.len] at E;exact wT _ _ J (NL D E)
 .simp only [aV,aZ,not_or] at g;rw [d j g.2.2.2.2,yA _ _ _ λp w=>?_];simp only [QS,aV,gH,or_false] at w;rcases w with rfl|rfl|rfl
  .exact Ne.symm g.1
  .exact Ne.symm g.2.1
  .exact Ne.symm g.2.2.1
 .rw [tZ,l,Mb]
theorem ACalls.wf {P:Program}{f:FuncId}{args:UN}{H:AHeap}{Q:D->AHeap->Prop}(he:Xj P f)(h:(∀ j,H.D j->j<H.next)->(∀ j,¬ H.D j->H.get j=none)->ACalls P f args H Q):ACalls P f args H Q :=
 ⟨he,λM0 σ w vals hR ha=>(h hR.b4 λj hj=>(hR.ce j hj).2).2 M0 σ w vals hR ha⟩
theorem Pl {md:Nat->Bool}{ops:Array Oper}{R:List (Nat × Nat)}{P i:Nat}{B:List Oper}{G:List (Nat × List Nat)}{e:eB}{F:Option Tmp}{K:eB->AHeap->Prop}{H:AHeap}
  (t:Types) (ht:t.ok) (r:Rule) (hR:RuleV t r) (f:Host) (c:Part) (hc:c.h.length=r.right.i.h.length) (hs:f.i.h.length<=1000/\f.i.j.length<=1000/\f.k.length<=1000)
  (lo a b V:Nat) (m ns:List Nat) (g:HH H lo a b V m f) (Y:ns.length=r.N.length) (J:(a :: b :: V :: (m++ns)).Nodup) (W:P<=H.next) (L:∀ j∈ns,j<P/\¬ H.D j)
  (X:Ec md F=true) (a2:o6 R i (a :: b :: V :: (m++ns)) G)
  (hK:∀ E,HH E 0 a b V (m++ns) (j6 t r c f)->(∀ j,j∉a :: b :: V :: (m++ns)->E.get j=H.get j)->(∀ j,E.D j↔H.D j\/j∈ns)->E.next=H.next ->
   kW prog md ops R P (i+1) B ((i,a :: b :: V :: (m++ns)) :: G) (oO e F (.agg [.own a (j6 t r c f).i.h.length,.own b (j6 t r c f).i.j.length,.own V (j6 t r c f).k.length])) E K) :
  rL prog md ops R P i B G e F K 97 [t.d,r.d,.agg [.own a f.i.h.length,.own b f.i.j.length,.own V f.k.length],c.d] H:=by
 have s:(U4 t r ns).map (·.1)=ns:=Hb (bZ Y);have N:=(ES t ht r hR f c hc hs H lo a b V m g (λ_ _=>True) (λ_ _ _ _ _ _=>trivial)).1;unfold rL;refine Or.inr ⟨X,.agg [.own a (j6 t r c f).i.h.length,.own b (j6 t r c f).i.j.length,.own V (j6 t r c f).k.length],a :: b :: V :: m,QS t r c f a b V m ns,U4 t r ns,λp x=>?_,λp x=>L p.1 (by rw [<- s];exact pW x),λy u z=>?_,?_,?_⟩
 .simp only [QS,aV,gH,or_false] at x;rcases x with rfl|rfl|rfl<;>simp
 .refine ACalls.wf N λo C=>?_;have M:∀ j∈ns,j<y.next/\¬ y.D j:=λj n=>by
   rw [<- s,aX] at n;obtain ⟨p,x,rfl⟩:=n;exact z p x
  have a1:∀ j∈a :: b :: V :: m,∃ k,H.get j=some k:=λj n=>by
   simp only [aV] at n;rcases n with rfl|rfl|rfl|hq
   .exact ⟨_,g.ga⟩
   .exact ⟨_,g.gb⟩
   .exact ⟨_,g.gV⟩
   .obtain ⟨p,x,rfl⟩:=aN hq;exact ⟨_,g.gq p _ _ (aA x) (aA (by rw [<- g.len];exact x))⟩
  have A:∀ j∈a :: b :: V :: m,y.D j:=λj n=>aY λhn=>by
   obtain ⟨k,hk⟩:=a1 j n;have:=u j n;rw [hk,C j hn] at this;cases this
  have a0:HH y 0 a b V m f:=⟨(u a g.bq).trans g.ga,(u b g.bp).trans g.gb,(u V g.bw).trans g.gV,g.len,λi q v h1 h2=>(u q (g.bi (aK h1))).trans (g.gq i q v h1 h2),g.nd,λj n=>⟨eP _,o j (A j n)⟩⟩;have D:∀ j∈a :: b :: V :: (m++ns),j<y.next:=λj n=>by
   simp only [aV,aZ] at n;rcases n with h|h|h|h|h
   .exact o j (A j (by simp [h]))
   .exact o j (A j (by simp [h]))
   .exact o j (A j (by simp [h]))
   .exact o j (A j (by simp [h]))
   .exact (M j h).1
  obtain ⟨g1,g2,g3,g4⟩:=R3 (t:=t) (r:=r) (c:=c) g u Y J D;refine ACalls.exact (E:=(y.ai (QS t r c f a b V m ns)).ad (U4 t r ns)) (ES t ht r hR f c hc hs y 0 a b V m a0 (λd Q=>∃ w,(∀ j∈w,y.next<=j)/\HH Q 0 a b V (m++w) (j6 t r c f)/\(∀ j,j<y.next->j∉a :: b :: V :: m->Q.get j=y.get j)/\d=.agg [.own a (j6 t r c f).i.h.length,.own b (j6 t r c f).i.j.length,.own V (j6 t r c f).k.length]) (λw Q U T S _=>⟨w,U,T,S,rfl⟩)) ?_;rintro _ _ d Q ⟨w,U,T,S,rfl⟩;refine HH.exact g1 T o C (by rw [g2];exact bF _) (λj=>?_) (λj n Z=>S j (o j n) λhm=>Z (by simp only [aV,aZ] at hm ⊢;rcases hm with h|h|h|h<;>simp [h])) g3 (λp j j1 O I=>?_)
  .rw [g4];constructor
   .rintro (h|h)
    .exact .inl h
    .exact .inr (by simp [h])
   .rintro (h|h)
    .exact .inl h
    .simp only [aV,aZ] at h;rcases h with h|h|h|h|h
     .exact .inl (A j (by simp [h]))
     .exact .inl (A j (by simp [h]))
     .exact .inl (A j (by simp [h]))
     .exact .inl (A j (by simp [h]))
     .exact .inr h
  .have ea:∀ l:List Nat,a :: b :: V :: (m++l)=(a :: b :: V :: m)++l:=λl=>rfl;rw [ea] at O I;by_cases x:p<(a :: b :: V :: m).length
   .rw [aS x] at O I;rw [O] at I;cases I
    exact ⟨λ_=>rfl,λh=>h⟩
   .rw [bD aD] at O I;have m1:=M j (aK O);have m2:=U j1 (aK I);exact ⟨λh=>absurd h m1.2,λ_ h=>by have:=o j1 h;omega⟩
 .rw [s];exact a2
 .rw [s];have D:∀ j∈a :: b :: V :: (m++ns),j<H.next:=λj n=>by
   simp only [aV,aZ] at n;rcases n with h|h|h|h|h
   .exact (g.W j (by simp [h])).2
   .exact (g.W j (by simp [h])).2
   .exact (g.W j (by simp [h])).2
   .exact (g.W j (by simp [h])).2
   .exact dC (L j h).1 W
  obtain ⟨g1,g2,g3,g4⟩:=R3 (t:=t) (r:=r) (c:=c) g (λ_ _=>rfl) Y J D;exact hK _ g1 g3 g4 g2
def oQ:Pattern:=⟨⟨[],[]⟩,[],0,[]⟩
def rule0:Rule:=⟨⟨#[]⟩,oQ,oQ,⟨[],[]⟩,⟨[],[]⟩,false,.mk 0 [] ⟨[],[]⟩ oQ⟩
def mS:Stp26:=⟨rule0,jJ,⟨⟨[],[]⟩,[]⟩,⟨⟨[],[]⟩,[]⟩,⟨[],[]⟩,⟨[],[]⟩⟩
def gI (t:Types)(r:Rule)(h:Host)(m:Mat):Stp26:=if lL t r h m=0 then aP t r h m else mS
@[go_sem] theorem Stp26.Q (s:Stp26):D.J s.c=true:=by
 simp [Stp26.c,yN,Rule.Q,Mat.Q,PO,D.J,qO]
def uR (a k:Nat):List Nat:=(List.range k).map (· + a)
theorem w5 {a k j:Nat}:j∈uR a k↔a<=j/\j<a+k:=by
 simp only [uR,aX,aW];constructor
 .rintro ⟨i,b,rfl⟩;omega
 .rintro ⟨b,c⟩;exact ⟨j - a,aD,aD⟩
theorem O6 (a k:Nat):(uR a k).length=k:=by simp [uR]
theorem BU (a k:Nat):(uR a k).Nodup:=by
 unfold uR;exact List.Pairwise.map (· + a) (λx y h=>by simp only [ne_eq] at h ⊢;omega) List.nodup_range
theorem U1 (k f:Nat):(0 :: 1 :: 2 :: (uR 3 k++uR (3+k) f)).Nodup:=by
 simp only [iS,aV,aZ,w5,oU];exact ⟨aD,aD,aD,BU _ _,BU _ _,λx b y a=>by omega⟩
theorem RX {k f j:Nat}(h:j∈0 :: 1 :: 2 :: (uR 3 k++uR (3+k) f)):j<3+k+f:=by
 simp only [aV,aZ,w5] at h;omega
theorem U0 (k:Nat):(0 :: 1 :: 2 :: uR 3 k).Nodup:=by
 simp only [iS,aV,w5];exact ⟨aD,aD,aD,BU _ _⟩
theorem H5 {k j:Nat}(h:j∈0 :: 1 :: 2 :: uR 3 k):j<3+k:=by
 simp only [aV,w5] at h;omega
theorem QV {t:Types}{r:Rule}{h:Host}(b:r.ok)(a:f9 t r h=0):RuleV t r/\HostOk t h:=by
 unfold f9 at a;split at a
 .exact absurd a (by assumption)
 .rename_i h1;exact ⟨G6 b (bZ h1),nB a⟩
theorem S9 {t:Types}{r:Rule}{h:Host}{m:Mat}(a:kT t r h m=0):pE t r h m=0:=by
 unfold kT at a;split at a
 .exact absurd a (by assumption)
 .rename_i h1;simpa using h1
section
variable {t:Types} {r:Rule} {h:Host} {m:Mat}
theorem StepIn.ex (S:StepIn t r h m)(hh:fM t h=0):VL t h (bW r h m)=⟨cO h.i (bW r h m),(bW r h m).h.map λk=>h.k[k.toNat]?.getD []⟩:=by
 unfold VL;rw [if_pos];unfold Yi;rw [if_neg aD];exact S.sub
theorem StepIn.dm (S:StepIn t r h m):(∀ x∈m.m.h,0<=x/\x<h.i.h.length)/\∀ x∈m.m.j,0<=x/\x<h.i.j.length:=by
 refine ⟨λx a=>?_,λx a=>?_⟩
 .obtain ⟨i,b,rfl⟩:=aN a;exact (S.hm.bO i b (by have:=S.hm.len;omega)).1
 .obtain ⟨i,b,rfl⟩:=aN a;exact S.hm.dm i b
end
theorem KD {t:Types}{r:Rule}{h:Host}{m:Mat}(S:StepIn t r h m)(a:pE t r h m=0):MatOk t r.left h m:=by
 unfold pE at a;split at a
 .cases a
 .split at a
  .exact absurd a (by assumption)
  .rename_i h2;split at a
   .cases a
   .rename_i h3;rw [iG] at h2 h3;obtain ⟨_,_,_,d⟩:=J7 h2;rw [d] at h2 h3;obtain ⟨c,b⟩:=BE (V3 S.hR.pl S.ho S.hm) (vs:=[]) aE aE h2;rw [h3] at c b;exact ⟨S.hm,c,b⟩
theorem NT (t:Types)(ht:t.ok)(r:Rule)(hr:r.ok)(h:Host)(m:Mat):Pure prog 44 [t.d,r.d,h.d,m.d] (.tup [.agg (gI t r h m).c,dI (lL t r h m)]):=by
 refine Kp (by first|rfl|(simp [go_sem];done)) (fun Q hQ=>ACalls.cE 100 (aJ (cfg:=⟨fun t=>t==8||t==11||t==13||t==14||t==15||t==16||t==95||t==97,fun r=>match r with|8=>[(5,6),(5,7),(5,8),(5,9),(5,10),(0,13),(1,13),(2,13),(3,13),(4,13),(5,13),(6,13),(7,13),(8,13),(9,13),(10,13),(11,13)]|9=>[(16,17),(16,18),(16,19),(16,20),(16,21),(16,22),(16,23),(16,24),(16,25),(16,26),(16,27),(16,28),(16,29),(16,30),(16,31),(16,32),(0,35),(1,35),(2,35),(3,35),(4,35),(5,35),(6,35),(7,35),(8,35),(9,35),(10,35),(11,35),(12,35),(13,35),(14,35),(15,35),(16,35),(17,35),(18,35),(19,35),(20,35),(21,35),(22,35),(23,35),(24,35),(25,35),(26,35),(27,35),(28,35),(29,35),(30,35),(31,35),(32,35),(33,35)]|10=>[(0,3),(1,3),(3,4)]|_=>[]⟩) Tz.mixed func44 rfl rfl (aF rfl) (by kernel_rfl) ?_));have Y:=wa @Host.d.eq_1 (wa @Host.c.eq_1 (wa @Mat.d.eq_1 (wa @Mat.c.eq_1 (wa @lO (wa @n8 (wa @y9 @uK))))));refine wv (h:=aB (ET t ht r hr h) wl ?_);refine dR (fun h2=>?_) fun h2=>?_
 ·have hA:lL t r h m=f9 t r h:=by unfold lL;rw [if_pos h2]
  have hV:gI t r h m=mS:=by unfold gI;rw [if_neg (by omega)]
  exact wv (h:=hQ _ _ (by simp [go_sem,hA,hV,mS,rule0,oQ,jJ,Stp26.c,Rule.c,Mat.c,Host.c,Cond.B,Cond.u,Cond.map,Cond.l,dLI,dI]))
 ·obtain ⟨hR,ho⟩:=QV hr h2
  have hh0:fM t h=0:=by unfold f9 at h2;split at h2;exact absurd h2 (by assumption);exact h2
  have hA0:lL t r h m=gS t r h m:=by unfold lL;rw [if_neg (by omega)]
  refine wv (h:=aB (Hf t ht r hR h ho m) wl ?_);refine dR (fun h5=>?_) fun h5=>?_
  ·have hA:lL t r h m=kT t r h m:=by rw [hA0];unfold gS;rw [if_pos h5]
   have hV:gI t r h m=mS:=by unfold gI;rw [if_neg (by omega)]
   exact wv (h:=hQ _ _ (by simp [go_sem,hA,hV,mS,rule0,oQ,jJ,Stp26.c,Rule.c,Mat.c,Host.c,Cond.B,Cond.u,Cond.map,Cond.l,dLI,dI]))
  ·have hpre:=S9 (show kT t r h m=0 by omega)
   have S:=LC hR ho hpre;have hP:wU t r h m=bW r h m:=by unfold wU;rw [if_pos hpre]
   have hX:=S.ex hh0;obtain ⟨x0,hx0⟩:∃ x0:Host,x0=⟨cO h.i (bW r h m),(bW r h m).h.map fun k=>h.k[k.toNat]?.getD []⟩:=⟨_,rfl⟩;rw [← hx0] at hX;obtain ⟨tr,htr⟩:∃ tr,tr=dG r h m:=⟨_,rfl⟩;have hT1:mH (bW r h m).h h.i.h.length=tr.h:=by rw [htr];rfl
   have hT2:mH (bW r h m).j h.i.j.length=tr.j:=by rw [htr];rfl
   have htl1:tr.h.length=h.i.h.length:=by rw [← hT1,mG]
   have htl2:tr.j.length=h.i.j.length:=by rw [← hT2,mG]
   obtain ⟨hin1,hin2⟩:=S.dm;have hK:=hR.q;have hml:=S.hm.len;have hmel:=S.hm.cb;have hal1:(pY m.m.h tr.h).length=m.m.h.length:=by simp [pY]
   have hal2:(pY m.m.j tr.j).length=m.m.j.length:=by simp [pY]
   obtain ⟨cm,hcm⟩:∃ cm,cm=cT r h m:=⟨_,rfl⟩;have hC1:DQ r.q.h r.s.h (pY m.m.h tr.h) r.right.i.h.length (bW r h m).h.length=cm.h:=by rw [hcm,htr];rfl
   have hC2:DQ r.q.j r.s.j (pY m.m.j tr.j) r.right.i.j.length (bW r h m).j.length=cm.j:=by rw [hcm,htr];rfl
   have hgl:=bI hR.pl.gg;have hgr:=bI hR.gr;have hgh:=bI ho.gg;have hdl:=S.len;have hxv:x0.k.length=(bW r h m).h.length:=by rw [hx0];simp
   have hxn:x0.i.h.length=(bW r h m).h.length:=by rw [hx0];unfold cO;rw [if_pos S.sub];simp
   have hxe:x0.i.j.length=(bW r h m).j.length:=by rw [hx0];unfold cO;rw [if_pos S.sub];simp
   have hxr:∀ v∈x0.k,v.length≤8:=fun v hv=>by
    rw [hx0,aX] at hv;obtain ⟨k,hk,rfl⟩:=hv;have hkr:=S.cx k hk;have hvl:=ho.vl;rw [aA (show k.toNat<h.k.length by omega),Option.getD_some];exact (ho.row _ (aC _)).1
   have hcl:cm.h.length=r.right.i.h.length:=by rw [hcm];simp [cT,DQ]
   have hB:j6 t r cm x0=bS t r h m:=by rw [hcm,hx0];rfl
   have hfl:r.N.length≤40:=fB (lF _ _) hgr.1;have hMat:=KD S hpre;have hvl:=hMat.vl;have hvs:Sm m.vars:=fun v hv=>by have:=hMat.vs v hv;omega
   have Y:=wa Y (wa hP (wa @Part.d.eq_1 (wa @Part.c.eq_1 (wa hX (wa hT1 (wa hT2 (wa hC1 hC2)))))));refine wv (h:=aB (Jm t ht h (bW r h m) (by omega) (by omega) (by omega) (by omega)) wl ?_);refine wv (h:=aI (zY m.m.h tr.h (by omega) (fun x hx=>by have:=hin1 x hx;omega)) wl ?_);refine wv (h:=aI (zY m.m.j tr.j (by omega) (fun x hx=>by have:=hin2 x hx;omega)) wl ?_);refine wp (h:=aI (Bp r.q.h r.s.h (pY m.m.h tr.h) r.right.i.h.length (bW r h m).h.length (by omega) (fun x hx=>by have:=hK.2.1 x hx;rw [hal1];omega) (by omega) (by omega)) wl ?_);refine wp (h:=aI (Bp r.q.j r.s.j (pY m.m.j tr.j) r.right.i.j.length (bW r h m).j.length (by omega) (fun x hx=>by have:=hK.2.2.1 x hx;rw [hal2];omega) (by omega) (by omega)) wl ?_);refine wp (h:=?_);refine JH x0 (by omega) (by omega) (by omega) (fun v hv=>by have:=hxr v hv;omega) 0 1 2 (uR 3 x0.k.length) (O6 _ _) (U0 _) (by simp [go_sem]) (fun j hj=>?_) rfl ?_ (fun E hE1 hE2 hE3 hE4=>?_)
   ·have hj2:=H5 hj
    refine ⟨by omega,?_⟩;simp [go_sem,lO,n8,y9,uK];omega
   ·intro q hq hs x hx
    simp at hq;rcases hq with rfl|rfl|rfl<;>simp at hs hx
   have hno:∀ j,100≤j→j∉0 :: 1 :: 2 :: uR 3 x0.k.length:=fun j hj hm=>by have:=H5 hm;omega
   have hno2:∀ j,100≤j→j∉0 :: 1 :: 2 :: (uR 3 x0.k.length++uR (3+x0.k.length) r.N.length):=fun j hj hm=>by have:=RX hm;omega
   have g100:=hE2 100 (hno _ (by omega));have g102:=hE2 102 (hno _ (by omega));have g103:=hE2 103 (hno _ (by omega));have g154:=hE2 154 (hno _ (by omega));simp [go_sem] at g100 g102 g103 g154 hE4;have hal:∀ j,j<100→E.D j→j∈0 :: 1 :: 2 :: uR 3 x0.k.length:=fun j hj hA=>by
    rcases (hE3 j).1 hA with h|h
    ·simp [go_sem,lO,n8,y9,uK] at h;omega
    ·exact h
   have n154:∀ (a:Nat),a∈uR 3 x0.k.length→¬ a=154:=fun a hm=>by rw [w5] at hm;omega
   have Y:=wa Y (wa g100 (wa g102 (wa g103 g154)));refine wp (h:=?_);refine Pl t ht r hR x0 cm hcl (by omega) 0 0 1 2 (uR 3 x0.k.length) (uR (3+x0.k.length) r.N.length) hE1 (by rw [O6]) (U1 _ _) (by rw [hE4];omega) (fun j hj=>?_) rfl ?_ (fun F hF1 hF2 hF3 hF4=>?_)
   ·rw [w5] at hj
    refine ⟨by omega,fun hA=>?_⟩;have:=H5 (hal j (by omega) hA);omega
   ·intro q hq hs x hx
    simp at hs
   rw [hB] at hF1 ⊢;rw [hE4] at hF4;have f100:=hF2 100 (hno2 _ (by omega));have f102:=hF2 102 (hno2 _ (by omega));have f103:=hF2 103 (hno2 _ (by omega));have f154:=hF2 154 (hno2 _ (by omega));rw [g100] at f100;rw [g102] at f102;rw [g103] at f103;rw [g154] at f154;have Y:=wa Y (wa f100 (wa f102 (wa f103 f154)));refine wp (h:=?_);unfold f7;refine Qn t ht r hR (bS t r h m) cm (hcm ▸ S.put) m.vars hvl hvs _ 0 0 1 2 (uR 3 x0.k.length++uR (3+x0.k.length) r.N.length) (hF1.same (by simp [go_sem]) (fun j hj=>by have:=RX hj;simp [go_sem,show j≠102 by omega])) _ (fun H4 e1 e2 e3=>?_) (fun H4 e1 e2 e3=>?_)
   ·have k100:=e2 100 (by simp [go_sem];omega) (hno2 _ (by omega))
    have k102:=e2 102 (by simp [go_sem];omega) (hno2 _ (by omega));simp [go_sem,f100] at k100 k102;have hA:lL t r h m=r8 t (bS t r h m).i cm m.vars r.right.o:=by rw [hA0];unfold gS;rw [if_neg (by omega),← hcm,if_pos e1]
    have hV:gI t r h m=mS:=by unfold gI;rw [if_neg (by omega)]
    simp [go_sem,seval,k100,k102];refine bA (fun hc=>?_) (fun hc=>absurd (by simpa using hc) e1);simp [go_sem,seval,k100,k102];exact hQ _ _ (by first|(left;(simp [go_sem,hA,hV,mS,rule0,oQ,jJ,Stp26.c,Rule.c,Mat.c,Host.c,Cond.B,Cond.u,Cond.map,Cond.l,dLI,dI]);done)|(right;(simp [go_sem,hA,hV,mS,rule0,oQ,jJ,Stp26.c,Rule.c,Mat.c,Host.c,Cond.B,Cond.u,Cond.map,Cond.l,dLI,dI]);done))
   have k100:=e2 100 (by simp [go_sem];omega) (hno2 _ (by omega));have k102:=e2 102 (by simp [go_sem];omega) (hno2 _ (by omega));have k103:=e2 103 (by simp [go_sem];omega) (hno2 _ (by omega));have k154:=e2 154 (by simp [go_sem];omega) (hno2 _ (by omega));simp [go_sem,f100,f102,f103,f154] at k100 k102 k103 k154;have Y:=wa Y (wa k100 (wa k102 (wa k103 k154)));refine mA (fun h14=>?_) fun h14=>?_
   ·have hA:lL t r h m=3:=by
     rw [hA0];unfold gS;rw [if_neg (by omega),← hcm,if_neg (by omega),if_pos (by omega)]
    have hV:gI t r h m=mS:=by unfold gI;rw [if_neg (by omega)]
    exact wv (h:=hQ _ _ (by simp [go_sem,hA,hV,mS,rule0,oQ,jJ,Stp26.c,Rule.c,Mat.c,Host.c,Cond.B,Cond.u,Cond.map,Cond.l,dLI,dI]))
   ·have hA:lL t r h m=0:=by
     rw [hA0];unfold gS;rw [if_neg (by omega),← hcm,if_neg (by omega),if_neg (by omega)]
    have hV:gI t r h m=aP t r h m:=by unfold gI;rw [if_pos hA]
    have hW:bM t r h m=⟨(bS t r h m).i,uQ cm m.vars r.right.o (bS t r h m).k⟩:=by rw [hcm];rfl
    exact wv (h:=hQ _ _ (by simp [go_sem,hA,hV,aP,Stp26.c,Mat.c,Host.c,hW,← htr,← hcm]))
mutual
def oF:Cond→Bool
 | .mk k l m p=>C5 l&&decide ((p.i.h.length:Int)+p.i.j.length≤6)
def C5:List Cond→Bool
 | []=>true
 | c :: l=>oF c&&C5 l
end
theorem OO (l:List Cond):C5 l=l.all oF:=by
 induction l with
 | nil=>simp [C5]
 | cons a l ih=>simp [C5,ih]
theorem BP (c:Cond):oF c=(c.u.all oF&&decide ((c.l.i.h.length:Int)+c.l.i.j.length<=6)):=by
 cases c;simp only [oF,OO,Cond.u,Cond.l];try rfl
theorem wD {α:Type}(l:List α)(p:α->Bool){i:Nat}(h:i<l.length):(l.take (i+1)).all p=((l.take i).all p&&p l[i]):=by
 rw [List.take_succ_eq_append_getElem h,oW];simp
theorem L2:∀ c:Cond,c.ok->Pua 71 [.agg c.c] (.bool (oF c)):=by
 refine jU λc m o=>?_;obtain ⟨k,n⟩:=(sH c).1 o;have p1:=k.p1;have p2:=k.p2;refine Tz.p0 func71 rfl λQ l _=>?_;have Y:=@Cond.x;refine wv (h:=bC (λi e H=>(e 1=.adr c.c/\e 3=dI i)/\(i<=c.u.length)/\((c.u.take i).all oF=true)) (λi=>c.u.length - i) 0 ⟨wg,wi,(by rfl)⟩ λr f i e H b=>?_);obtain ⟨p,q,d⟩:=b;have Y:=wa Y p;refine wv (h:=?_);repeat first|intro _|refine ⟨iI,?_⟩
 refine wq (λa=>?_) λa=>?_
 .have Y:=xa1 Y a (aA a);refine wo (h:=aB ((by have:=m _ (aC a) (n _ (aC a));rwa [Cond.x] at this)) wl ?_);refine eJ (λj=>?_) λj=>?_
  .refine wv (h:=?_);have g:oF c=false:=by
    have:c.u.all oF=false:=by
     rw [bK];intro h;exact absurd (b9.1 h _ (aC a)) (bZ j)
    rw [BP,this];rfl
   exact l _ _ (by simp [go_sem,g])
  .exact wo (h:=wx f (i+1) ⟨wg,wj,(by rw [wD _ _ a,d];simpa using j)⟩)
 .have hA:c.u.all oF=true:=by rw [aG aD] at d;exact d
  have g:oF c=decide ((c.l.i.h.length:Int)+c.l.i.j.length<=6):=by rw [BP,hA];rfl
  exact wo (h:=l _ _ (by simp [go_sem,g]))
def Zs (p q:Pattern):Int:=((14 ^ (q.i.h.length - p.i.h.length) * 18 ^ (q.i.j.length - p.i.j.length):Nat):Int)
def Ky (k:Int)(p' p:Pattern):Pattern:=if k=5 then p' else p
mutual
def n4:Cond→Pattern→Bool
 | .mk k l m p',p=>IE l (Ky k p' p)&&decide (Zs p (Ky k p' p)≤5000)
def IE:List Cond→Pattern→Bool
 | [],_=>true
 | c :: l,q=>n4 c q&&IE l q
end
theorem Rg (l:List Cond)(q:Pattern):IE l q=l.all λc=>n4 c q:=by
 induction l with
 | nil=>simp [IE]
 | cons a l ih=>simp [IE,ih]
theorem A0 (c:Cond)(p:Pattern):n4 c p=((c.u.all λk=>n4 k (Ky c.B c.l p))&&decide (Zs p (Ky c.B c.l p)<=5000)):=by
 cases c;simp only [n4,Rg,Cond.u,Cond.l,Cond.B];try rfl
theorem tF {a j:Nat}(ha:1<=a)(hj:j<=6):a ^ j<=a ^ 6/\1<=a ^ j:=⟨Nat.pow_le_pow_right ha hj,by first|exact Nat.one_le_pow _ _ ha|exact Nat.pow_pos ha|exact Nat.pos_pow_of_pos _ ha⟩
theorem Lz (q:Pattern):q.c.take 5=q.c:=rfl
theorem Jr:∀ c:Cond,c.ok->oF c=true->∀ p:Pattern,p.i.h.length<=1000000->p.i.j.length<=1000000->Pua 72 [p.d,.agg c.c,dI 14,dI 18] (.bool (n4 c p)):=by
 refine jU λc Z hc O p a1 a0=>?_;obtain ⟨hs,hk⟩:=(sH c).1 hc;have q1:=hs.p1;have q2:=hs.p2;rw [BP] at O;simp only [aL,decide_eq_true_eq,b9] at O;obtain ⟨q,D⟩:=dF (Ky c.B c.l p);have m:q.i.h.length - p.i.h.length<=6/\q.i.j.length - p.i.j.length<=6/\q.i.h.length<=1000000/\q.i.j.length<=1000000:=by
  rw [<- D];unfold Ky;split<;>omega
 refine Tz.pK ⟨λt=>t==9,λ_=>[]⟩ func72 rfl (λQ P=>?_);have Y:=@Cond.x;refine dR (λU=>?_) λU=>?_
 .have hqc:c.l=q:=by rw [<- D];exact (if_pos U).symm
  refine wp (h:=bC (λi e H=>∃ w:Nat,(e 4=.adr p.c/\e 5=.adr c.c/\e 2=dI 14/\e 3=dI 18/\e 9=.ptr 0 1 0 0/\e 10=dI w/\e 11=dI i)/\(H.get 0=some ⟨33,5,[q.c],false⟩)/\(0<H.next)/\(p.i.h.length<=i)/\(i<=q.i.h.length\/i=p.i.h.length)/\(w=14 ^ (i - p.i.h.length))) (λi=>q.i.h.length - i) p.i.h.length ⟨1,wg,(by simp [go_sem,hqc,Lz]),wn,wi,wi,(by simp)⟩ λI0 K i e H F=>?_);obtain ⟨w,X,A,r,hi,s,B⟩:=F;have Y:=xa2 Y X A (cW r);refine wv (h:=?_);repeat first|intro _|refine ⟨fS,?_⟩
  refine wq (λN=>?_) λN=>?_
  .have f:=(tF (a:=14) (j:=i - p.i.h.length) aD aD).1;rw [<- B] at f;have g:w<=7529536:=f;have Y:=wa Y N;exact wp (h:=wx K (i+1) ⟨(w * 14),wg,(by simp [go_sem,Y]),wn,wj,wj,(by rw [(aD:i+1 - p.i.h.length=(i - p.i.h.length)+1),Nat.pow_succ,B])⟩)
  .have hw':w=14 ^ (q.i.h.length - p.i.h.length):=by rw [B];congr 1;omega
   have f:=(tF (a:=14) (j:=q.i.h.length - p.i.h.length) aD m.1).1;rw [<- hw'] at f;have g:w<=7529536:=f;refine wp (h:=bC (λk e H=>∃ v:Nat,(e 4=.adr p.c/\e 5=.adr c.c/\e 2=dI 14/\e 3=dI 18/\e 9=.ptr 0 1 0 0/\e 10=dI v/\e 12=dI k)/\(H.get 0=some ⟨33,5,[q.c],false⟩)/\(0<H.next)/\(p.i.j.length<=k)/\(k<=q.i.j.length\/k=p.i.j.length)/\(v=w * 18 ^ (k - p.i.j.length))) (λk=>q.i.j.length - k) p.i.j.length ⟨w,wg,(by simp [go_sem,Y]),wn,wi,wi,(by simp)⟩ λI2 J k e H s=>?_);obtain ⟨v,W,z,o,T,S,C⟩:=s;have Y:=xa2 Y W z (cW o);refine wv (h:=?_);repeat first|intro _|refine ⟨fS,?_⟩
   refine wq (λu=>?_) λu=>?_
   .have hvb:=(tF (a:=18) (j:=k - p.i.j.length) aD aD).1;have M:v<=7529536 * 34012224:=by rw [C];exact kX g hvb
    have Y:=wa Y u;exact wp (h:=wx J (k+1) ⟨(v * 18),wg,(by simp [go_sem,Y]),wn,wj,wj,(by rw [(aD:k+1 - p.i.j.length=(k - p.i.j.length)+1),Nat.pow_succ,C,Nat.mul_assoc])⟩)
   .have hv':v=w * 18 ^ (q.i.j.length - p.i.j.length):=by rw [C];congr 2;omega
    refine wv (h:=bC (λj e H=>(e 4=.adr p.c/\e 5=.adr c.c/\e 2=dI 14/\e 3=dI 18/\e 9=.ptr 0 1 0 0/\e 10=dI v/\e 13=dI j)/\(H.get 0=some ⟨33,5,[q.c],false⟩)/\(0<H.next)/\(j<=c.u.length)/\((c.u.take j).all (λx=>n4 x q)=true)) (λj=>c.u.length - j) 0 ⟨wg,(by simp [go_sem,Y]),wn,wi,(by rfl)⟩ λI4 I j e H E=>?_);obtain ⟨V,y,n,hj,G⟩:=E;have Y:=xa2 Y V y (cW n);refine wv (h:=?_);repeat first|intro _|refine ⟨fS,?_⟩
    refine wq (λb=>?_) λb=>?_
    .have Y:=xa2 Y b (aA b) @Lz;refine wp (h:=aI ((by have R:=Z _ (aC b) (hk _ (aC b)) (O.1 _ (aC b)) q m.2.2.1 m.2.2.2;rwa [Cond.x] at R)) wl ?_);refine mA (λl=>?_) λl=>?_
     .refine wv (h:=?_);have L:n4 c p=false:=by
       have:(c.u.all λx=>n4 x q)=false:=by
        rw [bK];intro h;exact absurd (b9.1 h _ (aC b)) (bZ l)
       rw [A0,D,this];rfl
      exact P _ _ (by simp [go_sem,L])
     .exact wp (h:=wx I (j+1) ⟨wg,(by simp [go_sem,Y]),wn,wj,(by rw [wD _ _ b,G];simpa using l)⟩)
    .have hA:(c.u.all λx=>n4 x q)=true:=by rw [aG aD] at G;exact G
     have L:n4 c p=decide ((v:Int)<=5000):=by rw [A0,D,hA,hv',hw'];rfl
     exact wv (h:=P _ _ (by simp [go_sem,L]))
 .have hqc:p=q:=by rw [<- D];exact (if_neg U).symm
  refine wp (h:=bC (λi e H=>∃ w:Nat,(e 4=.adr p.c/\e 5=.adr c.c/\e 2=dI 14/\e 3=dI 18/\e 9=.ptr 0 1 0 0/\e 10=dI w/\e 11=dI i)/\(H.get 0=some ⟨33,5,[q.c],false⟩)/\(0<H.next)/\(p.i.h.length<=i)/\(i<=q.i.h.length\/i=p.i.h.length)/\(w=14 ^ (i - p.i.h.length))) (λi=>q.i.h.length - i) p.i.h.length ⟨1,wg,(by simp [go_sem,hqc,Lz]),wn,wi,wi,(by simp)⟩ λI0 K i e H F=>?_);obtain ⟨w,X,A,r,hi,s,B⟩:=F;have Y:=xa2 Y X A (cW r);refine wv (h:=?_);repeat first|intro _|refine ⟨fS,?_⟩
  refine wq (λN=>?_) λN=>?_
  .have f:=(tF (a:=14) (j:=i - p.i.h.length) aD aD).1;rw [<- B] at f;have g:w<=7529536:=f;have Y:=wa Y N;exact wp (h:=wx K (i+1) ⟨(w * 14),wg,(by simp [go_sem,Y]),wn,wj,wj,(by rw [(aD:i+1 - p.i.h.length=(i - p.i.h.length)+1),Nat.pow_succ,B])⟩)
  .have hw':w=14 ^ (q.i.h.length - p.i.h.length):=by rw [B];congr 1;omega
   have f:=(tF (a:=14) (j:=q.i.h.length - p.i.h.length) aD m.1).1;rw [<- hw'] at f;have g:w<=7529536:=f;refine wp (h:=bC (λk e H=>∃ v:Nat,(e 4=.adr p.c/\e 5=.adr c.c/\e 2=dI 14/\e 3=dI 18/\e 9=.ptr 0 1 0 0/\e 10=dI v/\e 12=dI k)/\(H.get 0=some ⟨33,5,[q.c],false⟩)/\(0<H.next)/\(p.i.j.length<=k)/\(k<=q.i.j.length\/k=p.i.j.length)/\(v=w * 18 ^ (k - p.i.j.length))) (λk=>q.i.j.length - k) p.i.j.length ⟨w,wg,(by simp [go_sem,Y]),wn,wi,wi,(by simp)⟩ λI2 J k e H s=>?_);obtain ⟨v,W,z,o,T,S,C⟩:=s;have Y:=xa2 Y W z (cW o);refine wv (h:=?_);repeat first|intro _|refine ⟨fS,?_⟩
   refine wq (λu=>?_) λu=>?_
   .have hvb:=(tF (a:=18) (j:=k - p.i.j.length) aD aD).1;have M:v<=7529536 * 34012224:=by rw [C];exact kX g hvb
    have Y:=wa Y u;exact wp (h:=wx J (k+1) ⟨(v * 18),wg,(by simp [go_sem,Y]),wn,wj,wj,(by rw [(aD:k+1 - p.i.j.length=(k - p.i.j.length)+1),Nat.pow_succ,C,Nat.mul_assoc])⟩)
   .have hv':v=w * 18 ^ (q.i.j.length - p.i.j.length):=by rw [C];congr 2;omega
    refine wv (h:=bC (λj e H=>(e 4=.adr p.c/\e 5=.adr c.c/\e 2=dI 14/\e 3=dI 18/\e 9=.ptr 0 1 0 0/\e 10=dI v/\e 13=dI j)/\(H.get 0=some ⟨33,5,[q.c],false⟩)/\(0<H.next)/\(j<=c.u.length)/\((c.u.take j).all (λx=>n4 x q)=true)) (λj=>c.u.length - j) 0 ⟨wg,(by simp [go_sem,Y]),wn,wi,(by rfl)⟩ λI4 I j e H E=>?_);obtain ⟨V,y,n,hj,G⟩:=E;have Y:=xa2 Y V y (cW n);refine wv (h:=?_);repeat first|intro _|refine ⟨fS,?_⟩
    refine wq (λb=>?_) λb=>?_
    .have Y:=xa2 Y b (aA b) @Lz;refine wp (h:=aI ((by have R:=Z _ (aC b) (hk _ (aC b)) (O.1 _ (aC b)) q m.2.2.1 m.2.2.2;rwa [Cond.x] at R)) wl ?_);refine mA (λl=>?_) λl=>?_
     .refine wv (h:=?_);have L:n4 c p=false:=by
       have:(c.u.all λx=>n4 x q)=false:=by
        rw [bK];intro h;exact absurd (b9.1 h _ (aC b)) (bZ l)
       rw [A0,D,this];rfl
      exact P _ _ (by simp [go_sem,L])
     .exact wp (h:=wx I (j+1) ⟨wg,(by simp [go_sem,Y]),wn,wj,(by rw [wD _ _ b,G];simpa using l)⟩)
    .have hA:(c.u.all λx=>n4 x q)=true:=by rw [aG aD] at G;exact G
     have L:n4 c p=decide ((v:Int)<=5000):=by rw [A0,D,hA,hv',hw'];rfl
     exact wv (h:=P _ _ (by simp [go_sem,L]))
def Gq (t:Types)(p:Pattern)(c:Cond)(h:Host):Bool:=fewC c&&fewP p&&Ek h&&(decide (condF t p c≠0)||(light21 t p h&&oF c&&decide ((h.i.h.length:Int)<=6)&&decide ((h.i.j.length:Int)<=8)&&n4 c p))
theorem N4 (t:Types)(m:t.ok)(p:Pattern)(c:Cond)(o:c.le)(h:Host):Pua 28 [t.d,p.d,.agg c.c,h.d] (.bool (Gq t p c h)):=by
 refine Tz.p0 func28 rfl λQ n _=>?_;have Y:=xa1 @Host.c.eq_1 @Pattern.c.eq_1 @Cond.x;refine wo (h:=aB ((by have b:=Kh c o;rwa [Cond.x] at b)) wl ?_);refine wo (h:=aH (λa=>wQ p) (λa=>wl) ?_);refine wo (h:=aH (λa=>Ki h) (λa=>wl) ?_);refine eJ (λl=>?_) λl=>?_
 .have hF:(fewC c&&fewP p&&Ek h)=false:=by cases k:fewC c<;>cases j:fewP p<;>cases i:Ek h<;>simp [k,j,i] at l<;>rfl
  exact wv (h:=n _ _ (by simp [go_sem,Gq,hF]))
 .have hF:fewC c=true/\fewP p=true/\Ek h=true:=by cases k:fewC c<;>cases j:fewP p<;>cases i:Ek h<;>simp [k,j,i] at l<;>exact ⟨rfl,rfl,rfl⟩
  have f:c.ok/\c.size<=1000000:=by
   have g:=hF.1;simp [fewC] at g;have q:=HP c 40 aD g;exact ⟨q.1,aD⟩
  have e:p.i.h.length<=1000000/\p.i.j.length<=1000000:=by
   have g:=hF.2.1;simp [fewP,fewG] at g;omega
  refine wo (h:=aB ((by have b:=EU t m p c f.1 f.2;rwa [Cond.x] at b)) wl ?_);refine wo (h:=aH (λa=>N7 t m p h) (λa=>wl) ?_);refine wo (h:=aH (λa=>(by have b:=L2 c f.1;rwa [Cond.x] at b)) (λa=>wl) ?_);refine wo (h:=aH (λa=>(by have b:=Jr c f.1 (by simp at a;simp_all) p e.1 e.2;rwa [Cond.x] at b)) (λa=>wl) ?_);exact wo (h:=n _ _ (by simp [go_sem,Gq,hF.1,hF.2.1,hF.2.2]))
def light26 (t:Types)(r:Rule)(h:Host):Bool:=xB t&&fewR r&&Gq t r.left r.cond h
end Go.Abs
end
section
namespace Go.Abs
open Go.ChangeShapes Go.WideShapes Go.RowKit
structure Bulk {H:Type} (bulk:DataW H->Nat):Prop where
 len:∀ e s,e.length<=bulk (.slice e s)
 el:∀ e s,∀ d∈e,bulk d<=bulk (.slice e s)
 part:∀ l,∀ d∈l,bulk d<=bulk (.agg l)
 str:∀ s:List UInt8,s.length<=bulk (.lit (.string s))
abbrev Ti:Nat->Prop:=λ_=>False
section
variable {H:Type} {enc:TypeId × Value→H} {P:Program} {w:World} {base:Nat} {spare:Nat→Bool} {held:Bool} {bulk:DataW H→Nat} {B:Nat}
def Opens (enc:TypeId × Value->H)(P:Program)(w:World)(base:Nat)(spare:Nat->Bool)(held:Bool)(bulk:DataW H->Nat)(B:Nat)(n:Nat)(t:TypeId){α:Type}(C:α->UN)(G:α->Prop):Prop :=
 ∀ (fuel:Nat) (cs:List Value) (x:DataW H × List MemPlace),fuel<=n->DataW.trod enc P w base spare held fuel t cs=some x->bulk x.1<=B ->
  ∃ a,G a/\RepL Ti jL t6 w cs (C a)/\∀ u∈cs,u.oneCell'=true
variable {n:Nat} {t:TypeId}
theorem Opens.mono {α:Type}{C:α->UN}{G:α->Prop}{m:Nat}(h:Opens enc P w base spare held bulk B n t C G)(hm:m<=n):Opens enc P w base spare held bulk B m t C G :=
 λfuel cs x hf hx hb=>h fuel cs x (fB hf hm) hx hb
theorem Opens.zero {α:Type}{C:α->UN}{G:α->Prop}:Opens enc P w base spare held bulk B 0 t C G:=λfuel cs x hf hx _=>by
 have:fuel=0:=aD;subst this;simp [DataW.trod] at hx
theorem Opens.map {α β:Type}{C:α->UN}{G:α->Prop}{C':β->UN}{G':β->Prop}(h:Opens enc P w base spare held bulk B n t C G)(f:α->β)(hC:∀ a,C a=C' (f a))(hG:∀ a,G a->G' (f a)):Opens enc P w base spare held bulk B n t C' G' :=
 λfuel cs x hf hx hb=>by
  obtain ⟨a,h1,h2,h3⟩:=h fuel cs x hf hx hb;exact ⟨f a,hG a h1,by rw [<- hC];exact h2,h3⟩
theorem r6 {v:Value}{d:D}(h:RepV Ti jL t6 w v d):RepL Ti jL t6 w [v] [d] :=
 ⟨rfl,λj u x hu hx=>by
  cases j with
  | zero=>simp at hu hx;subst hu;subst hx;exact h
  | succ j=>simp at hu⟩
theorem CH {a b:List Value}{c d:UN}(h:RepL Ti jL t6 w a c)(k:RepL Ti jL t6 w b d):RepL Ti jL t6 w (a++b) (c++d):=by
 refine ⟨by simp [h.len,k.len],λj u x f e=>?_⟩;by_cases g:j<a.length
 .rw [aS g] at f;rw [aS (by rw [<- h.len];exact g)] at e;exact h.Z j u x f e
 .rw [bD aD] at f;rw [bD (by rw [<- h.len];omega),<- h.len] at e;exact k.Z _ u x f e
theorem QD (ht:P.underlying t=some .bool):Opens enc P w base spare held bulk B n t (λb:Bool=>[D.bool b]) (λ_=>True):=λfuel cs x _ hx _=>by
 obtain ⟨b,rfl,_⟩:=DataW.trod_bool ht hx;exact ⟨b,trivial,r6 (.bool b),by simp [Value.oneCell']⟩
theorem Ta {k:IntKind}(ht:P.underlying t=some (.int k)):Opens enc P w base spare held bulk B n t (λz:Int=>[D.int k z]) (λz=>(Lit.int k z).wf=true):=λfuel cs x _ hx _=>by
 obtain ⟨z,rfl,_,hw⟩:=DataW.trod_int ht hx;exact ⟨z,hw,r6 (.int k z),by simp [Value.oneCell']⟩
theorem Mc (hB:Bulk bulk)(ht:P.underlying t=some .string):Opens enc P w base spare held bulk B n t (λs:ByteArray=>[D.str s]) (λs=>s.size<=B):=λfuel cs x _ hx hb=>by
 obtain ⟨s,rfl,rfl,hs⟩:=DataW.trod_string ht hx;refine ⟨s,?_,r6 (.str s),by simp [Value.oneCell']⟩;have:=hB.str s.data.toList;have hl:s.data.toList.length=s.size:=by rw [gC];rfl
 simp only at hb;omega
theorem rows {α:Type}{C:α->UN}{G:α->Prop}{ad:Addr}{sz:Nat}:∀ (len:Nat),
  (∀ i,i<len->∃ c a,w.cells? base (ad.add (i * sz)) sz=some c/\G a/\RepL Ti jL t6 w c (C a)/\∀ u∈c,u.oneCell'=true) ->
  ∃ (l:List α) (xs:List Value),l.length=len/\(∀ a∈l,G a)/\RepL Ti jL t6 w xs (l.map C).flatten/\(∀ u∈xs,u.oneCell'=true)/\xs.length=len * sz /\
   (∀ (j:Nat) (u:Value),xs[j]?=some u->w.cell? (ad.add j)=some u)/\∀ c∈l.map C,c.length=sz
 | 0,_=>⟨[],[],rfl,by simp,⟨rfl,λj u d hu=>by simp at hu⟩,by simp,by simp,by simp,by simp⟩
 | len+1,h=>by
  obtain ⟨l,xs,h1,h2,h3,h4,h5,h6,h7⟩:=rows len λi hi=>h i aD;obtain ⟨c,a,hc,hg,hr,h1c⟩:=h len aD;obtain ⟨_,hcl,hcell⟩:=World.cells?_some hc;refine ⟨l++[a],xs++c,by simp [h1],λb hb=>?_,?_,λu hu=>?_,by rw [aQ,h5,hcl,Nat.succ_mul],λj u hu=>?_,λb hb=>?_⟩
  .rcases aZ.1 hb with h|h
   .exact h2 b h
   .simp at h;subst h;exact hg
  .rw [List.map_append,mV];refine CH h3 ?_;simpa using hr
  .rcases aZ.1 hu with h|h
   .exact h4 u h
   .exact h1c u h
  .by_cases hj:j<xs.length
   .rw [aS hj] at hu;exact h6 j u hu
   .rw [bD aD] at hu;have hlt:j - xs.length<sz:=by rw [<- hcl];exact (aO.1 hu).1
    have:=hcell (j - xs.length) hlt;rw [Addr.add_add,hu] at this;rwa [(aD:len * sz+(j - xs.length)=j)] at this
  .rw [List.map_append] at hb;rcases aZ.1 hb with h|h
   .exact h7 b h
   .simp at h;subst h;rw [<- hr.len,hcl]
theorem j4 (hB:Bulk bulk){e:TypeId}(ht:P.underlying t=some (.slice e)){α:Type}{C:α->UN}{G:α->Prop}(h:Opens enc P w base spare held bulk B n e C G) :
  Opens enc P w base spare held bulk B (n+1) t (λl:List α=>[.list (l.map C)]) (λl=>l.length<=B/\∀ a∈l,G a):=λfuel cs x hf hx hb=>by
 rcases DataW.trod_slice ht hx with ⟨rfl,rfl⟩|⟨ad,len,cap,elems,rest,m,rfl,rfl,rfl,hbase,hlc,hcap,hlen,hel,_,_⟩
 .exact ⟨[],⟨eP _,by simp⟩,r6 .listN,by simp [Value.oneCell']⟩
 .simp only at hb;have hb1:=hB.len (elems.map (·.1)) (rest.map (·.1));rw [aR] at hb1;obtain ⟨l,xs,h1,h2,h3,h4,h5,h6,h7⟩:=rows (w:=w) (base:=base) (C:=C) (G:=G) (ad:=ad) (sz:=P.cellsOf e) len λi hi=>by
   have:=hel i hi;rw [aA aD,Option.bind_eq_some_iff] at this;obtain ⟨c,hc,hd⟩:=this;obtain ⟨a,g1,g2,g3⟩:=h m c _ aD hd (fB (hB.el _ (rest.map (·.1)) _ (aX.2 ⟨_,aC aD,rfl⟩)) hb);exact ⟨c,a,hc,g1,g2,g3⟩
  refine ⟨l,⟨aD,h2⟩,r6 ?_,by simp [Value.oneCell']⟩;have key:=RepV.list (M:=Ti) (σ:=jL) (N:=t6) (w:=w) ad cap (P.cellsOf e) xs (l.map C) (by rw [aR];omega) hcap h7 h3.len h4 (λj u hu=>⟨λh=>h,h6 j u hu⟩) h3.Z;rw [aR,h1] at key;exact key
def YB (enc:TypeId × Value->H)(P:Program)(w:World)(base:Nat)(spare:Nat->Bool)(held:Bool)(bulk:DataW H->Nat)(B n:Nat):List TypeId->List Value->Prop
 | [],cs=>cs=[]
 | t :: ts,cs=>(∃ y,DataW.trod enc P w base spare held n t (cs.take (P.cellsOf t))=some y/\bulk y.1<=B)/\YB enc P w base spare held bulk B n ts (cs.drop (P.cellsOf t))
def M5 (enc:TypeId × Value->H)(P:Program)(w:World)(base:Nat)(spare:Nat->Bool)(held:Bool)(bulk:DataW H->Nat)(B:Nat)(n:Nat)(ts:List TypeId){α:Type}(C:α->UN)(G:α->Prop):Prop :=
 ∀ (fuel:Nat) (cs:List Value),fuel<=n->YB enc P w base spare held bulk B fuel ts cs->∃ a,G a/\RepL Ti jL t6 w cs (C a)/\∀ u∈cs,u.oneCell'=true
theorem gZ:M5 enc P w base spare held bulk B n [] (λ_:Unit=>[]) (λ_=>True):=λfuel cs _ h=>by
 have h:cs=[]:=h;subst h;exact ⟨(),trivial,⟨rfl,λj u d hu=>by simp at hu⟩,by simp⟩
theorem bL {ts:List TypeId}{α β:Type}{C:α->UN}{G:α->Prop}{C':β->UN}{G':β->Prop}(h:Opens enc P w base spare held bulk B n t C G)(k:M5 enc P w base spare held bulk B n ts C' G') :
  M5 enc P w base spare held bulk B n (t :: ts) (λp:α × β=>C p.1++C' p.2) (λp=>G p.1/\G' p.2):=λfuel cs hf hs=>by
 obtain ⟨⟨y,hy,hyb⟩,hs⟩:=hs;obtain ⟨a,a1,a2,a3⟩:=h fuel _ y hf hy hyb;obtain ⟨b,b1,b2,b3⟩:=k fuel _ hf hs;refine ⟨(a,b),⟨a1,b1⟩,?_,λu hu=>?_⟩
 .have:=CH a2 b2;rwa [List.take_append_drop] at this
 .rw [<- List.take_append_drop (P.cellsOf t) cs] at hu;rcases aZ.1 hu with h|h
  .exact a3 u h
  .exact b3 u h
def UB (P:Program):Nat->List Field->Option Nat
 | o,[]=>some o
 | o,f :: r=>if f.offset=o then UB P (o+P.cellsOf f.type) r else none
theorem Rx {fuel:Nat}{cs:List Value}:∀ (fs:List Field) (o:Nat),UB P o fs=some cs.length ->
  (∀ f∈fs,∃ y,DataW.trod enc P w base spare held fuel f.type ((cs.drop f.offset).take (P.cellsOf f.type))=some y/\bulk y.1<=B)->o<=cs.length/\YB enc P w base spare held bulk B fuel (fs.map (·.type)) (cs.drop o)
 | [],o,ho,_=>by
  simp only [UB,bH] at ho;subst ho;exact ⟨bF _,by show cs.drop cs.length=[];simp⟩
 | f :: fs,o,ho,h=>by
  unfold UB at ho;split at ho
  .rename_i hof;subst hof;obtain ⟨h1,h2⟩:=Rx fs _ ho λg hg=>h g (by simp [hg]);refine ⟨aD,?_⟩;refine ⟨h f aE,?_⟩;rw [List.drop_drop];exact h2
  .cases ho
theorem fO (hB:Bulk bulk){fs:Array Field}(ht:P.underlying t=some (.struct fs))(ho:UB P 0 fs.toList=some (P.cellsOf t)){α:Type}{C:α->UN}{G:α->Prop}(h:M5 enc P w base spare held bulk B n (fs.toList.map (·.type)) C G) :
  Opens enc P w base spare held bulk B (n+1) t C G:=λfuel cs x hf hx hb=>by
 obtain ⟨xs,m,rfl,rfl,hcl,hxl,hfl⟩:=DataW.trod_struct ht hx;simp only at hb;have hs:=(Rx (enc:=enc) (P:=P) (w:=w) (base:=base) (spare:=spare) (held:=held) (bulk:=bulk) (B:=B) (fuel:=m) (cs:=cs) fs.toList 0 (by rw [hcl];exact ho) λf hfm=>by
  obtain ⟨i,hi,rfl⟩:=aN hfm;have hi':i<fs.size:=by simpa using hi
  have hfi:=hfl i (fs.toList[i]) (by simp [hi']);rw [aA aD] at hfi;exact ⟨_,hfi,fB (hB.part _ _ (aX.2 ⟨_,aC aD,rfl⟩)) hb⟩).2
 rw [List.drop_zero] at hs;exact h m cs aD hs
theorem Cl {r:Reach}{s:Nat}{q:Array Field}{v:Value}{d:DataW H}{i:List MemPlace}{α:Type}{C:α->UN}{G:α->Prop}(j:P.underlying t=some (.struct q))(h:∀ n,Opens enc P w base spare held bulk B n t C G)
  (c:Value.okWide P w r s t v) (l:DataW.Trod enc P w base spare held t v d i) (o:bulk d<=B):∃ a,G a/\RepV Ti jL t6 w v (.agg (C a)):=by
 obtain ⟨f,rfl,_⟩:=okWide_struct j c;obtain ⟨b,k⟩:=l;obtain ⟨a,p,e,g⟩:=h b b _ _ (bF _) k o;have m:(Value.agg f).cells.toList=f.toList:=rfl;rw [m] at e g;have:=RepV.agg (M:=Ti) (σ:=jL) (N:=t6) (w:=w) f.toList (C a) e.len g e.Z;exact ⟨a,p,by simpa using this⟩
theorem Bg (hl:laidOutB P=true){W W':World}{sp':Nat->Bool}(hb:Below W.heap.size W W'):∀ {ts:List TypeId} {vs:List Value} {ds:List (DataW H)} {ps:List MemPlace},(∀ t∈ts,P.readableRec t=true/\t<P.types.size) ->
  DataW.TrodAll enc P W 0 (λ_=>true) true ts vs ds ps->(∀ x∈ps,x.block<W.heap.size)->(∀ x∈ps,sp' x.block=true)->DataW.TrodAll enc P W' 0 sp' true ts vs ds ps
 | [],_,_,_,_,h,_,_=>by
  obtain ⟨rfl,rfl,rfl⟩:=trodAll_nil h;rfl
 | t :: ts,_,_,_,hr,h,hlt,hs=>by
  obtain ⟨v,vs,d,ds,p,q,rfl,rfl,rfl,h1,h2⟩:=trodAll_cons h;refine ⟨p,q,WideElems.Trod_stays hl (hr t aE).1 (hr t aE).2 h1 (λx hx=>hb.same (hlt x (by simp [hx]))) (λx hx=>hs x (by simp [hx])),Bg hl hb (λu hu=>hr u (by simp [hu])) h2 (λx hx=>hlt x (by simp [hx])) (λx hx=>hs x (by simp [hx])),rfl⟩
theorem Jw (L:laidOutB P=true){f:Func}{s:ChangeSpec}{d n c o:Bool}{W u:World}{args:Array Value}{v:Value}{ds A:List (DataW H)}{e:List MemPlace}
  (K:∀ t∈f.params.toList,P.readableRec t=true/\t<P.types.size) (a:s.vars=[]) (G:DataW.Whole enc P f.params.toList s.vars d W args.toList ds A e)
  (i:∀ (b:Nat) (g:Nat->Bool) (M:Bool),DataW.TrodAll enc P u b g M f.resultTypes.toList (v.resultList f.resultTypes.size) (s.fn H (ds++A)).results [])
  (l:(s.fn H (ds++A)).args=ds) (B:(s.fn H (ds++A)).vars=[]) (D:Below W.heap.size W u)
  (C:∀ (j:Nat) (t:TypeId) (r:Value),f.resultTypes[j]?=some t->(v.resultList f.resultTypes.size)[j]?=some r->Value.okWide P u .any 0 t r) :
  s.post enc P f d n c o W args v u:=by
 have m:=G;obtain ⟨p,q,N,I,rfl,E,F⟩:=G;rw [a] at I;obtain ⟨rfl,rfl⟩:=trodVars_none I;rw [dL] at m E F;have k:∀ x∈p,x.block<W.heap.size:=λx h=>by simpa using m.lt x h
 have z:∀ g:Nat->Bool,(∀ x∈p,g x.block=true)->DataW.TrodAll enc P u 0 g true f.params.toList args.toList (s.fn H (ds++[])).args p:=λg J=>by
  rw [l];exact Bg L D K N k J
 have y:∀ g:Nat->Bool,DataW.TrodVars enc P u g s.vars (s.fn H (ds++[])).vars []:=λg=>by rw [a,B];rfl
 refine ⟨ds,[],p,[],p,[],m,i _ _ _,z _ (λx h=>by simpa using k x h),y _,World.keptBut_mono (λx h=>⟨h,.inr (bZ h)⟩) (D.frame (·∈p)),λ_=>?_⟩;refine ⟨C,_,_,([]++p)++[],⟨[]++p,[],trodAll_append (z _ (λ_ _=>rfl)) (i _ _ _),y _,rfl,?_,?_⟩,?_⟩
 .intro b off hp;have w:MemPlace.cell b off∈p:=by simpa using hp
  have:=E b off w;rw [<- this];exact D.frozen (k _ w)
 .intro ha;simpa using F ha
 .intro x h _;simpa using h
end
end Go.Abs
end
