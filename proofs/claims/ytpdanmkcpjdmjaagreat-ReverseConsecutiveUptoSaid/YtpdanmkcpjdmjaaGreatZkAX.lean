/- Plain law of undoing a step: one sort of elements (nodes, or -/
import Derived.Test.YtpdanmkcpjdmjaaGreatZkAW
import Derived.Test.YtpdanmkcpjdmjaaGreatZkAF
import Derived.Test.YtpdanmkcpjdmjaaGreatZkAA
set_option linter.unusedVariables false
set_option linter.unusedSimpArgs false
section
set_option maxRecDepth 100000
set_option maxHeartbeats 4000000
open Go Go.Proofs Tryz
namespace Go.Abs
structure Srt (keep into mm:W3) (nL nR nH:Nat):Prop where
 kl:keep.length=into.length
 kr:∀ x∈keep,0<=x/\x<nL
 ir:∀ x∈into,0<=x/\x<nR
 cy:into.Nodup
 ml:mm.length=nL
 mr:∀ x∈mm,0<=x/\x<nH
 du:nU mm keep=[]
def lN (keep mm:W3)(nH:Nat):W3:=bP (gL mm keep) nH
def mQ (keep mm:W3)(nH:Nat):W3:=n4 (lN keep mm nH) nH
def uR (keep into mm:W3)(nR nH:Nat):W3:=D5 keep into (pH mm (mQ keep mm nH)) nR (lN keep mm nH).length
theorem lU {l:W3}{i:Nat}(h:i<l.length):iA l i=l[i]:=by simp [iA,h]
theorem YW {l:W3}{k:Int}(h:k.toNat<l.length):iA l k=l[k.toNat]:=by unfold iA;rw [aA h];rfl
theorem oX {l:W3}{v:Int}(h:v∈l):∃ i:Nat,i<l.length/\iA l i=v:=by
 obtain ⟨i,a,rfl⟩:=aQ h;exact ⟨i,a,lU a⟩
theorem EE {l:W3}(a:l.Nodup){i j:Nat}(c:i<l.length)(b:j<l.length)(h:iA l i=iA l j):i=j:=by
 rw [lU c,lU b] at h;exact (mR a).1 h
section
variable {keep into mm:W3} {nL nR nH:Nat}
theorem Srt.am (S:Srt keep into mm nL nR nH){x:Int}:x∈lN keep mm nH↔(0<=x/\x<nH)/\∀ k:Int,0<=k->k<nL->k∉keep->iA mm k≠x:=by
 have e:=S.ml;unfold lN;rw [fZ];refine and_congr_right λ_=>⟨λh k j g b c=>h (q9.2 ⟨k.toNat,aD,?_,?_⟩),λh d=>?_⟩
 .rw [show ((k.toNat:Nat):Int)=k by omega,bQ];exact λa=>b ((mem_iff _ _).1 a)
 .rw [<- c,aA (aD:k.toNat<mm.length)];unfold iA;rw [aA (aD:k.toNat<mm.length)];rfl
 .obtain ⟨i,f,a,c⟩:=q9.1 d;refine h i aD aD (λb=>?_) (by unfold iA;rw [show ((i:Int)).toNat=i by omega,c];rfl);rw [(mem_iff _ _).2 b] at a;cases a
theorem Srt.dC (S:Srt keep into mm nL nR nH):(lN keep mm nH).Nodup:=mL (oV _ _)
theorem Srt.bS (S:Srt keep into mm nL nR nH){x:Int}(h:0<=x/\x<nH):iA (mQ keep mm nH) x=gG (lN keep mm nH) (lN keep mm nH).length x:=by
 unfold iA mQ n4;rw [o8 _ aD,Option.getD_some,show ((x.toNat:Nat):Int)=x by omega]
theorem Srt.aB (S:Srt keep into mm nL nR nH){x:Int}(b:x∈lN keep mm nH):∃ p:Nat,iA (mQ keep mm nH) x=p/\p<(lN keep mm nH).length/\iA (lN keep mm nH) p=x:=by
 obtain ⟨p,a,rfl⟩:=aQ b;exact ⟨p,by rw [S.bS (S.am.1 b).1,qD S.dC a],a,lU a⟩
theorem Srt.cg (S:Srt keep into mm nL nR nH){p:Nat}(a:p<(lN keep mm nH).length):iA (lN keep mm nH) p∈lN keep mm nH/\iA (mQ keep mm nH) (iA (lN keep mm nH) p)=p:=by
 have b:iA (lN keep mm nH) p∈lN keep mm nH:=fB aD aD;exact ⟨b,by rw [S.bS (S.am.1 b).1,lU a,qD S.dC a]⟩
theorem Srt.b6 (S:Srt keep into mm nL nR nH){x:Int}(h:0<=x/\x<nH)(a:x∉lN keep mm nH):iA (mQ keep mm nH) x = -1:=by rw [S.bS h,rF a _ (aZ _)]
theorem Srt.bC (S:Srt keep into mm nL nR nH){x y:Int}(b:x∈lN keep mm nH)(a:y∈lN keep mm nH)(h:iA (mQ keep mm nH) x=iA (mQ keep mm nH) y):x=y:=by
 obtain ⟨p,d,_,rfl⟩:=S.aB b;obtain ⟨q,c,_,rfl⟩:=S.aB a;rw [(aD:p=q)]
theorem Srt.cJ (S:Srt keep into mm nL nR nH){j:Int}(h:0<=j/\j<nR):iA (uR keep into mm nR nH) j=Jg keep into (pH mm (mQ keep mm nH)) (lN keep mm nH).length j.toNat:=by
 unfold iA uR D5;simp [(aD:j.toNat<nR)]
theorem Srt.aq (S:Srt keep into mm nL nR nH){k:Int}(b:k∈keep):iA mm k∈lN keep mm nH:=by
 have a:=S.kr k b;have c:=S.ml;exact fZ.2 ⟨S.mr _ (fB a.1 aD),xH S.du a.1 aD b⟩
theorem Srt.aK (S:Srt keep into mm nL nR nH){q:Nat}(g:q<keep.length):iA (uR keep into mm nR nH) (iA into q)=iA (mQ keep mm nH) (iA mm (iA keep q)):=by
 have c:=S.kl;have h:=S.ml;have a:iA into q∈into:=fB aD aD;have i:=S.kr _ (fB (l:=keep) (n:=(q:Int)) aD aD);rw [S.cJ (S.ir _ a)];have d:gG into into.length ((iA into q).toNat:Nat)=q:=by
  have:=S.ir _ a;rw [show (((iA into q).toNat:Nat):Int)=iA into q by omega,lU aD,qD S.cy aD]
 unfold Jg;rw [d,if_pos aD,(aD:(q:Int).toNat=q)];unfold pH;have b:(iA keep q).toNat<mm.length:=aD;have f:keep[q]?.getD 0=iA keep q:=by unfold iA;rw [(aD:(q:Int).toNat=q)]
 rw [f,aM,aA b,dM,Option.getD_some];have e:iA mm (iA keep q)=mm[(iA keep q).toNat]:=YW b;rw [e];rfl
theorem Srt.ay (S:Srt keep into mm nL nR nH){j:Int}(h:0<=j/\j<nR)(c:j∉into):∃ f:Nat,f<(bP into nR).length/\iA (bP into nR) f=j/\iA (uR keep into mm nR nH) j=((lN keep mm nH).length+f:Nat):=by
 have b:=Er (l:=into) nR j.toNat aD (by rw [show ((j.toNat:Nat):Int)=j by omega,bQ];exact λd=>c ((mem_iff _ _).1 d));have a:=(aP.1 b).1;refine ⟨_,a,by unfold iA;rw [show ((((bP into j.toNat).length:Nat):Int)).toNat=(bP into j.toNat).length by omega,b,Option.getD_some];omega,?_⟩;rw [S.cJ h];unfold Jg;rw [show ((j.toNat:Nat):Int)=j by omega,rF c _ (aZ _),if_neg aD,MP S.cy]
theorem Srt.cq (S:Srt keep into mm nL nR nH){f:Nat}(d:f<(bP into nR).length):∃ j:Int,(0<=j/\j<nR)/\j∉into/\iA (uR keep into mm nR nH) j=((lN keep mm nH).length+f:Nat):=by
 have c:iA (bP into nR) f∈bP into nR:=fB aD aD;obtain ⟨b,a⟩:=fZ.1 c;obtain ⟨g,i,h,e⟩:=S.ay b a;have:=EE (mL (oV _ _)) i d h;subst this;exact ⟨_,b,a,e⟩
theorem Srt.bm (S:Srt keep into mm nL nR nH){j:Int}(h:0<=j/\j<nR):0<=iA (uR keep into mm nR nH) j/\iA (uR keep into mm nR nH) j<((lN keep mm nH).length+(bP into nR).length:Nat):=by
 by_cases a:j∈into
 .obtain ⟨q,d,rfl⟩:=oX a;have b:=S.kl;rw [S.aK aD];obtain ⟨p,c,g,_⟩:=S.aB (S.aq (fB (l:=keep) (n:=(q:Int)) aD aD));omega
 .obtain ⟨f,c,_,e⟩:=S.ay h a;omega
end
/-! ### undoing -/
def dZ (part into keep:W3):W3:=part.map λx=>iA keep (idx into x)
structure Und (keep into mm m0 b mm':W3) (nL nR nH N:Nat):Prop where
 S:Srt keep into mm nL nR nH
 n:N=(lN keep mm nH).length+(bP into nR).length
 to:∀ x:Int,0<=x->x<N->(0<=iA m0 x/\iA m0 x<N)/\iA b (iA m0 x)=x
 of:∀ y:Int,0<=y->y<N->(0<=iA b y/\iA b y<N)/\iA m0 (iA b y)=y
 m:∀ y:Int,0<=y->y<nR->iA mm' y=iA b (iA (uR keep into mm nR nH) y)
 S':Srt (fS into nR) (dZ (fS into nR) into keep) mm' nR nL N
section
variable {keep into mm m0 b mm':W3} {nL nR nH N:Nat}
def D1 (keep into mm m0 mm':W3)(nL nR nH N:Nat)(p v:Int):Prop :=
 (∃ x∈lN (fS into nR) mm' N,iA (mQ (fS into nR) mm' N) x=p/\v∈lN keep mm nH/\iA (mQ keep mm nH) v=iA m0 x) \/
 (∃ j:Int,(0<=j/\j<nL)/\iA (uR (fS into nR) (dZ (fS into nR) into keep) mm' nL N) j=p/\iA mm j=v)
theorem Cb {l:W3}(d:l.Nodup){q:Nat}(c:q<l.length):idx l (iA l q)=q:=by
 obtain ⟨f,a,b⟩:=II ((mem_iff l _).2 (fB (l:=l) (n:=(q:Int)) aD aD));have e:iA l (((idx l (iA l q)).toNat:Nat):Int)=iA l q:=by
  rw [lU a];rw [aA a] at b;exact Option.some.inj b
 have:(idx l (iA l q)).toNat=q:=EE d a c e;omega
theorem Und.kept (U:Und keep into mm m0 b mm' nL nR nH N){j:Int}(p:j∈keep):∃ y:Int,(0<=y/\y<nR)/\y∈into/\j∈dZ (fS into nR) into keep /\
  iA (uR (fS into nR) (dZ (fS into nR) into keep) mm' nL N) j=iA (mQ (fS into nR) mm' N) (iA mm' y)/\iA mm' y∈lN (fS into nR) mm' N/\iA m0 (iA mm' y)=iA (mQ keep mm nH) (iA mm j):=by
 have S:=U.S;have o:=S.kl;obtain ⟨q,k,rfl⟩:=oX p;have g:iA into q∈into:=fB aD aD;have a:=S.ir _ g;have e:iA into q∈fS into nR:=jX.2 ⟨a,g⟩;obtain ⟨s,h,f⟩:=oX e;have l:(dZ (fS into nR) into keep).length=(fS into nR).length:=by simp [dZ]
 have c:iA (dZ (fS into nR) into keep) s=iA keep q:=by
  rw [lU aD];unfold dZ;rw [pI,<- lU h,f,Cb S.cy aD]
 have i:=U.S'.aK h;rw [f,c] at i;have d:=S.bm a;rw [<- U.n] at d;refine ⟨_,a,g,?_,i,U.S'.aq e,?_⟩
 .rw [<- c];exact fB aD aD
 .rw [U.m _ a.1 a.2,(U.of _ d.1 d.2).2,S.aK k]
theorem Und.az (U:Und keep into mm m0 b mm' nL nR nH N){j:Int}(a:j∈dZ (fS into nR) into keep):j∈keep:=by
 unfold dZ at a;obtain ⟨x,c,rfl⟩:=aW.1 a;obtain ⟨d,e,_⟩:=II ((mem_iff _ _).2 (jX.1 c).2);have:=U.S.kl;exact fB d aD
theorem Und.left (U:Und keep into mm m0 b mm' nL nR nH N){x:Int}(g:x∈lN (fS into nR) mm' N):∃ v∈lN keep mm nH,iA (mQ keep mm nH) v=iA m0 x:=by
 obtain ⟨e,o⟩:=U.S'.am.1 g;obtain ⟨s,l⟩:=U.to x e.1 e.2;have q:=U.n;by_cases h:iA m0 x<(lN keep mm nH).length
 .obtain ⟨a,b⟩:=U.S.cg (p:=(iA m0 x).toNat) aD;exact ⟨_,a,aD⟩
 .obtain ⟨j,c,d,r⟩:=U.S.cq (f:=(iA m0 x).toNat - (lN keep mm nH).length) aD;have k:iA (uR keep into mm nR nH) j=iA m0 x:=aD;have:=o j c.1 c.2 (λi=>d (jX.1 i).2);rw [U.m j c.1 c.2,k,l] at this;exact absurd rfl this
theorem Und.right (U:Und keep into mm m0 b mm' nL nR nH N){v:Int}(g:v∈lN keep mm nH):∃ x∈lN (fS into nR) mm' N,iA (mQ keep mm nH) v=iA m0 x:=by
 obtain ⟨p,s,r,_⟩:=U.S.aB g;have o:=U.n;obtain ⟨l,e⟩:=U.of (iA (mQ keep mm nH) v) aD aD;refine ⟨_,U.S'.am.2 ⟨l,λk c a h d=>?_⟩,e.symm⟩;obtain ⟨f,w,u,t⟩:=U.S.ay ⟨c,a⟩ (λi=>h (jX.2 ⟨⟨c,a⟩,i⟩));rw [U.m k c a] at d;have q:=U.S.bm (j:=k) ⟨c,a⟩;have:=(U.of (iA (uR keep into mm nR nH) k) aD aD).2;rw [d,e] at this;omega
theorem Und.bX (U:Und keep into mm m0 b mm' nL nR nH N){j:Int}(h:0<=j/\j<nL)(hj:j∉keep):∃ f:Nat,f<(bP (dZ (fS into nR) into keep) nL).length/\iA (bP (dZ (fS into nR) into keep) nL) f=j /\
 iA (uR (fS into nR) (dZ (fS into nR) into keep) mm' nL N) j=((lN (fS into nR) mm' N).length+f:Nat):=U.S'.ay h λhi=>hj (U.az hi)
theorem Und.cA (U:Und keep into mm m0 b mm' nL nR nH N){p v w:Int}(J:D1 keep into mm m0 mm' nL nR nH N p v)(F:D1 keep into mm m0 mm' nL nR nH N p w):v=w:=by
 have c:∀ {x:Int} {j u:Int},x∈lN (fS into nR) mm' N->0<=j/\j<nL->iA (uR (fS into nR) (dZ (fS into nR) into keep) mm' nL N) j=iA (mQ (fS into nR) mm' N) x->u∈lN keep mm nH->iA (mQ keep mm nH) u=iA m0 x->iA mm j=u:=by
  intro x j u l e a G r;by_cases d:j∈keep
  .obtain ⟨y,h,k,_,o,n,m⟩:=U.kept d;have t:iA mm' y=x:=U.S'.bC n l (by rw [<- o,a]);exact U.S.bC (U.S.aq d) G (by rw [<- m,t,r])
  .obtain ⟨f,_,_,I⟩:=U.bX e d;obtain ⟨q,K,H,_⟩:=U.S'.aB l;omega
 rcases J with ⟨x,l,rfl,D,r⟩|⟨j,e,rfl,rfl⟩
 .rcases F with ⟨y,s,a,z,C⟩|⟨j,e,a,rfl⟩
  .have:=U.S'.bC s l a;subst this;exact U.S.bC D z (by rw [r,C])
  .exact (c l e a D r).symm
 .rcases F with ⟨y,s,a,z,C⟩|⟨i,E,a,rfl⟩
  .exact c s e a.symm z C
  .by_cases d:j∈keep
   .obtain ⟨y,h,k,_,o,n,m⟩:=U.kept d;exact (c n E (by rw [a,o]) (U.S.aq d) m.symm).symm
   .by_cases hl:i∈keep
    .obtain ⟨y,h,k,_,o,n,m⟩:=U.kept hl;exact c n e (by rw [<- a,o]) (U.S.aq hl) m.symm
    .obtain ⟨f,_,B,I⟩:=U.bX e d;obtain ⟨g,_,A,L⟩:=U.bX E hl;rw [<- B,<- A,(aD:f=g)]
theorem Und.inj (U:Und keep into mm m0 b mm' nL nR nH N){p q v:Int}(B:D1 keep into mm m0 mm' nL nR nH N p v)(o:D1 keep into mm m0 mm' nL nR nH N q v):p=q:=by
 have d:∀ {j:Int},0<=j/\j<nL->iA mm j∈lN keep mm nH->∃ x∈lN (fS into nR) mm' N,iA (mQ (fS into nR) mm' N) x=iA (uR (fS into nR) (dZ (fS into nR) into keep) mm' nL N) j/\iA (mQ keep mm nH) (iA mm j)=iA m0 x:=by
  intro j g l;by_cases C:j∈keep
  .obtain ⟨y,E,F,_,H,w,G⟩:=U.kept C;exact ⟨_,w,H.symm,G.symm⟩
  .exact absurd rfl ((U.S.am.1 l).2 j g.1 g.2 C)
 have c:∀ {x y v:Int},x∈lN (fS into nR) mm' N->y∈lN (fS into nR) mm' N->iA (mQ keep mm nH) v=iA m0 x->iA (mQ keep mm nH) v=iA m0 y->x=y:=by
  intro x y v f e B o;have a:=(U.S'.am.1 f).1;have b:=(U.S'.am.1 e).1;rw [<- (U.to x a.1 a.2).2,<- (U.to y b.1 b.2).2,<- B,<- o]
 rcases B with ⟨x,f,rfl,s,D⟩|⟨j,g,rfl,rfl⟩
 .rcases o with ⟨y,e,rfl,_,A⟩|⟨i,t,rfl,rfl⟩
  .rw [c f e D A]
  .obtain ⟨z,r,n,m⟩:=d t s;rw [<- n,c f r D m]
 .rcases o with ⟨y,e,rfl,s,A⟩|⟨i,t,rfl,u⟩
  .obtain ⟨z,r,n,m⟩:=d g s;rw [<- n,c r e m A]
  .by_cases l:iA mm j∈lN keep mm nH
   .obtain ⟨x,f,n,m⟩:=d g l;obtain ⟨y,e,J,I⟩:=d t (by rw [u];exact l);rw [<- n,<- J,c f e m (by rw [<- u];exact I)]
   .by_cases hij:i=j
    .rw [hij]
    .exfalso;have K:=U.S.ml;have h:=PO U.S.du (i:=i.toNat) (k:=j.toNat) aD aD aD u;rw [show ((j.toNat:Nat):Int)=j by omega] at h;exact l (U.S.aq ((mem_iff _ _).1 h.2))
theorem Und.range (U:Und keep into mm m0 b mm' nL nR nH N){p v:Int}(h:D1 keep into mm m0 mm' nL nR nH N p v):(0<=p/\p<((lN (fS into nR) mm' N).length+(bP (dZ (fS into nR) into keep) nL).length:Nat))/\0<=v/\v<nH:=by
 rcases h with ⟨x,c,rfl,d,e⟩|⟨j,a,rfl,rfl⟩
 .obtain ⟨q,g,f,_⟩:=U.S'.aB c;exact ⟨aD,(U.S.am.1 d).1⟩
 .have hl:=U.S.ml;exact ⟨U.S'.bm a,U.S.mr _ (fB a.1 aD)⟩
theorem Und.cV (U:Und keep into mm m0 b mm' nL nR nH N){v:Int}(h:0<=v/\v<nH):∃ p,D1 keep into mm m0 mm' nL nR nH N p v:=by
 by_cases e:v∈lN keep mm nH
 .obtain ⟨x,f,j⟩:=U.right e;exact ⟨_,.inl ⟨x,f,rfl,e,j⟩⟩
 .have:¬ ∀ k:Int,0<=k->k<nL->k∉keep->iA mm k≠v:=λg=>e (U.S.am.2 ⟨h,g⟩);have:∃ k:Int,0<=k/\k<nL/\iA mm k=v:=by
   refine bB λi=>this λk c a _ d=>i ⟨k,c,a,d⟩
  obtain ⟨k,c,a,d⟩:=this;exact ⟨_,.inr ⟨k,⟨c,a⟩,rfl,d⟩⟩
end
def nY (ps:List (Int × Int))(l:W3):W3:=ps.foldl (λl p=>l.set p.1.toNat p.2) l
theorem iY:∀ (ps:List (Int × Int)) (l:W3),(nY ps l).length=l.length
 | [],_=>rfl
 | p :: ps,l=>by
  have:=iY ps (l.set p.1.toNat p.2);simpa [nY] using this
theorem Hx (a:List (Int × Int))(p:Int × Int)(l:W3):nY (a++[p]) l=(nY a l).set p.1.toNat p.2:=by simp [nY]
theorem KP (b a:List (Int × Int))(l:W3):nY (b++a) l=nY a (nY b l):=by simp [nY]
theorem YV {l:W3}{a:Nat}(h:a<l.length)(v:Int)(p:Nat):iA (l.set a v) p=if a=p then v else iA l p:=by
 unfold iA;rw [(aD:(p:Int).toNat=p),dA];by_cases b:a=p
 .subst b;simp [h]
 .rw [if_neg b,if_neg b]
theorem GL {R:Int->Int->Prop}:∀ (ps:List (Int × Int)) (l:W3),(∀ q∈ps,R q.1 q.2/\0<=q.1)->∀ p:Nat,p<l.length->(R p (iA l p)\/∃ v,((p:Int),v)∈ps)->R p (iA (nY ps l) p)
 | [],l,_,p,_,h=>by
  rcases h with h|⟨v,hv⟩
  .exact h
  .cases hv
 | (a,v) :: ps,l,hR,p,hp,h=>by
  have h0:=hR (a,v) (fO ..);refine GL ps (l.set a.toNat v) (λq hq=>hR q (d7 _ hq)) p (eQ hp) ?_;by_cases he:a.toNat=p
  .left
   rw [YV aD,if_pos he,<- he,show ((a.toNat:Nat):Int)=a by have:=h0.2;simp only at this;omega];exact h0.1
  .rcases h with h|⟨w,hw⟩
   .left
    have e:iA (l.set a.toNat v) p=iA l p:=by
     unfold iA;rw [dA,if_neg aD]
    rw [e];exact h
   .right
    exact ⟨w,(aV.1 hw).resolve_left λe=>he (by have:=congrArg Prod.fst e;simp only at this;omega)⟩
theorem VI {l a:W3}(h:l.length=a.length)(c:∀ p:Nat,p<l.length->iA l p=iA a p):l=a:=by
 refine fW h λi b d=>?_;have:=c i b;rwa [lU b,lU d] at this
def YC (track undo:W3)(k:Nat):List (Int × Int):=(List.range k).flatMap λ(i:Nat)=>if 0<=iA track i/\0<=iA undo (iA track i) then [(iA undo (iA track i),(i:Int))] else []
def YB (com mat:W3)(k:Nat):List (Int × Int):=(List.range k).map λ(i:Nat)=>(iA com i,iA mat i)
def BZ (track undo com mat:W3)(n:Nat):W3:=nY (YB com mat com.length) (nY (YC track undo track.length) (List.replicate n 0))
def Ku (iso undone track:W3)(k:Nat):List (Int × Int):=(List.range k).flatMap λ(i:Nat)=>if 0<=iA undone i then [(iA undone i,idx track (iA iso i))] else []
def Np (com mat keep:W3)(k:Nat):List (Int × Int):=(List.range k).flatMap λ(i:Nat)=>if mem keep i=true then [] else [(iA com i,iA mat i)]
def Ct (n:Nat)(iso undone track com mat keep:W3):W3:=nY (Np com mat keep com.length) (nY (Ku iso undone track undone.length) (List.replicate n 0))
def jH (l by_:W3):W3:=l.map λn=>if 0<=n then iA by_ n else n
section
variable {keep into mm m0 b mm':W3} {nL nR nH N:Nat}
theorem i5:(mQ keep mm nH).length=nH:=lX _ _
theorem eW:(uR keep into mm nR nH).length=nR:=by simp [uR,D5]
theorem N0 {l by_:W3}{i:Int}(b:0<=i)(h:i<l.length):iA (jH l by_) i=if 0<=iA l i then iA by_ (iA l i) else iA l i:=by
 have a:i.toNat<l.length:=aD;have e:iA l i=l[i.toNat]:=by unfold iA;rw [aA a];rfl
 rw [e];unfold iA jH;rw [aM,aA a];rfl
theorem Srt.bR (S:Srt keep into mm nL nR nH){x:Int}(h:0<=x/\x<nH)(b:0<=iA (mQ keep mm nH) x):x∈lN keep mm nH:=by
 refine bB λa=>?_;rw [S.b6 h a] at b;omega
theorem Und.cE (U:Und keep into mm m0 b mm' nL nR nH N){n:Nat}(J:n=(lN (fS into nR) mm' N).length+(bP (dZ (fS into nR) into keep) nL).length) :
  ∀ p:Nat,p<n->D1 keep into mm m0 mm' nL nR nH N p (iA (BZ (jH (mQ keep mm nH) b) (mQ (fS into nR) mm' N) (uR (fS into nR) (dZ (fS into nR) into keep) mm' nL N) mm n) p):=by
 intro p D;unfold BZ;rw [<- KP];have K:=U.n;have c:(jH (mQ keep mm nH) b).length=nH:=by unfold jH;rw [aT];exact i5
 refine GL _ _ (λq a=>?_) p (eQ D) (.inr ?_)
 .rcases aX.1 a with h|h
  .unfold YC at h;obtain ⟨i,E,a⟩:=bK.1 h;have r:=bA.1 E;rw [c] at r;split at a
   .rename_i s;obtain ⟨k,g⟩:=s;simp only [bG] at a;subst a;refine ⟨.inl ?_,g⟩;rw [N0 aD (by rw [i5];omega)] at k g ⊢;by_cases d:0<=iA (mQ keep mm nH) i
    .rw [if_pos d] at k g ⊢;have e:=U.S.bR (x:=(i:Int)) aD d;obtain ⟨I,M,L,_⟩:=U.S.aB e;obtain ⟨A,z⟩:=U.of (iA (mQ keep mm nH) i) d aD;exact ⟨_,U.S'.bR A g,rfl,e,z.symm⟩
    .rw [if_neg d] at k;exact absurd k d
   .cases a
  .unfold YB at h;obtain ⟨j,u,rfl⟩:=aW.1 h;have o:=bA.1 u;rw [eW] at o;exact ⟨.inr ⟨j,aD,rfl,rfl⟩,(U.S'.bm (j:=(j:Int)) aD).1⟩
 .by_cases e:p<(lN (fS into nR) mm' N).length
  .obtain ⟨w,G⟩:=U.S'.cg e;obtain ⟨v,C,F⟩:=U.left w;have t:=(U.S'.am.1 w).1;have B:=(U.S.am.1 C).1;obtain ⟨H,y⟩:=U.to _ t.1 t.2;refine ⟨v,aX.2 (.inl ?_)⟩;unfold YC;have l:v.toNat<(jH (mQ keep mm nH) b).length:=by rw [c];omega
   refine bK.2 ⟨v.toNat,bA.2 l,?_⟩;rw [show ((v.toNat:Nat):Int)=v by omega,N0 aD (by rw [i5];omega),if_pos (by omega:0<=iA (mQ keep mm nH) v),F,y,G,if_pos aD];simp
  .obtain ⟨j,u,_,s⟩:=U.S'.cq (f:=p - (lN (fS into nR) mm' N).length) aD;refine ⟨iA mm j,aX.2 (.inr ?_)⟩;unfold YB;have m:j.toNat<(uR (fS into nR) (dZ (fS into nR) into keep) mm' nL N).length:=by rw [eW];omega
   refine aW.2 ⟨j.toNat,bA.2 m,?_⟩;rw [show ((j.toNat:Nat):Int)=j by omega,s];congr 1;omega
theorem Und.idx (U:Und keep into mm m0 b mm' nL nR nH N){x:Int}(d:x∈lN (fS into nR) mm' N):Abs.idx (mQ keep mm nH) (iA m0 x)∈lN keep mm nH/\iA (mQ keep mm nH) (Abs.idx (mQ keep mm nH) (iA m0 x))=iA m0 x:=by
 obtain ⟨v,g,i⟩:=U.left d;have c:=(U.S.am.1 g).1;have a:=(U.S'.am.1 d).1;have h:iA m0 x∈mQ keep mm nH:=by rw [<- i];exact fB c.1 (by rw [i5];omega)
 obtain ⟨k,j,f⟩:=II ((mem_iff _ _).2 h);have e:iA (mQ keep mm nH) (Go.Abs.idx (mQ keep mm nH) (iA m0 x))=iA m0 x:=by unfold iA at f ⊢;rw [f];rfl
 rw [i5] at j;exact ⟨U.S.bR aD (by rw [e];exact (U.to x a.1 a.2).1.1),e⟩
theorem Und.dQ (U:Und keep into mm m0 b mm' nL nR nH N){n:Nat}(A:n=(lN (fS into nR) mm' N).length+(bP (dZ (fS into nR) into keep) nL).length) :
  ∀ p:Nat,p<n->D1 keep into mm m0 mm' nL nR nH N p (iA (Ct n m0 (mQ (fS into nR) mm' N) (mQ keep mm nH) (uR (fS into nR) (dZ (fS into nR) into keep) mm' nL N) mm keep) p):=by
 intro p t;unfold Ct;rw [<- KP];refine GL _ _ (λq a=>?_) p (eQ t) (.inr ?_)
 .rcases aX.1 a with h|h
  .unfold Ku at h;obtain ⟨i,u,a⟩:=bK.1 h;have m:=bA.1 u;rw [i5] at m;split at a
   .rename_i c;simp only [bG] at a;subst a;have d:=U.S'.bR (x:=(i:Int)) aD c;obtain ⟨s,r⟩:=U.idx d;exact ⟨.inl ⟨_,d,rfl,s,r⟩,c⟩
   .cases a
  .unfold Np at h;obtain ⟨j,o,a⟩:=bK.1 h;have l:=bA.1 o;rw [eW] at l;split at a
   .cases a
   .simp only [bG] at a;subst a;exact ⟨.inr ⟨j,aD,rfl,rfl⟩,(U.S'.bm (j:=(j:Int)) aD).1⟩
 .by_cases d:p<(lN (fS into nR) mm' N).length
  .obtain ⟨y,w⟩:=U.S'.cg d;have z:=(U.S'.am.1 y).1;refine ⟨Go.Abs.idx (mQ keep mm nH) (iA m0 (iA (lN (fS into nR) mm' N) p)),aX.2 (.inl ?_)⟩;unfold Ku;have e:(iA (lN (fS into nR) mm' N) p).toNat<(mQ (fS into nR) mm' N).length:=by rw [i5];omega
   refine bK.2 ⟨(iA (lN (fS into nR) mm' N) p).toNat,bA.2 e,?_⟩;rw [show (((iA (lN (fS into nR) mm' N) p).toNat:Nat):Int)=iA (lN (fS into nR) mm' N) p by omega,w,if_pos aD];simp
  .obtain ⟨j,o,k,v⟩:=U.S'.cq (f:=p - (lN (fS into nR) mm' N).length) aD;refine ⟨iA mm j,aX.2 (.inr ?_)⟩;unfold Np;have g:j.toNat<(uR (fS into nR) (dZ (fS into nR) into keep) mm' nL N).length:=by rw [eW];omega
   refine bK.2 ⟨j.toNat,bA.2 g,?_⟩;rw [show ((j.toNat:Nat):Int)=j by omega,v,if_neg]
   .simp;omega
   .intro hk;obtain ⟨_,_,_,h,_⟩:=U.kept ((mem_iff _ _).1 hk);exact k h
theorem Und.same (U:Und keep into mm m0 b mm' nL nR nH N){n:Nat}(a:n=(lN (fS into nR) mm' N).length+(bP (dZ (fS into nR) into keep) nL).length) :
  Ct n m0 (mQ (fS into nR) mm' N) (mQ keep mm nH) (uR (fS into nR) (dZ (fS into nR) into keep) mm' nL N) mm keep=BZ (jH (mQ keep mm nH) b) (mQ (fS into nR) mm' N) (uR (fS into nR) (dZ (fS into nR) into keep) mm' nL N) mm n:=by
 have d:(Ct n m0 (mQ (fS into nR) mm' N) (mQ keep mm nH) (uR (fS into nR) (dZ (fS into nR) into keep) mm' nL N) mm keep).length=n:=by unfold Ct;rw [iY,iY,eL]
 have c:(BZ (jH (mQ keep mm nH) b) (mQ (fS into nR) mm' N) (uR (fS into nR) (dZ (fS into nR) into keep) mm' nL N) mm n).length=n:=by unfold BZ;rw [iY,iY,eL]
 exact VI (by rw [d,c]) λp e=>U.cA (U.dQ a p aD) (U.cE a p aD)
theorem Und.cn (U:Und keep into mm m0 b mm' nL nR nH N){n:Nat}(v:n=(lN (fS into nR) mm' N).length+(bP (dZ (fS into nR) into keep) nL).length){l:W3}(w:l.length=n)(e:∀ p:Nat,p<n->D1 keep into mm m0 mm' nL nR nH N p (iA l p)) :
  (∀ x∈l,0<=x/\x<nH)/\l.Nodup/\n=nH:=by
 have a:l.Nodup:=by
  rw [eX,dD];intro i j k q r s;have d:=e i aD;have f:=e j aD;rw [lU k] at d;rw [lU q,<- s] at f;have:=U.inj d f;omega
 have c:∀ x∈l,0<=x/\x<nH:=λx g=>by
  obtain ⟨i,k,rfl⟩:=oX g;exact (U.range (e i aD)).2
 have d:=C9 c a;have f:bP l nH=[]:=by
  refine oR.2 λx g=>?_;obtain ⟨u,t⟩:=fZ.1 g;obtain ⟨p,h⟩:=U.cV u;have o:=(U.range h).1;have m:=e p.toNat aD;rw [show ((p.toNat:Nat):Int)=p by omega] at m;refine t ?_;rw [U.cA h m];exact fB o.1 aD
 rw [f] at d;simp at d;exact ⟨c,a,aD⟩
theorem Und.cases (U:Und keep into mm m0 b mm' nL nR nH N){p v:Int}(h:D1 keep into mm m0 mm' nL nR nH N p v) :
  (∃ x∈lN (fS into nR) mm' N,iA (mQ (fS into nR) mm' N) x=p/\v∈lN keep mm nH/\iA (mQ keep mm nH) v=iA m0 x) \/
  (∃ (j:Int) (f:Nat),(0<=j/\j<nL)/\j∉keep/\f<(bP (dZ (fS into nR) into keep) nL).length/\iA (bP (dZ (fS into nR) into keep) nL) f=j/\p=((lN (fS into nR) mm' N).length+f:Nat)/\iA mm j=v):=by
 rcases h with h|⟨j,a,rfl,rfl⟩
 .exact .inl h
 .by_cases hk:j∈keep
  .obtain ⟨y,c,d,_,i,g,e⟩:=U.kept hk;exact .inl ⟨_,g,i.symm,U.S.aq hk,e.symm⟩
  .obtain ⟨f,m,l,k⟩:=U.bX a hk;exact .inr ⟨j,f,a,hk,m,l,k,rfl⟩
theorem Da (a b d c:W3)(n:Nat):(BZ a b d c n).length=n:=by unfold BZ;rw [iY,iY,eL]
theorem Wo (n:Nat)(d a b e c keep:W3):(Ct n d a b e c keep).length=n:=by unfold Ct;rw [iY,iY,eL]
end
def Vm:Pattern:=⟨⟨[],[]⟩,[],0,[]⟩
def oF (s:Stp26)(i:Nat):W3:=s.B.k[(iA s.V.m.h i).toNat]?.getD []
def MO (t:Types)(s:Stp26)(i k:Nat):Int :=
 if mem s.C.q.h i=true then (s.after.k[(iA s.Q.h (iA s.V.m.h i)).toNat]?.getD [])[k]?.getD 0 else ((bI t (gN s.B.j (iA s.V.m.h i)))[k]?.getD oB).aw
def lK (t:Types)(s:Stp26)(i k:Nat):List Slot:=if (oF s i)[k]?.getD 0≠MO t s i k then [⟨i,k,⟨-1,(oF s i)[k]?.getD 0⟩⟩] else []
def sL (t:Types)(s:Stp26)(i n:Nat):List Slot:=(List.range n).flatMap (lK t s i)
def g6 (t:Types)(s:Stp26)(n:Nat):List Slot:=(List.range n).flatMap λi=>sL t s i (oF s i).length
def oS (r:Rule):Part:=⟨fS r.u.h r.right.j.h.length,fS r.u.i r.right.j.i.length⟩
def y5 (r:Rule):Part:=⟨dZ (oS r).h r.u.h r.q.h,dZ (oS r).i r.u.i r.q.i⟩
def b5 (t:Types)(s:Stp26):Rule :=
 ⟨s.C.name,⟨kM s.C.right.j s.after.j s.y,[],0,[]⟩,⟨kM s.C.left.j s.B.j s.V.m,g6 t s s.V.m.h.length,0,[]⟩,oS s.C,y5 s.C,
  decide s.y.h.Nodup&&decide s.y.i.Nodup,.mk 1 [] ⟨[],[]⟩ Vm⟩
theorem qS {t:Types}{s:Stp26}{n:Nat}{x:Slot}:x∈g6 t s n↔∃ i,i<n/\∃ k,k<(oF s i).length/\(oF s i)[k]?.getD 0≠MO t s i k/\x=⟨i,k,⟨-1,(oF s i)[k]?.getD 0⟩⟩:=by
 unfold g6 sL lK;simp only [bK,bA];refine exists_congr λi=>and_congr_right λ_=>exists_congr λk=>and_congr_right λ_=>?_;split
 .rename_i h;simp [h]
 .rename_i h;simp [h]
structure HIso (a b:Host) (s:Part):Prop where
 nl:s.h.length=a.j.h.length
 el:s.i.length=a.j.i.length
 nn:a.j.h.length=b.j.h.length
 en:a.j.i.length=b.j.i.length
 av:a.k.length=a.j.h.length
 bv:b.k.length=b.j.h.length
 ni:∀ x∈s.h,0<=x/\x<b.j.h.length
 ei:∀ x∈s.i,0<=x/\x<b.j.i.length
 nd:s.h.Nodup
 ed:s.i.Nodup
 ty:∀ p:Int,0<=p->p<a.j.h.length->gN a.j p=gN b.j (iA s.h p)
 eg:∀ p:Int,0<=p->p<a.j.i.length->eA b.j (iA s.i p)=⟨(eA a.j p).type,iA s.h (eA a.j p).w,iA s.h (eA a.j p).M⟩
 va:∀ p:Int,0<=p->p<a.j.h.length->a.k[p.toNat]?.getD []=b.k[(iA s.h p).toNat]?.getD []
def Xh (l:W3)(k:Nat):List (Int × Int):=(List.range k).map λ(i:Nat)=>(iA l i,(i:Int))
def iX (l:W3):W3:=nY (Xh l l.length) (List.replicate l.length 0)
theorem w5 {l:W3}{n:Nat}(e:l.length=n)(c:∀ x∈l,0<=x/\x<n)(d:l.Nodup){v:Int}(h:0<=v/\v<n):v∈l:=by
 have f:=C9 c d;refine bB λb=>?_;have a:v∈bP l n:=fZ.2 ⟨h,b⟩;rw [bT (aD:(bP l n).length=0)] at a;cases a
theorem rO {l:W3}{n:Nat}(d:l.length=n)(b:∀ x∈l,0<=x/\x<n)(g:l.Nodup){y:Int}(j:0<=y)(h:y<n):(0<=iA (iX l) y/\iA (iX l) y<n)/\iA l (iA (iX l) y)=y:=by
 have:=GL (R:=λp v=>(0<=v/\v<n)/\iA l v=p) (Xh l l.length) (List.replicate l.length 0) (λq c=>by
  unfold Xh at c;obtain ⟨i,a,rfl⟩:=aW.1 c;have e:=bA.1 a;exact ⟨⟨by simp only;omega,rfl⟩,(b _ (fB aD aD)).1⟩) y.toNat (by simp;omega) (.inr (by
  obtain ⟨i,a,f⟩:=oX (w5 d b g ⟨j,h⟩);refine ⟨i,?_⟩;unfold Xh;exact aW.2 ⟨i,bA.2 a,by rw [f];congr 1;omega⟩))
 rw [show ((y.toNat:Nat):Int)=y by omega] at this;exact this
theorem Dq {l:W3}{n:Nat}(d:l.length=n)(b:∀ x∈l,0<=x/\x<n)(c:l.Nodup){x:Int}(f:0<=x)(h:x<n):(0<=iA l x/\iA l x<n)/\iA (iX l) (iA l x)=x:=by
 have a:=b _ (fB f (by omega:x<l.length));obtain ⟨g,e⟩:=rO d b c a.1 a.2;refine ⟨a,?_⟩;have:=EE c (i:=(iA (iX l) (iA l x)).toNat) (j:=x.toNat) aD aD (by
  rw [show (((iA (iX l) (iA l x)).toNat:Nat):Int)=iA (iX l) (iA l x) by omega,show ((x.toNat:Nat):Int)=x by omega];exact e)
 omega
section
variable {t:Types} {r:Rule} {h:Host} {m:Mat}
theorem StepIn.aC (S:StepIn t r h m):Srt r.q.h r.u.h m.m.h r.left.j.h.length r.right.j.h.length h.j.h.length :=
 ⟨S.hR.q.1.1,S.hR.q.2.1,S.hR.q.2.2.2.1,S.br.1,S.hm.len,S.cz,S.cQ.1⟩
theorem StepIn.ba (S:StepIn t r h m):Srt r.q.i r.u.i m.m.i r.left.j.i.length r.right.j.i.length h.j.i.length :=
 ⟨S.hR.q.1.2,S.hR.q.2.2.1,S.hR.q.2.2.2.2,S.br.2,S.hm.bk,S.dJ,S.cQ.2⟩
theorem StepIn.aF (S:StepIn t r h m):(Abs.bY r h m).h=lN r.q.h m.m.h h.j.h.length:=by rw [S.bN];rfl
theorem StepIn.aR (S:StepIn t r h m):(Abs.bY r h m).i=lN r.q.i m.m.i h.j.i.length:=by rw [S.bN];rfl
theorem StepIn.a6 (S:StepIn t r h m):(c6 r h m).h=mQ r.q.h m.m.h h.j.h.length:=by unfold c6 mQ;rw [S.aF]
theorem StepIn.bK (S:StepIn t r h m):(c6 r h m).i=mQ r.q.i m.m.i h.j.i.length:=by unfold c6 mQ;rw [S.aR]
theorem StepIn.aH (S:StepIn t r h m):(c7 r h m).h=uR r.q.h r.u.h m.m.h r.right.j.h.length h.j.h.length:=by unfold c7 uR;rw [S.aF,S.a6]
theorem StepIn.bl (S:StepIn t r h m):(c7 r h m).i=uR r.q.i r.u.i m.m.i r.right.j.i.length h.j.i.length:=by unfold c7 uR;rw [S.aR,S.bK]
theorem StepIn.bd (S:StepIn t r h m):(Abs.b9 t r h m).j.h.length=(lN r.q.h m.m.h h.j.h.length).length+(bP r.u.h r.right.j.h.length).length:=by
 show (bW t r h m).j.h.length=_;rw [S.aS,Abs.aH,aT,aT,S.aF];rfl
theorem StepIn.a7 (S:StepIn t r h m):(Abs.b9 t r h m).j.i.length=(lN r.q.i m.m.i h.j.i.length).length+(bP r.u.i r.right.j.i.length).length:=by
 show (bW t r h m).j.i.length=_;rw [S.bt,Abs.aH,aT,aT,S.aR];rfl
end
structure BackI (t:Types) (r:Rule) (h:Host) (m:Mat) (g:Host) (m0:Part) (m':Mat):Prop where
 K:StepOk t r h m
 I:HIso g (b9 t r h m) m0
 bn:m'.m.h=(c7 r h m).h.map λk=>iA (iX m0.h) k
 be:m'.m.i=(c7 r h m).i.map λk=>iA (iX m0.i) k
 T:StepIn t (b5 t (aO t r h m)) g m'
structure Back (t:Types) (r:Rule) (h:Host) (m:Mat) (g:Host) (m0:Part) (m':Mat):Prop where
 K:StepOk t r h m
 I:HIso g (b9 t r h m) m0
 bn:m'.m.h=(c7 r h m).h.map λk=>iA (iX m0.h) k
 be:m'.m.i=(c7 r h m).i.map λk=>iA (iX m0.i) k
 K':StepOk t (b5 t (aO t r h m)) g m'
def abW (T T' c' mm:Part)(b:Part)(nn ne:Nat):Part:=⟨BZ (jH T.h b.h) T'.h c'.h mm.h nn,BZ (jH T.i b.i) T'.i c'.i mm.i ne⟩
section
variable {t:Types} {r:Rule} {h g:Host} {m m':Mat} {m0:Part}
theorem wA {l:W3}(f:Int->Int){k:Int}(b:0<=k)(h:k<l.length):iA (l.map f) k=f (iA l k):=by
 have a:k.toNat<l.length:=aD;unfold iA;rw [aM,aA a];rfl
theorem BackI.bB (B:BackI t r h m g m0 m'):Und r.q.h r.u.h m.m.h m0.h (iX m0.h) m'.m.h r.left.j.h.length r.right.j.h.length h.j.h.length g.j.h.length where
 S:=B.K.S.aC
 n:=by rw [B.I.nn];exact B.K.S.bd
 to x h0 h1:=Dq B.I.nl (by rw [B.I.nn];exact B.I.ni) B.I.nd h0 h1
 of x h0 h1:=rO B.I.nl (by rw [B.I.nn];exact B.I.ni) B.I.nd h0 h1
 m y h0 h1:=by rw [B.bn,wA _ h0 (by rw [B.K.S.aH,eW];omega),B.K.S.aH]
 S':=by
  have hS:=B.T.aC;have e1:(b5 t (aO t r h m)).left.j.h.length=r.right.j.h.length:=by show ((c7 r h m).h.map _).length=_;rw [aT,B.K.S.aH,eW]
  have e2:(b5 t (aO t r h m)).right.j.h.length=r.left.j.h.length:=by show (m.m.h.map _).length=_;rw [aT];exact B.K.S.hm.len
  rw [e1,e2] at hS;exact hS
theorem BackI.bZ (B:BackI t r h m g m0 m'):Und r.q.i r.u.i m.m.i m0.i (iX m0.i) m'.m.i r.left.j.i.length r.right.j.i.length h.j.i.length g.j.i.length where
 S:=B.K.S.ba
 n:=by rw [B.I.en];exact B.K.S.a7
 to x h0 h1:=Dq B.I.el (by rw [B.I.en];exact B.I.ei) B.I.ed h0 h1
 of x h0 h1:=rO B.I.el (by rw [B.I.en];exact B.I.ei) B.I.ed h0 h1
 m y h0 h1:=by rw [B.be,wA _ h0 (by rw [B.K.S.bl,eW];omega),B.K.S.bl]
 S':=B.T.ba
theorem Back.bB (B:Back t r h m g m0 m'):Und r.q.h r.u.h m.m.h m0.h (iX m0.h) m'.m.h r.left.j.h.length r.right.j.h.length h.j.h.length g.j.h.length:=(BackI.mk B.K B.I B.bn B.be B.K'.S).bB
theorem Back.bZ (B:Back t r h m g m0 m'):Und r.q.i r.u.i m.m.i m0.i (iX m0.i) m'.m.i r.left.j.i.length r.right.j.i.length h.j.i.length g.j.i.length:=(BackI.mk B.K B.I B.bn B.be B.K'.S).bZ
theorem Back.aL (B:Back t r h m g m0 m'):(b5 t (aO t r h m)).left.j.h.length=r.right.j.h.length/\(b5 t (aO t r h m)).right.j.h.length=r.left.j.h.length :=
 ⟨by show ((c7 r h m).h.map _).length=_;rw [aT,B.K.S.aH,eW],by show (m.m.h.map _).length=_;rw [aT];exact B.K.S.hm.len⟩
end
section
variable {t:Types} {r:Rule} {h:Host} {m:Mat}
theorem StepIn.cG (S:StepIn t r h m){f:Nat}(a:f<r.R.length):gN (bW t r h m).j ((Abs.bY r h m).h.length+f:Nat)=gN r.right.j (iA r.R f) /\
  (bW t r h m).k[(Abs.bY r h m).h.length+f]?.getD []=mM t (gN r.right.j (iA r.R f)):=by
 rw [lU a];constructor
 .unfold gN;rw [Int.toNat_natCast,S.aS,Abs.bF dB,aT,wO,aM,aA a];rfl
 .rw [LV,Abs.bF dB,aT,wO,aM,aA a];rfl
theorem StepIn.cX (S:StepIn t r h m){f:Nat}(a:f<r.ai.length):eA (bW t r h m).j ((Abs.bY r h m).i.length+f:Nat)=freshE (c7 r h m) (eA r.right.j (iA r.ai f)):=by
 rw [lU a];unfold eA;rw [Int.toNat_natCast,S.bt,Abs.bF dB,aT,wO,aM,aA a];rfl
theorem HostOk.cj (c:HostOk t h){v:Int}(f:0<=v)(e:v<h.j.h.length):(h.k[v.toNat]?.getD []).length=(bI t (gN h.j v)).length:=by
 have d:=c.vl;have a:v.toNat<h.j.h.length:=aD;have b:v.toNat<h.k.length:=aD;have:=(p8 (c.nd v.toNat a b)).2.2.1;rw [aA b,Option.getD_some,this];unfold gN;rw [aA a];rfl
end
section
variable {t:Types} {r:Rule} {h g:Host} {m m':Mat} {m0:Part}
theorem Back.val (B:Back t r h m g m0 m'){p:Nat}{v:Int}(hR:D1 r.q.h r.u.h m.m.h m0.h m'.m.h r.left.j.h.length r.right.j.h.length h.j.h.length g.j.h.length p v)
  (hp:p<(b9 t (b5 t (aO t r h m)) g m').j.h.length):(b9 t (b5 t (aO t r h m)) g m').k[p]?.getD []=h.k[v.toNat]?.getD []:=by
 have U:=B.bB;have K:=B.K;have K':=B.K';obtain ⟨u,n⟩:=fD (b5 t (aO t r h m));have N:=(U.range hR).2;have hh:=K.S.ho;have ex:u.right.l=g6 t (aO t r h m) m.m.h.length:=by rw [n];rfl
 have eN:(c6 r h m).h=_:=K.S.a6;have eT:(c6 u g m').h=mQ (fS r.u.h r.right.j.h.length) m'.m.h g.j.h.length:=by rw [n];exact K'.S.a6
 have eC:(c7 u g m').h=uR (fS r.u.h r.right.j.h.length) (dZ (fS r.u.h r.right.j.h.length) r.u.h r.q.h) m'.m.h r.left.j.h.length g.j.h.length:=by
  have:=K'.S.aH;rw [B.aL.2] at this;rw [n];exact this
 have b4:m.m.h.length=r.left.j.h.length:=K.S.hm.len;rw [<- n] at K' hp ⊢;obtain ⟨r1,r2⟩:=K'.ci;have a9:=K'.S.bA;have a1:p<(bW t u g m').k.length:=by rw [a9];exact hp
 have J:∀ {s:Slot} {i k:Nat},i<m.m.h.length->k<(oF (aO t r h m) i).length->s=⟨i,k,⟨-1,(oF (aO t r h m) i)[k]?.getD 0⟩⟩->lP (c7 u g m') s=p->iA m.m.h i=v:=by
  intro s i k hi z o he;have H:D1 r.q.h r.u.h m.m.h m0.h m'.m.h r.left.j.h.length r.right.j.h.length h.j.h.length g.j.h.length p (iA m.m.h i):=by
   refine .inr ⟨i,aD,?_,rfl⟩;rw [<- he,o,<- eC];rfl
  exact U.cA H hR
 have some_:∀ {a x:Int},FA (c7 u g m') m'.vars u.right.l p a=some x->x=(h.k[v.toNat]?.getD [])[a.toNat]?.getD 0:=by
  intro a x T;obtain ⟨s,o,e1,e2,e3⟩:=Bd T;rw [ex] at o;obtain ⟨i,hi,k,z,O,rfl⟩:=qS.1 o;have c:=J hi z rfl e1;rw [<- e3,<- e2];unfold dG;simp only;rw [if_pos aD];unfold oF;simp only [aO];rw [c];simp
 have none_:∀ {a:Nat} {j:Int},(0<=j/\j<r.left.j.h.length)->iA m.m.h j=v->a<(h.k[v.toNat]?.getD []).length->FA (c7 u g m') m'.vars u.right.l p a=none->MO t (aO t r h m) j.toNat a=(h.k[v.toNat]?.getD [])[a]?.getD 0:=by
  intro a j A c G P;refine Abs.bB λO=>?_;have e0:oF (aO t r h m) j.toNat=h.k[v.toNat]?.getD []:=by
   unfold oF;simp only [aO];rw [show ((j.toNat:Nat):Int)=j by omega,c]
  have o:(⟨(j.toNat:Nat),a,⟨-1,(oF (aO t r h m) j.toNat)[a]?.getD 0⟩⟩:Slot)∈u.right.l:=by
   rw [ex];exact qS.2 ⟨j.toNat,aD,a,by rw [e0];exact G,by rw [e0];exact λe=>O e.symm,rfl⟩
  have z:lP (c7 u g m') ⟨(j.toNat:Nat),a,⟨-1,(oF (aO t r h m) j.toNat)[a]?.getD 0⟩⟩=p:=by
   have H:D1 r.q.h r.u.h m.m.h m0.h m'.m.h r.left.j.h.length r.right.j.h.length h.j.h.length g.j.h.length (iA (c7 u g m').h j) v:=.inr ⟨j,A,by rw [eC],c⟩;have:=U.inj H hR;rw [<- this];unfold lP iA;rw [Int.toNat_natCast]
  have:=R4 K'.dN o;rw [z] at this;simp only at this;rw [P] at this;cases this
 have L:∀ {w:W3},(bW t u g m').k[p]?.getD []=w->w.length=(h.k[v.toNat]?.getD []).length->(∀ a:Nat,a<(h.k[v.toNat]?.getD []).length->FA (c7 u g m') m'.vars u.right.l p a=none->w[a]?.getD 0=(h.k[v.toNat]?.getD [])[a]?.getD 0) ->
   (b9 t u g m').k[p]?.getD []=h.k[v.toNat]?.getD []:=by
  intro w W hl hN;have C:=r2 p;rw [W] at C;refine fW aD λa h1 H=>?_;have c:=K'.value a1 (a:=a) (by rw [W];omega);rw [W] at c;have e1:((b9 t u g m').k[p]?.getD [])[a]=(FA (c7 u g m') m'.vars u.right.l p a).getD (w[a]?.getD 0):=by
   rw [aA h1] at c;exact Option.some.inj c
  have e2:(h.k[v.toNat]?.getD [])[a]=(h.k[v.toNat]?.getD [])[a]?.getD 0:=by rw [aA H];rfl
  rw [e1,e2];cases Z:FA (c7 u g m') m'.vars u.right.l p a with
  | none=>exact hN a H Z
  | some x=>exact some_ Z
 rcases U.cases hR with ⟨x,T,hT,c,b1⟩|⟨j,f,A,a4,hf,a7,b3,c⟩
 .have hxr:=(U.S'.am.1 T).1;have F:g.k[x.toNat]?.getD []=(b9 t r h m).k[(iA m0.h x).toNat]?.getD []:=B.I.va x hxr.1 hxr.2;rw [<- b1] at F;obtain ⟨q,q1,q2,q3⟩:=U.S.aB c;have d:=K.cm (i:=v.toNat) aD (by rw [eN,show ((v.toNat:Nat):Int)=v by omega,q1];omega);rw [eN,show ((v.toNat:Nat):Int)=v by omega] at d;have a8:(bW t u g m').k[p]?.getD []=g.k[x.toNat]?.getD []:=by
   obtain ⟨q',b2,M,V⟩:=U.S'.aB T;have a0:p=q':=aD;have l:(bY u g m').h=lN (fS r.u.h r.right.j.h.length) m'.m.h g.j.h.length:=by rw [n];exact B.K'.S.aF
   rw [LV,aR (by rw [aT,l];omega),aM,l,a0,aA M,dM,Option.getD_some,<- lU M,V]
  refine L a8 ?_ λa G P=>?_
  .rw [F,d.v2]
  .rw [F];by_cases R:∃ j:Int,(0<=j/\j<r.left.j.h.length)/\iA m.m.h j=v
   .obtain ⟨j,A,E⟩:=R;have z:j∈r.q.h:=Abs.bB λz=>(U.S.am.1 c).2 j A.1 A.2 z E;have:=none_ A E G P;unfold MO at this;rw [if_pos (by simp only [aO];rw [show ((j.toNat:Nat):Int)=j by omega];exact (mem_iff _ _).2 z)] at this;simp only [aO] at this;rw [show ((j.toNat:Nat):Int)=j by omega,E,eN] at this;exact this
   .refine d.v3 a (by rw [<- Option.getD_some (a:=h.k[v.toNat]?.getD []) (b:=[])];exact G) λs o ⟨D,_⟩=>R ?_;have X:=K.S.hR.l s o;have a3:lP (c7 r h m) s=iA (uR r.q.h r.u.h m.m.h r.right.j.h.length h.j.h.length) s.node:=by rw [<- K.S.aH];rfl
    rw [a3] at D;have a5:s.node∈r.u.h:=by
     refine Abs.bB λa2=>?_;obtain ⟨f,_,_,hf⟩:=U.S.ay X.1 a2;omega
    obtain ⟨q,Z,Y⟩:=oX a5;have b6:=U.S.kl;rw [<- Y,U.S.aK aD] at D;have Q:iA r.q.h q∈r.q.h:=fB aD aD;exact ⟨_,U.S.kr _ Q,U.S.bC (U.S.aq Q) c D⟩
 .have hfr:u.R=bP (dZ (fS r.u.h r.right.j.h.length) r.u.h r.q.h) r.left.j.h.length:=by
   unfold Rule.R;rw [n,B.aL.2];rfl
  have l:(bY u g m').h=lN (fS r.u.h r.right.j.h.length) m'.m.h g.j.h.length:=by rw [n];exact B.K'.S.aF
  have y:=(K'.S.cG (f:=f) (by rw [hfr];exact hf)).2;have a6:gN u.right.j j=gN h.j v:=by
   have e:u.right.j=kM r.left.j h.j m.m:=by rw [n];rfl
   rw [e];have:gN (kM r.left.j h.j m.m) j=iA (m.m.h.map (gN h.j)) j:=rfl;rw [this,wA _ A.1 aD,c]
  rw [hfr,a7,a6,l,show (lN (fS r.u.h r.right.j.h.length) m'.m.h g.j.h.length).length+f=p by omega] at y;have C:=hh.cj N.1 N.2;refine L y (by unfold mM;rw [aT,C]) λa G P=>?_;have:=none_ A c G P;rw [<- this];unfold MO;rw [if_neg (by simp only [aO];rw [show ((j.toNat:Nat):Int)=j by omega];exact λhm=>a4 ((mem_iff _ _).1 hm))];simp only [aO];rw [show ((j.toNat:Nat):Int)=j by omega,c];have b0:a<(bI t (gN h.j v)).length:=aD;unfold mM;rw [aM,aA b0];rfl
theorem Back.dt (B:Back t r h m g m0 m'):HIso (b9 t (b5 t (aO t r h m)) g m') h
  (abW (c6 r h m) (c6 (b5 t (aO t r h m)) g m') (c7 (b5 t (aO t r h m)) g m') m.m ⟨iX m0.h,iX m0.i⟩ (b9 t (b5 t (aO t r h m)) g m').j.h.length (b9 t (b5 t (aO t r h m)) g m').j.i.length):=by
 have U:=B.bB;have V:=B.bZ;have K:=B.K;have K':=B.K';have F:=B.aL;have hn:(b9 t (b5 t (aO t r h m)) g m').j.h.length=(lN (fS r.u.h r.right.j.h.length) m'.m.h g.j.h.length).length+(bP (dZ (fS r.u.h r.right.j.h.length) r.u.h r.q.h) r.left.j.h.length).length:=by
  have:=K'.S.bd;rw [F.2] at this;exact this
 have he:(b9 t (b5 t (aO t r h m)) g m').j.i.length=(lN (fS r.u.i r.right.j.i.length) m'.m.i g.j.i.length).length+(bP (dZ (fS r.u.i r.right.j.i.length) r.u.i r.q.i) r.left.j.i.length).length:=K'.S.a7;have eT:(c6 (b5 t (aO t r h m)) g m').h=mQ (fS r.u.h r.right.j.h.length) m'.m.h g.j.h.length:=K'.S.a6;have Y:(c6 (b5 t (aO t r h m)) g m').i=mQ (fS r.u.i r.right.j.i.length) m'.m.i g.j.i.length:=K'.S.bK;have eC:(c7 (b5 t (aO t r h m)) g m').h=uR (fS r.u.h r.right.j.h.length) (dZ (fS r.u.h r.right.j.h.length) r.u.h r.q.h) m'.m.h r.left.j.h.length g.j.h.length:=by
  have:=K'.S.aH;rw [F.2] at this;exact this
 have b4:(c7 (b5 t (aO t r h m)) g m').i=uR (fS r.u.i r.right.j.i.length) (dZ (fS r.u.i r.right.j.i.length) r.u.i r.q.i) m'.m.i r.left.j.i.length g.j.i.length:=K'.S.bl;have e:=U.cE hn;have L:=V.cE he;have P:=λ {p:Nat} {v:Int} hR hp=>B.val (p:=p) (v:=v) hR hp;have b6:m.m.h.length=r.left.j.h.length:=K.S.hm.len;have a9:=(vR K.S.hc).1;have a7:∀ {k:Int},k∈(bY r h m).i->(eA h.j k).w∈(bY r h m).h/\(eA h.j k).M∈(bY r h m).h:=λhk=>pN K.S.sub hk;have a8:∀ {k:Int},k∈(bY (b5 t (aO t r h m)) g m').i->(eA g.j k).w∈(bY (b5 t (aO t r h m)) g m').h/\(eA g.j k).M∈(bY (b5 t (aO t r h m)) g m').h:=λhk=>pN K'.S.sub hk;have Q:(bY (b5 t (aO t r h m)) g m').h=lN (fS r.u.h r.right.j.h.length) m'.m.h g.j.h.length:=K'.S.aF;have n:(bY (b5 t (aO t r h m)) g m').i=lN (fS r.u.i r.right.j.i.length) m'.m.i g.j.i.length:=K'.S.aR;have o:=λ {i:Nat} a b=>K'.cm (i:=i) a b;have c:=λ {i:Nat} a b=>K'.cU (i:=i) a b;have C:=λ {f:Nat} a=>(K'.S.cG (f:=f) a).1;have D:=λ {f:Nat} a=>K'.S.cX (f:=f) a;have s:(b5 t (aO t r h m)).R=bP (dZ (fS r.u.h r.right.j.h.length) r.u.h r.q.h) r.left.j.h.length:=by unfold Rule.R;rw [F.2];rfl
 have w:(b5 t (aO t r h m)).ai=bP (dZ (fS r.u.i r.right.j.i.length) r.u.i r.q.i) r.left.j.i.length:=rfl;have R:(b5 t (aO t r h m)).right.j=kM r.left.j h.j m.m:=rfl;have H:(b9 t (b5 t (aO t r h m)) g m').j=(bW t (b5 t (aO t r h m)) g m').j:=rfl;have a6:(b9 t (b5 t (aO t r h m)) g m').k.length=(b9 t (b5 t (aO t r h m)) g m').j.h.length:=by rw [K'.ci.1,K'.S.bA,H]
 unfold abW;rw [K.S.a6,K.S.bK,eT,Y,eC,b4];simp only;rw [eT] at o;rw [eT,Y] at c;generalize b5 t (aO t r h m)=u at *;obtain ⟨nn,A⟩:=fD ((b9 t u g m').j.h.length);obtain ⟨ne,E⟩:=fD ((b9 t u g m').j.i.length);rw [<- A] at e hn ⊢;rw [<- E] at L he ⊢;have T:=Da (jH (mQ r.q.h m.m.h h.j.h.length) (iX m0.h)) (mQ (fS r.u.h r.right.j.h.length) m'.m.h g.j.h.length) (uR (fS r.u.h r.right.j.h.length) (dZ (fS r.u.h r.right.j.h.length) r.u.h r.q.h) m'.m.h r.left.j.h.length g.j.h.length) m.m.h nn;have W:=Da (jH (mQ r.q.i m.m.i h.j.i.length) (iX m0.i)) (mQ (fS r.u.i r.right.j.i.length) m'.m.i g.j.i.length) (uR (fS r.u.i r.right.j.i.length) (dZ (fS r.u.i r.right.j.i.length) r.u.i r.q.i) m'.m.i r.left.j.i.length g.j.i.length) m.m.i ne;generalize BZ (jH (mQ r.q.h m.m.h h.j.h.length) (iX m0.h)) (mQ (fS r.u.h r.right.j.h.length) m'.m.h g.j.h.length) (uR (fS r.u.h r.right.j.h.length) (dZ (fS r.u.h r.right.j.h.length) r.u.h r.q.h) m'.m.h r.left.j.h.length g.j.h.length) m.m.h nn=sn at *;generalize BZ (jH (mQ r.q.i m.m.i h.j.i.length) (iX m0.i)) (mQ (fS r.u.i r.right.j.i.length) m'.m.i g.j.i.length) (uR (fS r.u.i r.right.j.i.length) (dZ (fS r.u.i r.right.j.i.length) r.u.i r.q.i) m'.m.i r.left.j.i.length g.j.i.length) m.m.i ne=se at *;obtain ⟨a1,a2,a3⟩:=U.cn hn T e;obtain ⟨b1,b2,b3⟩:=V.cn he W L;have at_:∀ {p v:Int},D1 r.q.h r.u.h m.m.h m0.h m'.m.h r.left.j.h.length r.right.j.h.length h.j.h.length g.j.h.length p v->iA sn p=v:=λ {p v} hR=>by
  have hr:=(U.range hR).1;have:=e p.toNat aD;rw [show ((p.toNat:Nat):Int)=p by omega] at this;exact U.cA this hR
 refine ⟨by rw [T,A],by rw [W,E],by rw [<- A];exact a3,by rw [<- E];exact b3,a6,K.S.ho.vl,a1,b1,a2,b2,λp h0 hp=>?_,λp h0 hp=>?_,λp h0 hp=>?_⟩
 .have hR:=e p.toNat aD;rw [show ((p.toNat:Nat):Int)=p by omega] at hR;rcases U.cases hR with ⟨x,N,hT,l,J⟩|⟨j,f,O,b0,hf,G,z,l⟩
  .have hxr:=(U.S'.am.1 N).1;have a5:=(U.S.am.1 l).1;obtain ⟨q,q1,q2,q3⟩:=U.S.aB l;obtain ⟨q',y,a4,a0⟩:=U.S'.aB N;have M:=(K.cm (i:=(iA sn p).toNat) aD (by rw [K.S.a6,show (((iA sn p).toNat:Nat):Int)=iA sn p by omega,q1];omega)).n2;rw [K.S.a6,show (((iA sn p).toNat:Nat):Int)=iA sn p by omega,J] at M;have Z:=(o (i:=x.toNat) aD (by rw [show ((x.toNat:Nat):Int)=x by omega,y];omega)).n2;rw [show ((x.toNat:Nat):Int)=x by omega,hT] at Z;have e3:=B.I.ty x hxr.1 hxr.2;unfold gN at e3 ⊢;rw [Z,e3,M]
  .have:=C (f:=f) (by rw [s];exact hf);rw [Q,s,G,R,<- z,<- H] at this;rw [this,<- l];exact wA _ O.1 aD
 .have hR:=L p.toNat aD;rw [show ((p.toNat:Nat):Int)=p by omega] at hR;rcases V.cases hR with ⟨x,N,hT,l,J⟩|⟨j,f,O,b0,hf,G,z,l⟩
  .have hxr:=(V.S'.am.1 N).1;have a5:=(V.S.am.1 l).1;obtain ⟨q,q1,q2,q3⟩:=V.S.aB l;obtain ⟨q',y,a4,a0⟩:=V.S'.aB N;have M:=(K.cU (i:=(iA se p).toNat) aD (by rw [K.S.bK,show (((iA se p).toNat:Nat):Int)=iA se p by omega,q1];omega)).2;rw [K.S.bK,K.S.a6,show (((iA se p).toNat:Nat):Int)=iA se p by omega,J] at M;have Z:=(c (i:=x.toNat) aD (by rw [show ((x.toNat:Nat):Int)=x by omega,y];omega)).2;rw [show ((x.toNat:Nat):Int)=x by omega,hT] at Z;have e3:=B.I.eg x hxr.1 hxr.2;rw [e3] at M;rw [Z];simp only [Edge.mk.injEq] at M;obtain ⟨c1,c2,c3⟩:=M;have s1:=a7 (k:=iA se p) (by rw [K.S.aR];exact l);have s2:=a8 (k:=x) (by rw [n];exact N);rw [K.S.aF] at s1;rw [Q] at s2;have d1:=at_ (.inl ⟨_,s2.1,rfl,s1.1,c2.symm⟩);have d2:=at_ (.inl ⟨_,s2.2,rfl,s1.2,c3.symm⟩);simp only;rw [c1,d1,d2]
  .have hw:=D (f:=f) (by rw [w];exact hf);rw [n,w,G,R,<- z,<- H] at hw;rw [hw,<- l];have d:=qX a9 (k:=j) O.1 O.2;have X:=vM K.S.hR.pl.gg (k:=j) O.1 O.2;have e0:eA (kM r.left.j h.j m.m) j=eA r.left.j j:=rfl;rw [e0] at d ⊢;unfold freshE;simp only;have d1:=at_ (p:=iA (c7 u g m').h (eA r.left.j j).w) (.inr ⟨_,X.1,by rw [eC],rfl⟩);have d2:=at_ (p:=iA (c7 u g m').h (eA r.left.j j).M) (.inr ⟨_,X.2.1,by rw [eC],rfl⟩);unfold iA at d1 d2 d ⊢;rw [d1,d2,d.2.1,d.2.2.1,d.2.2.2]
 .have hR:=e p.toNat aD;have:=P hR aD;rw [show ((p.toNat:Nat):Int)=p by omega] at this;exact this
end
theorem SE (l:W3)(n:Nat):(fS l n).length<=n:=by
 unfold fS;rw [aT];exact dH (iT _ _) dB
theorem Br (t:Types)(a:t.ok):Pua 51 [t.d] (dI (cW t).2):=by
 refine Tz.p0 func51 rfl λQ b Y=>?_;refine wv (h:=aB (mX t a) wl ?_);exact wv (h:=b _ _ wy)
theorem Bs (p g:Graph)(a:W3)(I:a.length<=100000)(J:p.i.length<=100000)(E:∀ x∈a,0<=x/\x<g.h.length):Pua 58 [p.d,g.d,dLI a] (Graph.d ⟨a.map (gN g),p.i⟩):=by
 obtain ⟨b,j⟩:=fD (a.map (gN g));have C:b.length=a.length:=by rw [j];simp
 rw [<- j];refine Tz.pK ⟨λt=>t==6||t==7||t==1000001,λr=>match r with|5=>[(0,7),(1,7)]|_=>[]⟩ func58 rfl (λQ F=>?_);have Y:=trivial;refine wv (h:=?_);refine Jp (Cp p.i aD) (by simp [go_sem]) (by simp [go_sem]) (V3 _) ?_;refine wp (h:=lB (Ghosts.step (Ghosts.refl _) 1 0 0 3 1 _ _ (rfl) rfl rfl rfl) (λi e H=>(e 4=.adr g.c/\e 6=.ptr 0 1 0 0/\e 7=.ptr 1 1 0 0/\e 14=dLI a/\e 15=dI a.length/\e 16=dI i)/\(H.get 0=some ⟨51,2,[[.nil,.nil]],false⟩)/\(0<H.next)/\(H.get 1=some ⟨51,2,[[.own 2 i,.list (p.i.map Edge.c)]],false⟩)/\(1<H.next)/\(H.get 2=some ⟨3,1,(b.take i).map cI,false⟩)/\(2<H.next)/\(i<=a.length)) (λi=>a.length - i) 0 ⟨wg,wn,wn,wn,wn,(by rfl),wn,wi⟩ λK A i e H w=>?_);obtain ⟨G,o,m,n,l,f,k,D⟩:=w;have Y:=xa6 Y G o (bL m) n (bL l) f (bL k);refine dK (λq=>?_) λq=>?_
 .have hx:=E _ (aC q);have B:a[i].toNat<g.h.length:=aD;have u:i<b.length:=aD;have s:b[i]=g.h[a[i].toNat]:=by simp [j,gN,aA B]
  have z:b.take (i+1)=b.take i++[g.h[a[i].toNat]]:=by rw [aE u,s]
  have y:(b.take i).length=i:=by simp;omega
  have Y:=xa3 Y q (aA q) (aA B) y;exact wp (h:=wx A (i+1) ⟨wg,wn,wn,wn,wn,(by simp [go_sem,Y,z,cI]),wn,wj⟩)
 .rw [aG aD] at f;have v:i=b.length:=aD;exact wv (h:=F _ _ (by simp [go_sem,Y,v,dLI]))
theorem wW (l:W3)(b:l.length<=1000000):Pua 60 [dLI l] (.bool (decide l.Nodup)):=by
 have a:=kW l;have c:=Ay l;have d:=Co (kB l);unfold imagesN at c;refine Tz.p0 func60 rfl λQ e Y=>?_;refine wv (h:=lG (jK l b) wl ?_);refine wv (h:=?_);unfold fE;refine CH (ty:=3) (xs:=l) (by simp [go_sem]) b ?_;refine wo (h:=?_);unfold fE;refine ACalls.aP ?_;simp [go_sem,a];refine F9 (jK (kB l) aD) (by simp [go_sem]) ?_;refine wo (h:=?_);unfold fE;rw [show l.length=(kB l).length from a.symm];refine AL (ty:=3) (xs:=kB l) (by simp [go_sem]) aD λk=>?_;exact wo (h:=e _ _ (by simp [go_sem];rw [aS,beq_iff_eq,decide_eq_true_eq,<- c,a];omega))
theorem QL {l:W3}{n:Nat}(d:l.Nodup)(c:∀ x∈l,0<=x/\x<n):kB l=fS l n:=by
 have b:(kB l).Perm l:=List.mergeSort_perm l _;have k:(kB l).Nodup:=b.nodup_iff.2 d;refine S4 ?_ (Ds _ _) λx=>?_
 .rw [dD];intro i j f e a;have o:=dD.1 (KL l) i j f e a;have m:(kB l)[i]≠(kB l)[j]:=λg=>by have:=(mR k).1 g;omega
  omega
 .rw [jX,b.mem_iff];exact ⟨λh=>⟨c x h,h⟩,λh=>h.2⟩
theorem Bt (keep a:W3)(n:Nat)(C:a.Nodup)(B:∀ x∈a,0<=x/\x<n)(I:a.length=keep.length)(w:a.length<=1000000):Pua 61 [dLI keep,dLI a] (.tup [dLI (fS a n),dLI (dZ (fS a n) a keep)]):=by
 have m:=kW a;have u:=QL C B;obtain ⟨b,j⟩:=fD (fS a n);rw [<- j] at u;have p:∀ x∈b,x∈a:=λx A=>(jX.1 (j ▸ A)).2;have k:b.length=a.length:=by rw [<- u];exact m
 rw [<- j];refine Tz.pK ⟨λt=>t==6||t==7,λ_=>[]⟩ func61 rfl (λQ E=>?_);have Y:=trivial;refine wv (h:=lG (jK a w) wl ?_);refine wv (h:=?_);unfold fE;refine CH (ty:=3) (xs:=a) (by simp [go_sem]) w ?_;rw [u];refine wp (h:=aY (λi e H=>(e 0=dLI keep/\e 1=dLI a/\e 6=.own 0 a.length/\e 14=.own 0 a.length/\e 15=dI a.length/\e 7=.own 1 i/\e 16=dI i)/\(H.get 0=some ⟨3,1,b.map cI,false⟩)/\(0<H.next)/\(H.get 1=some ⟨3,1,(dZ (b.take i) a keep).map cI,false⟩)/\(1<H.next)/\(i<=b.length)) (λi=>b.length - i) 0 ⟨wg,wn,wn,(by simp [go_sem,dZ]),wn,wi⟩ λJ v i e H r=>?_);obtain ⟨z,g,f,c,d,D⟩:=r;have Y:=xa4 Y z g (bL f) c (bL d);refine dK (λy=>?_) λy=>?_
 .have hiy:i<b.length:=aD;obtain ⟨G,F,_⟩:=II ((mem_iff _ _).2 (p _ (aC hiy)));have o:(idx a b[i]).toNat<keep.length:=aD;have s:dZ (b.take (i+1)) a keep=dZ (b.take i) a keep++[keep[(idx a b[i]).toNat]]:=by unfold dZ;rw [aE hiy,List.map_append];simp [iA,aA o]
  have l:(dZ (b.take i) a keep).length=i:=by simp [dZ];omega
  have Y:=xa4 Y y (aA hiy) (aA o) l k;refine wp (h:=aB (xE a b[i]) wl ?_);exact wp (h:=wx v (i+1) ⟨wg,wn,wn,(by simp [go_sem,Y,s,cI]),wn,wj⟩)
 .rw [aG aD] at c;have q:i=b.length:=aD;have l:(dZ b a keep).length=b.length:=by simp [dZ]
  have Y:=xa4 z g (bL f) c (bL d) k;exact wv (h:=E _ _ (by simp [go_sem,Y,q,l,k,dLI]))
theorem wV (g:Graph)(K:g.h.length<=100000)(N:g.i.length<=100000):Pua 25 [g.d] (Part.d ⟨gB g.h.length,gB g.i.length⟩):=by
 refine Tz.pK ⟨λt=>t==2||t==3||t==1000001,λ_=>[]⟩ func25 rfl (λQ G=>?_);have Y:=trivial;refine wp (h:=lB (Ghosts.step (Ghosts.step (Ghosts.refl _) 1 0 0 3 1 _ _ (rfl) rfl rfl rfl) 1 0 1 3 1 _ _ (rfl) rfl rfl rfl) (λi e H=>(e 1=.adr g.c/\e 2=.ptr 0 1 0 0/\e 3=.ptr 1 1 0 0/\e 8=dI g.h.length/\e 9=dI i)/\(H.get 0=some ⟨58,2,[[.nil,.nil]],false⟩)/\(0<H.next)/\(H.get 1=some ⟨58,2,[[.own 2 i,.own 3 0]],false⟩)/\(1<H.next)/\(H.get 2=some ⟨3,1,(gB i).map cI,false⟩)/\(2<H.next)/\(H.get 3=some ⟨3,1,(gB 0).map cI,false⟩)/\(3<H.next)/\(i<=g.h.length)) (λi=>g.h.length - i) 0 ⟨wg,wn,wn,wn,wn,(by rfl),wn,(by rfl),wn,wi⟩ λP D i e H B=>?_);obtain ⟨J,z,r,x,p,v,n,f,l,M⟩:=B;have Y:=xa8 Y J z (bL r) x (bL p) v (bL n) f (bL l);refine dK (λF=>?_) λF=>?_
 .have b:(gB i).length=i:=by simp [gB]
  have Y:=xa1 Y F b;exact wp (h:=wx D (i+1) ⟨wg,wn,wn,wn,wn,(by simp [go_sem,Y,xA,b]),wn,(by simp [go_sem,Y]),wn,wj⟩)
 .have hI:i=g.h.length:=aD;subst hI;have b:(gB g.h.length).length=g.h.length:=by simp [gB]
  have Y:=wa Y b;refine wp (h:=aY (λk e H=>(e 1=.adr g.c/\e 2=.ptr 0 1 0 0/\e 3=.ptr 1 1 0 0/\e 8=dI g.h.length/\e 21=dI g.i.length/\e 22=dI k)/\(H.get 0=some ⟨58,2,[[.nil,.nil]],false⟩)/\(0<H.next)/\(H.get 1=some ⟨58,2,[[.own 2 g.h.length,.own 3 k]],false⟩)/\(1<H.next)/\(H.get 2=some ⟨3,1,(gB g.h.length).map cI,false⟩)/\(2<H.next)/\(H.get 3=some ⟨3,1,(gB k).map cI,false⟩)/\(3<H.next)/\(k<=g.i.length)) (λk=>g.i.length - k) 0 ⟨wg,wn,wn,wn,wn,wn,wn,(by exact f),wn,wi⟩ λO C k e H A=>?_);obtain ⟨I,y,q,w,o,u,m,s,j,L⟩:=A;have Y:=xa8 Y I y (bL q) w (bL o) u (bL m) s (bL j);refine dK (λE=>?_) λE=>?_
  .have a:(gB k).length=k:=by simp [gB]
   have Y:=xa1 Y E a;exact wp (h:=wx C (k+1) ⟨wg,wn,wn,wn,wn,wn,wn,(by simp [go_sem,Y,xA,a]),wn,wj⟩)
  .have hK:k=g.i.length:=aD;subst hK;have a:(gB g.i.length).length=g.i.length:=by simp [gB]
   have Y:=wa Y a;exact wv (h:=G _ _ (by simp [go_sem,Y,dLI,Part.d,Part.c]))
structure SlotsOk (t:Types) (s:Stp26):Prop where
 n:s.V.m.h.length<=1000
 a:∀ i:Nat,i<s.V.m.h.length->(0<=iA s.V.m.h i/\iA s.V.m.h i<s.B.k.length/\iA s.V.m.h i<s.B.j.h.length)/\(oF s i).length=(bI t (gN s.B.j (iA s.V.m.h i))).length/\(oF s i).length<=8
 b:∀ i:Nat,i<s.V.m.h.length->mem s.C.q.h i=true->iA s.V.m.h i<s.Q.h.length/\0<=iA s.Q.h (iA s.V.m.h i)/\iA s.Q.h (iA s.V.m.h i)<s.after.k.length/\(oF s i).length<=(s.after.k[(iA s.Q.h (iA s.V.m.h i)).toNat]?.getD []).length
theorem rY (t:Types)(s:Stp26)(i n:Nat):sL t s i (n+1)=sL t s i n++lK t s i n:=by simp [sL,bS]
theorem Fj (t:Types)(s:Stp26)(n:Nat):g6 t s (n+1)=g6 t s n++sL t s n (oF s n).length:=by simp [g6,bS]
theorem Hr (t:Types)(s:Stp26)(i:Nat):∀ n,(sL t s i n).length<=n
 | 0=>by simp [sL]
 | n+1=>by
  have:=Hr t s i n;rw [rY,aH];have:(lK t s i n).length<=1:=by unfold lK;split<;>simp
  omega
theorem Hq {t:Types}{s:Stp26}(h:SlotsOk t s):∀ n,n<=s.V.m.h.length->(g6 t s n).length<=8 * n
 | 0,_=>by simp [g6]
 | n+1,hn=>by
  have h1:=Hq h n aD;have h2:=Hr t s n (oF s n).length;have h3:=(h.a n aD).2.2;rw [Fj,aH];omega
theorem J2 (t:Types)(ht:t.ok)(s:Stp26)(J:SlotsOk t s):Pua 59 [t.d,.agg s.c] (.list ((g6 t s s.V.m.h.length).map Slot.c)):=by
 have hn:=J.n;refine Tz.pK ⟨λt=>t==5||t==11,λ_=>[]⟩ func59 rfl (λQ hQ=>?_);have Y:=xa2 @Stp26.c.eq_1 @Rule.c.eq_1 @Mat.c.eq_1 @Host.c.eq_1;refine wp (h:=aY (λi e H=>∃ u:List Slot,(e 2=.adr t.c/\e 3=.adr s.c/\e 17=dLI s.V.m.h/\e 18=dI s.V.m.h.length/\e 5=.own 0 u.length/\e 19=dI i)/\(H.get 0=some ⟨96,4,u.map Slot.c,false⟩)/\(0<H.next)/\(i<=s.V.m.h.length)/\(u.length<=8 * i)/\(u=g6 t s i)) (λi=>s.V.m.h.length - i) 0 ⟨([]),wg,wn,wn,wi,dB,(by rfl)⟩ λI0 W i e H P=>?_);obtain ⟨u,E0,I,A,hi,hl,X⟩:=P;have Y:=xa2 Y E0 I (bL A);refine dK (λy=>?_) λy=>?_
 .obtain ⟨⟨a1,a2,a3⟩,a4,a5⟩:=J.a i y;have Z:=J.b i y;obtain ⟨q,hq⟩:=fD ((iA s.V.m.h i).toNat);have w:iA s.V.m.h i=(q:Int):=aD;have N:s.V.m.h[i]=(q:Int):=by rw [<- w,lU y]
  have C:q<s.B.k.length:=aD;have E:q<s.B.j.h.length:=aD;obtain ⟨K,V⟩:=fD (gN s.B.j (iA s.V.m.h i));have U:s.B.j.h[q]=K:=by rw [V,w];unfold gN;rw [Int.toNat_natCast,aA E];rfl
  obtain ⟨o,v⟩:=fD (oF s i);have M:s.B.k[q]=o:=by rw [v];unfold oF;rw [<- hq,aA C];rfl
  rw [<- V,<- v] at a4;rw [<- v] at a5 Z;have Y:=xa7 Y y (aA y) N (aA C) (aA E) U M @cL.eq_1;refine wp (h:=aI (oT t ht K) wl ?_);refine wp (h:=aY (λk e H=>∃ j:List Slot,(e 2=.adr t.c/\e 3=.adr s.c/\e 17=dLI s.V.m.h/\e 18=dI s.V.m.h.length/\e 5=.own 0 j.length/\e 19=dI i/\e 6=dI i/\e 7=dI q/\e 8=.list ((bI t K).map Attr.c)/\e 36=.list ((bI t K).map Attr.c)/\e 37=dI o.length/\e 38=dI k)/\(H.get 0=some ⟨96,4,j.map Slot.c,false⟩)/\(0<H.next)/\(k<=o.length)/\(j.length<=8 * i+k)/\(j=u++sL t s i k)) (λk=>o.length - k) 0 ⟨u,wg,wn,wn,wi,aD,(by simp [sL])⟩ λI2 p k e H O=>?_);obtain ⟨j,E2,G,z,hk,a0,B⟩:=O;have Y:=xa2 Y E2 G (bL z);refine dK (λL=>?_) λL=>?_
  .have hka:k<(bI t K).length:=aD;have l:o[k]?.getD 0=o[k]:=by rw [aA L];rfl
   have Y:=xa3 Y L (aA L) (aA hka) @Attr.c.eq_1;refine wp (h:=aB (fU s.C.q.h i) wl ?_);refine i7 (λr=>?_) λr=>?_
   .obtain ⟨b1,b2,b3,b4⟩:=Z (eQ r);obtain ⟨T,hT⟩:=fD ((iA s.Q.h (iA s.V.m.h i)).toNat);have D:q<s.Q.h.length:=aD;have S:iA s.Q.h (iA s.V.m.h i)=(T:Int):=aD;have R:s.Q.h[q]=(T:Int):=by rw [<- S,w,lU D]
    have x:T<s.after.k.length:=aD;rw [<- hT,aA x] at b4;have F:k<s.after.k[T].length:=by simp only [Option.getD_some] at b4;omega
    have f:MO t s i k=s.after.k[T][k]:=by unfold MO;rw [if_pos (eQ r),<- hT,aA x,Option.getD_some,aA F];rfl
    have Y:=xa3 Y (aA D) R (aA x) (aA F);refine i7 (λg=>?_) λg=>?_
    .have hsl:lK t s i k=[⟨i,k,⟨-1,o[k]⟩⟩]:=by unfold lK;rw [<- v,l,f,if_pos (eQ g)]
     have Y:=xa2 Y hsl @Slot.c.eq_1 @Term.c.eq_1;exact wp (h:=wx p (k+1) ⟨(j++lK t s i k),wg,wn,wn,wj,(by rw [aH];have:(lK t s i k).length<=1:=(by unfold lK;split<;>simp);omega),(by rw [B,rY,List.append_assoc])⟩)
    .have hsl:lK t s i k=[]:=by unfold lK;rw [<- v,l,f,if_neg (eQ g)]
     have Y:=wa Y hsl;exact wp (h:=wx p (k+1) ⟨(j++lK t s i k),wg,wn,wn,wj,(by rw [aH];have:(lK t s i k).length<=1:=(by unfold lK;split<;>simp);omega),(by rw [B,rY,List.append_assoc])⟩)
   .have f:MO t s i k=(bI t K)[k].aw:=by unfold MO;rw [if_neg (eQ r),<- V,aA hka];rfl
    refine dK (λg=>?_) λg=>?_
    .have hsl:lK t s i k=[⟨i,k,⟨-1,o[k]⟩⟩]:=by unfold lK;rw [<- v,l,f,if_pos (eQ g)]
     have Y:=xa2 Y hsl @Slot.c.eq_1 @Term.c.eq_1;exact wp (h:=wx p (k+1) ⟨(j++lK t s i k),wg,wn,wn,wj,(by rw [aH];have:(lK t s i k).length<=1:=(by unfold lK;split<;>simp);omega),(by rw [B,rY,List.append_assoc])⟩)
    .have hsl:lK t s i k=[]:=by unfold lK;rw [<- v,l,f,if_neg (eQ g)]
     have Y:=wa Y hsl;exact wp (h:=wx p (k+1) ⟨(j++lK t s i k),wg,wn,wn,wj,(by rw [aH];have:(lK t s i k).length<=1:=(by unfold lK;split<;>simp);omega),(by rw [B,rY,List.append_assoc])⟩)
  .have hyx:j=g6 t s (i+1):=by rw [B,Fj,<- X,<- v,(aD:k=o.length)]
   exact wp (h:=wx W (i+1) ⟨j,wg,wn,wn,wj,(by rw [hyx];have:=Hq J (i+1) y;omega),(by rw [hyx])⟩)
 .have hX:u=g6 t s s.V.m.h.length:=by rw [X,(aD:i=s.V.m.h.length)]
  exact wv (h:=hQ _ _ (by simp [go_sem,Y,hX]))
end Go.Abs
end
