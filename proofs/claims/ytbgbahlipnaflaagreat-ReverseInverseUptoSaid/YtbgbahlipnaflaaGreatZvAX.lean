/- Plain law of undoing a step: one sort of elements (nodes, or -/
import Derived.Test.YtbgbahlipnaflaaGreatZvAW
import Derived.Test.YtbgbahlipnaflaaGreatZvAG
import Derived.Test.YtbgbahlipnaflaaGreatZvAA
set_option linter.unusedVariables false
set_option linter.unusedSimpArgs false
section
set_option maxRecDepth 100000
set_option maxHeartbeats 4000000
open Go Go.Proofs Tryz
namespace Go.Abs
structure Srt (keep into mm:V2) (nL nR nH:Nat):Prop where
 kl:keep.length=into.length
 kr:∀ x∈keep,0<=x/\x<nL
 ir:∀ x∈into,0<=x/\x<nR
 cw:into.Nodup
 ml:mm.length=nL
 mr:∀ x∈mm,0<=x/\x<nH
 du:oD mm keep=[]
def mC (keep mm:V2)(nH:Nat):V2:=bH (iC mm keep) nH
def nP (keep mm:V2)(nH:Nat):V2:=o6 (mC keep mm nH) nH
def uJ (keep into mm:V2)(nR nH:Nat):V2:=ER keep into (qF mm (nP keep mm nH)) nR (mC keep mm nH).length
theorem iK {l:V2}{i:Nat}(h:i<l.length):iA l i=l[i]:=by simp [iA,h]
theorem Ya {l:V2}{k:Int}(h:k.toNat<l.length):iA l k=l[k.toNat]:=by unfold iA;rw [aA h];rfl
theorem mZ {l:V2}{v:Int}(h:v∈l):∃ i:Nat,i<l.length/\iA l i=v:=by
 obtain ⟨i,a,rfl⟩:=aO h;exact ⟨i,a,iK a⟩
theorem CR {l:V2}(a:l.Nodup){i j:Nat}(c:i<l.length)(b:j<l.length)(h:iA l i=iA l j):i=j:=by
 rw [iK c,iK b] at h;exact (i6 a).1 h
section
variable {keep into mm:V2} {nL nR nH:Nat}
theorem Srt.au (S:Srt keep into mm nL nR nH){x:Int}:x∈mC keep mm nH↔(0<=x/\x<nH)/\∀ k:Int,0<=k->k<nL->k∉keep->iA mm k≠x:=by
 have e:=S.ml;unfold mC;rw [dQ];refine and_congr_right λ_=>⟨λh k j g b c=>h (rZ.2 ⟨k.toNat,aD,?_,?_⟩),λh d=>?_⟩
 .rw [show ((k.toNat:Nat):Int)=k by omega,bJ];exact λa=>b ((mem_iff _ _).1 a)
 .rw [<- c,aA (aD:k.toNat<mm.length)];unfold iA;rw [aA (aD:k.toNat<mm.length)];rfl
 .obtain ⟨i,f,a,c⟩:=rZ.1 d;refine h i aD aD (λb=>?_) (by unfold iA;rw [show ((i:Int)).toNat=i by omega,c];rfl);rw [(mem_iff _ _).2 b] at a;cases a
theorem Srt.hh (S:Srt keep into mm nL nR nH):(mC keep mm nH).Nodup:=jC (lR _ _)
theorem Srt.dg (S:Srt keep into mm nL nR nH){x:Int}(h:0<=x/\x<nH):iA (nP keep mm nH) x=g6 (mC keep mm nH) (mC keep mm nH).length x:=by
 unfold iA nP o6;rw [p9 _ aD,Option.getD_some,show ((x.toNat:Nat):Int)=x by omega]
theorem Srt.a8 (S:Srt keep into mm nL nR nH){x:Int}(b:x∈mC keep mm nH):∃ p:Nat,iA (nP keep mm nH) x=p/\p<(mC keep mm nH).length/\iA (mC keep mm nH) p=x:=by
 obtain ⟨p,a,rfl⟩:=aO b;exact ⟨p,by rw [S.dg (S.au.1 b).1,rE S.hh a],a,iK a⟩
theorem Srt.eh (S:Srt keep into mm nL nR nH){p:Nat}(a:p<(mC keep mm nH).length):iA (mC keep mm nH) p∈mC keep mm nH/\iA (nP keep mm nH) (iA (mC keep mm nH) p)=p:=by
 have b:iA (mC keep mm nH) p∈mC keep mm nH:=eB aD aD;exact ⟨b,by rw [S.dg (S.au.1 b).1,iK a,rE S.hh a]⟩
theorem Srt.dT (S:Srt keep into mm nL nR nH){x:Int}(h:0<=x/\x<nH)(a:x∉mC keep mm nH):iA (nP keep mm nH) x = -1:=by rw [S.dg h,sA a _ (bC _)]
theorem Srt.cn (S:Srt keep into mm nL nR nH){x y:Int}(b:x∈mC keep mm nH)(a:y∈mC keep mm nH)(h:iA (nP keep mm nH) x=iA (nP keep mm nH) y):x=y:=by
 obtain ⟨p,d,_,rfl⟩:=S.a8 b;obtain ⟨q,c,_,rfl⟩:=S.a8 a;rw [(aD:p=q)]
theorem Srt.fd (S:Srt keep into mm nL nR nH){j:Int}(h:0<=j/\j<nR):iA (uJ keep into mm nR nH) j=Kl keep into (qF mm (nP keep mm nH)) (mC keep mm nH).length j.toNat:=by
 unfold iA uJ ER;simp [(aD:j.toNat<nR)]
theorem Srt.ap (S:Srt keep into mm nL nR nH){k:Int}(b:k∈keep):iA mm k∈mC keep mm nH:=by
 have a:=S.kr k b;have c:=S.ml;exact dQ.2 ⟨S.mr _ (eB a.1 aD),yD S.du a.1 aD b⟩
theorem Srt.bd (S:Srt keep into mm nL nR nH){q:Nat}(g:q<keep.length):iA (uJ keep into mm nR nH) (iA into q)=iA (nP keep mm nH) (iA mm (iA keep q)):=by
 have c:=S.kl;have h:=S.ml;have a:iA into q∈into:=eB aD aD;have i:=S.kr _ (eB (l:=keep) (n:=(q:Int)) aD aD);rw [S.fd (S.ir _ a)];have d:g6 into into.length ((iA into q).toNat:Nat)=q:=by
  have:=S.ir _ a;rw [show (((iA into q).toNat:Nat):Int)=iA into q by omega,iK aD,rE S.cw aD]
 unfold Kl;rw [d,if_pos aD,(aD:(q:Int).toNat=q)];unfold qF;have b:(iA keep q).toNat<mm.length:=aD;have f:keep[q]?.getD 0=iA keep q:=by unfold iA;rw [(aD:(q:Int).toNat=q)]
 rw [f,aN,aA b,d7,Option.getD_some];have e:iA mm (iA keep q)=mm[(iA keep q).toNat]:=Ya b;rw [e];rfl
theorem Srt.aj (S:Srt keep into mm nL nR nH){j:Int}(h:0<=j/\j<nR)(c:j∉into):∃ f:Nat,f<(bH into nR).length/\iA (bH into nR) f=j/\iA (uJ keep into mm nR nH) j=((mC keep mm nH).length+f:Nat):=by
 have b:=Fi (l:=into) nR j.toNat aD (by rw [show ((j.toNat:Nat):Int)=j by omega,bJ];exact λd=>c ((mem_iff _ _).1 d));have a:=(aQ.1 b).1;refine ⟨_,a,by unfold iA;rw [show ((((bH into j.toNat).length:Nat):Int)).toNat=(bH into j.toNat).length by omega,b,Option.getD_some];omega,?_⟩;rw [S.fd h];unfold Kl;rw [show ((j.toNat:Nat):Int)=j by omega,sA c _ (bC _),if_neg aD,Oq S.cw]
theorem Srt.ew (S:Srt keep into mm nL nR nH){f:Nat}(d:f<(bH into nR).length):∃ j:Int,(0<=j/\j<nR)/\j∉into/\iA (uJ keep into mm nR nH) j=((mC keep mm nH).length+f:Nat):=by
 have c:iA (bH into nR) f∈bH into nR:=eB aD aD;obtain ⟨b,a⟩:=dQ.1 c;obtain ⟨g,i,h,e⟩:=S.aj b a;have:=CR (jC (lR _ _)) i d h;subst this;exact ⟨_,b,a,e⟩
theorem Srt.cj (S:Srt keep into mm nL nR nH){j:Int}(h:0<=j/\j<nR):0<=iA (uJ keep into mm nR nH) j/\iA (uJ keep into mm nR nH) j<((mC keep mm nH).length+(bH into nR).length:Nat):=by
 by_cases a:j∈into
 .obtain ⟨q,d,rfl⟩:=mZ a;have b:=S.kl;rw [S.bd aD];obtain ⟨p,c,g,_⟩:=S.a8 (S.ap (eB (l:=keep) (n:=(q:Int)) aD aD));omega
 .obtain ⟨f,c,_,e⟩:=S.aj h a;omega
end
/-! ### undoing -/
def dA (part into keep:V2):V2:=part.map λx=>iA keep (idx into x)
structure Und (keep into mm m0 b mm':V2) (nL nR nH N:Nat):Prop where
 S:Srt keep into mm nL nR nH
 n:N=(mC keep mm nH).length+(bH into nR).length
 to:∀ x:Int,0<=x->x<N->(0<=iA m0 x/\iA m0 x<N)/\iA b (iA m0 x)=x
 of:∀ y:Int,0<=y->y<N->(0<=iA b y/\iA b y<N)/\iA m0 (iA b y)=y
 m:∀ y:Int,0<=y->y<nR->iA mm' y=iA b (iA (uJ keep into mm nR nH) y)
 S':Srt (fH into nR) (dA (fH into nR) into keep) mm' nR nL N
section
variable {keep into mm m0 b mm':V2} {nL nR nH N:Nat}
def EN (keep into mm m0 mm':V2)(nL nR nH N:Nat)(p v:Int):Prop :=
 (∃ x∈mC (fH into nR) mm' N,iA (nP (fH into nR) mm' N) x=p/\v∈mC keep mm nH/\iA (nP keep mm nH) v=iA m0 x) \/
 (∃ j:Int,(0<=j/\j<nL)/\iA (uJ (fH into nR) (dA (fH into nR) into keep) mm' nL N) j=p/\iA mm j=v)
theorem zK {l:V2}(d:l.Nodup){q:Nat}(c:q<l.length):idx l (iA l q)=q:=by
 obtain ⟨f,a,b⟩:=CP ((mem_iff l _).2 (eB (l:=l) (n:=(q:Int)) aD aD));have e:iA l (((idx l (iA l q)).toNat:Nat):Int)=iA l q:=by
  rw [iK a];rw [aA a] at b;exact Option.some.inj b
 have:(idx l (iA l q)).toNat=q:=CR d a c e;omega
theorem Und.kept (U:Und keep into mm m0 b mm' nL nR nH N){j:Int}(p:j∈keep):∃ y:Int,(0<=y/\y<nR)/\y∈into/\j∈dA (fH into nR) into keep /\
  iA (uJ (fH into nR) (dA (fH into nR) into keep) mm' nL N) j=iA (nP (fH into nR) mm' N) (iA mm' y)/\iA mm' y∈mC (fH into nR) mm' N/\iA m0 (iA mm' y)=iA (nP keep mm nH) (iA mm j):=by
 have S:=U.S;have o:=S.kl;obtain ⟨q,k,rfl⟩:=mZ p;have g:iA into q∈into:=eB aD aD;have a:=S.ir _ g;have e:iA into q∈fH into nR:=fF.2 ⟨a,g⟩;obtain ⟨s,h,f⟩:=mZ e;have l:(dA (fH into nR) into keep).length=(fH into nR).length:=by simp [dA]
 have c:iA (dA (fH into nR) into keep) s=iA keep q:=by
  rw [iK aD];unfold dA;rw [iG,<- iK h,f,zK S.cw aD]
 have i:=U.S'.bd h;rw [f,c] at i;have d:=S.cj a;rw [<- U.n] at d;refine ⟨_,a,g,?_,i,U.S'.ap e,?_⟩
 .rw [<- c];exact eB aD aD
 .rw [U.m _ a.1 a.2,(U.of _ d.1 d.2).2,S.bd k]
theorem Und.a2 (U:Und keep into mm m0 b mm' nL nR nH N){j:Int}(a:j∈dA (fH into nR) into keep):j∈keep:=by
 unfold dA at a;obtain ⟨x,c,rfl⟩:=aT.1 a;obtain ⟨d,e,_⟩:=CP ((mem_iff _ _).2 (fF.1 c).2);have:=U.S.kl;exact eB d aD
theorem Und.left (U:Und keep into mm m0 b mm' nL nR nH N){x:Int}(g:x∈mC (fH into nR) mm' N):∃ v∈mC keep mm nH,iA (nP keep mm nH) v=iA m0 x:=by
 obtain ⟨e,o⟩:=U.S'.au.1 g;obtain ⟨s,l⟩:=U.to x e.1 e.2;have q:=U.n;by_cases h:iA m0 x<(mC keep mm nH).length
 .obtain ⟨a,b⟩:=U.S.eh (p:=(iA m0 x).toNat) aD;exact ⟨_,a,aD⟩
 .obtain ⟨j,c,d,r⟩:=U.S.ew (f:=(iA m0 x).toNat - (mC keep mm nH).length) aD;have k:iA (uJ keep into mm nR nH) j=iA m0 x:=aD;have:=o j c.1 c.2 (λi=>d (fF.1 i).2);rw [U.m j c.1 c.2,k,l] at this;exact absurd rfl this
theorem Und.right (U:Und keep into mm m0 b mm' nL nR nH N){v:Int}(g:v∈mC keep mm nH):∃ x∈mC (fH into nR) mm' N,iA (nP keep mm nH) v=iA m0 x:=by
 obtain ⟨p,s,r,_⟩:=U.S.a8 g;have o:=U.n;obtain ⟨l,e⟩:=U.of (iA (nP keep mm nH) v) aD aD;refine ⟨_,U.S'.au.2 ⟨l,λk c a h d=>?_⟩,e.symm⟩;obtain ⟨f,w,u,t⟩:=U.S.aj ⟨c,a⟩ (λi=>h (fF.2 ⟨⟨c,a⟩,i⟩));rw [U.m k c a] at d;have q:=U.S.cj (j:=k) ⟨c,a⟩;have:=(U.of (iA (uJ keep into mm nR nH) k) aD aD).2;rw [d,e] at this;omega
theorem Und.dn (U:Und keep into mm m0 b mm' nL nR nH N){j:Int}(h:0<=j/\j<nL)(hj:j∉keep):∃ f:Nat,f<(bH (dA (fH into nR) into keep) nL).length/\iA (bH (dA (fH into nR) into keep) nL) f=j /\
 iA (uJ (fH into nR) (dA (fH into nR) into keep) mm' nL N) j=((mC (fH into nR) mm' N).length+f:Nat):=U.S'.aj h λhi=>hj (U.a2 hi)
theorem Und.e1 (U:Und keep into mm m0 b mm' nL nR nH N){p v w:Int}(J:EN keep into mm m0 mm' nL nR nH N p v)(F:EN keep into mm m0 mm' nL nR nH N p w):v=w:=by
 have c:∀ {x:Int} {j u:Int},x∈mC (fH into nR) mm' N->0<=j/\j<nL->iA (uJ (fH into nR) (dA (fH into nR) into keep) mm' nL N) j=iA (nP (fH into nR) mm' N) x->u∈mC keep mm nH->iA (nP keep mm nH) u=iA m0 x->iA mm j=u:=by
  intro x j u l e a G r;by_cases d:j∈keep
  .obtain ⟨y,h,k,_,o,n,m⟩:=U.kept d;have t:iA mm' y=x:=U.S'.cn n l (by rw [<- o,a]);exact U.S.cn (U.S.ap d) G (by rw [<- m,t,r])
  .obtain ⟨f,_,_,I⟩:=U.dn e d;obtain ⟨q,K,H,_⟩:=U.S'.a8 l;omega
 rcases J with ⟨x,l,rfl,D,r⟩|⟨j,e,rfl,rfl⟩
 .rcases F with ⟨y,s,a,z,C⟩|⟨j,e,a,rfl⟩
  .have:=U.S'.cn s l a;subst this;exact U.S.cn D z (by rw [r,C])
  .exact (c l e a D r).symm
 .rcases F with ⟨y,s,a,z,C⟩|⟨i,E,a,rfl⟩
  .exact c s e a.symm z C
  .by_cases d:j∈keep
   .obtain ⟨y,h,k,_,o,n,m⟩:=U.kept d;exact (c n E (by rw [a,o]) (U.S.ap d) m.symm).symm
   .by_cases hl:i∈keep
    .obtain ⟨y,h,k,_,o,n,m⟩:=U.kept hl;exact c n e (by rw [<- a,o]) (U.S.ap hl) m.symm
    .obtain ⟨f,_,B,I⟩:=U.dn e d;obtain ⟨g,_,A,L⟩:=U.dn E hl;rw [<- B,<- A,(aD:f=g)]
theorem Und.inj (U:Und keep into mm m0 b mm' nL nR nH N){p q v:Int}(B:EN keep into mm m0 mm' nL nR nH N p v)(o:EN keep into mm m0 mm' nL nR nH N q v):p=q:=by
 have d:∀ {j:Int},0<=j/\j<nL->iA mm j∈mC keep mm nH->∃ x∈mC (fH into nR) mm' N,iA (nP (fH into nR) mm' N) x=iA (uJ (fH into nR) (dA (fH into nR) into keep) mm' nL N) j/\iA (nP keep mm nH) (iA mm j)=iA m0 x:=by
  intro j g l;by_cases C:j∈keep
  .obtain ⟨y,E,F,_,H,w,G⟩:=U.kept C;exact ⟨_,w,H.symm,G.symm⟩
  .exact absurd rfl ((U.S.au.1 l).2 j g.1 g.2 C)
 have c:∀ {x y v:Int},x∈mC (fH into nR) mm' N->y∈mC (fH into nR) mm' N->iA (nP keep mm nH) v=iA m0 x->iA (nP keep mm nH) v=iA m0 y->x=y:=by
  intro x y v f e B o;have a:=(U.S'.au.1 f).1;have b:=(U.S'.au.1 e).1;rw [<- (U.to x a.1 a.2).2,<- (U.to y b.1 b.2).2,<- B,<- o]
 rcases B with ⟨x,f,rfl,s,D⟩|⟨j,g,rfl,rfl⟩
 .rcases o with ⟨y,e,rfl,_,A⟩|⟨i,t,rfl,rfl⟩
  .rw [c f e D A]
  .obtain ⟨z,r,n,m⟩:=d t s;rw [<- n,c f r D m]
 .rcases o with ⟨y,e,rfl,s,A⟩|⟨i,t,rfl,u⟩
  .obtain ⟨z,r,n,m⟩:=d g s;rw [<- n,c r e m A]
  .by_cases l:iA mm j∈mC keep mm nH
   .obtain ⟨x,f,n,m⟩:=d g l;obtain ⟨y,e,J,I⟩:=d t (by rw [u];exact l);rw [<- n,<- J,c f e m (by rw [<- u];exact I)]
   .by_cases hij:i=j
    .rw [hij]
    .exfalso;have K:=U.S.ml;have h:=RB U.S.du (i:=i.toNat) (k:=j.toNat) aD aD aD u;rw [show ((j.toNat:Nat):Int)=j by omega] at h;exact l (U.S.ap ((mem_iff _ _).1 h.2))
theorem Und.range (U:Und keep into mm m0 b mm' nL nR nH N){p v:Int}(h:EN keep into mm m0 mm' nL nR nH N p v):(0<=p/\p<((mC (fH into nR) mm' N).length+(bH (dA (fH into nR) into keep) nL).length:Nat))/\0<=v/\v<nH:=by
 rcases h with ⟨x,c,rfl,d,e⟩|⟨j,a,rfl,rfl⟩
 .obtain ⟨q,g,f,_⟩:=U.S'.a8 c;exact ⟨aD,(U.S.au.1 d).1⟩
 .have hl:=U.S.ml;exact ⟨U.S'.cj a,U.S.mr _ (eB a.1 aD)⟩
theorem Und.fv (U:Und keep into mm m0 b mm' nL nR nH N){v:Int}(h:0<=v/\v<nH):∃ p,EN keep into mm m0 mm' nL nR nH N p v:=by
 by_cases e:v∈mC keep mm nH
 .obtain ⟨x,f,j⟩:=U.right e;exact ⟨_,.inl ⟨x,f,rfl,e,j⟩⟩
 .have:¬ ∀ k:Int,0<=k->k<nL->k∉keep->iA mm k≠v:=λg=>e (U.S.au.2 ⟨h,g⟩);have:∃ k:Int,0<=k/\k<nL/\iA mm k=v:=by
   refine aY λi=>this λk c a _ d=>i ⟨k,c,a,d⟩
  obtain ⟨k,c,a,d⟩:=this;exact ⟨_,.inr ⟨k,⟨c,a⟩,rfl,d⟩⟩
end
def oW (ps:List (Int × Int))(l:V2):V2:=ps.foldl (λl p=>l.set p.1.toNat p.2) l
theorem kG:∀ (ps:List (Int × Int)) (l:V2),(oW ps l).length=l.length
 | [],_=>rfl
 | p :: ps,l=>by
  have:=kG ps (l.set p.1.toNat p.2);simpa [oW] using this
theorem It (a:List (Int × Int))(p:Int × Int)(l:V2):oW (a++[p]) l=(oW a l).set p.1.toNat p.2:=by simp [oW]
theorem Mc (b a:List (Int × Int))(l:V2):oW (b++a) l=oW a (oW b l):=by simp [oW]
theorem acG {l:V2}{a:Nat}(h:a<l.length)(v:Int)(p:Nat):iA (l.set a v) p=if a=p then v else iA l p:=by
 unfold iA;rw [(aD:(p:Int).toNat=p),dL];by_cases b:a=p
 .subst b;simp [h]
 .rw [if_neg b,if_neg b]
theorem Hz {R:Int->Int->Prop}:∀ (ps:List (Int × Int)) (l:V2),(∀ q∈ps,R q.1 q.2/\0<=q.1)->∀ p:Nat,p<l.length->(R p (iA l p)\/∃ v,((p:Int),v)∈ps)->R p (iA (oW ps l) p)
 | [],l,_,p,_,h=>by
  rcases h with h|⟨v,hv⟩
  .exact h
  .cases hv
 | (a,v) :: ps,l,hR,p,hp,h=>by
  have h0:=hR (a,v) (gG ..);refine Hz ps (l.set a.toNat v) (λq hq=>hR q (dX _ hq)) p (bY hp) ?_;by_cases he:a.toNat=p
  .left
   rw [acG aD,if_pos he,<- he,show ((a.toNat:Nat):Int)=a by have:=h0.2;simp only at this;omega];exact h0.1
  .rcases h with h|⟨w,hw⟩
   .left
    have e:iA (l.set a.toNat v) p=iA l p:=by
     unfold iA;rw [dL,if_neg aD]
    rw [e];exact h
   .right
    exact ⟨w,(aW.1 hw).resolve_left λe=>he (by have:=congrArg Prod.fst e;simp only at this;omega)⟩
theorem Q8 {l a:V2}(h:l.length=a.length)(c:∀ p:Nat,p<l.length->iA l p=iA a p):l=a:=by
 refine fD h λi b d=>?_;have:=c i b;rwa [iK b,iK d] at this
def abV (track undo:V2)(k:Nat):List (Int × Int):=(List.range k).flatMap λ(i:Nat)=>if 0<=iA track i/\0<=iA undo (iA track i) then [(iA undo (iA track i),(i:Int))] else []
def abU (com mat:V2)(k:Nat):List (Int × Int):=(List.range k).map λ(i:Nat)=>(iA com i,iA mat i)
def CH (track undo com mat:V2)(n:Nat):V2:=oW (abU com mat com.length) (oW (abV track undo track.length) (List.replicate n 0))
def LP (iso undone track:V2)(k:Nat):List (Int × Int):=(List.range k).flatMap λ(i:Nat)=>if 0<=iA undone i then [(iA undone i,idx track (iA iso i))] else []
def OZ (com mat keep:V2)(k:Nat):List (Int × Int):=(List.range k).flatMap λ(i:Nat)=>if mem keep i=true then [] else [(iA com i,iA mat i)]
def Db (n:Nat)(iso undone track com mat keep:V2):V2:=oW (OZ com mat keep com.length) (oW (LP iso undone track undone.length) (List.replicate n 0))
def mE (l by_:V2):V2:=l.map λn=>if 0<=n then iA by_ n else n
section
variable {keep into mm m0 b mm':V2} {nL nR nH N:Nat}
theorem jT:(nP keep mm nH).length=nH:=mR _ _
theorem eV:(uJ keep into mm nR nH).length=nR:=by simp [uJ,ER]
theorem Py {l by_:V2}{i:Int}(b:0<=i)(h:i<l.length):iA (mE l by_) i=if 0<=iA l i then iA by_ (iA l i) else iA l i:=by
 have a:i.toNat<l.length:=aD;have e:iA l i=l[i.toNat]:=by unfold iA;rw [aA a];rfl
 rw [e];unfold iA mE;rw [aN,aA a];rfl
theorem Srt.df (S:Srt keep into mm nL nR nH){x:Int}(h:0<=x/\x<nH)(b:0<=iA (nP keep mm nH) x):x∈mC keep mm nH:=by
 refine aY λa=>?_;rw [S.dT h a] at b;omega
theorem Und.e3 (U:Und keep into mm m0 b mm' nL nR nH N){n:Nat}(J:n=(mC (fH into nR) mm' N).length+(bH (dA (fH into nR) into keep) nL).length) :
  ∀ p:Nat,p<n->EN keep into mm m0 mm' nL nR nH N p (iA (CH (mE (nP keep mm nH) b) (nP (fH into nR) mm' N) (uJ (fH into nR) (dA (fH into nR) into keep) mm' nL N) mm n) p):=by
 intro p D;unfold CH;rw [<- Mc];have K:=U.n;have c:(mE (nP keep mm nH) b).length=nH:=by unfold mE;rw [aR];exact jT
 refine Hz _ _ (λq a=>?_) p (bY D) (.inr ?_)
 .rcases aZ.1 a with h|h
  .unfold abV at h;obtain ⟨i,E,a⟩:=bQ.1 h;have r:=aV.1 E;rw [c] at r;split at a
   .rename_i s;obtain ⟨k,g⟩:=s;simp only [bD] at a;subst a;refine ⟨.inl ?_,g⟩;rw [Py aD (by rw [jT];omega)] at k g ⊢;by_cases d:0<=iA (nP keep mm nH) i
    .rw [if_pos d] at k g ⊢;have e:=U.S.df (x:=(i:Int)) aD d;obtain ⟨I,M,L,_⟩:=U.S.a8 e;obtain ⟨A,z⟩:=U.of (iA (nP keep mm nH) i) d aD;exact ⟨_,U.S'.df A g,rfl,e,z.symm⟩
    .rw [if_neg d] at k;exact absurd k d
   .cases a
  .unfold abU at h;obtain ⟨j,u,rfl⟩:=aT.1 h;have o:=aV.1 u;rw [eV] at o;exact ⟨.inr ⟨j,aD,rfl,rfl⟩,(U.S'.cj (j:=(j:Int)) aD).1⟩
 .by_cases e:p<(mC (fH into nR) mm' N).length
  .obtain ⟨w,G⟩:=U.S'.eh e;obtain ⟨v,C,F⟩:=U.left w;have t:=(U.S'.au.1 w).1;have B:=(U.S.au.1 C).1;obtain ⟨H,y⟩:=U.to _ t.1 t.2;refine ⟨v,aZ.2 (.inl ?_)⟩;unfold abV;have l:v.toNat<(mE (nP keep mm nH) b).length:=by rw [c];omega
   refine bQ.2 ⟨v.toNat,aV.2 l,?_⟩;rw [show ((v.toNat:Nat):Int)=v by omega,Py aD (by rw [jT];omega),if_pos (by omega:0<=iA (nP keep mm nH) v),F,y,G,if_pos aD];simp
  .obtain ⟨j,u,_,s⟩:=U.S'.ew (f:=p - (mC (fH into nR) mm' N).length) aD;refine ⟨iA mm j,aZ.2 (.inr ?_)⟩;unfold abU;have m:j.toNat<(uJ (fH into nR) (dA (fH into nR) into keep) mm' nL N).length:=by rw [eV];omega
   refine aT.2 ⟨j.toNat,aV.2 m,?_⟩;rw [show ((j.toNat:Nat):Int)=j by omega,s];congr 1;omega
theorem Und.idx (U:Und keep into mm m0 b mm' nL nR nH N){x:Int}(d:x∈mC (fH into nR) mm' N):Abs.idx (nP keep mm nH) (iA m0 x)∈mC keep mm nH/\iA (nP keep mm nH) (Abs.idx (nP keep mm nH) (iA m0 x))=iA m0 x:=by
 obtain ⟨v,g,i⟩:=U.left d;have c:=(U.S.au.1 g).1;have a:=(U.S'.au.1 d).1;have h:iA m0 x∈nP keep mm nH:=by rw [<- i];exact eB c.1 (by rw [jT];omega)
 obtain ⟨k,j,f⟩:=CP ((mem_iff _ _).2 h);have e:iA (nP keep mm nH) (Go.Abs.idx (nP keep mm nH) (iA m0 x))=iA m0 x:=by unfold iA at f ⊢;rw [f];rfl
 rw [jT] at j;exact ⟨U.S.df aD (by rw [e];exact (U.to x a.1 a.2).1.1),e⟩
theorem Und.hw (U:Und keep into mm m0 b mm' nL nR nH N){n:Nat}(A:n=(mC (fH into nR) mm' N).length+(bH (dA (fH into nR) into keep) nL).length) :
  ∀ p:Nat,p<n->EN keep into mm m0 mm' nL nR nH N p (iA (Db n m0 (nP (fH into nR) mm' N) (nP keep mm nH) (uJ (fH into nR) (dA (fH into nR) into keep) mm' nL N) mm keep) p):=by
 intro p t;unfold Db;rw [<- Mc];refine Hz _ _ (λq a=>?_) p (bY t) (.inr ?_)
 .rcases aZ.1 a with h|h
  .unfold LP at h;obtain ⟨i,u,a⟩:=bQ.1 h;have m:=aV.1 u;rw [jT] at m;split at a
   .rename_i c;simp only [bD] at a;subst a;have d:=U.S'.df (x:=(i:Int)) aD c;obtain ⟨s,r⟩:=U.idx d;exact ⟨.inl ⟨_,d,rfl,s,r⟩,c⟩
   .cases a
  .unfold OZ at h;obtain ⟨j,o,a⟩:=bQ.1 h;have l:=aV.1 o;rw [eV] at l;split at a
   .cases a
   .simp only [bD] at a;subst a;exact ⟨.inr ⟨j,aD,rfl,rfl⟩,(U.S'.cj (j:=(j:Int)) aD).1⟩
 .by_cases d:p<(mC (fH into nR) mm' N).length
  .obtain ⟨y,w⟩:=U.S'.eh d;have z:=(U.S'.au.1 y).1;refine ⟨Go.Abs.idx (nP keep mm nH) (iA m0 (iA (mC (fH into nR) mm' N) p)),aZ.2 (.inl ?_)⟩;unfold LP;have e:(iA (mC (fH into nR) mm' N) p).toNat<(nP (fH into nR) mm' N).length:=by rw [jT];omega
   refine bQ.2 ⟨(iA (mC (fH into nR) mm' N) p).toNat,aV.2 e,?_⟩;rw [show (((iA (mC (fH into nR) mm' N) p).toNat:Nat):Int)=iA (mC (fH into nR) mm' N) p by omega,w,if_pos aD];simp
  .obtain ⟨j,o,k,v⟩:=U.S'.ew (f:=p - (mC (fH into nR) mm' N).length) aD;refine ⟨iA mm j,aZ.2 (.inr ?_)⟩;unfold OZ;have g:j.toNat<(uJ (fH into nR) (dA (fH into nR) into keep) mm' nL N).length:=by rw [eV];omega
   refine bQ.2 ⟨j.toNat,aV.2 g,?_⟩;rw [show ((j.toNat:Nat):Int)=j by omega,v,if_neg]
   .simp;omega
   .intro hk;obtain ⟨_,_,_,h,_⟩:=U.kept ((mem_iff _ _).1 hk);exact k h
theorem Und.same (U:Und keep into mm m0 b mm' nL nR nH N){n:Nat}(a:n=(mC (fH into nR) mm' N).length+(bH (dA (fH into nR) into keep) nL).length) :
  Db n m0 (nP (fH into nR) mm' N) (nP keep mm nH) (uJ (fH into nR) (dA (fH into nR) into keep) mm' nL N) mm keep=CH (mE (nP keep mm nH) b) (nP (fH into nR) mm' N) (uJ (fH into nR) (dA (fH into nR) into keep) mm' nL N) mm n:=by
 have d:(Db n m0 (nP (fH into nR) mm' N) (nP keep mm nH) (uJ (fH into nR) (dA (fH into nR) into keep) mm' nL N) mm keep).length=n:=by unfold Db;rw [kG,kG,fM]
 have c:(CH (mE (nP keep mm nH) b) (nP (fH into nR) mm' N) (uJ (fH into nR) (dA (fH into nR) into keep) mm' nL N) mm n).length=n:=by unfold CH;rw [kG,kG,fM]
 exact Q8 (by rw [d,c]) λp e=>U.e1 (U.hw a p aD) (U.e3 a p aD)
theorem Und.er (U:Und keep into mm m0 b mm' nL nR nH N){n:Nat}(v:n=(mC (fH into nR) mm' N).length+(bH (dA (fH into nR) into keep) nL).length){l:V2}(w:l.length=n)(e:∀ p:Nat,p<n->EN keep into mm m0 mm' nL nR nH N p (iA l p)) :
  (∀ x∈l,0<=x/\x<nH)/\l.Nodup/\n=nH:=by
 have a:l.Nodup:=by
  rw [e8,dF];intro i j k q r s;have d:=e i aD;have f:=e j aD;rw [iK k] at d;rw [iK q,<- s] at f;have:=U.inj d f;omega
 have c:∀ x∈l,0<=x/\x<nH:=λx g=>by
  obtain ⟨i,k,rfl⟩:=mZ g;exact (U.range (e i aD)).2
 have d:=DR c a;have f:bH l nH=[]:=by
  refine lO.2 λx g=>?_;obtain ⟨u,t⟩:=dQ.1 g;obtain ⟨p,h⟩:=U.fv u;have o:=(U.range h).1;have m:=e p.toNat aD;rw [show ((p.toNat:Nat):Int)=p by omega] at m;refine t ?_;rw [U.e1 h m];exact eB o.1 aD
 rw [f] at d;simp at d;exact ⟨c,a,aD⟩
theorem Und.cases (U:Und keep into mm m0 b mm' nL nR nH N){p v:Int}(h:EN keep into mm m0 mm' nL nR nH N p v) :
  (∃ x∈mC (fH into nR) mm' N,iA (nP (fH into nR) mm' N) x=p/\v∈mC keep mm nH/\iA (nP keep mm nH) v=iA m0 x) \/
  (∃ (j:Int) (f:Nat),(0<=j/\j<nL)/\j∉keep/\f<(bH (dA (fH into nR) into keep) nL).length/\iA (bH (dA (fH into nR) into keep) nL) f=j/\p=((mC (fH into nR) mm' N).length+f:Nat)/\iA mm j=v):=by
 rcases h with h|⟨j,a,rfl,rfl⟩
 .exact .inl h
 .by_cases hk:j∈keep
  .obtain ⟨y,c,d,_,i,g,e⟩:=U.kept hk;exact .inl ⟨_,g,i.symm,U.S.ap hk,e.symm⟩
  .obtain ⟨f,m,l,k⟩:=U.dn a hk;exact .inr ⟨j,f,a,hk,m,l,k,rfl⟩
theorem DT (a b d c:V2)(n:Nat):(CH a b d c n).length=n:=by unfold CH;rw [kG,kG,fM]
theorem YF (n:Nat)(d a b e c keep:V2):(Db n d a b e c keep).length=n:=by unfold Db;rw [kG,kG,fM]
end
def XA:Pattern:=⟨⟨[],[]⟩,[],0,[]⟩
def n7 (s:Stp26)(i:Nat):V2:=s.C.k[(iA s.U.m.h i).toNat]?.getD []
def Lz (t:Types)(s:Stp26)(i k:Nat):Int :=
 if mem s.x.q.h i=true then (s.after.k[(iA s.V.h (iA s.U.m.h i)).toNat]?.getD [])[k]?.getD 0 else ((bL t (gN s.C.j (iA s.U.m.h i)))[k]?.getD nX).ao
def mG (t:Types)(s:Stp26)(i k:Nat):List Slot:=if (n7 s i)[k]?.getD 0≠Lz t s i k then [⟨i,k,⟨-1,(n7 s i)[k]?.getD 0⟩⟩] else []
def s8 (t:Types)(s:Stp26)(i n:Nat):List Slot:=(List.range n).flatMap (mG t s i)
def i9 (t:Types)(s:Stp26)(n:Nat):List Slot:=(List.range n).flatMap λi=>s8 t s i (n7 s i).length
def gX (r:Rule):Part:=⟨fH r.s.h r.right.j.h.length,fH r.s.i r.right.j.i.length⟩
def iZ (r:Rule):Part:=⟨dA (gX r).h r.s.h r.q.h,dA (gX r).i r.s.i r.q.i⟩
def dC (t:Types)(s:Stp26):Rule :=
 ⟨s.x.name,⟨lD s.x.right.j s.after.j s.B,[],0,[]⟩,⟨lD s.x.left.j s.C.j s.U.m,i9 t s s.U.m.h.length,0,[]⟩,gX s.x,iZ s.x,
  decide s.B.h.Nodup&&decide s.B.i.Nodup,.mk 1 [] ⟨[],[]⟩ XA⟩
theorem pQ {t:Types}{s:Stp26}{n:Nat}{x:Slot}:x∈i9 t s n↔∃ i,i<n/\∃ k,k<(n7 s i).length/\(n7 s i)[k]?.getD 0≠Lz t s i k/\x=⟨i,k,⟨-1,(n7 s i)[k]?.getD 0⟩⟩:=by
 unfold i9 s8 mG;simp only [bQ,aV];refine exists_congr λi=>and_congr_right λ_=>exists_congr λk=>and_congr_right λ_=>?_;split
 .rename_i h;simp [h]
 .rename_i h;simp [h]
structure HIso (a b:Host) (s:Part):Prop where
 nl:s.h.length=a.j.h.length
 el:s.i.length=a.j.i.length
 nn:a.j.h.length=b.j.h.length
 en:a.j.i.length=b.j.i.length
 av:a.k.length=a.j.h.length
 bv:b.k.length=b.j.h.length
 ni:∀ x∈s.h,0<=x/\x<b.j.h.length
 ei:∀ x∈s.i,0<=x/\x<b.j.i.length
 nd:s.h.Nodup
 ed:s.i.Nodup
 ty:∀ p:Int,0<=p->p<a.j.h.length->gN a.j p=gN b.j (iA s.h p)
 eg:∀ p:Int,0<=p->p<a.j.i.length->eA b.j (iA s.i p)=⟨(eA a.j p).type,iA s.h (eA a.j p).w,iA s.h (eA a.j p).M⟩
 va:∀ p:Int,0<=p->p<a.j.h.length->a.k[p.toNat]?.getD []=b.k[(iA s.h p).toNat]?.getD []
def ZD (l:V2)(k:Nat):List (Int × Int):=(List.range k).map λ(i:Nat)=>(iA l i,(i:Int))
def oR (l:V2):V2:=oW (ZD l l.length) (List.replicate l.length 0)
theorem By {l:V2}{n:Nat}(e:l.length=n)(c:∀ x∈l,0<=x/\x<n)(d:l.Nodup){v:Int}(h:0<=v/\v<n):v∈l:=by
 have f:=DR c d;refine aY λb=>?_;have a:v∈bH l n:=dQ.2 ⟨h,b⟩;rw [bM (aD:(bH l n).length=0)] at a;cases a
theorem HK {l:V2}{n:Nat}(d:l.length=n)(b:∀ x∈l,0<=x/\x<n)(g:l.Nodup){y:Int}(j:0<=y)(h:y<n):(0<=iA (oR l) y/\iA (oR l) y<n)/\iA l (iA (oR l) y)=y:=by
 have:=Hz (R:=λp v=>(0<=v/\v<n)/\iA l v=p) (ZD l l.length) (List.replicate l.length 0) (λq c=>by
  unfold ZD at c;obtain ⟨i,a,rfl⟩:=aT.1 c;have e:=aV.1 a;exact ⟨⟨by simp only;omega,rfl⟩,(b _ (eB aD aD)).1⟩) y.toNat ie (.inr (by
  obtain ⟨i,a,f⟩:=mZ (By d b g ⟨j,h⟩);refine ⟨i,?_⟩;unfold ZD;exact aT.2 ⟨i,aV.2 a,by rw [f];congr 1;omega⟩))
 rw [show ((y.toNat:Nat):Int)=y by omega] at this;exact this
theorem OB {l:V2}{n:Nat}(d:l.length=n)(b:∀ x∈l,0<=x/\x<n)(c:l.Nodup){x:Int}(f:0<=x)(h:x<n):(0<=iA l x/\iA l x<n)/\iA (oR l) (iA l x)=x:=by
 have a:=b _ (eB f (by omega:x<l.length));obtain ⟨g,e⟩:=HK d b c a.1 a.2;refine ⟨a,?_⟩;have:=CR c (i:=(iA (oR l) (iA l x)).toNat) (j:=x.toNat) aD aD (by
  rw [show (((iA (oR l) (iA l x)).toNat:Nat):Int)=iA (oR l) (iA l x) by omega,show ((x.toNat:Nat):Int)=x by omega];exact e)
 omega
section
variable {t:Types} {r:Rule} {h:Host} {m:Mat}
theorem StepIn.ak (S:StepIn t r h m):Srt r.q.h r.s.h m.m.h r.left.j.h.length r.right.j.h.length h.j.h.length :=
 ⟨S.hR.q.1.1,S.hR.q.2.1,S.hR.q.2.2.2.1,S.cp.1,S.hm.len,S.d6,S.fl.1⟩
theorem StepIn.ba (S:StepIn t r h m):Srt r.q.i r.s.i m.m.i r.left.j.i.length r.right.j.i.length h.j.i.length :=
 ⟨S.hR.q.1.2,S.hR.q.2.2.1,S.hR.q.2.2.2.2,S.cp.2,S.hm.ci,S.hp,S.fl.2⟩
theorem StepIn.bb (S:StepIn t r h m):(bZ r h m).h=mC r.q.h m.m.h h.j.h.length:=by rw [S.dc];rfl
theorem StepIn.bu (S:StepIn t r h m):(bZ r h m).i=mC r.q.i m.m.i h.j.i.length:=by rw [S.dc];rfl
theorem StepIn.b2 (S:StepIn t r h m):(dK r h m).h=nP r.q.h m.m.h h.j.h.length:=by unfold dK nP;rw [S.bb]
theorem StepIn.da (S:StepIn t r h m):(dK r h m).i=nP r.q.i m.m.i h.j.i.length:=by unfold dK nP;rw [S.bu]
theorem StepIn.bc (S:StepIn t r h m):(cT r h m).h=uJ r.q.h r.s.h m.m.h r.right.j.h.length h.j.h.length:=by unfold cT uJ;rw [S.bb,S.b2]
theorem StepIn.ca (S:StepIn t r h m):(cT r h m).i=uJ r.q.i r.s.i m.m.i r.right.j.i.length h.j.i.length:=by unfold cT uJ;rw [S.bu,S.da]
theorem StepIn.cd (S:StepIn t r h m):(bP t r h m).j.h.length=(mC r.q.h m.m.h h.j.h.length).length+(bH r.s.h r.right.j.h.length).length:=by
 show (bT t r h m).j.h.length=_;rw [S.bw,aI,aR,aR,S.bb];rfl
theorem StepIn.b4 (S:StepIn t r h m):(bP t r h m).j.i.length=(mC r.q.i m.m.i h.j.i.length).length+(bH r.s.i r.right.j.i.length).length:=by
 show (bT t r h m).j.i.length=_;rw [S.cr,aI,aR,aR,S.bu];rfl
end
structure BackI (t:Types) (r:Rule) (h:Host) (m:Mat) (g:Host) (m0:Part) (m':Mat):Prop where
 K:StepOk t r h m
 I:HIso g (bP t r h m) m0
 bn:m'.m.h=(cT r h m).h.map λk=>iA (oR m0.h) k
 be:m'.m.i=(cT r h m).i.map λk=>iA (oR m0.i) k
 T:StepIn t (dC t (aP t r h m)) g m'
structure Back (t:Types) (r:Rule) (h:Host) (m:Mat) (g:Host) (m0:Part) (m':Mat):Prop where
 K:StepOk t r h m
 I:HIso g (bP t r h m) m0
 bn:m'.m.h=(cT r h m).h.map λk=>iA (oR m0.h) k
 be:m'.m.i=(cT r h m).i.map λk=>iA (oR m0.i) k
 K':StepOk t (dC t (aP t r h m)) g m'
def af5 (T T' c' mm:Part)(b:Part)(nn ne:Nat):Part:=⟨CH (mE T.h b.h) T'.h c'.h mm.h nn,CH (mE T.i b.i) T'.i c'.i mm.i ne⟩
section
variable {t:Types} {r:Rule} {h g:Host} {m m':Mat} {m0:Part}
theorem uZ {l:V2}(f:Int->Int){k:Int}(b:0<=k)(h:k<l.length):iA (l.map f) k=f (iA l k):=by
 have a:k.toNat<l.length:=aD;unfold iA;rw [aN,aA a];rfl
theorem BackI.cC (B:BackI t r h m g m0 m'):Und r.q.h r.s.h m.m.h m0.h (oR m0.h) m'.m.h r.left.j.h.length r.right.j.h.length h.j.h.length g.j.h.length where
 S:=B.K.S.ak
 n:=by rw [B.I.nn];exact B.K.S.cd
 to x h0 h1:=OB B.I.nl (by rw [B.I.nn];exact B.I.ni) B.I.nd h0 h1
 of x h0 h1:=HK B.I.nl (by rw [B.I.nn];exact B.I.ni) B.I.nd h0 h1
 m y h0 h1:=by rw [B.bn,uZ _ h0 (by rw [B.K.S.bc,eV];omega),B.K.S.bc]
 S':=by
  have hS:=B.T.ak;have e1:(dC t (aP t r h m)).left.j.h.length=r.right.j.h.length:=by show ((cT r h m).h.map _).length=_;rw [aR,B.K.S.bc,eV]
  have e2:(dC t (aP t r h m)).right.j.h.length=r.left.j.h.length:=by show (m.m.h.map _).length=_;rw [aR];exact B.K.S.hm.len
  rw [e1,e2] at hS;exact hS
theorem BackI.dp (B:BackI t r h m g m0 m'):Und r.q.i r.s.i m.m.i m0.i (oR m0.i) m'.m.i r.left.j.i.length r.right.j.i.length h.j.i.length g.j.i.length where
 S:=B.K.S.ba
 n:=by rw [B.I.en];exact B.K.S.b4
 to x h0 h1:=OB B.I.el (by rw [B.I.en];exact B.I.ei) B.I.ed h0 h1
 of x h0 h1:=HK B.I.el (by rw [B.I.en];exact B.I.ei) B.I.ed h0 h1
 m y h0 h1:=by rw [B.be,uZ _ h0 (by rw [B.K.S.ca,eV];omega),B.K.S.ca]
 S':=B.T.ba
theorem Back.cC (B:Back t r h m g m0 m'):Und r.q.h r.s.h m.m.h m0.h (oR m0.h) m'.m.h r.left.j.h.length r.right.j.h.length h.j.h.length g.j.h.length:=(BackI.mk B.K B.I B.bn B.be B.K'.S).cC
theorem Back.dp (B:Back t r h m g m0 m'):Und r.q.i r.s.i m.m.i m0.i (oR m0.i) m'.m.i r.left.j.i.length r.right.j.i.length h.j.i.length g.j.i.length:=(BackI.mk B.K B.I B.bn B.be B.K'.S).dp
theorem Back.bp (B:Back t r h m g m0 m'):(dC t (aP t r h m)).left.j.h.length=r.right.j.h.length/\(dC t (aP t r h m)).right.j.h.length=r.left.j.h.length :=
 ⟨by show ((cT r h m).h.map _).length=_;rw [aR,B.K.S.bc,eV],by show (m.m.h.map _).length=_;rw [aR];exact B.K.S.hm.len⟩
end
section
variable {t:Types} {r:Rule} {h:Host} {m:Mat}
theorem StepIn.dv (S:StepIn t r h m){f:Nat}(a:f<r.N.length):gN (bT t r h m).j ((bZ r h m).h.length+f:Nat)=gN r.right.j (iA r.N f) /\
  (bT t r h m).k[(bZ r h m).h.length+f]?.getD []=iP t (gN r.right.j (iA r.N f)):=by
 rw [iK a];constructor
 .unfold gN;rw [Int.toNat_natCast,S.bw,bG aE,aR,xG,aN,aA a];rfl
 .rw [Nr,bG aE,aR,xG,aN,aA a];rfl
theorem StepIn.fy (S:StepIn t r h m){f:Nat}(a:f<r.ad.length):eA (bT t r h m).j ((bZ r h m).i.length+f:Nat)=freshE (cT r h m) (eA r.right.j (iA r.ad f)):=by
 rw [iK a];unfold eA;rw [Int.toNat_natCast,S.cr,bG aE,aR,xG,aN,aA a];rfl
theorem HostOk.di (c:HostOk t h){v:Int}(f:0<=v)(e:v<h.j.h.length):(h.k[v.toNat]?.getD []).length=(bL t (gN h.j v)).length:=by
 have d:=c.vl;have a:v.toNat<h.j.h.length:=aD;have b:v.toNat<h.k.length:=aD;have:=(pJ (c.nd v.toNat a b)).2.2.1;rw [aA b,Option.getD_some,this];unfold gN;rw [aA a];rfl
end
section
variable {t:Types} {r:Rule} {h g:Host} {m m':Mat} {m0:Part}
theorem Back.val (B:Back t r h m g m0 m'){p:Nat}{v:Int}(hR:EN r.q.h r.s.h m.m.h m0.h m'.m.h r.left.j.h.length r.right.j.h.length h.j.h.length g.j.h.length p v)
  (hp:p<(bP t (dC t (aP t r h m)) g m').j.h.length):(bP t (dC t (aP t r h m)) g m').k[p]?.getD []=h.k[v.toNat]?.getD []:=by
 have U:=B.cC;have K:=B.K;have K':=B.K';obtain ⟨u,n⟩:=c7 (dC t (aP t r h m));have N:=(U.range hR).2;have hh:=K.S.ho;have ex:u.right.l=i9 t (aP t r h m) m.m.h.length:=by rw [n];rfl
 have eN:(dK r h m).h=_:=K.S.b2;have eT:(dK u g m').h=nP (fH r.s.h r.right.j.h.length) m'.m.h g.j.h.length:=by rw [n];exact K'.S.b2
 have eC:(cT u g m').h=uJ (fH r.s.h r.right.j.h.length) (dA (fH r.s.h r.right.j.h.length) r.s.h r.q.h) m'.m.h r.left.j.h.length g.j.h.length:=by
  have:=K'.S.bc;rw [B.bp.2] at this;rw [n];exact this
 have b4:m.m.h.length=r.left.j.h.length:=K.S.hm.len;rw [<- n] at K' hp ⊢;obtain ⟨r1,r2⟩:=K'.em;have a9:=K'.S.cA;have a1:p<(bT t u g m').k.length:=by rw [a9];exact hp
 have J:∀ {s:Slot} {i k:Nat},i<m.m.h.length->k<(n7 (aP t r h m) i).length->s=⟨i,k,⟨-1,(n7 (aP t r h m) i)[k]?.getD 0⟩⟩->mL (cT u g m') s=p->iA m.m.h i=v:=by
  intro s i k hi z o he;have H:EN r.q.h r.s.h m.m.h m0.h m'.m.h r.left.j.h.length r.right.j.h.length h.j.h.length g.j.h.length p (iA m.m.h i):=by
   refine .inr ⟨i,aD,?_,rfl⟩;rw [<- he,o,<- eC];rfl
  exact U.e1 H hR
 have some_:∀ {a x:Int},FA (cT u g m') m'.vars u.right.l p a=some x->x=(h.k[v.toNat]?.getD [])[a.toNat]?.getD 0:=by
  intro a x T;obtain ⟨s,o,e1,e2,e3⟩:=BS T;rw [ex] at o;obtain ⟨i,hi,k,z,O,rfl⟩:=pQ.1 o;have c:=J hi z rfl e1;rw [<- e3,<- e2];unfold dO;simp only;rw [if_pos aD];unfold n7;simp only [aP];rw [c];simp
 have none_:∀ {a:Nat} {j:Int},(0<=j/\j<r.left.j.h.length)->iA m.m.h j=v->a<(h.k[v.toNat]?.getD []).length->FA (cT u g m') m'.vars u.right.l p a=none->Lz t (aP t r h m) j.toNat a=(h.k[v.toNat]?.getD [])[a]?.getD 0:=by
  intro a j A c G P;refine aY λO=>?_;have e0:n7 (aP t r h m) j.toNat=h.k[v.toNat]?.getD []:=by
   unfold n7;simp only [aP];rw [show ((j.toNat:Nat):Int)=j by omega,c]
  have o:(⟨(j.toNat:Nat),a,⟨-1,(n7 (aP t r h m) j.toNat)[a]?.getD 0⟩⟩:Slot)∈u.right.l:=by
   rw [ex];exact pQ.2 ⟨j.toNat,aD,a,by rw [e0];exact G,by rw [e0];exact λe=>O e.symm,rfl⟩
  have z:mL (cT u g m') ⟨(j.toNat:Nat),a,⟨-1,(n7 (aP t r h m) j.toNat)[a]?.getD 0⟩⟩=p:=by
   have H:EN r.q.h r.s.h m.m.h m0.h m'.m.h r.left.j.h.length r.right.j.h.length h.j.h.length g.j.h.length (iA (cT u g m').h j) v:=.inr ⟨j,A,by rw [eC],c⟩;have:=U.inj H hR;rw [<- this];unfold mL iA;rw [Int.toNat_natCast]
  have:=T6 K'.hu o;rw [z] at this;simp only at this;rw [P] at this;cases this
 have L:∀ {w:V2},(bT t u g m').k[p]?.getD []=w->w.length=(h.k[v.toNat]?.getD []).length->(∀ a:Nat,a<(h.k[v.toNat]?.getD []).length->FA (cT u g m') m'.vars u.right.l p a=none->w[a]?.getD 0=(h.k[v.toNat]?.getD [])[a]?.getD 0) ->
   (bP t u g m').k[p]?.getD []=h.k[v.toNat]?.getD []:=by
  intro w W hl hN;have C:=r2 p;rw [W] at C;refine fD aD λa h1 H=>?_;have c:=K'.value a1 (a:=a) (by rw [W];omega);rw [W] at c;have e1:((bP t u g m').k[p]?.getD [])[a]=(FA (cT u g m') m'.vars u.right.l p a).getD (w[a]?.getD 0):=by
   rw [aA h1] at c;exact Option.some.inj c
  have e2:(h.k[v.toNat]?.getD [])[a]=(h.k[v.toNat]?.getD [])[a]?.getD 0:=by rw [aA H];rfl
  rw [e1,e2];cases Z:FA (cT u g m') m'.vars u.right.l p a with
  | none=>exact hN a H Z
  | some x=>exact some_ Z
 rcases U.cases hR with ⟨x,T,hT,c,b1⟩|⟨j,f,A,a4,hf,a7,b3,c⟩
 .have hxr:=(U.S'.au.1 T).1;have F:g.k[x.toNat]?.getD []=(bP t r h m).k[(iA m0.h x).toNat]?.getD []:=B.I.va x hxr.1 hxr.2;rw [<- b1] at F;obtain ⟨q,q1,q2,q3⟩:=U.S.a8 c;have d:=K.ep (i:=v.toNat) aD (by rw [eN,show ((v.toNat:Nat):Int)=v by omega,q1];omega);rw [eN,show ((v.toNat:Nat):Int)=v by omega] at d;have a8:(bT t u g m').k[p]?.getD []=g.k[x.toNat]?.getD []:=by
   obtain ⟨q',b2,M,V⟩:=U.S'.a8 T;have a0:p=q':=aD;have l:(bZ u g m').h=mC (fH r.s.h r.right.j.h.length) m'.m.h g.j.h.length:=by rw [n];exact B.K'.S.bb
   rw [Nr,aS (by rw [aR,l];omega),aN,l,a0,aA M,d7,Option.getD_some,<- iK M,V]
  refine L a8 ?_ λa G P=>?_
  .rw [F,d.v2]
  .rw [F];by_cases R:∃ j:Int,(0<=j/\j<r.left.j.h.length)/\iA m.m.h j=v
   .obtain ⟨j,A,E⟩:=R;have z:j∈r.q.h:=aY λz=>(U.S.au.1 c).2 j A.1 A.2 z E;have:=none_ A E G P;unfold Lz at this;rw [if_pos (by simp only [aP];rw [show ((j.toNat:Nat):Int)=j by omega];exact (mem_iff _ _).2 z)] at this;simp only [aP] at this;rw [show ((j.toNat:Nat):Int)=j by omega,E,eN] at this;exact this
   .refine d.v3 a (by rw [<- Option.getD_some (a:=h.k[v.toNat]?.getD []) (b:=[])];exact G) λs o ⟨D,_⟩=>R ?_;have X:=K.S.hR.l s o;have a3:mL (cT r h m) s=iA (uJ r.q.h r.s.h m.m.h r.right.j.h.length h.j.h.length) s.node:=by rw [<- K.S.bc];rfl
    rw [a3] at D;have a5:s.node∈r.s.h:=by
     refine aY λa2=>?_;obtain ⟨f,_,_,hf⟩:=U.S.aj X.1 a2;omega
    obtain ⟨q,Z,Y⟩:=mZ a5;have b5:=U.S.kl;rw [<- Y,U.S.bd aD] at D;have Q:iA r.q.h q∈r.q.h:=eB aD aD;exact ⟨_,U.S.kr _ Q,U.S.cn (U.S.ap Q) c D⟩
 .have hfr:u.N=bH (dA (fH r.s.h r.right.j.h.length) r.s.h r.q.h) r.left.j.h.length:=by
   unfold Rule.N;rw [n,B.bp.2];rfl
  have l:(bZ u g m').h=mC (fH r.s.h r.right.j.h.length) m'.m.h g.j.h.length:=by rw [n];exact B.K'.S.bb
  have y:=(K'.S.dv (f:=f) (by rw [hfr];exact hf)).2;have a6:gN u.right.j j=gN h.j v:=by
   have e:u.right.j=lD r.left.j h.j m.m:=by rw [n];rfl
   rw [e];have:gN (lD r.left.j h.j m.m) j=iA (m.m.h.map (gN h.j)) j:=rfl;rw [this,uZ _ A.1 aD,c]
  rw [hfr,a7,a6,l,show (mC (fH r.s.h r.right.j.h.length) m'.m.h g.j.h.length).length+f=p by omega] at y;have C:=hh.di N.1 N.2;refine L y (by unfold iP;rw [aR,C]) λa G P=>?_;have:=none_ A c G P;rw [<- this];unfold Lz;rw [if_neg (by simp only [aP];rw [show ((j.toNat:Nat):Int)=j by omega];exact λhm=>a4 ((mem_iff _ _).1 hm))];simp only [aP];rw [show ((j.toNat:Nat):Int)=j by omega,c];have b0:a<(bL t (gN h.j v)).length:=aD;unfold iP;rw [aN,aA b0];rfl
theorem Back.g3 (B:Back t r h m g m0 m'):HIso (bP t (dC t (aP t r h m)) g m') h
  (af5 (dK r h m) (dK (dC t (aP t r h m)) g m') (cT (dC t (aP t r h m)) g m') m.m ⟨oR m0.h,oR m0.i⟩ (bP t (dC t (aP t r h m)) g m').j.h.length (bP t (dC t (aP t r h m)) g m').j.i.length):=by
 have U:=B.cC;have V:=B.dp;have K:=B.K;have K':=B.K';have F:=B.bp;have hn:(bP t (dC t (aP t r h m)) g m').j.h.length=(mC (fH r.s.h r.right.j.h.length) m'.m.h g.j.h.length).length+(bH (dA (fH r.s.h r.right.j.h.length) r.s.h r.q.h) r.left.j.h.length).length:=by
  have:=K'.S.cd;rw [F.2] at this;exact this
 have he:(bP t (dC t (aP t r h m)) g m').j.i.length=(mC (fH r.s.i r.right.j.i.length) m'.m.i g.j.i.length).length+(bH (dA (fH r.s.i r.right.j.i.length) r.s.i r.q.i) r.left.j.i.length).length:=K'.S.b4;have eT:(dK (dC t (aP t r h m)) g m').h=nP (fH r.s.h r.right.j.h.length) m'.m.h g.j.h.length:=K'.S.b2;have Y:(dK (dC t (aP t r h m)) g m').i=nP (fH r.s.i r.right.j.i.length) m'.m.i g.j.i.length:=K'.S.da;have eC:(cT (dC t (aP t r h m)) g m').h=uJ (fH r.s.h r.right.j.h.length) (dA (fH r.s.h r.right.j.h.length) r.s.h r.q.h) m'.m.h r.left.j.h.length g.j.h.length:=by
  have:=K'.S.bc;rw [F.2] at this;exact this
 have b4:(cT (dC t (aP t r h m)) g m').i=uJ (fH r.s.i r.right.j.i.length) (dA (fH r.s.i r.right.j.i.length) r.s.i r.q.i) m'.m.i r.left.j.i.length g.j.i.length:=K'.S.ca;have e:=U.e3 hn;have L:=V.e3 he;have P:=λ {p:Nat} {v:Int} hR hp=>B.val (p:=p) (v:=v) hR hp;have b5:m.m.h.length=r.left.j.h.length:=K.S.hm.len;have a9:=(wS K.S.hc).1;have a7:∀ {k:Int},k∈(bZ r h m).i->(eA h.j k).w∈(bZ r h m).h/\(eA h.j k).M∈(bZ r h m).h:=λhk=>qJ K.S.sub hk;have a8:∀ {k:Int},k∈(bZ (dC t (aP t r h m)) g m').i->(eA g.j k).w∈(bZ (dC t (aP t r h m)) g m').h/\(eA g.j k).M∈(bZ (dC t (aP t r h m)) g m').h:=λhk=>qJ K'.S.sub hk;have Q:(bZ (dC t (aP t r h m)) g m').h=mC (fH r.s.h r.right.j.h.length) m'.m.h g.j.h.length:=K'.S.bb;have n:(bZ (dC t (aP t r h m)) g m').i=mC (fH r.s.i r.right.j.i.length) m'.m.i g.j.i.length:=K'.S.bu;have o:=λ {i:Nat} a b=>K'.ep (i:=i) a b;have c:=λ {i:Nat} a b=>K'.ft (i:=i) a b;have C:=λ {f:Nat} a=>(K'.S.dv (f:=f) a).1;have D:=λ {f:Nat} a=>K'.S.fy (f:=f) a;have s:(dC t (aP t r h m)).N=bH (dA (fH r.s.h r.right.j.h.length) r.s.h r.q.h) r.left.j.h.length:=by unfold Rule.N;rw [F.2];rfl
 have w:(dC t (aP t r h m)).ad=bH (dA (fH r.s.i r.right.j.i.length) r.s.i r.q.i) r.left.j.i.length:=rfl;have R:(dC t (aP t r h m)).right.j=lD r.left.j h.j m.m:=rfl;have H:(bP t (dC t (aP t r h m)) g m').j=(bT t (dC t (aP t r h m)) g m').j:=rfl;have a6:(bP t (dC t (aP t r h m)) g m').k.length=(bP t (dC t (aP t r h m)) g m').j.h.length:=by rw [K'.em.1,K'.S.cA,H]
 unfold af5;rw [K.S.b2,K.S.da,eT,Y,eC,b4];simp only;rw [eT] at o;rw [eT,Y] at c;generalize dC t (aP t r h m)=u at *;obtain ⟨nn,A⟩:=c7 ((bP t u g m').j.h.length);obtain ⟨ne,E⟩:=c7 ((bP t u g m').j.i.length);rw [<- A] at e hn ⊢;rw [<- E] at L he ⊢;have T:=DT (mE (nP r.q.h m.m.h h.j.h.length) (oR m0.h)) (nP (fH r.s.h r.right.j.h.length) m'.m.h g.j.h.length) (uJ (fH r.s.h r.right.j.h.length) (dA (fH r.s.h r.right.j.h.length) r.s.h r.q.h) m'.m.h r.left.j.h.length g.j.h.length) m.m.h nn;have W:=DT (mE (nP r.q.i m.m.i h.j.i.length) (oR m0.i)) (nP (fH r.s.i r.right.j.i.length) m'.m.i g.j.i.length) (uJ (fH r.s.i r.right.j.i.length) (dA (fH r.s.i r.right.j.i.length) r.s.i r.q.i) m'.m.i r.left.j.i.length g.j.i.length) m.m.i ne;generalize CH (mE (nP r.q.h m.m.h h.j.h.length) (oR m0.h)) (nP (fH r.s.h r.right.j.h.length) m'.m.h g.j.h.length) (uJ (fH r.s.h r.right.j.h.length) (dA (fH r.s.h r.right.j.h.length) r.s.h r.q.h) m'.m.h r.left.j.h.length g.j.h.length) m.m.h nn=sn at *;generalize CH (mE (nP r.q.i m.m.i h.j.i.length) (oR m0.i)) (nP (fH r.s.i r.right.j.i.length) m'.m.i g.j.i.length) (uJ (fH r.s.i r.right.j.i.length) (dA (fH r.s.i r.right.j.i.length) r.s.i r.q.i) m'.m.i r.left.j.i.length g.j.i.length) m.m.i ne=se at *;obtain ⟨a1,a2,a3⟩:=U.er hn T e;obtain ⟨b1,b2,b3⟩:=V.er he W L;have at_:∀ {p v:Int},EN r.q.h r.s.h m.m.h m0.h m'.m.h r.left.j.h.length r.right.j.h.length h.j.h.length g.j.h.length p v->iA sn p=v:=λ {p v} hR=>by
  have hr:=(U.range hR).1;have:=e p.toNat aD;rw [show ((p.toNat:Nat):Int)=p by omega] at this;exact U.e1 this hR
 refine ⟨by rw [T,A],by rw [W,E],by rw [<- A];exact a3,by rw [<- E];exact b3,a6,K.S.ho.vl,a1,b1,a2,b2,λp h0 hp=>?_,λp h0 hp=>?_,λp h0 hp=>?_⟩
 .have hR:=e p.toNat aD;rw [show ((p.toNat:Nat):Int)=p by omega] at hR;rcases U.cases hR with ⟨x,N,hT,l,J⟩|⟨j,f,O,b0,hf,G,z,l⟩
  .have hxr:=(U.S'.au.1 N).1;have a5:=(U.S.au.1 l).1;obtain ⟨q,q1,q2,q3⟩:=U.S.a8 l;obtain ⟨q',y,a4,a0⟩:=U.S'.a8 N;have M:=(K.ep (i:=(iA sn p).toNat) aD (by rw [K.S.b2,show (((iA sn p).toNat:Nat):Int)=iA sn p by omega,q1];omega)).n2;rw [K.S.b2,show (((iA sn p).toNat:Nat):Int)=iA sn p by omega,J] at M;have Z:=(o (i:=x.toNat) aD (by rw [show ((x.toNat:Nat):Int)=x by omega,y];omega)).n2;rw [show ((x.toNat:Nat):Int)=x by omega,hT] at Z;have e3:=B.I.ty x hxr.1 hxr.2;unfold gN at e3 ⊢;rw [Z,e3,M]
  .have:=C (f:=f) (by rw [s];exact hf);rw [Q,s,G,R,<- z,<- H] at this;rw [this,<- l];exact uZ _ O.1 aD
 .have hR:=L p.toNat aD;rw [show ((p.toNat:Nat):Int)=p by omega] at hR;rcases V.cases hR with ⟨x,N,hT,l,J⟩|⟨j,f,O,b0,hf,G,z,l⟩
  .have hxr:=(V.S'.au.1 N).1;have a5:=(V.S.au.1 l).1;obtain ⟨q,q1,q2,q3⟩:=V.S.a8 l;obtain ⟨q',y,a4,a0⟩:=V.S'.a8 N;have M:=(K.ft (i:=(iA se p).toNat) aD (by rw [K.S.da,show (((iA se p).toNat:Nat):Int)=iA se p by omega,q1];omega)).2;rw [K.S.da,K.S.b2,show (((iA se p).toNat:Nat):Int)=iA se p by omega,J] at M;have Z:=(c (i:=x.toNat) aD (by rw [show ((x.toNat:Nat):Int)=x by omega,y];omega)).2;rw [show ((x.toNat:Nat):Int)=x by omega,hT] at Z;have e3:=B.I.eg x hxr.1 hxr.2;rw [e3] at M;rw [Z];simp only [Edge.mk.injEq] at M;obtain ⟨c1,c2,c3⟩:=M;have s1:=a7 (k:=iA se p) (by rw [K.S.bu];exact l);have s2:=a8 (k:=x) (by rw [n];exact N);rw [K.S.bb] at s1;rw [Q] at s2;have d1:=at_ (.inl ⟨_,s2.1,rfl,s1.1,c2.symm⟩);have d2:=at_ (.inl ⟨_,s2.2,rfl,s1.2,c3.symm⟩);simp only;rw [c1,d1,d2]
  .have hw:=D (f:=f) (by rw [w];exact hf);rw [n,w,G,R,<- z,<- H] at hw;rw [hw,<- l];have d:=rU a9 (k:=j) O.1 O.2;have X:=wN K.S.hR.pl.gg (k:=j) O.1 O.2;have e0:eA (lD r.left.j h.j m.m) j=eA r.left.j j:=rfl;rw [e0] at d ⊢;unfold freshE;simp only;have d1:=at_ (p:=iA (cT u g m').h (eA r.left.j j).w) (.inr ⟨_,X.1,by rw [eC],rfl⟩);have d2:=at_ (p:=iA (cT u g m').h (eA r.left.j j).M) (.inr ⟨_,X.2.1,by rw [eC],rfl⟩);unfold iA at d1 d2 d ⊢;rw [d1,d2,d.2.1,d.2.2.1,d.2.2.2]
 .have hR:=e p.toNat aD;have:=P hR aD;rw [show ((p.toNat:Nat):Int)=p by omega] at this;exact this
end
theorem BD (l:V2)(n:Nat):(fH l n).length<=n:=by
 unfold fH;rw [aR];exact dZ (jM _ _) aE
theorem Cd (t:Types)(a:t.ok):Pua 36 [t.d] (dI (dG t).2):=by
 refine Tz.p0 func36 rfl λQ b Y=>?_;refine wv (h:=aB (nZ t a) wl ?_);exact wv (h:=b _ _ wy)
theorem Ce (p g:Graph)(a:V2)(I:a.length<=100000)(J:p.i.length<=100000)(E:∀ x∈a,0<=x/\x<g.h.length):Pua 207 [p.d,g.d,dLI a] (Graph.d ⟨a.map (gN g),p.i⟩):=by
 obtain ⟨b,j⟩:=c7 (a.map (gN g));have C:b.length=a.length:=by rw [j];simp
 rw [<- j];refine Tz.pK ⟨λt=>t==6||t==7||t==1000001,λr=>match r with|5=>[(0,7),(1,7)]|_=>[]⟩ func207 rfl (λQ F=>?_);have Y:=trivial;refine wv (h:=?_);refine Kv (zP p.i aD) eq eq (Yj _) ?_;refine wp (h:=l9 (Ghosts.step (Ghosts.refl _) 1 0 0 3 1 _ _ (rfl) rfl rfl rfl) (λi e H=>(e 4=.adr g.c/\e 6=.ptr 0 1 0 0/\e 7=.ptr 1 1 0 0/\e 14=dLI a/\e 15=dI a.length/\e 16=dI i)/\(H.get 0=some ⟨29,2,[[.nil,.nil]],false⟩)/\(0<H.next)/\(H.get 1=some ⟨29,2,[[.own 2 i,.list (p.i.map Edge.c)]],false⟩)/\(1<H.next)/\(H.get 2=some ⟨3,1,(b.take i).map cI,false⟩)/\(2<H.next)/\(i<=a.length)) (λi=>a.length - i) 0 ⟨wg,wn,wn,wn,wn,(by rfl),wn,wi⟩ λK A i e H w=>?_);obtain ⟨G,o,m,n,l,f,k,D⟩:=w;have Y:=xa6 Y G o (bS m) n (bS l) f (bS k);refine dR (λq=>?_) λq=>?_
 .have hx:=E _ (aC q);have B:a[i].toNat<g.h.length:=aD;have u:i<b.length:=aD;have s:b[i]=g.h[a[i].toNat]:=by simp [j,gN,aA B]
  have z:b.take (i+1)=b.take i++[g.h[a[i].toNat]]:=by rw [List.take_succ_eq_append_getElem u,s]
  have y:(b.take i).length=i:=by simp;omega
  have Y:=xa3 Y q (aA q) (aA B) y;exact wp (h:=wx A (i+1) ⟨wg,wn,wn,wn,wn,(by simp [go_sem,Y,z,cI]),wn,wj⟩)
 .rw [aG aD] at f;have v:i=b.length:=aD;exact wv (h:=F _ _ (by simp [go_sem,Y,v,dLI]))
theorem xP (l:V2)(b:l.length<=1000000):Pua 209 [dLI l] (.bool (decide l.Nodup)):=by
 have a:=kM l;have c:=A7 l;have d:=C7 (i7 l);unfold imagesN at c;refine Tz.p0 func209 rfl λQ e Y=>?_;refine wv (h:=kU (gL l b) wl ?_);refine wv (h:=?_);unfold fT;refine AC (ty:=3) (xs:=l) eq b ?_;refine wo (h:=?_);unfold fT;refine ACalls.frz ?_;simp [go_sem,a];refine GV (gL (i7 l) aD) eq ?_;refine wo (h:=?_);unfold fT;rw [show l.length=(i7 l).length from a.symm];refine Bi (ty:=3) (xs:=i7 l) eq aD λk=>?_;exact wo (h:=e _ _ (by simp [go_sem];rw [aU,beq_iff_eq,decide_eq_true_eq,<- c,a];omega))
theorem Il {l:V2}{n:Nat}(d:l.Nodup)(c:∀ x∈l,0<=x/\x<n):i7 l=fH l n:=by
 have b:(i7 l).Perm l:=vM l _;have k:(i7 l).Nodup:=b.nodup_iff.2 d;refine EG ?_ (qZ _ _) λx=>?_
 .rw [dF];intro i j f e a;have o:=dF.1 (xL l) i j f e a;have m:(i7 l)[i]≠(i7 l)[j]:=λg=>by have:=(i6 k).1 g;omega
  omega
 .rw [fF,b.mem_iff];exact ⟨λh=>⟨c x h,h⟩,λh=>h.2⟩
theorem Cf (keep a:V2)(n:Nat)(C:a.Nodup)(B:∀ x∈a,0<=x/\x<n)(I:a.length=keep.length)(w:a.length<=1000000):Pua 210 [dLI keep,dLI a] (.tup [dLI (fH a n),dLI (dA (fH a n) a keep)]):=by
 have m:=kM a;have u:=Il C B;obtain ⟨b,j⟩:=c7 (fH a n);rw [<- j] at u;have p:∀ x∈b,x∈a:=λx A=>(fF.1 (j ▸ A)).2;have k:b.length=a.length:=by rw [<- u];exact m
 rw [<- j];refine Tz.pK ⟨λt=>t==6||t==7,λ_=>[]⟩ func210 rfl (λQ E=>?_);have Y:=trivial;refine wv (h:=kU (gL a w) wl ?_);refine wv (h:=?_);unfold fT;refine AC (ty:=3) (xs:=a) eq w ?_;rw [u];refine wp (h:=bA (λi e H=>(e 0=dLI keep/\e 1=dLI a/\e 6=.own 0 a.length/\e 14=.own 0 a.length/\e 15=dI a.length/\e 7=.own 1 i/\e 16=dI i)/\(H.get 0=some ⟨3,1,b.map cI,false⟩)/\(0<H.next)/\(H.get 1=some ⟨3,1,(dA (b.take i) a keep).map cI,false⟩)/\(1<H.next)/\(i<=b.length)) (λi=>b.length - i) 0 ⟨wg,wn,wn,(by simp [go_sem,dA]),wn,wi⟩ λJ v i e H r=>?_);obtain ⟨z,g,f,c,d,D⟩:=r;have Y:=xa4 Y z g (bS f) c (bS d);refine dR (λy=>?_) λy=>?_
 .have hiy:i<b.length:=aD;obtain ⟨G,F,_⟩:=CP ((mem_iff _ _).2 (p _ (aC hiy)));have o:(idx a b[i]).toNat<keep.length:=aD;have s:dA (b.take (i+1)) a keep=dA (b.take i) a keep++[keep[(idx a b[i]).toNat]]:=by unfold dA;rw [List.take_succ_eq_append_getElem hiy,List.map_append];simp [iA,aA o]
  have l:(dA (b.take i) a keep).length=i:=by simp [dA];omega
  have Y:=xa4 Y y (aA hiy) (aA o) l k;refine wp (h:=aB (uE a b[i]) wl ?_);exact wp (h:=wx v (i+1) ⟨wg,wn,wn,(by simp [go_sem,Y,s,cI]),wn,wj⟩)
 .rw [aG aD] at c;have q:i=b.length:=aD;have l:(dA b a keep).length=b.length:=by simp [dA]
  have Y:=xa4 z g (bS f) c (bS d) k;exact wv (h:=E _ _ (by simp [go_sem,Y,q,l,k,dLI]))
theorem Fc (g:Graph)(K:g.h.length<=100000)(N:g.i.length<=100000):Pua 60 [g.d] (Part.d ⟨f6 g.h.length,f6 g.i.length⟩):=by
 refine Tz.pK ⟨λt=>t==2||t==3||t==1000001,λ_=>[]⟩ func60 rfl (λQ G=>?_);have Y:=trivial;refine wp (h:=l9 (Ghosts.step (Ghosts.step (Ghosts.refl _) 1 0 0 3 1 _ _ (rfl) rfl rfl rfl) 1 0 1 3 1 _ _ (rfl) rfl rfl rfl) (λi e H=>(e 1=.adr g.c/\e 2=.ptr 0 1 0 0/\e 3=.ptr 1 1 0 0/\e 8=dI g.h.length/\e 9=dI i)/\(H.get 0=some ⟨36,2,[[.nil,.nil]],false⟩)/\(0<H.next)/\(H.get 1=some ⟨36,2,[[.own 2 i,.own 3 0]],false⟩)/\(1<H.next)/\(H.get 2=some ⟨3,1,(f6 i).map cI,false⟩)/\(2<H.next)/\(H.get 3=some ⟨3,1,(f6 0).map cI,false⟩)/\(3<H.next)/\(i<=g.h.length)) (λi=>g.h.length - i) 0 ⟨wg,wn,wn,wn,wn,(by rfl),wn,(by rfl),wn,wi⟩ λP D i e H B=>?_);obtain ⟨J,z,r,x,p,v,n,f,l,M⟩:=B;have Y:=xa8 Y J z (bS r) x (bS p) v (bS n) f (bS l);refine dR (λF=>?_) λF=>?_
 .have b:(f6 i).length=i:=by simp [f6]
  have Y:=xa1 Y F b;exact wp (h:=wx D (i+1) ⟨wg,wn,wn,wn,wn,(by simp [go_sem,Y,xZ,b]),wn,cl,wn,wj⟩)
 .have hI:i=g.h.length:=aD;subst hI;have b:(f6 g.h.length).length=g.h.length:=by simp [f6]
  have Y:=wa Y b;refine wp (h:=bA (λk e H=>(e 1=.adr g.c/\e 2=.ptr 0 1 0 0/\e 3=.ptr 1 1 0 0/\e 8=dI g.h.length/\e 21=dI g.i.length/\e 22=dI k)/\(H.get 0=some ⟨36,2,[[.nil,.nil]],false⟩)/\(0<H.next)/\(H.get 1=some ⟨36,2,[[.own 2 g.h.length,.own 3 k]],false⟩)/\(1<H.next)/\(H.get 2=some ⟨3,1,(f6 g.h.length).map cI,false⟩)/\(2<H.next)/\(H.get 3=some ⟨3,1,(f6 k).map cI,false⟩)/\(3<H.next)/\(k<=g.i.length)) (λk=>g.i.length - k) 0 ⟨wg,wn,wn,wn,wn,wn,wn,(by exact f),wn,wi⟩ λO C k e H A=>?_);obtain ⟨I,y,q,w,o,u,m,s,j,L⟩:=A;have Y:=xa8 Y I y (bS q) w (bS o) u (bS m) s (bS j);refine dR (λE=>?_) λE=>?_
  .have a:(f6 k).length=k:=by simp [f6]
   have Y:=xa1 Y E a;exact wp (h:=wx C (k+1) ⟨wg,wn,wn,wn,wn,wn,wn,(by simp [go_sem,Y,xZ,a]),wn,wj⟩)
  .have hK:k=g.i.length:=aD;subst hK;have a:(f6 g.i.length).length=g.i.length:=by simp [f6]
   have Y:=wa Y a;exact wv (h:=G _ _ (by simp [go_sem,Y,dLI,Part.d,Part.c]))
structure SlotsOk (t:Types) (s:Stp26):Prop where
 n:s.U.m.h.length<=1000
 a:∀ i:Nat,i<s.U.m.h.length->(0<=iA s.U.m.h i/\iA s.U.m.h i<s.C.k.length/\iA s.U.m.h i<s.C.j.h.length)/\(n7 s i).length=(bL t (gN s.C.j (iA s.U.m.h i))).length/\(n7 s i).length<=8
 b:∀ i:Nat,i<s.U.m.h.length->mem s.x.q.h i=true->iA s.U.m.h i<s.V.h.length/\0<=iA s.V.h (iA s.U.m.h i)/\iA s.V.h (iA s.U.m.h i)<s.after.k.length/\(n7 s i).length<=(s.after.k[(iA s.V.h (iA s.U.m.h i)).toNat]?.getD []).length
theorem sM (t:Types)(s:Stp26)(i n:Nat):s8 t s i (n+1)=s8 t s i n++mG t s i n:=by simp [s8,bR]
theorem F7 (t:Types)(s:Stp26)(n:Nat):i9 t s (n+1)=i9 t s n++s8 t s n (n7 s n).length:=by simp [i9,bR]
theorem Io (t:Types)(s:Stp26)(i:Nat):∀ n,(s8 t s i n).length<=n
 | 0=>by simp [s8]
 | n+1=>by
  have:=Io t s i n;rw [sM,aI];have:(mG t s i n).length<=1:=by unfold mG;split<;>simp
  omega
theorem In {t:Types}{s:Stp26}(h:SlotsOk t s):∀ n,n<=s.U.m.h.length->(i9 t s n).length<=8 * n
 | 0,_=>by simp [i9]
 | n+1,hn=>by
  have h1:=In h n aD;have h2:=Io t s n (n7 s n).length;have h3:=(h.a n aD).2.2;rw [F7,aI];omega
theorem Li (t:Types)(ht:t.ok)(s:Stp26)(J:SlotsOk t s):Pua 208 [t.d,.agg s.c] (.list ((i9 t s s.U.m.h.length).map Slot.c)):=by
 have hn:=J.n;refine Tz.pK ⟨λt=>t==5||t==11,λ_=>[]⟩ func208 rfl (λQ hQ=>?_);have Y:=xa2 @Stp26.c.eq_1 @Rule.c.eq_1 @Mat.c.eq_1 @Host.c.eq_1;refine wp (h:=bA (λi e H=>∃ u:List Slot,(e 2=.adr t.c/\e 3=.adr s.c/\e 17=dLI s.U.m.h/\e 18=dI s.U.m.h.length/\e 5=.own 0 u.length/\e 19=dI i)/\(H.get 0=some ⟨102,4,u.map Slot.c,false⟩)/\(0<H.next)/\(i<=s.U.m.h.length)/\(u.length<=8 * i)/\(u=i9 t s i)) (λi=>s.U.m.h.length - i) 0 ⟨([]),wg,wn,wn,wi,aE,(by rfl)⟩ λI0 W i e H P=>?_);obtain ⟨u,E0,I,A,hi,hl,X⟩:=P;have Y:=xa2 Y E0 I (bS A);refine dR (λy=>?_) λy=>?_
 .obtain ⟨⟨a1,a2,a3⟩,a4,a5⟩:=J.a i y;have Z:=J.b i y;obtain ⟨q,hq⟩:=c7 ((iA s.U.m.h i).toNat);have w:iA s.U.m.h i=(q:Int):=aD;have N:s.U.m.h[i]=(q:Int):=by rw [<- w,iK y]
  have C:q<s.C.k.length:=aD;have E:q<s.C.j.h.length:=aD;obtain ⟨K,V⟩:=c7 (gN s.C.j (iA s.U.m.h i));have U:s.C.j.h[q]=K:=by rw [V,w];unfold gN;rw [Int.toNat_natCast,aA E];rfl
  obtain ⟨o,v⟩:=c7 (n7 s i);have M:s.C.k[q]=o:=by rw [v];unfold n7;rw [<- hq,aA C];rfl
  rw [<- V,<- v] at a4;rw [<- v] at a5 Z;have Y:=xa7 Y y (aA y) N (aA C) (aA E) U M @cL.eq_1;refine wp (h:=aH (n3 t ht K) wl ?_);refine wp (h:=bA (λk e H=>∃ j:List Slot,(e 2=.adr t.c/\e 3=.adr s.c/\e 17=dLI s.U.m.h/\e 18=dI s.U.m.h.length/\e 5=.own 0 j.length/\e 19=dI i/\e 6=dI i/\e 7=dI q/\e 8=.list ((bL t K).map Attr.c)/\e 36=.list ((bL t K).map Attr.c)/\e 37=dI o.length/\e 38=dI k)/\(H.get 0=some ⟨102,4,j.map Slot.c,false⟩)/\(0<H.next)/\(k<=o.length)/\(j.length<=8 * i+k)/\(j=u++s8 t s i k)) (λk=>o.length - k) 0 ⟨u,wg,wn,wn,wi,aD,(by simp [s8])⟩ λI2 p k e H O=>?_);obtain ⟨j,E2,G,z,hk,a0,B⟩:=O;have Y:=xa2 Y E2 G (bS z);refine dR (λL=>?_) λL=>?_
  .have hka:k<(bL t K).length:=aD;have l:o[k]?.getD 0=o[k]:=by rw [aA L];rfl
   have Y:=xa3 Y L (aA L) (aA hka) @Attr.c.eq_1;refine wp (h:=aB (gF s.x.q.h i) wl ?_);refine iY (λr=>?_) λr=>?_
   .obtain ⟨b1,b2,b3,b4⟩:=Z (bY r);obtain ⟨T,hT⟩:=c7 ((iA s.V.h (iA s.U.m.h i)).toNat);have D:q<s.V.h.length:=aD;have S:iA s.V.h (iA s.U.m.h i)=(T:Int):=aD;have R:s.V.h[q]=(T:Int):=by rw [<- S,w,iK D]
    have x:T<s.after.k.length:=aD;rw [<- hT,aA x] at b4;have F:k<s.after.k[T].length:=by simp only [Option.getD_some] at b4;omega
    have f:Lz t s i k=s.after.k[T][k]:=by unfold Lz;rw [if_pos (bY r),<- hT,aA x,Option.getD_some,aA F];rfl
    have Y:=xa3 Y (aA D) R (aA x) (aA F);refine iY (λg=>?_) λg=>?_
    .have hsl:mG t s i k=[⟨i,k,⟨-1,o[k]⟩⟩]:=by unfold mG;rw [<- v,l,f,if_pos (bY g)]
     have Y:=xa2 Y hsl @Slot.c.eq_1 @Term.c.eq_1;exact wp (h:=wx p (k+1) ⟨(j++mG t s i k),wg,wn,wn,wj,(by rw [aI];have:(mG t s i k).length<=1:=(by unfold mG;split<;>simp);omega),(by rw [B,sM,List.append_assoc])⟩)
    .have hsl:mG t s i k=[]:=by unfold mG;rw [<- v,l,f,if_neg (bY g)]
     have Y:=wa Y hsl;exact wp (h:=wx p (k+1) ⟨(j++mG t s i k),wg,wn,wn,wj,(by rw [aI];have:(mG t s i k).length<=1:=(by unfold mG;split<;>simp);omega),(by rw [B,sM,List.append_assoc])⟩)
   .have f:Lz t s i k=(bL t K)[k].ao:=by unfold Lz;rw [if_neg (bY r),<- V,aA hka];rfl
    refine dR (λg=>?_) λg=>?_
    .have hsl:mG t s i k=[⟨i,k,⟨-1,o[k]⟩⟩]:=by unfold mG;rw [<- v,l,f,if_pos (bY g)]
     have Y:=xa2 Y hsl @Slot.c.eq_1 @Term.c.eq_1;exact wp (h:=wx p (k+1) ⟨(j++mG t s i k),wg,wn,wn,wj,(by rw [aI];have:(mG t s i k).length<=1:=(by unfold mG;split<;>simp);omega),(by rw [B,sM,List.append_assoc])⟩)
    .have hsl:mG t s i k=[]:=by unfold mG;rw [<- v,l,f,if_neg (bY g)]
     have Y:=wa Y hsl;exact wp (h:=wx p (k+1) ⟨(j++mG t s i k),wg,wn,wn,wj,(by rw [aI];have:(mG t s i k).length<=1:=(by unfold mG;split<;>simp);omega),(by rw [B,sM,List.append_assoc])⟩)
  .have hyx:j=i9 t s (i+1):=by rw [B,F7,<- X,<- v,(aD:k=o.length)]
   exact wp (h:=wx W (i+1) ⟨j,wg,wn,wn,wj,(by rw [hyx];have:=In J (i+1) y;omega),(by rw [hyx])⟩)
 .have hX:u=i9 t s s.U.m.h.length:=by rw [X,(aD:i=s.U.m.h.length)]
  exact wv (h:=hQ _ _ (iv hX))
end Go.Abs
end
