/- Layer 32, plain law of Compose: the comatch and the match of -/
import Derived.Test.YthlnbehgghjppaaGreatZrAX
import Derived.Test.YthlnbehgghjppaaGreatZrAN
import Derived.Test.YthlnbehgghjppaaGreatZrBA
import Derived.Test.YthlnbehgghjppaaGreatZrAG
set_option linter.unusedVariables false
set_option linter.unusedSimpArgs false
section
set_option maxRecDepth 100000
set_option maxHeartbeats 4000000
open Go Go.Proofs Tryz
namespace Go.Abs
structure Srt (keep into mm:Xa0) (nL nR nH:Nat):Prop where
 kl:keep.length=into.length
 kr:∀ x∈keep,0<=x/\x<nL
 ir:∀ x∈into,0<=x/\x<nR
 eo:into.Nodup
 ml:mm.length=nL
 mr:∀ x∈mm,0<=x/\x<nH
 du:sL mm keep=[]
def Ee (keep mm:Xa0)(nH:Nat):Xa0:=aN (iJ mm keep) nH
def GG (keep mm:Xa0)(nH:Nat):Xa0:=rF (Ee keep mm nH) nH
def PL (keep into mm:Xa0)(nR nH:Nat):Xa0:=B5 keep into (p9 mm (GG keep mm nH)) nR (Ee keep mm nH).length
theorem U6 {l:Xa0}{k:Int}(h:k.toNat<l.length):iA l k=l[k.toNat]:=by unfold iA;rw [aA h];rfl
section
variable {keep into mm:Xa0} {nL nR nH:Nat}
theorem Srt.cT (S:Srt keep into mm nL nR nH){x:Int}:x∈Ee keep mm nH↔(0<=x/\x<nH)/\∀ k:Int,0<=k->k<nL->k∉keep->iA mm k≠x:=by
 have e:=S.ml;unfold Ee;rw [dC];refine and_congr_right λ_=>⟨λh k j g b c=>h (pS.2 ⟨k.toNat,bZ,?_,?_⟩),λh d=>?_⟩
 .rw [show ((k.toNat:Nat):Int)=k by omega,aW];exact λa=>b ((mem_iff _ _).1 a)
 .rw [<- c,aA (bZ:k.toNat<mm.length)];unfold iA;rw [aA (bZ:k.toNat<mm.length)];rfl
 .obtain ⟨i,f,a,c⟩:=pS.1 d;refine h i bZ bZ (λb=>?_) (by unfold iA;rw [show ((i:Int)).toNat=i by omega,c];rfl);rw [(mem_iff _ _).2 b] at a;cases a
theorem Srt.fw (S:Srt keep into mm nL nR nH):(Ee keep mm nH).Nodup:=mB (n3 _ _)
theorem Srt.cA (S:Srt keep into mm nL nR nH){x:Int}(h:0<=x/\x<nH):iA (GG keep mm nH) x=iQ (Ee keep mm nH) (Ee keep mm nH).length x:=by
 unfold iA GG rF;rw [yD _ bZ,aD,show ((x.toNat:Nat):Int)=x by omega]
theorem Srt.bO (S:Srt keep into mm nL nR nH){x:Int}(b:x∈Ee keep mm nH):∃ p:Nat,iA (GG keep mm nH) x=p/\p<(Ee keep mm nH).length/\iA (Ee keep mm nH) p=x:=by
 obtain ⟨p,a,rfl⟩:=aO b;exact ⟨p,by rw [S.cA (S.cT.1 b).1,uQ S.fw a],a,lX a⟩
theorem Srt.eh (S:Srt keep into mm nL nR nH){x:Int}(h:0<=x/\x<nH)(a:x∉Ee keep mm nH):iA (GG keep mm nH) x = -1:=by rw [S.cA h,tZ a _ (bD _)]
theorem Srt.ei (S:Srt keep into mm nL nR nH){x y:Int}(b:x∈Ee keep mm nH)(a:y∈Ee keep mm nH)(h:iA (GG keep mm nH) x=iA (GG keep mm nH) y):x=y:=by
 obtain ⟨p,d,_,rfl⟩:=S.bO b;obtain ⟨q,c,_,rfl⟩:=S.bO a;rw [(bZ:p=q)]
theorem Srt.dT (S:Srt keep into mm nL nR nH){j:Int}(h:0<=j/\j<nR):iA (PL keep into mm nR nH) j=IQ keep into (p9 mm (GG keep mm nH)) (Ee keep mm nH).length j.toNat:=by
 unfold iA PL B5;simp [(bZ:j.toNat<nR)]
theorem Srt.bg (S:Srt keep into mm nL nR nH){k:Int}(b:k∈keep):iA mm k∈Ee keep mm nH:=by
 have a:=S.kr k b;have c:=S.ml;exact dC.2 ⟨S.mr _ (gB a.1 bZ),oM S.du a.1 bZ b⟩
theorem Srt.bf (S:Srt keep into mm nL nR nH){q:Nat}(g:q<keep.length):iA (PL keep into mm nR nH) (iA into q)=iA (GG keep mm nH) (iA mm (iA keep q)):=by
 have c:=S.kl;have h:=S.ml;have a:iA into q∈into:=gB bZ bZ;have i:=S.kr _ (gB (l:=keep) (n:=(q:Int)) bZ bZ);rw [S.dT (S.ir _ a)];have d:iQ into into.length ((iA into q).toNat:Nat)=q:=by
  have:=S.ir _ a;rw [show (((iA into q).toNat:Nat):Int)=iA into q by omega,lX bZ,uQ S.eo bZ]
 unfold IQ;rw [d,if_pos bZ,(bZ:(q:Int).toNat=q)];unfold p9;have b:(iA keep q).toNat<mm.length:=bZ;have f:keep[q]?.getD 0=iA keep q:=by unfold iA;rw [(bZ:(q:Int).toNat=q)]
 rw [f,aP,aA b,eV,aD];have e:iA mm (iA keep q)=mm[(iA keep q).toNat]:=U6 b;rw [e];rfl
theorem Srt.bh (S:Srt keep into mm nL nR nH){j:Int}(h:0<=j/\j<nR)(c:j∉into):∃ f:Nat,f<(aN into nR).length/\iA (aN into nR) f=j/\iA (PL keep into mm nR nH) j=((Ee keep mm nH).length+f:Nat):=by
 have b:=tU (l:=into) nR j.toNat bZ (by rw [show ((j.toNat:Nat):Int)=j by omega,aW];exact λd=>c ((mem_iff _ _).1 d));have a:=(aK.1 b).1;refine ⟨_,a,by unfold iA;rw [show ((((aN into j.toNat).length:Nat):Int)).toNat=(aN into j.toNat).length by omega,b,aD];omega,?_⟩;rw [S.dT h];unfold IQ;rw [show ((j.toNat:Nat):Int)=j by omega,tZ c _ (bD _),if_neg bZ,MD S.eo]
theorem Srt.dz (S:Srt keep into mm nL nR nH){j:Int}(h:0<=j/\j<nR):0<=iA (PL keep into mm nR nH) j/\iA (PL keep into mm nR nH) j<((Ee keep mm nH).length+(aN into nR).length:Nat):=by
 by_cases a:j∈into
 .obtain ⟨q,d,rfl⟩:=DA a;have b:=S.kl;rw [S.bf bZ];obtain ⟨p,c,g,_⟩:=S.bO (S.bg (gB (l:=keep) (n:=(q:Int)) bZ bZ));omega
 .obtain ⟨f,c,_,e⟩:=S.bh h a;omega
theorem yG:(GG keep mm nH).length=nH:=kD _ _
theorem lG:(PL keep into mm nR nH).length=nR:=by simp [PL,B5]
theorem Srt.eg (S:Srt keep into mm nL nR nH){x:Int}(h:0<=x/\x<nH)(b:0<=iA (GG keep mm nH) x):x∈Ee keep mm nH:=by
 refine bH λa=>?_;rw [S.eh h a] at b;omega
theorem Srt.ef (S:Srt keep into mm nL nR nH){j:Int}(b:j∈into):iA (PL keep into mm nR nH) j<(Ee keep mm nH).length:=by
 obtain ⟨q,d,rfl⟩:=DA b;have e:=S.kl;have a:iA keep q∈keep:=gB bZ bZ;rw [S.bf bZ];obtain ⟨p,c,f,_⟩:=S.bO (S.bg a);rw [c];omega
end
section
variable {t:Types} {r:Rule} {h:Host} {m:Mat}
theorem StepIn.bq (S:StepIn t r h m):Srt r.u.h r.A.h m.m.h r.left.j.h.length r.right.j.h.length h.j.h.length :=
 ⟨S.hR.u.1.1,S.hR.u.2.1,S.hR.u.2.2.2.1,S.ce.1,S.hm.len,S.ep,S.d5.1⟩
theorem StepIn.cm (S:StepIn t r h m):Srt r.u.i r.A.i m.m.i r.left.j.i.length r.right.j.i.length h.j.i.length :=
 ⟨S.hR.u.1.2,S.hR.u.2.2.1,S.hR.u.2.2.2.2,S.ce.2,S.hm.bz,S.fc,S.d5.2⟩
theorem StepIn.bt (S:StepIn t r h m):(cN r h m).h=Ee r.u.h m.m.h h.j.h.length:=by rw [S.cn];rfl
theorem StepIn.bu (S:StepIn t r h m):(cN r h m).i=Ee r.u.i m.m.i h.j.i.length:=by rw [S.cn];rfl
theorem StepIn.dn (S:StepIn t r h m):(lB r h m).h=GG r.u.h m.m.h h.j.h.length:=by unfold lB GG;rw [S.bt]
theorem StepIn.dp (S:StepIn t r h m):(lB r h m).i=GG r.u.i m.m.i h.j.i.length:=by unfold lB GG;rw [S.bu]
theorem StepIn.ck (S:StepIn t r h m):(lL r h m).h=PL r.u.h r.A.h m.m.h r.right.j.h.length h.j.h.length:=by unfold lL PL;rw [S.bt,S.dn]
theorem StepIn.cx (S:StepIn t r h m):(lL r h m).i=PL r.u.i r.A.i m.m.i r.right.j.i.length h.j.i.length:=by unfold lL PL;rw [S.bu,S.dp]
theorem StepIn.cC (S:StepIn t r h m):(lD t r h m).j.h.length=(Ee r.u.h m.m.h h.j.h.length).length+(aN r.A.h r.right.j.h.length).length:=by
 show (c9 t r h m).j.h.length=_;rw [S.bj,aQ,bI,bI,S.bt];rfl
theorem StepIn.cG (S:StepIn t r h m):(lD t r h m).j.i.length=(Ee r.u.i m.m.i h.j.i.length).length+(aN r.A.i r.right.j.i.length).length:=by
 show (c9 t r h m).j.i.length=_;rw [S.ci,aQ,bI,bI,S.bu];rfl
theorem StepIn.e3 (S:StepIn t r h m){f:Nat}(a:f<r.Y.length):gN (c9 t r h m).j ((cN r h m).h.length+f:Nat)=gN r.right.j (iA r.Y f) /\
  (c9 t r h m).k[(cN r h m).h.length+f]?.getD []=oU t (gN r.right.j (iA r.Y f)):=by
 rw [lX a];constructor
 .unfold gN;rw [Int.toNat_natCast,S.bj,aX eG,bI,mC,aP,aA a];rfl
 .rw [SK,aX eG,bI,mC,aP,aA a];rfl
theorem StepIn.e4 (S:StepIn t r h m){f:Nat}(a:f<r.am.length):eA (c9 t r h m).j ((cN r h m).i.length+f:Nat)=freshE (lL r h m) (eA r.right.j (iA r.am f)):=by
 rw [lX a];unfold eA;rw [Int.toNat_natCast,S.ci,aX eG,bI,mC,aP,aA a];rfl
theorem StepIn.e1 (S:StepIn t r h m){x:Int}(c:x∈Ee r.u.h m.m.h h.j.h.length):gN (c9 t r h m).j (iA (GG r.u.h m.m.h h.j.h.length) x)=gN h.j x /\
  (c9 t r h m).k[(iA (GG r.u.h m.m.h h.j.h.length) x).toNat]?.getD []=h.k[x.toNat]?.getD []:=by
 obtain ⟨p,f,e,d⟩:=S.bq.bO c;have a:p<(cN r h m).h.length:=by rw [S.bt];exact e
 have b:(cN r h m).h[p]=x:=by rw [<- lX a,S.bt];exact d
 rw [f];constructor
 .unfold gN;rw [Int.toNat_natCast,S.bj,aR (eL a),aP,aA a,b];rfl
 .rw [Int.toNat_natCast,SK,aR (eL a),aP,aA a,b];rfl
theorem StepIn.e2 (S:StepIn t r h m){x:Int}(c:x∈Ee r.u.i m.m.i h.j.i.length):eA (c9 t r h m).j (iA (GG r.u.i m.m.i h.j.i.length) x) =
  ⟨(eA h.j x).type,iA (GG r.u.h m.m.h h.j.h.length) (eA h.j x).B,iA (GG r.u.h m.m.h h.j.h.length) (eA h.j x).O⟩:=by
 obtain ⟨p,n,l,j⟩:=S.cm.bO c;have b:p<(cN r h m).i.length:=by rw [S.bu];exact l
 have i:(cN r h m).i[p]=x:=by rw [<- lX b,S.bu];exact j
 have e:eA (c9 t r h m).j (p:Int)=gEd h.j (cN r h m) x:=by
  unfold eA;rw [Int.toNat_natCast,S.ci,aR (eL b),aP,aA b,i];rfl
 rw [n,e,sU];obtain ⟨g,f⟩:=nS S.sub (k:=x) (by rw [S.bu];exact c);have a:∀ v:Int,v∈(cN r h m).h->iA (GG r.u.h m.m.h h.j.h.length) v=(lH (cN r h m).h v:Int):=λv d=>by
  rw [S.bq.cA (S.cj v d),<- S.bt,EU S.bR,if_pos ((mem_iff _ _).2 d)]
 rw [a _ g,a _ f]
theorem StepIn.dj (S:StepIn t r h m):∀ x∈(lL r h m).h,0<=x/\x<(lD t r h m).j.h.length:=λx hx=>by
 obtain ⟨i,hi,rfl⟩:=DA hx;rw [S.ck,lG] at hi;rw [S.cC,S.ck];exact S.bq.dz (j:=(i:Int)) bZ
theorem StepIn.dk (S:StepIn t r h m):∀ x∈(lL r h m).i,0<=x/\x<(lD t r h m).j.i.length:=λx hx=>by
 obtain ⟨i,hi,rfl⟩:=DA hx;rw [S.cx,lG] at hi;rw [S.cG,S.cx];exact S.cm.dz (j:=(i:Int)) bZ
theorem RuleV.en {t:Types}{r:Rule}(R:RuleV t r){q:Nat}(o:q<r.u.i.length):(eA r.left.j (iA r.u.i q)).type=(eA r.right.j (iA r.A.i q)).type /\
  (∃ p:Nat,p<r.u.h.length/\iA r.u.h p=(eA r.left.j (iA r.u.i q)).B/\iA r.A.h p=(eA r.right.j (iA r.A.i q)).B) /\
  (∃ p:Nat,p<r.u.h.length/\iA r.u.h p=(eA r.left.j (iA r.u.i q)).O/\iA r.A.h p=(eA r.right.j (iA r.A.i q)).O):=by
 obtain ⟨n,m⟩:=mJ R.sub;have d:=(fO R.sub).2.1;have l:iA r.u.i q∈r.u.i:=gB bZ bZ;obtain ⟨_,c,b,a⟩:=pJ R.mo (k:=(q:Int)) bZ bZ;rw [DJ R.sub bZ bZ,sU] at c b a;obtain ⟨f,e⟩:=nS R.sub l;obtain ⟨j,i,_⟩:=lC d f;obtain ⟨h,g,_⟩:=lC d e;exact ⟨c,⟨_,j,i,b⟩,⟨_,h,g,a⟩⟩
theorem StepIn.ec (S:StepIn t r h m){j:Int}(A:0<=j/\j<r.right.j.i.length):eA (c9 t r h m).j (iA (lL r h m).i j) =
  ⟨(eA r.right.j j).type,iA (lL r h m).h (eA r.right.j j).B,iA (lL r h m).h (eA r.right.j j).O⟩:=by
 have N:=S.bq;have E:=S.cm;by_cases v:j∈r.A.i
 .obtain ⟨q,F,rfl⟩:=DA v;have z:=E.kl;have u:iA r.u.i q∈r.u.i:=gB bZ bZ;have a:=E.kr _ u;obtain ⟨C,⟨p,y,x,w⟩,⟨D,d,c,b⟩⟩:=S.hR.en (q:=q) bZ;obtain ⟨_,o,l,g⟩:=pJ (vZ S.hc).1 (k:=iA r.u.i q) a.1 a.2;have n:(eA r.left.j (iA r.u.i q)).type=_:=o;have i:iA m.m.h (eA r.left.j (iA r.u.i q)).B=_:=l;have e:iA m.m.h (eA r.left.j (iA r.u.i q)).O=_:=g;rw [S.cx,E.bf bZ,S.e2 (E.bg u),<- w,<- b,S.ck,N.bf y,N.bf d,x,c,<- C,n,i,e]
 .obtain ⟨f,o,l,g⟩:=E.bh A v;have s:=S.e4 (f:=f) o;rw [S.bu] at s;have B:iA r.am f=j:=l;rw [S.cx,g,s,B];rfl
theorem StepIn.d6 (S:StepIn t r h m){p:Nat}(a:p<r.u.h.length):gN (c9 t r h m).j (iA (lL r h m).h (iA r.A.h p))=gN h.j (iA m.m.h (iA r.u.h p)):=by
 rw [S.ck,S.bq.bf a,(S.e1 (S.bq.bg (gB bZ bZ))).1]
end
theorem Srt.dy {keep c e:Xa0}{u d h:Nat}(S:Srt keep c e u d h)(y:keep.Nodup)(w:e.Nodup):(PL keep c e d h).Nodup:=by
 have n:∀ i j:Nat,i<d->j<d->iA (PL keep c e d h) i=iA (PL keep c e d h) j->i=j:=λi j l k m=>by
  have x:=S.kl;have v:=S.ml;by_cases a:(i:Int)∈c
  .by_cases b:(j:Int)∈c
   .obtain ⟨p,H,D⟩:=DA a;obtain ⟨q,G,C⟩:=DA b;have s:iA keep p∈keep:=gB bZ bZ;have r:iA keep q∈keep:=gB bZ bZ;have F:=S.kr _ s;have E:=S.kr _ r;rw [<- D,<- C,S.bf bZ,S.bf bZ] at m;have o:=S.ei (S.bg s) (S.bg r) m;have t:=MO w (i:=(iA keep p).toNat) (j:=(iA keep q).toNat) bZ bZ (by
     rw [show (((iA keep p).toNat:Nat):Int)=iA keep p by omega,show (((iA keep q).toNat:Nat):Int)=iA keep q by omega];exact o)
    have A:=MO y (i:=p) (j:=q) bZ bZ bZ;subst A;omega
   .obtain ⟨f,_,_,B⟩:=S.bh (j:=(j:Int)) bZ b;have:=S.ef a;omega
  .obtain ⟨f,M,L,B⟩:=S.bh (j:=(i:Int)) bZ a;by_cases b:(j:Int)∈c
   .have:=S.ef b;omega
   .obtain ⟨g,K,J,I⟩:=S.bh (j:=(j:Int)) bZ b;have:f=g:=bZ;subst this;omega
 rw [Ef,eD];intro i j l k z m;have o:i<d:=by rw [lG] at l;exact l
 have t:j<d:=by rw [lG] at k;exact k
 have:=n i j o t (by rw [lX l,lX k];exact m);omega
theorem Wx {α:Type}{l:List α}(h:l.length<=1){x y:α}(a:x∈l)(b:y∈l):x=y:=by
 match l,h with
 | [],_=>cases a
 | [z],_=>rw [bU.1 a,bU.1 b]
theorem UV {t:Types}(e:(cQ t).2=0){a b:Int}(d:0<=a/\a<t.h.length)(j:0<=b/\b<t.h.length)(h:wO t a b=true)(i:(fQ t a).length<=1):b=a:=by
 have c:∀ x:Int,0<=x/\x<t.h.length->wO t a x=true->x∈fQ t a:=λx f g=>by
  unfold fQ;rw [if_pos (qR e d)];exact (uE _ _ _).2 ⟨f,g⟩
 refine Wx i (c b j h) (c a d ?_);have:=K9 (rN (qR e d)).1 (a:=a.toNat) bZ;rw [show ((a.toNat:Nat):Int)=a by omega] at this;exact this
theorem WK {t:Types}{g:Graph}(h:kX t g.h=true){i:Int}(b:0<=i)(a:i<g.h.length):(fQ t (gN g i)).length<=1:=by
 unfold kX at h;have:=b6.1 h _ (sS b a);simpa using this
section
variable {t:Types} {r:Rule} {h:Host} {m:Mat}
theorem StepOk.nodup (K:StepOk t r h m)(c:r.inj=true):m.m.h.Nodup/\m.m.i.Nodup:=by
 have b:=K.dq;unfold rK at b;split at b
 .cases b
 .rename_i h1;have a:=(pW (eL h1)).2;rw [H6] at a;split at a
  .exact absurd a (by assumption)
  .split at a
   .cases a
   .rename_i hc;exact ⟨bH λq=>hc ⟨c,.inl q⟩,bH λq=>hc ⟨c,.inr q⟩⟩
theorem StepOk.cW (K:StepOk t r h m)(p:kX t r.left.j.h=true){i:Int}(j:0<=i)(f:i<r.left.j.h.length):gN h.j (iA m.m.h i)=gN r.left.j i:=by
 have S:=K.S;have e:=S.hm.len;have l:=S.hR.vf;have d:i.toNat<r.left.j.h.length:=bZ;have c:i.toNat<m.m.h.length:=bZ;have a:iA m.m.h i=m.m.h[i.toNat]:=U6 c;have s:gN r.left.j i=r.left.j.h[i.toNat]:=by unfold gN;rw [aA d];rfl
 obtain ⟨b,k⟩:=S.hm.bx i.toNat c d;have o:=(iW S.hR.pl.gg S.hR.pl.ty).1 _ (sS j f);have q:=AN S.ho _ (sS (g:=h.j) (n:=iA m.m.h i) (by rw [a];exact b.1) (by rw [a];exact b.2));refine UV l o q ?_ (WK p j f);rw [s];unfold gN;rw [a];exact k
theorem StepOk.e6 (K:StepOk t r h m)(g:kX t r.left.j.h=true):cY r.left.j h.j m.m=0:=by
 have S:=K.S;have b:=K.dq;have f:=S.hm.len;have a:iZ t r.left.j h.j m.m r.inj=0:=by
  unfold rK at b;split at b
  .cases b
  .rename_i c;exact (pW (eL c)).2
 unfold iZ at a;split at a
 .cases a
 .rename_i q1;split at a
  .exact absurd a (by assumption)
  .split at a
   .exact absurd a (by assumption)
   .rename_i q3;unfold cY;rw [if_neg (by rw [S.hR.pl.gg];simp),if_neg (by rw [S.ho.gg];simp),if_neg q1];have c:bS (kO r.left.j h.j m.m) 0 r.left.j.h.length=0:=nD _ _ λi _ j=>by
     have e:=K.cW g (i:=(i:Int)) bZ bZ;have d:=S.ep _ (gB (l:=m.m.h) (n:=(i:Int)) bZ bZ);unfold iA gN at e;unfold iA at d;unfold kO;simp only [Int.toNat_natCast] at e d;rw [if_neg bZ,if_neg (by rw [e];simp)]
    rw [if_neg (by rw [c];simp)];simpa using q3
theorem StepOk.fh (K:StepOk t r h m)(u:kX t r.left.j.h=true):cY r.right.j (lD t r h m).j (lL r h m)=0:=by
 have S:=K.S;have H:HostOk t (lD t r h m):=y4 K.after;have g:=S.dj;have d:=S.dk;refine KY S.hR.gr H.gg (by rw [S.ck,lG]) (by rw [S.cx,lG]) (λi b s=>?_) (λk b c=>?_)
 .refine ⟨g _ (gB b (by rw [S.ck,lG];exact s)),?_⟩;show gN (c9 t r h m).j _=_;have c:=S.hR.u;by_cases a:i∈r.A.h
  .obtain ⟨q,B,rfl⟩:=DA a;have j:q<r.u.h.length:=bZ;have o:=c.2.1 _ (gB (l:=r.u.h) (n:=(q:Int)) bZ bZ);rw [S.d6 j,K.cW u o.1 o.2];have e:=(mJ S.hR.sub).1;obtain ⟨_,z⟩:=kM S.hR.mo (i:=(q:Int)) bZ bZ;rw [z,qS S.hR.sub bZ bZ]
  .obtain ⟨f,y,x,w⟩:=S.bq.bh ⟨b,s⟩ a;have p:=(S.e3 (f:=f) y).1;rw [S.bt] at p;have v:iA r.Y f=i:=x;rw [S.ck,w,p,v]
 .have e:=S.ec ⟨b,c⟩;have A:eA (lD t r h m).j (iA (lL r h m).i k)=_:=e;rw [A];exact ⟨d _ (gB b (by rw [S.cx,lG];exact c)),rfl,rfl,rfl⟩
theorem StepOk.fg (K:StepOk t r h m)(e:kX t r.left.j.h=true)(f:r.inj=true):jN r.right.j (lD t r h m).j (lL r h m)=true:=by
 have S:=K.S;obtain ⟨b,a⟩:=K.nodup f;have d:=mB (fO S.hR.sub).2.1;have c:=mB (nT S.hR.sub);unfold jN;rw [K.fh e,S.ck,S.cx];simp [S.bq.dy d b,S.cm.dy c a]
theorem StepOk.e5 (K:StepOk t r h m)(c:kX t r.left.j.h=true)(d:r.inj=true):jN r.left.j h.j m.m=true:=by
 obtain ⟨b,a⟩:=K.nodup d;unfold jN;rw [K.e6 c];simp [b,a]
end
def Pl (t:Types)(r:Rule):Bool:=kX t r.left.j.h&&kX t r.right.j.h
def MY (t:Types)(a b:Stp26):Int :=
 if (cQ t).2≠0 then (cQ t).2 else if (!yC t a||!yC t b)=true then 1 else if (!jP a.x||!jP b.x)=true then 8
 else if (!Pl t a.x||!Pl t b.x)=true then 13 else if a.after≠b.D then 11 else 0
def EQ (a b:Stp26):Ovl:=Qj a.x.right.j b.x.left.j a.M b.X.m
def P7 (a b:Stp26):Part:=NJ a.M b.X.m
def Rn (a b:Stp26):Part:=bK a.x b.x (EQ a b)
def PD (a b:Stp26):Part:=bW a.x b.x (EQ a b)
def GQ (a b:Stp26):Rule:=lA a.x b.x (EQ a b)
def Zl (a b:Stp26):Int:=gP a.x b.x (EQ a b)
def PC (a b:Stp26):Part:=⟨E7 (Rn a b).h (P7 a b).h a.Q.h a.x.u.h a.X.m.h,E7 (Rn a b).i (P7 a b).i a.Q.i a.x.u.i a.X.m.i⟩
def Lz (t:Types)(a b:Stp26):Stp26:=g7 t (GQ a b) a.D ⟨PC a b,[]⟩
def cnG (t:Types)(a b:Stp26):Int:=oB t (GQ a b) a.D ⟨PC a b,[]⟩
def cnI (t:Types)(a b:Stp26):Part :=
  ⟨V7 (Lz t a b).Q.h a.Q.h b.Q.h (Lz t a b).M.h (PD a b).h (P7 a b).h b.x.A.h b.M.h (Lz t a b).after.j.h.length,
   V7 (Lz t a b).Q.i a.Q.i b.Q.i (Lz t a b).M.i (PD a b).i (P7 a b).i b.x.A.i b.M.i (Lz t a b).after.j.i.length⟩
def V3 (t:Types)(a b:Stp26):Int:=if MY t a b≠0 then MY t a b else if Zl a b≠0 then Zl a b else cnG t a b
structure CmGood (t:Types) (a b:Stp26):Prop where
 ea:a=uA t a.x a.D a.X
 eb:b=uA t b.x b.D b.X
 K:StepOk t a.x a.D a.X
 L:StepOk t b.x b.D b.X
 g:givenR t a.x b.x=0
 s:a.after=b.D
 i1:jN a.x.right.j a.after.j a.M=true
 i2:jN b.x.left.j a.after.j b.X.m=true
theorem EZ {t:Types}{r:Rule}{h:Host}{m:Mat}(a:oB t r h m=0):ruleF t r=0:=by
 unfold oB at a;split at a
 .contradiction
 .rename_i hg;exact (EH (eL hg)).1
theorem IX {t:Types}{s:Stp26}(h:yC t s=true):oB t s.x s.D s.X=0:=by
 unfold yC at h;simp only [aL,decide_eq_true_eq] at h;exact h.1
theorem TU {t:Types}{a b:Stp26}(h:MY t a b=0):(cQ t).2=0/\(yC t a=true/\yC t b=true)/\(jP a.x=true/\jP b.x=true)/\(Pl t a.x=true/\Pl t b.x=true)/\a.after=b.D:=by
 unfold MY at h;split at h
 .rename_i q;exact absurd h q
 .rename_i q0;split at h
  .cases h
  .rename_i q1;split at h
   .cases h
   .rename_i q2;split at h
    .cases h
    .rename_i q3;split at h
     .cases h
     .rename_i q4;refine ⟨bZ,?_,?_,?_,by simpa using q4⟩
      .revert q1;cases yC t a<;>cases yC t b<;>simp
      .revert q2;cases jP a.x<;>cases jP b.x<;>simp
      .revert q3;cases Pl t a.x<;>cases Pl t b.x<;>simp
theorem R8 {t:Types}{r:Rule}(c:ruleF t r=0)(b:jP r=true)(a:Pl t r=true):oneR t r=0:=by
 unfold oneR;rw [if_neg (by rw [c];simp),if_neg (by rw [b];simp),if_neg];unfold Pl at a;rw [a];simp
theorem SE {t:Types}{a b:Stp26}(m:a.x.ok)(l:b.x.ok)(h:MY t a b=0):CmGood t a b:=by
 obtain ⟨v,⟨k,j⟩,⟨g,f⟩,⟨d,c⟩,e⟩:=TU h;obtain ⟨i,K⟩:=IW m k;obtain ⟨y,L⟩:=IW l j;have x:=EZ (IX k);have w:=EZ (IX j);have p:kX t a.x.left.j.h=true:=by unfold Pl at d;simp only [aL] at d;exact d.1
 have o:kX t b.x.left.j.h=true:=by unfold Pl at c;simp only [aL] at c;exact c.1
 have r:a.x.inj=true:=by unfold jP at g;simp only [aL] at g;exact g.1
 have q:b.x.inj=true:=by unfold jP at f;simp only [aL] at f;exact f.1
 have u:=K.fg p r;have s:=L.e5 o q;refine ⟨i,y,K,L,?_,e,?_,by rw [e];exact s⟩
 .unfold givenR;rw [if_neg (by rw [v];simp),if_neg (by rw [R8 x g d];simp)];exact R8 w f c
 .have q1:a.after=lD t a.x a.D a.X:=congrArg Stp26.after i;have n:a.M=lL a.x a.D a.X:=congrArg Stp26.M i;rw [q1,n];exact u
section
variable {t:Types} {a b:Stp26}
theorem CmGood.ee (G:CmGood t a b):(a.M.h.length=a.x.right.j.h.length/\a.M.i.length=a.x.right.j.i.length)/\((∀ x∈(P7 a b).h,0<=x/\x<a.after.j.h.length)/\∀ x∈(P7 a b).i,0<=x/\x<a.after.j.i.length) /\
  (P7 a b).h.length=(EQ a b).j.h.length/\(P7 a b).i.length=(EQ a b).j.i.length:=by
 obtain ⟨e,_⟩:=r4 G.i1;obtain ⟨h,_⟩:=r4 G.i2;obtain ⟨_,_,g,f⟩:=dA e;have d:=jT e;have c:=jT h;exact ⟨⟨g,f⟩,⟨NI d.1 c.1,NI d.2 c.2⟩,Wi g f⟩
theorem CmGood.ahead (G:CmGood t a b)(q:Zl a b=0):((∀ x∈(Rn a b).h,0<=x/\x<(P7 a b).h.length)/\∀ x∈(Rn a b).i,0<=x/\x<(P7 a b).i.length)/\((∀ x∈(PD a b).h,0<=x/\x<(P7 a b).h.length)/\∀ x∈(PD a b).i,0<=x/\x<(P7 a b).i.length) /\
  ((Rn a b).h.length<=1000/\(Rn a b).i.length<=1000)/\((PD a b).h.length<=1000/\(PD a b).i.length<=1000)/\a.X.m.h.length<=1000/\a.X.m.i.length<=1000:=by
 obtain ⟨d,_,_⟩:=pN q;have g:=nZ d;obtain ⟨_,_,i,h⟩:=G.ee;have k:=xF d;have j:=KJ d;obtain ⟨p,o⟩:=A4 g.c1;obtain ⟨n,l⟩:=A4 g.c2;have f:bK a.x b.x (EQ a b)=j4 a.x.right.j (EQ a b).j (Jj a.x) (EQ a b).left:=if_pos d;have e:bW a.x b.x (EQ a b)=j4 b.x.left.j (EQ a b).j b.x.u (EQ a b).right:=if_pos d;rw [<- f] at p o;rw [<- e] at n l;have u:=aY G.K.S.hR.pl.gg;have s:=G.K.S.hm.len;have r:=G.K.S.hm.bz;refine ⟨⟨λx c=>?_,λx c=>?_⟩,⟨λx c=>?_,λx c=>?_⟩,⟨p,o⟩,⟨n,l⟩,bZ,bZ⟩
 .unfold Rn at c;rw [k] at c;rw [i];exact (dC.1 c).1
 .unfold Rn at c;rw [k] at c;rw [h];exact (dC.1 c).1
 .unfold PD at c;rw [j] at c;rw [i];exact (dC.1 c).1
 .unfold PD at c;rw [j] at c;rw [h];exact (dC.1 c).1
end
theorem XS {keep r s t z m d f b a g c:Xa0}{B E h A o n:Nat}(S:Srt keep r s B E h)(w:Srt t z m A o h)(G:m=E7 d b (GG keep s h) keep s)
  (O:∀ x∈t,x<d.length) (L:n=(Ee t m h).length+(aN z o).length) (hs:a.length=(Ee keep s h).length+(aN r E).length)
  (P:∀ e∈f,0<=e/\e<b.length) (K:∀ x∈b,0<=x/\x<a.length) (T:o=f.length+(aN g c.length).length)
  (X:n<=1000) (W:f.length<=1000) (V:c.length<=1000) (U:h<=1000):BhOk (GG t m h) (GG keep s h) a (PL t z m o h) f b g c n:=by
 refine ⟨λi y Y=>?_,λe D=>?_,by rw [lG];exact T,λx J=>?_,X,W,V,by rw [yG];exact U⟩
 .rw [yG] at y;have H:=w.eg (x:=(i:Int)) bZ Y;obtain ⟨p,p1,p2,_⟩:=w.bO H;have R:(i:Int)∈Ee keep s h:=S.cT.2 ⟨bZ,λk k0 k1 I D=>by
   have u:=S.ml;have C:mem keep (k.toNat:Nat)=false:=by rw [show ((k.toNat:Nat):Int)=k by omega,aW];exact λq=>I ((mem_iff _ _).1 q)
   have v:=tU (l:=keep) B k.toNat bZ C;have M:=(aK.1 v).1;have F:=w.ml;have N:m.length=d.length+(aN keep B).length:=by rw [G];unfold E7;rw [aQ,bI,bI,u]
   refine (w.cT.1 H).2 ((d.length+(aN keep k.toNat).length:Nat):Int) bZ bZ (λQ=>?_) ?_
   .have:=O _ Q;omega
   .rw [<- D,G];unfold E7;conv=>lhs;unfold iA
    rw [Int.toNat_natCast,aX eG,bI,mC,aP,u,v,eV,aD];unfold iA;rw [Int.toNat_natCast]⟩
  obtain ⟨q,q1,Z,_⟩:=S.bO R;exact ⟨bZ,by rw [yG];exact y,bZ,bZ⟩
 .have he':=P e D;have:=K _ (gB (l:=b) he'.1 he'.2);exact ⟨he',this.1,this.2⟩
 .obtain ⟨i,y,rfl⟩:=DA J;rw [lG] at y;rw [L];exact w.dz (j:=(i:Int)) bZ
section
variable {t:Types} {a b:Stp26}
theorem CmGood.x (G:CmGood t a b)(c:Zl a b=0):(GQ a b).ok/\ruleF t (GQ a b)=0/\GQ a b=concOf (zZ a.x b.x (EQ a b) (Rn a b) (PD a b)) (wE a.x b.x (EQ a b) (Rn a b) (PD a b)) (Rn a b) (PD a b):=by
 have e:wF t a.x b.x (EQ a b)=0:=by unfold wF;rw [if_neg (by rw [G.g];simp)];exact c
 have d:nA t a.x b.x (EQ a b)=GQ a b:=by unfold nA;rw [if_neg (by rw [G.g];simp)];rfl
 exact ⟨d ▸ Uy e,d ▸ OC e,by unfold GQ lA;rw [if_pos (show gP a.x b.x (EQ a b)=0 from c)];rfl⟩
theorem CmGood.dc (G:CmGood t a b)(i:Zl a b=0)(m:cnG t a b=0) :
  BhOk (Lz t a b).Q.h a.Q.h b.Q.h (Lz t a b).M.h (PD a b).h (P7 a b).h b.x.A.h b.M.h (Lz t a b).after.j.h.length /\
  BhOk (Lz t a b).Q.i a.Q.i b.Q.i (Lz t a b).M.i (PD a b).i (P7 a b).i b.x.A.i b.M.i (Lz t a b).after.j.i.length:=by
 obtain ⟨A,_,f⟩:=G.x i;obtain ⟨⟨_,_⟩,⟨N,M⟩,⟨_,_⟩,⟨k,j⟩,_⟩:=G.ahead i;obtain ⟨_,⟨C,B⟩,_⟩:=G.ee;obtain ⟨F,_,_⟩:=pN i;obtain ⟨J,I⟩:=jH G.g;obtain ⟨z,y⟩:=mP (Y0 J I F);have l:=wS A m;have S:=G.K.S;have d:=l.S;have e:Lz t a b=uA t (GQ a b) a.D ⟨PC a b,[]⟩:=by
  unfold Lz g7;rw [if_pos (show oB t (GQ a b) a.D ⟨PC a b,[]⟩=0 from m)]
 have u:(Lz t a b).Q=lB (GQ a b) a.D ⟨PC a b,[]⟩:=congrArg Stp26.Q e;have r:(Lz t a b).M=lL (GQ a b) a.D ⟨PC a b,[]⟩:=congrArg Stp26.M e;have q:(Lz t a b).after=lD t (GQ a b) a.D ⟨PC a b,[]⟩:=congrArg Stp26.after e;have h:a.Q=lB a.x a.D a.X:=congrArg Stp26.Q G.ea;have p:b.Q=lB b.x b.D b.X:=congrArg Stp26.Q G.eb;have o:b.M=lL b.x b.D b.X:=congrArg Stp26.M G.eb;have n:a.after=lD t a.x a.D a.X:=congrArg Stp26.after G.ea;have V:=aY S.ho.gg;have H:=aY G.L.S.hR.gr;have P:b.M.h.length=b.x.right.j.h.length:=by rw [o,G.L.S.ck,lG]
 have O:b.M.i.length=b.x.right.j.i.length:=by rw [o,G.L.S.cx,lG]
 have w:b.Q.h.length=a.after.j.h.length:=by rw [p,G.L.S.dn,yG,G.s]
 have v:b.Q.i.length=a.after.j.i.length:=by rw [p,G.L.S.dp,yG,G.s]
 have U:(lD t (GQ a b) a.D ⟨PC a b,[]⟩).j.h.length<=40:=l.nn;have T:(lD t (GQ a b) a.D ⟨PC a b,[]⟩).j.i.length<=80:=l.ne;have E:∀ x∈(GQ a b).u.h,x<(Rn a b).h.length:=λx c=>by
  rw [f] at c;exact (l9.1 c).1.2
 have D:∀ x∈(GQ a b).u.i,x<(Rn a b).i.length:=λx c=>by
  rw [f] at c;exact (l9.1 c).1.2
 have R:(GQ a b).right.j.h.length=(PD a b).h.length+(aN b.x.A.h b.M.h.length).length:=by rw [f,P];exact z
 have Q:(GQ a b).right.j.i.length=(PD a b).i.length+(aN b.x.A.i b.M.i.length).length:=by rw [f,O];exact y
 constructor
 .rw [u,r,q,d.dn,d.ck,h,S.dn];refine XS S.bq d.bq ?_ E d.cC (by rw [w,n];exact S.cC) N (λx c=>by rw [w];exact C x c) R bZ k bZ bZ;show E7 _ _ a.Q.h _ _=_;rw [h,S.dn]
 .rw [u,r,q,d.dp,d.cx,h,S.dp];refine XS S.cm d.cm ?_ D d.cG (by rw [v,n];exact S.cG) M (λx c=>by rw [v];exact B x c) Q bZ j bZ bZ;show E7 _ _ a.Q.i _ _=_;rw [h,S.dp]
end
def XO (t:Types)(a b:Stp26):Ovl:=if V3 t a b=0 then EQ a b else xG
def W7 (t:Types)(a b:Stp26):Stp26:=if V3 t a b=0 then Lz t a b else gW
def XN (t:Types)(a b:Stp26):Part:=if V3 t a b=0 then cnI t a b else ⟨[],[]⟩
structure CmHyp (t:Types) (a b:Stp26):Prop where
 t:t.ok
 ra:a.x.ok
 rb:b.x.ok
 ta:a.x.aq
 tb:b.x.aq
theorem y9 (t:Types)(a b:Stp26)(C:CmHyp t a b):Pua 42 [t.d,.agg a.c,.agg b.c] (dI (MY t a b)):=by
 have U:=mD t C.t;have w:=Ah t C.t a C.ra rfl rfl;have v:=Ah t C.t b C.rb rfl rfl;obtain ⟨z,k⟩:∃ B,B=yC t a:=⟨_,rfl⟩;obtain ⟨y,j⟩:∃ B,B=yC t b:=⟨_,rfl⟩;have m:(decide (oB t a.x a.D a.X=0)&&decide (g7 t a.x a.D a.X=a))=z:=k.symm;have l:(decide (oB t b.x b.D b.X=0)&&decide (g7 t b.x b.D b.X=b))=y:=j.symm;rw [m] at w;rw [l] at v;have g:∀ s:Stp26,yC t s=true->Pua 100 [t.d,s.x.d] (.bool (Pl t s.x)):=λs h=>by
  have S:=EZ (IX h);have T:=vB S;have X:=aY T.gl;have W:=aY T.gr;have:=x8 t C.t s.x bZ bZ;rw [Lr S] at this;exact this
 have E:z=true->Pua 100 [t.d,a.x.d] (.bool (Pl t a.x)):=λh=>g a (by rw [<- k];exact h);have D:y=true->Pua 100 [t.d,b.x.d] (.bool (Pl t b.x)):=λh=>g b (by rw [<- j];exact h);have G:=nF a.x C.ta;have F:=nF b.x C.tb;have V:=Cs a.after b.D;obtain ⟨L,q⟩:∃ B,B=jP a.x:=⟨_,rfl⟩;obtain ⟨K,p⟩:∃ B,B=jP b.x:=⟨_,rfl⟩;obtain ⟨J,o⟩:∃ B,B=Pl t a.x:=⟨_,rfl⟩;obtain ⟨I,n⟩:∃ B,B=Pl t b.x:=⟨_,rfl⟩;obtain ⟨H,r⟩:∃ e,e=(cQ t).2:=⟨_,rfl⟩;obtain ⟨Z,M⟩:=fH (MY t a b);have f:Z=if H≠0 then H else if (!z||!y)=true then 1 else if (!L||!K)=true then 8 else if (!J||!I)=true then 13 else if a.after≠b.D then 11 else 0:=by rw [M,r,k,j,q,p,o,n];rfl
 rw [<- q] at G;rw [<- p] at F;rw [<- o] at E;rw [<- n] at D;rw [<- r] at U;rw [<- M];simp only [Stp26.c,Rule.c,Mat.c,Host.c,dP,dS] at w v;clear k j m l q p o n r M g;refine Tz.p0 func42 rfl λQ x _=>?_;have Y:=xa2 @Stp26.c.eq_1 @Rule.c.eq_1 @Mat.c.eq_1 @Host.c.eq_1;refine lZ (h:=aB (U) wl ?_);refine lZ (h:=wq (λR=>?_) λR=>?_)
 .have hne:¬ H=0:=by simpa using R
  have i:Z=H:=by rw [f,if_pos hne]
  exact lZ (h:=x _ _ (by simp [go_sem,i,dI]))
 .have hg0:H=0:=by simpa using R
  rw [if_neg (eL hg0)] at f;refine oP (h:=aB (w) wl ?_);refine oP (h:=aG (λA=>v) (λA=>wl) ?_);refine oP (h:=wq (λP=>?_) λP=>?_)
  .have i:Z=1:=by rw [f,if_pos (by revert P;cases z<;>cases y<;>simp)]
   exact lZ (h:=x _ _ (by simp [go_sem,i,dI]))
  .have hg1:z=true/\y=true:=by revert P;cases z<;>cases y<;>simp
   rw [if_neg (by rw [hg1.1,hg1.2];simp)] at f;refine oP (h:=aB (G) wl ?_);refine oP (h:=aG (λA=>F) (λA=>wl) ?_);refine oP (h:=wq (λO=>?_) λO=>?_)
   .have i:Z=8:=by rw [f,if_pos (by revert O;cases L<;>cases K<;>simp)]
    exact lZ (h:=x _ _ (by simp [go_sem,i,dI]))
   .have hg2:L=true/\K=true:=by revert O;cases L<;>cases K<;>simp
    rw [if_neg (by rw [hg2.1,hg2.2];simp)] at f;refine oP (h:=aB (E hg1.1) wl ?_);refine oP (h:=aG (λA=>D hg1.2) (λA=>wl) ?_);refine oP (h:=wq (λN=>?_) λN=>?_)
    .have i:Z=13:=by rw [f,if_pos (by revert N;cases J<;>cases I<;>simp)]
     exact lZ (h:=x _ _ (by simp [go_sem,i,dI]))
    .have hg3:J=true/\I=true:=by revert N;cases J<;>cases I<;>simp
     rw [if_neg (by rw [hg3.1,hg3.2];simp)] at f;refine oP (h:=aB (V) wl ?_);refine oP (h:=wq (λu=>?_) λu=>?_)
     .have i:Z=11:=by rw [f,if_pos (eL u)]
      exact lZ (h:=x _ _ (by simp [go_sem,i,dI]))
     .have i:Z=0:=by rw [f,if_neg (eL u)]
      exact lZ (h:=x _ _ (by simp [go_sem,i,dI]))
theorem CA (t:Types)(a b:Stp26)(C:CmHyp t a b):Pua 13 [t.d,.agg a.c,.agg b.c] (.tup [(XO t a b).d,.agg (W7 t a b).c,(XN t a b).d,dI (V3 t a b)]):=by
 have cC:=y9 t a b C;have U:=pB a.x b.x (EQ a b) C.ra C.rb;obtain ⟨E,hE⟩:∃ x,x=MY t a b:=⟨_,rfl⟩;obtain ⟨W,s⟩:∃ x,x=Zl a b:=⟨_,rfl⟩;obtain ⟨w,q⟩:∃ x,x=cnG t a b:=⟨_,rfl⟩;obtain ⟨O,N⟩:∃ x,x=EQ a b:=⟨_,rfl⟩;obtain ⟨P,J⟩:∃ x,x=P7 a b:=⟨_,rfl⟩;obtain ⟨R,hR⟩:∃ x,x=GQ a b:=⟨_,rfl⟩;obtain ⟨v,L⟩:∃ x,x=Lz t a b:=⟨_,rfl⟩;obtain ⟨I,hI⟩:∃ x,x=cnI t a b:=⟨_,rfl⟩;obtain ⟨Z,H⟩:∃ x,x=V3 t a b:=⟨_,rfl⟩;obtain ⟨g,hg⟩:∃ x,x=nG a.x b.x (EQ a b):=⟨_,rfl⟩;obtain ⟨K,p⟩:∃ x,x=mU a.x b.x (EQ a b):=⟨_,rfl⟩;have l:Z=if E≠0 then E else if W≠0 then W else w:=by rw [H,hE,s,q];rfl
 have i:E=0->CmGood t a b:=λh=>SE C.ra C.rb (by rw [<- hE];exact h);have wg:E=0->¬ K=0->W=K:=λk j=>by
  have:=VB (o:=EQ a b) (i k).g;unfold VC at this;rw [<- p,if_pos j] at this;rw [s];exact this.symm
 have cT:E=0->Pua 43 [a.x.right.j.d,b.x.left.j.d,a.after.j.d,a.M.d,b.X.m.d] (.tup [O.d,P.d,dI 0]):=λh=>by
  rw [N,J];exact Iy _ _ _ _ _ (i h).i1 (i h).i2
 have cR:E=0->K=0->Pua 44 [g.dd] (.tup [R.d,dI W]):=λk j=>by
  obtain ⟨pa,pb⟩:=jH (i k).g;have:=AP (o:=EQ a b) pa pb (by rw [<- p];exact j);rw [hg,hR,s];exact this
 have n:E=0->W=0->g=⟨a.x,b.x,O,Rn a b,PD a b⟩:=λk j=>by
  obtain ⟨pa,pb⟩:=jH (i k).g;obtain ⟨hp,_,_⟩:=pN (show gP a.x b.x (EQ a b)=0 by rw [<- j,s];rfl);rw [hg,xS pa pb hp,N];rfl
 obtain ⟨X,A⟩:∃ m,m=(PC a b).h:=⟨_,rfl⟩;obtain ⟨V,z⟩:∃ m,m=(PC a b).i:=⟨_,rfl⟩;have a3:E=0->W=0->Pua 45 [dLI g.d.h,dLI P.h,dLI a.Q.h,dLI a.x.u.h,dLI a.X.m.h] (dLI X):=λk j=>by
  obtain ⟨⟨q1,q2⟩,_,⟨d1,d2⟩,_,l1,l2⟩:=(i k).ahead (by rw [<- s];exact j);rw [n k j,A,J];exact x9 _ _ _ _ _ q1 d1 l1
 have a2:E=0->W=0->Pua 45 [dLI g.d.i,dLI P.i,dLI a.Q.i,dLI a.x.u.i,dLI a.X.m.i] (dLI V):=λk j=>by
  obtain ⟨⟨q1,q2⟩,_,⟨d1,d2⟩,_,l1,l2⟩:=(i k).ahead (by rw [<- s];exact j);rw [n k j,z,J];exact x9 _ _ _ _ _ q2 d2 l2
 have u:E=0->W=0->Pua 29 [t.d,R.d,a.D.d,.agg [dLI X,dLI V,.nil]] (.tup [.agg v.c,dI w]):=λk j=>by
  have ro:=((i k).x (by rw [<- s];exact j)).1;have:=tA t C.t (GQ a b) ro a.D ⟨PC a b,[]⟩ (v:=v) (e:=w) L q;rw [show (⟨PC a b,[]⟩:Mat)=⟨⟨X,V⟩,[]⟩ by rw [A,z]] at this;rw [hR];exact this.de (Kp t (GQ a b) a.D X V)
 have bh:E=0->W=0->w=0->_:=λk j T=>(i k).dc (by rw [<- s];exact j) (by rw [<- q];exact T);obtain ⟨i1,D⟩:∃ m,m=I.h:=⟨_,rfl⟩;obtain ⟨i2,B⟩:∃ m,m=I.i:=⟨_,rfl⟩;have a1:E=0->W=0->w=0->Pua 46 [dLI a.Q.h,dLI b.Q.h,dLI v.Q.h,dLI v.M.h,dLI g.f.h,dLI P.h,dLI b.x.A.h,dLI b.M.h,dI v.after.j.h.length] (dLI i1):=λk j T=>by
  rw [n k j,D,hI,L,J];exact vY _ _ _ _ _ _ _ _ _ (bh k j T).1
 have a0:E=0->W=0->w=0->Pua 46 [dLI a.Q.i,dLI b.Q.i,dLI v.Q.i,dLI v.M.i,dLI g.f.i,dLI P.i,dLI b.x.A.i,dLI b.M.i,dI v.after.j.i.length] (dLI i2):=λk j T=>by
  rw [n k j,B,hI,L,J];exact vY _ _ _ _ _ _ _ _ _ (bh k j T).2
 have S:I=⟨i1,i2⟩:=by rw [D,B]
 have hA:XO t a b=if Z=0 then O else xG:=by rw [H,N];rfl
 have hT:W7 t a b=if Z=0 then v else gW:=by rw [H,L];rfl
 have hJ:XN t a b=if Z=0 then ⟨i1,i2⟩ else ⟨[],[]⟩:=by rw [H,<- S,hI];rfl
 rw [<- hg,<- p,<- N] at U;rw [<- hE] at cC;rw [hA,hT,hJ,<- H];obtain ⟨ga,gb,go,gd,gf⟩:=g;simp only [Stp26.c,Rule.c,Mat.c,Host.c,dP,dS] at cC u;unfold Rule.d Host.d at u;simp only [Rule.c,Host.c] at u;clear hA hT hJ H L q hI D B S i bh A z n hg p N J hR s hE;refine Tz.pK ⟨λt=>t==6||t==7||t==8||t==11||t==12||t==14||t==15||t==16||t==17||t==18||t==19,λr=>match r with|14=>[(0,40),(1,40),(2,40),(3,40),(4,40),(5,40),(6,40),(7,40),(8,40),(9,40),(10,40),(11,40),(12,40),(13,40),(14,40),(15,40),(16,40),(17,40),(18,40),(19,40),(20,40),(21,40),(22,40),(23,40),(24,40),(25,40),(26,40),(27,40),(28,40),(29,40),(30,40),(31,40),(32,40),(33,40),(36,40)]|18=>[(0,57),(1,57),(2,57),(3,57),(4,57),(5,57),(6,57),(7,57),(8,57),(9,57),(10,57),(11,57),(12,57),(13,57),(14,57),(15,57),(16,57),(17,57),(18,57),(19,57),(20,57),(21,57),(22,57),(23,57),(24,57),(25,57),(26,57),(27,57),(28,57),(29,57),(30,57),(31,57),(32,57),(33,57),(34,57),(35,57),(36,57),(37,57),(38,57),(39,57),(40,57),(41,57),(42,57),(43,57),(44,57),(45,57),(46,57),(47,57),(48,57),(49,57),(50,57),(51,57),(52,57),(53,57),(54,57),(55,57)]|19=>[(1,3),(2,3),(2,4)]|_=>[]⟩ func13 rfl (λQ M=>?_);have Y:=xa8 @Stp26.c.eq_1 @Rule.c.eq_1 @Mat.c.eq_1 @Host.c.eq_1 @Ovl.d.eq_1 @Ovl.c.eq_1 @Part.c.eq_1 @Part.d.eq_1 @Glued.dd.eq_1 @Glued.c.eq_1;refine lZ (h:=aB (cC) wl ?_);refine lZ (h:=wq (λj=>?_) λj=>?_)
 .have hne:¬ E=0:=by simpa using j
  have y:Z=E:=by rw [l,if_pos hne]
  exact lZ (h:=M _ _ (by simp [go_sem,y,hne,xG,gW,eM,mL,fZ,Stp26.c,Rule.c,Mat.c,Host.c,Cond.F,Cond.w,Cond.map,Cond.n,Ovl.d,Ovl.c,Part.d,Part.c,dLI,dI]))
 .have hg0:E=0:=by simpa using j
  rw [if_neg (eL hg0)] at l;refine lZ (h:=aB (cT hg0) wl ?_);refine lZ (h:=aB (U) wl ?_);refine lZ (h:=wq (λh8=>?_) λh8=>?_)
  .have hne:¬ K=0:=by simpa using h8
   have hw:=wg hg0 hne;have y:Z=K:=by rw [l,if_pos (by rw [hw];exact hne),hw]
   exact lZ (h:=M _ _ (by simp [go_sem,y,hne,xG,gW,eM,mL,fZ,Stp26.c,Rule.c,Mat.c,Host.c,Cond.F,Cond.w,Cond.map,Cond.n,Ovl.d,Ovl.c,Part.d,Part.c,dLI,dI]))
  .have hg1:K=0:=by simpa using h8
   refine lZ (h:=aB (cR hg0 hg1) wl ?_);refine lZ (h:=wq (λG=>?_) λG=>?_)
   .have hne:¬ W=0:=by simpa using G
    have y:Z=W:=by rw [l,if_pos hne]
    exact lZ (h:=M _ _ (by simp [go_sem,y,hne,xG,gW,eM,mL,fZ,Stp26.c,Rule.c,Mat.c,Host.c,Cond.F,Cond.w,Cond.map,Cond.n,Ovl.d,Ovl.c,Part.d,Part.c,dLI,dI]))
   .have hg2:W=0:=by simpa using G
    rw [if_neg (eL hg2)] at l;refine lZ (h:=aI (a3 hg0 hg2) wl ?_);refine lZ (h:=aI (a2 hg0 hg2) wl ?_);refine lZ (h:=aI (u hg0 hg2) wl ?_);refine lZ (h:=wq (λF=>?_) λF=>?_)
    .have hne:¬ w=0:=by simpa using F
     exact lZ (h:=M _ _ (by simp [go_sem,l,hne,xG,gW,eM,mL,fZ,Stp26.c,Rule.c,Mat.c,Host.c,Cond.F,Cond.w,Cond.map,Cond.n,Ovl.d,Ovl.c,Part.d,Part.c,dLI,dI]))
    .have hg3:w=0:=by simpa using F
     have y:Z=0:=by rw [l];exact hg3
     refine oP (h:=aI (a1 hg0 hg2 hg3) wl ?_);refine oP (h:=aI (a0 hg0 hg2 hg3) wl ?_);exact oP (h:=M _ _ (by simp [go_sem,y,Stp26.c,Rule.c,Mat.c,Host.c,Ovl.d,Ovl.c,Part.d,Part.c]))
theorem JE (t:Types)(a b:Stp26)(C:CmHyp t a b)(ca:CmpA t a)(cb:CmpA t b)(cH:∀ i (p:i<a.after.k.length) (n:i<b.D.k.length),Ba a.after.k[i] b.D.k[i]) :
  Pua 14 [t.d,.agg a.c,.agg b.c] (.tup [(XO t a b).d,.agg (W7 t a b).c,(XN t a b).d,dI (V3 t a b)]):=by
 have cV:=nY t C.t;have a4:=yW t C.t a C.ra rfl rfl ca.b ca.a;have a3:=yW t C.t b C.rb rfl rfl cb.b cb.a;have a9:=Ap a.x C.ta;have a8:=Ap b.x C.tb;have a7:=Ao t C.t a.x;have a6:=Ao t C.t b.x;have cH:=Ax a.after b.D cH;obtain ⟨B1,X⟩:∃ B,B=yC t a:=⟨_,rfl⟩;obtain ⟨B2,V⟩:∃ B,B=yC t b:=⟨_,rfl⟩;have D:(decide (oB t a.x a.D a.X=0)&&decide (g7 t a.x a.D a.X=a))=B1:=X.symm;have A:(decide (oB t b.x b.D b.X=0)&&decide (g7 t b.x b.D b.X=b))=B2:=V.symm;rw [D] at a4;rw [A] at a3;obtain ⟨S1,T⟩:∃ B,B=jP a.x:=⟨_,rfl⟩;obtain ⟨S2,S⟩:∃ B,B=jP b.x:=⟨_,rfl⟩;obtain ⟨X1,M⟩:∃ B,B=Pl t a.x:=⟨_,rfl⟩;obtain ⟨X2,L⟩:∃ B,B=Pl t b.x:=⟨_,rfl⟩;have y:(kX t a.x.left.j.h&&kX t a.x.right.j.h)=X1:=M.symm;have w:(kX t b.x.left.j.h&&kX t b.x.right.j.h)=X2:=L.symm;obtain ⟨E0,U⟩:∃ e,e=(cQ t).2:=⟨_,rfl⟩;rw [y] at a7;rw [w] at a6;rw [<- T] at a9;rw [<- S] at a8;rw [<- U] at cV;obtain ⟨E,hE⟩:∃ x,x=MY t a b:=⟨_,rfl⟩;have l:E=if E0≠0 then E0 else if (!B1||!B2)=true then 1 else if (!S1||!S2)=true then 8 else if (!X1||!X2)=true then 13 else if a.after≠b.D then 11 else 0:=by rw [hE,U,X,V,T,S,M,L];rfl
 obtain ⟨W,N⟩:∃ x,x=Zl a b:=⟨_,rfl⟩;obtain ⟨F,q⟩:∃ x,x=cnG t a b:=⟨_,rfl⟩;obtain ⟨O,hO⟩:∃ x,x=EQ a b:=⟨_,rfl⟩;obtain ⟨P,hP⟩:∃ x,x=P7 a b:=⟨_,rfl⟩;obtain ⟨R,hR⟩:∃ x,x=GQ a b:=⟨_,rfl⟩;obtain ⟨d,hd⟩:∃ x,x=Rn a b:=⟨_,rfl⟩;obtain ⟨f,hf⟩:∃ x,x=PD a b:=⟨_,rfl⟩;obtain ⟨v,hv⟩:∃ x,x=Lz t a b:=⟨_,rfl⟩;obtain ⟨I,hI⟩:∃ x,x=cnI t a b:=⟨_,rfl⟩;obtain ⟨Z,hZ⟩:∃ x,x=V3 t a b:=⟨_,rfl⟩;have k:Z=if E≠0 then E else if W≠0 then W else F:=by rw [hZ,hE,N,q];rfl
 have j:E=0->CmGood t a b:=λh=>SE C.ra C.rb (by rw [<- hE];exact h);have cT:E=0->Pua 50 [a.x.right.j.d,b.x.left.j.d,a.after.j.d,a.M.d,b.X.m.d] (.tup [O.d,P.d,dI 0]):=λh=>by
  rw [hO,hP];exact JP _ _ _ _ _ (j h).i1 (j h).i2
 have cW:E=0->Pua 51 [a.x.d,b.x.d,O.d] (.tup [R.d,d.d,f.d,dI W]):=λh=>by
  rw [hO,hR,hd,hf,N];exact Fo a.x b.x (EQ a b) C.ra C.rb (λn=>w4 (j h).g n)
 obtain ⟨m1,H⟩:∃ m,m=(PC a b).h:=⟨_,rfl⟩;obtain ⟨m2,G⟩:∃ m,m=(PC a b).i:=⟨_,rfl⟩;have b3:E=0->W=0->Pua 52 [dLI d.h,dLI P.h,dLI a.Q.h,dLI a.X.m.h,dLI a.x.u.h] (dLI m1):=λp n=>by
  obtain ⟨⟨q1,q2⟩,_,⟨d1,d2⟩,_,l1,l2⟩:=(j p).ahead (by rw [<- N];exact n);rw [H,hd,hP];exact Fu _ _ _ _ _ q1 d1 l1
 have b2:E=0->W=0->Pua 52 [dLI d.i,dLI P.i,dLI a.Q.i,dLI a.X.m.i,dLI a.x.u.i] (dLI m2):=λp n=>by
  obtain ⟨⟨q1,q2⟩,_,⟨d1,d2⟩,_,l1,l2⟩:=(j p).ahead (by rw [<- N];exact n);rw [G,hd,hP];exact Fu _ _ _ _ _ q2 d2 l2
 have u:E=0->W=0->Pua 36 [t.d,R.d,a.D.d,.agg [dLI m1,dLI m2,.nil]] (.tup [.agg v.c,dI F]):=λp n=>by
  have ro:=((j p).x (by rw [<- N];exact n)).1;have:=GS t C.t (GQ a b) ro a.D ⟨PC a b,[]⟩ (v:=v) (e:=F) hv q;rw [show (⟨PC a b,[]⟩:Mat)=⟨⟨m1,m2⟩,[]⟩ by rw [H,G]] at this;rw [hR];exact this.de (Kp t (GQ a b) a.D m1 m2)
 have bh:E=0->W=0->F=0->_:=λp n h3=>(j p).dc (by rw [<- N];exact n) (by rw [<- q];exact h3);obtain ⟨i1,K⟩:∃ m,m=I.h:=⟨_,rfl⟩;obtain ⟨i2,J⟩:∃ m,m=I.i:=⟨_,rfl⟩;have b1:E=0->W=0->F=0->Pua 53 [dI v.after.j.h.length,dLI v.Q.h,dLI a.Q.h,dLI b.Q.h,dLI v.M.h,dLI f.h,dLI P.h,dLI b.M.h,dLI b.x.A.h] (dLI i1):=λp n h3=>by
  rw [K,hI,hv,hP,hf];exact C7 _ _ _ _ _ _ _ _ _ (bh p n h3).1
 have b0:E=0->W=0->F=0->Pua 53 [dI v.after.j.i.length,dLI v.Q.i,dLI a.Q.i,dLI b.Q.i,dLI v.M.i,dLI f.i,dLI P.i,dLI b.M.i,dLI b.x.A.i] (dLI i2):=λp n h3=>by
  rw [J,hI,hv,hP,hf];exact C7 _ _ _ _ _ _ _ _ _ (bh p n h3).2
 have a5:I=⟨i1,i2⟩:=by rw [K,J]
 have hA:XO t a b=if Z=0 then O else xG:=by rw [hZ,hO];rfl
 have hT:W7 t a b=if Z=0 then v else gW:=by rw [hZ,hv];rfl
 have hJ:XN t a b=if Z=0 then ⟨i1,i2⟩ else ⟨[],[]⟩:=by rw [hZ,<- a5,hI];rfl
 rw [hA,hT,hJ,<- hZ];simp only [Stp26.c,Rule.c,Mat.c,Host.c,dP,dS] at a4 a3 u;unfold Rule.d Host.d at u;simp only [Rule.c,Host.c] at u;clear hA hT hJ hZ hv q hI K J a5 j bh H G hO hP hR N hE hd hf X V D A T S M L y w U ca cb;refine Tz.pK ⟨λt=>t==6||t==7||t==8||t==12||t==13||t==15||t==16||t==17||t==19||t==20||t==21,λr=>match r with|16=>[(0,33),(1,33),(2,33),(3,33),(4,33),(5,33),(6,33),(7,33),(8,33),(9,33),(10,33),(11,33),(12,33),(13,33),(14,33),(15,33),(16,33),(17,33),(18,33),(19,33),(20,33),(21,33),(22,33),(23,33),(24,33),(25,33),(26,33),(27,33),(28,33),(29,33),(30,33),(31,33)]|20=>[(0,59),(1,59),(2,59),(3,59),(4,59),(5,59),(6,59),(7,59),(8,59),(9,59),(10,59),(11,59),(12,59),(13,59),(14,59),(15,59),(16,59),(17,59),(18,59),(19,59),(20,59),(21,59),(22,59),(23,59),(24,59),(25,59),(26,59),(27,59),(28,59),(29,59),(30,59),(31,59),(32,59),(33,59),(34,59),(35,59),(36,59),(37,59),(38,59),(39,59),(40,59),(41,59),(42,59),(43,59),(44,59),(45,59),(46,59),(47,59),(48,59),(49,59),(50,59),(51,59),(52,59),(53,59),(54,59),(55,59),(56,59),(57,59)]|21=>[(1,3),(2,3),(2,4)]|_=>[]⟩ func14 rfl (λQ z=>?_);have Y:=xa6 @Stp26.c.eq_1 @Rule.c.eq_1 @Mat.c.eq_1 @Host.c.eq_1 @Ovl.d.eq_1 @Ovl.c.eq_1 @Part.c.eq_1 @Part.d.eq_1;refine lZ (h:=aB (cV) wl ?_);refine lZ (h:=wq (λn=>?_) λn=>?_)
 .have hne:¬ E0=0:=by simpa using n
  have s:E=E0:=by rw [l,if_pos hne]
  have o:Z=E0:=by rw [k,s,if_pos hne]
  exact lZ (h:=z _ _ (by simp [go_sem,o,hne,xG,gW,eM,mL,fZ,Stp26.c,Rule.c,Mat.c,Host.c,Cond.F,Cond.w,Cond.map,Cond.n,Ovl.d,Ovl.c,Part.d,Part.c,dLI,dI]))
 .rw [if_neg (eL n)] at l;refine oP (h:=aB (a4) wl ?_);refine oP (h:=aG (λhg=>a3) (λhg=>wl) ?_);refine oP (h:=wq (λh4=>?_) λh4=>?_)
  .have s:E=1:=by rw [l,if_pos (by revert h4;cases B1<;>cases B2<;>simp)]
   have o:Z=1:=by rw [k,s,if_pos (by decide)]
   exact lZ (h:=z _ _ (by simp [go_sem,o,xG,gW,eM,mL,fZ,Stp26.c,Rule.c,Mat.c,Host.c,Cond.F,Cond.w,Cond.map,Cond.n,Ovl.d,Ovl.c,Part.d,Part.c,dLI,dI]))
  .rw [if_neg (by revert h4;cases B1<;>cases B2<;>simp)] at l;refine oP (h:=aB (a9) wl ?_);refine oP (h:=aG (λhg=>a8) (λhg=>wl) ?_);refine oP (h:=wq (λh6=>?_) λh6=>?_)
   .have s:E=8:=by rw [l,if_pos (by revert h6;cases S1<;>cases S2<;>simp)]
    have o:Z=8:=by rw [k,s,if_pos (by decide)]
    exact lZ (h:=z _ _ (by simp [go_sem,o,xG,gW,eM,mL,fZ,Stp26.c,Rule.c,Mat.c,Host.c,Cond.F,Cond.w,Cond.map,Cond.n,Ovl.d,Ovl.c,Part.d,Part.c,dLI,dI]))
   .rw [if_neg (by revert h6;cases S1<;>cases S2<;>simp)] at l;refine oP (h:=aB (a7) wl ?_);refine oP (h:=aG (λhg=>a6) (λhg=>wl) ?_);refine oP (h:=wq (λh8=>?_) λh8=>?_)
    .have s:E=13:=by rw [l,if_pos (by revert h8;cases X1<;>cases X2<;>simp)]
     have o:Z=13:=by rw [k,s,if_pos (by decide)]
     exact lZ (h:=z _ _ (by simp [go_sem,o,xG,gW,eM,mL,fZ,Stp26.c,Rule.c,Mat.c,Host.c,Cond.F,Cond.w,Cond.map,Cond.n,Ovl.d,Ovl.c,Part.d,Part.c,dLI,dI]))
    .rw [if_neg (by revert h8;cases X1<;>cases X2<;>simp)] at l;refine oP (h:=aB (cH) wl ?_);refine oP (h:=wq (λa2=>?_) λa2=>?_)
     .have s:E=11:=by rw [l,if_pos (eL a2)]
      have o:Z=11:=by rw [k,s,if_pos (by decide)]
      exact lZ (h:=z _ _ (by simp [go_sem,o,xG,gW,eM,mL,fZ,Stp26.c,Rule.c,Mat.c,Host.c,Cond.F,Cond.w,Cond.map,Cond.n,Ovl.d,Ovl.c,Part.d,Part.c,dLI,dI]))
     .have hg0:E=0:=by rw [l,if_neg (eL a2)]
      rw [if_neg (eL hg0)] at k;refine lZ (h:=aB (cT hg0) wl ?_);refine lZ (h:=aB (cW hg0) wl ?_);refine lZ (h:=wq (λa1=>?_) λa1=>?_)
      .have hne:¬ W=0:=by simpa using a1
       have o:Z=W:=by rw [k,if_pos hne]
       exact lZ (h:=z _ _ (by simp [go_sem,o,hne,xG,gW,eM,mL,fZ,Stp26.c,Rule.c,Mat.c,Host.c,Cond.F,Cond.w,Cond.map,Cond.n,Ovl.d,Ovl.c,Part.d,Part.c,dLI,dI]))
      .have hg2:W=0:=by simpa using a1
       rw [if_neg (eL hg2)] at k;refine lZ (h:=aI (b3 hg0 hg2) wl ?_);refine lZ (h:=aI (b2 hg0 hg2) wl ?_);refine lZ (h:=aB (u hg0 hg2) wl ?_);refine lZ (h:=wq (λa0=>?_) λa0=>?_)
       .have hne:¬ F=0:=by simpa using a0
        exact lZ (h:=z _ _ (by simp [go_sem,k,hne,xG,gW,eM,mL,fZ,Stp26.c,Rule.c,Mat.c,Host.c,Cond.F,Cond.w,Cond.map,Cond.n,Ovl.d,Ovl.c,Part.d,Part.c,dLI,dI]))
       .have hg3:F=0:=by simpa using a0
        have o:Z=0:=by rw [k];exact hg3
        refine oP (h:=aI (b1 hg0 hg2 hg3) wl ?_);refine oP (h:=aI (b0 hg0 hg2 hg3) wl ?_);exact oP (h:=z _ _ (by simp [go_sem,o,Stp26.c,Rule.c,Mat.c,Host.c,Ovl.d,Ovl.c,Part.d,Part.c]))
def AK (t:Types)(s:Stp26):Bool:=Cn t s&&decide ((s.after.j.h.length:Int)<=9)&&decide ((s.after.j.i.length:Int)<=14)
theorem N4 (t:Types)(f:∀ n∈t.h,n.y.length<=1000000000000000)(s:Stp26)(b:s.le):Pua 41 [t.d,.agg s.c] (.bool (AK t s)):=by
 have a:=zI t f s b;unfold AK;generalize Cn t s=z at *;simp only [Stp26.c,Rule.c,Mat.c,Host.c,dP,dS] at a;refine Tz.p0 func41 rfl λQ e _=>?_;have Y:=xa2 @Stp26.c.eq_1 @Rule.c.eq_1 @Mat.c.eq_1 @Host.c.eq_1;refine Gf (h:=aB (a) wl ?_);exact Gf (h:=e _ _ (by simp [go_sem,gA]))
theorem FJ (t:Types)(b:∀ n∈t.h,n.y.length<=1000000000000000)(s:Stp26)(a:s.le):Pua 12 [t.d,.agg s.c] (.bool (AK t s&&mE t s.x)):=by
 have e:=N4 t b s a;have i:=Cf t b s.x a.r;generalize AK t s=z at *;generalize mE t s.x=y at *;simp only [Stp26.c,Rule.c,Mat.c,Host.c,dP,dS] at e;refine Tz.p0 func12 rfl λQ g _=>?_;have Y:=xa2 @Stp26.c.eq_1 @Rule.c.eq_1 @Mat.c.eq_1 @Host.c.eq_1;refine Gf (h:=aB (e) wl ?_);refine Gf (h:=aG (λf=>i) (λf=>wl) ?_);exact Gf (h:=g _ _ wy)
theorem xL (t:Types)(w:∀ n∈t.h,n.y.length<=1000000000000000)(a b:Stp26){B:Nat}(x:B<=1000000000000000)(A:a.bd B)(y:b.bd B) :
  Pua 4 [t.d,.agg a.c,.agg b.c] (.bool true):=by
 have q:=FJ t w a (Stp26.a8 x A);have p:=FJ t w b (Stp26.a8 x y);obtain ⟨v,m⟩:∃ z,z=(AK t a&&mE t a.x):=⟨_,rfl⟩;obtain ⟨r,l⟩:∃ z,z=(AK t b&&mE t b.x):=⟨_,rfl⟩;rw [<- m] at q;rw [<- l] at p;have k:∀ s:Stp26,(AK t s&&mE t s.x)=true->t.ok/\s.x.ok/\s.x.aq:=λs h=>by
  unfold AK mE at h;simp only [aL] at h;exact ⟨(Lb h.1.1.1).1,(uN h.2.1.2).1,(uN h.2.1.2).2⟩
 have f:v=true->r=true->CmHyp t a b:=λj o=>by
  obtain ⟨R,P,N⟩:=k a (by rw [<- m];exact j);obtain ⟨_,M,L⟩:=k b (by rw [<- l];exact o);exact ⟨R,P,M,N,L⟩
 have F:v=true->r=true->Pua 13 [t.d,.agg a.c,.agg b.c] (.tup [(XO t a b).d,.agg (W7 t a b).c,(XN t a b).d,dI (V3 t a b)]):=λj o=>CA t a b (f j o);have E:v=true->r=true->Pua 14 [t.d,.agg a.c,.agg b.c] (.tup [(XO t a b).d,.agg (W7 t a b).c,(XN t a b).d,dI (V3 t a b)]):=λj o =>
  JE t a b (f j o) (M4 x A (f j o).ra) (M4 x y (f j o).rb) λi K I=>by
   have H:=A.a _ (aC K);have G:=y.b _ (aC I);exact PF H.2 G.2 bZ bZ
 have C:=vD (W7 t a b) (W7 t a b) (λi _ _=>rR _) (λi _ _=>rR _);have S:=Cg (XO t a b);have T:=Ay (XN t a b);generalize W7 t a b=u at *;generalize XO t a b=O at *;generalize XN t a b=J at *;generalize V3 t a b=e at *;rw [show decide (u=u)=true by simp] at C;simp only [Stp26.c,Rule.c,Mat.c,Host.c,dP,dS] at q p F E C;clear m l f k;refine Tz.pK ⟨λt=>t==7||t==8||t==9||t==11||t==12||t==13,λ_=>[]⟩ func4 rfl (λQ D=>?_);have Y:=xa6 @Ovl.d.eq_1 @Ovl.c.eq_1 @Stp26.c.eq_1 @Rule.c.eq_1 @Mat.c.eq_1 @Host.c.eq_1 @Part.d.eq_1 @Part.c.eq_1;refine oP (h:=aB (vN) wl ?_);refine oP (h:=aG (λg=>q) (λg=>wl) ?_);refine oP (h:=aG (λg=>p) (λg=>wl) ?_);refine oP (h:=wq (λj=>?_) λj=>?_)
 .refine lZ (h:=aB (vN) wl ?_);have Y:=wa Y j;exact lZ (h:=D _ _ wy)
 .have g:v=true/\r=true:=by
   revert j;cases v<;>cases r<;>simp
  refine lZ (h:=aB (F g.1 g.2) wl ?_);refine lZ (h:=aB (E g.1 g.2) wl ?_);refine oP (h:=aG (λg=>S) (λg=>wl) ?_);refine oP (h:=aG (λg=>C) (λg=>wl) ?_);refine oP (h:=aG (λg=>T) (λg=>wl) ?_);have Y:=wa Y j;exact oP (h:=D _ _ wy)
end Go.Abs
end
