/- Plain law of undoing a step: the undoing rule, isomorphic ho -/
import Derived.Test.YtbgbahlipnaflaaGreatZuAV
import Derived.Test.YtbgbahlipnaflaaGreatZuAG
import Derived.Test.YtbgbahlipnaflaaGreatZuAA
set_option linter.unusedVariables false
set_option linter.unusedSimpArgs false
section
set_option maxRecDepth 100000
set_option maxHeartbeats 4000000
open Go Go.Proofs Tryz
namespace Go.Abs
def Ux:Pattern:=⟨⟨[],[]⟩,[],0,[]⟩
def nT (s:Stp26)(i:Nat):V2:=s.L.k[(iA s.V.m.h i).toNat]?.getD []
def Jy (t:Types)(s:Stp26)(i k:Nat):Int :=
 if mem s.G.q.h i=true then (s.after.k[(iA s.U.h (iA s.V.m.h i)).toNat]?.getD [])[k]?.getD 0 else ((bQ t (gN s.L.i (iA s.V.m.h i)))[k]?.getD nJ).ap
def lY (t:Types)(s:Stp26)(i k:Nat):List Slot:=if (nT s i)[k]?.getD 0≠Jy t s i k then [⟨i,k,⟨-1,(nT s i)[k]?.getD 0⟩⟩] else []
def sN (t:Types)(s:Stp26)(i n:Nat):List Slot:=(List.range n).flatMap (lY t s i)
def iZ (t:Types)(s:Stp26)(n:Nat):List Slot:=(List.range n).flatMap λi=>sN t s i (nT s i).length
def gQ (r:Rule):Part:=⟨fF r.s.h r.right.i.h.length,fF r.s.j r.right.i.j.length⟩
def iT (r:Rule):Part:=⟨cZ (gQ r).h r.s.h r.q.h,cZ (gQ r).j r.s.j r.q.j⟩
def c9 (t:Types)(s:Stp26):Rule :=
 ⟨s.G.name,⟨kU s.G.right.i s.after.i s.A,[],0,[]⟩,⟨kU s.G.left.i s.L.i s.V.m,iZ t s s.V.m.h.length,0,[]⟩,gQ s.G,iT s.G,
  decide s.A.h.Nodup&&decide s.A.j.Nodup,.mk 1 [] ⟨[],[]⟩ Ux⟩
theorem pC {t:Types}{s:Stp26}{n:Nat}{x:Slot}:x∈iZ t s n↔∃ i,i<n/\∃ k,k<(nT s i).length/\(nT s i)[k]?.getD 0≠Jy t s i k/\x=⟨i,k,⟨-1,(nT s i)[k]?.getD 0⟩⟩:=by
 unfold iZ sN lY;simp only [bT,aW];refine exists_congr λi=>and_congr_right λ_=>exists_congr λk=>and_congr_right λ_=>?_;split
 .rename_i h;simp [h]
 .rename_i h;simp [h]
structure HIso (a b:Host) (s:Part):Prop where
 nl:s.h.length=a.i.h.length
 el:s.j.length=a.i.j.length
 nn:a.i.h.length=b.i.h.length
 en:a.i.j.length=b.i.j.length
 av:a.k.length=a.i.h.length
 bv:b.k.length=b.i.h.length
 ni:∀ x∈s.h,0<=x/\x<b.i.h.length
 ei:∀ x∈s.j,0<=x/\x<b.i.j.length
 nd:s.h.Nodup
 ed:s.j.Nodup
 ty:∀ p:Int,0<=p->p<a.i.h.length->gN a.i p=gN b.i (iA s.h p)
 eg:∀ p:Int,0<=p->p<a.i.j.length->eA b.i (iA s.j p)=⟨(eA a.i p).type,iA s.h (eA a.i p).w,iA s.h (eA a.i p).M⟩
 va:∀ p:Int,0<=p->p<a.i.h.length->a.k[p.toNat]?.getD []=b.k[(iA s.h p).toNat]?.getD []
def Wr (l:V2)(k:Nat):List (Int × Int):=(List.range k).map λ(i:Nat)=>(iA l i,(i:Int))
def oG (l:V2):V2:=oJ (Wr l l.length) (List.replicate l.length 0)
theorem AM {l:V2}{n:Nat}(e:l.length=n)(c:∀ x∈l,0<=x/\x<n)(d:l.Nodup){v:Int}(h:0<=v/\v<n):v∈l:=by
 have f:=CW c d;refine aY λb=>?_;have a:v∈bG l n:=dV.2 ⟨h,b⟩;rw [bJ (aD:(bG l n).length=0)] at a;cases a
theorem Gr {l:V2}{n:Nat}(d:l.length=n)(b:∀ x∈l,0<=x/\x<n)(g:l.Nodup){y:Int}(j:0<=y)(h:y<n):(0<=iA (oG l) y/\iA (oG l) y<n)/\iA l (iA (oG l) y)=y:=by
 have:=Gh (R:=λp v=>(0<=v/\v<n)/\iA l v=p) (Wr l l.length) (List.replicate l.length 0) (λq c=>by
  unfold Wr at c;obtain ⟨i,a,rfl⟩:=aX.1 c;have e:=aW.1 a;exact ⟨⟨by simp only;omega,rfl⟩,(b _ (d7 aD aD)).1⟩) y.toNat (by simp;omega) (.inr (by
  obtain ⟨i,a,f⟩:=mO (AM d b g ⟨j,h⟩);refine ⟨i,?_⟩;unfold Wr;exact aX.2 ⟨i,aW.2 a,by rw [f];congr 1;omega⟩))
 rw [show ((y.toNat:Nat):Int)=y by omega] at this;exact this
theorem Ml {l:V2}{n:Nat}(d:l.length=n)(b:∀ x∈l,0<=x/\x<n)(c:l.Nodup){x:Int}(f:0<=x)(h:x<n):(0<=iA l x/\iA l x<n)/\iA (oG l) (iA l x)=x:=by
 have a:=b _ (d7 f (by omega:x<l.length));obtain ⟨g,e⟩:=Gr d b c a.1 a.2;refine ⟨a,?_⟩;have:=BV c (i:=(iA (oG l) (iA l x)).toNat) (j:=x.toNat) aD aD (by
  rw [show (((iA (oG l) (iA l x)).toNat:Nat):Int)=iA (oG l) (iA l x) by omega,show ((x.toNat:Nat):Int)=x by omega];exact e)
 omega
section
variable {t:Types} {r:Rule} {h:Host} {m:Mat}
theorem StepIn.ak (S:StepIn t r h m):Srt r.q.h r.s.h m.m.h r.left.i.h.length r.right.i.h.length h.i.h.length :=
 ⟨S.hR.q.1.1,S.hR.q.2.1,S.hR.q.2.2.2.1,S.cg.1,S.hm.len,S.dy,S.fj.1⟩
theorem StepIn.ba (S:StepIn t r h m):Srt r.q.j r.s.j m.m.j r.left.i.j.length r.right.i.j.length h.i.j.length :=
 ⟨S.hR.q.1.2,S.hR.q.2.2.1,S.hR.q.2.2.2.2,S.cg.2,S.hm.cb,S.hq,S.fj.2⟩
theorem StepIn.bg (S:StepIn t r h m):(bW r h m).h=l7 r.q.h m.m.h h.i.h.length:=by rw [S.cG];rfl
theorem StepIn.bs (S:StepIn t r h m):(bW r h m).j=l7 r.q.j m.m.j h.i.j.length:=by rw [S.cG];rfl
theorem StepIn.bz (S:StepIn t r h m):(dG r h m).h=nD r.q.h m.m.h h.i.h.length:=by unfold dG nD;rw [S.bg]
theorem StepIn.cF (S:StepIn t r h m):(dG r h m).j=nD r.q.j m.m.j h.i.j.length:=by unfold dG nD;rw [S.bs]
theorem StepIn.bc (S:StepIn t r h m):(cT r h m).h=tL r.q.h r.s.h m.m.h r.right.i.h.length h.i.h.length:=by unfold cT tL;rw [S.bg,S.bz]
theorem StepIn.b0 (S:StepIn t r h m):(cT r h m).j=tL r.q.j r.s.j m.m.j r.right.i.j.length h.i.j.length:=by unfold cT tL;rw [S.bs,S.cF]
theorem StepIn.b3 (S:StepIn t r h m):(bM t r h m).i.h.length=(l7 r.q.h m.m.h h.i.h.length).length+(bG r.s.h r.right.i.h.length).length:=by
 show (bS t r h m).i.h.length=_;rw [S.bt,aQ,aR,aR,S.bg];rfl
theorem StepIn.bN (S:StepIn t r h m):(bM t r h m).i.j.length=(l7 r.q.j m.m.j h.i.j.length).length+(bG r.s.j r.right.i.j.length).length:=by
 show (bS t r h m).i.j.length=_;rw [S.ch,aQ,aR,aR,S.bs];rfl
end
structure BackI (t:Types) (r:Rule) (h:Host) (m:Mat) (g:Host) (m0:Part) (m':Mat):Prop where
 K:StepOk t r h m
 I:HIso g (bM t r h m) m0
 bn:m'.m.h=(cT r h m).h.map λk=>iA (oG m0.h) k
 be:m'.m.j=(cT r h m).j.map λk=>iA (oG m0.j) k
 T:StepIn t (c9 t (aP t r h m)) g m'
structure Back (t:Types) (r:Rule) (h:Host) (m:Mat) (g:Host) (m0:Part) (m':Mat):Prop where
 K:StepOk t r h m
 I:HIso g (bM t r h m) m0
 bn:m'.m.h=(cT r h m).h.map λk=>iA (oG m0.h) k
 be:m'.m.j=(cT r h m).j.map λk=>iA (oG m0.j) k
 K':StepOk t (c9 t (aP t r h m)) g m'
def aa1 (T T' c' mm:Part)(b:Part)(nn ne:Nat):Part:=⟨BN (lW T.h b.h) T'.h c'.h mm.h nn,BN (lW T.j b.j) T'.j c'.j mm.j ne⟩
section
variable {t:Types} {r:Rule} {h g:Host} {m m':Mat} {m0:Part}
theorem t8 {l:V2}(f:Int->Int){k:Int}(b:0<=k)(h:k<l.length):iA (l.map f) k=f (iA l k):=by
 have a:k.toNat<l.length:=aD;unfold iA;rw [aM,aA a];rfl
theorem BackI.ct (B:BackI t r h m g m0 m'):Und r.q.h r.s.h m.m.h m0.h (oG m0.h) m'.m.h r.left.i.h.length r.right.i.h.length h.i.h.length g.i.h.length where
 S:=B.K.S.ak
 n:=by rw [B.I.nn];exact B.K.S.b3
 to x h0 h1:=Ml B.I.nl (by rw [B.I.nn];exact B.I.ni) B.I.nd h0 h1
 of x h0 h1:=Gr B.I.nl (by rw [B.I.nn];exact B.I.ni) B.I.nd h0 h1
 m y h0 h1:=by rw [B.bn,t8 _ h0 (by rw [B.K.S.bc,eM];omega),B.K.S.bc]
 S':=by
  have hS:=B.T.ak;have e1:(c9 t (aP t r h m)).left.i.h.length=r.right.i.h.length:=by show ((cT r h m).h.map _).length=_;rw [aR,B.K.S.bc,eM]
  have e2:(c9 t (aP t r h m)).right.i.h.length=r.left.i.h.length:=by show (m.m.h.map _).length=_;rw [aR];exact B.K.S.hm.len
  rw [e1,e2] at hS;exact hS
theorem BackI.dg (B:BackI t r h m g m0 m'):Und r.q.j r.s.j m.m.j m0.j (oG m0.j) m'.m.j r.left.i.j.length r.right.i.j.length h.i.j.length g.i.j.length where
 S:=B.K.S.ba
 n:=by rw [B.I.en];exact B.K.S.bN
 to x h0 h1:=Ml B.I.el (by rw [B.I.en];exact B.I.ei) B.I.ed h0 h1
 of x h0 h1:=Gr B.I.el (by rw [B.I.en];exact B.I.ei) B.I.ed h0 h1
 m y h0 h1:=by rw [B.be,t8 _ h0 (by rw [B.K.S.b0,eM];omega),B.K.S.b0]
 S':=B.T.ba
theorem Back.ct (B:Back t r h m g m0 m'):Und r.q.h r.s.h m.m.h m0.h (oG m0.h) m'.m.h r.left.i.h.length r.right.i.h.length h.i.h.length g.i.h.length:=(BackI.mk B.K B.I B.bn B.be B.K'.S).ct
theorem Back.dg (B:Back t r h m g m0 m'):Und r.q.j r.s.j m.m.j m0.j (oG m0.j) m'.m.j r.left.i.j.length r.right.i.j.length h.i.j.length g.i.j.length:=(BackI.mk B.K B.I B.bn B.be B.K'.S).dg
theorem Back.bj (B:Back t r h m g m0 m'):(c9 t (aP t r h m)).left.i.h.length=r.right.i.h.length/\(c9 t (aP t r h m)).right.i.h.length=r.left.i.h.length :=
 ⟨by show ((cT r h m).h.map _).length=_;rw [aR,B.K.S.bc,eM],by show (m.m.h.map _).length=_;rw [aR];exact B.K.S.hm.len⟩
end
section
variable {t:Types} {r:Rule} {h:Host} {m:Mat}
theorem StepIn.ee (S:StepIn t r h m){f:Nat}(a:f<r.N.length):gN (bS t r h m).i ((bW r h m).h.length+f:Nat)=gN r.right.i (iA r.N f) /\
  (bS t r h m).k[(bW r h m).h.length+f]?.getD []=i4 t (gN r.right.i (iA r.N f)):=by
 rw [iD a];constructor
 .unfold gN;rw [Int.toNat_natCast,S.bt,bD aE,aR,wG,aM,aA a];rfl
 .rw [Lj,bD aE,aR,wG,aM,aA a];rfl
theorem StepIn.fv (S:StepIn t r h m){f:Nat}(a:f<r.aa.length):eA (bS t r h m).i ((bW r h m).j.length+f:Nat)=freshE (cT r h m) (eA r.right.i (iA r.aa f)):=by
 rw [iD a];unfold eA;rw [Int.toNat_natCast,S.ch,bD aE,aR,wG,aM,aA a];rfl
theorem HostOk.cm (c:HostOk t h){v:Int}(f:0<=v)(e:v<h.i.h.length):(h.k[v.toNat]?.getD []).length=(bQ t (gN h.i v)).length:=by
 have d:=c.vl;have a:v.toNat<h.i.h.length:=aD;have b:v.toNat<h.k.length:=aD;have:=(qK (c.nd v.toNat a b)).2.2.1;rw [aA b,Option.getD_some,this];unfold gN;rw [aA a];rfl
end
section
variable {t:Types} {r:Rule} {h g:Host} {m m':Mat} {m0:Part}
theorem Back.val (B:Back t r h m g m0 m'){p:Nat}{v:Int}(hR:DK r.q.h r.s.h m.m.h m0.h m'.m.h r.left.i.h.length r.right.i.h.length h.i.h.length g.i.h.length p v)
  (hp:p<(bM t (c9 t (aP t r h m)) g m').i.h.length):(bM t (c9 t (aP t r h m)) g m').k[p]?.getD []=h.k[v.toNat]?.getD []:=by
 have U:=B.ct;have K:=B.K;have K':=B.K';obtain ⟨u,n⟩:=c6 (c9 t (aP t r h m));have N:=(U.range hR).2;have hh:=K.S.ho;have ex:u.right.o=iZ t (aP t r h m) m.m.h.length:=by rw [n];rfl
 have eN:(dG r h m).h=_:=K.S.bz;have eT:(dG u g m').h=nD (fF r.s.h r.right.i.h.length) m'.m.h g.i.h.length:=by rw [n];exact K'.S.bz
 have eC:(cT u g m').h=tL (fF r.s.h r.right.i.h.length) (cZ (fF r.s.h r.right.i.h.length) r.s.h r.q.h) m'.m.h r.left.i.h.length g.i.h.length:=by
  have:=K'.S.bc;rw [B.bj.2] at this;rw [n];exact this
 have b4:m.m.h.length=r.left.i.h.length:=K.S.hm.len;rw [<- n] at K' hp ⊢;obtain ⟨r1,r2⟩:=K'.d6;have a9:=K'.S.cr;have a1:p<(bS t u g m').k.length:=by rw [a9];exact hp
 have J:∀ {s:Slot} {i k:Nat},i<m.m.h.length->k<(nT (aP t r h m) i).length->s=⟨i,k,⟨-1,(nT (aP t r h m) i)[k]?.getD 0⟩⟩->l8 (cT u g m') s=p->iA m.m.h i=v:=by
  intro s i k hi z o he;have H:DK r.q.h r.s.h m.m.h m0.h m'.m.h r.left.i.h.length r.right.i.h.length h.i.h.length g.i.h.length p (iA m.m.h i):=by
   refine .inr ⟨i,aD,?_,rfl⟩;rw [<- he,o,<- eC];rfl
  exact U.ew H hR
 have some_:∀ {a x:Int},FA (cT u g m') m'.vars u.right.o p a=some x->x=(h.k[v.toNat]?.getD [])[a.toNat]?.getD 0:=by
  intro a x T;obtain ⟨s,o,e1,e2,e3⟩:=A5 T;rw [ex] at o;obtain ⟨i,hi,k,z,O,rfl⟩:=pC.1 o;have c:=J hi z rfl e1;rw [<- e3,<- e2];unfold dM;simp only;rw [if_pos aD];unfold nT;simp only [aP];rw [c];simp
 have none_:∀ {a:Nat} {j:Int},(0<=j/\j<r.left.i.h.length)->iA m.m.h j=v->a<(h.k[v.toNat]?.getD []).length->FA (cT u g m') m'.vars u.right.o p a=none->Jy t (aP t r h m) j.toNat a=(h.k[v.toNat]?.getD [])[a]?.getD 0:=by
  intro a j A c G P;refine aY λO=>?_;have e0:nT (aP t r h m) j.toNat=h.k[v.toNat]?.getD []:=by
   unfold nT;simp only [aP];rw [show ((j.toNat:Nat):Int)=j by omega,c]
  have o:(⟨(j.toNat:Nat),a,⟨-1,(nT (aP t r h m) j.toNat)[a]?.getD 0⟩⟩:Slot)∈u.right.o:=by
   rw [ex];exact pC.2 ⟨j.toNat,aD,a,by rw [e0];exact G,by rw [e0];exact λe=>O e.symm,rfl⟩
  have z:l8 (cT u g m') ⟨(j.toNat:Nat),a,⟨-1,(nT (aP t r h m) j.toNat)[a]?.getD 0⟩⟩=p:=by
   have H:DK r.q.h r.s.h m.m.h m0.h m'.m.h r.left.i.h.length r.right.i.h.length h.i.h.length g.i.h.length (iA (cT u g m').h j) v:=.inr ⟨j,A,by rw [eC],c⟩;have:=U.inj H hR;rw [<- this];unfold l8 iA;rw [Int.toNat_natCast]
  have:=Rq K'.hv o;rw [z] at this;simp only at this;rw [P] at this;cases this
 have L:∀ {w:V2},(bS t u g m').k[p]?.getD []=w->w.length=(h.k[v.toNat]?.getD []).length->(∀ a:Nat,a<(h.k[v.toNat]?.getD []).length->FA (cT u g m') m'.vars u.right.o p a=none->w[a]?.getD 0=(h.k[v.toNat]?.getD [])[a]?.getD 0) ->
   (bM t u g m').k[p]?.getD []=h.k[v.toNat]?.getD []:=by
  intro w W hl hN;have C:=r2 p;rw [W] at C;refine e9 aD λa h1 H=>?_;have c:=K'.value a1 (a:=a) (by rw [W];omega);rw [W] at c;have e1:((bM t u g m').k[p]?.getD [])[a]=(FA (cT u g m') m'.vars u.right.o p a).getD (w[a]?.getD 0):=by
   rw [aA h1] at c;exact Option.some.inj c
  have e2:(h.k[v.toNat]?.getD [])[a]=(h.k[v.toNat]?.getD [])[a]?.getD 0:=by rw [aA H];rfl
  rw [e1,e2];cases Z:FA (cT u g m') m'.vars u.right.o p a with
  | none=>exact hN a H Z
  | some x=>exact some_ Z
 rcases U.cases hR with ⟨x,T,hT,c,b1⟩|⟨j,f,A,a4,hf,a7,b3,c⟩
 .have hxr:=(U.S'.aq.1 T).1;have F:g.k[x.toNat]?.getD []=(bM t r h m).k[(iA m0.h x).toNat]?.getD []:=B.I.va x hxr.1 hxr.2;rw [<- b1] at F;obtain ⟨q,q1,q2,q3⟩:=U.S.a6 c;have d:=K.eb (i:=v.toNat) aD (by rw [eN,show ((v.toNat:Nat):Int)=v by omega,q1];omega);rw [eN,show ((v.toNat:Nat):Int)=v by omega] at d;have a8:(bS t u g m').k[p]?.getD []=g.k[x.toNat]?.getD []:=by
   obtain ⟨q',b2,M,V⟩:=U.S'.a6 T;have a0:p=q':=aD;have l:(bW u g m').h=l7 (fF r.s.h r.right.i.h.length) m'.m.h g.i.h.length:=by rw [n];exact B.K'.S.bg
   rw [Lj,aS (by rw [aR,l];omega),aM,l,a0,aA M,eD,Option.getD_some,<- iD M,V]
  refine L a8 ?_ λa G P=>?_
  .rw [F,d.v2]
  .rw [F];by_cases R:∃ j:Int,(0<=j/\j<r.left.i.h.length)/\iA m.m.h j=v
   .obtain ⟨j,A,E⟩:=R;have z:j∈r.q.h:=aY λz=>(U.S.aq.1 c).2 j A.1 A.2 z E;have:=none_ A E G P;unfold Jy at this;rw [if_pos (by simp only [aP];rw [show ((j.toNat:Nat):Int)=j by omega];exact (mem_iff _ _).2 z)] at this;simp only [aP] at this;rw [show ((j.toNat:Nat):Int)=j by omega,E,eN] at this;exact this
   .refine d.v3 a (by rw [<- Option.getD_some (a:=h.k[v.toNat]?.getD []) (b:=[])];exact G) λs o ⟨D,_⟩=>R ?_;have X:=K.S.hR.o s o;have a3:l8 (cT r h m) s=iA (tL r.q.h r.s.h m.m.h r.right.i.h.length h.i.h.length) s.node:=by rw [<- K.S.bc];rfl
    rw [a3] at D;have a5:s.node∈r.s.h:=by
     refine aY λa2=>?_;obtain ⟨f,_,_,hf⟩:=U.S.ao X.1 a2;omega
    obtain ⟨q,Z,Y⟩:=mO a5;have b5:=U.S.kl;rw [<- Y,U.S.bb aD] at D;have Q:iA r.q.h q∈r.q.h:=d7 aD aD;exact ⟨_,U.S.kr _ Q,U.S.cf (U.S.am Q) c D⟩
 .have hfr:u.N=bG (cZ (fF r.s.h r.right.i.h.length) r.s.h r.q.h) r.left.i.h.length:=by
   unfold Rule.N;rw [n,B.bj.2];rfl
  have l:(bW u g m').h=l7 (fF r.s.h r.right.i.h.length) m'.m.h g.i.h.length:=by rw [n];exact B.K'.S.bg
  have y:=(K'.S.ee (f:=f) (by rw [hfr];exact hf)).2;have a6:gN u.right.i j=gN h.i v:=by
   have e:u.right.i=kU r.left.i h.i m.m:=by rw [n];rfl
   rw [e];have:gN (kU r.left.i h.i m.m) j=iA (m.m.h.map (gN h.i)) j:=rfl;rw [this,t8 _ A.1 aD,c]
  rw [hfr,a7,a6,l,show (l7 (fF r.s.h r.right.i.h.length) m'.m.h g.i.h.length).length+f=p by omega] at y;have C:=hh.cm N.1 N.2;refine L y (by unfold i4;rw [aR,C]) λa G P=>?_;have:=none_ A c G P;rw [<- this];unfold Jy;rw [if_neg (by simp only [aP];rw [show ((j.toNat:Nat):Int)=j by omega];exact λhm=>a4 ((mem_iff _ _).1 hm))];simp only [aP];rw [show ((j.toNat:Nat):Int)=j by omega,c];have b0:a<(bQ t (gN h.i v)).length:=aD;unfold i4;rw [aM,aA b0];rfl
theorem Back.g0 (B:Back t r h m g m0 m'):HIso (bM t (c9 t (aP t r h m)) g m') h
  (aa1 (dG r h m) (dG (c9 t (aP t r h m)) g m') (cT (c9 t (aP t r h m)) g m') m.m ⟨oG m0.h,oG m0.j⟩ (bM t (c9 t (aP t r h m)) g m').i.h.length (bM t (c9 t (aP t r h m)) g m').i.j.length):=by
 have U:=B.ct;have V:=B.dg;have K:=B.K;have K':=B.K';have F:=B.bj;have hn:(bM t (c9 t (aP t r h m)) g m').i.h.length=(l7 (fF r.s.h r.right.i.h.length) m'.m.h g.i.h.length).length+(bG (cZ (fF r.s.h r.right.i.h.length) r.s.h r.q.h) r.left.i.h.length).length:=by
  have:=K'.S.b3;rw [F.2] at this;exact this
 have he:(bM t (c9 t (aP t r h m)) g m').i.j.length=(l7 (fF r.s.j r.right.i.j.length) m'.m.j g.i.j.length).length+(bG (cZ (fF r.s.j r.right.i.j.length) r.s.j r.q.j) r.left.i.j.length).length:=K'.S.bN;have eT:(dG (c9 t (aP t r h m)) g m').h=nD (fF r.s.h r.right.i.h.length) m'.m.h g.i.h.length:=K'.S.bz;have Y:(dG (c9 t (aP t r h m)) g m').j=nD (fF r.s.j r.right.i.j.length) m'.m.j g.i.j.length:=K'.S.cF;have eC:(cT (c9 t (aP t r h m)) g m').h=tL (fF r.s.h r.right.i.h.length) (cZ (fF r.s.h r.right.i.h.length) r.s.h r.q.h) m'.m.h r.left.i.h.length g.i.h.length:=by
  have:=K'.S.bc;rw [F.2] at this;exact this
 have b4:(cT (c9 t (aP t r h m)) g m').j=tL (fF r.s.j r.right.i.j.length) (cZ (fF r.s.j r.right.i.j.length) r.s.j r.q.j) m'.m.j r.left.i.j.length g.i.j.length:=K'.S.b0;have e:=U.ez hn;have L:=V.ez he;have P:=λ {p:Nat} {v:Int} hR hp=>B.val (p:=p) (v:=v) hR hp;have b5:m.m.h.length=r.left.i.h.length:=K.S.hm.len;have a9:=(vP K.S.hc).1;have a7:∀ {k:Int},k∈(bW r h m).j->(eA h.i k).w∈(bW r h m).h/\(eA h.i k).M∈(bW r h m).h:=λhk=>p7 K.S.sub hk;have a8:∀ {k:Int},k∈(bW (c9 t (aP t r h m)) g m').j->(eA g.i k).w∈(bW (c9 t (aP t r h m)) g m').h/\(eA g.i k).M∈(bW (c9 t (aP t r h m)) g m').h:=λhk=>p7 K'.S.sub hk;have Q:(bW (c9 t (aP t r h m)) g m').h=l7 (fF r.s.h r.right.i.h.length) m'.m.h g.i.h.length:=K'.S.bg;have n:(bW (c9 t (aP t r h m)) g m').j=l7 (fF r.s.j r.right.i.j.length) m'.m.j g.i.j.length:=K'.S.bs;have o:=λ {i:Nat} a b=>K'.eb (i:=i) a b;have c:=λ {i:Nat} a b=>K'.fq (i:=i) a b;have C:=λ {f:Nat} a=>(K'.S.ee (f:=f) a).1;have D:=λ {f:Nat} a=>K'.S.fv (f:=f) a;have s:(c9 t (aP t r h m)).N=bG (cZ (fF r.s.h r.right.i.h.length) r.s.h r.q.h) r.left.i.h.length:=by unfold Rule.N;rw [F.2];rfl
 have w:(c9 t (aP t r h m)).aa=bG (cZ (fF r.s.j r.right.i.j.length) r.s.j r.q.j) r.left.i.j.length:=rfl;have R:(c9 t (aP t r h m)).right.i=kU r.left.i h.i m.m:=rfl;have H:(bM t (c9 t (aP t r h m)) g m').i=(bS t (c9 t (aP t r h m)) g m').i:=rfl;have a6:(bM t (c9 t (aP t r h m)) g m').k.length=(bM t (c9 t (aP t r h m)) g m').i.h.length:=by rw [K'.d6.1,K'.S.cr,H]
 unfold aa1;rw [K.S.bz,K.S.cF,eT,Y,eC,b4];simp only;rw [eT] at o;rw [eT,Y] at c;generalize c9 t (aP t r h m)=u at *;obtain ⟨nn,A⟩:=c6 ((bM t u g m').i.h.length);obtain ⟨ne,E⟩:=c6 ((bM t u g m').i.j.length);rw [<- A] at e hn ⊢;rw [<- E] at L he ⊢;have T:=CY (lW (nD r.q.h m.m.h h.i.h.length) (oG m0.h)) (nD (fF r.s.h r.right.i.h.length) m'.m.h g.i.h.length) (tL (fF r.s.h r.right.i.h.length) (cZ (fF r.s.h r.right.i.h.length) r.s.h r.q.h) m'.m.h r.left.i.h.length g.i.h.length) m.m.h nn;have W:=CY (lW (nD r.q.j m.m.j h.i.j.length) (oG m0.j)) (nD (fF r.s.j r.right.i.j.length) m'.m.j g.i.j.length) (tL (fF r.s.j r.right.i.j.length) (cZ (fF r.s.j r.right.i.j.length) r.s.j r.q.j) m'.m.j r.left.i.j.length g.i.j.length) m.m.j ne;generalize BN (lW (nD r.q.h m.m.h h.i.h.length) (oG m0.h)) (nD (fF r.s.h r.right.i.h.length) m'.m.h g.i.h.length) (tL (fF r.s.h r.right.i.h.length) (cZ (fF r.s.h r.right.i.h.length) r.s.h r.q.h) m'.m.h r.left.i.h.length g.i.h.length) m.m.h nn=sn at *;generalize BN (lW (nD r.q.j m.m.j h.i.j.length) (oG m0.j)) (nD (fF r.s.j r.right.i.j.length) m'.m.j g.i.j.length) (tL (fF r.s.j r.right.i.j.length) (cZ (fF r.s.j r.right.i.j.length) r.s.j r.q.j) m'.m.j r.left.i.j.length g.i.j.length) m.m.j ne=se at *;obtain ⟨a1,a2,a3⟩:=U.ec hn T e;obtain ⟨b1,b2,b3⟩:=V.ec he W L;have at_:∀ {p v:Int},DK r.q.h r.s.h m.m.h m0.h m'.m.h r.left.i.h.length r.right.i.h.length h.i.h.length g.i.h.length p v->iA sn p=v:=λ {p v} hR=>by
  have hr:=(U.range hR).1;have:=e p.toNat aD;rw [show ((p.toNat:Nat):Int)=p by omega] at this;exact U.ew this hR
 refine ⟨by rw [T,A],by rw [W,E],by rw [<- A];exact a3,by rw [<- E];exact b3,a6,K.S.ho.vl,a1,b1,a2,b2,λp h0 hp=>?_,λp h0 hp=>?_,λp h0 hp=>?_⟩
 .have hR:=e p.toNat aD;rw [show ((p.toNat:Nat):Int)=p by omega] at hR;rcases U.cases hR with ⟨x,N,hT,l,J⟩|⟨j,f,O,b0,hf,G,z,l⟩
  .have hxr:=(U.S'.aq.1 N).1;have a5:=(U.S.aq.1 l).1;obtain ⟨q,q1,q2,q3⟩:=U.S.a6 l;obtain ⟨q',y,a4,a0⟩:=U.S'.a6 N;have M:=(K.eb (i:=(iA sn p).toNat) aD (by rw [K.S.bz,show (((iA sn p).toNat:Nat):Int)=iA sn p by omega,q1];omega)).n2;rw [K.S.bz,show (((iA sn p).toNat:Nat):Int)=iA sn p by omega,J] at M;have Z:=(o (i:=x.toNat) aD (by rw [show ((x.toNat:Nat):Int)=x by omega,y];omega)).n2;rw [show ((x.toNat:Nat):Int)=x by omega,hT] at Z;have e3:=B.I.ty x hxr.1 hxr.2;unfold gN at e3 ⊢;rw [Z,e3,M]
  .have:=C (f:=f) (by rw [s];exact hf);rw [Q,s,G,R,<- z,<- H] at this;rw [this,<- l];exact t8 _ O.1 aD
 .have hR:=L p.toNat aD;rw [show ((p.toNat:Nat):Int)=p by omega] at hR;rcases V.cases hR with ⟨x,N,hT,l,J⟩|⟨j,f,O,b0,hf,G,z,l⟩
  .have hxr:=(V.S'.aq.1 N).1;have a5:=(V.S.aq.1 l).1;obtain ⟨q,q1,q2,q3⟩:=V.S.a6 l;obtain ⟨q',y,a4,a0⟩:=V.S'.a6 N;have M:=(K.fq (i:=(iA se p).toNat) aD (by rw [K.S.cF,show (((iA se p).toNat:Nat):Int)=iA se p by omega,q1];omega)).2;rw [K.S.cF,K.S.bz,show (((iA se p).toNat:Nat):Int)=iA se p by omega,J] at M;have Z:=(c (i:=x.toNat) aD (by rw [show ((x.toNat:Nat):Int)=x by omega,y];omega)).2;rw [show ((x.toNat:Nat):Int)=x by omega,hT] at Z;have e3:=B.I.eg x hxr.1 hxr.2;rw [e3] at M;rw [Z];simp only [Edge.mk.injEq] at M;obtain ⟨c1,c2,c3⟩:=M;have s1:=a7 (k:=iA se p) (by rw [K.S.bs];exact l);have s2:=a8 (k:=x) (by rw [n];exact N);rw [K.S.bg] at s1;rw [Q] at s2;have d1:=at_ (.inl ⟨_,s2.1,rfl,s1.1,c2.symm⟩);have d2:=at_ (.inl ⟨_,s2.2,rfl,s1.2,c3.symm⟩);simp only;rw [c1,d1,d2]
  .have hw:=D (f:=f) (by rw [w];exact hf);rw [n,w,G,R,<- z,<- H] at hw;rw [hw,<- l];have d:=rC a9 (k:=j) O.1 O.2;have X:=vK K.S.hR.pl.gg (k:=j) O.1 O.2;have e0:eA (kU r.left.i h.i m.m) j=eA r.left.i j:=rfl;rw [e0] at d ⊢;unfold freshE;simp only;have d1:=at_ (p:=iA (cT u g m').h (eA r.left.i j).w) (.inr ⟨_,X.1,by rw [eC],rfl⟩);have d2:=at_ (p:=iA (cT u g m').h (eA r.left.i j).M) (.inr ⟨_,X.2.1,by rw [eC],rfl⟩);unfold iA at d1 d2 d ⊢;rw [d1,d2,d.2.1,d.2.2.1,d.2.2.2]
 .have hR:=e p.toNat aD;have:=P hR aD;rw [show ((p.toNat:Nat):Int)=p by omega] at this;exact this
end
theorem AR (l:V2)(n:Nat):(fF l n).length<=n:=by
 unfold fF;rw [aR];exact fB (jF _ _) aE
theorem Bk (t:Types)(a:t.ok):Pua 36 [t.d] (dI (dA t).2):=by
 refine Tz.p0 func36 rfl λQ b Y=>?_;refine wv (h:=aB (nM t a) wl ?_);exact wv (h:=b _ _ wy)
theorem Bl (p g:Graph)(a:V2)(I:a.length<=100000)(J:p.j.length<=100000)(E:∀ x∈a,0<=x/\x<g.h.length):Pua 207 [p.d,g.d,dLI a] (Graph.d ⟨a.map (gN g),p.j⟩):=by
 obtain ⟨b,j⟩:=c6 (a.map (gN g));have C:b.length=a.length:=by rw [j];simp
 rw [<- j];refine Tz.pK ⟨λt=>t==6||t==7||t==1000001,λr=>match r with|5=>[(0,7),(1,7)]|_=>[]⟩ func207 rfl (λQ F=>?_);have Y:=trivial;refine wv (h:=?_);refine ID (yM p.j aD) (by simp [go_sem]) (by simp [go_sem]) (U9 _) ?_;refine wp (h:=rE (Ghosts.step (Ghosts.refl _) 1 0 0 3 1 _ _ (rfl) rfl rfl rfl) (λi e H=>(e 4=.adr g.c/\e 6=.ptr 0 1 0 0/\e 7=.ptr 1 1 0 0/\e 14=dLI a/\e 15=dI a.length/\e 16=dI i)/\(H.get 0=some ⟨29,2,[[.nil,.nil]],false⟩)/\(0<H.next)/\(H.get 1=some ⟨29,2,[[.own 2 i,.list (p.j.map Edge.c)]],false⟩)/\(1<H.next)/\(H.get 2=some ⟨3,1,(b.take i).map cI,false⟩)/\(2<H.next)/\(i<=a.length)) (λi=>a.length - i) 0 ⟨wg,wn,wn,wn,wn,(by rfl),wn,wi⟩ λK A i e H w=>?_);obtain ⟨G,o,m,n,l,f,k,D⟩:=w;have Y:=xa6 Y G o (cW m) n (cW l) f (cW k);refine dR (λq=>?_) λq=>?_
 .have hx:=E _ (aC q);have B:a[i].toNat<g.h.length:=aD;have u:i<b.length:=aD;have s:b[i]=g.h[a[i].toNat]:=by simp [j,gN,aA B]
  have z:b.take (i+1)=b.take i++[g.h[a[i].toNat]]:=by rw [List.take_succ_eq_append_getElem u,s]
  have y:(b.take i).length=i:=by simp;omega
  have Y:=xa3 Y q (aA q) (aA B) y;exact wp (h:=wx A (i+1) ⟨wg,wn,wn,wn,wn,(by simp [go_sem,Y,z,cI]),wn,wj⟩)
 .rw [aG aD] at f;have v:i=b.length:=aD;exact wv (h:=F _ _ (by simp [go_sem,Y,v,dLI]))
theorem wP (l:V2)(b:l.length<=1000000):Pua 209 [dLI l] (.bool (decide l.Nodup)):=by
 have a:=kH l;have c:=Ap l;have d:=Cd (iY l);unfold imagesN at c;refine Tz.p0 func209 rfl λQ e Y=>?_;refine wv (h:=lU (gG l b) wl ?_);refine wv (h:=?_);unfold f7;refine zS (ty:=3) (xs:=l) (by simp [go_sem]) b ?_;refine wo (h:=?_);unfold f7;refine ACalls.frz ?_;simp [go_sem,a];refine FC (gG (iY l) aD) (by simp [go_sem]) ?_;refine wo (h:=?_);unfold f7;rw [show l.length=(iY l).length from a.symm];refine Az (ty:=3) (xs:=iY l) (by simp [go_sem]) aD λk=>?_;exact wo (h:=e _ _ (by simp [go_sem];rw [aT,beq_iff_eq,decide_eq_true_eq,<- c,a];omega))
theorem GS {l:V2}{n:Nat}(d:l.Nodup)(c:∀ x∈l,0<=x/\x<n):iY l=fF l n:=by
 have b:(iY l).Perm l:=uP l _;have k:(iY l).Nodup:=b.nodup_iff.2 d;refine DE ?_ (qJ _ _) λx=>?_
 .rw [dD];intro i j f e a;have o:=dD.1 (wL l) i j f e a;have m:(iY l)[i]≠(iY l)[j]:=λg=>by have:=(jZ k).1 g;omega
  omega
 .rw [fC,b.mem_iff];exact ⟨λh=>⟨c x h,h⟩,λh=>h.2⟩
theorem Bm (keep a:V2)(n:Nat)(C:a.Nodup)(B:∀ x∈a,0<=x/\x<n)(I:a.length=keep.length)(w:a.length<=1000000):Pua 210 [dLI keep,dLI a] (.tup [dLI (fF a n),dLI (cZ (fF a n) a keep)]):=by
 have m:=kH a;have u:=GS C B;obtain ⟨b,j⟩:=c6 (fF a n);rw [<- j] at u;have p:∀ x∈b,x∈a:=λx A=>(fC.1 (j ▸ A)).2;have k:b.length=a.length:=by rw [<- u];exact m
 rw [<- j];refine Tz.pK ⟨λt=>t==6||t==7,λ_=>[]⟩ func210 rfl (λQ E=>?_);have Y:=trivial;refine wv (h:=lU (gG a w) wl ?_);refine wv (h:=?_);unfold f7;refine zS (ty:=3) (xs:=a) (by simp [go_sem]) w ?_;rw [u];refine wp (h:=bC (λi e H=>(e 0=dLI keep/\e 1=dLI a/\e 6=.own 0 a.length/\e 14=.own 0 a.length/\e 15=dI a.length/\e 7=.own 1 i/\e 16=dI i)/\(H.get 0=some ⟨3,1,b.map cI,false⟩)/\(0<H.next)/\(H.get 1=some ⟨3,1,(cZ (b.take i) a keep).map cI,false⟩)/\(1<H.next)/\(i<=b.length)) (λi=>b.length - i) 0 ⟨wg,wn,wn,(by simp [go_sem,cZ]),wn,wi⟩ λJ v i e H r=>?_);obtain ⟨z,g,f,c,d,D⟩:=r;have Y:=xa4 Y z g (cW f) c (cW d);refine dR (λy=>?_) λy=>?_
 .have hiy:i<b.length:=aD;obtain ⟨G,F,_⟩:=BT ((mem_iff _ _).2 (p _ (aC hiy)));have o:(idx a b[i]).toNat<keep.length:=aD;have s:cZ (b.take (i+1)) a keep=cZ (b.take i) a keep++[keep[(idx a b[i]).toNat]]:=by unfold cZ;rw [List.take_succ_eq_append_getElem hiy,List.map_append];simp [iA,aA o]
  have l:(cZ (b.take i) a keep).length=i:=by simp [cZ];omega
  have Y:=xa4 Y y (aA hiy) (aA o) l k;refine wp (h:=aB (tH a b[i]) wl ?_);exact wp (h:=wx v (i+1) ⟨wg,wn,wn,(by simp [go_sem,Y,s,cI]),wn,wj⟩)
 .rw [aG aD] at c;have q:i=b.length:=aD;have l:(cZ b a keep).length=b.length:=by simp [cZ]
  have Y:=xa4 z g (cW f) c (cW d) k;exact wv (h:=E _ _ (by simp [go_sem,Y,q,l,k,dLI]))
theorem D3 (g:Graph)(K:g.h.length<=100000)(N:g.j.length<=100000):Pua 60 [g.d] (Part.d ⟨iJ g.h.length,iJ g.j.length⟩):=by
 refine Tz.pK ⟨λt=>t==2||t==3||t==1000001,λ_=>[]⟩ func60 rfl (λQ G=>?_);have Y:=trivial;refine wp (h:=rE (Ghosts.step (Ghosts.step (Ghosts.refl _) 1 0 0 3 1 _ _ (rfl) rfl rfl rfl) 1 0 1 3 1 _ _ (rfl) rfl rfl rfl) (λi e H=>(e 1=.adr g.c/\e 2=.ptr 0 1 0 0/\e 3=.ptr 1 1 0 0/\e 8=dI g.h.length/\e 9=dI i)/\(H.get 0=some ⟨36,2,[[.nil,.nil]],false⟩)/\(0<H.next)/\(H.get 1=some ⟨36,2,[[.own 2 i,.own 3 0]],false⟩)/\(1<H.next)/\(H.get 2=some ⟨3,1,(iJ i).map cI,false⟩)/\(2<H.next)/\(H.get 3=some ⟨3,1,(iJ 0).map cI,false⟩)/\(3<H.next)/\(i<=g.h.length)) (λi=>g.h.length - i) 0 ⟨wg,wn,wn,wn,wn,(by rfl),wn,(by rfl),wn,wi⟩ λP D i e H B=>?_);obtain ⟨J,z,r,x,p,v,n,f,l,M⟩:=B;have Y:=xa8 Y J z (cW r) x (cW p) v (cW n) f (cW l);refine dR (λF=>?_) λF=>?_
 .have b:(iJ i).length=i:=by simp [iJ]
  have Y:=xa1 Y F b;exact wp (h:=wx D (i+1) ⟨wg,wn,wn,wn,wn,(by simp [go_sem,Y,Kw,b]),wn,(by simp [go_sem,Y]),wn,wj⟩)
 .have hI:i=g.h.length:=aD;subst hI;have b:(iJ g.h.length).length=g.h.length:=by simp [iJ]
  have Y:=wa Y b;refine wp (h:=bC (λk e H=>(e 1=.adr g.c/\e 2=.ptr 0 1 0 0/\e 3=.ptr 1 1 0 0/\e 8=dI g.h.length/\e 21=dI g.j.length/\e 22=dI k)/\(H.get 0=some ⟨36,2,[[.nil,.nil]],false⟩)/\(0<H.next)/\(H.get 1=some ⟨36,2,[[.own 2 g.h.length,.own 3 k]],false⟩)/\(1<H.next)/\(H.get 2=some ⟨3,1,(iJ g.h.length).map cI,false⟩)/\(2<H.next)/\(H.get 3=some ⟨3,1,(iJ k).map cI,false⟩)/\(3<H.next)/\(k<=g.j.length)) (λk=>g.j.length - k) 0 ⟨wg,wn,wn,wn,wn,wn,wn,(by exact f),wn,wi⟩ λO C k e H A=>?_);obtain ⟨I,y,q,w,o,u,m,s,j,L⟩:=A;have Y:=xa8 Y I y (cW q) w (cW o) u (cW m) s (cW j);refine dR (λE=>?_) λE=>?_
  .have a:(iJ k).length=k:=by simp [iJ]
   have Y:=xa1 Y E a;exact wp (h:=wx C (k+1) ⟨wg,wn,wn,wn,wn,wn,wn,(by simp [go_sem,Y,Kw,a]),wn,wj⟩)
  .have hK:k=g.j.length:=aD;subst hK;have a:(iJ g.j.length).length=g.j.length:=by simp [iJ]
   have Y:=wa Y a;exact wv (h:=G _ _ (by simp [go_sem,Y,dLI,Part.d,Part.c]))
structure SlotsOk (t:Types) (s:Stp26):Prop where
 n:s.V.m.h.length<=1000
 a:∀ i:Nat,i<s.V.m.h.length->(0<=iA s.V.m.h i/\iA s.V.m.h i<s.L.k.length/\iA s.V.m.h i<s.L.i.h.length)/\(nT s i).length=(bQ t (gN s.L.i (iA s.V.m.h i))).length/\(nT s i).length<=8
 b:∀ i:Nat,i<s.V.m.h.length->mem s.G.q.h i=true->iA s.V.m.h i<s.U.h.length/\0<=iA s.U.h (iA s.V.m.h i)/\iA s.U.h (iA s.V.m.h i)<s.after.k.length/\(nT s i).length<=(s.after.k[(iA s.U.h (iA s.V.m.h i)).toNat]?.getD []).length
theorem r5 (t:Types)(s:Stp26)(i n:Nat):sN t s i (n+1)=sN t s i n++lY t s i n:=by simp [sN,dO]
theorem EL (t:Types)(s:Stp26)(n:Nat):iZ t s (n+1)=iZ t s n++sN t s n (nT s n).length:=by simp [iZ,dO]
theorem GV (t:Types)(s:Stp26)(i:Nat):∀ n,(sN t s i n).length<=n
 | 0=>by simp [sN]
 | n+1=>by
  have:=GV t s i n;rw [r5,aQ];have:(lY t s i n).length<=1:=by unfold lY;split<;>simp
  omega
theorem GU {t:Types}{s:Stp26}(h:SlotsOk t s):∀ n,n<=s.V.m.h.length->(iZ t s n).length<=8 * n
 | 0,_=>by simp [iZ]
 | n+1,hn=>by
  have h1:=GU h n aD;have h2:=GV t s n (nT s n).length;have h3:=(h.a n aD).2.2;rw [EL,aQ];omega
theorem Jk (t:Types)(ht:t.ok)(s:Stp26)(J:SlotsOk t s):Pua 208 [t.d,.agg s.c] (.list ((iZ t s s.V.m.h.length).map Slot.c)):=by
 have hn:=J.n;refine Tz.pK ⟨λt=>t==5||t==11,λ_=>[]⟩ func208 rfl (λQ hQ=>?_);have Y:=xa2 @Stp26.c.eq_1 @Rule.c.eq_1 @Mat.c.eq_1 @Host.c.eq_1;refine wp (h:=bC (λi e H=>∃ u:List Slot,(e 2=.adr t.c/\e 3=.adr s.c/\e 17=dLI s.V.m.h/\e 18=dI s.V.m.h.length/\e 5=.own 0 u.length/\e 19=dI i)/\(H.get 0=some ⟨102,4,u.map Slot.c,false⟩)/\(0<H.next)/\(i<=s.V.m.h.length)/\(u.length<=8 * i)/\(u=iZ t s i)) (λi=>s.V.m.h.length - i) 0 ⟨([]),wg,wn,wn,wi,aE,(by rfl)⟩ λI0 W i e H P=>?_);obtain ⟨u,E0,I,A,hi,hl,X⟩:=P;have Y:=xa2 Y E0 I (cW A);refine dR (λy=>?_) λy=>?_
 .obtain ⟨⟨a1,a2,a3⟩,a4,a5⟩:=J.a i y;have Z:=J.b i y;obtain ⟨q,hq⟩:=c6 ((iA s.V.m.h i).toNat);have w:iA s.V.m.h i=(q:Int):=aD;have N:s.V.m.h[i]=(q:Int):=by rw [<- w,iD y]
  have C:q<s.L.k.length:=aD;have E:q<s.L.i.h.length:=aD;obtain ⟨K,V⟩:=c6 (gN s.L.i (iA s.V.m.h i));have U:s.L.i.h[q]=K:=by rw [V,w];unfold gN;rw [Int.toNat_natCast,aA E];rfl
  obtain ⟨o,v⟩:=c6 (nT s i);have M:s.L.k[q]=o:=by rw [v];unfold nT;rw [<- hq,aA C];rfl
  rw [<- V,<- v] at a4;rw [<- v] at a5 Z;have Y:=xa7 Y y (aA y) N (aA C) (aA E) U M @cL.eq_1;refine wp (h:=aI (nO t ht K) wl ?_);refine wp (h:=bC (λk e H=>∃ j:List Slot,(e 2=.adr t.c/\e 3=.adr s.c/\e 17=dLI s.V.m.h/\e 18=dI s.V.m.h.length/\e 5=.own 0 j.length/\e 19=dI i/\e 6=dI i/\e 7=dI q/\e 8=.list ((bQ t K).map Attr.c)/\e 36=.list ((bQ t K).map Attr.c)/\e 37=dI o.length/\e 38=dI k)/\(H.get 0=some ⟨102,4,j.map Slot.c,false⟩)/\(0<H.next)/\(k<=o.length)/\(j.length<=8 * i+k)/\(j=u++sN t s i k)) (λk=>o.length - k) 0 ⟨u,wg,wn,wn,wi,aD,(by simp [sN])⟩ λI2 p k e H O=>?_);obtain ⟨j,E2,G,z,hk,a0,B⟩:=O;have Y:=xa2 Y E2 G (cW z);refine dR (λL=>?_) λL=>?_
  .have hka:k<(bQ t K).length:=aD;have l:o[k]?.getD 0=o[k]:=by rw [aA L];rfl
   have Y:=xa3 Y L (aA L) (aA hka) @Attr.c.eq_1;refine wp (h:=aB (f6 s.G.q.h i) wl ?_);refine mA (λr=>?_) λr=>?_
   .obtain ⟨b1,b2,b3,b4⟩:=Z (bZ r);obtain ⟨T,hT⟩:=c6 ((iA s.U.h (iA s.V.m.h i)).toNat);have D:q<s.U.h.length:=aD;have S:iA s.U.h (iA s.V.m.h i)=(T:Int):=aD;have R:s.U.h[q]=(T:Int):=by rw [<- S,w,iD D]
    have x:T<s.after.k.length:=aD;rw [<- hT,aA x] at b4;have F:k<s.after.k[T].length:=by simp only [Option.getD_some] at b4;omega
    have f:Jy t s i k=s.after.k[T][k]:=by unfold Jy;rw [if_pos (bZ r),<- hT,aA x,Option.getD_some,aA F];rfl
    have Y:=xa3 Y (aA D) R (aA x) (aA F);refine mA (λg=>?_) λg=>?_
    .have hsl:lY t s i k=[⟨i,k,⟨-1,o[k]⟩⟩]:=by unfold lY;rw [<- v,l,f,if_pos (bZ g)]
     have Y:=xa2 Y hsl @Slot.c.eq_1 @Term.c.eq_1;exact wp (h:=wx p (k+1) ⟨(j++lY t s i k),wg,wn,wn,wj,(by rw [aQ];have:(lY t s i k).length<=1:=(by unfold lY;split<;>simp);omega),(by rw [B,r5,List.append_assoc])⟩)
    .have hsl:lY t s i k=[]:=by unfold lY;rw [<- v,l,f,if_neg (bZ g)]
     have Y:=wa Y hsl;exact wp (h:=wx p (k+1) ⟨(j++lY t s i k),wg,wn,wn,wj,(by rw [aQ];have:(lY t s i k).length<=1:=(by unfold lY;split<;>simp);omega),(by rw [B,r5,List.append_assoc])⟩)
   .have f:Jy t s i k=(bQ t K)[k].ap:=by unfold Jy;rw [if_neg (bZ r),<- V,aA hka];rfl
    refine dR (λg=>?_) λg=>?_
    .have hsl:lY t s i k=[⟨i,k,⟨-1,o[k]⟩⟩]:=by unfold lY;rw [<- v,l,f,if_pos (bZ g)]
     have Y:=xa2 Y hsl @Slot.c.eq_1 @Term.c.eq_1;exact wp (h:=wx p (k+1) ⟨(j++lY t s i k),wg,wn,wn,wj,(by rw [aQ];have:(lY t s i k).length<=1:=(by unfold lY;split<;>simp);omega),(by rw [B,r5,List.append_assoc])⟩)
    .have hsl:lY t s i k=[]:=by unfold lY;rw [<- v,l,f,if_neg (bZ g)]
     have Y:=wa Y hsl;exact wp (h:=wx p (k+1) ⟨(j++lY t s i k),wg,wn,wn,wj,(by rw [aQ];have:(lY t s i k).length<=1:=(by unfold lY;split<;>simp);omega),(by rw [B,r5,List.append_assoc])⟩)
  .have hyx:j=iZ t s (i+1):=by rw [B,EL,<- X,<- v,(aD:k=o.length)]
   exact wp (h:=wx W (i+1) ⟨j,wg,wn,wn,wj,(by rw [hyx];have:=GU J (i+1) y;omega),(by rw [hyx])⟩)
 .have hX:u=iZ t s s.V.m.h.length:=by rw [X,(aD:i=s.V.m.h.length)]
  exact wv (h:=hQ _ _ (by simp [go_sem,Y,hX]))
structure UndOk (t:Types) (s:Stp26):Prop where
 sl:SlotsOk t s
 c1:s.A.h.length=s.G.right.i.h.length
 c2:∀ x∈s.A.h,0<=x/\x<s.after.i.h.length
 c3:s.A.j.length<=1000
 m1:s.V.m.h.length=s.G.left.i.h.length
 m2:∀ x∈s.V.m.h,0<=x/\x<s.L.i.h.length
 Y:(s.G.right.i.h.length<=1000/\s.G.right.i.j.length<=1000)/\s.G.left.i.h.length<=1000/\s.G.left.i.j.length<=1000
 k:s.G.s.h.length=s.G.q.h.length/\s.G.s.j.length=s.G.q.j.length
 il:s.G.s.h.length<=1000000/\s.G.s.j.length<=1000000
 cj:s.G.s.h.Nodup/\s.G.s.j.Nodup
 ir:(∀ x∈s.G.s.h,0<=x/\x<s.G.right.i.h.length)/\∀ x∈s.G.s.j,0<=x/\x<s.G.right.i.j.length
section
variable {t:Types} {r:Rule} {h:Host} {m:Mat}
theorem StepIn.az (S:StepIn t r h m):∀ x∈(cT r h m).h,0<=x/\x<(bM t r h m).i.h.length:=λx hx=>by
 obtain ⟨i,hi,rfl⟩:=mO hx;rw [S.bc,eM] at hi;rw [S.b3,S.bc];exact S.ak.cc (j:=(i:Int)) aD
theorem StepIn.bh (S:StepIn t r h m):∀ x∈(cT r h m).j,0<=x/\x<(bM t r h m).i.j.length:=λx hx=>by
 obtain ⟨i,hi,rfl⟩:=mO hx;rw [S.b0,eM] at hi;rw [S.bN,S.b0];exact S.ba.cc (j:=(i:Int)) aD
theorem StepOk.ey (K:StepOk t r h m):SlotsOk t (aP t r h m):=by
 have u:m.m.h.length=r.left.i.h.length:=K.S.hm.len;have v:=bI K.S.hR.pl.gg;have s:=K.S.ho.vl;have a:∀ i:Nat,i<m.m.h.length->0<=iA m.m.h i/\iA m.m.h i<h.i.h.length:=λi b=>K.S.dy _ (d7 aD aD);have c:∀ i:Nat,i<m.m.h.length->(nT (aP t r h m) i).length=(bQ t (gN h.i (iA m.m.h i))).length:=λi b=>K.S.ho.cm (a i b).1 (a i b).2;refine ⟨by show m.m.h.length<=1000;omega,λi b=>⟨⟨(a i b).1,by have:=(a i b).2;show iA m.m.h i<h.k.length;omega,(a i b).2⟩,c i b,by rw [c i b];exact n5 K.S.ho.vf _⟩,λi b j=>?_⟩;have o:=a i b;have k:=K.S.ak.am ((mem_iff _ _).1 j);obtain ⟨p,e,q,_⟩:=K.S.ak.a6 k;have f:=K.S.b3;have l:=K.S.cr;have g:=K.d6.1;have d:=K.eb (i:=(iA m.m.h i).toNat) aD (by rw [K.S.bz,show (((iA m.m.h i).toNat:Nat):Int)=iA m.m.h i by omega,e];omega);rw [show (((iA m.m.h i).toNat:Nat):Int)=iA m.m.h i by omega] at d;have n:(bM t r h m).i.h.length=(bS t r h m).i.h.length:=rfl;refine ⟨?_,?_,?_,?_⟩
 .show iA m.m.h i<(dG r h m).h.length;rw [K.S.bz,jN];exact o.2
 .show 0<=iA (dG r h m).h (iA m.m.h i);rw [K.S.bz,e];omega
 .show iA (dG r h m).h (iA m.m.h i)<(bM t r h m).k.length;rw [K.S.bz,e];omega
 .show (h.k[(iA m.m.h i).toNat]?.getD []).length<=((bM t r h m).k[(iA (dG r h m).h (iA m.m.h i)).toNat]?.getD []).length;rw [d.v2];exact bF _
theorem StepOk.dr (K:StepOk t r h m)(hr:r.ok):UndOk t (aP t r h m) where
 sl:=K.ey
 c1:=by show (cT r h m).h.length=_;rw [K.S.bc,eM];rfl
 c2:=K.S.az
 c3:=by
  have:=bI K.S.hR.gr;show (cT r h m).j.length<=1000;rw [K.S.b0,eM];omega
 m1:=K.S.hm.len
 m2:=K.S.dy
 Y:=by
  have h1:=bI K.S.hR.gr;have h2:=bI K.S.hR.pl.gg;exact ⟨⟨by show r.right.i.h.length<=_;omega,by show r.right.i.j.length<=_;omega⟩,by show r.left.i.h.length<=_;omega,by show r.left.i.j.length<=_;omega⟩
 k:=⟨K.S.hR.q.1.1.symm,K.S.hR.q.1.2.symm⟩
 il:=⟨hr.i1,hr.i2⟩
 cj:=K.S.cg
 ir:=⟨K.S.hR.q.2.2.2.1,K.S.hR.q.2.2.2.2⟩
end
def GD (t:Types)(s:Stp26):Int:=if 10<(iZ t s s.V.m.h.length).length then 3 else 0
def GB (t:Types)(s:Stp26):Rule:=if 10<(iZ t s s.V.m.h.length).length then rule0 else c9 t s
theorem Td (l:List Slot):fD (l.map Slot.c)=l.map Slot.c:=mD λc hc=>by
 rw [aX] at hc;obtain ⟨x,_,rfl⟩:=hc;rfl
theorem FN (t:Types)(y:t.ok)(s:Stp26)(x:UndOk t s):Pua 127 [t.d,.agg s.c] (.tup [(GB t s).d,dI (GD t s)]):=by
 obtain ⟨f,C,i,B,z,g,⟨⟨J,I⟩,H,G⟩,⟨u,q⟩,⟨w,v⟩,a,l⟩:=x;have j:=Jk t y s f;obtain ⟨L,k⟩:=c6 (iZ t s s.V.m.h.length);rw [<- k] at j;have p:=Bl s.G.right.i s.after.i s.A.h aD aD i;have o:=Bl s.G.left.i s.L.i s.V.m.h aD aD g;obtain ⟨F,e⟩:∃ zs,zs=s.A.h.map (gN s.after.i):=⟨_,rfl⟩;obtain ⟨E,b⟩:∃ zs,zs=s.V.m.h.map (gN s.L.i):=⟨_,rfl⟩;rw [<- e] at p;rw [<- b] at o;simp only [Stp26.c,Rule.c,Mat.c,Host.c,dN,dP] at j;refine vY (by first|rfl|(simp [go_sem];done)) (λQ n=>(Tz.cK ⟨λt=>t==4||t==6||t==7,λr=>match r with|2=>[(0,40),(1,40),(2,40),(3,40),(4,40),(5,40),(6,40),(7,40),(8,40),(9,40),(10,40),(11,40),(13,40),(14,40),(15,40),(16,40),(17,40),(18,40),(19,40),(20,40),(21,40),(22,40),(23,40),(24,40),(25,40),(26,40),(28,40),(29,40),(30,40),(31,40),(33,40),(34,40),(35,40),(36,40)]|_=>[]⟩ func127 rfl ?_));have Y:=xa2 @Stp26.c.eq_1 @Rule.c.eq_1 @Mat.c.eq_1 @Host.c.eq_1;refine sM (h:=aI (p) wl ?_);refine sM (h:=aI (o) wl ?_);refine sM (h:=aI (j) wl ?_);refine sM (h:=aI (wP s.A.h aD) wl ?_);refine sM (h:=dJ (λA=>wP s.A.j aD) (λA=>wl) ?_);refine sM (h:=aB (Bm s.G.q.h s.G.s.h s.G.right.i.h.length a.1 l.1 u w) wl ?_);refine sM (h:=aB (Bm s.G.q.j s.G.s.j s.G.right.i.j.length a.2 l.2 q v) wl ?_);refine sM (h:=wq (λD=>?_) λD=>?_)
 .refine kZ (h:=?_);exact n _ _ (by simp [go_sem,GB,GD,<- k,(aD:10<L.length),rule0,oQ,Rule.d,Rule.c,Cond.B,Cond.u,Cond.map,Cond.l])
 .refine kZ (h:=?_);exact n _ _ (by simp [go_sem,Y,GB,GD,<- k,(aD:¬ 10<L.length),c9,gQ,iT,Ux,kU,<- e,<- b,Rule.d,Rule.c,Cond.B,Cond.u,Cond.map,Cond.l,eY,Ah,Td])
theorem TO (c b a:V2)(k:Nat):JO c b a (k+1)=JO c b a k++if 0<=iA b k then [(iA b k,idx a (iA c k))] else []:=by simp [JO,dO]
theorem TN (b a keep:V2)(k:Nat):MM b a keep (k+1)=MM b a keep k++if mem keep k=true then [] else [(iA b k,iA a k)]:=by simp [MM,dO]
theorem CF (n:Nat)(h d c f j keep:V2)(hn:n<=1000000)(a1:d.length<=h.length)(a2:∀ x∈d,x<n)(a3:∀ x∈f,0<=x/\x<n)(a4:f.length<=j.length) :
  Pua 129 [dI n,dLI h,dLI d,dLI c,dLI f,dLI j,dLI keep] (dLI (Ci n h d c f j keep)):=by
 refine Tz.pK ⟨λt=>t==15,λ_=>[]⟩ func129 rfl (λQ hQ=>?_);try simp [go_sem,seval]
 repeat first|intro _|refine ⟨fS,?_⟩
 obtain ⟨I0,A⟩:∃ I0:Nat->eB->AHeap->Prop,∀ (i:Nat) (e:eB) (H:AHeap),I0 i e H↔(∃ w:V2,(e 1=dLI h)/\(e 3=dLI c)/\(e 4=dLI f)/\(e 5=dLI j)/\(e 6=dLI keep)/\(e 15=.own 0 n)/\(e 22=dLI d)/\(e 23=dI d.length)/\(e 24=dI i)/\(H.get 0=some ⟨3,1,w.map cI,false⟩)/\(0<H.next)/\(i<=d.length)/\(w=oJ (JO h d c i) (List.replicate n 0))/\(w.length=n)):=⟨λi e H=>_,λ_ _ _=>Iff.rfl⟩;refine yY I0 (λi=>d.length - i) (0) ((A _ _ _).2 ⟨((List.replicate n 0)),?_,?_,?_,?_,?_,?_,?_,?_,?_,?_,?_,(by first|assumption|omega|(simp [go_sem];done)|(simp_all;done)),(by rfl),(by simp)⟩) ?_;iterate 11 (first|omega|(simp [go_sem,seval]<;>omega))
 intro i e H b0;obtain ⟨w,Z,X,V,T,R,M,K,I,F,a7,a5,hi,hx,m⟩:=(A _ _ _).1 b0;have x0:=cW a5;have v:=xa9 Z X V T R M K I F a7 x0;try simp [go_sem,seval,v]
 refine bA (λp=>?_) (λp=>?_)
 .try simp [go_sem] at p
  have hP:=TO h d c i;have r:i<h.length:=aD;rw [iD p,iD r] at hP;have b2:=a2 _ (aC p);try simp [go_sem,seval,v,p,aA p,aA r,m]
  repeat first|intro _|refine ⟨fS,?_⟩
  refine bA (λO=>?_) (λO=>?_)
  .try simp [go_sem] at O
   have a8:0<=d[i]:=by simpa using O
   have g:d[i].toNat<w.length:=aD;obtain ⟨y,a⟩:=c6 (w.set d[i].toNat (idx c h[i]));have q:y=oJ (JO h d c (i+1)) (List.replicate n 0):=by rw [a,hP,if_pos a8,GZ,<- hx]
   try simp [go_sem,seval,v,p,aA p,aA r,m,aA g,a,dB]
   repeat first|intro _|refine ⟨fS,?_⟩
   refine aB (tH c h[i]) ((by first|rfl|(simp [go_sem,<- List.map_take,<- List.map_drop,v,p,aA p,aA r,m,aA g,a,dB];done))) ?_;try simp [go_sem,seval,v,p,aA p,aA r,m,aA g,a,dB]
   repeat first|intro _|refine ⟨fS,?_⟩
   refine iW (i+1) aD ((A _ _ _).2 ⟨(y),?_,?_,?_,?_,?_,?_,?_,?_,?_,?_,?_,(by first|assumption|omega|(simp [go_sem,v,p,aA p,aA r,m,aA g,a,dB,O];done)|(simp_all<;>omega)),(by exact q),(by rw [q,j8,fI])⟩)<;>first|omega|(simp [go_sem,seval,v,p,aA p,aA r,m,aA g,a,dB]<;>omega)
  .try simp [go_sem] at O
   obtain ⟨y,a⟩:=c6 (w);have q:y=oJ (JO h d c (i+1)) (List.replicate n 0):=by rw [a,hP,if_neg (bZ O),dL,<- hx]
   try simp [go_sem,seval,v,p,aA p,aA r,m,a]
   repeat first|intro _|refine ⟨fS,?_⟩
   refine iW (i+1) aD ((A _ _ _).2 ⟨(y),?_,?_,?_,?_,?_,?_,?_,?_,?_,?_,?_,(by first|assumption|omega|(simp [go_sem,v,p,aA p,aA r,m,a,O];done)|(simp_all<;>omega)),(by exact q),(by rw [q,j8,fI])⟩)<;>first|omega|(simp [go_sem,seval,v,p,aA p,aA r,m,a]<;>omega)
 .try simp [go_sem] at p
  have hX:w=oJ (JO h d c d.length) (List.replicate n 0):=by rw [hx,(aD:i=d.length)]
  try simp [go_sem,seval,v]
  repeat first|intro _|refine ⟨fS,?_⟩
  obtain ⟨I2,z⟩:∃ I2:Nat->eB->AHeap->Prop,∀ (k:Nat) (e:eB) (H:AHeap),I2 k e H↔(∃ B:V2,(e 1=dLI h)/\(e 3=dLI c)/\(e 4=dLI f)/\(e 5=dLI j)/\(e 6=dLI keep)/\(e 15=.own 0 n)/\(e 22=dLI d)/\(e 23=dI d.length)/\(e 41=dLI f)/\(e 42=dI f.length)/\(e 43=dI k)/\(H.get 0=some ⟨3,1,B.map cI,false⟩)/\(0<H.next)/\(k<=f.length)/\(B=oJ (MM f j keep k) w)/\(B.length=n)):=⟨λk e H=>_,λ_ _ _=>Iff.rfl⟩;refine yY I2 (λk=>f.length - k) (0) ((z _ _ _).2 ⟨(w),?_,?_,?_,?_,?_,?_,?_,?_,?_,?_,?_,(by simp [go_sem,v]),?_,(by first|assumption|omega|(simp [go_sem,v];done)|(simp_all;done)),(by rfl),(by exact m)⟩) ?_;iterate 12 (first|omega|(simp [go_sem,seval,v]<;>omega))
  intro k e H a9;obtain ⟨B,Y,W,U,S,P,L,J,G,E,D,C,b,a0,hk,hy,b1⟩:=(z _ _ _).1 a9;have x0:=cW a0;have u:=xb0 Y W U S P L J G E D C x0;try simp [go_sem,seval,u,b]
  refine bA (λl=>?_) (λl=>?_)
  .try simp [go_sem] at l
   have o:k<j.length:=aD;have b3:=a3 _ (aC l);have g:f[k].toNat<B.length:=aD;have N:=TN f j keep k;rw [iD l,iD o] at N;try simp [go_sem,seval,u,b,l,aA l,aA o,aA g]
   repeat first|intro _|refine ⟨fS,?_⟩
   refine aB (f6 keep k) ((by first|rfl|(simp [go_sem,<- List.map_take,<- List.map_drop,u,b,l,aA l,aA o,aA g];done))) ?_;try simp [go_sem,seval,u,b,l,aA l,aA o,aA g]
   repeat first|intro _|refine ⟨fS,?_⟩
   refine bA (λs=>?_) (λs=>?_)
   .try simp [go_sem] at s
    obtain ⟨y,a⟩:=c6 (B.set f[k].toNat j[k]);have q:y=oJ (MM f j keep (k+1)) w:=by rw [a,N,if_neg (bZ s),GZ,<- hy]
    try simp [go_sem,seval,u,b,l,aA l,aA o,aA g,a,dB]
    repeat first|intro _|refine ⟨fS,?_⟩
    refine iW (k+1) aD ((z _ _ _).2 ⟨(y),?_,?_,?_,?_,?_,?_,?_,?_,?_,?_,?_,(by simp [go_sem,u,b,l,aA l,aA o,aA g,a,dB]),?_,(by first|assumption|omega|(simp [go_sem,u,b,l,aA l,aA o,aA g,a,dB,p,s];done)|(simp_all<;>omega)),(by exact q),(by rw [q,j8];exact m)⟩)<;>first|omega|(simp [go_sem,seval,u,b,l,aA l,aA o,aA g,a,dB]<;>omega)
   .try simp [go_sem] at s
    obtain ⟨y,a⟩:=c6 (B);have q:y=oJ (MM f j keep (k+1)) w:=by rw [a,N,if_pos (bZ s),dL,<- hy]
    try simp [go_sem,seval,u,b,l,aA l,aA o,aA g,a]
    repeat first|intro _|refine ⟨fS,?_⟩
    refine iW (k+1) aD ((z _ _ _).2 ⟨(y),?_,?_,?_,?_,?_,?_,?_,?_,?_,?_,?_,(by simp [go_sem,u,b,l,aA l,aA o,aA g,a]),?_,(by first|assumption|omega|(simp [go_sem,u,b,l,aA l,aA o,aA g,a,p,s];done)|(simp_all<;>omega)),(by exact q),(by rw [q,j8];exact m)⟩)<;>first|omega|(simp [go_sem,seval,u,b,l,aA l,aA o,aA g,a]<;>omega)
  .try simp [go_sem] at l
   have hE:B=Ci n h d c f j keep:=by rw [hy,(aD:k=f.length),hX];rfl
   have a6:=Vt n h d c f j keep;rw [hE] at b;try simp [go_sem,seval,u,b,b]
   exact hQ _ _ (by first|(left;(simp [go_sem,u,b,b,a6,dLI]);done)|(right;(simp [go_sem,u,b,b,a6,dLI]);done))
def Et (t:Types)(s:Stp26):Bool:=decide (lL t s.G s.L s.V=0)&&decide (gI t s.G s.L s.V=s)
theorem MD {t:Types}{s:Stp26}(e:s.G.ok)(h:Et t s=true):s=aP t s.G s.L s.V/\StepOk t s.G s.L s.V/\UndOk t s:=by
 unfold Et at h;simp only [aL,decide_eq_true_eq] at h;obtain ⟨b,a⟩:=h;unfold gI at a;rw [if_pos b] at a;have f:f9 t s.G s.L=0/\gS t s.G s.L s.V=0:=by
  unfold lL at b;split at b
  .contradiction
  .rename_i hh;exact ⟨by simpa using hh,b⟩
 obtain ⟨d,c⟩:=w8 f.1;have K:=Ui (G6 e d) (nB c) f.2;refine ⟨a.symm,K,?_⟩;have g:=K.dr e;rw [a] at g;exact g
theorem Dv:(Cond.mk 1 [] ⟨[],[]⟩ Ux).ok/\(Cond.mk 1 [] ⟨[],[]⟩ Ux).size<=1000000:=by
 refine ⟨(sH _).2 ⟨⟨?_,?_,?_,?_,?_,?_⟩,?_⟩,?_⟩<;>simp [Cond.map,Cond.l,Cond.u,Ux,Cond.size,Cond.ac]
theorem GC {t:Types}{s:Stp26}(b:s.G.ok)(a:UndOk t s):(c9 t s).ok:=by
 obtain ⟨⟨⟨f,e⟩,d,c⟩⟩:=show _/\True from ⟨a.Y,trivial⟩;have h:=AR s.G.s.h s.G.right.i.h.length;have g:=AR s.G.s.j s.G.right.i.j.length;refine ⟨b.name,?_,?_,?_,?_,Dv.1,Dv.2⟩
 .show (fF s.G.s.h s.G.right.i.h.length).length<=1000000;omega
 .show (fF s.G.s.j s.G.right.i.j.length).length<=1000000;omega
 .show (cZ (fF s.G.s.h s.G.right.i.h.length) s.G.s.h s.G.q.h).length<=1000000;unfold cZ;rw [aR];omega
 .show (cZ (fF s.G.s.j s.G.right.i.j.length) s.G.s.j s.G.q.j).length<=1000000;unfold cZ;rw [aR];omega
def BI (t:Types)(s:Stp26):Int:=if (dA t).2≠0 then (dA t).2 else if Et t s=true then 0 else 1
def Bj (t:Types)(s:Stp26):Int:=if BI t s≠0 then BI t s else GD t s
def p9 (t:Types)(s:Stp26):Rule:=if BI t s≠0 then rule0 else GB t s
structure CmpA (t:Types) (s:Stp26):Prop where
 b:∀ i (h1:i<(gI t s.G s.L s.V).L.k.length) (h2:i<s.L.k.length),DN (gI t s.G s.L s.V).L.k[i] s.L.k[i]
 a:∀ i (h1:i<(gI t s.G s.L s.V).after.k.length) (h2:i<s.after.k.length),DN (gI t s.G s.L s.V).after.k[i] s.after.k[i]
theorem Bn (t:Types)(m:t.ok)(s:Stp26)(q:s.G.ok):Pua 58 [t.d,.agg s.c] (.tup [(p9 t s).d,dI (Bj t s)]):=by
 have v:=Bk t m;have p:=EJ t m s q rfl rfl;have n:Et t s=true->Pua 127 [t.d,.agg s.c] (.tup [(GB t s).d,dI (GD t s)]):=λh=>FN t m s (MD q h).2.2;obtain ⟨b,f⟩:=c6 (Et t s);have a:(decide (lL t s.G s.L s.V=0)&&decide (gI t s.G s.L s.V=s))=b:=f.symm;rw [a] at p;rw [<- f] at n;obtain ⟨e,g⟩:=c6 ((dA t).2);rw [<- g] at v;have r:p9 t s=if e≠0 then rule0 else if b=true then GB t s else rule0:=by unfold p9 BI;rw [<- g,<- f];by_cases l:e=0<;>by_cases k:b=true<;>simp [l,k]
 have u:Bj t s=if e≠0 then e else if b=true then GD t s else 1:=by unfold Bj BI;rw [<- g,<- f];by_cases l:e=0<;>by_cases k:b=true<;>simp [l,k]
 rw [r,u];simp only [Stp26.c,Rule.c,Mat.c,Host.c,dN,dP] at p n;clear f a g r u;refine Tz.pK ⟨λt=>t==4,λ_=>[]⟩ func58 rfl (λQ o=>?_);have Y:=xa2 @Stp26.c.eq_1 @Rule.c.eq_1 @Mat.c.eq_1 @Host.c.eq_1;refine kZ (h:=aB (v) wl ?_);refine kZ (h:=wq (λj=>?_) λj=>?_)
 .exact kZ (h:=o _ _ (by simp [go_sem,j,rule0,oQ,Rule.d,Rule.c,Cond.B,Cond.u,Cond.map,Cond.l]))
 .refine sM (h:=aB (p) wl ?_);refine sM (h:=wq (λi=>?_) λi=>?_)
  .exact kZ (h:=o _ _ (by simp [go_sem,j,i,rule0,oQ,Rule.d,Rule.c,Cond.B,Cond.u,Cond.map,Cond.l]))
  .refine kZ (h:=aB (n (bZ i)) wl ?_);exact kZ (h:=o _ _ (by simp [go_sem,j,i]))
theorem LX (t:Types)(b:t.ok)(s:Stp26)(e:s.G.ok):Pua 20 [t.d,.agg s.c] (.tup [(p9 t s).d,dI (Bj t s)]):=by
 have a:=Bn t b s e;simp only [Stp26.c,Rule.c,Mat.c,Host.c,dN,dP] at a;refine Tz.pK ⟨λt=>t==4,λ_=>[]⟩ func20 rfl (λQ f=>?_);have Y:=xa2 @Stp26.c.eq_1 @Rule.c.eq_1 @Mat.c.eq_1 @Host.c.eq_1;refine kZ (h:=aB (a) wl ?_);exact kZ (h:=f _ _ wy)
def HR (s u:Stp26):Part:=⟨BN s.U.h u.U.h u.A.h s.V.m.h u.after.i.h.length,BN s.U.j u.U.j u.A.j s.V.m.j u.after.i.j.length⟩
structure IsoOk (s u:Stp26):Prop where
 fn:u.after.i.h.length<=1000000/\u.after.i.j.length<=1000000
 ft:(∀ x∈s.U.h,x<u.U.h.length)/\∀ x∈s.U.j,x<u.U.j.length
 fu:(∀ x∈u.U.h,x<u.after.i.h.length)/\∀ x∈u.U.j,x<u.after.i.j.length
 fc:(∀ x∈u.A.h,0<=x/\x<u.after.i.h.length)/\∀ x∈u.A.j,0<=x/\x<u.after.i.j.length
 fm:u.A.h.length<=s.V.m.h.length/\u.A.j.length<=s.V.m.j.length
end Go.Abs
end
