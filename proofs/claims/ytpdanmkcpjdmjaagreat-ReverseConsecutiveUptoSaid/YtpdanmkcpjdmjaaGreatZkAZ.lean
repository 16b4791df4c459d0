/- Plain law: checks, values and complements in an isomorphic h -/
import Derived.Test.YtpdanmkcpjdmjaaGreatZkAY
import Derived.Test.YtpdanmkcpjdmjaaGreatZkAF
import Derived.Test.YtpdanmkcpjdmjaaGreatZkAA
import Derived.Test.YtpdanmkcpjdmjaaGreatZkAR
import Derived.Test.YtpdanmkcpjdmjaaGreatZkAW
import Derived.Test.YtpdanmkcpjdmjaaGreatZkAS
import Derived.Test.YtpdanmkcpjdmjaaGreatRows
import Derived.OpenShut
set_option linter.unusedVariables false
set_option linter.unusedSimpArgs false
section
set_option maxRecDepth 100000
set_option maxHeartbeats 4000000
open Go Go.Proofs Tryz
namespace Go.Abs
theorem IL {t:Types}{b:Host}(H:HostOk t b):mB t b.j=true:=by
 rw [qQ H.gg];exact Ea (λa d=>(oZ H a d).2) λx c=>(H.ed x c).1
theorem Na {t:Types}{p g:Graph}{b:Host}(h:eH t p g=0)(H:HostOk t b):eH t p b.j=0:=by
 have a:=IL H;have c:=H.gg;unfold eH at h ⊢;rw [a,c];split at h
 .exact absurd h (by assumption)
 .rename_i h1;rw [if_neg h1];split at h
  .exact absurd h (by assumption)
  .rename_i h2;rw [if_neg h2];split at h
   .exact absurd h (by assumption)
   .split at h
    .cases h
    .rename_i h4;simp only [cZ,cD,not_or,Bool.not_eq_false] at h4;rw [if_neg dB,h4.1];rfl
theorem Nl {t:Types}{p g:Graph}{m:Part}{a:Bool}(h:checkE t p g m a=0):eH t p g=0:=by
 unfold checkE at h;split at h
 .exact absurd h (by assumption)
 .rename_i h1;simpa using h1
theorem HIso.checkE {t:Types}{a b:Host}{s:Part}(I:HIso a b s)(e:graphF a.j=0)(d:HostOk t b){p:Graph}{m:Part}{c:Bool}(h:Abs.checkE t p a.j m c=0):Abs.checkE t p b.j (Dt s m) c=0:=by
 have G:=rD h;unfold Go.Abs.checkE;rw [if_neg (by rw [Na (Nl h) d];simp)];exact I.matchE e G.1.gp G.2
theorem HIso.dv {a b:Host}{s:Part}(I:HIso a b s){p:Graph}{m:Part}(d:∀ x∈m.h,0<=x/\x<a.j.h.length):kM p b.j (Dt s m)=kM p a.j m:=by
 unfold kM Dt;rw [Fd];congr 1;exact bJ λx c=>(I.ty x (d x c).1 (d x c).2).symm
theorem SS {a keep:W3}{f:Int->Int}{n:Nat}(g:∀ x∈a,0<=x/\x<n)(c:∀ x y:Int,0<=x/\x<n->0<=y/\y<n->f x=f y->x=y):nU (a.map f) keep=nU a keep:=by
 have l:∀ i k:Nat,i<a.length->k<a.length->sP (a.map f) keep i k=sP a keep i k:=λi k e d=>by
  unfold sP;rw [Dh e,Dh d,aA e,aA d,Option.getD_some,Option.getD_some];congr 1;exact decide_eq_decide.2 ⟨λh=>c _ _ (g _ (aC e)) (g _ (aC d)) h,λh=>by rw [h]⟩
 unfold nU EO;rw [aT];refine IR _ λi c=>?_;have b:=bA.1 c;unfold lW;congr 1;exact List.filter_congr λk j=>l _ _ b (by have:=bA.1 j;omega)
theorem V2 {a keep:W3}{f:Int->Int}:gL (a.map f) keep=(gL a keep).map f:=by
 unfold gL;rw [aT,Fd];refine bJ λi b=>?_;exact Dh (bA.1 (fK.1 b).1)
theorem V0 {a keep:W3}{x:Int}(h:x∈gL a keep):x∈a:=by
 obtain ⟨i,_,_,b⟩:=q9.1 h;exact aL b
theorem HIso.comp {a b:Host}{s:Part}(I:HIso a b s)(J:graphF b.j=0){l:Graph}{keep m:Part}(h:oG l a.j keep m=0):oG l b.j keep (Dt s m)=0:=by
 obtain ⟨p,T,S,R,t⟩:=vR h;obtain ⟨A,M,E,D⟩:=kZ p;obtain ⟨z,w⟩:=tH p;have r:=λ(x y:Int) (c:0<=x/\x<a.j.h.length) (h2:0<=y/\y<a.j.h.length) (h:iA s.h x=iA s.h y)=>I.inj c h2 h;have u:=λ(x y:Int) (c:0<=x/\x<a.j.i.length) (h2:0<=y/\y<a.j.i.length) (h:iA s.i x=iA s.i y)=>I.cY c h2 h;have gN_:∀ {k:Int},0<=k->k<l.h.length->iA (Dt s m).h k=iA s.h (iA m.h k):=λd c=>wA _ d aD;have gE_:∀ {k:Int},0<=k->k<l.i.length->iA (Dt s m).i k=iA s.i (iA m.i k):=λd c=>wA _ d aD;have K:eD l b.j (Dt s m)=0:=by
  refine AY A J (by rw [<- E];exact aT ..) (by rw [<- D];exact aT ..) (λi d c=>?_) (λk d c=>?_)
  .obtain ⟨e,q⟩:=Il p d c;rw [gN_ d c];exact ⟨I.dw e,by rw [<- I.ty _ e.1 e.2,q]⟩
  .obtain ⟨e,q,C,B⟩:=qX p d c;have f:=vM A d c;rw [gE_ d c,gN_ f.1.1 f.1.2,gN_ f.2.1.1 f.2.1.2,I.eg _ e.1 e.2,C,B];exact ⟨I.dx e,q,rfl,rfl⟩
 have L:vP b.j (Dt s m).i (gL (Dt s m).h keep.h)=[]:=by
  unfold vP at t ⊢;rw [List.map_eq_nil_iff,qJ] at t ⊢;intro k H;obtain ⟨x,g,f⟩:=I.da (v:=k) (by have:=bA.1 H;omega);have o:=t x.toNat (bA.2 aD);have j:=((dP M).2 _ (Ng g.1 g.2)).2;have c:=I.eg x g.1 g.2;rw [f] at c;have O:b.j.i[k]?.getD b8=⟨(eA a.j x).type,iA s.h (eA a.j x).w,iA s.h (eA a.j x).M⟩:=by
   unfold eA at c;rw [Int.toNat_natCast] at c;exact c
  have N:a.j.i[x.toNat]?.getD b8=eA a.j x:=rfl;have n:∀ v∈gL m.h keep.h,0<=v/\v<a.j.h.length:=λv F=>z v (V0 F);unfold xQ at o ⊢;rw [O];rw [N] at o;show ¬ (!mem (m.i.map (iA s.i)) (k:Int)&&(mem (gL (m.h.map (iA s.h)) keep.h) (iA s.h (eA a.j x).w)||mem (gL (m.h.map (iA s.h)) keep.h) (iA s.h (eA a.j x).M)))=true;rw [V2,Rj n j.1 r,Rj n j.2 r,<- f,Rj w g u];rw [show ((x.toNat:Nat):Int)=x by omega] at o;exact o
 unfold oG compG;rw [if_neg (by rw [if_neg (by rw [K];simp)];have G:subF l keep=0:=T;rw [G];simp),if_neg,if_neg (by rw [L];simp)];have Q:nU (Dt s m).h keep.h=[]:=by rw [<- S];exact SS z r
 have P:nU (Dt s m).i keep.i=[]:=by rw [<- R];exact SS w u
 rw [Q,P];simp
theorem RA {t:Types}{p:Graph}{h:Host}(a:graphF p=0)(b:fQ t p=true)(H:HostOk t h):eH t p h.j=0:=by
 unfold eH;rw [if_neg (by rw [H.vf];simp),if_neg (by rw [a];simp),if_neg (by rw [H.gg];simp),qQ a,b,IL H];rfl
theorem VW {t:Types}{h:Host}{a:Bool}{c:Cond}{m:Mat}:((mO t h a c m).2=0/\(mO t h a c m).1=true)↔NH t h a c m=0:=by
 unfold mO;constructor
 .intro hh;split at hh
  .exact absurd hh.2 dB
  .exact hh.1
 .intro hh;rw [hh,if_neg (by decide)];simp
theorem UV (t:Types)(h:Host)(a:Bool)(m:Mat):NH t h a trueC m=0:=by
 unfold NH;rw [GH];rfl
section
variable {t:Types} {r:Rule} {h:Host} {m:Mat}
theorem StepIn.dq (S:StepIn t r h m){x:Int}(c:x∈lN r.q.h m.m.h h.j.h.length):gN (bW t r h m).j (iA (mQ r.q.h m.m.h h.j.h.length) x)=gN h.j x /\
  (bW t r h m).k[(iA (mQ r.q.h m.m.h h.j.h.length) x).toNat]?.getD []=h.k[x.toNat]?.getD []:=by
 obtain ⟨p,f,e,d⟩:=S.aC.aB c;have a:p<(Abs.bY r h m).h.length:=by rw [S.aF];exact e
 have b:(Abs.bY r h m).h[p]=x:=by rw [<- lU a,S.aF];exact d
 rw [f];constructor
 .unfold gN;rw [Int.toNat_natCast,S.aS,Abs.aR (eQ a),aM,aA a,b];rfl
 .rw [Int.toNat_natCast,LV,Abs.aR (eQ a),aM,aA a,b];rfl
theorem StepIn.cW (S:StepIn t r h m){x:Int}(c:x∈lN r.q.i m.m.i h.j.i.length):eA (bW t r h m).j (iA (mQ r.q.i m.m.i h.j.i.length) x) =
  ⟨(eA h.j x).type,iA (mQ r.q.h m.m.h h.j.h.length) (eA h.j x).w,iA (mQ r.q.h m.m.h h.j.h.length) (eA h.j x).M⟩:=by
 obtain ⟨p,n,l,j⟩:=S.ba.aB c;have b:p<(Abs.bY r h m).i.length:=by rw [S.aR];exact l
 have i:(Abs.bY r h m).i[p]=x:=by rw [<- lU b,S.aR];exact j
 have e:eA (bW t r h m).j (p:Int)=gEd h.j (Abs.bY r h m) x:=by
  unfold eA;rw [Int.toNat_natCast,S.bt,Abs.aR (eQ b),aM,aA b,i];rfl
 rw [n,e,EJ];obtain ⟨g,f⟩:=pN S.sub (k:=x) (by rw [S.aR];exact c);have a:∀ v:Int,v∈(Abs.bY r h m).h->iA (mQ r.q.h m.m.h h.j.h.length) v=(pT (Abs.bY r h m).h v:Int):=λv d=>by
  rw [S.aC.bS (S.bF v d),<- S.aF,Ba S.bb,if_pos ((mem_iff _ _).2 d)]
 rw [a _ g,a _ f]
theorem StepIn.de (S:StepIn t r h m){x:Int}(a:x∈lN r.q.i m.m.i h.j.i.length):(eA h.j x).w∈lN r.q.h m.m.h h.j.h.length/\(eA h.j x).M∈lN r.q.h m.m.h h.j.h.length:=by
 have:=pN S.sub (k:=x) (by rw [S.aR];exact a);rwa [S.aF] at this
end
theorem RuleV.cb {t:Types}{r:Rule}(R:RuleV t r){q:Nat}(o:q<r.q.i.length):(eA r.left.j (iA r.q.i q)).type=(eA r.right.j (iA r.u.i q)).type /\
  (∃ p:Nat,p<r.q.h.length/\iA r.q.h p=(eA r.left.j (iA r.q.i q)).w/\iA r.u.h p=(eA r.right.j (iA r.u.i q)).w) /\
  (∃ p:Nat,p<r.q.h.length/\iA r.q.h p=(eA r.left.j (iA r.q.i q)).M/\iA r.u.h p=(eA r.right.j (iA r.u.i q)).M):=by
 obtain ⟨n,m⟩:=AG R.sub;have d:=(rL R.sub).2.1;have l:iA r.q.i q∈r.q.i:=fB aD aD;obtain ⟨_,c,b,a⟩:=qX R.mo (k:=(q:Int)) aD aD;rw [DC R.sub aD aD,EJ] at c b a;obtain ⟨f,e⟩:=pN R.sub l;obtain ⟨j,i,_⟩:=BY d f;obtain ⟨h,g,_⟩:=BY d e;exact ⟨c,⟨_,j,i,b⟩,⟨_,h,g,a⟩⟩
section
variable {keep into mm:W3} {nL nR nH:Nat}
theorem Y7 {c keep:W3}(h:∀ i k:Nat,i<k->k<c.length->c[i]?.getD 0=c[k]?.getD 0->mem keep i=true/\mem keep k=true):nU c keep=[]:=by
 unfold nU EO lW;rw [List.flatMap_eq_nil_iff];intro i d;rw [List.map_eq_nil_iff,qJ];intro b e a;have l:=bA.1 d;have j:=bA.1 e;unfold sP at a;rw [aN,decide_eq_true_eq] at a;obtain ⟨g,f⟩:=h i (i+1+b) aD aD a.1;rw [g,f] at a;exact absurd a.2 dB
theorem Srt.cZ (S:Srt keep into mm nL nR nH){j:Int}(b:j∈into):iA (uR keep into mm nR nH) j<(lN keep mm nH).length:=by
 obtain ⟨q,d,rfl⟩:=oX b;have e:=S.kl;have a:iA keep q∈keep:=fB aD aD;rw [S.aK aD];obtain ⟨p,c,f,_⟩:=S.aB (S.aq a);rw [c];omega
theorem Srt.cL (S:Srt keep into mm nL nR nH):nU (uR keep into mm nR nH) (fS into nR)=[]:=by
 refine Y7 λi k d c h=>?_;rw [eW] at c;have e:iA (uR keep into mm nR nH) (i:Int)=iA (uR keep into mm nR nH) (k:Int):=h;have hi_:∀ {j:Nat},j<nR->(j:Int)∈into->mem (fS into nR) j=true:=λn l=>(mem_iff _ _).2 (jX.2 ⟨aD,l⟩);by_cases a:(i:Int)∈into
 .by_cases b:(k:Int)∈into
  .exact ⟨hi_ aD a,hi_ c b⟩
  .obtain ⟨f,_,_,m⟩:=S.ay (j:=(k:Int)) aD b;have:=S.cZ a;omega
 .obtain ⟨f,s,r,m⟩:=S.ay (j:=(i:Int)) aD a;by_cases b:(k:Int)∈into
  .have:=S.cZ b;omega
  .obtain ⟨g,q,p,o⟩:=S.ay (j:=(k:Int)) aD b;have:f=g:=aD;subst this;omega
theorem Srt.cS (S:Srt keep into mm nL nR nH){v:Int}(b:v∈gL (uR keep into mm nR nH) (fS into nR)):(lN keep mm nH).length<=v:=by
 obtain ⟨i,g,a,e⟩:=q9.1 b;rw [eW] at g;have c:(i:Int)∉into:=λd=>by
  rw [(mem_iff _ _).2 (jX.2 ⟨aD,d⟩)] at a;cases a
 obtain ⟨f,_,_,h⟩:=S.ay (j:=(i:Int)) aD c;have:iA (uR keep into mm nR nH) (i:Int)=v:=by unfold iA;rw [Int.toNat_natCast,e];rfl
 omega
theorem Mb (S:Srt keep into mm nL nR nH){i:Int}(c:0<=i)(b:i<(fS into nR).length):∃ q:Nat,q<keep.length/\iA (fS into nR) i=iA into q/\iA (dZ (fS into nR) into keep) i=iA keep q:=by
 have e:=jX.1 (fB (l:=fS into nR) c b);obtain ⟨q,d,a⟩:=oX e.2;have f:=S.kl;refine ⟨q,aD,a.symm,?_⟩;unfold dZ;rw [wA _ c b,<- a,Cb S.cy d]
theorem NW (S:Srt keep into mm nL nR nH){q:Nat}(d:q<keep.length):iA (dZ (fS into nR) into keep) (pT (fS into nR) (iA into q))=iA keep q:=by
 have e:=S.kl;have a:iA into q∈into:=fB aD aD;obtain ⟨c,b,_⟩:=BY (Ds into nR) (jX.2 ⟨S.ir _ a,a⟩);unfold dZ;rw [wA _ aD aD,b,Cb S.cy aD]
theorem Ha (S:Srt keep into mm nL nR nH)(g:keep.Nodup):(dZ (fS into nR) into keep).Nodup:=by
 unfold dZ;rw [eX,G0];refine List.Pairwise.imp_of_mem ?_ (eX.1 (mL (Ds into nR)));intro x y d c a b;obtain ⟨q,e,rfl⟩:=oX (jX.1 d).2;obtain ⟨p,f,rfl⟩:=oX (jX.1 c).2;rw [Cb S.cy e,Cb S.cy f] at b;have:=S.kl;have:=EE g aD aD b;exact a (by rw [this])
end
section
variable {t:Types} {r:Rule} {h:Host} {m:Mat}
theorem StepIn.cR (S:StepIn t r h m){j:Int}(A:0<=j/\j<r.right.j.i.length):eA (bW t r h m).j (iA (c7 r h m).i j) =
  ⟨(eA r.right.j j).type,iA (c7 r h m).h (eA r.right.j j).w,iA (c7 r h m).h (eA r.right.j j).M⟩:=by
 have N:=S.aC;have E:=S.ba;by_cases v:j∈r.u.i
 .obtain ⟨q,F,rfl⟩:=oX v;have z:=E.kl;have u:iA r.q.i q∈r.q.i:=fB aD aD;have a:=E.kr _ u;obtain ⟨C,⟨p,y,x,w⟩,⟨D,d,c,b⟩⟩:=S.hR.cb (q:=q) aD;obtain ⟨_,o,l,g⟩:=qX (vR S.hc).1 (k:=iA r.q.i q) a.1 a.2;have n:(eA r.left.j (iA r.q.i q)).type=_:=o;have i:iA m.m.h (eA r.left.j (iA r.q.i q)).w=_:=l;have e:iA m.m.h (eA r.left.j (iA r.q.i q)).M=_:=g;rw [S.bl,E.aK aD,S.cW (E.aq u),<- w,<- b,S.aH,N.aK y,N.aK d,x,c,<- C,n,i,e]
 .obtain ⟨f,o,l,g⟩:=E.ay A v;have s:=S.cX (f:=f) o;rw [S.aR] at s;have B:iA r.ai f=j:=l;rw [S.bl,g,s,B];rfl
theorem StepIn.bY (S:StepIn t r h m){p:Nat}(a:p<r.q.h.length):gN (bW t r h m).j (iA (c7 r h m).h (iA r.u.h p))=gN h.j (iA m.m.h (iA r.q.h p)):=by
 rw [S.aH,S.aC.aK a,(S.dq (S.aC.aq (fB aD aD))).1]
def Ff (t:Types)(r:Rule)(h:Host)(m:Mat):Graph:=kM r.right.j (bW t r h m).j (c7 r h m)
def Th (r:Rule)(h:Host)(m:Mat):Graph:=kM r.left.j h.j m.m
theorem StepIn.cf (S:StepIn t r h m):(Ff t r h m).h.length=r.right.j.h.length:=by
 show ((c7 r h m).h.map _).length=_;rw [aT,S.aH,eW]
theorem StepIn.c5 (S:StepIn t r h m){i:Int}(h0:0<=i)(h1:i<r.right.j.h.length):gN (Ff t r h m) i=gN (bW t r h m).j (iA (c7 r h m).h i):=wA _ h0 (by rw [S.aH,eW];omega)
theorem StepIn.ct (S:StepIn t r h m){i:Int}(h0:0<=i)(h1:i<r.left.j.h.length):gN (Th r h m) i=gN h.j (iA m.m.h i):=wA _ h0 (by have:=S.hm.len;omega)
theorem StepIn.bo (S:StepIn t r h m):(Th r h m).h.length=r.left.j.h.length:=by
 show (m.m.h.map _).length=_;rw [aT];exact S.hm.len
theorem StepOk.ul (K:StepOk t r h m):graphF (Ff t r h m)=0/\fQ t (Ff t r h m)=true/\eD (Ff t r h m) (bW t r h m).j (Abs.c7 r h m)=0:=by
 have S:=K.S;have H:HostOk t (b9 t r h m):=lE K.after;have x:graphF (bW t r h m).j=0:=H.gg;have p:=dP x;have A:=bR S.hR.gr;have n:=dP S.hR.gr;have l:=lT S.hR.gr S.hR.tr;have b:=S.cf;have c:=S.ak;have o:=S.au;have s:∀ a∈(Ff t r h m).h,(0<=a/\a<=99)/\a<t.h.length:=λa d=>by
  obtain ⟨v,q,rfl⟩:=aW.1 d;have u:=EI (g:=(bW t r h m).j) (c v q).1 (c v q).2;exact ⟨p.1 _ u,(oZ H _ u).2⟩
 have z:graphF (Ff t r h m)=0:=EF aD (by show r.right.j.i.length<=80;omega) (λa d=>(s a d).1) λy j=>by
  have:=n.2 y j;rw [<- b] at this;exact this
 refine ⟨z,Ea (λa d=>(s a d).2) (λy j=>(l.2 y j).1.2),AY z x ?_ ?_ (λi f w=>?_) (λk f B=>?_)⟩
 .rw [b,S.aH,eW]
 .show _=r.right.j.i.length;rw [S.bl,eW]
 .rw [b] at w;exact ⟨c _ (fB f (by rw [S.aH,eW];omega)),(S.c5 f w).symm⟩
 .have hk':k<r.right.j.i.length:=B;have e:=S.cR ⟨f,hk'⟩;have C:eA (Ff t r h m) k=eA r.right.j k:=rfl;rw [e,C];exact ⟨o _ (fB f (by rw [S.bl,eW];omega)),rfl,rfl,rfl⟩
theorem StepOk.cT (K:StepOk t r h m):subF (Ff t r h m) (oS r)=0:=by
 have S:=K.S;have e:=S.cf;have s:=S.ba;have j:=lT S.hR.gr S.hR.tr;refine R9 K.ul.1 (λx d=>by rw [e];exact (jX.1 d).1) (Ds _ _) (λx d=>(jX.1 d).1) (Ds _ _) λk o=>?_;obtain ⟨a,f⟩:=jX.1 o;obtain ⟨q,y,rfl⟩:=oX f;have n:=s.kl;obtain ⟨_,⟨p,v,_,g⟩,⟨w,i,_,c⟩⟩:=S.hR.cb (q:=q) aD;have b:=vM S.hR.gr a.1 a.2;have l:=S.aC.kl;have u:eA (Ff t r h m) (iA r.u.i q)=eA r.right.j (iA r.u.i q):=rfl;rw [u];exact ⟨jX.2 ⟨b.1,g ▸ fB aD aD⟩,jX.2 ⟨b.2.1,c ▸ fB aD aD⟩⟩
theorem StepOk.cB (K:StepOk t r h m):oG (Ff t r h m) (bW t r h m).j (oS r) (Abs.c7 r h m)=0:=by
 have S:=K.S;have N:=S.aC;have E:=S.ba;have y:=K.ul.2.2;have w:=K.cT;have C:nU (Abs.c7 r h m).h (oS r).h=[]:=by rw [S.aH];exact N.cL
 have B:nU (Abs.c7 r h m).i (oS r).i=[]:=by rw [S.bl];exact E.cL
 have z:vP (bW t r h m).j (Abs.c7 r h m).i (gL (Abs.c7 r h m).h (oS r).h)=[]:=by
  unfold vP;rw [List.map_eq_nil_iff,qJ];intro x s a;have o:=bA.1 s;have I:(bW t r h m).j.i.length=_:=S.a7;unfold xQ at a;rw [aN,cZ,Abs.cD] at a;have b:∀ {v:Int},mem (gL (Abs.c7 r h m).h (oS r).h) v=true->(lN r.q.h m.m.h h.j.h.length).length<=v:=λu=>by
   have:=(mem_iff _ _).1 u;rw [S.aH] at this;exact N.cS this
  by_cases e:x<(lN r.q.i m.m.i h.j.i.length).length
  .obtain ⟨g,k⟩:=E.cg e;have i:=S.cW g;rw [k] at i;have A:(bW t r h m).j.i[x]?.getD b8=_:=i;have c:=S.de g;obtain ⟨p,H,G,_⟩:=N.aB c.1;obtain ⟨q,F,D,_⟩:=N.aB c.2;rw [A] at a;rcases a.2 with hh|hh
   .have:=b hh;simp only at this;omega
   .have:=b hh;simp only at this;omega
  .obtain ⟨j,n,_,l⟩:=E.cq (f:=x - (lN r.q.i m.m.i h.j.i.length).length) aD;have d:(x:Int)∈(Abs.c7 r h m).i:=by
    rw [S.bl];have:iA (uR r.q.i r.u.i m.m.i r.right.j.i.length h.j.i.length) j=(x:Int):=by rw [l];omega
    rw [<- this];exact fB n.1 (by rw [eW];omega)
   rw [(mem_iff _ _).2 d] at a;exact absurd a.1 dB
 unfold oG compG;rw [if_neg (by rw [if_neg (by rw [y];simp),w];simp),if_neg (by rw [C,B];simp),if_neg (by rw [z];simp)]
end
section
variable {t:Types} {r:Rule} {h:Host} {m:Mat}
theorem StepIn.cH (S:StepIn t r h m):graphF (Th r h m)=0/\fQ t (Th r h m)=true:=by
 refine ⟨(kZ (vR S.hc).1).1,Ea (λa e=>?_) λy c=>((lT S.hR.pl.gg S.hR.pl.ty).2 y c).1.2⟩;obtain ⟨v,d,rfl⟩:=aW.1 e;have b:=S.cz v d;exact (oZ S.ho _ (EI b.1 b.2)).2
theorem StepOk.c6 (K:StepOk t r h m)(U:Rule)(y:U.left.j=Ff t r h m)(G:U.right.j=Th r h m)(A:U.q=oS r)(H:U.u=y5 r):keptF U=0:=by
 have S:=K.S;have N:=S.aC;have E:=S.ba;have f:=K.cT;obtain ⟨F,D⟩:=AG f;have V:=S.cf;have w:=S.bo;have e:=rL S.hR.sub;have x:r.q.h.Nodup:=mL e.2.1;have Gs:r.q.i.Nodup:=mL (Hh S.hR.sub);have R:(y5 r).h.length=(oS r).h.length:=by simp [y5,dZ]
 have T:(y5 r).i.length=(oS r).i.length:=by simp [y5,dZ]
 have W:graphF (bZ (Ff t r h m) (oS r))=0:=RE f;have I:eD (bZ (Ff t r h m) (oS r)) (Th r h m) (y5 r)=0:=by
  refine AY W S.cH.1 (by rw [F,R]) (by rw [D,T]) (λi d b=>?_) (λk d b=>?_)
  .rw [F] at b;obtain ⟨q,o,n,j⟩:=Mb N d b;have c:iA r.q.h q∈r.q.h:=fB aD aD;have a:=N.kr _ c;have g:=(jX.1 (fB (l:=(oS r).h) d b)).1;have B:iA (y5 r).h i=iA r.q.h q:=j;have C:iA (oS r).h i=iA r.u.h q:=n;rw [B,DB f d b,w];refine ⟨a,?_⟩;rw [S.ct a.1 a.2,S.c5 g.1 g.2,C,S.bY o]
  .rw [D] at b;obtain ⟨q,o,n,j⟩:=Mb E d b;have c:iA r.q.i q∈r.q.i:=fB aD aD;have a:=E.kr _ c;have B:iA (y5 r).i k=iA r.q.i q:=j;have C:iA (oS r).i k=iA r.u.i q:=n;obtain ⟨X,⟨p,P,O,M⟩,⟨Q,v,u,s⟩⟩:=S.hR.cb o;have Z:∀ z,eA (Ff t r h m) z=eA r.right.j z:=λ_=>rfl;have Y:∀ z,eA (Th r h m) z=eA r.left.j z:=λ_=>rfl;have L:iA (y5 r).h (pT (oS r).h (iA r.u.h p))=_:=NW N P;have J:iA (y5 r).h (pT (oS r).h (iA r.u.h Q))=_:=NW N v;rw [B,DC f d b,EJ,C,Z,Y,<- M,<- s];simp only;rw [L,J,O,u];exact ⟨a,X.symm,rfl,rfl⟩
 refine VN (by rw [y,A];exact f) (by rw [y,A,G,H];exact I) ?_;rw [y,A,G,H];unfold Ca;simp only [aN,decide_eq_true_eq];exact ⟨I,Ha N x,Ha E Gs⟩
theorem StepIn.c4 (S:StepIn t r h m){ns es:W3}(v:∀ i∈ns,0<=i/\i<r.left.j.h.length)(A:∀ k∈es,0<=k/\k<r.left.j.i.length):vE t (Th r h m) ns es=true:=by
 unfold vE;rw [aN,cD,cD,fM,fM];have f:=(vR S.hc).1;refine ⟨λi x=>?_,λk w=>?_⟩
 .have hr:=v i x;have C:=S.cz _ (fB (l:=m.m.h) hr.1 (by have:=S.hm.len;omega));have s:=S.ho.vl;have j:(iA m.m.h i).toNat<h.j.h.length:=aD;have e:=(p8 (S.ho.nd _ j aD)).2.1;have y:gN (Th r h m) i=h.j.h[(iA m.m.h i).toNat]:=by
   rw [S.ct hr.1 hr.2];unfold gN;rw [aA j];rfl
  unfold absB;unfold nI at e;rw [y];cases u:t.h[(h.j.h[(iA m.m.h i).toNat]).toNat]? with
  | none=>simp
  | some n=>rw [u] at e;simpa using e
 .have hr:=A k w;obtain ⟨g,q,p,o⟩:=qX f (k:=k) hr.1 hr.2;have a:=vM S.hR.pl.gg hr.1 hr.2;have z:=(S.ho.ed _ (Ng g.1 g.2)).2;have d:(eA r.left.j k).type=_:=q;have c:iA m.m.h (eA r.left.j k).w=_:=p;have b:iA m.m.h (eA r.left.j k).M=_:=o;have B:(Th r h m).i[k.toNat]?.getD b8=eA r.left.j k:=rfl;unfold unfitB;rw [B,S.ct a.1.1 a.1.2,S.ct a.2.1.1 a.2.1.2,c,b,d,z];simp
theorem T5 {l:List Slot}(h:l.Pairwise λa b=>¬ (a.node=b.node/\a.J=b.J)):R3 l:=λi hi=>by
 rw [fM];intro x hx hs;obtain ⟨j,hj,rfl⟩:=aQ hx;rw [c8] at hj;have:=dD.1 h j i aD hi aD;rw [List.getElem_take] at hs;unfold sameSlot at hs;simp at hs;exact this ⟨hs.1,hs.2⟩
theorem N8 (t:Types)(s:Stp26)(n:Nat):R3 (g6 t s n):=by
 refine T5 ?_;have d:∀ i k x,x∈lK t s i k->x.node=(i:Int)/\x.J=(k:Int):=λi k x c=>by
  unfold lK at c;split at c
  .rw [bG] at c;subst c;exact ⟨rfl,rfl⟩
  .cases c
 unfold g6;rw [List.pairwise_flatMap];refine ⟨λi _=>?_,List.Pairwise.imp (λ {i j} o x c y e f=>?_) L3⟩
 .unfold sL;rw [List.pairwise_flatMap];refine ⟨λk _=>?_,List.Pairwise.imp (λ {k l} h x c y e f=>?_) L3⟩
  .unfold lK;split<;>simp
  .have a:=(d i k x c).2;have b:=(d i l y e).2;omega
 .unfold sL at c e;obtain ⟨k,_,m⟩:=bK.1 c;obtain ⟨l,_,g⟩:=bK.1 e;have a:=(d i k x m).1;have b:=(d j l y g).1;omega
theorem StepIn.aX (S:StepIn t r h m){i:Nat}(s:i<r.left.j.h.length):(0<=iA m.m.h i/\iA m.m.h i<h.j.h.length)/\(oF (aO t r h m) i).length=(bI t (gN h.j (iA m.m.h i))).length /\
  ∀ k:Nat,k<(oF (aO t r h m) i).length->∃ a:Attr,(bI t (gN h.j (iA m.m.h i)))[k]?=some a/\a.aw<=(oF (aO t r h m) i)[k]?.getD 0/\(oF (aO t r h m) i)[k]?.getD 0<=a.ax:=by
 have g:=S.cz _ (fB (l:=m.m.h) (n:=(i:Int)) aD (by have:=S.hm.len;omega));have f:=S.ho.vl;have e:(iA m.m.h i).toNat<h.j.h.length:=aD;have d:(iA m.m.h i).toNat<h.k.length:=aD;obtain ⟨_,_,o,j⟩:=p8 (S.ho.nd _ e d);have q:gN h.j (iA m.m.h i)=h.j.h[(iA m.m.h i).toNat]:=by unfold gN;rw [aA e];rfl
 have p:oF (aO t r h m) i=h.k[(iA m.m.h i).toNat]:=by
  show h.k[(iA m.m.h i).toNat]?.getD []=_;rw [aA d];rfl
 rw [q,p];refine ⟨g,o,λk c=>?_⟩;have b:k<(bI t h.j.h[(iA m.m.h i).toNat]).length:=aD;have:=j k c b;exact ⟨_,aA b,by rw [aA c,Option.getD_some];exact this.1,by rw [aA c,Option.getD_some];exact this.2⟩
theorem StepIn.c2 (S:StepIn t r h m):∀ x∈g6 t (aO t r h m) m.m.h.length,SlotIn t (Th r h m).h 0 x:=λx hx=>by
 obtain ⟨i,hi,k,hk,_,rfl⟩:=qS.1 hx;have hml:=S.hm.len;have hi':i<r.left.j.h.length:=aD;obtain ⟨h1,h2,h3⟩:=S.aX hi';obtain ⟨a,_,a1,a2⟩:=h3 k hk;have hu:=S.bo;have e:(Th r h m).h[((i:Nat):Int).toNat]?.getD 0=gN h.j (iA m.m.h i):=S.ct (i:=(i:Int)) aD aD;have hrow:oF (aO t r h m) i∈h.k:=by
  have hvl:=S.ho.vl;show h.k[(iA m.m.h i).toNat]?.getD []∈_;rw [aA aD];exact Abs.aC _
 have hs:=(S.ho.row _ hrow).2 _ (Abs.aC hk);have e5:(oF (aO t r h m) i)[k]?.getD 0=(oF (aO t r h m) i)[k]:=by rw [aA hk];rfl
 refine ⟨by simp only;omega,by simp only;omega,by simp only;omega,?_,by simp only;omega,by simp only;omega,?_,?_⟩
 .simp only;rw [e];omega
 .simp only;rw [e5];exact hs.1
 .simp only;rw [e5];exact hs.2
theorem Xb {r:Rule}(h:ruleF t r=0):lD r.name=true:=by
 unfold ruleF at h;split at h
 .exact absurd h (by assumption)
 .split at h
  .cases h
  .rename_i h2;simpa using h2
theorem Up {U:Rule}:(∀ i∈U.R,0<=i/\i<U.right.j.h.length)/\∀ k∈U.ai,0<=k/\k<U.right.j.i.length:=⟨λi hi=>(fZ.1 hi).1,λk hk=>(fZ.1 hk).1⟩
theorem StepOk.b4 (K:StepOk t r h m)(g:ruleF t r=0)(d:(g6 t (aO t r h m) m.m.h.length).length<=10):ruleF t (b5 t (aO t r h m))=0:=by
 have S:=K.S;have a:=S.hR.vf;have L:=S.cH;have c:cX t ⟨Ff t r h m,[],0,[]⟩=0:=tW a K.ul.1 K.ul.2.1;refine Vf a (show lD r.name=true from Xb g) c (TB L.1 L.2 rfl rfl d (Tr (p:=(b5 t (aO t r h m)).right) S.c2 (N8 _ _ _))) (K.c6 _ rfl rfl rfl rfl) ?_ (U3 c);have b:=Up (U:=b5 t (aO t r h m));refine S.c4 (λi f=>?_) (λk e=>b.2 k e);have:=b.1 i f;rw [show (b5 t (aO t r h m)).right.j=Th r h m from rfl,S.bo] at this;exact this
end
section
variable {t:Types} {r:Rule} {h:Host} {m:Mat}
theorem Uy {t:Types}(b:t.aj){a:Int}(h:0<=a/\a<t.h.length):wJ t a a=true:=by
 unfold wJ;have:=Ly b (a:=a.toNat) aD;rw [show ((a.toNat:Nat):Int)=a by omega] at this;exact this
theorem StepOk.cN (K:StepOk t r h m){a:Bool}(u:a=true->(Abs.c7 r h m).h.Nodup/\(Abs.c7 r h m).i.Nodup):matchE t (Ff t r h m) (bW t r h m).j (Abs.c7 r h m) a=0:=by
 have S:=K.S;have H:HostOk t (b9 t r h m):=lE K.after;obtain ⟨A,z,d⟩:=K.ul;obtain ⟨_,_,y,x⟩:=kZ d;obtain ⟨B,w⟩:=Es d;have p:=S.cf;have q:=(tH d).1;have v:bU (mNE t (Ff t r h m) (bW t r h m).j (Abs.c7 r h m)) 0 (Ff t r h m).h.length=0:=iK _ _ λj _ c=>by
  have s:j<(Abs.c7 r h m).h.length:=aD;have b:=q _ (fB (l:=(Abs.c7 r h m).h) (n:=(j:Int)) aD aD);have e:(Abs.c7 r h m).h[j]?.getD 0=iA (Abs.c7 r h m).h j:=rfl;have f:(Ff t r h m).h[j]?.getD 0=gN (bW t r h m).j (iA (Abs.c7 r h m).h j):=S.c5 (i:=(j:Int)) aD aD;unfold mNE;rw [e,if_neg aD,f];exact if_pos (Uy (mW S.hR.vf) (oZ H _ (EI (g:=(bW t r h m).j) b.1 b.2)))
 have f:bU (mapEE (Ff t r h m) (bW t r h m).j (Abs.c7 r h m)) 0 (Ff t r h m).i.length=0:=iK _ _ λj _ c=>w j aD;unfold matchE;rw [if_neg aD,if_neg (by rw [v];simp),if_neg (by rw [f];simp),if_neg];rintro ⟨c,hd⟩;obtain ⟨o,k⟩:=u c;rcases hd with hd|hd
 .exact hd o
 .exact hd k
theorem StepOk.bQ (K:StepOk t r h m){a:Bool}(b:a=true->(Abs.c7 r h m).h.Nodup/\(Abs.c7 r h m).i.Nodup):checkE t (Ff t r h m) (bW t r h m).j (Abs.c7 r h m) a=0:=by
 have c:eH t (Ff t r h m) (b9 t r h m).j=0:=RA K.ul.1 K.ul.2.1 (lE K.after);unfold checkE;rw [if_neg (by show ¬ eH t (Ff t r h m) (b9 t r h m).j≠0;rw [c];simp)];exact K.cN b
theorem StepOk.dk (K:StepOk t r h m):pF t (b5 t (aO t r h m)) (b9 t r h m) ⟨Abs.c7 r h m,[]⟩=0:=by
 have e:checkE t (b5 t (aO t r h m)).left.j (b9 t r h m).j (Abs.c7 r h m) (b5 t (aO t r h m)).inj=0:=K.bQ λb=>by
  have a:(decide (Abs.c7 r h m).h.Nodup&&decide (Abs.c7 r h m).i.Nodup)=true:=b;simpa using a
 have c:checkE t (b5 t (aO t r h m)).left.j (b9 t r h m).j (Abs.c7 r h m) false=0:=K.bQ λb=>by cases b
 have f:cX t (b5 t (aO t r h m)).left=0:=tW K.S.hR.vf K.ul.1 K.ul.2.1;have d:dV t (b5 t (aO t r h m)).left (b9 t r h m) (Abs.c7 r h m)=([],0):=by
  unfold dV;rw [if_neg (by rw [f];simp),if_neg (by rw [K.after];simp),if_neg (by rw [c];simp)];rfl
 unfold pF;simp only;rw [if_neg (by rw [e];simp),d,if_neg dB,if_neg dB];exact K.cB
end
section
variable {t:Types} {r:Rule} {h g:Host} {m:Mat} {m0 p:Part}
theorem BackI.at (B:BackI t r h m g m0 ⟨p,[]⟩){y:Int}(a:0<=y/\y<r.right.j.h.length):gN g.j (iA p.h y)=gN (bW t r h m).j (iA (c7 r h m).h y):=by
 have U:=B.bB;have e:=B.K.S.aC.bm a;have i:=U.n;obtain ⟨d,f⟩:=U.of (iA (c7 r h m).h y) (by rw [B.K.S.aH];exact e.1) (by rw [B.K.S.aH];omega);have b:=B.I.ty _ d.1 d.2;have c:=U.m y a.1 a.2;rw [<- B.K.S.aH] at c;rw [f] at b;rw [show iA p.h y=_ from c,b];rfl
theorem BackI.co (B:BackI t r h m g m0 ⟨p,[]⟩) :
  (c7 (b5 t (aO t r h m)) g ⟨p,[]⟩).h=uR (fS r.u.h r.right.j.h.length) (dZ (fS r.u.h r.right.j.h.length) r.u.h r.q.h) p.h r.left.j.h.length g.j.h.length:=by
 have:=B.T.aH;have a:(b5 t (aO t r h m)).right.j.h.length=r.left.j.h.length:=B.K.S.bo;rw [a] at this;exact this
theorem BackI.type (B:BackI t r h m g m0 ⟨p,[]⟩){j:Int}(d:0<=j/\j<r.left.j.h.length) :
  gN (bW t (b5 t (aO t r h m)) g ⟨p,[]⟩).j (iA (c7 (b5 t (aO t r h m)) g ⟨p,[]⟩).h j)=gN h.j (iA m.m.h j):=by
 have T:=B.T;have N:=B.K.S.aC;by_cases e:j∈(b5 t (aO t r h m)).u.h
 .obtain ⟨q,E,rfl⟩:=oX e;have u:=T.aC.kl;have w:=T.bY (p:=q) aD;rw [w];obtain ⟨x,s,o,k⟩:=Mb N (i:=(q:Int)) aD (by show (q:Int)<((b5 t (aO t r h m)).q.h.length:Int);omega);have D:iA (b5 t (aO t r h m)).q.h q=iA r.u.h x:=o;have C:iA (b5 t (aO t r h m)).u.h q=iA r.q.h x:=k;have c:=N.kl;have a:=N.ir _ (fB (l:=r.u.h) (n:=(x:Int)) aD aD);rw [D,C];show gN g.j (iA p.h (iA r.u.h x))=_;rw [B.at a];exact B.K.S.bY s
 .have hz:(b5 t (aO t r h m)).right.j.h.length=r.left.j.h.length:=B.K.S.bo;obtain ⟨f,A,z,y⟩:=T.aC.ay (j:=j) aD e;have b:=(T.cG (f:=f) A).1;rw [T.aF] at b;have v:iA (b5 t (aO t r h m)).R f=j:=z;rw [T.aH,y,b,v];exact B.K.S.ct d.1 d.2
theorem BackI.dD (B:BackI t r h m g m0 ⟨p,[]⟩)(h0:ruleF t r=0)(O:(g6 t (aO t r h m) m.m.h.length).length<=10)(X:fX t g=0)(o:pF t (b5 t (aO t r h m)) g ⟨p,[]⟩=0):jU t (b5 t (aO t r h m)) g ⟨p,[]⟩=0:=by
 have K:=B.K;have T:=B.T;have z:=K.b4 h0 O;have f:lM t (b5 t (aO t r h m)) g ⟨p,[]⟩=0:=by
  have W:=VW.2 (UV t g (b5 t (aO t r h m)).inj ⟨p,[]⟩);have E:(b5 t (aO t r h m)).cond=trueC:=rfl;unfold lM;rw [if_neg (by rw [o];simp),E,if_neg (by rw [W.1];simp),if_neg (by rw [W.2];simp)]
 have u:=B.bB;have J:=B.bZ;have I:=B.co;have P:=K.S.hm.len;have w:(b5 t (aO t r h m)).right.j.h.length=r.left.j.h.length:=K.S.bo;have zn:(bW t (b5 t (aO t r h m)) g ⟨p,[]⟩).j.h.length=h.j.h.length:=by
  have v:=T.bd;rw [w] at v;exact (u.cn v (Da _ _ _ _ _) (u.cE v)).2.2
 have ze:(bW t (b5 t (aO t r h m)) g ⟨p,[]⟩).j.i.length=h.j.i.length:=(J.cn T.a7 (Da _ _ _ _ _) (J.cE T.a7)).2.2;have Q:=bR K.S.ho.gg;have c:∀ {i:Nat},i<r.left.j.h.length->0<=iA (c7 (b5 t (aO t r h m)) g ⟨p,[]⟩).h i:=λ {i} G=>by
  have:=(u.S'.bm (j:=(i:Int)) aD).1;rw [I];exact this
 have n:sN t (bW t (b5 t (aO t r h m)) g ⟨p,[]⟩).j (c7 (b5 t (aO t r h m)) g ⟨p,[]⟩) [] (g6 t (aO t r h m) m.m.h.length)=0:=by
  have D:uF (c7 (b5 t (aO t r h m)) g ⟨p,[]⟩) [] (g6 t (aO t r h m) m.m.h.length)=false:=by
   unfold uF;rw [fM];intro a V;rw [KE,fM];intro b U;have s:=bA.1 V;have R:=bA.1 U;have q:b<(g6 t (aO t r h m) m.m.h.length).length:=aD;rw [aA s,aA q];simp only;obtain ⟨i,G,k,F,_,ei⟩:=qS.1 (aC s);obtain ⟨j,hj,l,hl,_,ej⟩:=qS.1 (aC q);rw [ei,ej];unfold Cq;simp only [aN,decide_eq_true_eq];rintro ⟨h1,h2,Y⟩;have L:=c (i:=i) aD;have s2:=c (i:=j) aD;have Z:(iA (c7 (b5 t (aO t r h m)) g ⟨p,[]⟩).h j).toNat=(iA (c7 (b5 t (aO t r h m)) g ⟨p,[]⟩).h i).toNat:=h1;have H:iA (c7 (b5 t (aO t r h m)) g ⟨p,[]⟩).h j=iA (c7 (b5 t (aO t r h m)) g ⟨p,[]⟩).h i:=aD;rw [I] at H;have:=u.cA (.inr ⟨(i:Int),aD,rfl,rfl⟩) (.inr ⟨(j:Int),aD,H,rfl⟩);refine Y ?_;have ho:oF (aO t r h m) j=oF (aO t r h m) i:=by
    show h.k[(iA m.m.h j).toNat]?.getD []=h.k[(iA m.m.h i).toNat]?.getD [];rw [this]
   have C:l=k:=aD;rw [ho,C]
  have A:(g6 t (aO t r h m) m.m.h.length).any (yM t (bW t (b5 t (aO t r h m)) g ⟨p,[]⟩).j (c7 (b5 t (aO t r h m)) g ⟨p,[]⟩) [])=false:=by
   rw [fM];intro x N;obtain ⟨i,G,k,F,_,rfl⟩:=qS.1 N;obtain ⟨_,o2,M⟩:=K.S.aX (i:=i) aD;obtain ⟨a,a1,a2,a3⟩:=M k F;have L:=c (i:=i) aD;have y:=B.type (j:=(i:Int)) aD;unfold yM;have e1:(bW t (b5 t (aO t r h m)) g ⟨p,[]⟩).j.h[fF (c7 (b5 t (aO t r h m)) g ⟨p,[]⟩) ⟨(i:Int),(k:Int),⟨-1,(oF (aO t r h m) i)[k]?.getD 0⟩⟩]?.getD 0=gN h.j (iA m.m.h i):=y;simp only;rw [e1,Int.toNat_natCast,a1];unfold dG;simp only [Option.getD_some];rw [if_pos aD];simp;omega
  unfold sN;rw [if_neg (by rw [D];simp),if_neg (by rw [A];simp)]
 have d:iC t (b5 t (aO t r h m)) g ⟨p,[]⟩=0:=by
  unfold iC;have e:sN t (bW t (b5 t (aO t r h m)) g ⟨p,[]⟩).j (c7 (b5 t (aO t r h m)) g ⟨p,[]⟩) (Mat.mk p []).vars (b5 t (aO t r h m)).right.l=0:=n;rw [if_neg (by rw [f];simp),if_neg (by rw [e];simp),if_neg aD]
 unfold jU f6;rw [if_neg (by rw [if_neg (by rw [z];simp),X];simp),d]
theorem StepOk.dl (K:StepOk t r h m)(c:r.ok)(f:ruleF t r=0)(e:(g6 t (aO t r h m) m.m.h.length).length<=10):jU t (b5 t (aO t r h m)) (b9 t r h m) ⟨Abs.c7 r h m,[]⟩=0:=by
 have d:(b5 t (aO t r h m)).ok:=tO (s:=aO t r h m) c (K.bP c);have a:=K.dk;refine (BackI.mk (m0:=qW (b9 t r h m).j) K (A0 (lE K.after)) ?_ ?_ (Hn (KU d (K.b4 f e)) (lE K.after) a)).dD f e K.after a
 .exact (xD λx b=>Dp (K.S.ak x b).1 (K.S.ak x b).2).symm
 .exact (xD λx b=>Dp (K.S.au x b).1 (K.S.au x b).2).symm
end
theorem FH (t:Types)(p:Pattern)(h:Host)(a:Bool):(jB t p h a).1.length<=5000:=by
 unfold jB;split
 .simp
 .split
  .simp
  .split
   .simp
   .exact dH (List.length_filterMap_le _ _) (Qj _ _ _ _)
theorem S5 (t:Types)(b:t.ok)(r:Rule)(f:r.ok)(h:Host)(m:Mat){v:Stp26}{e:Int}(a:v=eU t r h m)(g:e=jU t r h m):Pua 91 [t.d,r.d,h.d,m.d] (.tup [.agg v.c,dI e]):=by
 subst a g;exact Ou t b r f h m
theorem Em (t:Types)(q:t.ok)(r:Rule)(A:r.ok)(h:Host):Pua 90 [t.d,r.d,h.d] (.tup [.list ((Cw t r h).1.map Mat.c),dI (Cw t r h).2]):=by
 refine Tz.pK ⟨λt=>t==11||t==13,λr=>match r with|11=>[(0,11),(1,11),(2,11),(5,11),(6,11),(7,11)]|_=>[]⟩ func90 rfl (λQ x=>?_);have Y:=wa @Host.d.eq_1 @Host.c.eq_1;refine wv (h:=aB (Fq t q r A h) wl ?_);refine dK (λE=>?_) λE=>?_
 .have hS:Cw t r h=([],f6 t r h):=by unfold Cw;rw [if_pos E]
  exact wv (h:=x _ _ (by simp [go_sem,hS]))
 .refine wv (h:=aB (J9 t q r.left h r.inj) wl ?_);refine dK (λD=>?_) λD=>?_
  .have hS:Cw t r h=([],(jB t r.left h r.inj).2):=by unfold Cw;rw [if_neg aD,if_pos D]
   exact wv (h:=x _ _ (by simp [go_sem,hS]))
  .have hS:Cw t r h=((jB t r.left h r.inj).1.filter λm=>decide (iC t r h m=0),0):=by unfold Cw;rw [if_neg aD,if_neg aD]
   have z:=FH t r.left h r.inj;obtain ⟨L,C⟩:=fD ((jB t r.left h r.inj).1);rw [<- C] at hS z;have w:∀ m,jU t r h m=iC t r h m:=λm=>by unfold jU;rw [if_neg aD]
   have Y:=wa Y (Eq.symm C);refine wv (h:=aY (λi e H=>∃ g:List Mat,(e 3=.adr t.c/\e 4=.adr r.c/\e 5=.adr h.c/\e 9=.list (L.map Mat.c)/\e 11=.own 0 g.length/\e 12=dI i)/\(H.get 0=some ⟨65,3,g.map Mat.c,false⟩)/\(0<H.next)/\(i<=L.length)/\(g=(L.take i).filter λm=>decide (iC t r h m=0))/\(g.length<=i)) (λi=>L.length - i) 0 ⟨([]),wg,wn,wn,wi,(by rfl),(by simp)⟩ λK n i e H u=>?_);obtain ⟨g,I,p,k,J,f,G⟩:=u;have Y:=xa2 Y I p (bL k);refine i7 (λo=>?_) λo=>?_
   .obtain ⟨v,F⟩:=fD (eU t r h L[i]);obtain ⟨e,B⟩:=fD (jU t r h L[i]);obtain ⟨b,a⟩:∃ y,y=g++[L[i]].filter λm=>decide (iC t r h m=0):=⟨_,rfl⟩;have l:iC t r h L[i]=e:=by rw [B,w]
    have Y:=xa2 Y o (aA o) @Mat.c.eq_1;refine wp (h:=aI ((by have s:=S5 t q r A h L[i] F B;simp only [Stp26.c,Rule.c,Mat.c,Host.c,dE,dF] at s;unfold Mat.d Mat.c dLI at s;exact s)) wl ?_);refine i7 (λj=>?_) λj=>?_
    .have hm3:b=g++[L[i]]:=by rw [a,List.filter_cons_of_pos (by rw [l];simpa using j)];rfl
     have Y:=wa Y hm3;exact wp (h:=wx n (i+1) ⟨b,wg,wn,wn,wj,(by rw [aE o,jA,<- f,a]),(by rw [hm3];first|(simp;omega)|omega)⟩)
    .have hm3:b=g:=by rw [a,List.filter_cons_of_neg (by rw [l];simpa using j)];simp
     have Y:=wa Y hm3;exact wp (h:=wx n (i+1) ⟨b,wg,wn,wn,wj,(by rw [aE o,jA,<- f,a]),(by rw [hm3];first|(simp;omega)|omega)⟩)
   .rw [aG aD] at f;exact wv (h:=x _ _ (by simp [go_sem,Y,hS,<- f]))
def tP (t:Types)(r:Rule)(h:Host)(most:Nat):List Stp26:=((Cw t r h).1.take most).map (eU t r h)
theorem U6 (l:List Stp26):D.O (l.map Stp26.c)=true:=dN _ Stp26.P l
attribute [go_sem] U6
theorem XE (t:Types)(r:Rule)(h:Host):(Cw t r h).1.length<=5000:=by
 unfold Cw;split
 .simp
 .split
  .simp
  .exact dH (iT _ _) (FH _ _ _ _)
theorem Ot (t:Types)(s:t.ok)(r:Rule)(u:r.ok)(h:Host)(a:Nat):Pua 49 [t.d,r.d,h.d,dI a] (.list ((tP t r h a).map Stp26.c)):=by
 refine Tz.pK ⟨λt=>t==11||t==13,λr=>match r with|6=>[(0,11),(1,11),(2,11),(5,11),(6,11),(7,11)]|_=>[]⟩ func49 rfl (λQ z=>?_);obtain ⟨L,o⟩:=fD ((Cw t r h).1);have n:=XE t r h;rw [<- o] at n;have y:tP t r h a=(L.take a).map (eU t r h):=by unfold tP;rw [o]
 have Y:=xa1 @Host.d.eq_1 @Host.c.eq_1 (Eq.symm o);refine wv (h:=aB (Em t s r u h) wl ?_);refine wv (h:=aY (λi e H=>∃ b:List Stp26,(e 4=.adr t.c/\e 5=.adr r.c/\e 6=.adr h.c/\e 3=dI a/\e 9=.list (L.map Mat.c)/\e 11=.own 0 b.length/\e 12=dI i)/\(H.get 0=some ⟨70,38,b.map Stp26.c,false⟩)/\(0<H.next)/\(i<=L.length/\i<=a)/\(b=(L.take i).map (eU t r h))/\(b.length=i)) (λi=>L.length - i) 0 ⟨([]),wg,wn,wn,wi,(by rfl),(by simp)⟩ λD p i e H m=>?_);obtain ⟨b,B,j,f,C,g,w⟩:=m;have Y:=xa2 Y B j (bL f);refine i7 (λk=>?_) λk=>?_
 .have hil:i<L.length:=k.1;obtain ⟨v,q⟩:=fD (eU t r h L[i]);obtain ⟨e,x⟩:=fD (jU t r h L[i]);have Y:=xa3 Y k (aA hil) @Mat.c.eq_1 @Stp26.c.eq_1;refine wp (h:=aI ((by have l:=S5 t s r u h L[i] q x;simp only [Stp26.c,Rule.c,Mat.c,Host.c,dE,dF] at l;unfold Mat.d Mat.c dLI at l;exact l)) wl ?_);exact wp (h:=wx p (i+1) ⟨(b++[v]),wg,wn,wn,wj,(by rw [aE hil,List.map_append,<- g,q];rfl),(by simp;omega)⟩)
 .have hE:(L.take a).map (eU t r h)=b:=by
   rw [g];congr 1;by_cases A:i<L.length
   .have:i=a:=by have:=k A;omega
    rw [this]
   .rw [aG aD,aG aD]
  exact wv (h:=z _ _ (by simp [go_sem,Y,y,hE]))
def BD (t:Types)(rs:List Rule)(h:Host):List Stp26:=rs.flatMap λr=>if light26 t r h=true then tP t r h 10 else []
def Ri (l:List Stp26)(c:UInt8):Stp26:=l[((c.toNat:Int).tmod l.length).toNat]?.getD lO
def BU (t:Types)(rs:List Rule)(st:Host × List Stp26)(c:UInt8):Host × List Stp26:=if BD t rs st.1=[] then st else ((Ri (BD t rs st.1) c).after,st.2++[Ri (BD t rs st.1) c])
def JX (t:Types)(rs:List Rule)(h:Host)(codes:List UInt8):List Stp26:=(codes.foldl (BU t rs) (h,[])).2
theorem KS {t:Types}{rs:List Rule}{a:Host × List Stp26}(h:BD t rs a.1=[]):∀ codes:List UInt8,codes.foldl (BU t rs) a=a
 | []=>rfl
 | c :: l=>by
  have e:BU t rs a c=a:=by unfold BU;rw [if_pos h]
  rw [rT,e,KS h l]
theorem Id {t:Types}{rs:List Rule}{h:Host}{k:Nat}(a:k<rs.length):BD t (rs.take (k+1)) h=BD t (rs.take k) h++(if light26 t rs[k] h=true then tP t rs[k] h 10 else []):=by
 unfold BD;rw [aE a,List.flatMap_append];simp
theorem Hi (t:Types)(r:Rule)(h:Host)(n:Nat):(tP t r h n).length<=n:=by unfold tP;simp;omega
theorem Tp {t:Types}{r:Rule}{h:Host}{n:Nat}{s:Stp26}(b:s∈tP t r h n):∃ m,m∈(Cw t r h).1/\s=aO t r h m/\jU t r h m=0:=by
 unfold tP at b;obtain ⟨m,d,rfl⟩:=aW.1 b;have a:=dC d;obtain ⟨f,e⟩:=Wu a;have c:jU t r h m=0:=by unfold jU;rw [if_neg (by rw [f];simp),e]
 exact ⟨m,a,by unfold eU;rw [if_pos c],c⟩
theorem Vz {l:List Stp26}(h:l≠[])(c:UInt8):Ri l c∈l:=by
 have hl:=gI.2 h;have:=dY (aD:0<=(c.toNat:Int)) (aD:(0:Int)<l.length);unfold Ri;rw [aA aD,Option.getD_some];exact aC _
theorem TH (t:Types)(h1:∀ n∈t.h,n.r.length<=1000000000000000)(rs:List Rule)(O:∀ r∈rs,r.le)(a1:rs.length<=2)(h:Host)(codes:List UInt8)(hc:codes.length<=1000) :
  Pua 16 [t.d,.list (rs.map Rule.c),h.d,.list (codes.map cU)] (.list ((JX t rs h codes).map Stp26.c)):=by
 refine Tz.pK ⟨λt=>t==6||t==9||t==11||t==13,λr=>match r with|13=>[(0,4),(1,4),(0,5),(1,5)]|_=>[]⟩ func16 rfl (λQ hQ=>?_);have Y:=xa1 @Host.d.eq_1 @Host.c.eq_1 @Rule.d.eq_1;refine lS (h:=aY (λi e H=>∃ b:Host,∃ a:List Stp26,(e 4=.adr t.c/\e 1=.list (rs.map Rule.c)/\e 3=.list (codes.map cU)/\e 6=.ptr 0 1 0 0/\e 9=.own 1 a.length/\e 10=dI i)/\(H.get 0=some ⟨68,3,[b.c],false⟩)/\(0<H.next)/\(H.get 1=some ⟨70,38,a.map Stp26.c,false⟩)/\(1<H.next)/\(i<=codes.length)/\((codes.take i).foldl (BU t rs) (h,[])=(b,a))/\(a.length<=i)) (λi=>codes.length - i) 0 ⟨h,([]),wg,wn,wn,wn,wn,wi,(by rfl),(by simp)⟩ λI0 V i e H U=>?_);obtain ⟨b,a,E0,L,v,J,q,hi,g,a2⟩:=U;have Y:=xa4 Y E0 L (bL v) J (bL q);refine oL (h:=wq (λN=>?_) λN=>?_)
 .obtain ⟨x,X⟩:=fD (codes[i]);have a0:=j6 x;have Y:=xa3 Y N (aA N) (Eq.symm X) @cU.eq_1;refine lS (h:=aY (λk e H=>∃ c:Nat,∃ P:List Stp26,(e 4=.adr t.c/\e 1=.list (rs.map Rule.c)/\e 3=.list (codes.map cU)/\e 6=.ptr 0 1 0 0/\e 9=.own 1 a.length/\e 10=dI i/\e 11=.own c P.length/\e 12=dI k)/\(H.get 0=some ⟨68,3,[b.c],false⟩)/\(0<H.next)/\(H.get 1=some ⟨70,38,a.map Stp26.c,false⟩)/\(1<H.next)/\(H.get c=some ⟨70,38,P.map Stp26.c,false⟩)/\(c<H.next)/\(k<=rs.length)/\(1<c)/\(P=BD t (rs.take k) b)/\(P.length<=10 * k)) (λk=>rs.length - k) 0 ⟨H.next,([]),wg,wn,wn,wn,wn,wn,wn,wi,aD,(by rfl),(by simp)⟩ λI2 E k e H T=>?_);obtain ⟨c,P,E2,K,u,I,p,G,o,hk,a3,D,a5⟩:=T;have W:=xa1 (cY (aD:c≠1)) (cY (aD:c≠0)) (cY (aD:1≠0));have Y:=xa8 Y @Host.c.eq_1 E2 K (bL u) I (bL p) G (bL o) W;refine oL (h:=wq (λl=>?_) λl=>?_)
  .obtain ⟨M,f⟩:∃ y,y=P++(if light26 t rs[k] b=true then tP t rs[k] b 10 else []):=⟨_,rfl⟩;have w:M.length<=P.length+10:=by
    rw [f,aH];split
    .have:=Hi t rs[k] b 10;omega
    .simp
   have Y:=xa1 Y l (aA l);refine oL (h:=aI (yI t h1 rs[k] (O _ (aC l)) b) wl ?_);refine oL (h:=wq (λF=>?_) λF=>?_)
   .have hm3:M=P++tP t rs[k] b 10:=by rw [f,if_pos F]
    have Z:=Hi t rs[k] b 10;have Y:=xa3 Y hm3 @Stp26.c.eq_1 @Mat.c.eq_1 @Rule.c.eq_1;refine oL (h:=aI (Ot t (yQ F).1 rs[k] (yQ F).2 b 10) wl ?_);exact oL (h:=wx E (k+1) ⟨c,M,wg,wn,wn,wn,wn,wn,wn,wj,aD,(by rw [Id l,<- D,f]),(by have:=w;omega)⟩)
   .have hm3:M=P:=by rw [f,if_neg (by rw [F];simp)];simp
    have Y:=wa Y hm3;exact oL (h:=wx E (k+1) ⟨c,M,wg,wn,wn,wn,wn,wn,wn,wj,aD,(by rw [Id l,<- D,f]),(by have:=w;omega)⟩)
  .rw [aG aD] at D;refine oL (h:=wq (λj=>?_) λj=>?_)
   .have hP0:P=[]:=j;have C:JX t rs h codes=a:=by
     unfold JX;rw [<- List.take_append_drop i codes,j4,g,KS (by rw [<- D];exact hP0)]
    have Y:=wa Y C;exact lS (h:=hQ _ _ (by simp [go_sem,Y,C]))
   .have hPn:P≠[]:=λhe=>j he;have a4:=gI.2 hPn;have tm:=dY (aD:0<=(x.toNat:Int)) (aD:(0:Int)<P.length);have B:((x.toNat:Int).tmod P.length).toNat<P.length:=aD;obtain ⟨m,z⟩:∃ s,s=Ri P x:=⟨_,rfl⟩;have S:m=P[((x.toNat:Int).tmod P.length).toNat]:=by rw [z];unfold Ri;rw [aA B];rfl
    have R:[codes[i]].foldl (BU t rs) (b,a)=(m.after,a++[m]):=by
     show BU t rs (b,a) codes[i]=_;unfold BU;rw [<- D,if_neg hPn,z,X]
    have A:(P.length:Int)≠0:=aD;have Y:=xa7 Y j (aA B) (Eq.symm S) A tm @Stp26.c.eq_1 @Mat.c.eq_1 @Rule.c.eq_1;exact oL (h:=wx V (i+1) ⟨m.after,(a++[m]),wg,wn,wn,wn,wn,wj,(by rw [aE N,j4,g];exact R),(by simp;omega)⟩)
 .have C:JX t rs h codes=a:=by
   unfold JX;rw [aG aD] at g;rw [g]
  have Y:=wa Y C;exact lS (h:=hQ _ _ (by simp [go_sem,Y,C]))
structure Dr27 where
 first:Dr26
 bh:Dr24
 aZ:List UInt8
def Dr27.c (d:Dr27):UN:=d.first.c++d.bh.c++[.list (d.aZ.map cU)]
@[go_sem] theorem Dr27.P (d:Dr27):D.L d.c=true:=by simp [Dr27.c,yW,Dr26.P,Dr24.P,D.L,D.P,Nm]
def Jd (d:Dr24):Dr24:={ d with left:={ d.left with j:=small d.left.j 2 2 } }
def Dr27.aW (d:Dr27):Prop:=d.first.types.length<=8/\d.first.aU.length<=8/\d.aZ.length<=4
theorem Vv (l:List Stp26):eE (l.map Stp26.c)=l.map Stp26.c:=jR λc hc=>by
 rw [aW] at hc;obtain ⟨x,_,rfl⟩:=hc;simp [Stp26.c,Rule.c,Mat.c,Host.c,iI,mC,dLI,dI,d9,pX,Dd,Dc,Ig,Vw]
theorem At (d:Dr27)(t T:Types)(r q:Rule)(h:Host)(g f l:Bool)(L M:List Stp26)
  (y:Pua 12 [.agg d.first.c] (.tup [t.d,r.d,h.d]))
  (x:Pua 14 [t.d,.agg (Jd d.bh).c] q.d)
  (A:Pua 15 [t.d,r.d,h.d] (.bool g))
  (z:Pua 15 [t.d,q.d,h.d] (.bool f))
  (w:d.aZ.length<=4->g=true->f=true->Pua 16 [t.d,.list [r.c,q.c],h.d,.list (d.aZ.map cU)] (.list (L.map Stp26.c)))
  (s:¬ d.aW->T=⟨[],[]⟩/\M=[]/\l=false)
  (p:d.aW->¬ (g=true/\f=true)->T=t/\M=[]/\l=false)
  (o:d.aW->g=true/\f=true->T=t/\M=L/\l=true) :
  Pua 5 [.agg d.c] (.tup [T.d,.list (M.map Stp26.c),.bool l]):=by
 refine pS (by first|rfl|(simp [go_sem];done)) (λQ n=>(Tz.cK ⟨λt=>t==2||t==5||t==6||t==7||t==8||t==9,λr=>match r with|9=>[(0,4),(1,4),(4,5),(4,6),(4,7)]|_=>[]⟩ func5 rfl ?_));have Y:=xa7 @Dr27.c.eq_1 @Dr26.c.eq_1 @Dr24.c.eq_1 @Dr15.c.eq_1 @Dr5.c.eq_1 @Host.d.eq_1 @Host.c.eq_1 @Rule.d.eq_1 @Rule.c.eq_1;refine oL (h:=wq (λv=>?_) λv=>?_)
 .have e:¬ d.aW:=λe=>by unfold Dr27.aW at e;omega
  obtain ⟨k,j,i⟩:=s e;subst k j i;refine lS (h:=?_);exact n _ _ (by simp [go_sem,Types.d,Types.c,tG,tX])
 .have e:d.aW:=by unfold Dr27.aW;omega
  refine lS (h:=aB ((by have b:=y;simp only [Dr26.c,Dr24.c,Dr15.c,dE,dF] at b;unfold Rule.d Host.d at b;exact b)) wl ?_);refine lS (h:=aB (Fr d.bh.left.j 2 2 aD aD) wl ?_);refine lS (h:=aB ((by have b:=x;simp only [Jd,Dr24.c,Dr5.c] at b;unfold Rule.d at b;exact b)) wl ?_);refine oL (h:=aB (A) wl ?_);refine oL (h:=aK (λu=>z) (λu=>wl) ?_);refine oL (h:=wq (λm=>?_) λm=>?_)
  .have a:¬ (g=true/\f=true):=λa=>by rw [a.1,a.2] at m;simp at m
   obtain ⟨k,j,i⟩:=p e a;subst k j i;refine lS (h:=?_);exact n _ _ (by simp [go_sem,Types.d,Types.c,tG,tX])
  .have a:g=true/\f=true:=by cases g<;>cases f<;>simp at m ⊢
   obtain ⟨k,j,i⟩:=o e a;subst k j i;refine lS (h:=aI (w e.2.2 a.1 a.2) wl ?_);refine lS (h:=?_);exact n _ _ (by simp [go_sem,Types.d,Types.c,tG,tX,Vv])
def Chn (t:Types):Host->List Stp26->Host->Prop
 | g,[],g'=>g=g'
 | g,s :: l,g'=>s.B=g/\s.C.ok/\rC t s=true/\Chn t s.after l g'
theorem Chn.cC {t:Types}{s:Stp26}(hr:s.C.ok)(hc:rC t s=true):∀ {l:List Stp26} {g:Host},Chn t g l s.B->Chn t g (l++[s]) s.after
 | [],g,h=>⟨h.symm,hr,hc,rfl⟩
 | x :: l,g,h=>⟨h.1,h.2.1,h.2.2.1,h.2.2.2.cC hr hc⟩
def T3 (g:Host)(l:List Stp26):Nat->Host
 | 0=>g
 | i+1=>(n7 l i).after
theorem Chn.at {t:Types}:∀ {l:List Stp26} {g g':Host},Chn t g l g'->(∀ i,i<l.length->(n7 l i).B=T3 g l i/\(n7 l i).C.ok/\rC t (n7 l i)=true)/\T3 g l l.length=g'
 | [],g,g',h=>⟨λi hi=>absurd hi (Nat.not_lt_zero _),h⟩
 | s :: l,g,g',h=>by
  obtain ⟨a,b⟩:=Chn.at h.2.2.2;refine ⟨λi hi=>?_,?_⟩
  .cases i with
   | zero=>exact ⟨h.1,h.2.1,h.2.2.1⟩
   | succ i =>
    have:=a i (eQ hi);cases i with
    | zero=>exact this
    | succ i=>exact this
  .rw [<- b];cases l with
   | nil=>rfl
   | cons x l=>rfl
theorem Wj {t:Types}{r:Rule}{h:Host}{m:Mat}(a:jU t r h m=0):rC t (aO t r h m)=true:=by
 unfold rC;rw [aN,decide_eq_true_eq,decide_eq_true_eq];exact ⟨a,by show eU t r h m=_;unfold eU;rw [if_pos a]⟩
theorem Nk {t:Types}{s:Stp26}(h:rC t s=true):jU t s.C s.B s.V=0:=by
 unfold rC at h;simp only [aN,decide_eq_true_eq] at h;exact h.1
theorem Xz {t:Types}{rs:List Rule}{h:Host}{codes:List UInt8}(k:∀ r∈rs,∀ g,light26 t r g=true->r.ok):(JX t rs h codes).length<=codes.length/\∃ g,Chn t h (JX t rs h codes) g:=by
 have j:∀ (l:List UInt8) (d:Host × List Stp26),Chn t h d.2 d.1->(l.foldl (BU t rs) d).2.length<=d.2.length+l.length/\Chn t h (l.foldl (BU t rs) d).2 (l.foldl (BU t rs) d).1:=λl=>by
  induction l with
  | nil=>exact λd h=>⟨aZ _,h⟩
  | cons c l ih =>
   intro d i;rw [rT];have n:(BU t rs d c).2.length<=d.2.length+1/\Chn t h (BU t rs d c).2 (BU t rs d c).1:=by
    unfold BU;split
    .exact ⟨aD,i⟩
    .rename_i hne;have f:=Vz hne c;generalize Ri (BD t rs d.1) c=s at f ⊢;unfold BD at f;obtain ⟨r,o,f⟩:=bK.1 f;split at f
     .rename_i hl;obtain ⟨m,_,e,p⟩:=Tp f;subst e;exact ⟨by simp,Chn.cC (k r o _ hl) (Wj p) i⟩
     .cases f
   obtain ⟨a,b⟩:=ih _ n.2;exact ⟨by rw [eZ];omega,b⟩
 obtain ⟨a,b⟩:=j codes (h,[]) rfl;exact ⟨by unfold JX;simpa using a,_,b⟩
theorem XG {t:Types}{s:Stp26}(g:s.C.ok)(d:rC t s=true):Ga t s=0\/Ga t s=3:=by
 obtain ⟨h,K,_⟩:=oQ g d;have f:=Nk d;have j:ruleF t s.C=0:=by
  unfold jU at f;split at f
  .exact absurd f (by assumption)
  .rename_i h1;exact (xI (eQ h1)).1
 have hR:yG t s=0:=by
  unfold yG;rw [if_neg (by rw [K.S.hR.vf];simp),if_pos d]
 by_cases a:10<(g6 t s s.V.m.h.length).length
 .right
  have e:uZ t s=3:=by
   unfold uZ oC;rw [if_neg (by rw [hR];simp),if_pos a]
  unfold Ga;rw [e];rfl
 .left
  have e:uZ t s=0:=by
   unfold uZ oC;rw [if_neg (by rw [hR];simp),if_neg a]
  have i:l6 t s=b5 t s:=by
   unfold l6 zY;rw [if_neg (by rw [hR];simp),if_neg a]
  unfold Ga;rw [if_neg (by rw [e];simp),i];obtain ⟨r,b,x,c⟩:∃ r b x,s=aO t r b x:=⟨_,_,_,h⟩;subst c;exact K.dl g j (Nat.le_of_not_lt a)
theorem MV (d:Dr27)(t:Types)(l:List Stp26)(f:Bool)(s u v:Stp26)(p w:Part)(e j:Int)
  (D:Pua 5 [.agg d.c] (.tup [t.d,.list (l.map Stp26.c),.bool f]))
  (y:∀ h:0<l.length,l[0]=s)
  (C:f=true->0<l.length->Pua 7 [t.d,.agg s.c] (.tup [.agg u.c,p.d,dI e]))
  (z:f=true->0<l.length->e=0\/e=3)
  (B:f=true->0<l.length->e=0->Pua 7 [t.d,.agg u.c] (.tup [.agg v.c,w.d,dI j]))
  (r:f=true->0<l.length->e=0->j=0\/j=3)
  (E:f=true->0<l.length->e=0->j=0->Pua 8 [v.after.d,s.after.d,w.d] (.bool true))
  (A:f=true->0<l.length->e=0->u.after.j.h.length=s.B.j.h.length/\u.after.j.i.length=s.B.j.i.length) :
  Pua 3 [.agg d.c] (.bool true):=by
 refine Tz.pK ⟨λt=>t==3||t==6||t==7||t==8||t==10||t==11,λ_=>[]⟩ func3 rfl (λQ m=>?_);have Y:=xa7 @Dr27.c.eq_1 @Dr26.c.eq_1 @Dr24.c.eq_1 @Dr15.c.eq_1 @Host.d.eq_1 @Host.c.eq_1 @Mat.c.eq_1 @Rule.c.eq_1 @Stp26.c.eq_1;refine lS (h:=aB ((by have x:=D;simp only [Dr27.c,Dr26.c,Dr24.c,Dr15.c,dE,dF] at x;exact x)) wl ?_);refine oL (h:=aB (vH) wl ?_);refine oL (h:=wq (λi=>?_) λi=>?_)
 .refine lS (h:=aB (vH) wl ?_);have Y:=wa Y i;exact lS (h:=m _ _ wy)
 .have b:f=true:=by cases f<;>simp at i ⊢
  have a:0<l.length:=by cases l<;>simp [b] at i ⊢
  have q:=y a;have Y:=xa2 Y (aA a) q a;refine oL (h:=aB (C b a) wl ?_);refine oL (h:=wq (λk=>?_) λk=>?_)
  .have he3:e=3:=by rcases z b a with h|h;exact absurd h (eQ k);exact h
   have Y:=xa2 Y (aA a) a he3;have Y:=xa1 Y i k;exact lS (h:=m _ _ wy)
  .have g:e=0:=by simpa using k
   have o:=A b a g;refine lS (h:=aB (B b a g) wl ?_);refine lS (h:=wq (λn=>?_) λn=>?_)
   .have he3:j=3:=by rcases r b a g with h|h;exact absurd h (eQ n);exact h
    have Y:=xa2 Y (aA a) a he3;have Y:=xa2 Y i k n;exact lS (h:=m _ _ wy)
   .have he20:j=0:=by simpa using n
    refine oL (h:=aB (E b a g he20) wl ?_);exact oL (h:=m _ _ (by simp [go_sem,Y,o]))
theorem IA (d:Dr27):∃ (T:Types) (M:List Stp26) (ok:Bool),Pua 5 [.agg d.c] (.tup [T.d,.list (M.map Stp26.c),.bool ok]) /\
  (ok=true->T.ok/\M.length<=4/\∃ g g',Chn T g M g'):=by
 have j:(Yj d.first).a8:=Io _ _;have i:=QX d.first;have f:=HP _ j (Jd d.bh);have b:(r26 d.first).le:=Lv _ _;have a:=Lv (Yj d.first) (Jd d.bh);obtain ⟨t,p⟩:=fD (Yj d.first);obtain ⟨r,s⟩:=fD (r26 d.first);obtain ⟨h,A⟩:=fD (M6 d.first);rw [<- p,<- s,<- A] at i;rw [<- p] at j f a;rw [<- s] at b;obtain ⟨q,w⟩:=fD (Ex t (Jd d.bh));rw [<- w] at f a;have k:∀ n∈t.h,n.r.length<=1000000000000000:=λn y=>dH (j.ok.h n y).bg aD;have o:=yI t k r b h;have m:=yI t k q a h;have l:d.aZ.length<=4->light26 t r h=true->light26 t q h=true->Pua 16 [t.d,.list [r.c,q.c],h.d,.list (d.aZ.map cU)] (.list ((JX t [r,q] h d.aZ).map Stp26.c)):=λB _ _ =>
  TH t k [r,q] (λx hx=>by
   rcases aV.1 hx with rfl|hx
   .exact b
   .rw [bG] at hx;subst hx;exact a) dB h d.aZ aD
 by_cases e:d.aW
 .by_cases hb:light26 t r h=true/\light26 t q h=true
  .refine ⟨t,JX t [r,q] h d.aZ,true,At d t t r q h _ _ true _ _ i f o m l (λh=>absurd e h) (λ_ h=>absurd hb h) (λ_ _=>⟨rfl,rfl,rfl⟩),λ_=>?_⟩;obtain ⟨v,u⟩:=Xz (t:=t) (rs:=[r,q]) (h:=h) (codes:=d.aZ) λr _ g z=>(yQ z).2;exact ⟨(yQ hb.1).1,dH v e.2.2,h,u⟩
  .exact ⟨t,[],false,At d t t r q h _ _ false _ _ i f o m l (λh=>absurd e h) (λ_ _=>⟨rfl,rfl,rfl⟩) (λ_ h=>absurd h hb),λh=>by cases h⟩
 .exact ⟨⟨[],[]⟩,[],false,At d t _ r q h _ _ false _ _ i f o m l (λ_=>⟨rfl,rfl,rfl⟩) (λh=>absurd h e) (λh=>absurd h e),λh=>by cases h⟩
theorem B7 (d:Dr27):Pua 3 [.agg d.c] (.bool true):=by
 obtain ⟨t,M,ok,y,v⟩:=IA d;have p:∀ h:0<M.length,M[0]∈M:=λh=>aC h;obtain ⟨s,o⟩:∃ s,∀ h:0<M.length,M[0]=s:=by
  by_cases h:0<M.length
  .exact ⟨M[0],λ_=>rfl⟩
  .exact ⟨lO,λw=>absurd w h⟩
 have a:ok=true->0<M.length->t.ok/\s.C.ok/\rC t s=true:=λe b=>by
  obtain ⟨k,_,g,C,u⟩:=v e;have:=u.at.1 0 b;rw [qR b,o b] at this;exact ⟨k,this.2⟩
 have j:ok=true->0<M.length->Ga t s=0\/Ga t s=3:=λe b=>XG (a e b).2.1 (a e b).2.2;have f:ok=true->0<M.length->Ga t s=0->(zS t s).C.ok/\(zS t s).B=s.after/\(Ga t (zS t s)=0\/Ga t (zS t s)=3):=λe b i=>by
  obtain ⟨B,n,_⟩:=a e b;obtain ⟨l,m,z⟩:=U1 n i;obtain ⟨_,_,_,_,A,_,_⟩:=L9 n i;refine ⟨l,by rw [A];rfl,XG l ?_⟩;unfold rC;rw [aN,decide_eq_true_eq,decide_eq_true_eq];exact ⟨z.symm,m.symm⟩
 refine MV d t M ok s (zS t s) (zS t (zS t s)) (UO t s) (UO t (zS t s)) (Ga t s) (Ga t (zS t s)) y o
  (λe b=>yH t (a e b).1 s (a e b).2.1) j
  (λe b i=>yH t (a e b).1 _ (f e b i).1) (λe b i=>(f e b i).2.2) (λe b i q=>?_) (λe b i=>?_)
 .obtain ⟨l,m,_⟩:=f e b i;have I:=(L8 l q).1;obtain ⟨x,r⟩:=Tj l q;rw [m] at I r;exact HL _ _ _ I x r
 .have I:=(L8 (a e b).2.1 i).1;exact ⟨I.nn,I.en⟩
end Go.Abs
end
section
namespace Go.Proofs.YtpdanmkcpjdmjaaGreat.bulks
open Go.Abs
theorem one_le {H:Type}(d:DataW H):1<=Rows.uptoBulk d:=by
 cases d with
 | lit l=>cases l<;>simp [Rows.uptoBulk]
 | _=>simp [Rows.uptoBulk]
theorem mem_le {H:Type}{d:DataW H}:∀ {l:List (DataW H)},d∈l->Rows.uptoBulk d<=Rows.uptoBulkAll l
 | [],h=>by cases h
 | x :: r,h=>by
  simp only [Rows.uptoBulkAll];rcases aV.1 h with rfl|h
  .omega
  .have:=mem_le h;omega
theorem len_le {H:Type}:∀ l:List (DataW H),l.length<=Rows.uptoBulkAll l
 | []=>by simp [Rows.uptoBulkAll]
 | x :: r=>by have:=one_le x;have:=len_le r;simp only [Rows.uptoBulkAll,eZ];omega
theorem ok {H:Type}:Go.Abs.Bulk (Rows.uptoBulk (H:=H)) where
 len e s:=by have:=len_le e;simp only [Rows.uptoBulk];omega
 el e s d h:=by have:=mem_le h;simp only [Rows.uptoBulk];omega
 part l d h:=by have:=mem_le h;simp only [Rows.uptoBulk];omega
 str s:=by simp [Rows.uptoBulk]
theorem bound {H:Type}{l:List (DataW H)}(hk:Rows.uptoSmall H l=true):∀ d∈l,Rows.uptoBulk d<=1048576:=λd hd=>by
 have h:=of_decide_eq_true hk;have:=mem_le hd;omega
end Go.Proofs.YtpdanmkcpjdmjaaGreat.bulks
end
section
set_option maxRecDepth 100000
set_option maxHeartbeats 4000000
open Go Go.Proofs Tryz
namespace Go.Abs
section
variable {H:Type} {enc:TypeId × Value→H} {P:Program} {w:World} {base:Nat} {spare:Nat→Bool} {held:Bool} {bulk:DataW H→Nat} {B:Nat} {n:Nat} {t:TypeId}
theorem Ob {fuel:Nat}{cs:List Value}{e:TypeId}:∀ (k o:Nat),cs.length=(o+k) * P.cellsOf e ->
  (∀ i,o<=i->i<o+k->∃ y,DataW.trod enc P w base spare held fuel e ((cs.drop (i * P.cellsOf e)).take (P.cellsOf e))=some y/\bulk y.1<=B)->XF enc P w base spare held bulk B fuel (List.replicate k e) (cs.drop (o * P.cellsOf e))
 | 0,o,hl,_=>by
  show cs.drop _=[];rw [List.drop_eq_nil_iff,hl];simp
 | k+1,o,hl,h=>by
  rw [mF];refine ⟨h o (aZ _) aD,?_⟩;rw [List.drop_drop,show o * P.cellsOf e+P.cellsOf e=(o+1) * P.cellsOf e by rw [Nat.succ_mul]];exact Ob k (o+1) (by rw [hl];congr 1;omega) λi h1 h2=>h i aD aD
theorem vC (hB:Bulk bulk){k:Nat}{e:TypeId}(ht:P.underlying t=some (.array k e))(hc:P.cellsOf t=k * P.cellsOf e){α:Type}{C:α->UN}{G:α->Prop}(h:JG enc P w base spare held bulk B n (List.replicate k e) C G) :
  Opens enc P w base spare held bulk B (n+1) t C G:=λfuel cs x hf hx hb=>by
 obtain ⟨xs,m,rfl,rfl,hcl,hxl,hfl⟩:=DataW.trod_array ht hx;simp only at hb;have hs:=Ob (enc:=enc) (P:=P) (w:=w) (base:=base) (spare:=spare) (held:=held) (bulk:=bulk) (B:=B) (fuel:=m) (cs:=cs) (e:=e) k 0 (by rw [hcl,hc];simp) λi _ hi=>by
  have hfi:=hfl i aD;rw [aA aD] at hfi;exact ⟨_,hfi,dH (hB.part _ _ (aW.2 ⟨_,aC aD,rfl⟩)) hb⟩
 rw [Nat.zero_mul,List.drop_zero] at hs;exact h m cs aD hs
theorem Vo (ht:P.underlying t=some (.int .u8)):Opens enc P w base spare held bulk B n t cU (λ_=>True):=λfuel cs x _ hx _=>by
 obtain ⟨z,rfl,_,hw⟩:=DataW.trod_int ht hx;refine ⟨UInt8.ofNat z.toNat,trivial,?_,by simp [Value.oneCell']⟩;have hz:0<=z/\z<256:=by
  have h1:IntKind.u8.min=0:=by decide
  have h2:IntKind.u8.max=255:=by decide
  simp only [Lit.wf,aN,decide_eq_true_eq,h1,h2] at hw;omega
 have he:(((UInt8.ofNat z.toNat).toNat:Nat):Int)=z:=by simp;omega
 unfold cU;rw [he];exact r6 (.int .u8 z)
theorem Vp (ht:P.underlying t=some (.int .i8)):Opens enc P w base spare held bulk B n t (λx:Int8=>[D.int .i8 x.toInt]) (λ_=>True):=λfuel cs x _ hx _=>by
 obtain ⟨z,rfl,_,hw⟩:=DataW.trod_int ht hx;refine ⟨Int8.ofInt z,trivial,?_,by simp [Value.oneCell']⟩;have hz : -128<=z/\z<128:=by
  have h1:IntKind.i8.min = -128:=by decide
  have h2:IntKind.i8.max=127:=by decide
  simp only [Lit.wf,aN,decide_eq_true_eq,h1,h2] at hw;omega
 have he:(Int8.ofInt z).toInt=z:=by rw [Int8.toInt_ofInt_of_le]<;>omega
 show RepL Qs iP sO w _ [D.int .i8 (Int8.ofInt z).toInt];rw [he];exact r6 (.int .i8 z)
theorem TY (ht:P.underlying t=some (.int .u64)):Opens enc P w base spare held bulk B n t (λx:UInt64=>[D.int .u64 (x.toNat:Int)]) (λ_=>True):=λfuel cs x _ hx _=>by
 obtain ⟨z,rfl,_,hw⟩:=DataW.trod_int ht hx;refine ⟨UInt64.ofNat z.toNat,trivial,?_,by simp [Value.oneCell']⟩;have hz:0<=z/\z<18446744073709551616:=by
  have h1:IntKind.u64.min=0:=by decide
  have h2:IntKind.u64.max=18446744073709551615:=by decide
  simp only [Lit.wf,aN,decide_eq_true_eq,h1,h2] at hw;omega
 have he:(((UInt64.ofNat z.toNat).toNat:Nat):Int)=z:=by simp;omega
 show RepL Qs iP sO w _ [D.int .u64 (((UInt64.ofNat z.toNat).toNat:Nat):Int)];rw [he];exact r6 (.int .u64 z)
end
section
variable {H:Type} {enc:TypeId × Value→H} {w:World} {base:Nat} {spare:Nat→Bool} {held:Bool} {bulk:DataW H→Nat} {B:Nat}
theorem op4:∀ n,Opens enc prog w base spare held bulk B n 4 (λb:Bool=>[D.bool b]) (λ_=>True):=λn=>Rh underlying4
theorem WG:∀ n,Opens enc prog w base spare held bulk B n 5 cU (λ_=>True):=λn=>Vo underlying5
theorem Sv:∀ n,Opens enc prog w base spare held bulk B n 160 (λx:Int8=>[D.int .i8 x.toInt]) (λ_=>True):=λn=>Vp underlying160
theorem ae3:∀ n,Opens enc prog w base spare held bulk B n 30 (λx:UInt64=>[D.int .u64 (x.toNat:Int)]) (λ_=>True):=λn=>TY underlying30
theorem abI (hB:Bulk bulk):∀ n,Opens enc prog w base spare held bulk B n 148 cP (λ_=>True)
 | 0=>Opens.zero
 | n+1=>(vC hB (k:=2) underlying148 (by kernel_rfl) (cC (WG n) (cC (WG n) (kY)))).map (λp=>(p.1,p.2.1)) (λp=>rfl) (λ_ _=>trivial)
theorem abH (hB:Bulk bulk):∀ n,Opens enc prog w base spare held bulk B n 152 cT3 (λ_=>True)
 | 0=>Opens.zero
 | n+1=>(vC hB (k:=3) underlying152 (by kernel_rfl) (cC (WG n) (cC (WG n) (cC (WG n) (kY))))).map (λp=>(p.1,p.2.1,p.2.2.1)) (λp=>rfl) (λ_ _=>trivial)
theorem ae2 (hB:Bulk bulk):∀ n,Opens enc prog w base spare held bulk B n 31 cU4 (λ_=>True)
 | 0=>Opens.zero
 | n+1=>(vC hB (k:=4) underlying31 (by kernel_rfl) (cC (WG n) (cC (WG n) (cC (WG n) (cC (WG n) (kY)))))).map (λp=>(p.1,p.2.1,p.2.2.1,p.2.2.2.1)) (λp=>rfl) (λ_ _=>trivial)
theorem abG (hB:Bulk bulk):∀ n,Opens enc prog w base spare held bulk B n 161 cT4 (λ_=>True)
 | 0=>Opens.zero
 | n+1=>(vC hB (k:=4) underlying161 (by kernel_rfl) (cC (Sv n) (cC (Sv n) (cC (Sv n) (cC (Sv n) (kY)))))).map (λp=>(p.1,p.2.1,p.2.2.1,p.2.2.2.1)) (λp=>rfl) (λ_ _=>trivial)
theorem YD (hB:Bulk bulk):∀ n,Opens enc prog w base spare held bulk B n 22 (λl:List B2=>[D.list (l.map cP)]) (λ_=>True)
 | 0=>Opens.zero
 | n+1=>(vB hB underlying22 (abI hB n)).map id (λ_=>rfl) (λ_ _=>trivial)
theorem Vq (hB:Bulk bulk):∀ n,Opens enc prog w base spare held bulk B n 24 (λl:List B3=>[D.list (l.map cT3)]) (λ_=>True)
 | 0=>Opens.zero
 | n+1=>(vB hB underlying24 (abH hB n)).map id (λ_=>rfl) (λ_ _=>trivial)
theorem W4 (hB:Bulk bulk):∀ n,Opens enc prog w base spare held bulk B n 23 (λl:List UInt8=>[D.list (l.map cU)]) (λ_=>True)
 | 0=>Opens.zero
 | n+1=>(vB hB underlying23 (WG n)).map id (λ_=>rfl) (λ_ _=>trivial)
theorem ae5 (hB:Bulk bulk):∀ n,Opens enc prog w base spare held bulk B n 27 (λl:List T4=>[D.list (l.map cT4)]) (λ_=>True)
 | 0=>Opens.zero
 | n+1=>(vB hB underlying27 (abG hB n)).map id (λ_=>rfl) (λ_ _=>trivial)
theorem ae6 (hB:Bulk bulk):∀ n,Opens enc prog w base spare held bulk B n 26 Dr5.c (λ_=>True)
 | 0=>Opens.zero
 | n+1=>(nS hB underlying26 (by kernel_rfl) (cC (W4 hB n) (cC (Vq hB n) (kY)))).map (λp=>⟨p.1,p.2.1⟩) (λp=>rfl) (λ_ _=>trivial)
theorem ae4 (hB:Bulk bulk):∀ n,Opens enc prog w base spare held bulk B n 29 Dr21.c (λ_=>True)
 | 0=>Opens.zero
 | n+1=>(nS hB underlying29 (by kernel_rfl) (cC (ae6 hB n) (cC (Vq hB n) (cC (ae5 hB n) (kY))))).map (λp=>⟨p.1,p.2.1,p.2.2.1⟩) (λp=>rfl) (λ_ _=>trivial)
theorem abF (hB:Bulk bulk):∀ n,Opens enc prog w base spare held bulk B n 33 Dr24.c (λ_=>True)
 | 0=>Opens.zero
 | n+1=>(nS hB underlying33 (by kernel_rfl) (cC (ae4 hB n) (cC (ae3 n) (cC (W4 hB n) (cC (Vq hB n) (cC (Vq hB n) (cC (op4 n) (cC (op4 n) (cC (ae2 hB n) (cC (W4 hB n) (kY))))))))))).map (λp=>⟨p.1,p.2.1,p.2.2.1,p.2.2.2.1,p.2.2.2.2.1,p.2.2.2.2.2.1,p.2.2.2.2.2.2.1,p.2.2.2.2.2.2.2.1,p.2.2.2.2.2.2.2.2.1⟩) (λp=>rfl) (λ_ _=>trivial)
theorem ae1 (hB:Bulk bulk):∀ n,Opens enc prog w base spare held bulk B n 35 Dr15.c (λ_=>True)
 | 0=>Opens.zero
 | n+1=>(nS hB underlying35 (by kernel_rfl) (cC (YD hB n) (cC (Vq hB n) (kY)))).map (λp=>⟨p.1,p.2.1⟩) (λp=>rfl) (λ_ _=>trivial)
end
end Go.Abs
end
