/- ref27.Run: steps that numbers choose. · law27: drafts of two -/
import Derived.Test.YtbgbahlipnaflaaGreatZuAG
import Derived.Test.YtbgbahlipnaflaaGreatZuAA
import Derived.Test.YtbgbahlipnaflaaGreatZuAV
import Derived.Test.YtbgbahlipnaflaaGreatZuAX
set_option linter.unusedVariables false
set_option linter.unusedSimpArgs false
section
set_option maxRecDepth 100000
set_option maxHeartbeats 4000000
open Go Go.Proofs Tryz
namespace Go.Abs

structure Dr27 where
 first:Dr26
 hj:Dr24
 gn:List UInt8
def Dr27.c (d:Dr27):UN:=d.first.c++d.hj.c++[.list (d.gn.map cU)]
@[go_sem] theorem Dr27.Q (d:Dr27):D.J d.c=true:=by simp [Dr27.c,yN,Dr26.Q,Dr24.Q,D.J,D.Q,MF]
def Dr27.gc (d:Dr27):Prop:=d.first.types.length<=8/\d.first.eh.length<=8/\d.gn.length<=4
def Chn (t:Types):Host->List Stp26->Host->Prop
 | g,[],g'=>g=g'
 | g,s :: l,g'=>s.L=g/\s.G.ok/\Et t s=true/\Chn t s.after l g'
def aaN (g:Host)(l:List Stp26):Nat->Host
 | 0=>g
 | i+1=>(Xs l i).after
theorem Chn.at {t:Types}:∀ {l:List Stp26} {g g':Host},Chn t g l g'->(∀ i,i<l.length->(Xs l i).L=aaN g l i/\(Xs l i).G.ok/\Et t (Xs l i)=true)/\aaN g l l.length=g'
 | [],g,g',h=>⟨λi hi=>absurd hi (Nat.not_lt_zero _),h⟩
 | s :: l,g,g',h=>by
  obtain ⟨a,b⟩:=Chn.at h.2.2.2;refine ⟨λi hi=>?_,?_⟩
  .cases i with
   | zero=>exact ⟨h.1,h.2.1,h.2.2.1⟩
   | succ i =>
    have:=a i (bZ hi);cases i with
    | zero=>exact this
    | succ i=>exact this
  .rw [<- b];cases l with
   | nil=>rfl
   | cons x l=>rfl
def IG (i j:Int)(x:Edge):Bool:=decide (x.w=i)&&decide (x.M=j)
def MI (g:Graph)(i j:Int)(k:Nat):V2:=((g.j.take k).filter (IG i j)).map Edge.type
def xM (g:Graph)(i j:Int):V2:=iY (MI g i j g.j.length)
@[go_sem] theorem Zm (g:Graph)(i j:Int):MI g i j 0=[]:=by simp [MI]
theorem TL {g:Graph}{i j:Int}{k:Nat}(h:k<g.j.length):MI g i j (k+1)=MI g i j k++if IG i j g.j[k]=true then [g.j[k].type] else []:=by
 unfold MI;rw [List.take_succ_eq_append_getElem h,fJ,List.map_append];split<;>rename_i a<;>simp [a]
def F1 (a b:Host)(l:V2)(k j:Nat):Bool :=
 decide (xM a.i j l.length=xM b.i (iA (l++[(k:Int)]) j) k)&&decide (xM a.i l.length j=xM b.i k (iA (l++[(k:Int)]) j))
def B5 (a b:Host)(l:V2)(k:Nat):Bool :=
 !(mem l k)&&(decide (gN a.i l.length=gN b.i k)&&(decide (a.k[l.length]?.getD []=b.k[k]?.getD [])&&(List.range (l.length+1)).all (F1 a b l k)))
def jT (a b:Host):Nat->V2->Option V2
 | 0,l=>some l
 | d+1,l=>(List.range b.i.h.length).findSome? λ(k:Nat)=>if B5 a b l k=true then jT a b d (l++[(k:Int)]) else none
structure FhG (a b:Host):Prop where
 av:a.k.length=a.i.h.length
 bv:b.k.length=b.i.h.length
 an:a.i.h.length<=100000
 bn:b.i.h.length<=100000
 ae:a.i.j.length<=1000000
 be:b.i.j.length<=1000000
theorem Bz {α:Type}{f:Nat->Option α}{n:Nat}(h:∀ k,k<n->f k=none):(List.range n).findSome? f=none:=by
 rw [List.findSome?_eq_none_iff];intro k a;exact h k (aW.1 a)
theorem Fj {α:Type}{f:Nat->Option α}:∀ {n k:Nat} {r:α},k<n->(∀ j,j<k->f j=none)->f k=some r->(List.range n).findSome? f=some r
 | 0,k,r,h,_,_=>by omega
 | n+1,k,r,h,hn,hk=>by
  rw [dO,List.findSome?_append];by_cases hkn:k<n
  .rw [Fj hkn hn hk];rfl
  .obtain rfl:k=n:=aD;rw [Bz hn];simp [hk]
theorem NA {xs c:V2}(h:xs.Perm c):iY xs=iY c:=by
 have d:(iY xs).Perm (iY c):=((uP xs _).trans h).trans (uP c _).symm;exact d.eq_of_pairwise (λa b _ _ d e=>by omega) (wL xs) (wL c)
theorem Ej {a b:Host}:∀ {m:Nat} {l r:V2},jT a b m l=some r->r.length=l.length+m
 | 0,l,r,h=>by simp only [jT,bH] at h;rw [h];rfl
 | m+1,l,r,h=>by
  simp only [jT] at h;obtain ⟨k,_,hk⟩:=List.exists_of_findSome?_eq_some h;split at hk
  .rw [Ej hk];simp;omega
  .cases hk
def mvE (s:Part)(x:Edge):Edge:=⟨x.type,iA s.h x.w,iA s.h x.M⟩
theorem Uw {l:V2}{n:Nat}(d:l.length=n)(a:∀ x∈l,0<=x/\x<n)(b:l.Nodup):l.Perm (iJ n):=by
 refine (List.perm_ext_iff_of_nodup b (C1 n)).2 λx=>⟨λh=>?_,λh=>AM d a b (Gm x h)⟩;obtain ⟨c,e⟩:=a x h;have:=d7 (l:=iJ n) c (by simp [iJ];omega);rwa [vE c e] at this
theorem Tf (g:Graph):(iJ g.j.length).map (eA g)=g.j:=by
 refine e9 (by simp [iJ]) λi b a=>?_;rw [g9];have:(iJ g.j.length)[i]'(bZ b)=(i:Int):=by simp [iJ]
 rw [this,Sb a]
theorem HIso.j {a b:Host}{s:Part}(I:HIso a b s):(a.i.j.map (mvE s)).Perm b.i.j:=by
 have c:a.i.j.map (mvE s)=s.j.map (eA b.i):=by
  refine e9 (by simp [I.el]) λi c f=>?_;rw [g9,g9];have e:i<a.i.j.length:=by simpa using c
  have d:i<s.j.length:=by simpa using f
  have:=I.eg i aD aD;rw [iD d,Sb e] at this;rw [this];rfl
 rw [c];conv=>rhs;rw [<- Tf b.i]
 exact (Uw (by rw [I.el,I.en]) I.ei I.ed).map _
theorem HIso.he {a b:Host}{s:Part}(I:HIso a b s)(g:graphF a.i=0){x y:Int}(f:0<=x/\x<a.i.h.length)(d:0<=y/\y<a.i.h.length):xM a.i x y=xM b.i (iA s.h x) (iA s.h y):=by
 unfold xM;refine NA ?_;unfold MI;rw [uN,uN];have j:=((I.j.filter (IG (iA s.h x) (iA s.h y))).map Edge.type).symm;refine List.Perm.trans (List.Perm.of_eq ?_) j.symm;rw [List.filter_map,List.map_map];rw [show Edge.type ∘ mvE s=Edge.type from rfl];congr 1;refine Gy λe i=>?_;have c:=((dX g).2 e i).2;unfold IG mvE;simp only [Function.comp];congr 1
 .exact decide_eq_decide.2 ⟨λh=>by rw [h],λh=>I.inj c.1 f h⟩
 .exact decide_eq_decide.2 ⟨λh=>by rw [h],λh=>I.inj c.2 d h⟩
theorem HIso.hu {a b:Host}{s:Part}(I:HIso a b s)(m:graphF a.i=0){i:Nat}(r:i<a.i.h.length):B5 a b (s.h.take i) (iA s.h i).toNat=true:=by
 have q:=I.nl;have c:(s.h.take i).length=i:=by simp;omega
 have e:i<s.h.length:=aD;have p:=I.ni _ (d7 (l:=s.h) (n:=(i:Int)) aD aD);have k:(((iA s.h i).toNat:Nat):Int)=iA s.h i:=aD;have g:∀ j:Nat,j<i+1->iA (s.h.take i++[iA s.h i]) j=iA s.h j:=λj d=>by
  rw [iD e,<- List.take_succ_eq_append_getElem e];unfold iA;rw [Int.toNat_natCast,List.getElem?_take_of_lt d]
 unfold B5;rw [c,k];simp only [aL,cX,decide_eq_true_eq];refine ⟨?_,I.ty i aD aD,?_,?_⟩
 .rw [bK];intro h;rw [mem_iff] at h;obtain ⟨j,d,o⟩:=aN h;rw [Gx] at o;rw [c] at d;have:=BV I.nd (i:=j) (j:=i) aD e (by rw [iD (by omega:j<s.h.length),o]);omega
 .have:=I.va i aD aD;rwa [Int.toNat_natCast] at this
 .rw [b9];intro j d;have f:=aW.1 d;unfold F1;rw [c,k,g j f,aL,decide_eq_true_eq,decide_eq_true_eq];exact ⟨I.he m aD aD,I.he m aD aD⟩
theorem HIso.e1 {a b:Host}{s:Part}(I:HIso a b s)(hg:graphF a.i=0):∀ (m i:Nat),i+m=a.i.h.length->(jT a b m (s.h.take i)).isSome=true
 | 0,i,h=>by simp [jT]
 | m+1,i,h=>by
  simp only [jT,List.findSome?_isSome_iff];have hi:i<a.i.h.length:=aD;have hl:=I.nl;have hs:i<s.h.length:=aD;have hin:=I.ni _ (d7 (l:=s.h) (n:=(i:Int)) aD aD);refine ⟨(iA s.h i).toNat,aW.2 aD,?_⟩;rw [if_pos (I.hu hg hi),show (((iA s.h i).toNat:Nat):Int)=iA s.h i by omega,iD hs,<- List.take_succ_eq_append_getElem hs];exact I.e1 hg m (i+1) aD
theorem HIso.gk {a b:Host}{s:Part}(I:HIso a b s)(d:graphF a.i=0):∃ r,jT a b a.i.h.length []=some r/\r.length=a.i.h.length:=by
 have h:=I.e1 d a.i.h.length 0 aD;rw [List.take_zero] at h;obtain ⟨r,c⟩:=gW.1 h;exact ⟨r,c,by rw [Ej c];simp⟩
theorem QQ {l:V2}(a:l.Nodup){i j:Nat}(c:i<l.length)(b:j<l.length)(h:iA l i=iA l j):i=j:=by
 rw [iD c,iD b] at h;exact (jZ a).1 h
theorem RV {a b:Graph}{m:Part}(h:Ba a b m=true):eK a b m=0/\m.h.Nodup/\m.j.Nodup:=by
 simpa [Ba] using h
theorem Srt.e4 {keep c e:V2}{u d h:Nat}(S:Srt keep c e u d h)(y:keep.Nodup)(w:e.Nodup):(tL keep c e d h).Nodup:=by
 have n:∀ i j:Nat,i<d->j<d->iA (tL keep c e d h) i=iA (tL keep c e d h) j->i=j:=λi j l k m=>by
  have x:=S.kl;have v:=S.ml;by_cases a:(i:Int)∈c
  .by_cases b:(j:Int)∈c
   .obtain ⟨p,H,D⟩:=mO a;obtain ⟨q,G,C⟩:=mO b;have s:iA keep p∈keep:=d7 aD aD;have r:iA keep q∈keep:=d7 aD aD;have F:=S.kr _ s;have E:=S.kr _ r;rw [<- D,<- C,S.bb aD,S.bb aD] at m;have o:=S.cf (S.am s) (S.am r) m;have t:=QQ w (i:=(iA keep p).toNat) (j:=(iA keep q).toNat) aD aD (by
     rw [show (((iA keep p).toNat:Nat):Int)=iA keep p by omega,show (((iA keep q).toNat:Nat):Int)=iA keep q by omega];exact o)
    have A:=QQ y (i:=p) (j:=q) aD aD aD;subst A;omega
   .obtain ⟨f,_,_,B⟩:=S.ao (j:=(j:Int)) aD b;have:=S.ek a;omega
  .obtain ⟨f,M,L,B⟩:=S.ao (j:=(i:Int)) aD a;by_cases b:(j:Int)∈c
   .have:=S.ek b;omega
   .obtain ⟨g,K,J,I⟩:=S.ao (j:=(j:Int)) aD b;have:f=g:=aD;subst this;omega
 rw [eR,dD];intro i j l k z m;have o:i<d:=by rw [eM] at l;exact l
 have t:j<d:=by rw [eM] at k;exact k
 have:=n i j o t (by rw [iD l,iD k];exact m);omega
section
variable {t:Types} {r:Rule} {h:Host} {m:Mat}
theorem StepOk.nodup (K:StepOk t r h m)(c:r.inj=true):m.m.h.Nodup/\m.m.j.Nodup:=by
 have b:=K.ff;unfold pE at b;split at b
 .cases b
 .rename_i h1;have a:=(pS (bZ h1)).2;rw [HI] at a;split at a
  .exact absurd a (by assumption)
  .split at a
   .cases a
   .rename_i hc;exact ⟨aY λq=>hc ⟨c,.inl q⟩,aY λq=>hc ⟨c,.inr q⟩⟩
end
structure InvOf (t:Types) (q w:Rule):Prop where
 lp:w.left=⟨q.right.i,[],0,[]⟩
 rg:w.right.i=q.left.i
 rs:w.right.o=[]
 kp:w.q=gQ q
 io:w.s=iT q
 inj:w.inj=true->q.inj=true
 hz:∀ g m,(l6 t g w.inj w.cond m).2=0/\(l6 t g w.inj w.cond m).1=true
 vf:ruleF t w=0
 ok:w.ok
def M6 (t:Types)(q:Rule)(h:Host)(m:Mat):Prop :=
 ∀ i:Int,0<=i->i<q.left.i.h.length->i∉q.q.h->gN h.i (iA m.m.h i)=gN q.left.i i/\h.k[(iA m.m.h i).toNat]?.getD []=i4 t (gN q.left.i i)
section
variable {t:Types} {q w:Rule} {h:Host} {m:Mat}
theorem T8 {q:Rule}{t:Types}{h:Host}{m:Mat}(S:StepIn t q h m){i:Int}(c:i∈q.q.h):i∈(iT q).h:=by
 obtain ⟨p,b,rfl⟩:=mO c;have N:=S.ak;have f:=N.kl;have e:=wJ N b;have a:iA q.s.h p∈q.s.h:=d7 aD aD;obtain ⟨d,_,_⟩:=yB (qJ q.s.h q.right.i.h.length) (fC.2 ⟨N.ir _ a,a⟩);show iA q.q.h p∈cZ (fF q.s.h q.right.i.h.length) q.s.h q.q.h;rw [<- e];exact d7 aD (by unfold cZ;rw [aR];omega)
theorem StepOk.d4 (K:StepOk t q h m)(o:q.right.o=[])(L:M6 t q h m):iZ t (aP t q h m) m.m.h.length=[]:=by
 have S:=K.S;have f:=S.hm.len;rw [lD];intro x l;obtain ⟨i,z,k,r,b,_⟩:=pC.1 l;obtain ⟨y,g,w⟩:=S.bu (i:=i) aD;apply b;unfold Jy;by_cases hm:mem q.q.h (i:Int)=true
 .rw [show (aP t q h m).G=q from rfl,if_pos hm];have c:(i:Int)∈q.q.h:=(mem_iff _ _).1 hm;have n:(aP t q h m).after.k=(bS t q h m).k:=by
   show uQ (cT q h m) m.vars q.right.o (bS t q h m).k=_;rw [o];rfl
  have v:iA (aP t q h m).U.h (iA m.m.h i)=iA (nD q.q.h m.m.h h.i.h.length) (iA m.m.h i):=by
   show iA (dG q h m).h _=_;rw [S.bz]
  have u:=(S.fs (x:=iA m.m.h i) (S.ak.am c)).2;show (nT (aP t q h m) i)[k]?.getD 0=((aP t q h m).after.k[(iA (aP t q h m).U.h (iA m.m.h i)).toNat]?.getD [])[k]?.getD 0;rw [n,v,u];rfl
 .rw [show (aP t q h m).G=q from rfl,if_neg hm];have p:(i:Int)∉q.q.h:=λs=>hm ((mem_iff _ _).2 s);obtain ⟨d,j⟩:=L (i:Int) aD aD p;have e:nT (aP t q h m) i=i4 t (gN q.left.i i):=j;show (nT (aP t q h m) i)[k]?.getD 0=((bQ t (gN h.i (iA m.m.h i)))[k]?.getD nJ).ap;have a:k<(bQ t (gN h.i (iA m.m.h i))).length:=by rw [<- g];exact r
  rw [e,d];rw [d] at a;unfold i4;rw [aM,aA a];rfl
theorem SJ {t:Types}{u w:Rule}{g:Host}{M:Mat}(o:kU w.left.i g.i M.m=kU u.left.i g.i M.m)(b:w.q=u.q)(d:w.s=u.s)(e:u.right.i.h.length=w.right.i.h.length)
  (a:u.right.i.j=w.right.i.j) (ty:∀ k∈w.N,gN w.right.i k=gN u.right.i k) (j:u.right.o=[]) (i:w.right.o=[]) :
  bW w g M=bW u g M/\cT w g M=cT u g M/\bM t w g M=bM t u g M/\bS t w g M=bS t u g M:=by
 have c:bW w g M=bW u g M:=by unfold bW;rw [o,b]
 have r:dG w g M=dG u g M:=by unfold dG;rw [c]
 have h:cT w g M=cT u g M:=by unfold cT;rw [r,c,b,d,e,a]
 have q:u.N=w.N:=by unfold Rule.N;rw [d,e]
 have p:u.aa=w.aa:=by unfold Rule.aa;rw [d,a]
 have f:bS t w g M=bS t u g M:=by
  unfold bS j6;rw [c,h,q,p,a];have n:w.N.map (gN w.right.i)=w.N.map (gN u.right.i):=cH ty;have l:w.N.map (λk=>i4 t (gN w.right.i k))=w.N.map (λk=>i4 t (gN u.right.i k)):=cH λk b=>by rw [ty k b]
  rw [n,l]
 exact ⟨c,h,by unfold bM;rw [f,j,i];rfl,f⟩
theorem InvOf.same (K:StepOk t q h m)(V:InvOf t q w)(g:q.right.o=[])(L:M6 t q h m) :
  bW w (bM t q h m) ⟨cT q h m,[]⟩=bW (c9 t (aP t q h m)) (bM t q h m) ⟨cT q h m,[]⟩/\cT w (bM t q h m) ⟨cT q h m,[]⟩=cT (c9 t (aP t q h m)) (bM t q h m) ⟨cT q h m,[]⟩ /\
  bM t w (bM t q h m) ⟨cT q h m,[]⟩=bM t (c9 t (aP t q h m)) (bM t q h m) ⟨cT q h m,[]⟩/\(bS t w (bM t q h m) ⟨cT q h m,[]⟩)=bS t (c9 t (aP t q h m)) (bM t q h m) ⟨cT q h m,[]⟩:=by
 have S:=K.S;have a:=S.hm.len;have b:(c9 t (aP t q h m)).right.i=kU q.left.i h.i m.m:=rfl;refine SJ (by rw [V.lp];rfl) (by rw [V.kp];rfl) (by rw [V.io];rfl) (by rw [b,V.rg];show (m.m.h.map _).length=_;rw [aR,a]) (by rw [b,V.rg];rfl) (λk j=>?_) (K.d4 g L) V.rs;obtain ⟨⟨e,c⟩,d⟩:=dV.1 j;rw [V.io] at d;rw [V.rg] at c;have i:k∉q.q.h:=λl=>d (T8 S l);have f:=(L k e c i).1;rw [b,V.rg,<- f];exact (S.dp e c).symm
theorem InvOf.e3 (K:StepOk t q h m)(V:InvOf t q w){inj:Bool}(M:inj=true->q.inj=true):checkE t w.left.i (bM t q h m).i (cT q h m) inj=0:=by
 have S:=K.S;have H:HostOk t (bM t q h m):=nB K.after;have g:w.left.i=q.right.i:=by rw [V.lp]
 have x:=K.ul.2.2;obtain ⟨a1,a2⟩:=AN x;obtain ⟨_,_,l1,l2⟩:=kK x;have F:=S.dh;have G:=S.az;have J:=S.hR.q;have lN:(cT q h m).h.length=q.right.i.h.length:=by rw [S.bc,eM]
 have lE:(cT q h m).j.length=q.right.i.j.length:=by rw [S.b0,eM]
 have c:=j7 S.hR.gr S.hR.tr;rw [g];have Z:bV (mNE t q.right.i (bM t q h m).i (cT q h m)) 0 q.right.i.h.length=0:=iM _ _ λj _ o=>by
  have L:=G _ (d7 (l:=(cT q h m).h) (n:=(j:Int)) aD aD);have e:(cT q h m).h[j]?.getD 0=iA (cT q h m).h j:=rfl;unfold mNE;rw [e,if_neg aD];refine if_pos ?_;show uT t (gN q.right.i (j:Int)) (gN (bM t q h m).i (iA (cT q h m).h j))=true;by_cases b:(j:Int)∈q.s.h
  .obtain ⟨p,hp,X⟩:=mO b;have d:p<q.q.h.length:=aD;have C:=J.2.1 _ (d7 (l:=q.q.h) (n:=(p:Int)) aD aD);have B:=(pQ S.hR.sub).1;obtain ⟨_,y⟩:=yE S.hR.mo (i:=(p:Int)) aD aD;rw [<- X,y,qN S.hR.sub aD aD];have r:gN (bM t q h m).i (iA (cT q h m).h (iA q.s.h p))=gN h.i (iA m.m.h (iA q.q.h p)):=S.cq d;rw [r];obtain ⟨a,k⟩:∃ a:Nat,(a:Int)=iA q.q.h p:=⟨(iA q.q.h p).toNat,aD⟩;rw [<- k] at C ⊢;have I:=S.hm.len;have u:a<m.m.h.length:=aD;have s:a<q.left.i.h.length:=aD;have P:=(S.hm.bO a u s).2;have R:gN q.left.i (a:Int)=q.left.i.h[a]:=W8 s;have Q:iA m.m.h (a:Int)=m.m.h[a]:=iD u;rw [R,Q];exact P
  .obtain ⟨f,W,U,T⟩:=S.ak.ao (j:=(j:Int)) ⟨aD,aD⟩ b;have v:=(S.ee (f:=f) W).1;rw [S.bg] at v;have O:iA q.N f=(j:Int):=U;have r:gN (bM t q h m).i (iA (cT q h m).h j)=gN q.right.i (j:Int):=by
    show gN (bS t q h m).i _=_;rw [S.bc,T,v,O]
   rw [r];exact Lh (mX S.hR.vf) (c.1 _ (BY aD aD))
 have Y:bV (mapEE q.right.i (bM t q h m).i (cT q h m)) 0 q.right.i.j.length=0:=iM _ _ λj _ o=>a2 j (by show j<q.right.i.j.length;omega);have N:eL t q.right.i (bM t q h m).i=0:=H8 S.hR.gr S.hR.tr H;unfold checkE matchE;rw [if_neg (by rw [N];simp),if_neg aD,if_neg (by rw [Z];simp),if_neg (by rw [Y];simp),if_neg];rintro ⟨o,hd⟩;obtain ⟨A,z⟩:=K.nodup (M o);have E:=i7 (nE S.hR.sub).2.1;have D:=i7 (tT S.hR.sub);rcases hd with hd|hd
 .exact hd (by rw [S.bc];exact S.ak.e4 E A)
 .exact hd (by rw [S.b0];exact S.ba.e4 D z)
theorem InvOf.hg (K:StepOk t q h m)(e:q.ok)(x:ruleF t q=0)(V:InvOf t q w)(k:q.right.o=[])(L:M6 t q h m) :
  lL t w (bM t q h m) ⟨cT q h m,[]⟩=0/\∃ p,HIso (bM t w (bM t q h m) ⟨cT q h m,[]⟩) h p:=by
 have r:=K.d4 k L;have u:=K.gx e x (by rw [r];simp);have B:=J1 K e u;obtain ⟨C,A,z,y⟩:=V.same K k L;refine ⟨?_,_,by rw [z];exact B.g0⟩;have j:=B.K';have hc:=V.e3 K V.inj;have i:=V.e3 K (inj:=false) (λs=>by cases s);have v:c8 t w.left=0:=by rw [V.lp];exact qD K.S.hR.vf K.S.hR.gr K.S.hR.tr
 have d:eF t w.left (bM t q h m) (cT q h m)=([],0):=by
  unfold eF;rw [if_neg (by rw [v];simp),if_neg (by rw [K.after];simp),if_neg (by rw [i];simp),V.lp];rfl
 have c:oN (kU w.left.i (bM t q h m).i (cT q h m)) (bM t q h m).i w.q (cT q h m)=0:=by
  have:=j.S.hc;rw [V.lp,V.kp];exact this
 have g:pE t w (bM t q h m) ⟨cT q h m,[]⟩=0:=by
  unfold pE;simp only;rw [if_neg (by rw [hc];simp),d,if_neg aE,if_neg aE];exact c
 have l:=V.hz (bM t q h m) ⟨cT q h m,[]⟩;have b:kT t w (bM t q h m) ⟨cT q h m,[]⟩=0:=by
  unfold kT;rw [if_neg (by rw [g];simp),if_neg (by rw [l.1];simp),if_neg (by rw [l.2];simp)]
 have f:r8 t (bS t w (bM t q h m) ⟨cT q h m,[]⟩).i (cT w (bM t q h m) ⟨cT q h m,[]⟩) (Mat.mk (cT q h m) []).vars w.right.o=0:=by
  rw [V.rs];rfl
 have o:=j.nn;have n:=j.ne;rw [<- y] at o n;have a:gS t w (bM t q h m) ⟨cT q h m,[]⟩=0:=by
  unfold gS;rw [if_neg (by rw [b];simp),if_neg (by rw [f];simp),if_neg aD]
 unfold lL f9;rw [if_neg (by rw [if_neg (by rw [V.vf];simp),K.after];simp),a]
end
def iQ (r:Rule):Rule:=⟨r.name,⟨r.right.i,[],0,[]⟩,⟨r.left.i,[],0,[]⟩,gQ r,iT r,r.inj,trueC⟩
def sP (t:Types)(r:Rule):Int :=
 if ruleF t r≠0 then ruleF t r else if sO r=false then 8
 else if pN t r.left.i (bG r.q.h r.left.i.h.length) (bG r.q.j r.left.i.j.length)=false then 13 else 0
theorem K8 {l keep:V2}(h:l.Nodup):nZ l keep=[]:=Vd λi k hik hk he=>by
 have h1:=QQ h (i:=i) (j:=k) aD hk (by
  have e:∀ j:Nat,iA l (j:Int)=l[j]?.getD 0:=λj=>rfl;rw [e,e];exact he)
 omega
theorem UG {n:Nat}{x:Int}(h:x∈iJ n):0<=x/\x<n:=by
 unfold iJ at h;obtain ⟨k,a,rfl⟩:=aX.1 h;have:=aW.1 a;omega
section
variable {t:Types} {r:Rule}
theorem RuleV.ak (R:RuleV t r):Srt r.q.h r.s.h (iJ r.left.i.h.length) r.left.i.h.length r.right.i.h.length r.left.i.h.length :=
 ⟨R.q.1.1,R.q.2.1,R.q.2.2.2.1,(RV R.inj).2.1,sB _,λx hx=>UG hx,K8 (HD _)⟩
theorem RuleV.ba (R:RuleV t r):Srt r.q.j r.s.j (iJ r.left.i.j.length) r.left.i.j.length r.right.i.j.length r.left.i.j.length :=
 ⟨R.q.1.2,R.q.2.2.1,R.q.2.2.2.2,(RV R.inj).2.2,sB _,λx hx=>UG hx,K8 (HD _)⟩
theorem GH {keep a g:V2}{e c f:Nat}(S:Srt keep a g e c f){x:Int}:x∈cZ (fF a c) a keep↔x∈keep:=by
 have i:=S.kl;constructor
 .intro hx;obtain ⟨y,h,rfl⟩:=aX.1 hx;have b:=(fC.1 h).2;obtain ⟨q,d,rfl⟩:=mO b;rw [yH S.cj d];exact d7 aD aD
 .intro hx;obtain ⟨q,d,rfl⟩:=mO hx;have b:iA a q∈a:=d7 aD aD;refine aX.2 ⟨iA a q,fC.2 ⟨S.ir _ b,b⟩,?_⟩;rw [yH S.cj aD]
theorem J3 {keep a e:V2}{c b d:Nat}(S:Srt keep a e c b d)(f:keep.Pairwise (· < ·)):fF (cZ (fF a b) a keep) c=keep:=by
 refine DE (qJ _ _) f λx=>?_;rw [fC,GH S];exact ⟨λh=>h.2,λh=>⟨S.kr x h,h⟩⟩
theorem J4 {keep a k:V2}{i b j:Nat}(S:Srt keep a k i b j)(o:keep.Pairwise (· < ·)):cZ keep (cZ (fF a b) a keep) (fF a b)=a:=by
 have n:=S.kl;have l:=tQ S (i7 o);refine OW (by unfold cZ;rw [aR];exact n) λp d=>?_;have c:p<keep.length:=by unfold cZ at d;rwa [aR] at d
 have f:iA a p∈a:=d7 aD aD;obtain ⟨h,g,_⟩:=yB (qJ a b) (fC.2 ⟨S.ir _ f,f⟩);have e:=wJ S c;have m:oZ (fF a b) (iA a p)<(cZ (fF a b) a keep).length:=by unfold cZ;rw [aR];exact h
 show iA (keep.map λx=>iA (fF a b) (idx (cZ (fF a b) a keep) x)) (p:Int)=iA a p;rw [t8 _ aD aD,<- e,yH l m,g]
theorem RuleV.cM (R:RuleV t r):r.q.h.Pairwise (· < ·)/\r.q.j.Pairwise (· < ·):=⟨(nE R.sub).2.1,tT R.sub⟩
theorem RuleV.dK (R:RuleV t r):gQ (iQ r)=r.q:=by
 show (⟨fF (cZ (fF r.s.h r.right.i.h.length) r.s.h r.q.h) r.left.i.h.length,fF (cZ (fF r.s.j r.right.i.j.length) r.s.j r.q.j) r.left.i.j.length⟩:Part)=r.q;rw [J3 R.ak R.cM.1,J3 R.ba R.cM.2]
theorem RuleV.fb (R:RuleV t r):iT (iQ r)=r.s:=by
 have e:iT (iQ r)=⟨cZ (gQ (iQ r)).h (iT r).h (gQ r).h,cZ (gQ (iQ r)).j (iT r).j (gQ r).j⟩:=rfl;rw [e,R.dK];have b:cZ r.q.h (iT r).h (gQ r).h=r.s.h:=J4 R.ak R.cM.1;have a:cZ r.q.j (iT r).j (gQ r).j=r.s.j:=J4 R.ba R.cM.2;rw [b,a]
theorem UV (R:RuleV t r):keptF (iQ r)=0:=by
 have N:=R.ak;have E:=R.ba;have D:=nE R.sub;have K:=j7 R.gr R.tr;have L:=N.kl;have O:=E.kl;have f:subF r.right.i (gQ r)=0:=by
  refine LA R.gr (λx s=>(fC.1 s).1) (qJ _ _) (λx s=>(fC.1 s).1) (qJ _ _) λk M=>?_;obtain ⟨a,u⟩:=fC.1 M;obtain ⟨q,U,rfl⟩:=mO u;obtain ⟨_,⟨p,B,_,n⟩,⟨C,e,_,b⟩⟩:=R.cy (q:=q) aD;have g:=vK R.gr a.1 a.2;exact ⟨fC.2 ⟨g.1,n ▸ d7 aD aD⟩,fC.2 ⟨g.2.1,b ▸ d7 aD aD⟩⟩
 obtain ⟨z,y⟩:=pQ f;obtain ⟨T,S⟩:=pQ R.sub;have I:(iT r).h.length=(gQ r).h.length:=by simp [iT,cZ]
 have J:(iT r).j.length=(gQ r).j.length:=by simp [iT,cZ]
 have P:graphF (cO r.right.i (gQ r))=0:=Ig f;have F:eK (cO r.right.i (gQ r)) r.left.i (iT r)=0:=by
  refine AO P R.pl.gg (by rw [z,I]) (by rw [y,J]) (λi h d=>?_) (λk h d=>?_)
  .rw [z] at d;obtain ⟨q,A,m,l⟩:=Cq N h d;have c:iA r.q.h q∈r.q.h:=d7 aD aD;have a:=N.kr _ c;have v:iA (iT r).h i=iA r.q.h q:=l;have w:iA (gQ r).h i=iA r.s.h q:=m;rw [v,qN f h d,w];refine ⟨a,?_⟩;obtain ⟨_,j⟩:=yE R.mo (i:=(q:Int)) aD aD;rw [j,qN R.sub aD aD]
  .rw [y] at d;obtain ⟨q,A,m,l⟩:=Cq E h d;have c:iA r.q.j q∈r.q.j:=d7 aD aD;have a:=E.kr _ c;have v:iA (iT r).j k=iA r.q.j q:=l;have w:iA (gQ r).j k=iA r.s.j q:=m;obtain ⟨Q,⟨p,B,H,n⟩,⟨C,e,o,b⟩⟩:=R.cy A;have G:iA (iT r).h (oZ (gQ r).h (iA r.s.h p))=_:=wJ N B;have j:iA (iT r).h (oZ (gQ r).h (iA r.s.h C))=_:=wJ N e;rw [v,yL f h d,BZ,w,<- n,<- b];simp only;rw [G,j,H,o];exact ⟨a,Q.symm,rfl,rfl⟩
 refine O1 (r:=iQ r) f F ?_;unfold Ba;show (decide (eK (cO r.right.i (gQ r)) r.left.i (iT r)=0)&&(decide (iT r).h.Nodup&&decide (iT r).j.Nodup))=true;simp only [aL,decide_eq_true_eq];exact ⟨F,tQ N (i7 R.cM.1),tQ E (i7 R.cM.2)⟩
theorem CX {l m:V2}(n:Nat)(h:∀ x,x∈l↔x∈m):bG l n=bG m n:=DE (lG _ _) (lG _ _) λx=>by rw [dV,dV,h x]
theorem Tu (R:RuleV t r):(iQ r).N=bG r.q.h r.left.i.h.length/\(iQ r).aa=bG r.q.j r.left.i.j.length :=
 ⟨CX _ λx=>GH R.ak,CX _ λx=>GH R.ba⟩
theorem XX (a:r.ok)(R:RuleV t r):(iQ r).ok:=by
 have d:=AR r.s.h r.right.i.h.length;have c:=AR r.s.j r.right.i.j.length;have b:=bI R.gr;refine ⟨a.name,?_,?_,?_,?_,Dv.1,Dv.2⟩
 .show (fF r.s.h r.right.i.h.length).length<=1000000;omega
 .show (fF r.s.j r.right.i.j.length).length<=1000000;omega
 .show (cZ (fF r.s.h r.right.i.h.length) r.s.h r.q.h).length<=1000000;unfold cZ;rw [aR];omega
 .show (cZ (fF r.s.j r.right.i.j.length) r.s.j r.q.j).length<=1000000;unfold cZ;rw [aR];omega
theorem Tt (c:ruleF t r=0)(R:RuleV t r)(b:pN t r.left.i (bG r.q.h r.left.i.h.length) (bG r.q.j r.left.i.j.length)=true):ruleF t (iQ r)=0:=by
 have a:c8 t ⟨r.right.i,[],0,[]⟩=0:=qD R.vf R.gr R.tr;obtain ⟨e,d⟩:=Tu R;exact NH (r:=iQ r) R.vf (show lA r.name=true from RQ c) a (Kg (r:=iQ r) R.pl.gg R.pl.ty rfl rfl (by show 0<=10;omega) rfl) (UV R) (by rw [e,d];exact b) (Nq a)
theorem KL {t:Types}{g:Host}{inj:Bool}{c:Cond}{m:Mat}(h:c.B=1):(l6 t g inj c m).2=0/\(l6 t g inj c m).1=true:=by
 refine O7.2 ?_;unfold Lu;rw [Cp,h];rfl
theorem Oy (h:sO r=true):r.left=⟨r.left.i,[],0,[]⟩/\r.right.o=[]/\r.cond.B=1:=by
 unfold sO at h;simp only [aL,decide_eq_true_eq,beq_iff_eq] at h;obtain ⟨d,j,i⟩:=h;have a:r.left.o.length=0:=aD;have b:r.left.E.length=0:=aD;have c:r.right.o.length=0:=aD;refine ⟨?_,bJ c,i⟩;have f:=bJ a;have e:=bJ b;cases g:r.left
 rw [g] at f e d;simp only at f e d;subst f e d;rfl
theorem KI (h:sP t r=0):ruleF t r=0/\sO r=true/\pN t r.left.i (bG r.q.h r.left.i.h.length) (bG r.q.j r.left.i.j.length)=true:=by
 unfold sP at h;split at h
 .exact absurd h (by assumption)
 .rename_i h1;split at h
  .cases h
  .rename_i h2;split at h
   .cases h
   .rename_i h3;exact ⟨aD,by simpa using h2,by simpa using h3⟩
theorem BS (a:r.ok)(h:sP t r=0):InvOf t r (iQ r)/\InvOf t (iQ r) r/\(iQ r).ok/\ruleF t (iQ r)=0:=by
 obtain ⟨b,j,k⟩:=KI h;have R:=G6 a b;obtain ⟨i,f,e⟩:=Oy j;have d:=XX a R;have c:=Tt b R k;exact ⟨⟨rfl,rfl,rfl,rfl,rfl,λh=>h,λg m=>KL rfl,c,d⟩,⟨i,rfl,f,R.dK.symm,R.fb.symm,λh=>h,λg m=>KL e,b,a⟩,d,c⟩
end
def v7 (t:Types)(r:Rule)(h:Host)(m:Part)(i:Int):Bool :=
 decide (gN h.i (iA m.h i)=gN r.right.i i)&&decide (h.k[(iA m.h i).toNat]?.getD []=i4 t (gN r.right.i i))
def rG (t:Types)(r:Rule)(h:Host)(m:Part):Bool:=(bG r.s.h r.right.i.h.length).all (v7 t r h m)
def ML (t:Types)(r:Rule)(h:Host)(m:Mat):Host:=bM t (iQ r) h m
def MK (r:Rule)(h:Host)(m:Mat):Mat:=⟨cT (iQ r) h m,[]⟩
def uU (t:Types)(r:Rule)(h:Host)(m:Mat):Stp26:=aP t r (ML t r h m) (MK r h m)
def JN (t:Types)(r:Rule)(h:Host):Int:=if sP t r≠0 then sP t r else (o7 t (iQ r) h).2
def yP (t:Types)(r:Rule)(h:Host):List Stp26:=if JN t r h=0 then ((o7 t (iQ r) h).1.filter λm=>rG t r h m.m).map (uU t r h) else []
theorem IK {t:Types}{r:Rule}{h:Host}{m:Mat}(a:m∈(o7 t r h).1):lL t r h m=0:=by
 unfold o7 at a;split at a
 .cases a
 .rename_i h1;split at a
  .cases a
  .have h2:=(fY.1 a).2;unfold lL;rw [if_neg h1];simpa using h2
theorem UR {t:Types}{r:Rule}{h:Host}{m:Mat}(hr:r.ok)(hi:sP t r=0)(hl:rG t r h m.m=true):M6 t (iQ r) h m:=λi h0 h1 hn=>by
 have hn':i∉r.s.h:=λhc=>hn (fC.2 ⟨⟨h0,h1⟩,hc⟩);unfold rG at hl;have:=b9.1 hl i (dV.2 ⟨⟨h0,h1⟩,hn'⟩);unfold v7 at this;simp only [aL,decide_eq_true_eq] at this;exact this
theorem Rj {t:Types}{r:Rule}{h:Host}{m:Mat}(b:r.ok)(e:sP t r=0)(i:m∈(o7 t (iQ r) h).1)(j:rG t r h m.m=true) :
  lL t (iQ r) h m=0/\gI t (iQ r) h m=aP t (iQ r) h m/\lL t r (ML t r h m) (MK r h m)=0/\gI t r (ML t r h m) (MK r h m)=uU t r h m/\(∃ p,HIso (uU t r h m).after h p)/\fM t (uU t r h m).after=0/\Et t (uU t r h m)=true:=by
 obtain ⟨o,n,d,g⟩:=BS b e;have c:=IK i;have K:=r3 d c;obtain ⟨l,k⟩:=n.hg K d g rfl (UR b e j);have a:lL t r (ML t r h m) (MK r h m)=0:=l;have f:gI t r (ML t r h m) (MK r h m)=uU t r h m:=by unfold gI;rw [if_pos a];rfl
 refine ⟨c,by unfold gI;rw [if_pos c],a,f,k,(r3 b a).after,?_⟩;unfold Et;show (decide (lL t r (ML t r h m) (MK r h m)=0)&&decide (gI t r (ML t r h m) (MK r h m)=uU t r h m))=true;rw [a,f];simp
section
variable {t:Types} {p g:Graph} {m:Part} {inj:Bool}
end
theorem Vy {t:Types}{r:Rule}{h:Host}(a:JN t r h=0):sP t r=0/\(o7 t (iQ r) h).2=0:=by
 unfold JN at a;split at a
 .rename_i q;exact absurd a q
 .rename_i q;exact ⟨by simpa using q,a⟩
theorem PF {t:Types}{r:Rule}{h:Host}{x:Stp26}(a:x∈yP t r h):∃ m,m∈(o7 t (iQ r) h).1/\rG t r h m.m=true/\x=uU t r h m/\sP t r=0:=by
 unfold yP at a;split at a
 .rename_i he;obtain ⟨m,b,rfl⟩:=aX.1 a;obtain ⟨d,c⟩:=fY.1 b;exact ⟨m,d,c,rfl,(Vy he).1⟩
 .cases a
theorem So {t:Types}{r:Rule}{h:Host}{x:Stp26}(b:r.ok)(a:x∈yP t r h):Et t x=true/\(∃ p,HIso x.after h p)/\fM t x.after=0/\x.G=r:=by
 obtain ⟨m,c,d,rfl,e⟩:=PF a;obtain ⟨_,_,_,_,i,g,f⟩:=Rj b e c d;exact ⟨f,i,g,rfl⟩
def FX (t:Types)(r:Rule):Int:=if ruleF t r≠0 then ruleF t r else if sO r=false then 8 else 0
theorem NG (r:Rule)(e:r.bE):Pua 140 [r.d] (.bool (sO r)):=by
 obtain ⟨c,b,a⟩:=e;refine Tz.p0 func140 rfl λQ f Y=>?_;exact wo (h:=f _ _ (by simp [go_sem,sO,kY]))
theorem Qh (t:Types)(l:t.ok)(r:Rule)(m:r.ok)(a:r.bE):Pua 78 [t.d,r.d] (dI (FX t r)):=by
 have i:=G5 t l r m;have j:=NG r a;obtain ⟨B,g⟩:=c6 (sO r);obtain ⟨E,f⟩:=c6 (ruleF t r);rw [<- g] at j;rw [<- f] at i;have k:FX t r=if E≠0 then E else if B=false then 8 else 0:=by rw [f,g];rfl
 rw [k];refine Tz.p0 func78 rfl λQ b Y=>?_;refine wv (h:=aB (i) wl ?_);refine dR (λe=>?_) λe=>?_
 .have h2':¬ E=0:=by simpa using e
  exact wv (h:=b _ _ (by simp [go_sem,h2',dI]))
 .have h2':E=0:=by simpa using e
  refine wp (h:=aB (j) wl ?_);refine mA (λc=>?_) λc=>?_
  .have h4':B=false:=by simpa using c
   exact wv (h:=b _ _ (by simp [go_sem,h2',h4',dI]))
  .have h4':B=true:=by simpa using c
   exact wv (h:=b _ _ (by simp [go_sem,h2',h4',dI]))
theorem NW (t:Types)(l:t.ok)(r:Rule)(m:r.ok)(a:r.bE):Pua 29 [t.d,r.d] (dI (FX t r)):=by
 have i:=z6 t l r m;have j:=Jo r a;obtain ⟨B,g⟩:=c6 (sO r);obtain ⟨E,f⟩:=c6 (ruleF t r);rw [<- g] at j;rw [<- f] at i;have k:FX t r=if E≠0 then E else if B=false then 8 else 0:=by rw [f,g];rfl
 rw [k];refine Tz.p0 func29 rfl λQ b Y=>?_;refine wv (h:=aB (i) wl ?_);refine dR (λe=>?_) λe=>?_
 .have h2':¬ E=0:=by simpa using e
  exact wv (h:=b _ _ (by simp [go_sem,h2',dI]))
 .have h2':E=0:=by simpa using e
  refine wp (h:=aB (j) wl ?_);refine mA (λc=>?_) λc=>?_
  .have h4':B=false:=by simpa using c
   exact wv (h:=b _ _ (by simp [go_sem,h2',h4',dI]))
  .have h4':B=true:=by simpa using c
   exact wv (h:=b _ _ (by simp [go_sem,h2',h4',dI]))
theorem EP (g:Graph)(b:g.h.length<=100000)(e:g.j.length<=100000):Pua 146 [g.d] g.d:=by
 refine Kp (by first|rfl|(simp [go_sem];done)) (λQ a=>ACalls.cE 2 (Tz.cK ⟨λt=>t==2||t==5||t==8,λr=>match r with|1=>[(2,3),(2,4)]|_=>[]⟩ func146 rfl ?_));have Y:=trivial;refine wv (h:=?_);refine mQ 0 (gG g.h aD) (by first|rfl|(simp [go_sem];done)) rfl (by first|omega|simp [go_sem]) (by simp [lO,n8,y9,uK]) (by first|trivial|(simp [go_sem];done)|simp [go_sem,o6]) ?_;refine wv (h:=?_);refine mQ 1 (yM g.j aD) (by first|rfl|(simp [go_sem];done)) rfl (by first|omega|simp [go_sem]) (by simp [lO,n8,y9,uK]) (by first|trivial|(simp [go_sem];done)|simp [go_sem,o6]) ?_;exact wv (h:=a _ _ (by simp [go_sem,Graph.d,Graph.c]))
theorem Qg (r:Rule)(g:r.left.i.h.length<=1000/\r.left.i.j.length<=1000)(f:r.right.i.h.length<=1000/\r.right.i.j.length<=1000)(e:r.q.h.length<=1000/\r.q.j.length<=1000)(b:r.s.h.length<=1000/\r.s.j.length<=1000):Pua 81 [r.d] (plain24 r).d:=by
 refine Kp (by first|rfl|(simp [go_sem];done)) (λQ a=>ACalls.cE 4 (Tz.cK ⟨λt=>t==2||t==18||t==22||t==27||t==31,λr=>match r with|1=>[(0,5),(1,5),(5,7),(5,8),(5,9),(0,10),(1,10),(5,12),(10,12),(5,13),(10,13),(5,14),(10,14),(0,15),(1,15),(5,16),(10,16),(15,16),(5,17),(10,17),(15,17),(5,18),(10,18),(15,18),(0,19),(1,19),(5,21),(10,21),(15,21),(19,21),(5,22),(10,22),(15,22),(19,22),(5,23),(10,23),(15,23),(19,23),(0,24),(1,24),(5,25),(10,25),(15,25),(19,25),(24,25),(5,26),(10,26),(15,26),(19,26),(24,26),(5,27),(10,27),(15,27),(19,27),(24,27),(0,28),(1,28),(5,30),(10,30),(15,30),(19,30),(24,30),(28,30),(5,31),(10,31),(15,31),(19,31),(24,31),(28,31)]|_=>[]⟩ func81 rfl ?_));have Y:=trivial;refine wv (h:=aI (EP r.left.i aD aD) wl ?_);refine wv (h:=aI (EP r.right.i aD aD) wl ?_);refine wv (h:=?_);refine mQ 0 (gG r.q.h aD) (by first|rfl|(simp [go_sem];done)) rfl (by first|omega|simp [go_sem]) (by simp [lO,n8,y9,uK]) (by first|trivial|(simp [go_sem];done)|simp [go_sem,o6]) ?_;refine wv (h:=?_);refine mQ 1 (gG r.q.j aD) (by first|rfl|(simp [go_sem];done)) rfl (by first|omega|simp [go_sem]) (by simp [lO,n8,y9,uK]) (by first|trivial|(simp [go_sem];done)|simp [go_sem,o6]) ?_;refine wv (h:=?_);refine mQ 2 (gG r.s.h aD) (by first|rfl|(simp [go_sem];done)) rfl (by first|omega|simp [go_sem]) (by simp [lO,n8,y9,uK]) (by first|trivial|(simp [go_sem];done)|simp [go_sem,o6]) ?_;refine wv (h:=?_);refine mQ 3 (gG r.s.j aD) (by first|rfl|(simp [go_sem];done)) rfl (by first|omega|simp [go_sem]) (by simp [lO,n8,y9,uK]) (by first|trivial|(simp [go_sem];done)|simp [go_sem,o6]) ?_;exact wv (h:=a _ _ (by simp [go_sem,plain24,trueC,Rule.d,Rule.c,Cond.B,Cond.u,Cond.map,Cond.l]))
theorem EO (keep a:V2)(n:Nat)(N:a.Nodup)(M:∀ x∈a,0<=x/\x<n)(T:a.length=keep.length)(I:a.length<=1000000):Pua 82 [dLI keep,dLI a] (.tup [dLI (fF a n),dLI (cZ (fF a n) a keep)]):=by
 have z:=kH a;have F:=GS N M;obtain ⟨g,p⟩:=c6 (fF a n);rw [<- p] at F;have C:∀ x∈g,x∈a:=λx L=>(fC.1 (p ▸ L)).2;have c:g.length=a.length:=by rw [<- F];exact z
 rw [<- p];refine Tz.pK ⟨λt=>t==6||t==7,λ_=>[]⟩ func82 rfl (λQ P=>?_);try simp [go_sem,seval]
 refine lU (gG a I) ((by first|rfl|(simp [go_sem,<- List.map_take,<- List.map_drop];done))) ?_;try simp [go_sem,seval]
 unfold f7;refine zS (ty:=3) (xs:=a) (by simp [go_sem]) I ?_;rw [F];try simp [go_sem,seval]
 repeat first|intro _|refine ⟨fS,?_⟩
 obtain ⟨G,q⟩:∃ G:Nat->eB->AHeap->Prop,∀ (i:Nat) (e:eB) (H:AHeap),G i e H↔((e 0=dLI keep)/\(e 1=dLI a)/\(e 6=.own 0 a.length)/\(e 14=.own 0 a.length)/\(e 15=dI a.length)/\(e 7=.own 1 i)/\(e 16=dI i)/\(H.get 0=some ⟨3,1,g.map cI,false⟩)/\(0<H.next)/\(H.get 1=some ⟨3,1,(cZ (g.take i) a keep).map cI,false⟩)/\(1<H.next)/\(i<=g.length)):=⟨λi e H=>_,λ_ _ _=>Iff.rfl⟩;refine yY G (λi=>g.length - i) (0) ((q _ _ _).2 ⟨?_,?_,?_,?_,?_,?_,?_,?_,?_,(by simp [go_sem,cZ]),?_,(by first|assumption|omega|(simp [go_sem];done)|(simp_all;done))⟩) ?_;iterate 10 (first|omega|(simp [go_sem,seval]<;>omega))
 intro i e H D;obtain ⟨v,u,s,o,m,r,l,B,y,b,w,O⟩:=(q _ _ _).1 D;have K:=cW y;have J:=cW w;have j:=xa8 v u s o m r l B K J;try simp [go_sem,seval,j,b]
 refine bA (λk=>?_) (λk=>?_)
 .try simp [go_sem] at k
  have f:i<g.length:=aD;obtain ⟨S,R,_⟩:=BT ((mem_iff _ _).2 (C _ (aC f)));have h:(idx a g[i]).toNat<keep.length:=aD;have E:cZ (g.take (i+1)) a keep=cZ (g.take i) a keep++[keep[(idx a g[i]).toNat]]:=by unfold cZ;rw [List.take_succ_eq_append_getElem f,List.map_append];simp [iA,aA h]
  have d:(cZ (g.take i) a keep).length=i:=by simp [cZ];omega
  try simp [go_sem,seval,j,b,k,aA f,aA h,d,c]
  repeat first|intro _|refine ⟨fS,?_⟩
  refine aB (tH a g[i]) ((by first|rfl|(simp [go_sem,<- List.map_take,<- List.map_drop,j,b,k,aA f,aA h,d,c];done))) ?_;try simp [go_sem,seval,j,b,k,aA f,aA h,d,c]
  repeat first|intro _|refine ⟨fS,?_⟩
  refine iW (i+1) aD ((q _ _ _).2 ⟨?_,?_,?_,?_,?_,?_,?_,?_,?_,(by simp [go_sem,j,b,k,aA f,aA h,d,c,E,cI]),?_,(by first|assumption|omega|(simp [go_sem,j,b,k,aA f,aA h,d,c];done)|(simp_all<;>omega))⟩)<;>first|omega|(simp [go_sem,seval,j,b,k,aA f,aA h,d,c]<;>omega)
 .try simp [go_sem] at k
  rw [aG aD] at b;have A:i=g.length:=aD;have d:(cZ g a keep).length=g.length:=by simp [cZ]
  try simp [go_sem,seval,j,b,b,c]
  exact P _ _ (by first|(left;(simp [go_sem,j,b,b,c,A,d,c,dLI]);done)|(right;(simp [go_sem,j,b,b,c,A,d,c,dLI]);done))
theorem SB (l a keep:V2):(cZ l a keep).length=l.length:=by simp [cZ]
theorem P1 (l a keep:V2){i:Nat}(h:i<l.length):cZ (l.take (i+1)) a keep=cZ (l.take i) a keep++[iA keep (idx a l[i])]:=by unfold cZ;rw [List.take_succ_eq_append_getElem h,List.map_append];rfl
theorem Hg (keep a l:V2)(O:a.Nodup)(A:∀ x∈l,x∈a)(Z:a.length=keep.length)(X:l.length<=1000):Pua 35 [dLI keep,dLI a,dLI l] (dLI (cZ l a keep)):=by
 refine Tz.pK ⟨λt=>t==7,λ_=>[]⟩ func35 rfl (λQ T=>?_);have Y:=trivial;refine wv (h:=bC (λi e H=>∃ c:V2,(e 0=dLI keep/\e 1=dLI a/\e 2=dLI l/\e 7=.own 0 c.length/\e 8=dI i)/\(H.get 0=some ⟨3,1,c.map cI,false⟩)/\(0<H.next)/\(i<=l.length)/\(c.length=i)/\(c=cZ (l.take i) a keep)) (λi=>l.length - i) 0 ⟨([]),wg,wn,wn,wi,(by rfl),(by simp [cZ])⟩ λI0 D i e H C=>?_);obtain ⟨c,V,s,n,hi,M,J⟩:=C;have Y:=xa2 Y V s (cW n);refine wv (h:=?_);repeat first|intro _|refine ⟨fS,?_⟩
 refine wq (λq=>?_) λq=>?_
 .have hm:=A _ (aC q);obtain ⟨W,I,u⟩:=BT ((mem_iff _ _).2 hm);have z:(idx a l[i]).toNat<keep.length:=aD;have S:=P1 l a keep q;have N:=QR z;have Y:=xa1 Y q (aA q);refine wv (h:=bC (λk e H=>∃ f:V2,(e 0=dLI keep/\e 1=dLI a/\e 2=dLI l/\e 7=.own 0 f.length/\e 8=dI i/\e 9=dI k)/\(H.get 0=some ⟨3,1,f.map cI,false⟩)/\(0<H.next)/\(k<=a.length)/\(f=if (idx a l[i]).toNat<k then c++[keep[(idx a l[i]).toNat]] else c)/\(f.length<=i+1)) (λk=>a.length - k) 0 ⟨c,wg,(by simp [go_sem,Y]),wn,wi,(by simp),aD⟩ λI2 p k e H B=>?_);obtain ⟨f,U,r,m,P,y,L⟩:=B;have Y:=xa2 Y U r (cW m);refine wv (h:=?_);repeat first|intro _|refine ⟨fS,?_⟩
  refine wq (λF=>?_) λF=>?_
  .have hkk:k<keep.length:=aD;have Y:=xa2 Y F (aA F) (aA hkk);refine wv (h:=?_);repeat first|intro _|refine ⟨fS,?_⟩
   refine wq (λE=>?_) λE=>?_
   .have hkp:(idx a l[i]).toNat=k:=by
     rw [aA I] at u;have v:=Option.some.inj u;exact (jZ O).1 (v.trans E.symm)
    have w:f=c:=by rw [y,if_neg aD]
    obtain ⟨j,b⟩:∃ x,x=f++[keep[k]]:=⟨_,rfl⟩;have d:j=if (idx a l[i]).toNat<k+1 then c++[keep[(idx a l[i]).toNat]] else c:=by rw [if_pos aD,b,w];simp [hkp]
    have Y:=wa Y b;exact wp (h:=wx p (k+1) ⟨j,wg,(by simp [go_sem,Y]),wn,wj,(by exact d),(by rw [d];split<;>(try simp)<;>omega)⟩)
   .have hkp:(idx a l[i]).toNat≠k:=λR=>E (by
     rw [aA I] at u;have v:=Option.some.inj u;simp only [R] at v;exact v)
    obtain ⟨j,b⟩:∃ x,x=f:=⟨_,rfl⟩;have d:j=if (idx a l[i]).toNat<k+1 then c++[keep[(idx a l[i]).toNat]] else c:=by
     rw [b,y];by_cases K:(idx a l[i]).toNat<k
     .rw [if_pos K,if_pos aD]
     .rw [if_neg K,if_neg aD]
    have Y:=wa Y b;exact wp (h:=wx p (k+1) ⟨j,wg,(by simp [go_sem,Y]),wn,wj,(by exact d),(by rw [d];split<;>(try simp)<;>omega)⟩)
  .obtain ⟨G,g⟩:∃ x,x=f:=⟨_,rfl⟩;have o:G=cZ (l.take (i+1)) a keep:=by rw [g,y,if_pos aD,S,N,<- J]
   have Y:=wa Y g;exact wp (h:=wx D (i+1) ⟨G,wg,wn,wn,wj,(by rw [o,SB,dH];omega),(by exact o)⟩)
 .have hE:cZ l a keep=c:=by rw [J,aG aD]
  exact wv (h:=T _ _ (by simp [go_sem,Y,hE]))
def FS (t:Types)(r:Rule):Rule:=if sP t r=0 then iQ r else rule0
theorem O2 (t:Types)(r:Rule):sP t r=if FX t r≠0 then FX t r else if pN t r.left.i r.bl r.bm=false then 13 else 0:=by
 unfold sP FX Rule.bl Rule.bm;by_cases a:ruleF t r=0
 .by_cases h2:sO r=false
  .simp [a,h2]
  .simp [a,h2]
 .simp [a]
theorem U8 {t:Types}{r:Rule}(h:FX t r=0):ruleF t r=0:=by
 unfold FX at h;split at h
 .exact absurd h (by assumption)
 .rename_i q;omega
theorem abA {t:Types}{r:Rule}(c:r.ok)(h:FX t r=0):RuleV t r/\((r.left.i.h.length<=40/\r.left.i.j.length<=80)/\r.right.i.h.length<=40/\r.right.i.j.length<=80)/\((r.q.h.length<=1000/\r.q.j.length<=1000)/\r.s.h.length<=1000/\r.s.j.length<=1000) /\
  ((∀ i∈r.bl,0<=i/\i<r.left.i.h.length)/\∀ k∈r.bm,0<=k/\k<r.left.i.j.length):=by
 have R:=G6 c (U8 h);have l:=bI R.pl.gg;have j:=bI R.gr;have s:=nE R.sub;have b:=Sr s.2.1 s.2.2.1 aD;have a:=Sr (tT R.sub) s.2.2.2 aD;obtain ⟨g,f⟩:=R.q.1;exact ⟨R,⟨⟨aD,aD⟩,aD,aD⟩,⟨⟨b,a⟩,aD,aD⟩,λi e=>(dV.1 e).1,λk d=>(dV.1 d).1⟩
theorem LS (t:Types)(H:t.ok)(r:Rule)(I:r.ok)(u:r.bE):Pua 37 [t.d,r.d] (.tup [(FS t r).d,dI (sP t r)]):=by
 have K:=Qh t H r I u;obtain ⟨G,s⟩:∃ x,x=FX t r:=⟨_,rfl⟩;obtain ⟨a,w⟩:∃ x,x=r.bl:=⟨_,rfl⟩;obtain ⟨b,v⟩:∃ x,x=r.bm:=⟨_,rfl⟩;obtain ⟨D,g⟩:∃ x,x=pN t r.left.i r.bl r.bm:=⟨_,rfl⟩;obtain ⟨Z,q⟩:∃ x,x=sP t r:=⟨_,rfl⟩;have f:Z=if G≠0 then G else if D=false then 13 else 0:=by rw [q,O2,s,g]
 have e:G=0->_:=λh=>abA (t:=t) I (by rw [<- s];exact h);have T:G=0->Pua 79 [r.d] (.tup [dLI a,dLI b]):=λh=>by
  obtain ⟨_,⟨⟨M,L⟩,_⟩,_⟩:=e h;rw [w,v];exact LQ r aD aD
 have S:G=0->Pua 80 [t.d,r.left.i.d,dLI a,dLI b] (.bool D):=λh=>by
  obtain ⟨R,_,_,O,N⟩:=e h;rw [w,v,g];exact CC t H _ R.pl.gg R.pl.ty _ _ O N
 have P:G=0->Pua 81 [r.d] (plain24 r).d:=λh=>by
  obtain ⟨_,⟨⟨M,L⟩,V,U⟩,⟨k,p,o⟩,_⟩:=e h;exact Qg r ⟨aD,aD⟩ ⟨aD,aD⟩ k ⟨p,o⟩
 obtain ⟨F,j⟩:∃ x,x=(gQ r).h:=⟨_,rfl⟩;obtain ⟨E,i⟩:∃ x,x=(gQ r).j:=⟨_,rfl⟩;obtain ⟨p,m⟩:∃ x,x=(iT r).h:=⟨_,rfl⟩;obtain ⟨o,l⟩:∃ x,x=(iT r).j:=⟨_,rfl⟩;have C:G=0->Pua 82 [dLI r.q.h,dLI r.s.h] (.tup [dLI F,dLI p]):=λh=>by
  obtain ⟨R,_,⟨_,X,_⟩,_⟩:=e h;rw [j,m];exact EO _ _ _ R.ak.cj R.ak.ir R.q.1.1.symm aD
 have B:G=0->Pua 82 [dLI r.q.j,dLI r.s.j] (.tup [dLI E,dLI o]):=λh=>by
  obtain ⟨R,_,⟨_,_,W⟩,_⟩:=e h;rw [i,l];exact EO _ _ _ R.ba.cj R.ba.ir R.q.1.2.symm aD
 have J:FS t r=if Z=0 then ⟨r.name,⟨r.right.i,[],0,[]⟩,⟨r.left.i,[],0,[]⟩,⟨F,E⟩,⟨p,o⟩,r.inj,trueC⟩ else rule0:=by rw [q,j,i,m,l];rfl
 rw [<- s] at K;rw [J,<- q];clear J q j i m l e w v g s;refine Tz.pK ⟨λt=>t==4||t==9,λ_=>[]⟩ func37 rfl (λQ y=>?_);have Y:=xa6 @plain24.eq_1 @trueC.eq_1 @Rule.d.eq_1 @Rule.c.eq_1 @Cond.B.eq_1 @Cond.u.eq_1 @Cond.map.eq_1 @Cond.l.eq_1;refine kZ (h:=aB (K) wl ?_);refine kZ (h:=wq (λA=>?_) λA=>?_)
 .have hne:¬ G=0:=by simpa using A
  have n:Z=G:=by rw [f,if_pos hne]
  exact kZ (h:=y _ _ (by simp [go_sem,n,hne,rule0,oQ,Rule.d,Rule.c,Cond.B,Cond.u,Cond.map,Cond.l,dLI,dI]))
 .have hg0:G=0:=by simpa using A
  rw [if_neg (bZ hg0)] at f;refine kZ (h:=aB (T hg0) wl ?_);refine sM (h:=aB (S hg0) wl ?_);refine sM (h:=wq (λz=>?_) λz=>?_)
  .have n:Z=13:=by rw [f,if_pos (bZ z)]
   exact kZ (h:=y _ _ (by simp [go_sem,n,rule0,oQ,Rule.d,Rule.c,Cond.B,Cond.u,Cond.map,Cond.l,dLI,dI]))
  .have n:Z=0:=by rw [f,if_neg (bZ z)]
   refine kZ (h:=aB (P hg0) wl ?_);refine kZ (h:=aB (C hg0) wl ?_);refine kZ (h:=aB (B hg0) wl ?_);exact kZ (h:=y _ _ (by simp [go_sem,n,trueC,Rule.d,Rule.c,Cond.B,Cond.u,Cond.map,Cond.l,dLI,dI]))
theorem CV (l:V2)(n:Nat):bG (bG l n) n=fF l n:=DE (lG _ _) (qJ _ _) λx=>by
 rw [dV,fC,dV];constructor
 .rintro ⟨h1,h2⟩;exact ⟨h1,aY λh=>h2 ⟨h1,h⟩⟩
 .rintro ⟨h1,h2⟩;exact ⟨h1,λh=>h.2 h2⟩
theorem Bq (t:Types)(S:t.ok)(r:Rule)(T:r.ok)(C:r.bE):Pua 7 [t.d,r.d] (.tup [(FS t r).d,dI (sP t r)]):=by
 have V:=NW t S r T C;obtain ⟨G,A⟩:∃ x,x=FX t r:=⟨_,rfl⟩;obtain ⟨a,E⟩:∃ x,x=r.bl:=⟨_,rfl⟩;obtain ⟨b,D⟩:∃ x,x=r.bm:=⟨_,rfl⟩;obtain ⟨O,o⟩:∃ x,x=r.N:=⟨_,rfl⟩;obtain ⟨N,n⟩:∃ x,x=r.aa:=⟨_,rfl⟩;obtain ⟨P,j⟩:∃ x,x=pN t r.left.i r.bl r.bm:=⟨_,rfl⟩;obtain ⟨Z,z⟩:∃ x,x=sP t r:=⟨_,rfl⟩;have i:Z=if G≠0 then G else if P=false then 13 else 0:=by rw [z,O2,A,j]
 have e:G=0->_:=λh=>abA (t:=t) T (by rw [<- A];exact h);have cD:G=0->Pua 30 [r.d] (.tup [dLI a,dLI b]):=λh=>by
  obtain ⟨_,⟨⟨q,p⟩,_⟩,_⟩:=e h;rw [E,D];exact Jn r aD aD
 have cC:G=0->Pua 33 [r.d] (.tup [dLI O,dLI N]):=λh=>by
  obtain ⟨_,⟨_,q,p⟩,_⟩:=e h;rw [o,n];exact vX r aD aD
 have cM:G=0->Pua 31 [t.d,r.left.i.d,dLI a,dLI b] (.bool P):=λh=>by
  obtain ⟨R,_,_,X,W⟩:=e h;rw [E,D,j];exact CK t S _ R.pl.gg R.pl.ty _ _ X W
 have cP:G=0->Pua 32 [r.d] (plain24 r).d:=λh=>by
  obtain ⟨_,⟨⟨q,p⟩,q3,q4⟩,⟨k,y,w⟩,_⟩:=e h;exact NV r ⟨aD,aD⟩ ⟨aD,aD⟩ k ⟨y,w⟩
 obtain ⟨v,g⟩:∃ x,x=(gQ r).h:=⟨_,rfl⟩;obtain ⟨u,f⟩:∃ x,x=(gQ r).j:=⟨_,rfl⟩;obtain ⟨y,m⟩:∃ x,x=(iT r).h:=⟨_,rfl⟩;obtain ⟨w,l⟩:∃ x,x=(iT r).j:=⟨_,rfl⟩;have K:G=0->Pua 34 [dI r.right.i.h.length,dLI O] (dLI v):=λh=>by
  obtain ⟨_,⟨_,q,p⟩,_⟩:=e h;have:=q9 O r.right.i.h.length aD;rw [o] at this ⊢;rw [show bG r.N r.right.i.h.length=v by rw [g];exact CV _ _] at this;exact this
 have J:G=0->Pua 34 [dI r.right.i.j.length,dLI N] (dLI u):=λh=>by
  obtain ⟨_,⟨_,q,p⟩,_⟩:=e h;have:=q9 N r.right.i.j.length aD;rw [n] at this ⊢;rw [show bG r.aa r.right.i.j.length=u by rw [f];exact CV _ _] at this;exact this
 have M:G=0->Pua 35 [dLI r.q.h,dLI r.s.h,dLI v] (dLI y):=λh=>by
  obtain ⟨R,⟨_,q,p⟩,_⟩:=e h;rw [g,m];exact Hg _ _ _ R.ak.cj (λx B=>(fC.1 B).2) R.q.1.1.symm (by have:=AR r.s.h r.right.i.h.length;show (fF r.s.h r.right.i.h.length).length<=1000;omega)
 have L:G=0->Pua 35 [dLI r.q.j,dLI r.s.j,dLI u] (dLI w):=λh=>by
  obtain ⟨R,⟨_,q,p⟩,_⟩:=e h;rw [f,l];exact Hg _ _ _ R.ba.cj (λx B=>(fC.1 B).2) R.q.1.2.symm (by have:=AR r.s.j r.right.i.j.length;show (fF r.s.j r.right.i.j.length).length<=1000;omega)
 have U:FS t r=if Z=0 then ⟨r.name,⟨r.right.i,[],0,[]⟩,⟨r.left.i,[],0,[]⟩,⟨v,u⟩,⟨y,w⟩,r.inj,trueC⟩ else rule0:=by rw [z,g,f,m,l];rfl
 rw [<- A] at V;rw [U,<- z];clear U z g f m l e E D j A o n;refine Tz.pK ⟨λt=>t==4||t==9,λ_=>[]⟩ func7 rfl (λQ F=>?_);have Y:=xa6 @plain24.eq_1 @trueC.eq_1 @Rule.d.eq_1 @Rule.c.eq_1 @Cond.B.eq_1 @Cond.u.eq_1 @Cond.map.eq_1 @Cond.l.eq_1;refine kZ (h:=aB (V) wl ?_);refine kZ (h:=wq (λI=>?_) λI=>?_)
 .have hne:¬ G=0:=by simpa using I
  have s:Z=G:=by rw [i,if_pos hne]
  exact kZ (h:=F _ _ (by simp [go_sem,s,hne,rule0,oQ,Rule.d,Rule.c,Cond.B,Cond.u,Cond.map,Cond.l,dLI,dI]))
 .have hg0:G=0:=by simpa using I
  rw [if_neg (bZ hg0)] at i;refine kZ (h:=aB (cD hg0) wl ?_);refine sM (h:=aB (cM hg0) wl ?_);refine sM (h:=wq (λH=>?_) λH=>?_)
  .have s:Z=13:=by rw [i,if_pos (bZ H)]
   exact kZ (h:=F _ _ (by simp [go_sem,s,rule0,oQ,Rule.d,Rule.c,Cond.B,Cond.u,Cond.map,Cond.l,dLI,dI]))
  .have s:Z=0:=by rw [i,if_neg (bZ H)]
   refine kZ (h:=aB (cP hg0) wl ?_);refine kZ (h:=aB (cC hg0) wl ?_);refine sM (h:=aI (K hg0) wl ?_);refine sM (h:=aI (J hg0) wl ?_);refine sM (h:=aI (M hg0) wl ?_);refine sM (h:=aI (L hg0) wl ?_);exact sM (h:=F _ _ (by simp [go_sem,s,trueC,Rule.d,Rule.c,Cond.B,Cond.u,Cond.map,Cond.l,dLI,dI]))
theorem Us {v:V2}{al:List Attr}(hl:v.length=al.length)(h:∀ i (p1:i<v.length) (p2:i<al.length),v[i]=al[i].ap):v=al.map λa=>a.ap:=e9 (bZ hl) λi p1 p2=>by
 rw [g9];exact h i p1 aD
theorem Ur {v:V2}{al:List Attr}{i:Nat}(p1:i<v.length)(p2:i<al.length)(h:¬ v[i]=al[i].ap):¬ v=al.map λa=>a.ap:=λe=>h (by
 subst e;rw [g9])
theorem Jl (t:Types)(N:t.ok)(h:Host)(s:HostOk t h)(n k:Int)(F:0<=n/\n<h.i.h.length) :
  Pua 87 [t.d,h.d,dI n,dI k] (.bool (decide (gN h.i n=k)&&decide (h.k[n.toNat]?.getD []=i4 t k))):=by
 have M:=s.vl;have E:n.toNat<h.i.h.length:=aD;have D:n.toNat<h.k.length:=aD;have K:gN h.i n=h.i.h[n.toNat]:=by unfold gN;rw [aA E];rfl
 have J:h.k[n.toNat]?.getD []=h.k[n.toNat]:=by rw [aA D];rfl
 have f:=s.cm F.1 F.2;have y:=n5 s.vf k;rw [K,J];rw [K,J] at f;have L:=nO t N k;obtain ⟨b,g⟩:∃ x,x=bQ t k:=⟨_,rfl⟩;obtain ⟨v,r⟩:∃ x,x=h.k[n.toNat]:=⟨_,rfl⟩;have u:i4 t k=b.map λa=>a.ap:=by rw [g];rfl
 rw [<- g] at L y;have q:h.i.h[n.toNat]=k->v.length=b.length:=λe=>by rw [r,f,e,g]
 rw [u,<- r];refine Tz.pK ⟨λt=>t==12,λ_=>[]⟩ func87 rfl (λQ z=>?_);have Y:=xa2 @Host.d.eq_1 @Host.c.eq_1 (aA E) (aA D);refine mA (λC=>?_) λC=>?_
 .have hne:¬ h.i.h[n.toNat]=k:=by simpa using C
  exact wv (h:=z _ _ (by simp [go_sem,hne]))
 .have hk:h.i.h[n.toNat]=k:=by simpa using C
  have o:=q hk;refine wv (h:=aB (L) wl ?_);refine wp (h:=bC (λj e H=>(e 2=dI n/\e 5=.adr h.c/\e 27=.list (b.map Attr.c)/\e 28=dI b.length/\e 29=dI j)/\(j<=b.length)/\(∀ i (m:i<v.length) (l:i<b.length),i<j->v[i]=b[i].ap)) (λj=>b.length - j) 0 ⟨wg,wi,(by exact λi _ _ G=>absurd G aD)⟩ λR A j e H w=>?_);obtain ⟨O,P,I⟩:=w;have Y:=wa Y O;refine dR (λp=>?_) λp=>?_
  .have hjv:j<v.length:=aD;have Y:=xa3 Y p (aA p) (Eq.symm r) (aA hjv);refine mA (λB=>?_) λB=>?_
   .have hx:=Ur hjv p (bZ B);exact wv (h:=z _ _ (by simp [go_sem,hk,hx]))
   .have he2:∀ i (m:i<v.length) (l:i<b.length),i<j+1->v[i]=b[i].ap:=λi m l G=>by
     rcases bX i j with hc|hc
     .exact I i m l hc
     .have e:i=j:=aD;subst e;simpa using B
    exact wp (h:=wx A (j+1) ⟨wg,wj,(by exact he2)⟩)
  .have hE:=Us o (λi m l=>I i m l aD);exact wv (h:=z _ _ (by simp [go_sem,hk,<- hE]))
theorem Tq {t:Types}{r:Rule}{h:Host}{m:Part}:rG t r h m=(List.range r.right.i.h.length).all λ(i:Nat)=>mem r.s.h i||v7 t r h m i:=by
 unfold rG;rw [aT,b9,b9];constructor
 .intro hh i hi;rw [c7];by_cases a:mem r.s.h (i:Int)=true
  .exact .inl a
  .exact .inr (hh _ (dV.2 ⟨⟨aD,by have:=aW.1 hi;omega⟩,λc=>a ((mem_iff _ _).2 c)⟩))
 .intro hh x hx;obtain ⟨⟨e,d⟩,b⟩:=dV.1 hx;have:=hh x.toNat (aW.2 aD);rw [c7,show ((x.toNat:Nat):Int)=x by omega] at this;rcases this with h1|h1
  .exact absurd ((mem_iff _ _).1 h1) b
  .exact h1
theorem FO (t:Types)(y:t.ok)(r:Rule)(h:Host)(A:HostOk t h)(a es:V2)(B:a.length=r.right.i.h.length)(z:∀ x∈a,0<=x/\x<h.i.h.length)(F:a.length<=1000)(C:r.s.h.length<=1000000) :
  Pua 39 [t.d,r.d,h.d,dLI a] (.bool (rG t r h ⟨a,es⟩)):=by
 have s:∀ i (b:i<a.length),Pua 87 [t.d,h.d,dI a[i],dI (gN r.right.i i)] (.bool (v7 t r h ⟨a,es⟩ i)):=λi b=>by
  have:=Jl t y h A a[i] (gN r.right.i i) (z _ (aC b));unfold v7;rw [show iA (⟨a,es⟩:Part).h (i:Int)=a[i] from iD b];exact this
 rw [Tq,<- B];obtain ⟨f,m⟩:=c6 (λi=>v7 t r h ⟨a,es⟩ i);have g:(λ(i:Nat)=>mem r.s.h i||v7 t r h ⟨a,es⟩ i)=λ(i:Nat)=>mem r.s.h i||f i:=by rw [m]
 have s:∀ i (b:i<a.length),Pua 87 [t.d,h.d,dI a[i],dI (gN r.right.i i)] (.bool (f i)):=λi b=>by rw [m];exact s i b
 rw [g];clear g m;refine Tz.p0 func39 rfl λQ v Y=>?_;refine wp (h:=bC (λi e H=>(e 4=.adr t.c/\e 5=.adr r.c/\e 6=.adr h.c/\e 11=dLI a/\e 12=dI a.length/\e 13=dI i)/\(i<=a.length)/\((List.range i).all (λ(i:Nat)=>mem r.s.h i||f i)=true)) (λi=>a.length - i) 0 ⟨wg,wi,(by rfl)⟩ λG p i e H k=>?_);obtain ⟨E,b,o⟩:=k;have Y:=wa Y E;refine dR (λj=>?_) λj=>?_
 .have hir:i<r.right.i.h.length:=aD;have l:gN r.right.i i=r.right.i.h[i]:=W8 hir;have Y:=xa2 Y j (aA j) (aA hir);refine wp (h:=aI (f6 r.s.h i) wl ?_);refine wp (h:=dJ (λD=>(by have u:=s i j;rw [l] at u;exact u)) (λD=>wl) ?_);refine mA (λq=>?_) λq=>?_
  .have hb:(mem r.s.h i||f i)=false:=by
    revert q;cases mem r.s.h i<;>cases f i<;>simp
   have w:(List.range a.length).all (λ(i:Nat)=>mem r.s.h i||f i)=false:=by
    rw [sK];exact ⟨i,aW.2 j,by rw [hb];simp⟩
   exact wv (h:=v _ _ (by simp [go_sem,w]))
  .have hb:(mem r.s.h i||f i)=true:=by
    revert q;cases mem r.s.h i<;>cases f i<;>simp
   have n:(List.range (i+1)).all (λ(i:Nat)=>mem r.s.h i||f i)=true:=by rw [dO,oW,o];simpa using hb
   exact wp (h:=wx p (i+1) ⟨wg,wj,(by exact n)⟩)
 .have hI:i=a.length:=aD;rw [hI] at o;exact wv (h:=v _ _ (by simp [go_sem,o]))
def creN (t:Types)(r:Rule):V2:=if ruleF t r=0 then r.N else []
def creE (t:Types)(r:Rule):V2:=if ruleF t r=0 then r.aa else []
theorem Up {t:Types}{r:Rule}(h:ruleF t r=0):(dA t).2=0/\(graphF r.left.i=0/\fV t r.left.i=true)/\(graphF r.right.i=0/\fV t r.right.i=true):=by
 unfold ruleF at h;split at h
 .rename_i h1;exact absurd h h1
 .rename_i h1;split at h
  .cases h
  .split at h
   .rename_i h2;exact absurd h h2
   .rename_i h2;split at h
    .rename_i h3;exact absurd h h3
    .rename_i h3;refine ⟨aD,?_,AJ aD⟩;have a:c8 t r.left=0:=aD;unfold c8 at a;rw [if_neg h1] at a;split at a
     .rename_i h4;exact absurd a h4
     .rename_i h4;split at a
      .cases a
      .rename_i h5;exact ⟨aD,by simpa using h5⟩
theorem Jp (t:Types)(c:t.ok)(r:Rule)(e:r.ok):Pua 92 [t.d,r.d] (.tup [dLI (creN t r),dLI (creE t r),dI (ruleF t r)]):=by
 refine Tz.p0 func92 rfl λQ b Y=>?_;refine wv (h:=aB (z6 t c r e) wl ?_);refine dR (λa=>?_) λa=>?_
 .have Y:=xa2 Y a @creN.eq_1 @creE.eq_1;exact wv (h:=b _ _ wy)
 .have hg:=Up a;have f:=bI hg.2.2.1;refine wv (h:=aB (vX r aD aD) wl ?_);have Y:=xa2 Y a @creN.eq_1 @creE.eq_1;exact wv (h:=b _ _ wy)
theorem NR (t:Types)(ht:t.ok)(r:Rule)(M:r.ok)(h0:ruleF t r=0)(h:Host)(N:HostOk t h)(m:Part)(hl:m.h.length=r.right.i.h.length)(hr:∀ x∈m.h,0<=x/\x<h.i.h.length)(hs:m.h.length<=1000) :
  Pua 43 [t.d,r.d,h.d,m.d] (.bool (rG t r h m)):=by
 have cC:=Jp t ht r M;rw [show creN t r=r.N by unfold creN;rw [if_pos h0]] at cC;obtain ⟨C,J⟩:∃ x,x=r.N:=⟨_,rfl⟩;obtain ⟨C2,I⟩:∃ x,x=creE t r:=⟨_,rfl⟩;obtain ⟨ce,D⟩:∃ x,x=ruleF t r:=⟨_,rfl⟩;have G:∀ c∈C,0<=c/\c<r.right.i.h.length:=λc hc=>by rw [J] at hc;exact (dV.1 hc).1
 have a4:C.length<=r.right.i.h.length:=by rw [J];exact lF _ _
 rw [<- J,<- I,<- D] at cC;have hB:rG t r h m=C.all (v7 t r h m):=by rw [J];rfl
 obtain ⟨f,S⟩:=c6 (v7 t r h m);have a0:=N.vl;have R:∀ (c:Int) (u:c.toNat<m.h.length) (y:c.toNat<r.right.i.h.length) (s:m.h[c.toNat].toNat<h.i.h.length) (q:m.h[c.toNat].toNat<h.k.length),
   f c=(decide (h.i.h[m.h[c.toNat].toNat]=r.right.i.h[c.toNat])&&decide (h.k[m.h[c.toNat].toNat]=(bQ t r.right.i.h[c.toNat]).map λa=>a.ap)):=λc u y s q=>by
  rw [S];unfold v7 i4;have a1:iA m.h c=m.h[c.toNat]:=QR u;have a2:gN r.right.i c=r.right.i.h[c.toNat]:=by unfold gN;rw [aA y];rfl
  have a3:gN h.i m.h[c.toNat]=h.i.h[m.h[c.toNat].toNat]:=by unfold gN;rw [aA s];rfl
  rw [a1,a2,a3,aA q,Option.getD_some]
 rw [hB,<- S];clear hB J I D S;refine Tz.p0 func43 rfl λQ V _=>?_;have Y:=xa2 @Host.d.eq_1 @Host.c.eq_1 @Part.d.eq_1 @Part.c.eq_1;refine wv (h:=aB (cC) wl ?_);refine wv (h:=bC (λi e H=>(e 4=.adr t.c/\e 5=.adr r.c/\e 6=.adr h.c/\e 7=.adr m.c/\e 9=dLI C/\e 12=dI i)/\(i<=C.length)/\((C.take i).all f=true)) (λi=>C.length - i) 0 ⟨wg,wi,(by rfl)⟩ λI0 X i e H P=>?_);obtain ⟨E0,hi,U⟩:=P;have Y:=wa Y E0;refine mA (λw=>?_) λw=>?_
 .have hc:=G _ (aC w);have u:C[i].toNat<m.h.length:=aD;have y:C[i].toNat<r.right.i.h.length:=aD;have E:=hr _ (aC u);have s:m.h[C[i].toNat].toNat<h.i.h.length:=aD;have q:m.h[C[i].toNat].toNat<h.k.length:=aD;have b:=R C[i] u y s q;have l:=N.cm E.1 E.2;have hg:gN h.i m.h[C[i].toNat]=h.i.h[m.h[C[i].toNat].toNat]:=by unfold gN;rw [aA s];rfl
  rw [hg,aA q,Option.getD_some] at l;have F:=n5 N.vf r.right.i.h[C[i].toNat];obtain ⟨n,o⟩:∃ x,x=bQ t r.right.i.h[C[i].toNat]:=⟨_,rfl⟩;have hT:(C.take (i+1)).all f=((C.take i).all f&&f C[i]):=by rw [List.take_succ_eq_append_getElem w,oW];simp
  have hF:f C[i]=false->C.all f=false:=λK=>by rw [sK];exact ⟨C[i],aC w,by rw [K];simp⟩
  have L:h.i.h[m.h[C[i].toNat].toNat]=r.right.i.h[C[i].toNat]->h.k[m.h[C[i].toNat].toNat].length=n.length:=λe=>by rw [l,e,o]
  rw [<- o] at b F;have Y:=xa5 Y w (aA w) (aA u) (aA y) (aA s) (aA q);refine mA (λZ=>?_) λZ=>?_
  .have hx:=hF (by rw [b,decide_eq_false (bZ Z)];rfl);exact wv (h:=V _ _ (by simp [go_sem,hx]))
  .have hk:h.i.h[m.h[C[i].toNat].toNat]=r.right.i.h[C[i].toNat]:=by simpa using Z
   have k:=L hk;obtain ⟨v,hv⟩:∃ x,x=h.k[m.h[C[i].toNat].toNat]:=⟨_,rfl⟩;rw [<- hv] at k b;rw [hk] at b;refine wv (h:=aB ((by have hz:=pL t ht r.right.i.h[C[i].toNat];rw [<- o] at hz;exact hz)) wl ?_);refine wv (h:=bC (λj e H=>(e 4=.adr t.c/\e 5=.adr r.c/\e 6=.adr h.c/\e 7=.adr m.c/\e 9=dLI C/\e 12=dI i/\e 13=dI m.h[C[i].toNat]/\e 15=.list (n.map Attr.c)/\e 17=dI j)/\(j<=n.length)/\(∀ i (A:i<v.length) (z:i<n.length),i<j->v[i]=n[i].ap)) (λj=>n.length - j) 0 ⟨wg,wi,(by exact λi _ _ K=>absurd K aD)⟩ λI2 W j e H O=>?_);obtain ⟨E2,hj,B⟩:=O;have Y:=wa Y E2;refine mA (λg=>?_) λg=>?_
   .have hjv:j<v.length:=aD;have Y:=xa3 Y g (aA g) (Eq.symm hv) (aA hjv);refine mA (λp=>?_) λp=>?_
    .have hx:=hF (by rw [b,decide_eq_false (Ur hjv g (bZ p))];simp);exact wv (h:=V _ _ (by simp [go_sem,hx]))
    .have he3:∀ i (A:i<v.length) (z:i<n.length),i<j+1->v[i]=n[i].ap:=λi A z K=>by
      rcases bX i j with hc|hc
      .exact B i A z hc
      .have e:i=j:=aD;subst e;simpa using p
     exact wp (h:=wx W (j+1) ⟨wg,wj,(by exact he3)⟩)
   .have hE:=Us k (λi A z=>B i A z aD);have T:(C.take (i+1)).all f=true:=by rw [hT,U,b,<- hE];simp
    exact wp (h:=wx X (i+1) ⟨wg,wj,(by exact T)⟩)
 .have he4:C.all f=true:=by rw [aG aD] at U;exact U
  exact wv (h:=V _ _ (by simp [go_sem,he4]))
end Go.Abs
end
