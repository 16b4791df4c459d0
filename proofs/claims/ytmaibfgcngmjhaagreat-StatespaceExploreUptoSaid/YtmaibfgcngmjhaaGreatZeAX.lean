/- Plain law: the type graphs, patterns, rules and hosts of dra -/
import Derived.Test.YtmaibfgcngmjhaaGreatZeAW
import Derived.Test.YtmaibfgcngmjhaaGreatZeAT
import Derived.Test.YtmaibfgcngmjhaaGreatZeAU
import Derived.Test.YtmaibfgcngmjhaaGreatZeAG
set_option linter.unusedVariables false
set_option linter.unusedSimpArgs false
section
set_option maxRecDepth 100000
set_option maxHeartbeats 4000000
open Go Go.Proofs Tryz
namespace Go.Abs
/-! ### type graphs -/
structure MadeTy (t:Types):Prop where
 v:(cW t).2=0
 ds:t.ds
 ne:t.j.length<=5
 nn:t.i.length<=6
structure SlotIn (t:Types) (ns:Xa0) (v:Int) (s:Slot):Prop where
 n0:0<=s.node
 n1:s.node<ns.length
 a0:0<=s.Q
 a1:s.Q<(bZ t (ns[s.node.toNat]?.getD 0)).length
 v0 : -1<=s.E.var
 v1:s.E.var<v
 d0 : -1000000<=s.E.add
 d1:s.E.add<=1000000
theorem SlotIn.mono {t:Types}{ns:Xa0}{v w:Int}{s:Slot}(h:SlotIn t ns v s)(hv:v<=w):SlotIn t ns w s:=⟨h.n0,h.n1,h.a0,h.a1,h.v0,by have:=h.v1;omega,h.d0,h.d1⟩
def NK (t:Types)(d:Dr24):Part:=⟨(Te (W9 t d).i.length d.order).take (aaK t d).i.length,(Te (W9 t d).j.length d.order).take (aaK t d).j.length⟩
structure Core24 (t:Types) (d:Dr24):Prop where
 g0:graphF (Bg t d.left.o)=0
 t0:iB t (Bg t d.left.o)=true
 gR:graphF (RH t d)=0
 tR:iB t (RH t d)=true
 sub:subF (Bg t d.left.o) (NJ t d)=0
 mor:fD (dF (Bg t d.left.o) (NJ t d)) (RH t d) (NK t d)=0
 inj:Jh (dF (Bg t d.left.o) (NJ t d)) (RH t d) (NK t d)=true
 d3:Bf t (RH t d) (dC (NK t d).i (RH t d).i.length) (dC (NK t d).j (RH t d).j.length)=true
theorem ND {t:Types}{p:Pattern}{h:Host}(j:(cW t).2=0)(k:c7 t p=0)(c:graphF p.o=0)(d:iB t p.o=true)(hh:dH t h=0)(b:Bool):(eO t p h b).2=0\/(eO t p h b).2=3:=by
 have H:=rW hh;have e:iB t h.o=true:=Un (λa m=>by
  obtain ⟨i,f,rfl⟩:=aM m;have:=H.nd i f (by rw [H.vl];exact f);refine bE λo=>?_;unfold iW at this;rw [if_pos bL] at this;cases this) λx g=>(H.ed x g).1
 have l:eZ t p.o h.o=0:=by
  unfold eZ;rw [if_neg (by rw [j];simp),if_neg (by rw [c];simp),if_neg (by rw [H.gg];simp),rM c,rM H.gg,d,e];rfl
 unfold eO;rw [if_neg (by rw [k];simp),if_neg (by rw [hh];simp)];have n:(lD t p.o h.o b).2=0\/(lD t p.o h.o b).2=3:=by
  unfold lD FB;rw [if_neg (by rw [l];simp)];split
  .exact .inr rfl
  .exact .inl rfl
 rcases n with h0|h0
 .rw [if_neg (by rw [h0];simp)];exact .inl rfl
 .rw [if_pos (by rw [h0];decide)];exact .inr h0
theorem YF {t:Types}{r:Rule}(h:ruleF t r=0):c7 t r.left=0:=by
 unfold ruleF at h;refine bE λa=>?_;split at h
 .contradiction
 .split at h
  .exact absurd h (by decide)
  .first|exact a h|(rw [if_pos a] at h;exact a h)
theorem Vf {t:Types}{r:Rule}{h:Host}(c:r.ok)(a:ruleF t r=0)(hh:dH t h=0):(iS t r h).2=0\/(iS t r h).2=3:=by
 have R:=Ti c a;have b:=R.vf;have d:fU t r h=0:=by unfold fU;rw [if_neg (by rw [a];simp),hh]
 unfold iS;rw [if_neg (by rw [d];simp)];rcases ND b (YF a) R.pl.gg R.pl.ty hh r.inj with h0|h0
 .rw [if_neg (by rw [h0];simp)];exact .inl rfl
 .rw [if_pos (by rw [h0];decide)];exact .inr h0
def vN (h:Host)(n:Int):Xa0:=h.values[n.toNat]?.getD []
def oU (l:Xa0):Xa0:=(l.length:Int) :: l
def IM (g:Graph)(l:Xa0)(k:Int):Yb:=(l.flatMap λj=>[gJ g j k,gJ g k j])++[gJ g k k]
def jA (h:Host)(l:Xa0)(k:Int):Xa0:=gN h.o k :: (vN h k++(IM h.o l k).flatMap oU)
def X4 (h:Host)(k i w:Nat):Bool:=decide (w=k)||(decide (w=i)||(decide (gJ h.o k w=gJ h.o i w)&&decide (gJ h.o w k=gJ h.o w i)))
def CK (h:Host)(k i:Nat):Bool :=
 decide (gN h.o k=gN h.o i)&&(decide (vN h k=vN h i)&&(decide (gJ h.o k i=gJ h.o i k)&&(decide (gJ h.o k k=gJ h.o i i) &&
  (List.range h.o.i.length).all (X4 h k i))))
theorem TG:∀ {ps qs:Yb},ps.length=qs.length->ps.flatMap oU <+: qs.flatMap oU->ps=qs
 | [],[],_,_=>rfl
 | [],_ :: _,h,_=>by cases h
 | _ :: _,[],h,_=>by cases h
 | p :: ps,q :: qs,h,hp=>by
  rw [iO,iO] at hp;unfold oU at hp;rw [eV,eV,List.cons_prefix_cons] at hp;obtain ⟨t,ht⟩:=hp.2;rw [List.append_assoc] at ht;obtain ⟨e1,e2⟩:=List.append_inj ht (by have:=hp.1;omega);rw [e1,TG (cG h) ⟨t,e2⟩]
theorem IL (g:Graph)(l:Xa0)(k:Int):(IM g l k).length=2 * l.length+1:=by
 unfold IM;rw [aO,List.length_flatMap];induction l with
 | nil=>rfl
 | cons a l ih=>simp at ih ⊢;omega
theorem Yf {h:Host}(f:∀ x y:Int,0<=x/\x<h.o.i.length->0<=y/\y<h.o.i.length->gN h.o x=gN h.o y->(vN h x).length=(vN h y).length)
  {l m:Xa0} {x y:Int} (e:0<=x/\x<h.o.i.length) (d:0<=y/\y<h.o.i.length) (g:l.length=m.length) (a:jA h l x <+: jA h m y):jA h l x=jA h m y:=by
 unfold jA at a ⊢;rw [List.cons_prefix_cons] at a;obtain ⟨c,t,b⟩:=a;rw [List.append_assoc] at b;obtain ⟨j,i⟩:=List.append_inj b (f x y e d c);rw [c,j,TG (by rw [IL,IL,g]) ⟨t,i⟩]
theorem ZW {h:Host}{k i:Nat}(B:k<i)(C:i<h.o.i.length)(g:CK h k i=true)(l:Xa0)(x:Int)(o:∀ y∈l,0<=y/\y<(h.o.i.length:Int))(f:0<=x/\x<(h.o.i.length:Int)) :
  jA h (l.map (F1 k i)) (F1 k i x)=jA h l x:=by
 unfold CK X4 at g;simp only [aR,decide_eq_true_eq,cF,bN,cX] at g;obtain ⟨m,j,A,z,r⟩:=g;have d:∀ w:Int,0<=w/\w<(h.o.i.length:Int)->w≠k->w≠i->gJ h.o k w=gJ h.o i w/\gJ h.o w k=gJ h.o w i:=λw d E D=>by
  have e:((w.toNat:Nat):Int)=w:=bL;rcases r w.toNat bL with h|h|h
  .omega
  .omega
  .rw [e] at h;exact h
 have c:∀ a b:Int,0<=a/\a<(h.o.i.length:Int)->0<=b/\b<(h.o.i.length:Int)->gJ h.o (F1 k i a) (F1 k i b)=gJ h.o a b:=λa b q c=>by
  by_cases v:a=k<;>by_cases u:a=i<;>by_cases t:b=k<;>by_cases s:b=i <;>
   first
   | omega
   | (simp only [F1,v,u,t,s,if_true,if_false];first|done|rfl|(split<;>first|omega|(simp_all;done)|(have:=d a q;have:=d b c;simp_all))|(have:=d a q;have:=d b c;simp_all))
 have p:gN h.o (F1 k i x)=gN h.o x/\vN h (F1 k i x)=vN h x:=by
  unfold F1;split
  .rename_i e;rw [e];exact ⟨m.symm,j.symm⟩
  .split
   .rename_i e;rw [e];exact ⟨m,j⟩
   .exact ⟨rfl,rfl⟩
 unfold jA;rw [p.1,p.2];congr 3;unfold IM;rw [c x x f f,List.flatMap_map];congr 1;rw [Lb,Lb];congr 1;refine bY λy n=>?_;show [gJ h.o (F1 k i y) (F1 k i x),gJ h.o (F1 k i x) (F1 k i y)]=_;rw [c y x (o y n) f,c x y f (o y n)]
theorem ZX {h:Host}(hv:∀ x y:Int,0<=x/\x<h.o.i.length->0<=y/\y<h.o.i.length->gN h.o x=gN h.o y->(vN h x).length=(vN h y).length):SegOk h.o.i.length (CK h) (jA h) :=
 ⟨λl m x y _ _ hx hy hl hp=>Yf hv hx hy hl hp,λk i hk hi ht l x hl hx=>ZW hk hi ht l x hl hx⟩
theorem NP {l m:Xa0}(h:l.length=m.length)(k:∀ i:Nat,i<l.length->iA l i=iA m i):l=m:=gF h λi h1 h2=>by
 have:=k i h1;rwa [jU h1,jU h2] at this
theorem oD {l:Xa0}{a m b:Nat}(h1:a<=m)(h2:m<=b):(iU l a m b).length=l.length:=(Lw h1 h2).length_eq
def X9 (l:Xa0)(p q:Nat):Xa0:=(l.set p (iA l q)).set q (iA l p)
theorem Rm {l:Xa0}{p q:Nat}(d:p<l.length)(c:q<l.length)(i:Nat):iA (X9 l p q) i=if i=q then iA l p else if i=p then iA l q else iA l i:=by
 unfold X9 iA;simp only [Int.toNat_natCast,cT,iZ];by_cases b:q=i
 .subst b;simp [c]
 .rw [if_neg b,if_neg (Ne.symm b)];by_cases a:p=i
  .subst a;simp [d]
  .rw [if_neg a,if_neg (Ne.symm a)]
theorem Dj (l:Xa0)(p q:Nat):(X9 l p q).length=l.length:=by simp [X9]
theorem O5 {l:Xa0}{j i:Nat}(e:0<j)(a:j<=i)(f:i<l.length):X9 (iU l j i (i+1)) j (j - 1)=iU l (j - 1) i (i+1):=by
 have b:=oD (l:=l) a (cC i 1);have d:=oD (l:=l) (bL:j - 1<=i) (cC i 1);refine NP (by rw [Dj,b,d]) λp c=>?_;rw [Dj,b] at c;rw [Rm bL bL,kC a (cC i 1) bL,kC a (cC i 1) bL,kC a (cC i 1) bL,kC (bL:j - 1<=i) (cC i 1) bL]
 repeat' split
 all_goals first|(exfalso;omega)|(congr 1;omega)|rfl
theorem Z2 {l:Xa0}{a k:Nat}(f:a<=k)(e:k+1<l.length):X9 (iU l a (a+1) (k+1)) k (k+1)=iU l a (a+1) (k+2):=by
 have b:=oD (l:=l) (cC a 1) (bL:a+1<=k+1);have d:=oD (l:=l) (cC a 1) (bL:a+1<=k+2);refine NP (by rw [Dj,b,d]) λp c=>?_;rw [Dj,b] at c;rw [Rm bL bL,kC (cC a 1) (bL:a+1<=k+1) bL,kC (cC a 1) (bL:a+1<=k+1) bL,kC (cC a 1) (bL:a+1<=k+1) bL,kC (cC a 1) (bL:a+1<=k+2) bL]
 repeat' split
 all_goals first|(exfalso;omega)|(congr 1;omega)|rfl
theorem sM {l:Xa0}{a b:Nat}(h:a<=b):iU l a a b=l/\iU l a b b=l:=by
 have c:∀ {p q:Nat},p<=q->l.take q=l.take p++(l.take q).drop p:=λ {p q} h=>by
  conv=>lhs;rw [<- List.take_append_drop p (l.take q),List.take_take,xR h]
 have e:∀ k,(l.take k).drop k=[]:=λk=>List.drop_eq_nil_iff.2 et;unfold iU;rw [e,e,fT,fT,<- List.append_assoc,<- c h,List.take_append_drop];exact ⟨rfl,rfl⟩
def Ov (l:Xa0)(a b:Nat):Nat->Xa0
 | 0=>l
 | n+1=>X9 (Ov l a b n) (a+n) (b+n)
theorem ES {l:Xa0}{a b:Nat}:∀ {n:Nat},a+n<=b->b+n<=l.length->(Ov l a b n).length=l.length /\
  ∀ p:Nat,iA (Ov l a b n) p=if a<=p/\p<a+n then iA l ((p - a+b:Nat):Int) else if b<=p/\p<b+n then iA l ((p - b+a:Nat):Int) else iA l p
 | 0,_,_=>⟨rfl,λp=>by rw [if_neg bL,if_neg bL];rfl⟩
 | n+1,h1,h2=>by
  obtain ⟨l1,l2⟩:=ES (l:=l) (a:=a) (b:=b) (n:=n) bL bL;refine ⟨by rw [Ov,Dj,l1],λp=>?_⟩;rw [Ov,Rm bL bL,l2,l2,l2]
  repeat' split
  all_goals first|(exfalso;omega)|(congr 1;omega)|rfl
theorem Yn {l:Xa0}{p m j:Nat}(b:p+j<=m)(f:m+j<=l.length):iU (Ov l p m j) (p+j) m (m+j)=iU l p m (m+j):=by
 obtain ⟨c,a⟩:=ES (l:=l) b f;have d:=oD (l:=Ov l p m j) b (cC m j);have g:=oD (l:=l) (bL:p<=m) (cC m j);refine NP (by rw [d,g,c]) λq e=>?_;rw [d,c] at e;rw [kC b (cC m j) bL,kC (bL:p<=m) (cC m j) bL,a,a,a]
 repeat' split
 all_goals first|(exfalso;omega)|(congr 1;omega)|rfl
theorem Lv {l:Xa0}{p m i j:Nat}(h:p+i=m)(o:i<=j)(k:m+j<=l.length):iU (Ov l p (m+j - i) i) p m (m+j - i)=iU l p m (m+j):=by
 obtain ⟨d,c⟩:=ES (l:=l) (a:=p) (b:=m+j - i) (n:=i) bL bL;have e:=oD (l:=Ov l p (m+j - i) i) (bL:p<=m) (bL:m<=m+j - i);have g:=oD (l:=l) (bL:p<=m) (cC m j);refine NP (by rw [e,g,d]) λq f=>?_;rw [e,d] at f;rw [kC (bL:p<=m) (bL:m<=m+j - i) bL,kC (bL:p<=m) (cC m j) bL,c,c,c]
 repeat' split
 all_goals first|(exfalso;omega)|(congr 1;omega)|rfl
theorem Wn {l:Xa0}{p m i:Nat}(a:p+i=m)(b:m+i<=l.length):Ov l p m i=iU l p m (m+i):=by
 have:=Lv (l:=l) a (aT i) b;rw [Nat.add_sub_cancel] at this;rw [<- this,(sM (bL:p<=m)).2]
theorem WX {f:Int->Xa0}{l:Xa0}{a s m:Nat}(t:l.Nodup)(x:a<=s)(u:s<=m)(w:m<l.length)(S:Srtd f l a m)(g:∀ p:Nat,a<=p->p<m->iA l p<iA l m)
  (r:a<s->¬ cJ (f (iA l m)) (f (iA l ((s - 1:Nat):Int)))<0) (q:s<m->cJ (f (iA l m)) (f (iA l s))<0):Rng l (iU l s m (m+1)) a (m+1)/\Srtd f (iU l s m (m+1)) a (m+1):=by
 have C:Cut f l a m (m+1) s (m+1):=⟨t,bL,S,λi j b c d=>by omega,λi j b c d v=>by
  have:j=m:=bL;subst this;exact g i b c,λ_ h=>by omega,λh _=>by rw [Nat.add_sub_cancel];exact q h⟩
 have at_:=kC u (cC m 1) (bL:m+1<=l.length);have e:=C.right.1;rw [xS] at e;have D:=C.done (k:=iU l s m (m+1)) (n:=iU l s m (m+1)) (Rng.refl _ _ _) (by
  rw [xS];intro i j b c d;rw [at_,if_pos bL,at_];by_cases o:j<s
  .rw [if_pos o];exact S i j b c bL
  .rw [if_neg o,if_pos bL,(bL:m+(j - s)=m)];exact Jd (S.le (j:=s - 1) b bL bL) (Fo (r bL) (g _ bL bL))) (Rng.refl _ _ _) (by rw [xS];exact e)
 exact D
theorem aaP {f:Int->Xa0}{l:Xa0}{a e b:Nat}(s:l.Nodup)(n:a+1<=e)(v:e<=b)(u:b<=l.length)(S:Srtd f l (a+1) b)(k:∀ p:Nat,a<p->p<b->iA l a<iA l p)
  (r:e<b->¬ cJ (f (iA l e)) (f (iA l a))<0) (q:a+1<e->cJ (f (iA l ((e - 1:Nat):Int))) (f (iA l a))<0):Rng l (iU l a (a+1) e) a b/\Srtd f (iU l a (a+1) e) a b:=by
 have C:Cut f l a (a+1) b a e:=⟨s,bL,λi j g d c=>by omega,S,λi j g d c o=>by
  have:i=a:=bL;subst this;exact k j bL o,λh=>by omega,λ_ h=>q h⟩
 have at_:=kC (cC a 1) n (bL:e<=l.length);refine C.flat (.inl rfl) λi j g d c=>?_;have t:iA (iU l a (a+1) e) j=iA l j:=by rw [at_,if_neg bL,if_neg bL,if_neg bL]
 rw [t,at_,if_neg bL,if_neg bL];by_cases m:i<e
 .rw [if_pos m,show i - (e - (a+1))=a by omega];exact Fp (Fo (r bL) (k _ bL bL)) (S.le n bL c)
 .rw [if_neg m];exact S i j bL d c
theorem Hv {l:Xa0}{p q:Nat}(b:p<l.length)(a:q<l.length):((l.map cI).set p (cI l[q])).set q (cI l[p])=(X9 l p q).map cI:=by
 unfold X9;rw [c8,c8,jU b,jU a]
def CmpBy (g:FuncId)(caps:Xa2)(f:Int->Xa0)(l:Xa0):Prop:=∀ x∈l,∀ y∈l,∃ c,Pure prog g (dI x :: dI y :: caps) (dI c)/\(c<0↔cJ (f x) (f y)<0)
theorem CmpBy.a8 {g:FuncId}{caps:Xa2}{f:Int->Xa0}{l m:Xa0}(h:CmpBy g caps f l)(k:m.Perm l):CmpBy g caps f m:=λx hx y hy=>h x (k.mem_iff.1 hx) y (k.mem_iff.1 hy)
theorem w8 (G:AHeap)(id:Nat)(xs:Xa0)(c:G.get id=some ⟨3,1,xs.map cI,false⟩)(Y:xs.length<=100000)(g:FuncId)(x:Xa2)(a b n:Nat)(p:a+n<=b)(h2:b+n<=xs.length){N:Nat}{A B C:Int}(U:N=xs.length)(X:A=a)(W:B=b)(V:C=n)(Q:D->AHeap->Prop)
  (T:∀ H',H'.get id=some ⟨3,1,(Ov xs a b n).map cI,false⟩->(∀ j,j≠id->H'.get j=G.get j)->G.next<=H'.next->Q (.tup []) H'):ACalls prog 357 [.own id N,dI A,dI B,dI C,.fn g x] G Q:=by
 subst U X W V;refine (Tz.c0 func357 rfl ?_);try simp [go_sem,seval,c]
 obtain ⟨S,o⟩:∃ S:Nat->dO->AHeap->Prop,∀ (i:Nat) (e:dO) (H:AHeap),S i e H↔((e 0=.own id xs.length)/\(e 1=dI a)/\(e 2=dI b)/\(e 3=dI n)/\(e 10=dI i)/\(i<=n)/\(H.get id=some ⟨3,1,(Ov xs a b i).map cI,false⟩)/\(∀ j,j≠id->H.get j=G.get j)/\(G.next<=H.next)):=⟨λi e H=>_,λ_ _ _=>Iff.rfl⟩;refine tI S (λi=>n - i) (0) ((o _ _ _).2 ⟨?_,?_,?_,?_,?_,(by first|assumption|omega|(simp [go_sem,c];done)|(simp_all;done)),(by exact c),(by exact λ_ _=>rfl),(by exact aT _)⟩) ?_;iterate 5 (first|omega|(simp [go_sem,seval,c]<;>omega))
 intro i e H O;obtain ⟨u,t,s,r,f,Z,d,w,L⟩:=(o _ _ _).1 O;have y:=xa3 u t s r f;try simp [go_sem,seval,c,y,d]
 refine aU (λp=>?_) (λp=>?_)
 .try simp [go_sem] at p
  obtain ⟨q,J⟩:=cY (Ov xs a b i);have k:q.length=xs.length:=by rw [J];exact (ES bL bL).1
  rw [<- J] at d;have E:a+i<q.length:=bL;have z:b+i<q.length:=bL;have K:((q.map cI).set (a+i) (cI q[b+i])).set (b+i) (cI q[a+i])=(Ov xs a b (i+1)).map cI:=by rw [Ov,<- J];exact Hv E z
  have R:((a:Int)+i).toNat=a+i:=bL;have P:((b:Int)+i).toNat=b+i:=bL;have I:(0:Int)<=(a:Int)+i/\(a:Int)+i<xs.length:=bL;have F:(0:Int)<=(b:Int)+i/\(b:Int)+i<xs.length:=bL;have m:¬ a=b:=bL;have h:∀ (l:Xa1) (i j:Nat) (a:Xa2),(l.set i a)[j]?=if i=j then if i<l.length then some a else none else l[j]?:=λ_ _ _ _=>cT
  try simp [go_sem,seval,c,y,d,p,R,P,I,F,aA E,aA z,k,h,m]
  repeat first|intro _|refine ⟨iV,?_⟩
  refine gU (i+1) bL ((o _ _ _).2 ⟨?_,?_,?_,?_,?_,(by first|assumption|omega|(simp [go_sem,c,y,d,p,R,P,I,F,aA E,aA z,k,h,m];done)|(simp_all<;>omega)),(by simp [go_sem,d];exact K),(by intro j v;simp [go_sem,v,w j v]),eq⟩)<;>first|omega|(simp [go_sem,seval,c,y,d,p,R,P,I,F,aA E,aA z,k,h,m]<;>omega)
 .try simp [go_sem] at p
  have M:i=n:=bL;subst M;try simp [go_sem,seval,c,y,d]
  exact T _ d w L
theorem Ip (G:AHeap)(id:Nat)(xs:Xa0)(T:G.get id=some ⟨3,1,xs.map cI,false⟩)(hl:xs.length<=100000)(g:FuncId)(k:Xa2)(a m b:Nat)(h1:a<m)(P:m<b)(V:b<=xs.length){N:Nat}{A M B:Int}(eN:N=xs.length)(eA:A=a)(eM:M=m)(eB:B=b)(Q:D->AHeap->Prop)
  (hQ:∀ H',H'.get id=some ⟨3,1,(iU xs a m b).map cI,false⟩->(∀ j,j≠id->H'.get j=G.get j)->G.next<=H'.next->Q (.tup []) H'):ACalls prog 309 [.own id N,dI A,dI M,dI B,.fn g k] G Q:=by
 subst eN eA eM eB;have Z:(m:Int) - a=((m - a:Nat):Int):=bL;have X:(b:Int) - m=((b - m:Nat):Int):=bL;have L:iU xs (m - (m - a)) m (m+(b - m))=iU xs a m b:=by rw [(bL:m - (m - a)=a),(bL:m+(b - m)=b)]
 refine (Tz.c0 func309 rfl ?_);have Y:=xa1 T Z X;refine wo (h:=bA (λc e H=>∃ i:Nat,∃ j:Nat,∃ o:Xa0,(e 1=dI a/\e 3=dI b/\e 0=.own id xs.length/\e 2=dI m/\e 4=.fn g k/\e 10=dI i/\e 11=dI j)/\(c=i+j)/\(0<i/\i<=m)/\(0<j/\m+j<=xs.length)/\(o.length=xs.length)/\(iU o (m - i) m (m+j)=iU xs a m b)/\(H.get id=some ⟨3,1,o.map cI,false⟩)/\(∀ j,j≠id->H.get j=G.get j)/\(G.next<=H.next)) (λc=>c) ((m - a)+(b - m)) ⟨(m - a),(b - m),xs,wg,(by rfl),bL,bL,(by rfl),(by exact L),(by exact T),(by exact λ_ _=>rfl),(by exact aT _)⟩ λI0 I c e H K=>?_);obtain ⟨i,j,o,E0,hc,hi,hj,F,O,J,r,a0⟩:=K;have Y:=xa1 Y E0 J;refine dD (λP=>?_) λP=>?_
 .have Y:=wa Y P;refine dD (λV=>?_) λV=>?_
  .obtain ⟨t,w⟩:∃ x,x=i - j:=⟨_,rfl⟩;obtain ⟨s,v⟩:∃ x,x=j:=⟨_,rfl⟩;obtain ⟨u,f⟩:∃ x,x=Ov o (m - i) m j:=⟨_,rfl⟩;have q:u.length=xs.length:=by rw [f,(ES (l:=o) (a:=m - i) (b:=m) (n:=j) bL bL).1,F]
   have y:iU u (m - t) m (m+s)=iU xs a m b:=by
    have:=Yn (l:=o) (p:=m - i) (m:=m) (j:=j) bL bL;rw [f,v,(bL:m - t=m - i+j),this];exact O
   have R:(i:Int) - j=(t:Int):=bL;have Y:=xa2 Y (Eq.symm f) R v;refine wo (h:=?_);unfold dQ;refine w8 (N:=xs.length) (A:=(m:Int) - i) (B:=(m:Int)) (C:=(j:Int)) _ _ o J bL g k (m - i) m j bL bL bL bL rfl rfl _ λW z E S=>?_;exact wo (h:=wx I (t+s) ⟨t,s,u,wg,(by rfl),bL,bL,(by exact q),(by exact y),(by rw [f];first|exact z|(simp [go_sem];exact z)),(by intro j d;first|exact (E j d).trans (r j d)|(simp [go_sem];exact (E j d).trans (r j d))),(by first|omega|(simp [go_sem];omega))⟩)
  .obtain ⟨t,w⟩:∃ x,x=i:=⟨_,rfl⟩;obtain ⟨s,v⟩:∃ x,x=j - i:=⟨_,rfl⟩;obtain ⟨u,f⟩:∃ x,x=Ov o (m - i) (m+j - i) i:=⟨_,rfl⟩;have a1:i<j:=bL;have q:u.length=xs.length:=by rw [f,(ES (l:=o) (a:=m - i) (b:=m+j - i) (n:=i) bL bL).1,F]
   have y:iU u (m - t) m (m+s)=iU xs a m b:=by
    have:=Lv (l:=o) (p:=m - i) (m:=m) (i:=i) (j:=j) bL bL bL;rw [f,w,(bL:m+s=m+j - i),this];exact O
   have R:(j:Int) - i=(s:Int):=bL;have Y:=xa2 Y (Eq.symm f) R w;refine wo (h:=?_);unfold dQ;refine w8 (N:=xs.length) (A:=(m:Int) - i) (B:=(m:Int)+j - i) (C:=(i:Int)) _ _ o J bL g k (m - i) (m+j - i) i bL bL bL bL bL rfl _ λW z E S=>?_;exact wo (h:=wx I (t+s) ⟨t,s,u,wg,(by rfl),bL,bL,(by exact q),(by exact y),(by rw [f];first|exact z|(simp [go_sem];exact z)),(by intro j d;first|exact (E j d).trans (r j d)|(simp [go_sem];exact (E j d).trans (r j d))),(by first|omega|(simp [go_sem];omega))⟩)
 .have hij:i=j:=bL;have U:Ov o (m - i) m i=iU xs a m b:=by rw [Wn bL bL,<- O,hij]
  have Y:=wa Y U;refine wo (h:=?_);unfold dQ;refine w8 (N:=xs.length) (A:=(m:Int) - i) (B:=(m:Int)) (C:=(i:Int)) _ _ o J bL g k (m - i) m i bL bL bL bL rfl rfl _ λW z E S=>?_;refine wo (h:=?_);exact hQ _ (by rw [<- U];exact z) (λj d=>(E j d).trans (r j d)) bL
def Asc (l:Xa0)(a b:Nat):Prop:=∀ i j:Nat,a<=i->i<j->j<b->iA l i<iA l j
theorem Rng.am {xs ys:Xa0}{a i b:Nat}(hn:xs.Nodup)(hA:Asc xs a b)(R:Rng xs ys a i)(hb:b<=xs.length)(hi:i<b):∀ p:Nat,a<=p->p<i->iA ys p<iA ys i:=λp p1 p2=>by
 obtain ⟨q,hq,e⟩:=R.from hn bL p1 p2;rw [e,R.2 i bL];exact hA q i hq.1 hq.2 hi
theorem Cw (G:AHeap)(id:Nat)(xs:Xa0)(O:G.get id=some ⟨3,1,xs.map cI,false⟩)(hl:xs.length<=100000)(hn:xs.Nodup)(g:FuncId)(d:Xa2)(S:D.N d=true)(f:Int->Xa0)(cg:CmpBy g d f xs)(a b:Nat)(b2:a<=b)(hb:b<=xs.length)(hA:Asc xs a b)
  {N:Nat} {A B:Int} (eN:N=xs.length) (eA:A=a) (eB:B=b) (Q:D->AHeap->Prop)
  (hQ:∀ ys H',Rng xs ys a b->Srtd f ys a b->H'.get id=some ⟨3,1,ys.map cI,false⟩->(∀ j,j≠id->H'.get j=G.get j)->G.next<=H'.next->Q (.tup []) H'):ACalls prog 247 [.own id N,dI A,dI B,.fn g d] G Q:=by
 subst eN eA eB;refine (Tz.c0 func247 rfl ?_);have Y:=O;refine wo (h:=bA (λi e H=>∃ ys:Xa0,(e 0=.own id xs.length/\e 1=dI a/\e 2=dI b/\e 3=.fn g d/\e 8=dI i)/\(a+1<=i)/\(Rng xs ys a (min i b))/\(Srtd f ys a (min i b))/\(H.get id=some ⟨3,1,ys.map cI,false⟩)/\(∀ j,j≠id->H.get j=G.get j)/\(G.next<=H.next)) (λi=>b - i) (a+1) ⟨xs,wg,bL,(by exact Rng.refl _ _ _),(by exact λp q x u p3=>by omega),(by exact O),(by exact λ_ _=>rfl),(by exact aT _)⟩ λI0 b1 i e H a6=>?_);obtain ⟨ys,E0,hi,t,T,U,w,L⟩:=a6;have Y:=xa1 Y E0 U;refine dD (λE=>?_) λE=>?_
 .have hmin:min i b=i:=bL;rw [hmin] at t T;have a1:=t.len;have a0:ys.Nodup:=t.1.nodup_iff.2 hn;have a3:=t.am hn hA hb E;have cy:=cg.a8 t.1;have Y:=wa Y E;refine wv (h:=bA (λk e H=>(e 0=.own id xs.length/\e 1=dI a/\e 2=dI b/\e 3=.fn g d/\e 8=dI i/\e 9=dI k)/\(a<=k/\k<=i)/\(∀ p:Nat,k<=p->p<i->cJ (f (iA ys i)) (f (iA ys p))<0)/\(H.get id=some ⟨3,1,(iU ys k i (i+1)).map cI,false⟩)/\(∀ j,j≠id->H.get j=G.get j)/\(G.next<=H.next)) (λk=>k) i ⟨wg,bL,(by exact λp x u=>by omega),(by rw [(sM (Nat.le_succ i)).1];first|exact U|(simp [go_sem];exact U)),(by first|exact w|(intro j n;simp [go_sem];exact w j n)),(by first|exact L|(simp [go_sem];omega))⟩ λI2 b0 k e H a5=>?_);obtain ⟨E2,M,s,r,o,K⟩:=a5;obtain ⟨m,C⟩:∃ z,z=iU ys k i (i+1):=⟨_,rfl⟩;have Z:m.length=xs.length:=by rw [C,oD M.2 (cC i 1),a1]
  rw [<- C] at r;have x:k<m.length:=bL;have u:k - 1<m.length:=bL;have F:=kC M.2 (cC i 1) (bL:i+1<=ys.length);have V:m[k]=iA ys i:=by rw [<- jU x,C,F,if_neg bL,if_pos bL];congr 1;omega
  have R:a<k->m[k - 1]=iA ys ((k - 1:Nat):Int):=λh=>by rw [<- jU u,C,F,if_pos bL]
  obtain ⟨c0,a7,I⟩:∃ c0,(a<k->Pure prog g (dI m[k] :: dI m[k - 1] :: d) (dI c0))/\(a<k->(c0<0↔cJ (f m[k]) (f m[k - 1])<0)):=by
   obtain ⟨c,E,h2⟩:=cy m[k] (by rw [V,jU (bL:i<ys.length)];exact aC _) (iA ys ((k - 1:Nat):Int)) (by rw [jU (bL:k - 1<ys.length)];exact aC _);exact ⟨c,λh=>by rw [R h];exact E,λh=>by rw [R h];exact h2⟩
  have e1:((k:Int) - 1).toNat=k - 1:=bL;have Y:=xa7 Y E E2 r e1 (aA x) (aA u) Z S;refine wo (h:=b9 (λO=>(a7 (cG O))) (λO=>wl) ?_);refine dZ (λh4=>?_) λh4=>?_
  .have hak:a<k:=bL;have P:=(I hak).1 bL;rw [V,R hak] at P;have v:∀ p:Nat,k - 1<=p->p<i->cJ (f (iA ys i)) (f (iA ys p))<0:=λp x u=>by
    rcases bD p k with h|h
    .rw [(bL:p=k - 1)];exact P
    .exact s p h u
   have a2:((m.map cI).set k (cI m[k - 1])).set (k - 1) (cI m[k])=(iU ys (k - 1) i (i+1)).map cI:=by rw [Hv x u,C,O5 bL M.2 bL]
   have a4:¬ k=k - 1:=bL;have X:∀ (l:Xa1) (i j:Nat) (a:Xa2),(l.set i a)[j]?=if i=j then if i<l.length then some a else none else l[j]?:=λ_ _ _ _=>cT
   have Y:=xa2 Y h4 X a4;exact wo (h:=wx b0 (k - 1) ⟨wg,bL,(by exact v),(by simp [go_sem,r];exact a2),(by intro j n;simp [go_sem,n,o j n]),eq⟩)
  .have hst:a<k->¬ cJ (f (iA ys i)) (f (iA ys ((k - 1:Nat):Int)))<0:=λh S=>by
    rw [<- V,<- R h] at S;have:=(I h).2 S;omega
   obtain ⟨W,J⟩:∃ y,y=m:=⟨_,rfl⟩;obtain ⟨r1,r2⟩:=WX a0 M.1 M.2 bL T a3 hst (λh=>s k (aT k) h);rw [<- C,<- J] at r1 r2;have a9:Rng xs W a (min (i+1) b):=by rw [(bL:min (i+1) b=i+1)];exact (t.wide (aT a) (Nat.le_succ i)).trans r1
   have a8:Srtd f W a (min (i+1) b):=by rw [(bL:min (i+1) b=i+1)];exact r2
   exact wo (h:=wx b1 (i+1) ⟨W,wg,bL,(by exact a9),(by exact a8),(by rw [J];first|exact r|(simp [go_sem];exact r)),(by first|exact o|(intro j n;simp [go_sem];exact o j n)),(by first|exact K|(simp [go_sem];omega))⟩)
 .have hmin:min i b=b:=bL;rw [hmin] at t T;refine wv (h:=?_);exact hQ ys _ t T U w L
end Go.Abs
end
