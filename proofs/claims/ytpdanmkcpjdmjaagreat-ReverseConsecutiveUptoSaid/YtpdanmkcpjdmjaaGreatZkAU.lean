/- The step of the program: least, track, comatch, copies, matc -/
import Derived.Test.YtpdanmkcpjdmjaaGreatZkAF
import Derived.Test.YtpdanmkcpjdmjaaGreatZkAA
import Derived.Test.YtpdanmkcpjdmjaaGreatZkAT
import Derived.Test.YtpdanmkcpjdmjaaGreatZkAS
set_option linter.unusedVariables false
set_option linter.unusedSimpArgs false
section
set_option maxRecDepth 100000
set_option maxHeartbeats 4000000
open Go Go.Proofs Tryz
namespace Go.Abs
theorem Ba {l:W3}(b:l.Pairwise (· < ·))(v:Int):gG l l.length v=if mem l v=true then (pT l v:Int) else -1:=by
 by_cases h:mem l v=true
 .rw [if_pos h,<- Du b h];obtain ⟨p,d,e⟩:=aQ ((mem_iff l v).1 h);have c:=dD.1 b;rw [xF (i:=p) (λj k f=>by
   have a:j<l.length:=aD;rw [aA a] at f;have:=c j p a d k;simp at f;omega) (by rw [aA d,e]),<- e,qD (mL b) d]
 .rw [if_neg h,rF (λg=>h ((mem_iff _ _).2 g)) _ (aZ _)]
def Gc (d:W3)(n i:Nat):W3:=lY d i++List.replicate (n - i) 0
theorem Hc {d:W3}{n i:Nat}(h:i<=n):(Gc d n i).length=n:=by simp [Gc,lX];omega
theorem NX {d:W3}{n i:Nat}(h:i<n):(Gc d n i).set i (gG d d.length i)=Gc d n (i+1):=by
 unfold Gc;rw [mT _ _ (by rw [lX];omega),lX,uS,Jr,show n - i=(n - (i+1))+1 by omega,mF,wP,List.append_assoc];rfl
theorem Hj (n:Nat)(s:n<=1000000)(d:W3)(m:d.Pairwise (· < ·))(o:d.length<=1000000):Pua 110 [dI n,dLI d] (dLI (n4 d n)):=by
 refine Tz.p0 func110 rfl λQ q Y=>?_;refine wp (h:=aY (λi e H=>(e 1=dLI d/\e 5=.own 0 n/\e 12=dI n/\e 13=dI i)/\(H.get 0=some ⟨3,1,(Gc d n i).map cI,false⟩)/\(0<H.next)/\(i<=n)) (λi=>n - i) 0 ⟨wg,(by simp [go_sem,Gc,lY,cI]),wn,wi⟩ λu c i e H k=>?_);obtain ⟨r,g,b,t⟩:=k;have Y:=xa2 Y r g (bL b);refine dK (λf=>?_) λf=>?_
 .have hB:=Ba m (i:Int);have j:i<(Gc d n i).length:=by rw [Hc aD];exact f
  have a:(Gc d n i).length=n:=Hc aD;have Y:=xa2 Y f (aA j) a;refine wv (h:=aB (vT d i m o) wl ?_);refine i7 (λl=>?_) λl=>?_
  .rw [if_neg (eQ l)] at hB;have Y:=wa Y hB;exact wp (h:=wx c (i+1) ⟨wg,(by simp [go_sem,Y,<- NX f,b6,cI]),wn,wj⟩)
  .rw [if_pos (eQ l)] at hB;have Y:=wa Y hB;exact wp (h:=wx c (i+1) ⟨wg,(by simp [go_sem,Y,<- NX f,b6,cI]),wn,wj⟩)
 .have a:(Gc d n i).length=n:=Hc aD;have p:n4 d n=Gc d n i:=by unfold Gc n4;rw [(aD:i=n)];simp
  have Y:=wa Y a;exact wv (h:=q _ _ (by simp [go_sem,Y,p,dLI]))
/-! ### comatch -/
def Wd (keep into at_:W3)(n j:Nat):Int:=if 0<=gG into n j then at_[(keep[(gG into n j).toNat]?.getD 0).toNat]?.getD 0 else -1
def RL (keep into at_:W3)(count n:Nat):W3:=(List.range count).map (Wd keep into at_ n)
def Jm (keep into at_:W3)(count remain i:Nat):W3:=(List.range count).map λj=>if j<i then Jg keep into at_ remain j else Wd keep into at_ into.length j
theorem Xy (keep b at_:W3)(a n:Nat):(RL keep b at_ a n).length=a:=by simp [RL]
theorem Ni (keep c at_:W3)(a b i:Nat):(Jm keep c at_ a b i).length=a:=by simp [Jm]
theorem Wf (keep b at_:W3)(a:Nat):RL keep b at_ a 0=List.replicate a (-1):=by
 apply fW (by simp [RL]);intro i d c;simp [RL,Wd,gG]
theorem Wg (keep a at_:W3)(b n:Nat)(h:n<a.length)(f:0<=a[n]):RL keep a at_ b (n+1)=(RL keep a at_ b n).set a[n].toNat (at_[(keep[n]?.getD 0).toNat]?.getD 0):=by
 apply fW (by simp [RL]);intro i e d;rw [Bc];simp only [RL,pI,qL,Wd,rE,aA h,Option.getD_some];by_cases c:a[n]=(i:Int)
 .rw [if_pos c,if_pos aD,if_pos aD,Int.toNat_natCast]
 .rw [if_neg c,if_neg (aD:¬ a[n].toNat=i)]
theorem We (keep a at_:W3)(b c:Nat):Jm keep a at_ b c 0=RL keep a at_ b a.length:=by simp [Jm,RL]
theorem Xv (keep c at_:W3)(b a:Nat){i:Nat}(h:i<b):(Jm keep c at_ b a i).set i (Jg keep c at_ a i)=Jm keep c at_ b a (i+1):=by
 apply fW (by simp [Jm]);intro j g f;rw [Bc];simp only [Jm,pI,qL];by_cases d:i=j
 .subst d;rw [if_pos rfl,if_pos aD]
 .rw [if_neg d];by_cases e:j<i
  .rw [if_pos e,if_pos aD]
  .rw [if_neg e,if_neg aD]
theorem Xx (keep c at_:W3)(a b:Nat):Jm keep c at_ a b a=D5 keep c at_ a b:=by
 unfold Jm D5;exact bJ λj d=>by rw [if_pos (bA.1 d)]
theorem Xw (keep a at_:W3)(b c:Nat){i:Nat}(h:i<b):(Jm keep a at_ b c i)[i]?=some (Wd keep a at_ a.length i):=by
 simp [Jm,h]
theorem CF (b:Nat)(hc:b<=1000)(keep a c d:W3)(n:Nat)(hn:n<=1000)(hl:a.length<=keep.length)(L:∀ x∈a,0<=x/\x<b)(K:∀ x∈keep,0<=x/\x<c.length)(I:∀ x∈keep,0<=iA c x/\iA c x<d.length)
  (X:∀ x∈keep,0<=(pH c d)[x.toNat]?.getD 0):Pua 111 [dI b,dLI keep,dLI a,dLI c,dLI d,dI n] (dLI (D5 keep a (pH c d) b n)):=by
 refine Tz.pK ⟨λt=>t==19,λ_=>[]⟩ func111 rfl (λQ hQ=>?_);have Y:=trivial;refine wv (h:=lG (HJ (-1) b hc) wl ?_);refine wv (h:=?_);repeat first|intro _|refine ⟨gX,?_⟩
 refine aY (λi e H=>(e 1=dLI keep/\e 2=dLI a/\e 3=dLI c/\e 4=dLI d/\e 13=.own 0 b/\e 20=dLI a/\e 21=dI a.length/\e 22=dI i/\e 5=dI n)/\(H.get 0=some ⟨3,1,(RL keep a (pH c d) b i).map cI,false⟩)/\(0<H.next)/\(i<=a.length)) (λi=>a.length - i) 0 ⟨wg,(by simp [go_sem,Wf,cI]),wn,wi⟩ λI0 U i e H P=>?_;obtain ⟨E0,D,s,hi⟩:=P;have Y:=xa2 Y E0 D (bL s);refine dK (λA=>?_) λA=>?_
 .have hki:i<keep.length:=aD;have Z:=K _ (aC hki);have G:=I _ (aC hki);have o:keep[i].toNat<c.length:=aD;have N:iA c keep[i]=c[keep[i].toNat]:=by unfold iA;rw [aA o];rfl
  rw [N] at G;have w:(c[keep[i].toNat]).toNat<d.length:=aD;have M:=L _ (aC A);have f:(RL keep a (pH c d) b i).length=b:=Xy _ _ _ _ _;have T:a[i].toNat<(RL keep a (pH c d) b i).length:=aD;have W:(pH c d)[(keep[i]?.getD 0).toNat]?.getD 0=d[(c[keep[i].toNat]).toNat]:=by
   rw [aA hki,Option.getD_some];unfold pH;rw [aM,aA o,dM,Option.getD_some,aA w,Option.getD_some]
  have u:=Wg keep a (pH c d) b i A M.1;rw [W] at u;have Y:=xa6 Y A (aA A) (aA hki) (aA o) (aA w) (aA T) f;refine wv (h:=?_);repeat first|intro _|refine ⟨gX,?_⟩
  exact wx U (i+1) ⟨wg,(by simp [go_sem,Y,u,b6,cI]),wn,wj⟩
 .have hA:RL keep a (pH c d) b i=Jm keep a (pH c d) b n 0:=by rw [We,(aD:i=a.length)]
  have f:(Jm keep a (pH c d) b n 0).length=b:=Ni _ _ _ _ _ _;have F:B0 a 0=0:=Ln a;have Y:=xa2 Y hA f F;refine wv (h:=?_);repeat first|intro _|refine ⟨gX,?_⟩
  refine aY (λk e H=>(e 1=dLI keep/\e 2=dLI a/\e 3=dLI c/\e 4=dLI d/\e 13=.own 0 b/\e 42=dI b/\e 43=dI k/\e 5=dI ((n+B0 a k:Nat):Int))/\(H.get 0=some ⟨3,1,(Jm keep a (pH c d) b n k).map cI,false⟩)/\(0<H.next)/\(k<=b)) (λk=>b - k) 0 ⟨wg,(by simp [go_sem,Y]),wn,wi⟩ λI2 z k e H O=>?_;obtain ⟨E2,C,r,hk⟩:=O;have Y:=xa2 Y E2 C (bL r);refine dK (λE=>?_) λE=>?_
  .have hnl:=Sy a k;have f:(Jm keep a (pH c d) b n k).length=b:=Ni _ _ _ _ _ _;have S:k<(Jm keep a (pH c d) b n k).length:=aD;have R:=Xw keep a (pH c d) b n E;have p:(Jm keep a (pH c d) b n k)[k]=Wd keep a (pH c d) a.length k:=by rw [aA S] at R;exact Option.some.inj R
   have l:=Xv keep a (pH c d) b n E;have m:=Lo a k;have a0:=DS a (k:Int) a.length;have Y:=xa2 Y f E R;refine wv (h:=?_);repeat first|intro _|refine ⟨gX,?_⟩
   refine wq (λg=>?_) λg=>?_
   .rw [p] at g;have v:¬ 0<=gG a a.length k:=by
     intro B;have y:(gG a a.length k).toNat<keep.length:=aD;have:=X _ (aC y);simp only [Wd,if_pos B,aA y,Option.getD_some] at g;omega
    have q:Jg keep a (pH c d) n k=((n+B0 a k:Nat):Int):=by unfold Jg;rw [if_neg v]
    rw [q] at l;rw [if_pos aD] at m;have j:(Jm keep a (pH c d) b n (k+1)).map cI=((Jm keep a (pH c d) b n k).map cI).set k [.int .i64 ((n+B0 a k:Nat):Int)]:=by rw [<- l,b6];rfl
    have Y:=wa Y m;refine wv (h:=?_);repeat first|intro _|refine ⟨gX,?_⟩
    exact wx z (k+1) ⟨wg,(by simp [go_sem,Y,j]),wn,wj⟩
   .rw [p] at g;have q:Jg keep a (pH c d) n k=Wd keep a (pH c d) a.length k:=by
     unfold Jg Wd;split
     .rfl
     .rename_i B;exfalso;unfold Wd at g;rw [if_neg B] at g;omega
    have V:0<=gG a a.length k:=by
     refine bB λB=>?_;unfold Wd at g;rw [if_neg B] at g;omega
    rw [q,<- p,List.set_getElem_self] at l;rw [if_neg aD] at m;have j:(Jm keep a (pH c d) b n (k+1))=Jm keep a (pH c d) b n k:=l.symm;have Y:=wa Y m;refine wv (h:=?_);repeat first|intro _|refine ⟨gX,?_⟩
    exact wx z (k+1) ⟨wg,(by simp [go_sem,Y,j]),wn,wj⟩
  .have hE:=Xx keep a (pH c d) b n;have J:k=b:=aD;have f:(Jm keep a (pH c d) b n b).length=b:=Ni _ _ _ _ _ _;rw [hE] at f;have Y:=xa2 Y f J hE;exact wv (h:=hQ _ _ (by simp [go_sem,Y,hE,dLI]))
/-! ### copies -/
@[go_sem] theorem Mat.dz (m:Mat):m.d.P=true:=by simp [Mat.d,D.P,Mat.P]
theorem Hl (m:Mat)(f:m.m.h.length<=1000000)(e:m.m.i.length<=1000000)(b:m.vars.length<=1000000):Pua 108 [m.d] m.d:=by
 refine Tz.pK ⟨λt=>t==2,λ_=>[]⟩ func108 rfl (λQ a=>?_);have Y:=wa @Mat.d.eq_1 @Mat.c.eq_1;refine wv (h:=?_);refine kO (jK m.m.h f) (by simp [go_sem,dLI]) (by simp [go_sem]) (FR _) rfl (by simp [go_sem]) ?_;refine wv (h:=?_);refine kO (jK m.m.i e) (by simp [go_sem,dLI]) (by simp [go_sem]) (FR _) rfl (by simp [go_sem]) ?_;refine wv (h:=?_);refine kO (jK m.vars b) (by simp [go_sem,dLI]) (by simp [go_sem]) (FR _) rfl (by simp [go_sem]) ?_;exact wv (h:=a _ _ (by simp [go_sem,Y,dLI]))
def Gn (t:Types)(r:Rule)(h:Host)(m:Mat):Int :=
 if checkE t r.left.j h.j m.m r.inj≠0 then 1
 else if (dV t r.left h m.m).2≠0 then (dV t r.left h m.m).2
 else if (dV t r.left h m.m).1≠m.vars then 11 else 0
theorem O2 (t:Types)(r:Rule)(h:Host)(m:Mat):pF t r h m=if Gn t r h m≠0 then Gn t r h m else oG (kM r.left.j h.j m.m) h.j r.q m.m:=by
 unfold pF Gn;by_cases c:checkE t r.left.j h.j m.m r.inj≠0
 .rw [if_pos c,if_pos c];simp
 .rw [if_neg c,if_neg c];by_cases a:(dV t r.left h m.m).2≠0
  .rw [if_pos a,if_pos a,if_pos a]
  .rw [if_neg a,if_neg a];by_cases b:(dV t r.left h m.m).1≠m.vars
   .rw [if_pos b,if_pos b];simp
   .rw [if_neg b,if_neg b];simp
theorem Me (t:Types)(g:t.ok)(r:Rule)(h:Host)(m:Mat):Pua 104 [t.d,r.d,h.d,m.d] (dI (Gn t r h m)):=by
 refine Tz.p0 func104 rfl λQ a _=>?_;have Y:=xa7 @Rule.d.eq_1 @Rule.c.eq_1 @Pattern.c.eq_1 @Host.d.eq_1 @Host.c.eq_1 @Mat.d.eq_1 @Mat.c.eq_1 @Graph.c.eq_1 @Part.c.eq_1;refine wv (h:=aB (yC t g r.left.j h.j m.m r.inj) wl ?_);refine dK (λf=>?_) λf=>?_
 .have hM:Gn t r h m=1:=by unfold Gn;rw [if_pos (eQ f)]
  exact wv (h:=a _ _ (by simp [go_sem,hM]))
 .have hM:Gn t r h m=if (dV t r.left h m.m).2≠0 then (dV t r.left h m.m).2 else if (dV t r.left h m.m).1≠m.vars then 11 else 0:=by unfold Gn;rw [if_neg (eQ f)]
  refine wv (h:=aB (zJ t g r.left h m.m) wl ?_);refine dK (λe=>?_) λe=>?_
  .rw [if_pos (eQ e)] at hM;exact wv (h:=a _ _ (by simp [go_sem,hM]))
  .rw [if_neg (eQ e)] at hM;refine wo (h:=aB (lV (dV t r.left h m.m).1 m.vars) wl ?_);refine d8 (λb=>?_) λb=>?_
   .rw [if_pos (eQ b)] at hM;exact wv (h:=a _ _ (by simp [go_sem,hM]))
   .rw [if_neg (eQ b)] at hM;exact wv (h:=a _ _ (by simp [go_sem,hM]))
theorem QE (t:Types)(b:t.ok)(r:Rule)(g:r.ok)(h:Host):Pua 62 [t.d,r.d,h.d] (dI (f6 t r h)):=by
 refine Tz.p0 func62 rfl λQ c Y=>?_;refine wv (h:=aB (mX t b) wl ?_);refine dK (λf=>?_) λf=>?_
 .have hE:ruleF t r=(cW t).2:=by unfold ruleF;rw [if_pos (eQ f)]
  have a:f6 t r h=(cW t).2:=by unfold f6;rw [if_pos (by rw [hE];simpa using f),hE]
  exact wv (h:=c _ _ (by simp [go_sem,a]))
 .refine wv (h:=aB (QR t b r g) wl ?_);refine dK (λe=>?_) λe=>?_
  .have a:f6 t r h=ruleF t r:=by unfold f6;rw [if_pos (eQ e)]
   exact wv (h:=c _ _ (by simp [go_sem,a]))
  .have a:f6 t r h=fX t h:=by unfold f6;rw [if_neg (eQ e)]
   refine wv (h:=aB (Cd t b h) wl ?_);exact wv (h:=c _ _ (by simp [go_sem,a,fX]))
theorem yI (t:Types)(g:∀ n∈t.h,n.r.length<=1000000000000000)(r:Rule)(e:r.le)(h:Host):Pua 15 [t.d,r.d,h.d] (.bool (light26 t r h)):=by
 refine Tz.p0 func15 rfl λQ f _=>?_;have Y:=xa1 @Host.c.eq_1 @Rule.c.eq_1 @Cond.A;refine wo (h:=aB (K9 t g) wl ?_);refine wo (h:=aK (λa=>(by have b:=TJ r e;simpa [Rule.d,Rule.c,Cond.A,go_sem] using b)) (λa=>wl) ?_);refine wo (h:=aK (λa=>(by have b:=OF t (GY (by simp at a;exact a.1)) r.left r.cond e.cond h;rwa [Cond.A] at b)) (λa=>wl) ?_);have Y:=wa Y @light26.eq_1;exact wo (h:=f _ _ wy)
theorem yQ {t:Types}{r:Rule}{h:Host}(a:light26 t r h=true):t.ok/\r.ok:=by
 unfold light26 at a;simp only [aN] at a;exact ⟨GY a.1.1,Nd a.1.2⟩
theorem Vt (l:List ByteArray):eE (l.map cS)=l.map cS:=jR λc hc=>by
 rw [aW] at hc;obtain ⟨x,_,rfl⟩:=hc;rfl
theorem TZ (l:List Attr):eE (l.map Attr.c)=l.map Attr.c:=jR λc hc=>by
 rw [aW] at hc;obtain ⟨x,_,rfl⟩:=hc;simp [Attr.c,iI,mC,sK,dI,Vt]
theorem tG (l:List NodeTy):eE (l.map NodeTy.c)=l.map NodeTy.c:=jR λc hc=>by
 rw [aW] at hc;obtain ⟨x,_,rfl⟩:=hc;simp [NodeTy.c,iI,mC,dI,TZ]
theorem FF (l:List EdgeTy):eE (l.map EdgeTy.c)=l.map EdgeTy.c:=jR λc hc=>by
 rw [aW] at hc;obtain ⟨x,_,rfl⟩:=hc;simp [EdgeTy.c,iI,mC,dI]
theorem Pure.dr {P:Program}{f:FuncId}{args args':UN}{r:D}(c:Pure P f args' r)(i:args.map mC=args'):Pure P f args r:=by
 subst i;refine ⟨c.1,λM w a k b=>c.2 M w a k ⟨by simpa using b.len,λj u d h e=>?_⟩⟩;rw [aM,bV] at e;obtain ⟨y,g,rfl⟩:=e;exact Sx (b.Z j u y h g)
def exT:Types:=⟨[⟨⟨#[65,99,99,111,117,110,116]⟩,-1,true,[⟨⟨#[98,97,108,97,110,99,101]⟩,-1000,1000,[]⟩]⟩,⟨⟨#[67,97,115,104]⟩,0,false,[]⟩,⟨⟨#[76,111,97,110]⟩,0,false,[⟨⟨#[115,116,97,116,101]⟩,0,1,[⟨#[111,112,101,110]⟩,⟨#[99,108,111,115,101,100]⟩]⟩]⟩,⟨⟨#[80,101,114,115,111,110]⟩,-1,false,[]⟩],
 [⟨⟨#[111,119,110,115]⟩,3,0,0,-1,1,1⟩,⟨⟨#[112,97,121,115]⟩,1,1,0,-1,0,-1⟩]⟩
theorem BA:Pua 17 [] exT.d:=by
 refine pS (by first|rfl|(simp [go_sem];done)) (λQ a=>(Tz.cK ⟨λt=>t==0,λ_=>[]⟩ func17 rfl ?_));have Y:=trivial;refine lS (h:=?_);exact a _ _ (by simp [go_sem,exT,Types.d,Types.c,NodeTy.c,EdgeTy.c,Attr.c,sK,cS,dI])
theorem SO:xK exT=true:=by decide +kernel
theorem Gk (a:W3):Pua 28 [dLI a,dLI a] (.bool true):=by
 refine Tz.p0 func28 rfl λQ f Y=>?_;refine wo (h:=aY (λi e H=>(e 0=dLI a/\e 1=dLI a/\e 5=dI i)/\(i<=a.length)) (λi=>a.length - i) 0 ⟨wg,wi⟩ λk d i e H c=>?_);obtain ⟨g,j⟩:=c;have Y:=wa Y g;refine wv (h:=?_);repeat first|intro _|refine ⟨iD,?_⟩
 refine wq (λb=>?_) λb=>?_
 .have Y:=xa1 Y b (aA b);exact wo (h:=wx d (i+1) ⟨wg,wj⟩)
 .have Y:=wa Y b;exact wv (h:=f _ _ wy)
theorem y9 (a:W3):Pua 50 [dLI a,dLI a] (.bool true):=by
 refine Tz.p0 func50 rfl λQ f Y=>?_;refine wo (h:=aY (λi e H=>(e 0=dLI a/\e 1=dLI a/\e 5=dI i)/\(i<=a.length)) (λi=>a.length - i) 0 ⟨wg,wi⟩ λk d i e H c=>?_);obtain ⟨g,j⟩:=c;have Y:=wa Y g;refine wv (h:=?_);repeat first|intro _|refine ⟨iD,?_⟩
 refine wq (λb=>?_) λb=>?_
 .have Y:=xa1 Y b (aA b);exact wo (h:=wx d (i+1) ⟨wg,wj⟩)
 .have Y:=wa Y b;exact wv (h:=f _ _ wy)
theorem OS (p:Part):Pua 22 [p.d,p.d] (.bool true):=by
 refine Tz.p0 func22 rfl λQ b Y=>?_;refine wo (h:=aB (y9 p.h) wl ?_);refine wo (h:=aK (λa=>y9 p.i) (λa=>wl) ?_);exact wo (h:=b _ _ wy)
def scnC (t:Types)(h:Host)(inj:Bool):UN:=[.list (t.h.map NodeTy.c),.list (t.i.map EdgeTy.c),dLI h.j.h,.list (h.j.i.map Edge.c),.list (h.k.map cL),.bool inj]
def U4 (n i:Nat):List Bool:=List.replicate i true++List.replicate (n - i) false
theorem WP {n i:Nat}(h:i<=n):(U4 n i).length=n:=by simp [U4];omega
theorem WO {n i:Nat}(h:i<n):(U4 n i).set i true=U4 n (i+1):=by
 unfold U4;rw [mT _ _ dB,eL,uS,show n - i=(n - (i+1))+1 by omega,mF,wP,Bl,List.append_assoc];rfl
theorem xR (n:Nat)(m:n<=1000)(at_ a:W3)(p:∀ x∈at_,0<=x/\x<n)(u:at_.length<=a.length):Pua 372 [dI n,dLI at_,dLI a] (dLI (An n at_ a)):=by
 refine Tz.pK ⟨λt=>t==12,λ_=>[]⟩ func372 rfl (λQ o=>?_);have Y:=trivial;refine wv (h:=lG (HJ (-1) n m) wl ?_);refine wv (h:=?_);repeat first|intro _|refine ⟨gX,?_⟩
 refine aY (λk e H=>(e 0=dI n/\e 1=dLI at_/\e 2=dLI a/\e 7=.own 0 n/\e 13=dLI at_/\e 14=dI at_.length/\e 15=dI k)/\(H.get 0=some ⟨3,1,(O3 at_ a n k).map cI,false⟩)/\(0<H.next)/\(k<=at_.length)/\((O3 at_ a n k).length=n)) (λk=>at_.length - k) 0 ⟨wg,(by simp [go_sem,Y,O3,cI]),wn,wi,(by exact C5 _ _ _ _)⟩ λv l k e H b=>?_;obtain ⟨q,f,c,r,g⟩:=b;have Y:=xa3 Y q f (bL c) g;refine dK (λd=>?_) λd=>?_
 .have hki:k<a.length:=aD;have s:=p _ (aC d);have j:at_[k]?.getD 0=at_[k]:=by rw [aA d];rfl
  have b:a[k]?.getD 0=a[k]:=by rw [aA hki];rfl
  have i:at_[k].toNat<(O3 at_ a n k).length:=aD;have Y:=xa3 Y d (aA d) (aA hki) (aA i);refine wv (h:=?_);repeat first|intro _|refine ⟨gX,?_⟩
  exact wx l (k+1) ⟨wg,(by simp [go_sem,Y,Ie,b6,j,b,cI]),wn,wj,(by exact C5 _ _ _ _)⟩
 .have hP:An n at_ a=O3 at_ a n k:=by unfold An O3;rw [(aD:k=at_.length)]
  exact wv (h:=o _ _ (by simp [go_sem,Y,hP,dLI]))
theorem Mq (t:Types)(C:Bool)(p:Pattern)(h:Host)(m:Part)(U:SOk p h m)(vs:W3)(hl:vs.length<=p.vars.toNat)(hs:∀ v∈vs,-2000000<=v/\v<=2000000) :
  Pua 374 [.agg (scnC t h C),p.d,m.d,dLI vs] (.tup [dLI (eP p h m vs).1,.bool (decide ((eP p h m vs).2=0))]):=by
 have hv:=U.vars;have h0:=N7 hv.1 hl hs;have J:Mg p vs=(JH vs p.vars.toNat,MY vs.length p.vars.toNat):=by unfold Mg;rw [MX _ _ hl];rfl
 have a4:(p.vars - (vs.length:Int)).toNat=p.vars.toNat - vs.length:=aD;have a3:vs.length+(p.vars.toNat - vs.length)=p.vars.toNat:=aD;have b0:(vs.map cI++List.replicate (p.vars.toNat - vs.length) [D.int .i64 0])=(JH vs p.vars.toNat).map cI:=by simp [JH,cI]
 refine Sk (by first|rfl|(simp [go_sem];done)) (λQ hQ=>ACalls.b3 1 (Tz.cK ⟨λt=>t==22||t==11||t==14||t==20,λr=>match r with|1=>[(1,2),(1,3),(1,5)]|_=>[]⟩ func374 rfl ?_));have Y:=xa6 a4 a3 @Pattern.d.eq_1 @Pattern.c.eq_1 @scnC.eq_1 @Part.d.eq_1 @Part.c.eq_1 @Term.c.eq_1;refine wv (h:=?_);repeat first|intro _|refine ⟨gX,?_⟩
 refine FU 0 (jK vs aD) (by first|rfl|(simp [go_sem];done)) rfl (by first|omega|simp [go_sem]) (by simp [qE,uL,L0,JA]) (by first|trivial|(simp [go_sem];done)|simp [go_sem,chk]) ?_;refine wv (h:=?_);repeat first|intro _|refine ⟨gX,?_⟩
 refine aY (λi e H=>(e 4=.adr (scnC t h C)/\e 5=.adr p.c/\e 6=.adr m.c/\e 3=dLI vs/\e 10=.own 0 p.vars.toNat/\e 11=.own 10 p.vars.toNat/\e 33=dI vs.length/\e 34=dI i)/\(H.get 0=some ⟨3,1,(JH vs p.vars.toNat).map cI,false⟩)/\(0<H.next)/\(H.get 10=some ⟨4,1,(U4 p.vars.toNat i).map cB,false⟩)/\(10<H.next)/\(i<=vs.length)) (λi=>vs.length - i) 0 ⟨wg,(by simp [go_sem,Y,b0]),wn,(by simp [go_sem,U4,cB]),wn,wi⟩ λI0 b9 i e H b3=>?_;obtain ⟨E0,a8,a2,Z,M,hi⟩:=b3;have Y:=xa4 Y E0 a8 (bL a2) Z (bL M);refine dK (λh4=>?_) λh4=>?_
 .have hTl:=WP (n:=p.vars.toNat) (i:=i) aD;have b5:i<(U4 p.vars.toNat i).length:=aD;have b4:((U4 p.vars.toNat i).map cB).set i [.bool true]=(U4 p.vars.toNat (i+1)).map cB:=by rw [<- WO aD,b6];rfl
  have Y:=xa3 Y h4 hTl (aA b5) b4;refine wv (h:=?_);repeat first|intro _|refine ⟨gX,?_⟩
  exact wx b9 (i+1) ⟨wg,wn,wn,(by simp [go_sem,Y]),wn,wj⟩
 .have hie:i=vs.length:=aD;have b7:U4 p.vars.toNat i=MY vs.length p.vars.toNat:=by rw [hie,MX _ _ hl];rfl
  have Y:=wa Y b7;refine wv (h:=?_);repeat first|intro _|refine ⟨gX,?_⟩
  refine aY (λi e H=>∃ l:W3 × List Bool,(e 4=.adr (scnC t h C)/\e 5=.adr p.c/\e 6=.adr m.c/\e 3=dLI vs/\e 10=.own 0 p.vars.toNat/\e 11=.own 10 p.vars.toNat/\e 42=.list (p.l.map Slot.c)/\e 43=dI p.l.length/\e 44=dI i)/\(H.get 0=some ⟨3,1,l.1.map cI,false⟩)/\(0<H.next)/\(H.get 10=some ⟨4,1,l.2.map cB,false⟩)/\(10<H.next)/\(i<=p.l.length)/\(StOk p.vars.toNat l)/\(slotsV h m (Mg p vs) (p.l.take i)=some l)) (λi=>p.l.length - i) 0 ⟨((JH vs p.vars.toNat,MY vs.length p.vars.toNat)),wg,(by simp [go_sem,Y]),wn,(by simp [go_sem,Y]),wn,wi,(by rw [<- J];exact h0),(by rw [J];rfl)⟩ λI2 G i e H b2=>?_;obtain ⟨l,E2,a7,a1,X,L,hi,s,O⟩:=b2;have Y:=xa4 Y E2 a7 (bL a1) X (bL L);refine dK (λI=>?_) λI=>?_
  .obtain ⟨x,hx⟩:=fD (p.l[i]);have E:x∈p.l:=hx ▸ aC I;have hn:=U.node x E;have u:x.node.toNat<m.h.length:=aD;have hk:=U.bj _ (aC u);have A:(m.h[x.node.toNat]).toNat<h.k.length:=aD;have ha:=U.J x E;rw [aA u,Option.getD_some,aA A,Option.getD_some] at ha;have F:x.J.toNat<(h.k[(m.h[x.node.toNat]).toNat]).length:=aD;have hV:haveV h m x=h.k[(m.h[x.node.toNat]).toNat][x.J.toNat]:=by unfold haveV;rw [aA u,Option.getD_some,aA A,Option.getD_some,aA F];rfl
   have hb:=U.bG E;have S:=U.x x E;have z:=s.l1;have P:=s.l2;have c1:=S.1;have c2:=S.2;have o:=uW I O;rw [<- hx] at o;obtain ⟨q,f⟩:∃ y,y=lJ h m l x:=⟨_,rfl⟩;have j:StOk p.vars.toNat q:=f ▸ Ab s hb S;rw [<- f] at o;have g:¬ 0<=x.x.N->q=l:=λhn=>by rw [f];unfold lJ lF;rw [if_neg (by simp [hn])]
   have K:0<=x.x.N->x.x.N.toNat<l.2.length:=λhn=>by omega
   obtain ⟨kb,a5⟩:=fD (l.2[x.x.N.toNat]?.getD false);have R:0<=x.x.N\/(¬ 0<=x.x.N/\l.2[x.x.N.toNat]?=none)\/(¬ 0<=x.x.N/\l.2[x.x.N.toNat]?=some kb):=by
    by_cases N:0<=x.x.N
    .exact .inl N
    .right
     cases ho:l.2[x.x.N.toNat]? with
     | none=>exact .inl ⟨N,rfl⟩
     | some b=>rw [ho] at a5;exact .inr ⟨N,by rw [a5];rfl⟩
   rcases R with hc|hc|hc
   .have Y:=xa3 Y I (aA I) (Eq.symm hx) (xb0 (aA u) (aA A) (aA F) (Eq.symm hV) @Slot.c.eq_1 @cL.eq_1 z P @kF @cB.eq_1 hc ((aA (K hc))));refine wv (h:=?_);repeat first|intro _|refine ⟨gX,?_⟩
    refine wq (λW=>?_) λW=>?_
    .have hF:lF l x=true:=by simp only [lF,aN,decide_eq_true_eq,cD];exact ⟨hc,by simpa [aA (K hc)] using W⟩
     unfold lJ at f;rw [if_pos hF] at f;have a9:x.x.N.toNat<l.1.length:=aD;have e1:q.1.map cI=(l.1.map cI).set x.x.N.toNat (cI (haveV h m x - x.x.add)):=by rw [f,b6]
     have e2:q.2.map cB=(l.2.map cB).set x.x.N.toNat (cB true):=by rw [f,b6]
     have c0:D.O ((l.1.map cI).set x.x.N.toNat [D.int .i64 (haveV h m x - x.x.add)])=true:=by have:=rP q.1;rw [e1] at this;exact this
     have Y:=xa5 Y e1 e2 @dLI.eq_1 @cI.eq_1 (aA a9) c0;refine wv (h:=?_);repeat first|intro _|refine ⟨gX,?_⟩
     refine dX (nG x.x q.1 (by rw [j.l1];exact S) j.aM) wr wl rfl ?_;refine wv (h:=?_);repeat first|intro _|refine ⟨gX,?_⟩
     refine wq (λa=>?_) λa=>?_
     .have hR:=eM (o.2 (by first|simpa using a|simpa [g hc.1] using a|simpa [f] using a));exact wv (h:=hQ _ _ (by simp [go_sem,hR]))
     .have hstep:=o.1 (by first|simpa using a|simpa [g hc.1] using a|simpa [f] using a);refine wv (h:=?_);repeat first|intro _|refine ⟨gX,?_⟩
      exact wx G (i+1) ⟨q,wg,(by simp [go_sem,Y]),wn,(by simp [go_sem,Y]),wn,wj,(by exact j),(by exact hstep)⟩
    .have hF:¬ lF l x=true:=by simp only [lF,aN,decide_eq_true_eq,cD];rintro ⟨_,hk⟩;simp [aA (K hc)] at hk;simp [hk] at W
     unfold lJ at f;rw [if_neg hF] at f;have Y:=wa Y f;refine wv (h:=dX (nG x.x q.1 (by rw [j.l1];exact S) j.aM) wr wl rfl ?_);refine wv (h:=?_);repeat first|intro _|refine ⟨gX,?_⟩
     refine wq (λa=>?_) λa=>?_
     .have hR:=eM (o.2 (by first|simpa using a|simpa [g hc.1] using a|simpa [f] using a));exact wv (h:=hQ _ _ (by simp [go_sem,hR]))
     .have hstep:=o.1 (by first|simpa using a|simpa [g hc.1] using a|simpa [f] using a);refine wv (h:=?_);repeat first|intro _|refine ⟨gX,?_⟩
      exact wx G (i+1) ⟨q,wg,(by simp [go_sem,Y]),wn,(by simp [go_sem,Y]),wn,wj,(by exact j),(by exact hstep)⟩
   .have Y:=xa4 Y I (aA I) (Eq.symm hx) (aA u) (xb0 (aA A) (aA F) (Eq.symm hV) @Slot.c.eq_1 @cL.eq_1 z P @kF @cB.eq_1 hc.1 hc.2 (g hc.1));refine wv (h:=?_);repeat first|intro _|refine ⟨gX,?_⟩
    refine dX (nG x.x q.1 (by rw [j.l1];exact S) j.aM) wr wl rfl ?_;refine wv (h:=?_);repeat first|intro _|refine ⟨gX,?_⟩
    refine wq (λa=>?_) λa=>?_
    .have hR:=eM (o.2 (by first|simpa using a|simpa [g hc.1] using a|simpa [f] using a));exact wv (h:=hQ _ _ (by simp [go_sem,hR]))
    .have hstep:=o.1 (by first|simpa using a|simpa [g hc.1] using a|simpa [f] using a);refine wv (h:=?_);repeat first|intro _|refine ⟨gX,?_⟩
     exact wx G (i+1) ⟨q,wg,(by simp [go_sem,Y]),wn,(by simp [go_sem,Y]),wn,wj,(by exact j),(by exact hstep)⟩
   .have Y:=xa4 Y I (aA I) (Eq.symm hx) (aA u) (xb0 (aA A) (aA F) (Eq.symm hV) @Slot.c.eq_1 @cL.eq_1 z P @kF @cB.eq_1 hc.1 hc.2 (g hc.1));refine wv (h:=?_);repeat first|intro _|refine ⟨gX,?_⟩
    refine dX (nG x.x q.1 (by rw [j.l1];exact S) j.aM) wr wl rfl ?_;refine wv (h:=?_);repeat first|intro _|refine ⟨gX,?_⟩
    refine wq (λa=>?_) λa=>?_
    .have hR:=eM (o.2 (by first|simpa using a|simpa [g hc.1] using a|simpa [f] using a));exact wv (h:=hQ _ _ (by simp [go_sem,hR]))
    .have hstep:=o.1 (by first|simpa using a|simpa [g hc.1] using a|simpa [f] using a);refine wv (h:=?_);repeat first|intro _|refine ⟨gX,?_⟩
     exact wx G (i+1) ⟨q,wg,(by simp [go_sem,Y]),wn,(by simp [go_sem,Y]),wn,wj,(by exact j),(by exact hstep)⟩
  .rw [aG aD] at O;have T:=pL O;have z:=s.l1;have Y:=wa Y z;refine wv (h:=?_);repeat first|intro _|refine ⟨gX,?_⟩
   refine aY (λk e H=>(e 4=.adr (scnC t h C)/\e 5=.adr p.c/\e 6=.adr m.c/\e 3=dLI vs/\e 10=.own 0 p.vars.toNat/\e 102=.list (p.G.map Test.c)/\e 103=dI p.G.length/\e 104=dI k)/\(H.get 0=some ⟨3,1,l.1.map cI,false⟩)/\(0<H.next)/\(k<=p.G.length)/\((p.G.take k).all (λx=>Be x l.1)=true)) (λk=>p.G.length - k) 0 ⟨wg,wn,wn,wi,(by rfl)⟩ λI4 b8 k e H b1=>?_;obtain ⟨E4,a6,a0,hk,B⟩:=b1;have Y:=xa2 Y E4 a6 (bL a0);refine dK (λw=>?_) λw=>?_
   .have hX:=U.test _ (aC w);have Y:=xa2 Y w (aA w) @Test.c.eq_1;refine wv (h:=?_);repeat first|intro _|refine ⟨gX,?_⟩
    refine dX (xP p.G[k] l.1 (by rw [s.l1];exact hX) s.aM) wr wl rfl ?_;refine wv (h:=?_);repeat first|intro _|refine ⟨gX,?_⟩
    refine wq (λV=>?_) λV=>?_
    .have hR:eP p h m vs=([],16):=by
      rw [T,if_neg];intro ha;rw [c9] at ha;have:=ha _ (aC w);simp [this] at V
     exact wv (h:=hQ _ _ (by simp [go_sem,hR]))
    .refine wv (h:=?_);repeat first|intro _|refine ⟨gX,?_⟩
     exact wx b8 (k+1) ⟨wg,wn,wn,wj,(by rw [aE w,Cz,B];simp;simpa using V)⟩
   .rw [aG aD] at B;rw [if_pos B] at T;exact wv (h:=hQ _ _ (by simp [go_sem,Y,T,dLI]))
theorem Eh (t:Types)(L:t.ok)(p:Pattern)(c:Cond)(w:ExOk t p c.map c.o)(h:Host)(M:HostOk t h)(m:Mat)(z:MatOk t p h m)(b:Bool) :
  Pua 354 [.agg (scnC t h b),.agg c.c,m.d] (.tup [.list ((zP t c.map c.o h m b).1.map Mat.c),dI (zP t c.map c.o h m b).2]):=by
 obtain ⟨⟨S,R⟩,E,D⟩:=w.bj;have l:=bR w.pq.gg;have O:=z.dc.len;have N:=z.dc.bk;refine Tz.pK ⟨λt=>t==8||t==9||t==12||t==14,λr=>match r with|2=>[(0,21),(1,21),(2,21),(3,21),(4,21),(5,21),(6,21),(7,21),(8,21),(9,21),(10,21),(11,21),(12,21),(13,21),(14,21),(15,21),(16,21),(17,21),(18,21),(19,21)]|_=>[]⟩ func354 rfl (λQ I=>?_);obtain ⟨X,A⟩:=fD (n6 t c.o.j h.j (pV c.map c.o m.m) b);have G:∀ x∈X.1,MOk t c.o.j h.j x:=λx K=>IU (A ▸ K);have T:X.1.length<=5000:=A ▸ SM _ _ _ _ _;have B:m.vars.length<=c.o.vars.toNat:=by have:=z.vl;have:=w.pv;have:=w.p0;omega
 have j:zP t c.map c.o h m b=if X.2≠0 then ([],X.2) else (wR c.o h m.vars X.1,0):=by unfold zP;rw [<- A]
 have Y:=xa2 @Cond.A @scnC.eq_1 @Mat.d.eq_1 @Mat.c.eq_1;refine wp (h:=aI (xR c.o.j.h.length aD c.map.h m.m.h E aD) wl ?_);refine wp (h:=aI (xR c.o.j.i.length aD c.map.i m.m.i D aD) wl ?_);refine wp (h:=aB ((by have l:=JU t L c.o.j h.j (pV c.map c.o m.m) b;rw [<- A] at l;unfold pV Types.d Types.c Graph.d Graph.c Part.d Part.c dLI at l;exact l)) wl ?_);refine i7 (λJ=>?_) λJ=>?_
 .rw [if_pos J] at j;exact wv (h:=I _ _ (by simp [go_sem,j]))
 .rw [if_neg aD] at j;refine wp (h:=aY (λi e H=>∃ k:List Mat,(e 3=.adr (scnC t h b)/\e 4=.adr c.c/\e 5=.adr m.c/\e 57=.list (X.1.map Part.c)/\e 58=dI X.1.length/\e 12=.own 24 k.length/\e 59=dI i)/\(H.get 24=some ⟨65,3,k.map Mat.c,false⟩)/\(24<H.next)/\(i<=X.1.length)/\(k=wR c.o h m.vars (X.1.take i))/\(k.length<=i)) (λi=>X.1.length - i) 0 ⟨([]),wg,wn,wn,wi,(by rfl),(by simp)⟩ λW u i e H F=>?_);obtain ⟨k,U,q,n,V,g,P⟩:=F;have Y:=xa2 Y U q (bL n);refine dK (λs=>?_) λs=>?_
  .obtain ⟨v,C⟩:=fD (eP c.o h X.1[i] m.vars);obtain ⟨f,a⟩:∃ y,y=k++if v.2=0 then [(⟨X.1[i],v.1⟩:Mat)] else []:=⟨_,rfl⟩
   have Y:=xa3 Y s (aA s) @Part.c.eq_1 @Pattern.c.eq_1;refine wp (h:=aB ((by have l:=Mq t b c.o h X.1[i] (XL w.pq M (G _ (aC s))) m.vars B z.vs;rw [<- C] at l;unfold scnC Pattern.d Pattern.c Part.d Part.c dLI at l;exact l)) wl ?_);refine i7 (λo=>?_) λo=>?_
   .have hm3:f=k++[⟨X.1[i],v.1⟩]:=by rw [a,if_pos (eQ o)]
    have Y:=wa Y hm3;exact wp (h:=wx u (i+1) ⟨f,wg,wn,wn,wj,(by rw [aE s,qP,<- g,<- C];exact a),(by rw [a];split<;>simp<;>omega)⟩)
   .have hm3:f=k:=by rw [a,if_neg (eQ o),dS]
    have Y:=wa Y hm3;exact wp (h:=wx u (i+1) ⟨f,wg,wn,wn,wj,(by rw [aE s,qP,<- g,<- C];exact a),(by rw [a];split<;>simp<;>omega)⟩)
  .rw [aG aD] at g;exact wv (h:=I _ _ (by simp [go_sem,Y,j,<- g]))
def Qt (t:Types)(h:Host)(inj:Bool)(c:Cond)(m:Mat):Prf × Int:=if (pE t h inj c m).2=0 then pE t h inj c m else (jQ,(pE t h inj c m).2)
def JK (W:Prf × Int):Prf × Int:=if W.2=0 then W else (jQ,W.2)
theorem UT (t:Types)(h:Host)(inj:Bool)(c:Cond)(m:Mat):Qt t h inj c m=JK (pE t h inj c m):=rfl
theorem D6 (t:Types)(h:Host)(d:Bool)(c:Cond)(m:Mat):∃ wc wm wk we,Qt t h d c m=(Prf.mk wc wm wk,we)/\(pE t h d c m).2=we/\(we=0->pE t h d c m=(Prf.mk wc wm wk,we)):=by
 cases e:Qt t h d c m with
 | mk a b =>
  cases a with
  | mk wc wm wk =>
   refine ⟨wc,wm,wk,b,rfl,?_,?_⟩
   .unfold Qt at e;split at e
    .rw [e]
    .exact congrArg Prod.snd e
   .intro h0;unfold Qt at e;split at e
    .exact e
    .rename_i h1;have:=congrArg Prod.snd e;simp only at this;exact absurd (this.trans h0) h1
theorem HA (t:Types)(ht:t.ok)(h:Host)(N:HostOk t h)(a:Bool)(c:Cond)(p:Pattern)(R:CondV t p c)(hp:PatOk t p)(g:c.E=5)
  (Z:∀ k∈c.s,∀ m:Mat,MatOk t c.o h m->Pua 254 [.agg (scnC t h a),.agg k.c,m.d] (.tup [.agg (Qt t h a k m).1.c,dI (Qt t h a k m).2])) (m:Mat) (O:MatOk t p h m) :
  Pua 313 [.agg (scnC t h a),.agg c.c,m.d] (.tup [.agg (Qt t h a c m).1.c,dI (Qt t h a c m).2]):=by
 obtain ⟨K,a0⟩:=R.kinds;have q:=GH t h a c m;rw [UT];obtain ⟨W,J⟩:=fD (pE t h a c m);rw [<- J] at q ⊢;obtain ⟨P,a1⟩:=R.ex g hp;have D:0<c.s.length:=by have:=K (.inr g);omega
 obtain ⟨y,f⟩:∃ k,k=c.s[0]:=⟨_,rfl⟩;have E:y∈c.s:=f ▸ aC D;obtain ⟨X,I⟩:=fD (zP t c.map c.o h m a);have G:∀ x∈X.1,MatOk t c.o h x:=I ▸ SN P N O;rw [if_neg aD,if_neg aD,if_neg aD,if_pos g,A1 D,<- f,<- I] at q;refine pS (by first|rfl|(simp [go_sem];done)) (λQ z=>(Tz.cK ⟨λt=>t==6||t==11||t==12,λr=>match r with|7=>[(0,10),(1,10),(2,10),(3,10),(4,10),(5,10),(6,10)]|_=>[]⟩ func313 rfl ?_));have Y:=xa6 @Cond.A @scnC.eq_1 @Mat.d.eq_1 @Mat.c.eq_1 @Prf.A (aA D) (Eq.symm f) g;refine wv (h:=aB ((by have j:=Eh t ht p c P h N m O a;rw [<- I,Cond.A,g] at j;unfold scnC Mat.d Mat.c dLI dI at j;exact j)) wl ?_);refine dK (λB=>?_) λB=>?_
 .rw [if_pos (eQ B)] at q;have l:JK W=(jQ,X.2):=by rw [q];unfold JK;rw [if_neg (eQ B)]
  refine wv (h:=?_);exact z _ _ (by simp [go_sem,Y,l,jQ,iW,Prf.A,mC,iI,eE,dLI,d9,f5])
 .rw [if_neg (eQ B)] at q;refine wv (h:=?_);repeat first|intro _|refine ⟨gX,?_⟩
  refine aY (λi e H=>(e 3=.adr (scnC t h a)/\e 4=.adr c.c/\e 5=.adr m.c/\e 6=.ptr 0 1 0 0/\e 25=.list (X.1.map Mat.c)/\e 26=dI X.1.length/\e 27=dI i)/\(H.get 0=some ⟨255,5,[[dI 0,.nil,.nil,.nil,.nil]],false⟩)/\(0<H.next)/\(i<=X.1.length)/\(Xp ((X.1.drop i).map λx=>(x,pE t h a y x))=W)) (λi=>X.1.length - i) 0 ⟨wg,wn,wn,wi,(by exact q.symm)⟩ λI0 L i e H F=>?_;obtain ⟨E0,w,u,hi,A⟩:=F;have Y:=xa2 Y E0 w (bL u);refine dK (λg=>?_) λg=>?_
  .obtain ⟨U,S,T,s,hw,v,C⟩:=D6 t h a y X.1[i];have n:i<X.1.length:=g;have b:=A;rw [xO _ n] at b;simp only [Xp] at b;have V:=Qr H.next;have Y:=xa2 Y g (aA n) V;refine wv (h:=?_);repeat first|intro _|refine ⟨gX,?_⟩
   refine aI ((by have j:=Z y E X.1[i] (G _ (aC n));simp only [hw,Prf.A,Cond.A] at j;unfold scnC Mat.d Mat.c dLI dI at j;exact j)) wl ?_;refine wv (h:=?_);repeat first|intro _|refine ⟨gX,?_⟩
   refine wq (λM=>?_) λM=>?_
   .have h8':s=0:=by simpa using M
    rw [C h8'] at b;simp only at b;rw [if_pos aD] at b;have l:JK W=(Prf.mk 0 X.1[i] [Prf.mk U S T],0):=by rw [<- b,h8'];rfl
    refine wv (h:=?_);exact z _ _ (by simp [go_sem,Y,l,jQ,iW,Prf.A,mC,iI,eE,dLI,d9,f5])
   .have h8':s≠0:=by simpa using M
    refine dK (λo=>?_) λo=>?_
    .have h10':s≠10:=by simpa using o
     rw [v,if_pos h10'] at b;have l:JK W=(jQ,s):=by rw [<- b];unfold JK;rw [if_neg h8']
     refine wv (h:=?_);exact z _ _ (by simp [go_sem,Y,l,jQ,iW,Prf.A,mC,iI,eE,dLI,d9,f5])
    .have h10':s=10:=by simpa using o
     rw [v,if_neg aD] at b;refine wv (h:=?_);repeat first|intro _|refine ⟨gX,?_⟩
     exact wx L (i+1) ⟨wg,wn,wn,wj,(by exact b)⟩
  .rw [jO aD] at A;simp only [jF,Xp] at A;have l:JK W=(jQ,10):=by rw [<- A];rfl
   have Y:=wa Y g;refine wv (h:=?_);exact z _ _ (by simp [go_sem,Y,l,jQ,iW,Prf.A,mC,iI,eE,dLI,d9,f5])
theorem JV (t:Types)(ht:t.ok)(h:Host)(ho:HostOk t h)(g:Bool):∀ (c:Cond) (p:Pattern),CondV t p c->PatOk t p->∀ m:Mat,MatOk t p h m ->
  Pua 254 [.agg (scnC t h g),.agg c.c,m.d] (.tup [.agg (Qt t h g c m).1.c,dI (Qt t h g c m).2]):=by
 refine kS λc ih p F T m hm=>?_;obtain ⟨a7,b2⟩:=F.kinds;have U:c.s.length<=1000000:=by have:=Pw c.s;have:=x9 c;have:=F.Y;omega
 have E:c.E=5->Pua 313 [.agg (scnC t h g),.agg c.c,m.d] (.tup [.agg (Qt t h g c m).1.c,dI (Qt t h g c m).2]):=λG=>by
  obtain ⟨hE,w⟩:=F.ex G T;exact HA t ht h ho g c p F T G (λk hk m' a2=>ih k hk c.o (w k hk) hE.pq m' a2) m hm
 have l:=GH t h g c m;rw [UT] at E ⊢;obtain ⟨W,a6⟩:=fD (pE t h g c m);rw [<- a6] at l E ⊢;refine pS (by first|rfl|(simp [go_sem];done)) (λQ z=>(Tz.cK ⟨λt=>t==6||t==8||t==10||t==12||t==13||t==16||t==17,λr=>match r with|3=>[(0,10),(1,10),(2,10),(3,10),(4,10),(5,10),(6,10)]|_=>[]⟩ func254 rfl ?_));have Y:=xa3 @Cond.A @scnC.eq_1 @Mat.d.eq_1 @Mat.c.eq_1 @Prf.A;refine dK (λh2=>?_) λh2=>?_
 .have h2':c.E=2:=by simpa using h2
  have hl:0<c.s.length:=by have:=a7 (.inl h2');omega
  obtain ⟨k0,v⟩:∃ k,k=c.s[0]:=⟨_,rfl⟩;have V:k0∈c.s:=v ▸ aC hl;have b0:=F.cx aD k0 V;obtain ⟨wc,wm,wk,s,S,o,B⟩:=D6 t h g k0 m;rw [if_pos h2',A1 hl,<- v,o] at l;unfold Xa at l;have Y:=xa2 Y (aA hl) (Eq.symm v) h2';refine wp (h:=aI ((by have q:=ih k0 V p b0 T m hm;simp only [S,Prf.A,Cond.A] at q;unfold scnC Mat.d Mat.c dLI dI at q;exact q)) wl ?_);refine i7 (λG=>?_) λG=>?_
  .rw [if_pos (eQ G)] at l;have n:JK W=(jQ,10):=by rw [l];rfl
   refine wv (h:=?_);exact z _ _ (by simp [go_sem,Y,n,jQ,iW,Prf.A,mC,iI,eE,dLI,d9,f5])
  .rw [if_neg (eQ G)] at l;refine dK (λh7=>?_) λh7=>?_
   .rw [if_pos (eQ h7)] at l;have n:JK W=(jQ,0):=by rw [l];rfl
    refine wv (h:=?_);exact z _ _ (by simp [go_sem,Y,n,jQ,iW,Prf.A,mC,iI,eE,dLI,d9,f5])
   .rw [if_neg (eQ h7)] at l;have n:JK W=(jQ,s):=by rw [l];unfold JK;rw [if_neg (eQ G)]
    refine wv (h:=?_);exact z _ _ (by simp [go_sem,Y,n,jQ,iW,Prf.A,mC,iI,eE,dLI,d9,f5])
 .have h2':c.E≠2:=by simpa using h2
  rw [if_neg h2'] at l;refine dK (λM=>?_) λM=>?_
  .have h10':c.E=3:=by simpa using M
   have w:=F.cx aD;rw [if_pos h10'] at l;have Y:=wa Y h10';refine wp (h:=lB (Ghosts.step (Ghosts.refl _) 1 0 4 255 5 _ _ ((by simp [go_sem];rfl)) rfl rfl rfl) (λi e H=>∃ D:List Prf,(e 3=.adr (scnC t h g)/\e 4=.adr c.c/\e 5=.adr m.c/\e 6=.ptr 0 1 0 0/\e 20=dI c.E/\e 10=.ptr 1 1 0 0/\e 45=.list (c.s.map Cond.c)/\e 46=dI c.s.length/\e 47=dI i)/\(H.get 0=some ⟨255,5,[[dI 0,.nil,.nil,.nil,.nil]],false⟩)/\(0<H.next)/\(H.get 1=some ⟨255,5,[[dI 0,.nil,.nil,.nil,.own 2 D.length]],false⟩)/\(1<H.next)/\(H.get 2=some ⟨255,5,D.map Prf.c,false⟩)/\(2<H.next)/\(i<=c.s.length)/\(Nv ((c.s.drop i).map λk=>pE t h g k m) D=W)/\(D.length<=i)/\(c.s.length<=1000000)) (λi=>c.s.length - i) 0 ⟨([]),wg,wn,wn,wn,wn,wn,wn,wi,(by exact l.symm),dB,(by exact U)⟩ λI2 a9 i e H a5=>?_);obtain ⟨D,E2,a1,R,Z,O,X,N,hi,C,b1,a3⟩:=a5;have Y:=xa6 Y E2 a1 (bL R) Z (bL O) X (bL N);refine dK (λy=>?_) λy=>?_
   .obtain ⟨A,j⟩:∃ k,k=c.s[i]:=⟨_,rfl⟩;have u:A∈c.s:=j ▸ aC y;obtain ⟨wc,wm,wk,s,S,o,B⟩:=D6 t h g A m;have f:=C;rw [xO _ y,<- j] at f;simp only [Nv] at f;have Y:=xa2 Y y (aA y) (Eq.symm j);refine wp (h:=aB ((by have q:=ih A u p (w A u) T m hm;simp only [S,Prf.A,Cond.A] at q;unfold scnC Mat.d Mat.c dLI dI at q;exact q)) wl ?_);refine i7 (λL=>?_) λL=>?_
    .have h16':s≠0:=by simpa using L
     rw [o,if_pos h16'] at f;have n:JK W=(jQ,s):=by rw [<- f];unfold JK;rw [if_neg h16']
     refine wv (h:=?_);exact z _ _ (by simp [go_sem,Y,n,jQ,iW,Prf.A,mC,iI,eE,dLI,d9,f5])
    .have h16':s=0:=by simpa using L
     rw [o,if_neg aD,B h16'] at f;exact wp (h:=wx a9 (i+1) ⟨(D++[.mk wc wm wk]),wg,wn,wn,wn,wn,wn,wn,wj,(by exact f),(by simp;omega),(by exact a3)⟩)
   .rw [jO aD] at C;simp only [jF,Nv] at C;have n:JK W=(.mk 0 iW D,0):=by rw [<- C];rfl
    refine wv (h:=?_);exact z _ _ (by simp [go_sem,Y,n,jQ,iW,Prf.A,mC,iI,eE,dLI,d9,f5])
  .have h10':c.E≠3:=by simpa using M
   rw [if_neg h10'] at l;refine dK (λK=>?_) λK=>?_
   .have h21':c.E=4:=by simpa using K
    have w:=F.cx aD;rw [if_pos h21'] at l;have Y:=wa Y h21';refine wp (h:=aY (λi e H=>(e 3=.adr (scnC t h g)/\e 4=.adr c.c/\e 5=.adr m.c/\e 6=.ptr 0 1 0 0/\e 20=dI c.E/\e 73=.list (c.s.map Cond.c)/\e 74=dI c.s.length/\e 75=dI i)/\(H.get 0=some ⟨255,5,[[dI 0,.nil,.nil,.nil,.nil]],false⟩)/\(0<H.next)/\(i<=c.s.length)/\(W2 ((c.s.drop i).map λk=>pE t h g k m) i=W)) (λi=>c.s.length - i) 0 ⟨wg,wn,wn,wi,(by exact l.symm)⟩ λI4 a8 i e H a4=>?_);obtain ⟨E4,a0,P,hi,C⟩:=a4;have Y:=xa2 Y E4 a0 (bL P);refine dK (λx=>?_) λx=>?_
    .obtain ⟨A,j⟩:∃ k,k=c.s[i]:=⟨_,rfl⟩;have u:A∈c.s:=j ▸ aC x;obtain ⟨wc,wm,wk,s,S,o,B⟩:=D6 t h g A m;have f:=C;rw [xO _ x,<- j] at f;simp only [W2] at f;have Y:=xa2 Y x (aA x) (Eq.symm j);refine wp (h:=aB ((by have q:=ih A u p (w A u) T m hm;simp only [S,Prf.A,Cond.A] at q;unfold scnC Mat.d Mat.c dLI dI at q;exact q)) wl ?_);refine i7 (λM6=>?_) λM6=>?_
     .have h26':s=0:=by simpa using M6
      rw [B h26'] at f;simp only at f;rw [if_pos aD] at f;have n:JK W=(.mk i iW [.mk wc wm wk],0):=by rw [<- f,h26'];rfl
      refine wv (h:=?_);exact z _ _ (by simp [go_sem,Y,n,jQ,iW,Prf.A,mC,iI,eE,dLI,d9,f5])
     .have h26':s≠0:=by simpa using M6
      refine dK (λJ=>?_) λJ=>?_
      .have h28':s≠10:=by simpa using J
       rw [o,if_pos h28'] at f;have n:JK W=(jQ,s):=by rw [<- f];unfold JK;rw [if_neg h26']
       refine wv (h:=?_);exact z _ _ (by simp [go_sem,Y,n,jQ,iW,Prf.A,mC,iI,eE,dLI,d9,f5])
      .have h28':s=10:=by simpa using J
       rw [o,if_neg aD] at f;exact wp (h:=wx a8 (i+1) ⟨wg,wn,wn,wj,(by exact f)⟩)
    .rw [jO aD] at C;simp only [jF,W2] at C;have n:JK W=(jQ,10):=by rw [<- C];rfl
     refine wv (h:=?_);exact z _ _ (by simp [go_sem,Y,n,jQ,iW,Prf.A,mC,iI,eE,dLI,d9,f5])
   .have h21':c.E≠4:=by simpa using K
    rw [if_neg h21'] at l;refine dK (λI=>?_) λI=>?_
    .have h32':c.E=5:=by simpa using I
     obtain ⟨vc,vm,vk,ve,hV⟩:∃ vc vm vk ve,JK W=(Prf.mk vc vm vk,ve):=by
      cases hh:JK W with
      | mk a b=>cases a;exact ⟨_,_,_,_,rfl⟩
     have Y:=wa Y h32';refine wv (h:=aB ((by have q:=E h32';simp only [hV,Prf.A,Cond.A,h32'] at q;unfold scnC Mat.d Mat.c dLI dI at q;exact q)) wl ?_);refine wv (h:=?_);exact z _ _ (by simp [go_sem,Y,hV,jQ,iW,Prf.A,mC,iI,eE,dLI,d9,f5])
    .have h32':c.E≠5:=by simpa using I
     rw [if_neg h32'] at l;have n:JK W=(jQ,0):=by rw [l];rfl
     refine wv (h:=?_);exact z _ _ (by simp [go_sem,Y,n,jQ,iW,Prf.A,mC,iI,eE,dLI,d9,f5])
def XA (t:Types)(p:Pattern)(c:Cond)(h:Host)(m:Mat)(inj:Bool):Int :=
 if condF t p c≠0 then condF t p c
 else if fX t h≠0 then fX t h
 else if checkE t p.j h.j m.m inj≠0 then checkE t p.j h.j m.m inj
 else if (dV t p h m.m).2≠0 then (dV t p h m.m).2
 else if (dV t p h m.m).1≠m.vars then 11 else 0
theorem Gx (t:Types)(g:t.ok)(p:Pattern)(c:Cond)(o:c.ok)(n:c.size<=1000000)(h:Host)(m:Mat)(a:Bool):Pua 253 [t.d,p.d,.agg c.c,h.d,m.d,.bool a] (dI (XA t p c h m a)):=by
 refine Tz.p0 func253 rfl λQ f _=>?_;have Y:=xa7 @Cond.A @Pattern.d.eq_1 @Pattern.c.eq_1 @Host.d.eq_1 @Host.c.eq_1 @Mat.d.eq_1 @Mat.c.eq_1 @Graph.c.eq_1 @Part.c.eq_1;refine wv (h:=aB ((by have i:=zG t g p c o n;rw [Cond.A] at i;unfold Types.d Types.c Pattern.d Pattern.c dLI dI at i;exact i)) wl ?_);refine dK (λl=>?_) λl=>?_
 .have hM:XA t p c h m a=condF t p c:=by unfold XA;rw [if_pos l]
  exact wv (h:=f _ _ (by simp [go_sem,hM]))
 .have hM:XA t p c h m a=if fX t h≠0 then fX t h else if checkE t p.j h.j m.m a≠0 then checkE t p.j h.j m.m a else if (dV t p h m.m).2≠0 then (dV t p h m.m).2 else if (dV t p h m.m).1≠m.vars then 11 else 0:=by unfold XA;rw [if_neg (eQ l)]
  refine wv (h:=aB (Cd t g h) wl ?_);refine dK (λk=>?_) λk=>?_
  .have h5':fX t h≠0:=k;rw [if_pos h5'] at hM;exact wv (h:=f _ _ (by simp [go_sem,hM,fX]))
  .have h5':¬ fX t h≠0:=by unfold fX;simpa using k
   rw [if_neg h5'] at hM;refine wv (h:=aB (yC t g p.j h.j m.m a) wl ?_);refine dK (λj=>?_) λj=>?_
   .rw [if_pos (eQ j)] at hM;exact wv (h:=f _ _ (by simp [go_sem,hM]))
   .rw [if_neg (eQ j)] at hM;refine wv (h:=aB (zJ t g p h m.m) wl ?_);refine dK (λe=>?_) λe=>?_
    .rw [if_pos (eQ e)] at hM;exact wv (h:=f _ _ (by simp [go_sem,hM]))
    .rw [if_neg (eQ e)] at hM;refine wp (h:=aB (lV (dV t p h m.m).1 m.vars) wl ?_);refine i7 (λb=>?_) λb=>?_
     .rw [if_pos (eQ b)] at hM;exact wv (h:=f _ _ (by simp [go_sem,hM]))
     .rw [if_neg (eQ b)] at hM;exact wv (h:=f _ _ (by simp [go_sem,hM]))
theorem DP (t:Types)(f:t.ok)(p:Pattern)(c:Cond)(o:c.ok)(g:CondV t p c)(k:PatOk t p)(h:Host)(l:HostOk t h)(m:Mat)(n:MatOk t p h m)(a:Bool)(r:XA t p c h m a=0) :
  Pua 167 [t.d,p.d,.agg c.c,h.d,m.d,.bool a] (.tup [.agg (Qt t h a c m).1.c,dI (Qt t h a c m).2]):=by
 obtain ⟨w,s,u,v,e,j,i⟩:=D6 t h a c m;refine pS (by first|rfl|(simp [go_sem];done)) (λQ q=>(Tz.cK ⟨λt=>t==12,λ_=>[]⟩ func167 rfl ?_));have Y:=xa7 @Cond.A @scnC.eq_1 @Pattern.d.eq_1 @Pattern.c.eq_1 @Host.d.eq_1 @Host.c.eq_1 @Mat.d.eq_1 @Mat.c.eq_1 @Prf.A;refine wv (h:=aB ((by have b:=Gx t f p c o g.Y h m a;rw [r,Cond.A] at b;unfold Types.d Types.c Pattern.d Pattern.c Host.d Host.c Mat.d Mat.c dLI dI at b;exact b)) wl ?_);refine wv (h:=aB ((by have b:=JV t f h l a c p g k m n;simp only [e,Prf.A,Cond.A] at b;unfold scnC Mat.d Mat.c dLI dI at b;exact b)) wl ?_);refine wv (h:=?_);exact q _ _ (by simp [go_sem,Y,e,Prf.A,mC,iI,eE,dLI,d9,f5])
theorem Bi (t:Types)(n:t.ok)(p:Pattern)(c:Cond)(s:c.ok)(u:CondV t p c)(o:PatOk t p)(h:Host)(q:HostOk t h)(m:Mat)(r:MatOk t p h m)(a:Bool)(v:XA t p c h m a=0) :
  Pua 107 [t.d,p.d,.agg c.c,h.d,m.d,.bool a] (.tup [.bool (mO t h a c m).1,dI (mO t h a c m).2]):=by
 obtain ⟨y,w,x,e,l,f,k⟩:=D6 t h a c m;have b:mO t h a c m=if e=10 then (false,0) else (decide (e=0),e):=by unfold mO NH;rw [f]
 refine Tz.pK ⟨λt=>t==14,λ_=>[]⟩ func107 rfl (λQ j=>?_);have Y:=xa6 @Cond.A @Pattern.d.eq_1 @Pattern.c.eq_1 @Host.d.eq_1 @Host.c.eq_1 @Mat.d.eq_1 @Mat.c.eq_1 @Prf.A;refine wv (h:=aB ((by have g:=DP t n p c s u o h q m r a v;simp only [l,Prf.A,Cond.A] at g;unfold Types.d Types.c Pattern.d Pattern.c Host.d Host.c Mat.d Mat.c dLI dI at g;exact g)) wl ?_);refine dK (λi=>?_) λi=>?_
 .rw [if_pos (eQ i)] at b;exact wv (h:=j _ _ (by simp [go_sem,b]))
 .rw [if_neg (eQ i)] at b;exact wv (h:=j _ _ (by simp [go_sem,b,Dr]))
theorem Sg {H:AHeap}{d:D}(h:d.P=true):fI H d=d:=by cases d<;>first|rfl|simp [D.P] at h
theorem Sf {H:AHeap}{d:D}(h:d.P=true):iU H d=d:=by
 cases d with
 | agg cs =>
  simp only [D.P] at h;simp only [iU];congr 1;conv=>rhs;rw [<- List.map_id cs]
  exact bJ λy a=>Sg (jN h y a)
 | _=>exact Sg (H:=H) h
theorem Sd (H:AHeap){d:D}(h:d.P=true):rZ H d=d:=by
 cases d with
 | tup vs =>
  simp only [D.P] at h;simp only [rZ];congr 1;conv=>rhs;rw [<- List.map_id vs]
  exact bJ λy a=>Sf (jN h y a)
 | _=>exact Sf (H:=H) h
theorem abD {P:Program}{f:FuncId}{args:UN}{r:D}(a:r.P=true)(h:ACalls P f args .an λd H'=>iZ H' d=r):Pure P f args r:=by
 refine aU (ACalls.bO (h.mono λd H' e=>⟨?_,a⟩));rw [e];exact Sd _ a
theorem Tw {H:AHeap}{a:List Nat}{vals:Yb}(d:a.length=vals.length)(f:∀ (i q:Nat) (v:W3),a[i]?=some q->vals[i]?=some v->H.get q=some ⟨3,1,v.map cI,false⟩):(lL a vals).map (·.map (fI H))=vals.map cL:=by
 apply fL;intro i;simp only [aM];by_cases e:i<vals.length
 .have hq:i<a.length:=aD;have b:=aA e;have c:=aA hq;rw [tE c b,b];have:=f i _ _ c b;simp [fI,this,cL,dLI]
 .rw [bX (by rw [jJ d];omega),bX aD];rfl
theorem JO (h:Host)(hn:h.j.h.length<=100000)(he:h.j.i.length<=100000)(hv:h.k.length<=100000)(hr:∀ v∈h.k,v.length<=100000):Pua 109 [h.d] h.d:=by
 refine abD (Host.dz h) ?_
 obtain ⟨Q,hQ⟩:∃ Q:D->AHeap->Prop,∀ d H',Q d H'↔iZ H' d=h.d:=⟨_,λ_ _=>Iff.rfl⟩
 rw [show (λd H'=>iZ H' d=h.d)=Q from funext λd=>funext λH'=>propext (hQ d H').symm]
 refine (Tz.cK ⟨λt=>t==2||t==3||t==25||t==1000001,λr=>match r with|1=>[(0,10),(1,10),(2,10),(3,10),(4,10),(5,10),(6,10),(7,10)]|5=>[(0,2),(1,2),(0,4),(1,4),(0,5),(1,5)]|_=>[]⟩ func109 rfl ?_)
 have Y:=wa @Host.d.eq_1 @Host.c.eq_1
 refine wv (h:=?_)
 refine kO (jK h.j.h aD) (by simp [go_sem,dLI]) (by simp [go_sem]) (FR _) rfl (by simp [go_sem]) ?_
 refine wv (h:=?_)
 refine kO (Cp h.j.i aD) (by simp [go_sem]) (by simp [go_sem]) (V3 _) rfl (by simp [go_sem]) ?_
 refine wp (h:=lB (Ghosts.step (Ghosts.refl _) 11 0 2 48 1 _ _ ((by simp [go_sem];rfl)) rfl rfl rfl) (λi e H=>∃ qs:List Nat,(e 1=.adr h.c/\e 2=.ptr 0 1 0 0/\e 3=.ptr 11 1 0 0/\e 17=.list (h.k.map cL)/\e 18=dI h.k.length/\e 19=dI i)/\(H.get 0=some ⟨68,3,[[.nil,.nil,.nil]],false⟩)/\(0<H.next)/\(H.get 11=some ⟨68,3,[[dLI h.j.h,.list (h.j.i.map Edge.c),.own 13 i]],false⟩)/\(11<H.next)/\(H.get 13=some ⟨48,1,lL qs (h.k.take i),false⟩)/\(13<H.next)/\(i<=h.k.length)/\(qs.length=(h.k.take i).length)/\(∀ q∈qs,13<q/\q<H.next)/\(13<H.next)/\(∀ (k q:Nat) (v:W3),qs[k]?=some q->(h.k.take i)[k]?=some v->H.get q=some ⟨3,1,v.map cI,false⟩)) (λi=>h.k.length - i) 0 ⟨([]),wg,wn,wn,wn,wn,(by simp [go_sem,Y,lL]),wn,wi,(by rfl),(by intro q hq;cases hq),(by simp [go_sem]),(by intro k q v hk;simp at hk)⟩ λI0 hI0 i e H hi0=>?_)
 obtain ⟨qs,E0,g0_0,n0_0,g11_0,n11_0,g13_0,n13_0,hi,hql,hqr,hnx,hgq⟩:=hi0
 have Y:=xa6 Y E0 g0_0 (bL n0_0) g11_0 (bL n11_0) g13_0 (bL n13_0)
 refine dK (λh3=>?_) λh3=>?_
 .have hr8:=hr _ (aC h3)
  have hrl:(lL qs (h.k.take i)).length=i:=by rw [jJ hql];simp;omega
  have hgq2:∀ H2:AHeap,H2.get (H.next+2)=some ⟨3,1,h.k[i].map cI,false⟩->(∀ q∈qs,H2.get q=H.get q)->∀ (k q:Nat) (v:W3),(qs++[H.next+2])[k]?=some q->(h.k.take (i+1))[k]?=some v->H2.get q=some ⟨3,1,v.map cI,false⟩:=λH2 g1 g2 k q v e1 e2=>by
   rw [aE h3] at e2
   have hqi:qs.length=i:=by rw [hql];simp;omega
   have hti:(h.k.take i).length=i:=by simp;omega
   by_cases hk:k<i
   .rw [aR aD] at e1
    rw [aR aD] at e2
    rw [g2 q (aL e1)];exact hgq k q v e1 e2
   .have h1':=(aP.1 e1).1
    have:k=i:=by simp at h1';omega
    subst this
    rw [bF aD,hqi,uS] at e1
    rw [bF aD,hti,uS] at e2
    simp at e1 e2
    subst e1 e2;exact g1
  have Y:=xa3 Y h3 (aA h3) @cL.eq_1 hrl
  exact wp (h:=wx hI0 (i+1) ⟨(qs++[H.next+2]),wg,wn,wn,wn,wn,(by rw [aE h3,yF hql];simp [go_sem,Y,cL]),wn,wj,(by simp [hql];omega),(by intro q hq;rw [aX,bG] at hq;rcases hq with hq|rfl;(have:=hqr q hq;simp [go_sem];omega);(simp [go_sem];omega)),(by simp [go_sem];omega),(by exact hgq2 _ (by simp [go_sem,Y,cL]) (λq hq=>by have:=hqr q hq;simp [go_sem,bL this.2,(aD:q≠13),(aD:q≠11)]))⟩)
 .rw [aG aD] at hql hgq
  have hie:i=h.k.length:=aD
  refine wv (h:=?_)
  refine (hQ _ _).2 ?_
  obtain ⟨E,hEq⟩:=fD (H.put 0 ⟨68,3,[[D.list (List.map cI h.j.h),D.list (List.map Edge.c h.j.i),D.own 13 i]],false⟩)
  rw [<- hEq]
  have hE13:E.get 13=some ⟨48,1,lL qs (h.k.take i),false⟩:=by rw [hEq];simp [go_sem,g13_0]
  rw [aG (aD:h.k.length<=i)] at hE13
  have hR:=Tw (H:=E) hql (λk q v e1 e2=>by
   have:=hqr q (aL e1)
   rw [hEq];simp [go_sem,(aD:q≠0)];exact hgq k q v e1 e2)
  have hrl:=jJ hql
  simp only [iZ,j7,qK,fI,iH,jF,hE13,hrl,hR,hie,if_true]
  rfl
end Go.Abs
end
