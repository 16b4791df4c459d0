/- The abstraction layer, part N: an operation looks at no more -/
import Derived.Test.YtpdanmkcpjdmjaaGreatZkAC
set_option linter.unusedVariables false
set_option linter.unusedSimpArgs false
section
namespace Go.Abs
def AOut.on (r:AOut)(H:AHeap):AOut:=⟨r.cond,r.X,r.val,H⟩
def lR (H' H1:AHeap)(F:List Nat)(nid:Nat):AHeap:=⟨H'.next,λi=>H'.F i\/(i=nid/\H1.F nid),λi=>if i∈F then H1.get i else H'.get i⟩
section
variable {P:Program} {H H':AHeap} {F:List Nat} {nid:Nat}
theorem iR (c:f8 F H' H)(b:¬ H.F nid):lR H' H F nid=H':=by
 obtain ⟨n,d,g⟩:=H';simp only [lR,AHeap.mk.injEq,true_and];refine ⟨?_,?_⟩
 .funext i;exact propext ⟨λh=>h.elim id λh=>absurd h.2 b,.inl⟩
 .funext i;by_cases a:i∈F
  .rw [if_pos a];exact (c i a).symm
  grind
theorem nQ (l:f8 F H' H)(f:nid<H'.next)(k:nid∈F)(b:Blk):H'.push nid b=lR H' (H.push nid b) F nid:=by
 obtain ⟨n,m,g⟩:=H';have c:nid<n:=f;simp only [AHeap.push,lR,AHeap.mk.injEq,c,if_true,true_and];refine ⟨?_,?_⟩
 .funext i;exact propext ⟨λh=>h.elim (λe=>.inr ⟨e,.inl trivial⟩) .inl,λh=>h.elim .inr λh=>.inl h.1⟩
 .funext i;by_cases j:i∈F
  .rw [if_pos j];by_cases d:i=nid
   .rw [if_pos d,if_pos d]
   .rw [if_neg d,if_neg d];exact l i j
  grind
theorem vA (j:f8 F H' H)(e:¬ H.F nid){a:Nat}(f:a∈F)(b:Blk):H'.put a b=lR H' (H.put a b) F nid:=by
 obtain ⟨n,k,g⟩:=H';simp only [AHeap.put,lR,AHeap.mk.injEq,true_and];refine ⟨?_,?_⟩
 .funext i;exact propext ⟨.inl,λh=>h.elim (λh=>h) λh=>absurd h.2 e⟩
 .funext i;by_cases d:i∈F
  .rw [if_pos d];by_cases c:i=a
   .rw [if_pos c,if_pos c]
   .rw [if_neg c,if_neg c];exact j i d
  grind
theorem TS (e:f8 F H' H)(c:Nat)(b:Blk):f8 F (H'.put c b) (H.put c b):=by
 intro i d;simp only [AHeap.put];by_cases a:i=c
 .rw [if_pos a,if_pos a]
 .rw [if_neg a,if_neg a];exact e i d
theorem RB (H:AHeap)(a:Nat):(H.aP a).F=H.F/\(H.aP a).next=H.next:=by unfold AHeap.aP;cases H.get a<;>exact ⟨rfl,rfl⟩
theorem yT (a:List Nat):∀ H:AHeap,(fN a H).F=H.F/\(fN a H).next=H.next:=by
 induction a with
 | nil=>intro H;exact ⟨rfl,rfl⟩
 | cons i l ih=>intro H;exact ⟨(ih _).1.trans (RB H i).1,(ih _).2.trans (RB H i).2⟩
theorem LF (H:AHeap)(a i:Nat)(h:i≠a):(H.aP a).get i=H.get i:=by grind [AHeap.aP, AHeap.put]
theorem Cg (b:List Nat):∀ (H:AHeap) (i:Nat),i∉b->(fN b H).get i=H.get i:=by
 induction b with
 | nil=>intro H i _;rfl
 | cons a l ih =>
  intro H i c;simp only [fN];rw [ih _ i (λh=>c (by simp [h])),LF H a i (λe=>c (by simp [e]))]
theorem IO (b:List Nat)(c:∀ i∈b,i∈F):∀ {H H':AHeap},f8 F H' H->f8 F (fN b H') (fN b H):=by
 induction b with
 | nil=>intro H H' h;exact h
 | cons a l ih =>
  intro H H' h;refine ih (λi hi=>c i (by simp [hi])) ?_;have d:=h a (c a dB);unfold AHeap.aP;rw [d];cases H.get a with
  | none=>exact h
  | some k=>exact TS h a _
theorem C8 (a:List Nat)(d:∀ i∈a,i∈F)(c:AHeap):lR (fN a H') c F nid=lR H' c F nid:=by
 simp only [lR,AHeap.mk.injEq];refine ⟨(yT a H').2,by rw [(yT a H').1],?_⟩;funext i;by_cases b:i∈F
 .rw [if_pos b,if_pos b]
 .rw [if_neg b,if_neg b,Cg a H' i (λh=>b (d i h))]
theorem Sr (d:D):∀ i∈dW d,i∈eJ d:=by
 cases d<;>intro i a<;>first|exact a|(simp [dW,lQ] at a;done)|(simp only [dW,lQ,eJ] at a ⊢;exact a)
theorem HE {d:D}(h:f8 (lQ d) H' H):fI H' d=fI H d:=by
 cases d<;>try rfl
 .rename_i a n;simp only [fI,h a (by simp [lQ])]
 .rename_i a n b c;simp only [fI,h a (by simp [lQ])]
theorem HC {d:D}(h:f8 (dW d) H' H):iU H' d=iU H d:=by
 cases d with
 | agg cs =>
  simp only [iU];congr 1;exact bJ λx a=>HE λi b=>h i (bK.2 ⟨x,a,b⟩)
 | _ =>
  have c:=h;simp only [iU];exact HE c
theorem Kt {x:D}(h:f8 (eJ x) H' H):fP H' x=fP H x:=by
 cases x<;>try rfl
 rename_i c a i b;simp only [fP,h c (by simp [eJ])]
theorem Ql {t:TypeId}{x:D}(h:f8 (eJ x) H' H):oH P t x H'=(oH P t x H).on H':=by
 unfold oH;rw [Kt h];cases fP H x with
 | none=>rfl
 | some cs=>cases tk P t<;>rfl
theorem BM {x:D}{n:Nat}(h:f8 (eJ x) H' H):eO x n H'=(eO x n H).on H':=by
 cases x<;>try rfl
 rename_i a b i c;simp only [eO,h a (by simp [eJ])];cases H.get a<;>rfl
theorem DV {x:D}{n:Nat}:(eO x n H).heap=H:=by
 unfold eO;split
 .rfl
 .split<;>rfl
 .rfl
theorem zL {t:TypeId}{x:D}{f:Nat}:(iO P t x f H).heap=H:=by
 unfold iO;split
 .split
  .exact DV
  .rfl
 .rfl
theorem zK {t:TypeId}{x i:D}:(iM P t x i H).heap=H:=by
 unfold iM;split
 .split
  .split<;>rfl
  .split<;>rfl
  .split
   .exact DV
   .rfl
 .rfl
theorem GE {x:D}(h:f8 (eJ x) H' H):jM x H'=(jM x H).on H':=by
 cases x<;>try rfl
 rename_i a b i c;simp only [jM,h a (by simp [eJ])];cases H.get a<;>rfl
theorem Fb {t:TypeId}{x:D}{f:Nat}(h:f8 (eJ x) H' H):iO P t x f H'=(iO P t x f H).on H':=by
 unfold iO;cases bk P t with
 | none=>rfl
 | some b=>cases b with
  | ar sz=>rfl
  | st l =>
   simp only;cases l[f]? with
   | none=>rfl
   | some q=>simp only [BM h];rfl
theorem Fa {t:TypeId}{x i:D}(h:f8 (eJ x) H' H):iM P t x i H'=(iM P t x i H).on H':=by
 cases i<;>try rfl
 rename_i k n;unfold iM;cases x<;>simp only<;>first
  | (cases sl P t<;>rfl)
  | (simp only [BM h];cases Wt P t<;>rfl)
  | skip
 rename_i a m;simp only [h a (by simp [eJ])];cases sl P t<;>cases H.get a<;>rfl
theorem Ny {t:TypeId}{x:D}{a b:Option D}(h:f8 (eJ x) H' H):rI P t x a b H'=(rI P t x a b H).on H':=by
 unfold rI;cases x<;>try rfl
 .simp only;split<;>rfl
 .simp only;split<;>rfl
 .rename_i c n;simp only [h c (by simp [eJ])];split<;>rfl
theorem F3 {t:TypeId}{x:D}{a b:Option D}:(rI P t x a b H).heap=H:=by
 unfold rI;split
 .split<;>rfl
 .split<;>rfl
 .split<;>rfl
 .rfl
theorem R1 {t:TypeId}{x:D}(h:f8 (eJ x) H' H):GF P t x H'=(GF P t x H).on H':=by
 unfold GF;cases P.underlying t with
 | none=>rfl
 | some b =>
  cases b<;>try rfl
  .cases x<;>rfl
  .cases x<;>try rfl
   rename_i a n;simp only [h a (by simp [eJ])];cases H.get a<;>rfl
theorem Km {x:D}(h:f8 (eJ x) H' H):p9 H' x=p9 H x:=by
 cases x<;>try rfl
 rename_i a n;simp only [p9,h a (by simp [eJ])]
structure Loc (r r':AOut) (H':AHeap) (F:List Nat) (nid:Nat):Prop where
 cond:r.cond->r'.cond
 X:r'.X=r.X
 val:r'.val=r.val
 heap:r'.heap=lR H' r.heap F nid
theorem Loc.on {r a:AOut}(h:a=r.on H')(c:r.heap=H)(d:f8 F H' H)(b:¬ H.F nid):Loc r a H' F nid:=by
 subst h;exact ⟨λh=>h,rfl,rfl,by rw [c,iR d b];rfl⟩
theorem Loc.bad (hF:f8 F H' H)(hn:¬ H.F nid):Loc (AOut.bad H) (AOut.bad H') H' F nid:=⟨λh=>h,rfl,rfl,(iR hF hn).symm⟩
theorem DX {t:TypeId}{x v:D}(d:f8 F H' H)(l:∀ i∈eJ x,i∈F)(f:¬ H.F nid):Loc (mN P t x v H) (mN P t x v H') H' F nid:=by
 unfold mN;cases x<;>try (exact Loc.bad d f)
 rename_i e g i j;have b:e∈F:=l e (by simp [eJ]);simp only;rw [d e b];cases m:H.get e with
 | none=>(simp only [];exact Loc.bad d f)
 | some k =>
  simp only [];cases n:k.U[i]? with
  | none=>(simp only [];exact Loc.bad d f)
  | some c =>
   exact ⟨λh=>h,rfl,rfl,vA d f b _⟩
theorem Nz {t:TypeId}{x:D}(c:f8 F H' H)(g:∀ i∈eJ x,i∈F)(e:¬ H.F nid):Loc (wN P t x H) (wN P t x H') H' F nid:=by
 unfold wN;cases x<;>try (exact Loc.bad c e)
 rename_i d f j n;have b:d∈F:=g d (by simp [eJ]);simp only;rw [c d b];cases l:sl P t with
 | none=>(simp only [];exact Loc.bad c e)
 | some s =>
  cases m:H.get d with
  | none=>(simp only [];exact Loc.bad c e)
  | some k =>
   exact ⟨λh=>h,rfl,rfl,vA c e b _⟩
theorem KA {t f:TypeId}{x y:D}(b:f8 F H' H)(l:∀ i∈eJ x,i∈F)(m:∀ i∈eJ y,i∈F)(e:¬ H.F nid)(j:nid<H'.next)(g:nid∈F) :
  Loc (kQ P nid t f x y H) (kQ P nid t f x y H') H' F nid:=by
 unfold kQ;rw [Km (H:=H) (H':=H') λi hi=>b i (m i hi)];cases q:sl P t with
 | none=>(simp only [];exact Loc.bad b e)
 | some s =>
  cases r:p9 H y with
  | none =>
   unfold qG;cases y<;>try (exact Loc.bad b e)
   cases x<;>try (exact Loc.bad b e)
   rename_i d n;cases o:Rt P f with
   | none=>(simp only [];exact Loc.bad b e)
   | some kn =>
    simp only [];have c:d∈F:=l d (by simp [eJ]);rw [b d c];cases p:H.get d with
    | none=>(simp only [];exact Loc.bad b e)
    | some k =>
     exact ⟨λh=>h,rfl,rfl,vA b e c _⟩
  | some ys =>
   simp only [];cases x<;>try (exact Loc.bad b e)
   .exact ⟨λh=>h,rfl,rfl,nQ b j g _⟩
   .rename_i d n;have c:d∈F:=l d (by simp [eJ]);simp only;rw [b d c];cases p:H.get d with
    | none=>(simp only [];exact Loc.bad b e)
    | some k =>
     simp only [];exact ⟨λh=>h,rfl,rfl,vA b e c _⟩
theorem E7 {md:Nat->Bool}{e:Nat->D}{o:Oper}(g:f8 (foot nid e o.op) H' H)(j:¬ H.F nid)(C:nid<H'.next) :
  Loc (GD P nid md e o H) (GD P nid md e o H') H' (foot nid e o.op) nid:=by
 obtain ⟨E,F,G,a0,X,W⟩:=o;have w:sD F=true->∀ x∈F.operands,∀ i∈eJ (fC e x),i∈foot nid e F:=λhh x K i q=>by
  simp only [foot,hh,if_true,aX,bK];exact .inr ⟨x,by simpa using K,q⟩
 have L:In F=true->nid∈foot nid e F:=λh=>by simp [foot,h]
 simp only at g;have I:sD F=true->∀ x∈F.operands,f8 (eJ (fC e x)) H' H:=λhh x K i q=>g i (w hh x K i q);unfold GD;simp only;have r:∀ x:Operand,In F=jD x ->
   Loc (if jD x then E9 P nid (Et md E) G H else ⟨True,True,fC e x,H⟩) (if jD x then E9 P nid (Et md E) G H' else ⟨True,True,fC e x,H'⟩) H' (foot nid e F) nid:=by
  intro x Q;by_cases K:jD x=true
  .rw [if_pos K];rw [if_pos K];unfold E9;generalize Et md E=m;cases m with
   | false=>exact ⟨λh=>h,rfl,rfl,(iR g j).symm⟩
   | true =>
    simp only [if_true];cases hs:sl P G with
    | none=>(simp only [];exact Loc.bad g j)
    | some s=>exact ⟨λh=>h,rfl,rfl,nQ g C (L (Q.trans K)) _⟩
  .rw [if_neg K];rw [if_neg K];exact ⟨λh=>h,rfl,rfl,(iR g j).symm⟩
 cases F<;>try (exact Loc.bad g j)
 case move x=>exact r x rfl
 case assign x=>exact r x rfl
 case pick c a b =>
  refine Loc.on ?_ ?_ g j
  .simp only [AR];split<;>first|rfl|(simp only [wM];split<;>rfl)
  .simp only [AR];split<;>first|rfl|(simp only [wM];split<;>rfl)
 case alloc t =>
  simp only [y0];cases hz:zd P t with
  | none=>(simp only [];exact Loc.bad g j)
  | some z =>
   simp only [];generalize Et md E=m;cases m with
   | false=>exact ⟨λh=>h,rfl,rfl,(iR g j).symm⟩
   | true=>exact ⟨λh=>h,rfl,rfl,nQ g C (L rfl) _⟩
 case box t x =>
  simp only [NA];generalize Et md E=m;cases m with
  | false=>exact ⟨λh=>h,rfl,rfl,(iR g j).symm⟩
  | true=>exact ⟨λh=>h,rfl,rfl,nQ g C (L rfl) _⟩
 case build t ps =>
  refine Loc.on ?_ ?_ g j
  .simp only [uN];split
   .split<;>rfl
   .rfl
  .simp only [uN];split
   .split<;>rfl
   .rfl
 case buildSlice t m ps =>
  have k:∀ i∈(ps.toList.flatMap λp=>Nn md (fC e p.2)),i∈foot nid e (.buildSlice t m ps):=λi q=>by
   obtain ⟨p,U,q⟩:=bK.1 q;refine w rfl p.2 ?_ i (Sr _ i (XB q));simp only [Op.operands];simpa using ⟨p.1,by simpa using U⟩
  have R:(ps.toList.map λp=>(p.1,S2 md H' (fC e p.2)))=ps.toList.map λp=>(p.1,S2 md H (fC e p.2)):=bJ λp U=>by
   congr 1;unfold S2;split
   .rfl
   .rename_i hb;exact HC λi q=>g i (k i (bK.2 ⟨p,U,by unfold Nn;rw [if_neg hb];exact q⟩))
  simp only;rw [R];have V:=IO _ k g;have O:∀ H1:AHeap,lR (fN (ps.toList.flatMap λp=>Nn md (fC e p.2)) H') H1 (foot nid e (.buildSlice t m ps)) nid=lR H' H1 (foot nid e (.buildSlice t m ps)) nid:=λH1=>C8 _ k H1;have N:Loc (AOut.bad (fN (ps.toList.flatMap λp=>Nn md (fC e p.2)) H)) (AOut.bad (fN (ps.toList.flatMap λp=>Nn md (fC e p.2)) H')) H' (foot nid e (.buildSlice t m ps)) nid :=
   ⟨λh=>h,rfl,rfl,by
    show fN _ H'=lR H' (fN _ H) _ nid;rw [<- O,iR V (by rw [(yT _ H).1];exact j)]⟩
  simp only [iV];cases hs:sl P t with
  | none=>(simp only [];exact N)
  | some s =>
   simp only [];cases a1:BJ (λi=>some (i * s.Y,s.Y)) (List.replicate m s.z).flatten (ps.toList.map λp=>(p.1,S2 md H (fC e p.2))) with
   | none=>(simp only [];exact N)
   | some cs =>
    simp only [];generalize Et md E=m';cases m' with
    | false =>
     refine ⟨λh=>h,rfl,rfl,?_⟩;simp only [fA,if_false];rw [<- O,iR V (by rw [(yT _ H).1];exact j)]
    | true =>
     refine ⟨λh=>h,rfl,rfl,?_⟩;simp only [if_true];rw [<- O];exact nQ V (by rw [(yT _ H').2];exact C) (L rfl) _
 case load t a=>exact Loc.on (Ql (I rfl a (by simp [Op.operands]))) (by simp only [oH];split<;>(try split)<;>rfl) g j
 case store t a v =>
  have Y:=w rfl a (by simp [Op.operands]);have hv:=w rfl v (by simp [Op.operands]);simp only;by_cases Q:md 1000000=true
  .rw [if_pos Q];rw [if_pos Q];have k:∀ i∈dW (fC e v),i∈foot nid e (.store t a v):=λi q=>hv i (Sr _ i q);rw [HC (H:=H) (H':=H') λi q=>g i (k i q)];have S:=DX (P:=P) (t:=t) (v:=iU H (fC e v)) (nid:=nid) (IO _ k g) Y (by rw [(yT _ H).1];exact j);exact ⟨S.cond,S.X,S.val,by rw [S.heap,C8 _ k]⟩
  .rw [if_neg Q];rw [if_neg Q];exact DX g Y j
 case nilCheck x=>exact Loc.on (GE (I rfl x (by simp [Op.operands]))) (by simp only [jM];split<;>(try split)<;>rfl) g j
 case binOp F t x y t' =>
  refine Loc.on ?_ ?_ g j
  .simp only [tB];split<;>first|rfl|(simp only [JD];split<;>first|rfl|(split<;>rfl)|(simp only [Kz];split<;>rfl))
  .simp only [tB];split<;>first|rfl|(simp only [JD];split<;>first|rfl|(split<;>rfl)|(simp only [Kz];split<;>rfl))
 case unOp F t x =>
  refine Loc.on ?_ ?_ g j
  .simp only [Ww];split<;>rfl
  .simp only [Ww];split<;>rfl
 case convert s d x =>
  refine Loc.on ?_ ?_ g j
  .simp only [nK];split<;>(try split)<;>rfl
  .simp only [nK];split<;>(try split)<;>rfl
 case makeFunc fn first caps =>
  cases fn<;>try (exact Loc.bad g j)
  simp only;by_cases T:first.isEmpty=true
  .rw [if_pos T];rw [if_pos T];exact ⟨λh=>h,rfl,rfl,(iR g j).symm⟩
  .rw [if_neg T];rw [if_neg T];exact Loc.bad g j
 case makeSlice t l c =>
  simp only [D0];split
  .exact ⟨λh=>h,rfl,rfl,nQ g C (L rfl) _⟩
  .exact Loc.bad g j
 case slice t x lo q mx =>
  cases mx<;>try (exact Loc.bad g j)
  exact Loc.on (Ny (I rfl x (by simp [Op.operands]))) F3 g j
 case fieldAddr t x f=>exact Loc.on (Fb (I rfl x (by simp [Op.operands]))) zL g j
 case indexAddr t x i=>exact Loc.on (Fa (I rfl x (by simp [Op.operands]))) zK g j
 case index t x i =>
  refine Loc.on ?_ ?_ g j
  .simp only [uM];split<;>(try split)<;>(try split)<;>rfl
  .simp only [uM];split<;>(try split)<;>(try split)<;>rfl
 case extract t i =>
  refine Loc.on ?_ ?_ g j
  .simp only [nJ];split<;>rfl
  .simp only [nJ];split<;>rfl
 case call c =>
  obtain ⟨callee,args,Z⟩:=c;cases callee<;>try (exact Loc.bad g j)
  rename_i b;simp only;have n:∀ d∈args.toList.map (fC e),∀ i∈eJ d,i∈foot nid e (.call { callee:=.builtin b,args:=args,argTypes:=Z }):=by
   intro d hd i q;obtain ⟨x,K,rfl⟩:=aW.1 hd;exact w rfl x (by simp only [Op.operands,Call.operands];simpa using K) i q
  generalize args.toList.map (fC e)=az at n ⊢;unfold xX;split
  .exact Loc.on (R1 λi q=>g i (n _ (bG.2 rfl) i q)) (by
    simp only [GF];split
    .split<;>(try split)<;>rfl
    .split<;>rfl
    .rfl
    .rfl) g j
  .exact KA g (n _ (fO ..)) (n _ (d7 _ (bG.2 rfl))) j C (by simp [foot,In])
  .exact Nz g (n _ (bG.2 rfl)) j
  .refine Loc.on ?_ ?_ g j
   .simp only [DZ];split<;>rfl
   .simp only [DZ];split<;>rfl
  .refine Loc.on ?_ ?_ g j
   .simp only [DZ];split<;>rfl
   .simp only [DZ];split<;>rfl
  .exact Loc.bad g j
theorem Wx {md:Nat->Bool}{e:Nat->D}{o:Oper}(h:xY o.op=false):(GD P nid md e o H).heap=H:=by
 obtain ⟨u,k,n,p,m,l⟩:=o;simp only at h;unfold GD;cases k<;>first|(simp [xY] at h;done)|skip
 case move x =>
  simp only [xY] at h;simp [h]
 case assign x =>
  simp only [xY] at h;simp [h]
 case pick c a b=>simp only [AR];split<;>first|rfl|(simp only [wM];split<;>rfl)
 case build t ps =>
  simp only [uN];split
  .split<;>rfl
  .rfl
 case load t a=>simp only [oH];split<;>(try split)<;>rfl
 case nilCheck x=>simp only [jM];split<;>(try split)<;>rfl
 case binOp k t x y t'=>simp only [tB];split<;>first|rfl|(simp only [JD];split<;>first|rfl|(split<;>rfl)|(simp only [Kz];split<;>rfl))
 case unOp k t x=>simp only [Ww];split<;>rfl
 case convert s d x=>simp only [nK];split<;>(try split)<;>rfl
 case makeFunc r first caps =>
  cases r<;>try rfl
  simp only;split<;>rfl
 case slice t x lo hi q =>
  cases q<;>try rfl
  exact F3
 case fieldAddr t x f=>exact zL
 case indexAddr t x i=>exact zK
 case index t x i=>simp only [uM];split<;>(try split)<;>(try split)<;>rfl
 case extract t i=>simp only [nJ];split<;>rfl
 case call c =>
  obtain ⟨g,j,v⟩:=c;cases g<;>try rfl
  rename_i b;simp only;generalize j.toList.map (fC e)=az;unfold xX;split
  .simp only [GF];split
   .split<;>(try split)<;>rfl
   .split<;>rfl
   .rfl
   .rfl
  .simp [xY] at h
  .simp [xY] at h
  .simp only [DZ];split<;>rfl
  .simp only [DZ];split<;>rfl
  .rfl
 all_goals rfl
end
end Go.Abs
end
section
namespace Go.Abs
theorem Iu {ops:Array Oper}{o:Oper}{t:Tmp}(h:Operand.tmp t∈o.op.operands):t∈o.looksAt ops:=by
 simp only [Oper.looksAt,aX,List.mem_filterMap];exact .inl ⟨.tmp t,by simpa using h,rfl⟩
theorem Po {ops:Array Oper}{o:Oper}{j:Nat}{b:Bool}{t:Tmp}(a:o.guard=some (j,b))(h:(ops[j]?).bind (·.dst)=some t):t∈o.looksAt ops:=by
 simp only [Oper.looksAt,aX,a];grind
section
variable {P:Program} {md:Nat→Bool} {ops:Array Oper} {nid:Nat}
def w8 (H' H1:AHeap)(F N:List Nat):AHeap:=⟨H'.next,λi=>H'.F i\/(i∈N/\H1.F i),λi=>if i∈F then H1.get i else H'.get i⟩
theorem O6 (H' b:AHeap)(F:List Nat)(nid:Nat):lR H' b F nid=w8 H' b F [nid]:=by
 simp only [lR,w8,AHeap.mk.injEq,true_and,and_true];grind
theorem Lh {H H':AHeap}{F N:List Nat}(c:f8 F H' H)(b:∀ i∈N,¬ H.F i):w8 H' H F N=H':=by
 obtain ⟨n,d,g⟩:=H';simp only [w8,AHeap.mk.injEq,true_and];refine ⟨?_,?_⟩
 .funext i;exact propext ⟨λh=>h.elim id λh=>absurd h.2 (b i h.1),.inl⟩
 .funext i;by_cases a:i∈F
  .rw [if_pos a];exact (c i a).symm
  grind
theorem qV:∀ (q:List (Nat × Blk)) (H:AHeap),(∀ p∈q,p.1<H.next)->(H.ac q).next=H.next
 | [],H,_=>rfl
 | p :: l,H,h=>by
  have h1:(H.push p.1 p.2).next=H.next:=by simp only [AHeap.push,if_pos (h p dB)]
  simp only [AHeap.ac];rw [qV l _ (λx hx=>by rw [h1];exact h x (by simp [hx])),h1]
theorem tV:∀ (q:List (Nat × Blk)) (H:AHeap) (i:Nat),(H.ac q).F i↔H.F i\/i∈q.map (·.1)
 | [],H,i=>by simp [AHeap.ac]
 | p :: l,H,i=>by
  simp only [AHeap.ac];rw [tV l];simp only [AHeap.push,iH,aV];constructor
  .rintro ((h|h)|h)
   .exact .inr (.inl h)
   .exact .inl h
   .exact .inr (.inr h)
  .rintro (h|h|h)
   .exact .inl (.inr h)
   .exact .inl (.inl h)
   .exact .inr h
theorem Lc:∀ (q:List (Nat × Blk)) (H H':AHeap) (i:Nat),(i∈q.map (·.1)\/H.get i=H'.get i)->(H.ac q).get i=(H'.ac q).get i
 | [],H,H',i,h=>by
  rcases h with h|h
  .simp at h
  .exact h
 | p :: l,H,H',i,h=>by
  simp only [AHeap.ac];refine Lc l _ _ i ?_;by_cases hl:i∈l.map (·.1)
  .exact .inl hl
  .right
   simp only [AHeap.push];by_cases hp:i=p.1
   .simp [hp]
   .simp only [hp,if_false];rcases h with h|h
    .simp only [iH,aV] at h;rcases h with h|h
     .exact absurd h hp
     .exact absurd h hl
    .exact h
theorem oU:∀ (q:List (Nat × Blk)) (H:AHeap) (i:Nat),i∉q.map (·.1)->(H.ac q).get i=H.get i
 | [],H,i,_=>rfl
 | p :: l,H,i,h=>by
  simp only [iH,aV,not_or] at h;simp only [AHeap.ac];rw [oU l _ i h.2];simp [AHeap.push,h.1]
theorem wZ:∀ (u:List (Nat × Blk)) (H:AHeap),(H.ag u).next=H.next
 | [],_=>rfl
 | p :: l,H=>wZ l (H.put p.1 p.2)
theorem MK:∀ (u:List (Nat × Blk)) (H:AHeap) (i:Nat),(H.ag u).F i↔H.F i
 | [],_,_=>Iff.rfl
 | p :: l,H,i=>MK l (H.put p.1 p.2) i
theorem O1:∀ (u:List (Nat × Blk)) (H H':AHeap) (i:Nat),H.get i=H'.get i->(H.ag u).get i=(H'.ag u).get i
 | [],_,_,_,h=>h
 | p :: l,H,H',i,h=>O1 l _ _ i (by simp only [AHeap.put];split<;>first|rfl|exact h)
theorem yL:∀ (u:List (Nat × Blk)) (H:AHeap) (i:Nat),(∀ p∈u,p.1≠i)->(H.ag u).get i=H.get i
 | [],H,i,_=>rfl
 | p :: l,H,i,h=>by
  simp only [AHeap.ag];rw [yL l _ i λx hx=>h x (by simp [hx])];have:=(h p dB).symm;simp [AHeap.put,this]
theorem Ib {H H':AHeap}{S:List Nat}{u q:List (Nat × Blk)}(m:∀ p∈u,p.1∈S)(j:f8 (S++q.map (·.1)) H' H)(b:∀ p∈q,p.1<H'.next):(H'.ag u).ac q=w8 H' ((H.ag u).ac q) (S++q.map (·.1)) (q.map (·.1)):=by
 have d:=qV q (H'.ag u) (by rw [wZ];exact b);have c:=tV q (H'.ag u);have f:=Lc q (H'.ag u) (H.ag u);have e:=oU q (H'.ag u);have k:=tV q (H.ag u);rw [wZ] at d;simp only [MK] at c k;generalize (H'.ag u).ac q=X at d c f e;obtain ⟨n,l,g⟩:=X;simp only [w8,AHeap.mk.injEq];refine ⟨d,funext λi=>propext ?_,funext λi=>?_⟩
 .rw [show l i↔_ from c i];grind
 .by_cases a:i∈S++q.map (·.1)
  .rw [if_pos a];exact f i (.inr (O1 u _ _ i (j i a)))
  .rw [if_neg a];refine (e i λh=>a (by simp only [aX];exact .inr h)).trans (yL u _ i λp hp he=>a ?_);grind
structure Txt (P:Program) (md:Nat->Bool) (ops:Array Oper) (m nid:Nat) (o:Oper) (e:Nat->D) (H:AHeap) (v:D) (H1:AHeap) (F N:List Nat):Prop where
 ch:H1=w8 H H1 F N
 new:∀ id∈N,¬ H.F id/\(id=nid\/(id<m/\H1.F id))
 still:nO md o=false->H1=H
 dR:sD o.op=false->F=[]
 any:∀ e' H',(∀ t∈o.looksAt ops,e' t=e t)->f8 F H' H->nid<H'.next->¬ H'.F nid->(∀ id∈N,id<H'.next/\¬ H'.F id) ->
  qF P md (some m) nid ops e' o H' λv' H2 _=>v'=v/\H2=w8 H' H1 F N
theorem Pi {o:Op}(h:sD o=false):In o=false:=by
 cases o<;>first|rfl|(simp [sD] at h;done)|(simp only [sD] at h;simp only [In];exact h)
theorem PH {e:Nat->D}{o:Op}(h:sD o=false):foot nid e o=[]:=by simp [foot,h,Pi h]
theorem DF {e a:Nat->D}{o:Oper}(h:∀ t∈o.looksAt ops,a t=e t):∀ x∈o.op.operands,fC a x=fC e x:=by
 intro x b;cases x with
 | tmp t=>exact h t (Iu b)
 | _=>rfl
theorem BS {e b:Nat->D}{o:Oper}(h:∀ t∈o.looksAt ops,b t=e t):∀ x∈o.op.operands,fC (gE b o.op) x=fC (gE e o.op) x:=by
 intro x d;cases x with
 | tmp t =>
  have a:=h t (Iu d);simp only [fC];cases o.op<;>simp only [gE,Fh,a]
  rename_i c _ _;cases c<;>simp only [a]
 | _=>rfl
theorem Lj {e e':Nat->D}:∀ (l:List Operand),(∀ x∈l,og e' x=og e x)->UP e' l=UP e l
 | [],_=>rfl
 | x :: l,h=>by simp only [UP,h x dB,Lj l λy hy=>h y (by simp [hy])]
theorem Loc.ch {r:AOut}{H:AHeap}{F:List Nat}(h:Loc r r H F nid):r.heap=lR H r.heap F nid:=h.heap
theorem UK {m:Nat}{e:Nat->D}{o:Oper}{H:AHeap}{K:D->AHeap->List Nat->Prop}(h:qF P md (some m) nid ops e o H K)(T:¬ H.F nid)(a0:nid<H.next)(Z:m<=H.next) :
  ∃ v H1 F N,Txt P md ops m nid o e H v H1 F N/\K v H1 F:=by
 unfold qF at h;have s:∀ F:List Nat,H=w8 H H F [nid]:=λF=>(Lh (λ_ _=>rfl) (eQ T)).symm;have a:∀ id∈[nid],¬ H.F id/\∀ H1:AHeap,(id=nid\/(id<m/\H1.F id)):=λid hid=>by
  grind
 have z:∀ {H':AHeap},f8 [] H' H->∀ {F:List Nat},f8 F H' H->w8 H' H F [nid]=H':=λ_ _ n=>Lh n (eQ T);cases L:o.guard with
 | none =>
  simp only [L] at h;cases l:gZ e o with
  | some fa =>
   obtain ⟨f,X⟩:=fa;simp only [l] at h;have hh:sD o.op=true/\GP md o=Et md o.dst:=by
    unfold gZ at l;split at l
    .rename_i O;unfold GP;rw [O];exact ⟨rfl,rfl⟩
    .cases l
   rcases h with ⟨r,S,B,G⟩|⟨W,r,S,u,q,Y,hq,B,G⟩
   .refine ⟨r,H,S,[nid],⟨s S,λid hid=>⟨(a id hid).1,(a id hid).2 _⟩,λ_=>rfl,λh=>(by rw [hh.1] at h;cases h),λe' H' k n d E U=>?_⟩,G⟩;unfold qF;simp only [L];rw [qC (DF k),l];exact .inl ⟨r,S,λH'' hF'=>B H'' λi hi=>(hF' i hi).trans (n i hi),rfl,(z (λ_ h=>by cases h) n).symm⟩
   .have a1:=tV q (H.ag u);refine ⟨r,(H.ag u).ac q,S++q.map (·.1),q.map (·.1),⟨Ib Y (λ_ _=>rfl) (λp C=>cO (hq p C).1 Z),λid hid=>?_,λhw=>?_,λh=>(by rw [hh.1] at h;cases h),λe' H' k n d E U=>?_⟩,G⟩
    .obtain ⟨p,C,rfl⟩:=aW.1 hid;exact ⟨(hq p C).2,.inr ⟨(hq p C).1,(a1 _).2 (.inr hid)⟩⟩
    .unfold nO at hw;rw [hh.2,W] at hw;simp at hw
    .unfold qF;simp only [L];rw [qC (DF k),l];refine .inr ⟨W,r,S,u,q,Y,λp C=>⟨(hq p C).1,(U p.1 (aW.2 ⟨p,C,rfl⟩)).2⟩,λH'' hF' hn''=>B H'' (λi hi=>(hF' i hi).trans (n i (by simp [hi]))) hn'',rfl,?_⟩;exact Ib Y n λp C=>(U p.1 (aW.2 ⟨p,C,rfl⟩)).1
  | none =>
   simp only [l] at h;obtain ⟨B,G⟩:=h;have hl:=E7 (P:=P) (md:=md) (e:=e) (o:=o) (H:=H) (H':=H) (nid:=nid) (λ_ _=>rfl) T a0;refine ⟨_,_,_,[nid],⟨(O6 _ _ _ _) ▸ hl.heap,λid hid=>⟨(a id hid).1,(a id hid).2 _⟩,λhw=>Wx (by unfold nO at hw;simp at hw;exact hw.1),λhh=>PH hh,λe' H' k n d E U=>?_⟩,G (λh=>by cases h)⟩;unfold qF;simp only [L];rw [qC (DF k),l];simp only;rw [E8 (DF k)];have w:=E7 (P:=P) (md:=md) (e:=e) (o:=o) (H:=H) (H':=H') (nid:=nid) n T d;exact ⟨w.cond B,λ_=>⟨w.val,(O6 _ _ _ _) ▸ w.heap⟩⟩
 | some jb =>
  obtain ⟨j,b⟩:=jb;simp only [L] at h;cases R:gD ops e j with
  | none=>simp [R] at h
  | some gc =>
   obtain ⟨g,c⟩:=gc;simp only [R] at h;obtain ⟨V,h⟩:=h;have J:∀ e',(∀ t∈o.looksAt ops,e' t=e t)->gD ops e' j=some (g,c):=by
    intro e' k;rw [<- R];unfold gD;cases ht:(ops[j]?).bind (·.dst) with
    | none=>rfl
    | some t=>simp only [k t (Po L ht)]
   have I:∀ e',(∀ t∈o.looksAt ops,e' t=e t)->UP e' (gO o.op)=UP e (gO o.op):=by
    intro e' k;refine Lj _ λx hx=>?_;cases x with
    | tmp t=>simp only [og,k t (Iu (Y1 hx))]
    | _=>rfl
   cases l:gZ (gE e o.op) o with
   | some fa =>
    obtain ⟨f,X⟩:=fa;simp only [l] at h;obtain ⟨r,S,B,G⟩:=h;have hh:sD o.op=true:=by
     unfold gZ at l;split at l
     .rename_i O;rw [O];rfl
     .cases l
    refine ⟨_,H,S,[nid],⟨s S,λid hid=>⟨(a id hid).1,(a id hid).2 _⟩,λ_=>rfl,λh=>(by rw [hh] at h;cases h),λe' H' k n d E U=>?_⟩,G⟩;unfold qF;simp only [L,J e' k,I e' k];rw [qC (BS k),l];exact ⟨V,r,S,λhq H'' hF'=>B hq H'' λi hi=>(hF' i hi).trans (n i hi),rfl,(z (λ_ h=>by cases h) n).symm⟩
   | none =>
    simp only [l] at h;obtain ⟨B,G⟩:=h;refine ⟨_,H,_,[nid],⟨s _,λid hid=>⟨(a id hid).1,(a id hid).2 _⟩,λhw=>rfl,λhh=>PH hh,λe' H' k n d E U=>?_⟩,G (λh=>by cases h)⟩;unfold qF;simp only [L,J e' k,I e' k];rw [qC (BS k),l];simp only;rw [E8 (BS k)];have w:=E7 (P:=P) (md:=md) (e:=gE e o.op) (o:=o) (H:=H) (H':=H') (nid:=nid) n T d;refine ⟨V,λhq=>⟨w.cond (B hq).1,?_⟩,λ_=>⟨by rw [w.val],(z (λ_ h=>by cases h) n).symm⟩⟩;rw [w.heap,(B hq).2,iR n T]
end
structure Run (P:Program) (md:Nat->Bool) (ops:Array Oper) (sp:List (Nat × Nat)) (n0:Nat) (es:Nat->Nat->D) (Hs:Nat->AHeap) (vs:Nat->D) (Fs Ns:Nat->List Nat) (i0:Nat) (l:List Oper):Prop where
 step:∀ (j:Nat) (o:Oper),l[j]?=some o->es (i0+j+1)=pG (es (i0+j)) o.dst (vs (i0+j))/\Txt P md ops n0 (n0+(i0+j)) o (es (i0+j)) (Hs (i0+j)) (vs (i0+j)) (Hs (i0+j+1)) (Fs (i0+j)) (Ns (i0+j))
 apart:∀ (k j:Nat),k<j->j<l.length->(i0+k,i0+j)∈sp->∀ x∈Fs (i0+k),x∉Fs (i0+j)
theorem L2 {P:Program}{md:Nat->Bool}{ops:Array Oper}{sp:List (Nat × Nat)}{n0 nn:Nat}:∀ (l:List Oper) (i:Nat) (acc:List (Nat × List Nat)) (e:Nat->D) (H:AHeap) (K:(Nat->D)->AHeap->Prop),
  j9 P md ops sp n0 i l acc e H K->(∀ id,H.F id->id<n0+i)->H.next=nn->n0+i+l.length<=nn ->
  ∃ (es:Nat->Nat->D) (Hs:Nat->AHeap) (vs:Nat->D) (Fs Ns:Nat->List Nat),es i=e/\Hs i=H/\K (es (i+l.length)) (Hs (i+l.length))/\Run P md ops sp n0 es Hs vs Fs Ns i l /\
   (∀ (j:Nat),j<l.length->∀ p∈acc,(p.1,i+j)∈sp->∀ x∈p.2,x∉Fs (i+j))
 | [],i,acc,e,H,K,h,hal,hnn,hle=>by
  refine ⟨λ_=>e,λ_=>H,λ_=>.junk,λ_=>[],λ_=>[],rfl,rfl,h,⟨λj o h=>by simp at h,λk j _ h=>by simp at h⟩,λj h=>by simp at h⟩
 | o :: l,i,acc,e,H,K,h,hal,hnn,hle=>by
  unfold j9 at h;simp only [eZ] at hle;have hn:¬ H.F (n0+i):=λh=>by have:=hal _ h;omega
  have hlt:n0+i<H.next:=aD;obtain ⟨v,H1,F,N,hT,hchk,hrest⟩:=UK h hn hlt aD;have hal1:∀ id,H1.F id->id<n0+(i+1):=λid hid=>by
   rw [hT.ch] at hid;rcases hid with hid|⟨hid,_⟩
   .have:=hal id hid;omega
   .rcases (hT.new id hid).2 with h|⟨h,_⟩<;>omega
  have hnn1:H1.next=nn:=by rw [hT.ch];exact hnn
  obtain ⟨es,Hs,vs,Fs,Ns,he,hH,hK,hrun,hacc⟩:=L2 l (i+1) _ _ _ _ hrest hal1 hnn1 aD;refine ⟨λk=>if k=i then e else es k,λk=>if k=i then H else Hs k,λk=>if k=i then v else vs k,λk=>if k=i then F else Fs k,λk=>if k=i then N else Ns k,by simp,by simp,?_,⟨λj o' ho'=>?_,λk j hkj hj hsp=>?_⟩,λj hj p hp hsp=>?_⟩
  .have:i+(o :: l).length≠i:=dB;simp only [this,if_false];rw [show i+(o :: l).length=i+1+l.length by simp;omega];exact hK
  .cases j with
   | zero =>
    simp only [l5,bH] at ho';subst ho';have:i+0+1≠i:=aD;simp only [this,if_false,uT,if_true];rw [show i+1=i+1 from rfl,he,hH];exact ⟨rfl,hT⟩
   | succ j =>
    have h1:i+(j+1)≠i:=aD;have h2:i+(j+1)+1≠i:=aD;simp only [h1,h2,if_false];have:=hrun.step j o' (eQ ho');rw [(aD:i+1+j=i+(j+1))] at this;exact this
  .have hj0:i+j≠i:=aD;simp only [hj0,if_false];cases j with
   | zero=>omega
   | succ j =>
    simp only [eZ] at hj;by_cases hk:k=0
    .subst hk;simp only [uT,if_true] at hsp ⊢;have:=hacc j aD (i,F) dB;rw [(aD:i+1+j=i+(j+1))] at this;exact this hsp
    .have hk0:i+k≠i:=aD;simp only [hk0,if_false];have:=hrun.apart (k - 1) j aD aD;rw [(aD:i+1+(k - 1)=i+k),(aD:i+1+j=i+(j+1))] at this;exact this hsp
  .cases j with
   | zero =>
    simp only [uT,if_true] at hsp ⊢;unfold chk at hchk;cases sp with
    | nil=>simp at hsp
    | cons a sp=>exact hchk p hp hsp
   | succ j =>
    have h1:i+(j+1)≠i:=aD;simp only [h1,if_false];simp only [eZ] at hj;have:=hacc j aD p (by simp [hp]);rw [(aD:i+1+j=i+(j+1))] at this;exact this hsp
end Go.Abs
end
section
namespace Go.Abs
theorem EB {p:Nat->Bool}{i:Nat}:∀ (n:Nat),i<n->p i=true->(∀ k,i<k->k<n->p k=false)->gS p n=some i
 | 0,h,_,_=>by omega
 | n+1,h,hp,hk=>by
  by_cases hi:i=n
  .subst hi;simp [gS,hp]
  .simp only [gS,hk n aD aD,fA,if_false];exact EB n aD hp λk h1 h2=>hk k h1 aD
section
variable (md:Nat→Bool) (ops:Array Oper) (n0:Nat) (e0:Nat→D) (H0:AHeap) (Hs:Nat→AHeap) (vs:Nat→D) (Fs Ns:Nat→List Nat)
def n3 (i:Nat):Option Tmp:=(ops[i]?).bind (·.dst)
def rU (i:Nat):Bool:=match ops[i]? with|some o=>nO md o|none=>false
def eS (S:Nat->Bool)(m:Nat):Nat->D:=λt =>
 match gS (λk=>S k&&(n3 ops k==some t)) m with
 | some k=>vs k
 | none=>e0 t
def HS (S:Nat->Bool)(m:Nat):AHeap where
 next:=n0+ops.size
 F:=λid=>H0.F id\/∃ k,k<m/\S k=true/\id∈Ns k/\(Hs (k+1)).F id
 get:=λid=>match gS (λk=>S k&&(rU md ops k&&(Fs k).contains id)) m with
  | some k=>(Hs (k+1)).get id
  | none=>H0.get id
end
section
variable {P:Program} {md:Nat→Bool} {ops:Array Oper} {sp:List (Nat × Nat)} {n0:Nat} {es:Nat→Nat→D} {Hs:Nat→AHeap} {vs:Nat→D} {Fs Ns:Nat→List Nat}
theorem mY (i:Nat):ops.toList[i]?=ops[i]?:=dB
theorem yD (hr:Run P md ops sp n0 es Hs vs Fs Ns 0 ops.toList)(hn:(Hs 0).next=n0+ops.size):∀ i,i<=ops.size->es i=eS ops (es 0) vs (λ_=>true) i/\Hs i=HS md ops n0 (Hs 0) Hs Fs Ns (λ_=>true) i
 | 0,_=>⟨by funext t;rfl,by
   generalize hH:Hs 0=X at hn;obtain ⟨nx,al,g⟩:=X;simp only [HS,AHeap.mk.injEq];refine ⟨hn,funext λid=>propext ⟨.inl,λh=>h.elim (λh=>h) λ⟨k,hk,_⟩=>by omega⟩,funext λid=>rfl⟩⟩
 | i+1,hi=>by
  obtain ⟨ih1,ih2⟩:=yD hr hn i aD;have hlt:i<ops.size:=aD;have ho:ops[i]?=some ops[i]:=bM hlt;obtain ⟨h1,hT⟩:=hr.step i ops[i] (by rw [mY,ho]);simp only [eR] at h1 hT;refine ⟨?_,?_⟩
  .rw [h1,ih1];funext t;simp only [eS,gS,gW];have hd:n3 ops i=ops[i].dst:=by simp [n3,ho]
   cases hdd:ops[i].dst with
   | none=>simp [pG,hd,hdd,eS]
   | some d =>
    by_cases ht:t=d
    .subst ht;simp [pG,hd,hdd]
    .have ht':¬ d=t:=λh=>ht h.symm;simp [pG,hd,hdd,ht,ht',eS]
  .have hself:=hT.ch;have hw:rU md ops i=nO md ops[i]:=by simp [rU,ho]
   have hget:∀ id,(Hs (i+1)).get id=if (rU md ops i&&(Fs i).contains id)=true then (Hs (i+1)).get id else (Hs i).get id:=by
    intro id;split
    .rfl
    .rename_i hc;by_cases hwr:rU md ops i=true
     .have hnc:id∉Fs i:=λh=>hc (by simp [hwr,h]);rw [hself];simp [w8,hnc]
     .rw [hT.still (by rw [<- hw];simpa using hwr)]
   have hnext:(Hs (i+1)).next=n0+ops.size:=by rw [hself,ih2];rfl
   have halq:∀ id,(Hs (i+1)).F id↔(Hs i).F id\/(id∈Ns i/\(Hs (i+1)).F id):=λid=>by
    constructor
    .intro h;rw [hself] at h;exact h
    .intro h;rw [hself];exact h
   generalize hH:Hs (i+1)=X at hget hnext halq;obtain ⟨nx,al,g⟩:=X;simp only [HS,AHeap.mk.injEq];refine ⟨hnext,funext λid=>propext ?_,funext λid=>?_⟩
   .rw [show al id↔_ from halq id,ih2];simp only [HS];constructor
    .rintro ((h|⟨k,hk,_,hm,h⟩)|⟨hm,h⟩)
     .exact .inl h
     .exact .inr ⟨k,aD,trivial,hm,h⟩
     .exact .inr ⟨i,aD,trivial,hm,by rw [hH];exact h⟩
    .rintro (h|⟨k,hk,_,hm,h⟩)
     .exact .inl (.inl h)
     .by_cases hki:k=i
      .subst hki;rw [hH] at h;exact .inr ⟨hm,h⟩
      .exact .inl (.inr ⟨k,aD,trivial,hm,h⟩)
   .have:=hget id;simp only at this;rw [this,ih2];simp only [HS,gS,gW];split
    .simp only [hH]
    .rfl
theorem tD (h:x7 md ops sp=true){i j:Nat}(a:i<j)(d:j<ops.size) :
  ((Qd ops.toList []).getD j 0).testBit i=true\/(Nj ops (ops[i]' aD) ops[j]=false/\(Jn md (ops[i]' aD) ops[j]=false\/(i,j)∈sp)):=by
 unfold x7 at h;simp only [c9,bA] at h;have c:=h j d;rw [bM d] at c;simp only [aN,c9,bA] at c;have b:=c.2 i a;rw [bM aD] at b;simp only [cZ,aN,cD,zU] at b;exact b
theorem To (h:x7 md ops sp=true){j:Nat}{o:Oper}(c:ops[j]?=some o):∀ e∈o.after.toList,Region.binds .any e=true->e.on<j:=by
 have d:j<ops.size:=(sS.1 c).1;unfold x7 at h;simp only [c9,bA] at h;have b:=h j d;rw [c] at b;simp only [aN,c9,cZ,cD,decide_eq_true_eq] at b;intro e f g;rcases b.1.1 e f with a|a
 .rw [g] at a;cases a
 .exact a
variable {S:Nat→Bool} {i:Nat}
def nW (S:Nat->Bool)(i:Nat):Nat->Bool:=λk=>k==i||S k
theorem L5 {o:Op}(h:xY o=true):sD o=true:=by
 cases o<;>first|rfl|(simp [xY] at h;done)|exact h
theorem rK {md:Nat->Bool}{o:Oper}(h:nO md o=true):sD o.op=true:=by
 unfold nO at h;rw [cZ] at h;rcases h with h|h
 .exact L5 h
 .unfold GP at h;split at h
  .rename_i a;rw [a];rfl
  .cases h
theorem AO {x y:Oper}(h:Nj ops x y=false):(∀ t,x.dst=some t->t∉y.looksAt ops/\y.dst≠some t)/\(∀ t,y.dst=some t->t∉x.looksAt ops):=by
 have:=Oper.apart_spec (by simpa [Nj] using h);grind
theorem FE (e:x7 md ops sp=true)(d:NC ops S)(c:NC ops (nW S i))(f:i<ops.size)(b:S i=false) :
  (∀ k,k<i->(((Qd ops.toList []).getD i 0).testBit k=true)->S k=true)/\(∀ k,i<k->k<ops.size->((Qd ops.toList []).getD k 0).testBit i=true->S k=false):=by
 refine ⟨λk hk hb=>?_,λk hk hk2 hb=>?_⟩
 .have:=LU c i k (by simp [nW]) hb;simp only [nW,cZ,beq_iff_eq] at this;grind
 .cases a:S k with
  | false=>rfl
  | true=>have:=LU d k i a hb;rw [b] at this;cases this
theorem La (r:Run P md ops sp n0 es Hs vs Fs Ns 0 ops.toList)(A:(Hs 0).next=n0+ops.size)(o:x7 md ops sp=true)(C:NC ops S)(w:NC ops (nW S i))(q:i<ops.size)(n:S i=false) :
  (∀ t∈(ops[i]).looksAt ops,eS ops (es 0) vs S ops.size t=es i t)/\f8 (Fs i) (HS md ops n0 (Hs 0) Hs Fs Ns S ops.size) (Hs i):=by
 obtain ⟨y,x⟩:=FE o C w q n;obtain ⟨E,D⟩:=yD r A i aD;have v:∀ k,k<ops.size->n3 ops k=(ops[k]?).bind (·.dst):=λk _=>rfl;obtain ⟨_,z⟩:=r.step i ops[i] (by rw [mY,bM q]);simp only [eR] at z;refine ⟨λt ht=>?_,λid e=>?_⟩
 .rw [E];simp only [eS,gW];have u:gS (λk=>S k&&(n3 ops k==some t)) ops.size=gS (λk=>n3 ops k==some t) i:=by
   rw [B8 (p:=λk=>S k&&(n3 ops k==some t)) i ops.size aD (λk g hk2=>?_)]
   .refine kJ i λk g=>?_;cases c:(n3 ops k==some t) with
    | false=>simp
    | true =>
     have j:k<ops.size:=aD;have m:ops[k].dst=some t:=by simpa [n3,bM j] using c
     rcases tD o g q with h|⟨h,_⟩
     .simp [y k g h]
     .exact absurd ht ((AO h).1 t m).1
   .by_cases l:k=i
    .subst l;simp [n]
    .cases c:(n3 ops k==some t) with
     | false=>simp
     | true =>
      have m:ops[k].dst=some t:=by simpa [n3,bM hk2] using c
      rcases tD o (aD:i<k) hk2 with h|⟨h,_⟩
      .simp [x k aD hk2 h]
      .exact absurd ht ((AO h).2 t m)
  rw [u]
 .rw [D];have b:sD ops[i].op=true:=by
   cases B:sD ops[i].op with
   | true=>rfl
   | false=>rw [z.dR B] at e;cases e
  simp only [HS,gW];have u:gS (λk=>S k&&(rU md ops k&&(Fs k).contains id)) ops.size=gS (λk=>rU md ops k&&(Fs k).contains id) i:=by
   rw [B8 (p:=λk=>S k&&(rU md ops k&&(Fs k).contains id)) i ops.size aD (λk g hk2=>?_)]
   .refine kJ i λk g=>?_;cases c:(rU md ops k&&(Fs k).contains id) with
    | false=>simp
    | true =>
     have j:k<ops.size:=aD;simp only [aN,zU] at c;have a:nO md ops[k]=true:=by simpa [rU,bM j] using c.1
     rcases tD o g q with h|⟨_,h|h⟩
     .simp [y k g h]
     .simp [Jn,b,rK a,a] at h
     .have d:=r.apart k i g (eQ q);simp only [eR] at d;exact absurd e (d h id c.2)
   .by_cases l:k=i
    .subst l;simp [n]
    .cases c:(rU md ops k&&(Fs k).contains id) with
     | false=>simp
     | true =>
      simp only [aN,zU] at c;have a:nO md ops[k]=true:=by simpa [rU,bM hk2] using c.1
      rcases tD o (aD:i<k) hk2 with h|⟨_,h|h⟩
      .simp [x k aD hk2 h]
      .simp [Jn,b,rK a,a] at h
      .have d:=r.apart i k aD (eQ hk2);simp only [eR] at d;exact absurd c.2 (d h id e)
  rw [u]
theorem UH (y:Run P md ops sp n0 es Hs vs Fs Ns 0 ops.toList)(H:(Hs 0).next=n0+ops.size)(x:x7 md ops sp=true)(F:NC ops S)(v:NC ops (nW S i))(m:i<ops.size)(u:S i=false) :
  pG (eS ops (es 0) vs S ops.size) ops[i].dst (vs i)=eS ops (es 0) vs (nW S i) ops.size /\
  w8 (HS md ops n0 (Hs 0) Hs Fs Ns S ops.size) (Hs (i+1)) (Fs i) (Ns i)=HS md ops n0 (Hs 0) Hs Fs Ns (nW S i) ops.size:=by
 obtain ⟨I,C⟩:=FE x F v m u;obtain ⟨_,E⟩:=y.step i ops[i] (by rw [mY,bM m]);simp only [eR] at E;have B:=(La y H x F v m u).2;have j:ops[i]?=some ops[i]:=bM m;refine ⟨?_,?_⟩
 .funext t;by_cases q:ops[i].dst=some t
  .have g:gS (λk=>nW S i k&&(n3 ops k==some t)) ops.size=some i:=by
    refine EB ops.size m (by simp [nW,n3,j,q]) λk e c=>?_;cases r:(n3 ops k==some t) with
    | false=>simp
    | true =>
     have z:ops[k].dst=some t:=by simpa [n3,bM c] using r
     rcases tD x e c with h|⟨h,_⟩
     .have a:(k==i)=false:=by simp;omega
      simp [nW,a,C k e c h]
     .exact absurd z ((AO h).1 t q).2
   simp only [eS,g,pG,q,if_true]
  .have g:gS (λk=>nW S i k&&(n3 ops k==some t)) ops.size=gS (λk=>S k&&(n3 ops k==some t)) ops.size:=by
    refine kJ _ λk e=>?_;by_cases a:k=i
    .subst a;have:(n3 ops k==some t)=false:=by simp [n3,j];exact q
     simp [this]
    .have:(k==i)=false:=by simpa using a
     simp [nW,this]
   simp only [eS,g];cases A:ops[i].dst with
   | none=>rfl
   | some d =>
    have:¬ t=d:=λh=>q (by rw [A,h]);simp only [pG,this,if_false];rfl
 .simp only [w8,HS,AHeap.mk.injEq,true_and];refine ⟨funext λid=>propext ?_,funext λid=>?_⟩
  .constructor
   .rintro ((h|⟨k,e,n,o,h⟩)|⟨o,h⟩)
    .exact .inl h
    .exact .inr ⟨k,e,by simp [nW,n],o,h⟩
    .exact .inr ⟨i,m,by simp [nW],o,h⟩
   .rintro (h|⟨k,e,n,o,h⟩)
    .exact .inl (.inl h)
    .by_cases a:k=i
     .subst a;exact .inr ⟨o,h⟩
     .have:(k==i)=false:=by simpa using a
      exact .inl (.inr ⟨k,e,by simpa [nW,this] using n,o,h⟩)
  .by_cases w:nO md ops[i]=true
   .by_cases b:id∈Fs i
    .rw [if_pos b];have g:gS (λk=>nW S i k&&(rU md ops k&&(Fs k).contains id)) ops.size=some i:=by
      refine EB ops.size m (by simp [nW,rU,j,w,b]) λk e c=>?_;cases r:(rU md ops k&&(Fs k).contains id) with
      | false=>simp
      | true =>
       simp only [aN,zU] at r;have p:nO md ops[k]=true:=by simpa [rU,bM c] using r.1
       rcases tD x e c with h|⟨_,h|h⟩
       .have a:(k==i)=false:=by simp;omega
        simp [nW,a,C k e c h]
       .simp [Jn,rK w,rK p,p] at h
       .have s:=y.apart i k e (eQ c);simp only [eR] at s;exact absurd r.2 (s h id b)
     rw [g]
    .rw [if_neg b];have g:gS (λk=>nW S i k&&(rU md ops k&&(Fs k).contains id)) ops.size=gS (λk=>S k&&(rU md ops k&&(Fs k).contains id)) ops.size:=by
      refine kJ _ λk e=>?_;by_cases a:k=i
      .subst a;simp [b]
      .have:(k==i)=false:=by simpa using a
       simp [nW,this]
     rw [g]
   .have g:gS (λk=>nW S i k&&(rU md ops k&&(Fs k).contains id)) ops.size=gS (λk=>S k&&(rU md ops k&&(Fs k).contains id)) ops.size:=by
     refine kJ _ λk e=>?_;by_cases a:k=i
     .subst a;have:rU md ops k=false:=by simp [rU,j];simpa using w
      simp [this]
     .have:(k==i)=false:=by simpa using a
      simp [nW,this]
    rw [g];by_cases b:id∈Fs i
    .rw [if_pos b,E.still (eQ w),<- B id b];rfl
    .rw [if_neg b]
theorem CN (hr:Run P md ops sp n0 es Hs vs Fs Ns 0 ops.toList){id:Nat}:∀ (j k:Nat),k<=j->j<=ops.size->(Hs k).F id->(Hs j).F id
 | 0,k,hk,_,h=>by rw [(aD:(0:Nat)=k)];exact h
 | j+1,k,hk,hj,h=>by
  by_cases he:k=j+1
  .rw [<- he];exact h
  .have ih:=CN hr j k aD aD h;obtain ⟨_,hT⟩:=hr.step j ops[j] (by rw [mY,bM aD]);simp only [eR] at hT;rw [hT.ch];exact .inl ih
theorem TR (a:Run P md ops sp n0 es Hs vs Fs Ns 0 ops.toList)(s:i<ops.size)(j:S i=false):∀ id∈Ns i,¬ (HS md ops n0 (Hs 0) Hs Fs Ns S ops.size).F id:=by
 intro id g;obtain ⟨_,m⟩:=a.step i ops[i] (by rw [mY,bM s]);simp only [eR] at m;obtain ⟨n,l⟩:=m.new id g;rintro (h|⟨k,r,c,p,h⟩)
 .exact n (CN a i 0 aD aD h)
 .obtain ⟨_,b⟩:=a.step k ops[k] (by rw [mY,bM r]);simp only [eR] at b;obtain ⟨o,d⟩:=b.new id p;have f:k≠i:=λe=>by subst e;rw [j] at c;cases c
  rcases Nat.lt_or_gt_of_ne f with q|t
  .exact n (CN a i (k+1) aD aD h)
  .rcases l with l|⟨l,u⟩
   .rcases d with d|⟨d,_⟩<;>omega
   .exact o (CN a k (i+1) aD aD u)
end
end Go.Abs
end
section
namespace Go.Abs
def Came (n:Nat)(M0:Nat->Prop)(H0:AHeap)(σ0:Nat->Option Ow)(w0:World)(K:(Nat->D)->AHeap->Prop)(a:Act)(w:World):Prop :=
 ∃ e H σ,K e H/\St n M0 H σ w e a/\Stp σ0 w0 σ w/\Keeps (dJ M0 H0 σ0) σ0 H0.F w0 (dJ M0 H σ) σ H.F w
theorem Came.mono {n:Nat}{M0:Nat->Prop}{H0:AHeap}{σ0:Nat->Option Ow}{w0:World}{K K':(Nat->D)->AHeap->Prop}{a:Act}{w:World}(h:Came n M0 H0 σ0 w0 K a w)
 (hk:∀ e H,K e H->K' e H):Came n M0 H0 σ0 w0 K' a w:=let ⟨e,H,σ,a,b⟩:=h;⟨e,H,σ,hk _ _ a,b⟩
theorem Came.trans {n:Nat}{M0:Nat->Prop}{H0 H1:AHeap}{σ0 σ1:Nat->Option Ow}{w0 w1:World}{K:(Nat->D)->AHeap->Prop}{a:Act}{w:World}
  (hs:Stp σ0 w0 σ1 w1) (hk:Keeps (dJ M0 H0 σ0) σ0 H0.F w0 (dJ M0 H1 σ1) σ1 H1.F w1) (h:Came n M0 H1 σ1 w1 K a w):Came n M0 H0 σ0 w0 K a w :=
 let ⟨e,H,σ,a,b,c,d⟩:=h;⟨e,H,σ,a,b,hs.trans c,hk.trans d⟩
section
variable {P:Program} {md:Nat→Bool} {n:Nat} {M0:Nat→Prop}
theorem Rel.b3 {H:AHeap}{σ:Nat->Option Ow}{w:World}(h:Rel M0 H σ w){m:Nat}(hm:H.next<=m):Rel M0 { H with next:=m } σ w :=
 ⟨h.bp,λid hid=>cO (h.bf id hid) hm,λid k hk=>h.ah id k hk,h.inj,h.lt,h.m0⟩
theorem StepC.mono {ops:Array Oper}{Q:Exit->Act->World->Prop}{o:Oper}{K K':Act->World->Prop}{a:Act}{w:World}(h:∀ a w,K a w->K' a w)(b:StepC P ops Q o K a w):StepC P ops Q o K' a w:=by
 unfold StepC at *;split
 .rename_i c;rw [if_pos c] at b;exact b.imp (Oper.wp_mono h) id
 grind
def nX (P:Program)(md:Nat->Bool)(ops:Array Oper):List Oper->(Nat->D)->AHeap->((Nat->D)->AHeap->Prop)->Prop
 | [],e,H,K=>K e H
 | o :: rest,e,H,K=>qF P md none H.next ops e o H λv H' _=>nX P md ops rest (pG e o.dst v) H' K
theorem JC {ops:Array Oper}{Q:Exit->Act->World->Prop}:∀ (l:List Oper) (e:Nat->D) (H:AHeap) (K:(Nat->D)->AHeap->Prop),nX P md ops l e H K->(∀ o∈l,sF n o.dst=true) ->
  ∀ (σ:Nat->Option Ow) (w:World) (a:Act),St n M0 H σ w e a->(∀ a' w',Came n M0 H σ w K a' w'->Q .normal a' w')->wpList P ops Q l a w
 | [],e,H,K,h,hd,σ,w,a,hS,hQ=>wpList_nil (hQ a w ⟨e,H,σ,h,hS,.refl _ _,.refl _ _ _ _⟩)
 | o :: l,e,H,K,h,hd,σ,w,a,hS,hQ=>by
  unfold nX at h;have hs:=AQ (Q:=Q) h hS (λhn=>mS _ (hS.a2.bf _ hn)) (hd o dB);have:=StepC.mono (K':=wpList P ops Q l) (λa' w' ⟨v,H',F,σ',hk,hS',hst,hkp⟩ =>
   JC l _ _ _ hk (λo' ho'=>hd o' (by simp [ho'])) σ' w' a' hS' λa'' w'' hc=>hQ a'' w'' (hc.trans hst hkp)) hs
  unfold StepC at this;unfold wpList;exact this
theorem Xr {ops:Array Oper}{a:Nat->D}{vs:Nat->D}{S T:Nat->Bool}{m:Nat}(h:∀ k,k<m->S k=T k):eS ops a vs S m=eS ops a vs T m:=by
 funext t;unfold eS;rw [kJ (p:=λk=>S k&&(n3 ops k==some t)) (q:=λk=>T k&&(n3 ops k==some t)) m λk hk=>by rw [h k hk]]
theorem S8 {ops:Array Oper}{c:Nat}{f:AHeap}{e:Nat->AHeap}{a d:Nat->List Nat}{S T:Nat->Bool}{m:Nat}(h:∀ k,k<m->S k=T k):HS md ops c f e a d S m=HS md ops c f e a d T m:=by
 unfold HS;congr 1
 .funext b;grind
 .funext b;rw [kJ (p:=λk=>S k&&(rU md ops k&&(a k).contains b)) (q:=λk=>T k&&(rU md ops k&&(a k).contains b)) m λk hk=>by rw [h k hk]]
def wH (S:Nat->Bool):Nat->Nat
 | 0=>0
 | m+1=>(if S m then 0 else 1)+wH S m
theorem PX {S:Nat->Bool}:∀ {m:Nat},wH S m=0->∀ k,k<m->S k=true
 | 0,_,k,hk=>by omega
 | m+1,h,k,hk=>by
  simp only [wH] at h;by_cases hk':k=m
  .subst hk';cases hS:S k<;>simp [hS] at h ⊢
  .exact PX (m:=m) aD k aD
theorem Jh {S T:Nat->Bool}:∀ {m:Nat},(∀ k,k<m->S k=T k)->wH S m=wH T m
 | 0,_=>rfl
 | m+1,h=>by simp only [wH,h m aD,Jh (m:=m) λk hk=>h k aD]
theorem SX {S:Nat->Bool}{i:Nat}(a:S i=false):∀ {m:Nat},i<m->wH (nW S i) m+1=wH S m
 | 0,h=>by omega
 | m+1,h=>by
  simp only [wH];by_cases hi:i=m
  .subst hi;have h1:nW S i i=true:=by simp [nW]
   have b:wH (nW S i) i=wH S i:=Jh λk hk=>by
    have:(k==i)=false:=by simp;omega
    simp [nW,this]
   grind
  .have h1:nW S i m=S m:=by
    have:(m==i)=false:=by simp;omega
    simp [nW,this]
   have:=SX a (m:=m) aD;rw [h1];omega
theorem RH {ops:Array Oper}{sp:List (Nat × Nat)}{id:Nat}{e:Nat->D}{H:AHeap}{σ:Nat->Option Ow}{w:World}{a:Act}{K:(Nat->D)->AHeap->Prop}{Q:Exit->Act->World->Prop}
  (hm:P.follows .mixedOrders=true) (hs:x7 md ops sp=true) (hd:∀ o∈ops.toList,sF n o.dst=true)
  (h:j9 P md ops sp H.next 0 ops.toList [] e { H with next:=H.next+ops.size } K) (hS:St n M0 H σ w e a) (hQ:∀ a' w',Came n M0 H σ w K a' w'->Q .normal a' w') :
  (Code.region id ops true).wp P Q a w:=by
 refine wp_region_any hm ?_;obtain ⟨c0,a3,a4⟩:=hS.a2.drew;have b9:=c0.b3 (m:=H.next+ops.size) aD;have b8:St n M0 { H with next:=H.next+ops.size } σ w.drew e a:=⟨b9,λt=>(hS.cc t).q a4,hS.defers,hS.size⟩;obtain ⟨es,u,vs,V,Ns,he,U,hK,d,_⟩:=L2 (nn:=H.next+ops.size) ops.toList 0 [] e _ K h (λi hi=>hS.a2.bf i hi) rfl dB;simp only [eR,gJ] at hK;have hn:(u 0).next=H.next+ops.size:=by rw [U]
 have b2:∀ (g:Nat) (c:Array Bool) (a':Act) (w':World),c.size=ops.size->wH (λk=>c.getD k false) ops.size<=g->NC ops (λk=>c.getD k false) ->
   (∃ σ',St n M0 (HS md ops H.next (u 0) u V Ns (λk=>c.getD k false) ops.size) σ' w' (eS ops (es 0) vs (λk=>c.getD k false) ops.size) a'/\Stp σ w σ' w' /\
    Keeps (dJ M0 H σ) σ H.F w (dJ M0 (HS md ops H.next (u 0) u V Ns (λk=>c.getD k false) ops.size) σ') σ' (HS md ops H.next (u 0) u V Ns (λk=>c.getD k false) ops.size).F w') ->
   wpAny P .any ops Q g c a' w':=by
  intro g;induction g with
  | zero =>
   intro c a' w' hl hc hD ⟨σ',M,q,I⟩;have l:=PX (S:=λk=>c.getD k false) (m:=ops.size) aD;refine ⟨?_,?_⟩
   .unfold Region.ready;simp_all
   .refine hQ a' w' ⟨es ops.size,u ops.size,σ',hK,?_,q,?_⟩
    .obtain ⟨r1,r2⟩:=yD d hn ops.size (aZ _);rw [r1,r2,Xr (T:=λk=>c.getD k false) λk s=>(l k s).symm,S8 (T:=λk=>c.getD k false) λk s=>(l k s).symm];exact M
    .obtain ⟨r1,r2⟩:=yD d hn ops.size (aZ _);rw [r2,S8 (T:=λk=>c.getD k false) λk s=>(l k s).symm];exact I
  | succ g ih =>
   intro c a' w' hl hc hD ⟨σ',M,q,I⟩;have C:∀ i,i∈Region.ready .any ops c->i<ops.size/\c.getD i false=false/\∀ o,ops[i]?=some o->∀ B∈o.after.toList,Region.binds .any B=true->c.getD B.on false=true:=by
    intro i hi;unfold Region.ready at hi;simp only [fK,bA,aN,cD] at hi;obtain ⟨h1,h2,h3⟩:=hi;refine ⟨h1,?_,λo E B y hb=>?_⟩
    .simp only [mH] at h2 ⊢;rw [bM aD] at h2 ⊢;simpa using h2
    .rw [E] at h3;simp only [dM,Option.getD_some,Array.all_eq_true_iff_forall_mem] at h3;have:=h3 B (eQ y);rw [hb] at this;simpa using this
   refine ⟨λhnil=>?_,λi hi=>?_⟩
   .-- nothing is ready: all is done
    have l:∀ k,k<ops.size->c.getD k false=true:=by
     intro k;induction k using Nat.strongRecOn with
     | _ k ihk =>
      intro s;cases Z:c.getD k false with
      | true=>rfl
      | false =>
       exfalso;have R:k∈Region.ready .any ops c:=by
        unfold Region.ready;simp only [fK,bA,aN,cD];refine ⟨s,?_,?_⟩
        .simp only [mH] at Z ⊢;rw [bM aD] at Z ⊢;simpa using Z
        .have E:ops[k]?=some ops[k]:=bM s;rw [E];simp only [dM,Option.getD_some,Array.all_eq_true_iff_forall_mem];intro B y;cases hb:Region.binds .any B with
         | false=>simp
         | true =>
          have b3:=To hs E B (eQ y) hb;simp [ihk B.on b3 aD]
       rw [hnil] at R;cases R
    have:=(ih c a' w' hl (by
     have:wH (λk=>c.getD k false) ops.size=wH (λ_=>true) ops.size:=Jh l;have h0:∀ m,wH (λ_=>true) m=0:=λm=>by induction m with
      | zero=>rfl
      | succ m ih=>simp [wH,ih]
     rw [this,h0];omega) hD ⟨σ',M,q,I⟩)
    cases g with
    | zero=>exact this.2
    | succ f=>exact this.1 hnil
   .obtain ⟨x,A,b5⟩:=C i hi;have E:ops[i]?=some ops[i]:=bM x;have a2:NC ops (nW (λk=>c.getD k false) i):=by
     intro j o hj z B y hb;simp only [nW,cZ,beq_iff_eq] at z;simp only [nW,cZ];rcases z with rfl|z
     .exact .inr (b5 o hj B y hb)
     .exact .inr (hD j o hj z B y hb)
    have r:(λk=>(c.setIfInBounds i true).getD k false)=nW (λk=>c.getD k false) i:=by
     funext k;simp only [nW,mH,Array.getElem?_setIfInBounds];by_cases a0:k=i
     .subst a0;simp [hl,x]
     .have:¬ i=k:=λh=>a0 h.symm;have h2:(k==i)=false:=by simpa using a0
      simp [this,h2]
    obtain ⟨a6,b6⟩:=La d hn hs hD a2 x A;obtain ⟨b7,a7⟩:=UH d hn hs hD a2 x A;obtain ⟨_,hT⟩:=d.step i ops[i] (by rw [mY,E]);simp only [eR] at hT;have Y:=TR d (S:=λk=>c.getD k false) x A;have b1:∀ id∈Ns i,id<H.next+ops.size:=λid J=>by rcases (hT.new id J).2 with h|⟨h,_⟩<;>omega
    have O:¬ (HS md ops H.next (u 0) u V Ns (λk=>c.getD k false) ops.size).F (H.next+i):=by
     simp only [HS];rintro (h|⟨k,s,a9,b4,_⟩)
     .rw [U] at h;have:=hS.a2.bf _ h;omega
     .obtain ⟨_,a8⟩:=d.step k ops[k] (by rw [mY,bM s]);simp only [eR] at a8;have:k=i:=by rcases (a8.new _ b4).2 with h|⟨h,_⟩<;>omega
      subst this;rw [A] at a9;cases a9
    have W:=hT.any _ _ a6 b6 (by simp only [HS];omega) O (λid J=>⟨by simp only [HS];exact b1 id J,Y id J⟩);have hc:=AQ (Q:=Q) W M O (hd ops[i] dB) (λm hm=>by cases hm;simp only [HS];omega);have a1:StepC P ops Q ops[i] (wpAny P .any ops Q g (c.setIfInBounds i true)) a' w':=by
     refine StepC.mono (λa'' w'' ⟨v,H',F,σ'',⟨hv,c1⟩,b0,X,a5⟩=>?_) hc;subst hv;subst c1;refine ih _ a'' w'' (eQ hl) ?_ (by rw [r];exact a2) ⟨σ'',?_,q.trans X,?_⟩
     .rw [r];have:=SX (S:=λk=>c.getD k false) A x;omega
     .rw [r,<- b7,<- a7];exact b0
     .rw [r,<- a7];exact I.trans a5
    unfold wpOp;rw [E];exact a1
 refine b2 ops.size _ a _ dB ?_ ?_ ⟨σ,?_,a3,?_⟩
 .have:∀ S:Nat->Bool,∀ m,wH S m<=m:=λS m=>by
   induction m with
   | zero=>simp [wH]
   | succ m ih=>simp only [wH];split<;>omega
  exact this _ _
 .intro j o E z;exfalso;have hj:j<ops.size:=(sS.1 E).1;simp [hj] at z
 .have L:(λk=>(Array.replicate ops.size false).getD k false)=λ_=>false:=by
   funext k;by_cases s:k<ops.size<;>simp [s]
  have G:∀ (p:Nat->Bool) m,gS (λk=>false&&p k) m=none:=λp m=>by
   induction m with
   | zero=>rfl
   | succ m ih=>simp only [gS,F7,fA,if_false];exact ih
  have e1:eS ops (es 0) vs (λk=>(Array.replicate ops.size false).getD k false) ops.size=e:=by
   rw [L];funext t;simp only [eS,G (λk=>n3 ops k==some t)];rw [he]
  have e2:HS md ops H.next (u 0) u V Ns (λk=>(Array.replicate ops.size false).getD k false) ops.size={ H with next:=H.next+ops.size }:=by
   rw [L];simp only [HS,AHeap.mk.injEq,true_and];refine ⟨funext λid=>propext ⟨λh=>h.elim (λh=>by rw [U] at h;exact h) λ⟨_,_,h,_⟩=>(by cases h),λh=>.inl (by rw [U];exact h)⟩,funext λid=>?_⟩;rw [G (λk=>rU md ops k&&(V k).contains id),U]
  rw [e1,e2];exact b8
 .have L:(λk=>(Array.replicate ops.size false).getD k false)=λ_=>false:=by
   funext k;by_cases s:k<ops.size<;>simp [s]
  have G:∀ (p:Nat->Bool) m,gS (λk=>false&&p k) m=none:=λp m=>by
   induction m with
   | zero=>rfl
   | succ m ih=>simp only [gS,F7,fA,if_false];exact ih
  have e2:HS md ops H.next (u 0) u V Ns (λk=>(Array.replicate ops.size false).getD k false) ops.size={ H with next:=H.next+ops.size }:=by
   rw [L];simp only [HS,AHeap.mk.injEq,true_and];refine ⟨funext λid=>propext ⟨λh=>h.elim (λh=>by rw [U] at h;exact h) λ⟨_,_,h,_⟩=>(by cases h),λh=>.inl (by rw [U];exact h)⟩,funext λid=>?_⟩;rw [G (λk=>rU md ops k&&(V k).contains id),U]
  rw [e2];exact a4
end
end Go.Abs
end
