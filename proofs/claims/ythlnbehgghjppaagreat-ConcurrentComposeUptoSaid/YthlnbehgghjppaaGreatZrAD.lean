/- The abstraction layer, part N: an operation looks at no more -/
import Derived.Test.YthlnbehgghjppaaGreatZrAC
set_option linter.unusedVariables false
set_option linter.unusedSimpArgs false
section
namespace Go.Abs
def AOut.on (r:AOut)(H:AHeap):AOut:=⟨r.cond,r.ae,r.val,H⟩
def l5 (H' H1:AHeap)(F:List Nat)(nid:Nat):AHeap:=⟨H'.next,λi=>H'.H i\/(i=nid/\H1.H nid),λi=>if i∈F then H1.get i else H'.get i⟩
section
variable {P:Program} {H H':AHeap} {F:List Nat} {nid:Nat}
theorem jF (c:gH F H' H)(b:¬ H.H nid):l5 H' H F nid=H':=by
 obtain ⟨n,d,g⟩:=H';simp only [l5,AHeap.mk.injEq,true_and];refine ⟨?_,?_⟩
 .funext i;exact propext ⟨λh=>h.elim id λh=>absurd h.2 b,.inl⟩
 .funext i;by_cases a:i∈F
  .rw [if_pos a];exact (c i a).symm
  grind
theorem oI (l:gH F H' H)(f:nid<H'.next)(k:nid∈F)(b:Blk):H'.push nid b=l5 H' (H.push nid b) F nid:=by
 obtain ⟨n,m,g⟩:=H';have c:nid<n:=f;simp only [AHeap.push,l5,AHeap.mk.injEq,c,if_true,true_and];refine ⟨?_,?_⟩
 .funext i;exact propext ⟨λh=>h.elim (λe=>.inr ⟨e,.inl trivial⟩) .inl,λh=>h.elim .inr λh=>.inl h.1⟩
 .funext i;by_cases j:i∈F
  .rw [if_pos j];by_cases d:i=nid
   .rw [if_pos d,if_pos d]
   .rw [if_neg d,if_neg d];exact l i j
  grind
theorem vL (j:gH F H' H)(e:¬ H.H nid){a:Nat}(f:a∈F)(b:Blk):H'.put a b=l5 H' (H.put a b) F nid:=by
 obtain ⟨n,k,g⟩:=H';simp only [AHeap.put,l5,AHeap.mk.injEq,true_and];refine ⟨?_,?_⟩
 .funext i;exact propext ⟨.inl,λh=>h.elim (λh=>h) λh=>absurd h.2 e⟩
 .funext i;by_cases d:i∈F
  .rw [if_pos d];by_cases c:i=a
   .rw [if_pos c,if_pos c]
   .rw [if_neg c,if_neg c];exact j i d
  grind
theorem Tl (e:gH F H' H)(c:Nat)(b:Blk):gH F (H'.put c b) (H.put c b):=by
 intro i d;simp only [AHeap.put];by_cases a:i=c
 .rw [if_pos a,if_pos a]
 .rw [if_neg a,if_neg a];exact e i d
theorem Rc (H:AHeap)(a:Nat):(H.a7 a).H=H.H/\(H.a7 a).next=H.next:=by unfold AHeap.a7;cases H.get a<;>exact ⟨rfl,rfl⟩
theorem y7 (a:List Nat):∀ H:AHeap,(fJ a H).H=H.H/\(fJ a H).next=H.next:=by
 induction a with
 | nil=>intro H;exact ⟨rfl,rfl⟩
 | cons i l ih=>intro H;exact ⟨(ih _).1.trans (Rc H i).1,(ih _).2.trans (Rc H i).2⟩
theorem Lh (H:AHeap)(a i:Nat)(h:i≠a):(H.a7 a).get i=H.get i:=by grind [AHeap.a7, AHeap.put]
theorem Cu (b:List Nat):∀ (H:AHeap) (i:Nat),i∉b->(fJ b H).get i=H.get i:=by
 induction b with
 | nil=>intro H i _;rfl
 | cons a l ih =>
  intro H i c;simp only [fJ];rw [ih _ i (λh=>c (by simp [h])),Lh H a i (λe=>c (by simp [e]))]
theorem It (b:List Nat)(c:∀ i∈b,i∈F):∀ {H H':AHeap},gH F H' H->gH F (fJ b H') (fJ b H):=by
 induction b with
 | nil=>intro H H' h;exact h
 | cons a l ih =>
  intro H H' h;refine ih (λi hi=>c i (by simp [hi])) ?_;have d:=h a (c a eG);unfold AHeap.a7;rw [d];cases H.get a with
  | none=>exact h
  | some k=>exact Tl h a _
theorem Dk (a:List Nat)(d:∀ i∈a,i∈F)(c:AHeap):l5 (fJ a H') c F nid=l5 H' c F nid:=by
 simp only [l5,AHeap.mk.injEq];refine ⟨(y7 a H').2,by rw [(y7 a H').1],?_⟩;funext i;by_cases b:i∈F
 .rw [if_pos b,if_pos b]
 .rw [if_neg b,if_neg b,Cu a H' i (λh=>b (d i h))]
theorem R7 (d:D):∀ i∈dQ d,i∈eK d:=by
 cases d<;>intro i a<;>first|exact a|(simp [dQ,lR] at a;done)|(simp only [dQ,lR,eK] at a ⊢;exact a)
theorem Ho {d:D}(h:gH (lR d) H' H):fN H' d=fN H d:=by
 cases d<;>try rfl
 .rename_i a n;simp only [fN,h a (by simp [lR])]
 .rename_i a n b c;simp only [fN,h a (by simp [lR])]
theorem Hm {d:D}(h:gH (dQ d) H' H):iS H' d=iS H d:=by
 cases d with
 | agg cs =>
  simp only [iS];congr 1;exact cE λx a=>Ho λi b=>h i (cD.2 ⟨x,a,b⟩)
 | _ =>
  have c:=h;simp only [iS];exact Ho c
theorem J9 {x:D}(h:gH (eK x) H' H):fT H' x=fT H x:=by
 cases x<;>try rfl
 rename_i c a i b;simp only [fT,h c (by simp [eK])]
theorem PX {t:TypeId}{x:D}(h:gH (eK x) H' H):o9 P t x H'=(o9 P t x H).on H':=by
 unfold o9;rw [J9 h];cases fT H x with
 | none=>rfl
 | some cs=>cases tk P t<;>rfl
theorem B7 {x:D}{n:Nat}(h:gH (eK x) H' H):eP x n H'=(eP x n H).on H':=by
 cases x<;>try rfl
 rename_i a b i c;simp only [eP,h a (by simp [eK])];cases H.get a<;>rfl
theorem D5 {x:D}{n:Nat}:(eP x n H).heap=H:=by
 unfold eP;split
 .rfl
 .split<;>rfl
 .rfl
theorem zV {t:TypeId}{x:D}{f:Nat}:(i9 P t x f H).heap=H:=by
 unfold i9;split
 .split
  .exact D5
  .rfl
 .rfl
theorem zU {t:TypeId}{x i:D}:(i7 P t x i H).heap=H:=by
 unfold i7;split
 .split
  .split<;>rfl
  .split<;>rfl
  .split
   .exact D5
   .rfl
 .rfl
theorem GD {x:D}(h:gH (eK x) H' H):kG x H'=(kG x H).on H':=by
 cases x<;>try rfl
 rename_i a b i c;simp only [kG,h a (by simp [eK])];cases H.get a<;>rfl
theorem Fc {t:TypeId}{x:D}{f:Nat}(h:gH (eK x) H' H):i9 P t x f H'=(i9 P t x f H).on H':=by
 unfold i9;cases bk P t with
 | none=>rfl
 | some b=>cases b with
  | ar sz=>rfl
  | st l =>
   simp only;cases l[f]? with
   | none=>rfl
   | some q=>simp only [B7 h];rfl
theorem Fb {t:TypeId}{x i:D}(h:gH (eK x) H' H):i7 P t x i H'=(i7 P t x i H).on H':=by
 cases i<;>try rfl
 rename_i k n;unfold i7;cases x<;>simp only<;>first
  | (cases sl P t<;>rfl)
  | (simp only [B7 h];cases VJ P t<;>rfl)
  | skip
 rename_i a m;simp only [h a (by simp [eK])];cases sl P t<;>cases H.get a<;>rfl
theorem Nj {t:TypeId}{x:D}{a b:Option D}(h:gH (eK x) H' H):rX P t x a b H'=(rX P t x a b H).on H':=by
 unfold rX;cases x<;>try rfl
 .simp only;split<;>rfl
 .simp only;split<;>rfl
 .rename_i c n;simp only [h c (by simp [eK])];split<;>rfl
theorem Ga {t:TypeId}{x:D}{a b:Option D}:(rX P t x a b H).heap=H:=by
 unfold rX;split
 .split<;>rfl
 .split<;>rfl
 .split<;>rfl
 .rfl
theorem RH {t:TypeId}{x:D}(h:gH (eK x) H' H):GE P t x H'=(GE P t x H).on H':=by
 unfold GE;cases P.underlying t with
 | none=>rfl
 | some b =>
  cases b<;>try rfl
  .cases x<;>rfl
  .cases x<;>try rfl
   rename_i a n;simp only [h a (by simp [eK])];cases H.get a<;>rfl
theorem J2 {x:D}(h:gH (eK x) H' H):qT H' x=qT H x:=by
 cases x<;>try rfl
 rename_i a n;simp only [qT,h a (by simp [eK])]
structure Loc (r r':AOut) (H':AHeap) (F:List Nat) (nid:Nat):Prop where
 cond:r.cond->r'.cond
 ae:r'.ae=r.ae
 val:r'.val=r.val
 heap:r'.heap=l5 H' r.heap F nid
theorem Loc.on {r a:AOut}(h:a=r.on H')(c:r.heap=H)(d:gH F H' H)(b:¬ H.H nid):Loc r a H' F nid:=by
 subst h;exact ⟨λh=>h,rfl,rfl,by rw [c,jF d b];rfl⟩
theorem Loc.bad (hF:gH F H' H)(hn:¬ H.H nid):Loc (AOut.bad H) (AOut.bad H') H' F nid:=⟨λh=>h,rfl,rfl,(jF hF hn).symm⟩
theorem D7 {t:TypeId}{x v:D}(d:gH F H' H)(l:∀ i∈eK x,i∈F)(f:¬ H.H nid):Loc (nI P t x v H) (nI P t x v H') H' F nid:=by
 unfold nI;cases x<;>try (exact Loc.bad d f)
 rename_i e g i j;have b:e∈F:=l e (by simp [eK]);simp only;rw [d e b];cases m:H.get e with
 | none=>(simp only [];exact Loc.bad d f)
 | some k =>
  simp only [];cases n:k.T[i]? with
  | none=>(simp only [];exact Loc.bad d f)
  | some c =>
   exact ⟨λh=>h,rfl,rfl,vL d f b _⟩
theorem Nk {t:TypeId}{x:D}(c:gH F H' H)(g:∀ i∈eK x,i∈F)(e:¬ H.H nid):Loc (wR P t x H) (wR P t x H') H' F nid:=by
 unfold wR;cases x<;>try (exact Loc.bad c e)
 rename_i d f j n;have b:d∈F:=g d (by simp [eK]);simp only;rw [c d b];cases l:sl P t with
 | none=>(simp only [];exact Loc.bad c e)
 | some s =>
  cases m:H.get d with
  | none=>(simp only [];exact Loc.bad c e)
  | some k =>
   exact ⟨λh=>h,rfl,rfl,vL c e b _⟩
theorem Kg {t f:TypeId}{x y:D}(b:gH F H' H)(l:∀ i∈eK x,i∈F)(m:∀ i∈eK y,i∈F)(e:¬ H.H nid)(j:nid<H'.next)(g:nid∈F) :
  Loc (lM P nid t f x y H) (lM P nid t f x y H') H' F nid:=by
 unfold lM;rw [J2 (H:=H) (H':=H') λi hi=>b i (m i hi)];cases q:sl P t with
 | none=>(simp only [];exact Loc.bad b e)
 | some s =>
  cases r:qT H y with
  | none =>
   unfold q6;cases y<;>try (exact Loc.bad b e)
   cases x<;>try (exact Loc.bad b e)
   rename_i d n;cases o:Q4 P f with
   | none=>(simp only [];exact Loc.bad b e)
   | some kn =>
    simp only [];have c:d∈F:=l d (by simp [eK]);rw [b d c];cases p:H.get d with
    | none=>(simp only [];exact Loc.bad b e)
    | some k =>
     exact ⟨λh=>h,rfl,rfl,vL b e c _⟩
  | some ys =>
   simp only [];cases x<;>try (exact Loc.bad b e)
   .exact ⟨λh=>h,rfl,rfl,oI b j g _⟩
   .rename_i d n;have c:d∈F:=l d (by simp [eK]);simp only;rw [b d c];cases p:H.get d with
    | none=>(simp only [];exact Loc.bad b e)
    | some k =>
     simp only [];exact ⟨λh=>h,rfl,rfl,vL b e c _⟩
theorem E8 {md:Nat->Bool}{e:Nat->D}{o:Oper}(g:gH (foot nid e o.op) H' H)(j:¬ H.H nid)(C:nid<H'.next) :
  Loc (GC P nid md e o H) (GC P nid md e o H') H' (foot nid e o.op) nid:=by
 obtain ⟨E,F,G,a0,X,W⟩:=o;have w:sJ F=true->∀ x∈F.operands,∀ i∈eK (fG e x),i∈foot nid e F:=λhh x K i q=>by
  simp only [foot,hh,if_true,bE,cD];exact .inr ⟨x,by simpa using K,q⟩
 have L:H8 F=true->nid∈foot nid e F:=λh=>by simp [foot,h]
 simp only at g;have I:sJ F=true->∀ x∈F.operands,gH (eK (fG e x)) H' H:=λhh x K i q=>g i (w hh x K i q);unfold GC;simp only;have r:∀ x:Operand,H8 F=j7 x ->
   Loc (if j7 x then Fa P nid (CJ md E) G H else ⟨True,True,fG e x,H⟩) (if j7 x then Fa P nid (CJ md E) G H' else ⟨True,True,fG e x,H'⟩) H' (foot nid e F) nid:=by
  intro x Q;by_cases K:j7 x=true
  .rw [if_pos K];rw [if_pos K];unfold Fa;generalize CJ md E=m;cases m with
   | false=>exact ⟨λh=>h,rfl,rfl,(jF g j).symm⟩
   | true =>
    simp only [if_true];cases hs:sl P G with
    | none=>(simp only [];exact Loc.bad g j)
    | some s=>exact ⟨λh=>h,rfl,rfl,oI g C (L (Q.trans K)) _⟩
  .rw [if_neg K];rw [if_neg K];exact ⟨λh=>h,rfl,rfl,(jF g j).symm⟩
 cases F<;>try (exact Loc.bad g j)
 case move x=>exact r x rfl
 case assign x=>exact r x rfl
 case pick c a b =>
  refine Loc.on ?_ ?_ g j
  .simp only [A9];split<;>first|rfl|(simp only [wQ];split<;>rfl)
  .simp only [A9];split<;>first|rfl|(simp only [wQ];split<;>rfl)
 case alloc t =>
  simp only [zE];cases hz:zd P t with
  | none=>(simp only [];exact Loc.bad g j)
  | some z =>
   simp only [];generalize CJ md E=m;cases m with
   | false=>exact ⟨λh=>h,rfl,rfl,(jF g j).symm⟩
   | true=>exact ⟨λh=>h,rfl,rfl,oI g C (L rfl) _⟩
 case box t x =>
  simp only [Nl];generalize CJ md E=m;cases m with
  | false=>exact ⟨λh=>h,rfl,rfl,(jF g j).symm⟩
  | true=>exact ⟨λh=>h,rfl,rfl,oI g C (L rfl) _⟩
 case build t ps =>
  refine Loc.on ?_ ?_ g j
  .simp only [uW];split
   .split<;>rfl
   .rfl
  .simp only [uW];split
   .split<;>rfl
   .rfl
 case buildSlice t m ps =>
  have k:∀ i∈(ps.toList.flatMap λp=>M7 md (fG e p.2)),i∈foot nid e (.buildSlice t m ps):=λi q=>by
   obtain ⟨p,U,q⟩:=cD.1 q;refine w rfl p.2 ?_ i (R7 _ i (Xd q));simp only [Op.operands];simpa using ⟨p.1,by simpa using U⟩
  have R:(ps.toList.map λp=>(p.1,SI md H' (fG e p.2)))=ps.toList.map λp=>(p.1,SI md H (fG e p.2)):=cE λp U=>by
   congr 1;unfold SI;split
   .rfl
   .rename_i hb;exact Hm λi q=>g i (k i (cD.2 ⟨p,U,by unfold M7;rw [if_neg hb];exact q⟩))
  simp only;rw [R];have V:=It _ k g;have O:∀ H1:AHeap,l5 (fJ (ps.toList.flatMap λp=>M7 md (fG e p.2)) H') H1 (foot nid e (.buildSlice t m ps)) nid=l5 H' H1 (foot nid e (.buildSlice t m ps)) nid:=λH1=>Dk _ k H1;have N:Loc (AOut.bad (fJ (ps.toList.flatMap λp=>M7 md (fG e p.2)) H)) (AOut.bad (fJ (ps.toList.flatMap λp=>M7 md (fG e p.2)) H')) H' (foot nid e (.buildSlice t m ps)) nid :=
   ⟨λh=>h,rfl,rfl,by
    show fJ _ H'=l5 H' (fJ _ H) _ nid;rw [<- O,jF V (by rw [(y7 _ H).1];exact j)]⟩
  simp only [jO];cases hs:sl P t with
  | none=>(simp only [];exact N)
  | some s =>
   simp only [];cases a1:BY (λi=>some (i * s.Z,s.Z)) (List.replicate m s.z).flatten (ps.toList.map λp=>(p.1,SI md H (fG e p.2))) with
   | none=>(simp only [];exact N)
   | some cs =>
    simp only [];generalize CJ md E=m';cases m' with
    | false =>
     refine ⟨λh=>h,rfl,rfl,?_⟩;simp only [fC,if_false];rw [<- O,jF V (by rw [(y7 _ H).1];exact j)]
    | true =>
     refine ⟨λh=>h,rfl,rfl,?_⟩;simp only [if_true];rw [<- O];exact oI V (by rw [(y7 _ H').2];exact C) (L rfl) _
 case load t a=>exact Loc.on (PX (I rfl a (by simp [Op.operands]))) (by simp only [o9];split<;>(try split)<;>rfl) g j
 case store t a v =>
  have Y:=w rfl a (by simp [Op.operands]);have hv:=w rfl v (by simp [Op.operands]);simp only;by_cases Q:md 1000000=true
  .rw [if_pos Q];rw [if_pos Q];have k:∀ i∈dQ (fG e v),i∈foot nid e (.store t a v):=λi q=>hv i (R7 _ i q);rw [Hm (H:=H) (H':=H') λi q=>g i (k i q)];have S:=D7 (P:=P) (t:=t) (v:=iS H (fG e v)) (nid:=nid) (It _ k g) Y (by rw [(y7 _ H).1];exact j);exact ⟨S.cond,S.ae,S.val,by rw [S.heap,Dk _ k]⟩
  .rw [if_neg Q];rw [if_neg Q];exact D7 g Y j
 case nilCheck x=>exact Loc.on (GD (I rfl x (by simp [Op.operands]))) (by simp only [kG];split<;>(try split)<;>rfl) g j
 case binOp F t x y t' =>
  refine Loc.on ?_ ?_ g j
  .simp only [tN];split<;>first|rfl|(simp only [Jf];split<;>first|rfl|(split<;>rfl)|(simp only [Ke];split<;>rfl))
  .simp only [tN];split<;>first|rfl|(simp only [Jf];split<;>first|rfl|(split<;>rfl)|(simp only [Ke];split<;>rfl))
 case unOp F t x =>
  refine Loc.on ?_ ?_ g j
  .simp only [VP];split<;>rfl
  .simp only [VP];split<;>rfl
 case convert s d x =>
  refine Loc.on ?_ ?_ g j
  .simp only [oD];split<;>(try split)<;>rfl
  .simp only [oD];split<;>(try split)<;>rfl
 case makeFunc fn first caps =>
  cases fn<;>try (exact Loc.bad g j)
  simp only;by_cases T:first.isEmpty=true
  .rw [if_pos T];rw [if_pos T];exact ⟨λh=>h,rfl,rfl,(jF g j).symm⟩
  .rw [if_neg T];rw [if_neg T];exact Loc.bad g j
 case makeSlice t l c =>
  simp only [Ea];split
  .exact ⟨λh=>h,rfl,rfl,oI g C (L rfl) _⟩
  .exact Loc.bad g j
 case slice t x lo q mx =>
  cases mx<;>try (exact Loc.bad g j)
  exact Loc.on (Nj (I rfl x (by simp [Op.operands]))) Ga g j
 case fieldAddr t x f=>exact Loc.on (Fc (I rfl x (by simp [Op.operands]))) zV g j
 case indexAddr t x i=>exact Loc.on (Fb (I rfl x (by simp [Op.operands]))) zU g j
 case index t x i =>
  refine Loc.on ?_ ?_ g j
  .simp only [uV];split<;>(try split)<;>(try split)<;>rfl
  .simp only [uV];split<;>(try split)<;>(try split)<;>rfl
 case extract t i =>
  refine Loc.on ?_ ?_ g j
  .simp only [oC];split<;>rfl
  .simp only [oC];split<;>rfl
 case call c =>
  obtain ⟨callee,args,Z⟩:=c;cases callee<;>try (exact Loc.bad g j)
  rename_i b;simp only;have n:∀ d∈args.toList.map (fG e),∀ i∈eK d,i∈foot nid e (.call { callee:=.builtin b,args:=args,argTypes:=Z }):=by
   intro d hd i q;obtain ⟨x,K,rfl⟩:=aV.1 hd;exact w rfl x (by simp only [Op.operands,Call.operands];simpa using K) i q
  generalize args.toList.map (fG e)=az at n ⊢;unfold yF;split
  .exact Loc.on (RH λi q=>g i (n _ (bU.2 rfl) i q)) (by
    simp only [GE];split
    .split<;>(try split)<;>rfl
    .split<;>rfl
    .rfl
    .rfl) g j
  .exact Kg g (n _ (eT ..)) (n _ (cX _ (bU.2 rfl))) j C (by simp [foot,H8])
  .exact Nk g (n _ (bU.2 rfl)) j
  .refine Loc.on ?_ ?_ g j
   .simp only [D9];split<;>rfl
   .simp only [D9];split<;>rfl
  .refine Loc.on ?_ ?_ g j
   .simp only [D9];split<;>rfl
   .simp only [D9];split<;>rfl
  .exact Loc.bad g j
theorem VQ {md:Nat->Bool}{e:Nat->D}{o:Oper}(h:yI o.op=false):(GC P nid md e o H).heap=H:=by
 obtain ⟨u,k,n,p,m,l⟩:=o;simp only at h;unfold GC;cases k<;>first|(simp [yI] at h;done)|skip
 case move x =>
  simp only [yI] at h;simp [h]
 case assign x =>
  simp only [yI] at h;simp [h]
 case pick c a b=>simp only [A9];split<;>first|rfl|(simp only [wQ];split<;>rfl)
 case build t ps =>
  simp only [uW];split
  .split<;>rfl
  .rfl
 case load t a=>simp only [o9];split<;>(try split)<;>rfl
 case nilCheck x=>simp only [kG];split<;>(try split)<;>rfl
 case binOp k t x y t'=>simp only [tN];split<;>first|rfl|(simp only [Jf];split<;>first|rfl|(split<;>rfl)|(simp only [Ke];split<;>rfl))
 case unOp k t x=>simp only [VP];split<;>rfl
 case convert s d x=>simp only [oD];split<;>(try split)<;>rfl
 case makeFunc r first caps =>
  cases r<;>try rfl
  simp only;split<;>rfl
 case slice t x lo hi q =>
  cases q<;>try rfl
  exact Ga
 case fieldAddr t x f=>exact zV
 case indexAddr t x i=>exact zU
 case index t x i=>simp only [uV];split<;>(try split)<;>(try split)<;>rfl
 case extract t i=>simp only [oC];split<;>rfl
 case call c =>
  obtain ⟨g,j,v⟩:=c;cases g<;>try rfl
  rename_i b;simp only;generalize j.toList.map (fG e)=az;unfold yF;split
  .simp only [GE];split
   .split<;>(try split)<;>rfl
   .split<;>rfl
   .rfl
   .rfl
  .simp [yI] at h
  .simp [yI] at h
  .simp only [D9];split<;>rfl
  .simp only [D9];split<;>rfl
  .rfl
 all_goals rfl
end
end Go.Abs
end
section
namespace Go.Abs
theorem H9 {ops:Array Oper}{o:Oper}{t:Tmp}(h:Operand.tmp t∈o.op.operands):t∈o.looksAt ops:=by
 simp only [Oper.looksAt,bE,List.mem_filterMap];exact .inl ⟨.tmp t,by simpa using h,rfl⟩
theorem OV {ops:Array Oper}{o:Oper}{j:Nat}{b:Bool}{t:Tmp}(a:o.guard=some (j,b))(h:(ops[j]?).bind (·.dst)=some t):t∈o.looksAt ops:=by
 simp only [Oper.looksAt,bE,a];grind
section
variable {P:Program} {md:Nat→Bool} {ops:Array Oper} {nid:Nat}
def xH (H' H1:AHeap)(F N:List Nat):AHeap:=⟨H'.next,λi=>H'.H i\/(i∈N/\H1.H i),λi=>if i∈F then H1.get i else H'.get i⟩
theorem OL (H' b:AHeap)(F:List Nat)(nid:Nat):l5 H' b F nid=xH H' b F [nid]:=by
 simp only [l5,xH,AHeap.mk.injEq,true_and,and_true];grind
theorem KL {H H':AHeap}{F N:List Nat}(c:gH F H' H)(b:∀ i∈N,¬ H.H i):xH H' H F N=H':=by
 obtain ⟨n,d,g⟩:=H';simp only [xH,AHeap.mk.injEq,true_and];refine ⟨?_,?_⟩
 .funext i;exact propext ⟨λh=>h.elim id λh=>absurd h.2 (b i h.1),.inl⟩
 .funext i;by_cases a:i∈F
  .rw [if_pos a];exact (c i a).symm
  grind
theorem rJ:∀ (q:List (Nat × Blk)) (H:AHeap),(∀ p∈q,p.1<H.next)->(H.af q).next=H.next
 | [],H,_=>rfl
 | p :: l,H,h=>by
  have h1:(H.push p.1 p.2).next=H.next:=by simp only [AHeap.push,if_pos (h p eG)]
  simp only [AHeap.af];rw [rJ l _ (λx hx=>by rw [h1];exact h x (by simp [hx])),h1]
theorem uH:∀ (q:List (Nat × Blk)) (H:AHeap) (i:Nat),(H.af q).H i↔H.H i\/i∈q.map (·.1)
 | [],H,i=>by simp [AHeap.af]
 | p :: l,H,i=>by
  simp only [AHeap.af];rw [uH l];simp only [AHeap.push,gJ,aS];constructor
  .rintro ((h|h)|h)
   .exact .inr (.inl h)
   .exact .inl h
   .exact .inr (.inr h)
  .rintro (h|h|h)
   .exact .inl (.inr h)
   .exact .inl (.inl h)
   .exact .inr h
theorem KI:∀ (q:List (Nat × Blk)) (H H':AHeap) (i:Nat),(i∈q.map (·.1)\/H.get i=H'.get i)->(H.af q).get i=(H'.af q).get i
 | [],H,H',i,h=>by
  rcases h with h|h
  .simp at h
  .exact h
 | p :: l,H,H',i,h=>by
  simp only [AHeap.af];refine KI l _ _ i ?_;by_cases hl:i∈l.map (·.1)
  .exact .inl hl
  .right
   simp only [AHeap.push];by_cases hp:i=p.1
   .simp [hp]
   .simp only [hp,if_false];rcases h with h|h
    .simp only [gJ,aS] at h;rcases h with h|h
     .exact absurd h hp
     .exact absurd h hl
    .exact h
theorem pO:∀ (q:List (Nat × Blk)) (H:AHeap) (i:Nat),i∉q.map (·.1)->(H.af q).get i=H.get i
 | [],H,i,_=>rfl
 | p :: l,H,i,h=>by
  simp only [gJ,aS,not_or] at h;simp only [AHeap.af];rw [pO l _ i h.2];simp [AHeap.push,h.1]
theorem xB:∀ (u:List (Nat × Blk)) (H:AHeap),(H.U u).next=H.next
 | [],_=>rfl
 | p :: l,H=>xB l (H.put p.1 p.2)
theorem Mw:∀ (u:List (Nat × Blk)) (H:AHeap) (i:Nat),(H.U u).H i↔H.H i
 | [],_,_=>Iff.rfl
 | p :: l,H,i=>Mw l (H.put p.1 p.2) i
theorem OE:∀ (u:List (Nat × Blk)) (H H':AHeap) (i:Nat),H.get i=H'.get i->(H.U u).get i=(H'.U u).get i
 | [],_,_,_,h=>h
 | p :: l,H,H',i,h=>OE l _ _ i (by simp only [AHeap.put];split<;>first|rfl|exact h)
theorem yY:∀ (u:List (Nat × Blk)) (H:AHeap) (i:Nat),(∀ p∈u,p.1≠i)->(H.U u).get i=H.get i
 | [],H,i,_=>rfl
 | p :: l,H,i,h=>by
  simp only [AHeap.U];rw [yY l _ i λx hx=>h x (by simp [hx])];have:=(h p eG).symm;simp [AHeap.put,this]
theorem HM {H H':AHeap}{S:List Nat}{u q:List (Nat × Blk)}(m:∀ p∈u,p.1∈S)(j:gH (S++q.map (·.1)) H' H)(b:∀ p∈q,p.1<H'.next):(H'.U u).af q=xH H' ((H.U u).af q) (S++q.map (·.1)) (q.map (·.1)):=by
 have d:=rJ q (H'.U u) (by rw [xB];exact b);have c:=uH q (H'.U u);have f:=KI q (H'.U u) (H.U u);have e:=pO q (H'.U u);have k:=uH q (H.U u);rw [xB] at d;simp only [Mw] at c k;generalize (H'.U u).af q=X at d c f e;obtain ⟨n,l,g⟩:=X;simp only [xH,AHeap.mk.injEq];refine ⟨d,funext λi=>propext ?_,funext λi=>?_⟩
 .rw [show l i↔_ from c i];grind
 .by_cases a:i∈S++q.map (·.1)
  .rw [if_pos a];exact f i (.inr (OE u _ _ i (j i a)))
  .rw [if_neg a];refine (e i λh=>a (by simp only [bE];exact .inr h)).trans (yY u _ i λp hp he=>a ?_);grind
structure Txt (P:Program) (md:Nat->Bool) (ops:Array Oper) (m nid:Nat) (o:Oper) (e:Nat->D) (H:AHeap) (v:D) (H1:AHeap) (F N:List Nat):Prop where
 c3:H1=xH H H1 F N
 new:∀ id∈N,¬ H.H id/\(id=nid\/(id<m/\H1.H id))
 still:oG md o=false->H1=H
 fx:sJ o.op=false->F=[]
 any:∀ e' H',(∀ t∈o.looksAt ops,e' t=e t)->gH F H' H->nid<H'.next->¬ H'.H nid->(∀ id∈N,id<H'.next/\¬ H'.H id) ->
  qZ P md (some m) nid ops e' o H' λv' H2 _=>v'=v/\H2=xH H' H1 F N
theorem OT {o:Op}(h:sJ o=false):H8 o=false:=by
 cases o<;>first|rfl|(simp [sJ] at h;done)|(simp only [sJ] at h;simp only [H8];exact h)
theorem Ph {e:Nat->D}{o:Op}(h:sJ o=false):foot nid e o=[]:=by simp [foot,h,OT h]
theorem DL {e a:Nat->D}{o:Oper}(h:∀ t∈o.looksAt ops,a t=e t):∀ x∈o.op.operands,fG a x=fG e x:=by
 intro x b;cases x with
 | tmp t=>exact h t (H9 b)
 | _=>rfl
theorem Cb {e b:Nat->D}{o:Oper}(h:∀ t∈o.looksAt ops,b t=e t):∀ x∈o.op.operands,fG (gE b o.op) x=fG (gE e o.op) x:=by
 intro x d;cases x with
 | tmp t =>
  have a:=h t (H9 d);simp only [fG];cases o.op<;>simp only [gE,Fh,a]
  rename_i c _ _;cases c<;>simp only [a]
 | _=>rfl
theorem KP {e e':Nat->D}:∀ (l:List Operand),(∀ x∈l,og e' x=og e x)->Ua e' l=Ua e l
 | [],_=>rfl
 | x :: l,h=>by simp only [Ua,h x eG,KP l λy hy=>h y (by simp [hy])]
theorem Loc.c3 {r:AOut}{H:AHeap}{F:List Nat}(h:Loc r r H F nid):r.heap=l5 H r.heap F nid:=h.heap
theorem T7 {m:Nat}{e:Nat->D}{o:Oper}{H:AHeap}{K:D->AHeap->List Nat->Prop}(h:qZ P md (some m) nid ops e o H K)(T:¬ H.H nid)(a0:nid<H.next)(Z:m<=H.next) :
  ∃ v H1 F N,Txt P md ops m nid o e H v H1 F N/\K v H1 F:=by
 unfold qZ at h;have s:∀ F:List Nat,H=xH H H F [nid]:=λF=>(KL (λ_ _=>rfl) (eL T)).symm;have a:∀ id∈[nid],¬ H.H id/\∀ H1:AHeap,(id=nid\/(id<m/\H1.H id)):=λid hid=>by
  grind
 have z:∀ {H':AHeap},gH [] H' H->∀ {F:List Nat},gH F H' H->xH H' H F [nid]=H':=λ_ _ n=>KL n (eL T);cases L:o.guard with
 | none =>
  simp only [L] at h;cases l:iO e o with
  | some fa =>
   obtain ⟨f,X⟩:=fa;simp only [l] at h;have hh:sJ o.op=true/\GJ md o=CJ md o.dst:=by
    unfold iO at l;split at l
    .rename_i O;unfold GJ;rw [O];exact ⟨rfl,rfl⟩
    .cases l
   rcases h with ⟨r,S,B,G⟩|⟨W,r,S,u,q,Y,hq,B,G⟩
   .refine ⟨r,H,S,[nid],⟨s S,λid hid=>⟨(a id hid).1,(a id hid).2 _⟩,λ_=>rfl,λh=>(by rw [hh.1] at h;cases h),λe' H' k n d E U=>?_⟩,G⟩;unfold qZ;simp only [L];rw [qX (DL k),l];exact .inl ⟨r,S,λH'' hF'=>B H'' λi hi=>(hF' i hi).trans (n i hi),rfl,(z (λ_ h=>by cases h) n).symm⟩
   .have a1:=uH q (H.U u);refine ⟨r,(H.U u).af q,S++q.map (·.1),q.map (·.1),⟨HM Y (λ_ _=>rfl) (λp C=>b4 (hq p C).1 Z),λid hid=>?_,λhw=>?_,λh=>(by rw [hh.1] at h;cases h),λe' H' k n d E U=>?_⟩,G⟩
    .obtain ⟨p,C,rfl⟩:=aV.1 hid;exact ⟨(hq p C).2,.inr ⟨(hq p C).1,(a1 _).2 (.inr hid)⟩⟩
    .unfold oG at hw;rw [hh.2,W] at hw;simp at hw
    .unfold qZ;simp only [L];rw [qX (DL k),l];refine .inr ⟨W,r,S,u,q,Y,λp C=>⟨(hq p C).1,(U p.1 (aV.2 ⟨p,C,rfl⟩)).2⟩,λH'' hF' hn''=>B H'' (λi hi=>(hF' i hi).trans (n i (by simp [hi]))) hn'',rfl,?_⟩;exact HM Y n λp C=>(U p.1 (aV.2 ⟨p,C,rfl⟩)).1
  | none =>
   simp only [l] at h;obtain ⟨B,G⟩:=h;have hl:=E8 (P:=P) (md:=md) (e:=e) (o:=o) (H:=H) (H':=H) (nid:=nid) (λ_ _=>rfl) T a0;refine ⟨_,_,_,[nid],⟨(OL _ _ _ _) ▸ hl.heap,λid hid=>⟨(a id hid).1,(a id hid).2 _⟩,λhw=>VQ (by unfold oG at hw;simp at hw;exact hw.1),λhh=>Ph hh,λe' H' k n d E U=>?_⟩,G (λh=>by cases h)⟩;unfold qZ;simp only [L];rw [qX (DL k),l];simp only;rw [E9 (DL k)];have w:=E8 (P:=P) (md:=md) (e:=e) (o:=o) (H:=H) (H':=H') (nid:=nid) n T d;exact ⟨w.cond B,λ_=>⟨w.val,(OL _ _ _ _) ▸ w.heap⟩⟩
 | some jb =>
  obtain ⟨j,b⟩:=jb;simp only [L] at h;cases R:gD ops e j with
  | none=>simp [R] at h
  | some gc =>
   obtain ⟨g,c⟩:=gc;simp only [R] at h;obtain ⟨V,h⟩:=h;have J:∀ e',(∀ t∈o.looksAt ops,e' t=e t)->gD ops e' j=some (g,c):=by
    intro e' k;rw [<- R];unfold gD;cases ht:(ops[j]?).bind (·.dst) with
    | none=>rfl
    | some t=>simp only [k t (OV L ht)]
   have I:∀ e',(∀ t∈o.looksAt ops,e' t=e t)->Ua e' (gO o.op)=Ua e (gO o.op):=by
    intro e' k;refine KP _ λx hx=>?_;cases x with
    | tmp t=>simp only [og,k t (H9 (Y2 hx))]
    | _=>rfl
   cases l:iO (gE e o.op) o with
   | some fa =>
    obtain ⟨f,X⟩:=fa;simp only [l] at h;obtain ⟨r,S,B,G⟩:=h;have hh:sJ o.op=true:=by
     unfold iO at l;split at l
     .rename_i O;rw [O];rfl
     .cases l
    refine ⟨_,H,S,[nid],⟨s S,λid hid=>⟨(a id hid).1,(a id hid).2 _⟩,λ_=>rfl,λh=>(by rw [hh] at h;cases h),λe' H' k n d E U=>?_⟩,G⟩;unfold qZ;simp only [L,J e' k,I e' k];rw [qX (Cb k),l];exact ⟨V,r,S,λhq H'' hF'=>B hq H'' λi hi=>(hF' i hi).trans (n i hi),rfl,(z (λ_ h=>by cases h) n).symm⟩
   | none =>
    simp only [l] at h;obtain ⟨B,G⟩:=h;refine ⟨_,H,_,[nid],⟨s _,λid hid=>⟨(a id hid).1,(a id hid).2 _⟩,λhw=>rfl,λhh=>Ph hh,λe' H' k n d E U=>?_⟩,G (λh=>by cases h)⟩;unfold qZ;simp only [L,J e' k,I e' k];rw [qX (Cb k),l];simp only;rw [E9 (Cb k)];have w:=E8 (P:=P) (md:=md) (e:=gE e o.op) (o:=o) (H:=H) (H':=H') (nid:=nid) n T d;refine ⟨V,λhq=>⟨w.cond (B hq).1,?_⟩,λ_=>⟨by rw [w.val],(z (λ_ h=>by cases h) n).symm⟩⟩;rw [w.heap,(B hq).2,jF n T]
end
structure Run (P:Program) (md:Nat->Bool) (ops:Array Oper) (sp:List (Nat × Nat)) (n0:Nat) (es:Nat->Nat->D) (Hs:Nat->AHeap) (vs:Nat->D) (Fs Ns:Nat->List Nat) (i0:Nat) (l:List Oper):Prop where
 step:∀ (j:Nat) (o:Oper),l[j]?=some o->es (i0+j+1)=pE (es (i0+j)) o.dst (vs (i0+j))/\Txt P md ops n0 (n0+(i0+j)) o (es (i0+j)) (Hs (i0+j)) (vs (i0+j)) (Hs (i0+j+1)) (Fs (i0+j)) (Ns (i0+j))
 apart:∀ (k j:Nat),k<j->j<l.length->(i0+k,i0+j)∈sp->∀ x∈Fs (i0+k),x∉Fs (i0+j)
theorem LL {P:Program}{md:Nat->Bool}{ops:Array Oper}{sp:List (Nat × Nat)}{n0 nn:Nat}:∀ (l:List Oper) (i:Nat) (acc:List (Nat × List Nat)) (e:Nat->D) (H:AHeap) (K:(Nat->D)->AHeap->Prop),
  j5 P md ops sp n0 i l acc e H K->(∀ id,H.H id->id<n0+i)->H.next=nn->n0+i+l.length<=nn ->
  ∃ (es:Nat->Nat->D) (Hs:Nat->AHeap) (vs:Nat->D) (Fs Ns:Nat->List Nat),es i=e/\Hs i=H/\K (es (i+l.length)) (Hs (i+l.length))/\Run P md ops sp n0 es Hs vs Fs Ns i l /\
   (∀ (j:Nat),j<l.length->∀ p∈acc,(p.1,i+j)∈sp->∀ x∈p.2,x∉Fs (i+j))
 | [],i,acc,e,H,K,h,hal,hnn,hle=>by
  refine ⟨λ_=>e,λ_=>H,λ_=>.junk,λ_=>[],λ_=>[],rfl,rfl,h,⟨λj o h=>by simp at h,λk j _ h=>by simp at h⟩,λj h=>by simp at h⟩
 | o :: l,i,acc,e,H,K,h,hal,hnn,hle=>by
  unfold j5 at h;simp only [e9] at hle;have hn:¬ H.H (n0+i):=λh=>by have:=hal _ h;omega
  have hlt:n0+i<H.next:=bZ;obtain ⟨v,H1,F,N,hT,hchk,hrest⟩:=T7 h hn hlt bZ;have hal1:∀ id,H1.H id->id<n0+(i+1):=λid hid=>by
   rw [hT.c3] at hid;rcases hid with hid|⟨hid,_⟩
   .have:=hal id hid;omega
   .rcases (hT.new id hid).2 with h|⟨h,_⟩<;>omega
  have hnn1:H1.next=nn:=by rw [hT.c3];exact hnn
  obtain ⟨es,Hs,vs,Fs,Ns,he,hH,hK,hrun,hacc⟩:=LL l (i+1) _ _ _ _ hrest hal1 hnn1 bZ;refine ⟨λk=>if k=i then e else es k,λk=>if k=i then H else Hs k,λk=>if k=i then v else vs k,λk=>if k=i then F else Fs k,λk=>if k=i then N else Ns k,by simp,by simp,?_,⟨λj o' ho'=>?_,λk j hkj hj hsp=>?_⟩,λj hj p hp hsp=>?_⟩
  .have:i+(o :: l).length≠i:=eG;simp only [this,if_false];rw [show i+(o :: l).length=i+1+l.length by simp;omega];exact hK
  .cases j with
   | zero =>
    simp only [eE,aZ] at ho';subst ho';have:i+0+1≠i:=bZ;simp only [this,if_false,u5,if_true];rw [show i+1=i+1 from rfl,he,hH];exact ⟨rfl,hT⟩
   | succ j =>
    have h1:i+(j+1)≠i:=bZ;have h2:i+(j+1)+1≠i:=bZ;simp only [h1,h2,if_false];have:=hrun.step j o' (eL ho');rw [(bZ:i+1+j=i+(j+1))] at this;exact this
  .have hj0:i+j≠i:=bZ;simp only [hj0,if_false];cases j with
   | zero=>omega
   | succ j =>
    simp only [e9] at hj;by_cases hk:k=0
    .subst hk;simp only [u5,if_true] at hsp ⊢;have:=hacc j bZ (i,F) eG;rw [(bZ:i+1+j=i+(j+1))] at this;exact this hsp
    .have hk0:i+k≠i:=bZ;simp only [hk0,if_false];have:=hrun.apart (k - 1) j bZ bZ;rw [(bZ:i+1+(k - 1)=i+k),(bZ:i+1+j=i+(j+1))] at this;exact this hsp
  .cases j with
   | zero =>
    simp only [u5,if_true] at hsp ⊢;unfold BH at hchk;cases sp with
    | nil=>simp at hsp
    | cons a sp=>exact hchk p hp hsp
   | succ j =>
    have h1:i+(j+1)≠i:=bZ;simp only [h1,if_false];simp only [e9] at hj;have:=hacc j bZ p (by simp [hp]);rw [(bZ:i+1+j=i+(j+1))] at this;exact this hsp
end Go.Abs
end
section
namespace Go.Abs
theorem EE {p:Nat->Bool}{i:Nat}:∀ (n:Nat),i<n->p i=true->(∀ k,i<k->k<n->p k=false)->iH p n=some i
 | 0,h,_,_=>by omega
 | n+1,h,hp,hk=>by
  by_cases hi:i=n
  .subst hi;simp [iH,hp]
  .simp only [iH,hk n bZ bZ,fC,if_false];exact EE n bZ hp λk h1 h2=>hk k h1 bZ
section
variable (md:Nat→Bool) (ops:Array Oper) (n0:Nat) (e0:Nat→D) (H0:AHeap) (Hs:Nat→AHeap) (vs:Nat→D) (Fs Ns:Nat→List Nat)
def oS (i:Nat):Option Tmp:=(ops[i]?).bind (·.dst)
def r7 (i:Nat):Bool:=match ops[i]? with|some o=>oG md o|none=>false
def eS (S:Nat->Bool)(m:Nat):Nat->D:=λt =>
 match iH (λk=>S k&&(oS ops k==some t)) m with
 | some k=>vs k
 | none=>e0 t
def HS (S:Nat->Bool)(m:Nat):AHeap where
 next:=n0+ops.size
 H:=λid=>H0.H id\/∃ k,k<m/\S k=true/\id∈Ns k/\(Hs (k+1)).H id
 get:=λid=>match iH (λk=>S k&&(r7 md ops k&&(Fs k).contains id)) m with
  | some k=>(Hs (k+1)).get id
  | none=>H0.get id
end
section
variable {P:Program} {md:Nat→Bool} {ops:Array Oper} {sp:List (Nat × Nat)} {n0:Nat} {es:Nat→Nat→D} {Hs:Nat→AHeap} {vs:Nat→D} {Fs Ns:Nat→List Nat}
theorem nP (i:Nat):ops.toList[i]?=ops[i]?:=eG
theorem yT (hr:Run P md ops sp n0 es Hs vs Fs Ns 0 ops.toList)(hn:(Hs 0).next=n0+ops.size):∀ i,i<=ops.size->es i=eS ops (es 0) vs (λ_=>true) i/\Hs i=HS md ops n0 (Hs 0) Hs Fs Ns (λ_=>true) i
 | 0,_=>⟨by funext t;rfl,by
   generalize hH:Hs 0=X at hn;obtain ⟨nx,al,g⟩:=X;simp only [HS,AHeap.mk.injEq];refine ⟨hn,funext λid=>propext ⟨.inl,λh=>h.elim (λh=>h) λ⟨k,hk,_⟩=>by omega⟩,funext λid=>rfl⟩⟩
 | i+1,hi=>by
  obtain ⟨ih1,ih2⟩:=yT hr hn i bZ;have hlt:i<ops.size:=bZ;have ho:ops[i]?=some ops[i]:=bM hlt;obtain ⟨h1,hT⟩:=hr.step i ops[i] (by rw [nP,ho]);simp only [eN] at h1 hT;refine ⟨?_,?_⟩
  .rw [h1,ih1];funext t;simp only [eS,iH,iL];have hd:oS ops i=ops[i].dst:=by simp [oS,ho]
   cases hdd:ops[i].dst with
   | none=>simp [pE,hd,hdd,eS]
   | some d =>
    by_cases ht:t=d
    .subst ht;simp [pE,hd,hdd]
    .have ht':¬ d=t:=λh=>ht h.symm;simp [pE,hd,hdd,ht,ht',eS]
  .have hself:=hT.c3;have hw:r7 md ops i=oG md ops[i]:=by simp [r7,ho]
   have hget:∀ id,(Hs (i+1)).get id=if (r7 md ops i&&(Fs i).contains id)=true then (Hs (i+1)).get id else (Hs i).get id:=by
    intro id;split
    .rfl
    .rename_i hc;by_cases hwr:r7 md ops i=true
     .have hnc:id∉Fs i:=λh=>hc (by simp [hwr,h]);rw [hself];simp [xH,hnc]
     .rw [hT.still (by rw [<- hw];simpa using hwr)]
   have hnext:(Hs (i+1)).next=n0+ops.size:=by rw [hself,ih2];rfl
   have halq:∀ id,(Hs (i+1)).H id↔(Hs i).H id\/(id∈Ns i/\(Hs (i+1)).H id):=λid=>by
    constructor
    .intro h;rw [hself] at h;exact h
    .intro h;rw [hself];exact h
   generalize hH:Hs (i+1)=X at hget hnext halq;obtain ⟨nx,al,g⟩:=X;simp only [HS,AHeap.mk.injEq];refine ⟨hnext,funext λid=>propext ?_,funext λid=>?_⟩
   .rw [show al id↔_ from halq id,ih2];simp only [HS];constructor
    .rintro ((h|⟨k,hk,_,hm,h⟩)|⟨hm,h⟩)
     .exact .inl h
     .exact .inr ⟨k,bZ,trivial,hm,h⟩
     .exact .inr ⟨i,bZ,trivial,hm,by rw [hH];exact h⟩
    .rintro (h|⟨k,hk,_,hm,h⟩)
     .exact .inl (.inl h)
     .by_cases hki:k=i
      .subst hki;rw [hH] at h;exact .inr ⟨hm,h⟩
      .exact .inl (.inr ⟨k,bZ,trivial,hm,h⟩)
   .have:=hget id;simp only at this;rw [this,ih2];simp only [HS,iH,iL];split
    .simp only [hH]
    .rfl
theorem tP (h:yM md ops sp=true){i j:Nat}(a:i<j)(d:j<ops.size) :
  ((PR ops.toList []).getD j 0).testBit i=true\/(M6 ops (ops[i]' bZ) ops[j]=false/\(IV md (ops[i]' bZ) ops[j]=false\/(i,j)∈sp)):=by
 unfold yM at h;simp only [b6,bY] at h;have c:=h j d;rw [bM d] at c;simp only [aL,b6,bY] at c;have b:=c.2 i a;rw [bM bZ] at b;simp only [c5,aL,b7,Ab] at b;exact b
theorem SW (h:yM md ops sp=true){j:Nat}{o:Oper}(c:ops[j]?=some o):∀ e∈o.after.toList,Region.binds .any e=true->e.on<j:=by
 have d:j<ops.size:=(sZ.1 c).1;unfold yM at h;simp only [b6,bY] at h;have b:=h j d;rw [c] at b;simp only [aL,b6,c5,b7,decide_eq_true_eq] at b;intro e f g;rcases b.1.1 e f with a|a
 .rw [g] at a;cases a
 .exact a
variable {S:Nat→Bool} {i:Nat}
def oN (S:Nat->Bool)(i:Nat):Nat->Bool:=λk=>k==i||S k
theorem LQ {o:Op}(h:yI o=true):sJ o=true:=by
 cases o<;>first|rfl|(simp [yI] at h;done)|exact h
theorem rY {md:Nat->Bool}{o:Oper}(h:oG md o=true):sJ o.op=true:=by
 unfold oG at h;rw [c5] at h;rcases h with h|h
 .exact LQ h
 .unfold GJ at h;split at h
  .rename_i a;rw [a];rfl
  .cases h
theorem A6 {x y:Oper}(h:M6 ops x y=false):(∀ t,x.dst=some t->t∉y.looksAt ops/\y.dst≠some t)/\(∀ t,y.dst=some t->t∉x.looksAt ops):=by
 have:=Oper.apart_spec (by simpa [M6] using h);grind
theorem FG (e:yM md ops sp=true)(d:No ops S)(c:No ops (oN S i))(f:i<ops.size)(b:S i=false) :
  (∀ k,k<i->(((PR ops.toList []).getD i 0).testBit k=true)->S k=true)/\(∀ k,i<k->k<ops.size->((PR ops.toList []).getD k 0).testBit i=true->S k=false):=by
 refine ⟨λk hk hb=>?_,λk hk hk2 hb=>?_⟩
 .have:=LE c i k (by simp [oN]) hb;simp only [oN,c5,beq_iff_eq] at this;grind
 .cases a:S k with
  | false=>rfl
  | true=>have:=LE d k i a hb;rw [b] at this;cases this
theorem KG (r:Run P md ops sp n0 es Hs vs Fs Ns 0 ops.toList)(A:(Hs 0).next=n0+ops.size)(o:yM md ops sp=true)(C:No ops S)(w:No ops (oN S i))(q:i<ops.size)(n:S i=false) :
  (∀ t∈(ops[i]).looksAt ops,eS ops (es 0) vs S ops.size t=es i t)/\gH (Fs i) (HS md ops n0 (Hs 0) Hs Fs Ns S ops.size) (Hs i):=by
 obtain ⟨y,x⟩:=FG o C w q n;obtain ⟨E,D⟩:=yT r A i bZ;have v:∀ k,k<ops.size->oS ops k=(ops[k]?).bind (·.dst):=λk _=>rfl;obtain ⟨_,z⟩:=r.step i ops[i] (by rw [nP,bM q]);simp only [eN] at z;refine ⟨λt ht=>?_,λid e=>?_⟩
 .rw [E];simp only [eS,iL];have u:iH (λk=>S k&&(oS ops k==some t)) ops.size=iH (λk=>oS ops k==some t) i:=by
   rw [Co (p:=λk=>S k&&(oS ops k==some t)) i ops.size bZ (λk g hk2=>?_)]
   .refine lI i λk g=>?_;cases c:(oS ops k==some t) with
    | false=>simp
    | true =>
     have j:k<ops.size:=bZ;have m:ops[k].dst=some t:=by simpa [oS,bM j] using c
     rcases tP o g q with h|⟨h,_⟩
     .simp [y k g h]
     .exact absurd ht ((A6 h).1 t m).1
   .by_cases l:k=i
    .subst l;simp [n]
    .cases c:(oS ops k==some t) with
     | false=>simp
     | true =>
      have m:ops[k].dst=some t:=by simpa [oS,bM hk2] using c
      rcases tP o (bZ:i<k) hk2 with h|⟨h,_⟩
      .simp [x k bZ hk2 h]
      .exact absurd ht ((A6 h).2 t m)
  rw [u]
 .rw [D];have b:sJ ops[i].op=true:=by
   cases B:sJ ops[i].op with
   | true=>rfl
   | false=>rw [z.fx B] at e;cases e
  simp only [HS,iL];have u:iH (λk=>S k&&(r7 md ops k&&(Fs k).contains id)) ops.size=iH (λk=>r7 md ops k&&(Fs k).contains id) i:=by
   rw [Co (p:=λk=>S k&&(r7 md ops k&&(Fs k).contains id)) i ops.size bZ (λk g hk2=>?_)]
   .refine lI i λk g=>?_;cases c:(r7 md ops k&&(Fs k).contains id) with
    | false=>simp
    | true =>
     have j:k<ops.size:=bZ;simp only [aL,Ab] at c;have a:oG md ops[k]=true:=by simpa [r7,bM j] using c.1
     rcases tP o g q with h|⟨_,h|h⟩
     .simp [y k g h]
     .simp [IV,b,rY a,a] at h
     .have d:=r.apart k i g (eL q);simp only [eN] at d;exact absurd e (d h id c.2)
   .by_cases l:k=i
    .subst l;simp [n]
    .cases c:(r7 md ops k&&(Fs k).contains id) with
     | false=>simp
     | true =>
      simp only [aL,Ab] at c;have a:oG md ops[k]=true:=by simpa [r7,bM hk2] using c.1
      rcases tP o (bZ:i<k) hk2 with h|⟨_,h|h⟩
      .simp [x k bZ hk2 h]
      .simp [IV,b,rY a,a] at h
      .have d:=r.apart i k bZ (eL hk2);simp only [eN] at d;exact absurd c.2 (d h id e)
  rw [u]
theorem T3 (y:Run P md ops sp n0 es Hs vs Fs Ns 0 ops.toList)(H:(Hs 0).next=n0+ops.size)(x:yM md ops sp=true)(F:No ops S)(v:No ops (oN S i))(m:i<ops.size)(u:S i=false) :
  pE (eS ops (es 0) vs S ops.size) ops[i].dst (vs i)=eS ops (es 0) vs (oN S i) ops.size /\
  xH (HS md ops n0 (Hs 0) Hs Fs Ns S ops.size) (Hs (i+1)) (Fs i) (Ns i)=HS md ops n0 (Hs 0) Hs Fs Ns (oN S i) ops.size:=by
 obtain ⟨I,C⟩:=FG x F v m u;obtain ⟨_,E⟩:=y.step i ops[i] (by rw [nP,bM m]);simp only [eN] at E;have B:=(KG y H x F v m u).2;have j:ops[i]?=some ops[i]:=bM m;refine ⟨?_,?_⟩
 .funext t;by_cases q:ops[i].dst=some t
  .have g:iH (λk=>oN S i k&&(oS ops k==some t)) ops.size=some i:=by
    refine EE ops.size m (by simp [oN,oS,j,q]) λk e c=>?_;cases r:(oS ops k==some t) with
    | false=>simp
    | true =>
     have z:ops[k].dst=some t:=by simpa [oS,bM c] using r
     rcases tP x e c with h|⟨h,_⟩
     .have a:(k==i)=false:=by simp;omega
      simp [oN,a,C k e c h]
     .exact absurd z ((A6 h).1 t q).2
   simp only [eS,g,pE,q,if_true]
  .have g:iH (λk=>oN S i k&&(oS ops k==some t)) ops.size=iH (λk=>S k&&(oS ops k==some t)) ops.size:=by
    refine lI _ λk e=>?_;by_cases a:k=i
    .subst a;have:(oS ops k==some t)=false:=by simp [oS,j];exact q
     simp [this]
    .have:(k==i)=false:=by simpa using a
     simp [oN,this]
   simp only [eS,g];cases A:ops[i].dst with
   | none=>rfl
   | some d =>
    have:¬ t=d:=λh=>q (by rw [A,h]);simp only [pE,this,if_false];rfl
 .simp only [xH,HS,AHeap.mk.injEq,true_and];refine ⟨funext λid=>propext ?_,funext λid=>?_⟩
  .constructor
   .rintro ((h|⟨k,e,n,o,h⟩)|⟨o,h⟩)
    .exact .inl h
    .exact .inr ⟨k,e,by simp [oN,n],o,h⟩
    .exact .inr ⟨i,m,by simp [oN],o,h⟩
   .rintro (h|⟨k,e,n,o,h⟩)
    .exact .inl (.inl h)
    .by_cases a:k=i
     .subst a;exact .inr ⟨o,h⟩
     .have:(k==i)=false:=by simpa using a
      exact .inl (.inr ⟨k,e,by simpa [oN,this] using n,o,h⟩)
  .by_cases w:oG md ops[i]=true
   .by_cases b:id∈Fs i
    .rw [if_pos b];have g:iH (λk=>oN S i k&&(r7 md ops k&&(Fs k).contains id)) ops.size=some i:=by
      refine EE ops.size m (by simp [oN,r7,j,w,b]) λk e c=>?_;cases r:(r7 md ops k&&(Fs k).contains id) with
      | false=>simp
      | true =>
       simp only [aL,Ab] at r;have p:oG md ops[k]=true:=by simpa [r7,bM c] using r.1
       rcases tP x e c with h|⟨_,h|h⟩
       .have a:(k==i)=false:=by simp;omega
        simp [oN,a,C k e c h]
       .simp [IV,rY w,rY p,p] at h
       .have s:=y.apart i k e (eL c);simp only [eN] at s;exact absurd r.2 (s h id b)
     rw [g]
    .rw [if_neg b];have g:iH (λk=>oN S i k&&(r7 md ops k&&(Fs k).contains id)) ops.size=iH (λk=>S k&&(r7 md ops k&&(Fs k).contains id)) ops.size:=by
      refine lI _ λk e=>?_;by_cases a:k=i
      .subst a;simp [b]
      .have:(k==i)=false:=by simpa using a
       simp [oN,this]
     rw [g]
   .have g:iH (λk=>oN S i k&&(r7 md ops k&&(Fs k).contains id)) ops.size=iH (λk=>S k&&(r7 md ops k&&(Fs k).contains id)) ops.size:=by
     refine lI _ λk e=>?_;by_cases a:k=i
     .subst a;have:r7 md ops k=false:=by simp [r7,j];simpa using w
      simp [this]
     .have:(k==i)=false:=by simpa using a
      simp [oN,this]
    rw [g];by_cases b:id∈Fs i
    .rw [if_pos b,E.still (eL w),<- B id b];rfl
    .rw [if_neg b]
theorem CY (hr:Run P md ops sp n0 es Hs vs Fs Ns 0 ops.toList){id:Nat}:∀ (j k:Nat),k<=j->j<=ops.size->(Hs k).H id->(Hs j).H id
 | 0,k,hk,_,h=>by rw [(bZ:(0:Nat)=k)];exact h
 | j+1,k,hk,hj,h=>by
  by_cases he:k=j+1
  .rw [<- he];exact h
  .have ih:=CY hr j k bZ bZ h;obtain ⟨_,hT⟩:=hr.step j ops[j] (by rw [nP,bM bZ]);simp only [eN] at hT;rw [hT.c3];exact .inl ih
theorem Tk (a:Run P md ops sp n0 es Hs vs Fs Ns 0 ops.toList)(s:i<ops.size)(j:S i=false):∀ id∈Ns i,¬ (HS md ops n0 (Hs 0) Hs Fs Ns S ops.size).H id:=by
 intro id g;obtain ⟨_,m⟩:=a.step i ops[i] (by rw [nP,bM s]);simp only [eN] at m;obtain ⟨n,l⟩:=m.new id g;rintro (h|⟨k,r,c,p,h⟩)
 .exact n (CY a i 0 bZ bZ h)
 .obtain ⟨_,b⟩:=a.step k ops[k] (by rw [nP,bM r]);simp only [eN] at b;obtain ⟨o,d⟩:=b.new id p;have f:k≠i:=λe=>by subst e;rw [j] at c;cases c
  rcases Nat.lt_or_gt_of_ne f with q|t
  .exact n (CY a i (k+1) bZ bZ h)
  .rcases l with l|⟨l,u⟩
   .rcases d with d|⟨d,_⟩<;>omega
   .exact o (CY a k (i+1) bZ bZ u)
end
end Go.Abs
end
section
namespace Go.Abs
def Came (n:Nat)(M0:Nat->Prop)(H0:AHeap)(σ0:Nat->Option Ow)(w0:World)(K:(Nat->D)->AHeap->Prop)(a:Act)(w:World):Prop :=
 ∃ e H σ,K e H/\St n M0 H σ w e a/\Stp σ0 w0 σ w/\Keeps (dD M0 H0 σ0) σ0 H0.H w0 (dD M0 H σ) σ H.H w
theorem Came.mono {n:Nat}{M0:Nat->Prop}{H0:AHeap}{σ0:Nat->Option Ow}{w0:World}{K K':(Nat->D)->AHeap->Prop}{a:Act}{w:World}(h:Came n M0 H0 σ0 w0 K a w)
 (hk:∀ e H,K e H->K' e H):Came n M0 H0 σ0 w0 K' a w:=let ⟨e,H,σ,a,b⟩:=h;⟨e,H,σ,hk _ _ a,b⟩
theorem Came.trans {n:Nat}{M0:Nat->Prop}{H0 H1:AHeap}{σ0 σ1:Nat->Option Ow}{w0 w1:World}{K:(Nat->D)->AHeap->Prop}{a:Act}{w:World}
  (hs:Stp σ0 w0 σ1 w1) (hk:Keeps (dD M0 H0 σ0) σ0 H0.H w0 (dD M0 H1 σ1) σ1 H1.H w1) (h:Came n M0 H1 σ1 w1 K a w):Came n M0 H0 σ0 w0 K a w :=
 let ⟨e,H,σ,a,b,c,d⟩:=h;⟨e,H,σ,a,b,hs.trans c,hk.trans d⟩
section
variable {P:Program} {md:Nat→Bool} {n:Nat} {M0:Nat→Prop}
theorem Rel.b1 {H:AHeap}{σ:Nat->Option Ow}{w:World}(h:Rel M0 H σ w){m:Nat}(hm:H.next<=m):Rel M0 { H with next:=m } σ w :=
 ⟨h.bn,λid hid=>b4 (h.bp id hid) hm,λid k hk=>h.ak id k hk,h.inj,h.lt,h.m0⟩
theorem StepC.mono {ops:Array Oper}{Q:Exit->Act->World->Prop}{o:Oper}{K K':Act->World->Prop}{a:Act}{w:World}(h:∀ a w,K a w->K' a w)(b:StepC P ops Q o K a w):StepC P ops Q o K' a w:=by
 unfold StepC at *;split
 .rename_i c;rw [if_pos c] at b;exact b.imp (Oper.wp_mono h) id
 grind
def oO (P:Program)(md:Nat->Bool)(ops:Array Oper):List Oper->(Nat->D)->AHeap->((Nat->D)->AHeap->Prop)->Prop
 | [],e,H,K=>K e H
 | o :: rest,e,H,K=>qZ P md none H.next ops e o H λv H' _=>oO P md ops rest (pE e o.dst v) H' K
theorem Je {ops:Array Oper}{Q:Exit->Act->World->Prop}:∀ (l:List Oper) (e:Nat->D) (H:AHeap) (K:(Nat->D)->AHeap->Prop),oO P md ops l e H K->(∀ o∈l,sM n o.dst=true) ->
  ∀ (σ:Nat->Option Ow) (w:World) (a:Act),St n M0 H σ w e a->(∀ a' w',Came n M0 H σ w K a' w'->Q .normal a' w')->wpList P ops Q l a w
 | [],e,H,K,h,hd,σ,w,a,hS,hQ=>wpList_nil (hQ a w ⟨e,H,σ,h,hS,.refl _ _,.refl _ _ _ _⟩)
 | o :: l,e,H,K,h,hd,σ,w,a,hS,hQ=>by
  unfold oO at h;have hs:=A8 (Q:=Q) h hS (λhn=>pZ _ (hS.bl.bp _ hn)) (hd o eG);have:=StepC.mono (K':=wpList P ops Q l) (λa' w' ⟨v,H',F,σ',hk,hS',hst,hkp⟩ =>
   Je l _ _ _ hk (λo' ho'=>hd o' (by simp [ho'])) σ' w' a' hS' λa'' w'' hc=>hQ a'' w'' (hc.trans hst hkp)) hs
  unfold StepC at this;unfold wpList;exact this
theorem W2 {ops:Array Oper}{a:Nat->D}{vs:Nat->D}{S T:Nat->Bool}{m:Nat}(h:∀ k,k<m->S k=T k):eS ops a vs S m=eS ops a vs T m:=by
 funext t;unfold eS;rw [lI (p:=λk=>S k&&(oS ops k==some t)) (q:=λk=>T k&&(oS ops k==some t)) m λk hk=>by rw [h k hk]]
theorem SN {ops:Array Oper}{c:Nat}{f:AHeap}{e:Nat->AHeap}{a d:Nat->List Nat}{S T:Nat->Bool}{m:Nat}(h:∀ k,k<m->S k=T k):HS md ops c f e a d S m=HS md ops c f e a d T m:=by
 unfold HS;congr 1
 .funext b;grind
 .funext b;rw [lI (p:=λk=>S k&&(r7 md ops k&&(a k).contains b)) (q:=λk=>T k&&(r7 md ops k&&(a k).contains b)) m λk hk=>by rw [h k hk]]
def wM (S:Nat->Bool):Nat->Nat
 | 0=>0
 | m+1=>(if S m then 0 else 1)+wM S m
theorem PB {S:Nat->Bool}:∀ {m:Nat},wM S m=0->∀ k,k<m->S k=true
 | 0,_,k,hk=>by omega
 | m+1,h,k,hk=>by
  simp only [wM] at h;by_cases hk':k=m
  .subst hk';cases hS:S k<;>simp [hS] at h ⊢
  .exact PB (m:=m) bZ k bZ
theorem IR {S T:Nat->Bool}:∀ {m:Nat},(∀ k,k<m->S k=T k)->wM S m=wM T m
 | 0,_=>rfl
 | m+1,h=>by simp only [wM,h m bZ,IR (m:=m) λk hk=>h k bZ]
theorem SD {S:Nat->Bool}{i:Nat}(a:S i=false):∀ {m:Nat},i<m->wM (oN S i) m+1=wM S m
 | 0,h=>by omega
 | m+1,h=>by
  simp only [wM];by_cases hi:i=m
  .subst hi;have h1:oN S i i=true:=by simp [oN]
   have b:wM (oN S i) i=wM S i:=IR λk hk=>by
    have:(k==i)=false:=by simp;omega
    simp [oN,this]
   grind
  .have h1:oN S i m=S m:=by
    have:(m==i)=false:=by simp;omega
    simp [oN,this]
   have:=SD a (m:=m) bZ;rw [h1];omega
theorem Ri {ops:Array Oper}{sp:List (Nat × Nat)}{id:Nat}{e:Nat->D}{H:AHeap}{σ:Nat->Option Ow}{w:World}{a:Act}{K:(Nat->D)->AHeap->Prop}{Q:Exit->Act->World->Prop}
  (hm:P.follows .mixedOrders=true) (hs:yM md ops sp=true) (hd:∀ o∈ops.toList,sM n o.dst=true)
  (h:j5 P md ops sp H.next 0 ops.toList [] e { H with next:=H.next+ops.size } K) (hS:St n M0 H σ w e a) (hQ:∀ a' w',Came n M0 H σ w K a' w'->Q .normal a' w') :
  (Code.region id ops true).wp P Q a w:=by
 refine wp_region_any hm ?_;obtain ⟨c1,a1,a2⟩:=hS.bl.drew;have c0:=c1.b1 (m:=H.next+ops.size) bZ;have b9:St n M0 { H with next:=H.next+ops.size } σ w.drew e a:=⟨c0,λt=>(hS.cR t).u a2,hS.defers,hS.size⟩;obtain ⟨es,s,vs,R,Ns,he,O,hK,c,_⟩:=LL (nn:=H.next+ops.size) ops.toList 0 [] e _ K h (λi I=>hS.bl.bp i I) rfl eG;simp only [eN,fY] at hK;have hn:(s 0).next=H.next+ops.size:=by rw [O]
 have b1:∀ (d:Nat) (b:Array Bool) (a':Act) (w':World),b.size=ops.size->wM (λk=>b.getD k false) ops.size<=d->No ops (λk=>b.getD k false) ->
   (∃ σ',St n M0 (HS md ops H.next (s 0) s R Ns (λk=>b.getD k false) ops.size) σ' w' (eS ops (es 0) vs (λk=>b.getD k false) ops.size) a'/\Stp σ w σ' w' /\
    Keeps (dD M0 H σ) σ H.H w (dD M0 (HS md ops H.next (s 0) s R Ns (λk=>b.getD k false) ops.size) σ') σ' (HS md ops H.next (s 0) s R Ns (λk=>b.getD k false) ops.size).H w') ->
   wpAny P .any ops Q d b a' w':=by
  intro d;induction d with
  | zero =>
   intro b a' w' hl hc hD ⟨σ',J,l,E⟩;have g:=PB (S:=λk=>b.getD k false) (m:=ops.size) bZ;refine ⟨?_,?_⟩
   .unfold Region.ready;rw [List.filter_eq_nil_iff];intro i I;have b5:i<ops.size:=by simpa using I
    have hg:b.getD i true=true:=by
     have:=g i b5;simp only [mX] at this ⊢;rw [bM bZ] at this ⊢;simpa using this
    simp [hg]
   .refine hQ a' w' ⟨es ops.size,s ops.size,σ',hK,?_,l,?_⟩
    .obtain ⟨r1,r2⟩:=yT c hn ops.size (bD _);rw [r1,r2,W2 (T:=λk=>b.getD k false) λk r=>(g k r).symm,SN (T:=λk=>b.getD k false) λk r=>(g k r).symm];exact J
    .obtain ⟨r1,r2⟩:=yT c hn ops.size (bD _);rw [r2,SN (T:=λk=>b.getD k false) λk r=>(g k r).symm];exact E
  | succ d ih =>
   intro b a' w' hl hc hD ⟨σ',J,l,E⟩;have A:∀ i,i∈Region.ready .any ops b->i<ops.size/\b.getD i false=false/\∀ o,ops[i]?=some o->∀ z∈o.after.toList,Region.binds .any z=true->b.getD z.on false=true:=by
    intro i I;unfold Region.ready at I;simp only [f7,bY,aL,b7] at I;obtain ⟨h1,h2,h3⟩:=I;refine ⟨h1,?_,λo B z x hb=>?_⟩
    .simp only [mX] at h2 ⊢;rw [bM bZ] at h2 ⊢;simpa using h2
    .rw [B] at h3;simp only [eV,aD,Array.all_eq_true_iff_forall_mem] at h3;have:=h3 z (eL x);rw [hb] at this;simpa using this
   refine ⟨λL=>?_,λi I=>?_⟩
   .-- nothing is ready: all is done
    have g:∀ k,k<ops.size->b.getD k false=true:=by
     intro k;induction k using Nat.strongRecOn with
     | _ k ihk =>
      intro r;cases X:b.getD k false with
      | true=>rfl
      | false =>
       exfalso;have N:k∈Region.ready .any ops b:=by
        unfold Region.ready;simp only [f7,bY,aL,b7];refine ⟨r,?_,?_⟩
        .simp only [mX] at X ⊢;rw [bM bZ] at X ⊢;simpa using X
        .have B:ops[k]?=some ops[k]:=bM r;rw [B];simp only [eV,aD,Array.all_eq_true_iff_forall_mem];intro z x;cases hb:Region.binds .any z with
         | false=>simp
         | true =>
          have b2:=SW hs B z (eL x) hb;simp [ihk z.on b2 bZ]
       rw [L] at N;cases N
    have:=(ih b a' w' hl (by
     have:wM (λk=>b.getD k false) ops.size=wM (λ_=>true) ops.size:=IR g;have h0:∀ m,wM (λ_=>true) m=0:=λm=>by induction m with
      | zero=>rfl
      | succ m ih=>simp [wM,ih]
     rw [this,h0];omega) hD ⟨σ',J,l,E⟩)
    cases d with
    | zero=>exact this.2
    | succ f=>exact this.1 L
   .obtain ⟨u,y,b4⟩:=A i I;have B:ops[i]?=some ops[i]:=bM u;have a0:No ops (oN (λk=>b.getD k false) i):=by
     intro j o hj hSj z x hb;simp only [oN,c5,beq_iff_eq] at hSj;simp only [oN,c5];rcases hSj with rfl|hSj
     .exact .inr (b4 o hj z x hb)
     .exact .inr (hD j o hj hSj z x hb)
    have q:(λk=>(b.setIfInBounds i true).getD k false)=oN (λk=>b.getD k false) i:=by
     funext k;simp only [oN,mX,Array.getElem?_setIfInBounds];by_cases Y:k=i
     .subst Y;simp [hl,u]
     .have:¬ i=k:=λh=>Y h.symm;have h2:(k==i)=false:=by simpa using Y
      simp [this,h2]
    obtain ⟨a4,b6⟩:=KG c hn hs hD a0 u y;obtain ⟨b8,a5⟩:=T3 c hn hs hD a0 u y;obtain ⟨_,hT⟩:=c.step i ops[i] (by rw [nP,B]);simp only [eN] at hT;have W:=Tk c (S:=λk=>b.getD k false) u y;have a9:∀ id∈Ns i,id<H.next+ops.size:=λid G=>by rcases (hT.new id G).2 with h|⟨h,_⟩<;>omega
    have M:¬ (HS md ops H.next (s 0) s R Ns (λk=>b.getD k false) ops.size).H (H.next+i):=by
     simp only [HS];rintro (h|⟨k,r,a7,b3,_⟩)
     .rw [O] at h;have:=hS.bl.bp _ h;omega
     .obtain ⟨_,a6⟩:=c.step k ops[k] (by rw [nP,bM r]);simp only [eN] at a6;have:k=i:=by rcases (a6.new _ b3).2 with h|⟨h,_⟩<;>omega
      subst this;rw [y] at a7;cases a7
    have U:=hT.any _ _ a4 b6 (by simp only [HS];omega) M (λid G=>⟨by simp only [HS];exact a9 id G,W id G⟩);have hc:=A8 (Q:=Q) U J M (hd ops[i] eG) (λm hm=>by cases hm;simp only [HS];omega);have Z:StepC P ops Q ops[i] (wpAny P .any ops Q d (b.setIfInBounds i true)) a' w':=by
     refine StepC.mono (λc3 b0 ⟨v,H',F,σ'',⟨hv,c2⟩,a8,V,a3⟩=>?_) hc;subst hv;subst c2;refine ih _ c3 b0 (eL hl) ?_ (by rw [q];exact a0) ⟨σ'',?_,l.trans V,?_⟩
     .rw [q];have:=SD (S:=λk=>b.getD k false) y u;omega
     .rw [q,<- b8,<- a5];exact a8
     .rw [q,<- a5];exact E.trans a3
    unfold wpOp;rw [B];exact Z
 refine b1 ops.size _ a _ eG ?_ ?_ ⟨σ,?_,a1,?_⟩
 .have:∀ S:Nat->Bool,∀ m,wM S m<=m:=λS m=>by
   induction m with
   | zero=>simp [wM]
   | succ m ih=>simp only [wM];split<;>omega
  exact this _ _
 .intro j o B hSj;exfalso;have hj:j<ops.size:=(sZ.1 B).1;simp [hj] at hSj
 .have hS0:(λk=>(Array.replicate ops.size false).getD k false)=λ_=>false:=by
   funext k;by_cases r:k<ops.size<;>simp [r]
  have C:∀ (p:Nat->Bool) m,iH (λk=>false&&p k) m=none:=λp m=>by
   induction m with
   | zero=>rfl
   | succ m ih=>simp only [iH,Gd,fC,if_false];exact ih
  have e1:eS ops (es 0) vs (λk=>(Array.replicate ops.size false).getD k false) ops.size=e:=by
   rw [hS0];funext t;simp only [eS,C (λk=>oS ops k==some t)];rw [he]
  have e2:HS md ops H.next (s 0) s R Ns (λk=>(Array.replicate ops.size false).getD k false) ops.size={ H with next:=H.next+ops.size }:=by
   rw [hS0];simp only [HS,AHeap.mk.injEq,true_and];refine ⟨funext λid=>propext ⟨λh=>h.elim (λh=>by rw [O] at h;exact h) λ⟨_,_,h,_⟩=>(by cases h),λh=>.inl (by rw [O];exact h)⟩,funext λid=>?_⟩;rw [C (λk=>r7 md ops k&&(R k).contains id),O]
  rw [e1,e2];exact b9
 .have hS0:(λk=>(Array.replicate ops.size false).getD k false)=λ_=>false:=by
   funext k;by_cases r:k<ops.size<;>simp [r]
  have C:∀ (p:Nat->Bool) m,iH (λk=>false&&p k) m=none:=λp m=>by
   induction m with
   | zero=>rfl
   | succ m ih=>simp only [iH,Gd,fC,if_false];exact ih
  have e2:HS md ops H.next (s 0) s R Ns (λk=>(Array.replicate ops.size false).getD k false) ops.size={ H with next:=H.next+ops.size }:=by
   rw [hS0];simp only [HS,AHeap.mk.injEq,true_and];refine ⟨funext λid=>propext ⟨λh=>h.elim (λh=>by rw [O] at h;exact h) λ⟨_,_,h,_⟩=>(by cases h),λh=>.inl (by rw [O];exact h)⟩,funext λid=>?_⟩;rw [C (λk=>r7 md ops k&&(R k).contains id),O]
  rw [e2];exact a2
end
end Go.Abs
end
