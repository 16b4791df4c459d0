/- The abstraction layer, part N: an operation looks at no more -/
import Derived.Test.YthalajhajpjjeaaGreatZgAC
set_option linter.unusedVariables false
set_option linter.unusedSimpArgs false
section
namespace Go.Abs
def AOut.on (r:AOut)(H:AHeap):AOut:=⟨r.cond,r.fact,r.val,H⟩
def lD (H' H1:AHeap)(F:List Nat)(nid:Nat):AHeap:=⟨H'.next,λi=>H'.al i\/(i=nid/\H1.al nid),λi=>if i∈F then H1.get i else H'.get i⟩
section
variable {P:Program} {H H':AHeap} {F:List Nat} {nid:Nat}
theorem iI (c:f6 F H' H)(b:¬ H.al nid):lD H' H F nid=H':=by
 obtain ⟨n,d,g⟩:=H'
 simp only [lD,AHeap.mk.injEq,true_and]
 refine ⟨?_,?_⟩
 .funext i;exact propext ⟨λh=>h.elim id λh=>absurd h.2 b,.inl⟩
 .funext i
  by_cases a:i∈F
  .rw [if_pos a];exact (c i a).symm
  grind
theorem mZ (l:f6 F H' H)(f:nid<H'.next)(k:nid∈F)(b:Blk):H'.push nid b=lD H' (H.push nid b) F nid:=by
 obtain ⟨n,m,g⟩:=H'
 have c:nid<n:=f
 simp only [AHeap.push,lD,AHeap.mk.injEq,c,if_true,true_and]
 refine ⟨?_,?_⟩
 .funext i;exact propext ⟨λh=>h.elim (λe=>.inr ⟨e,.inl trivial⟩) .inl,λh=>h.elim .inr λh=>.inl h.1⟩
 .funext i
  by_cases j:i∈F
  .rw [if_pos j]
   by_cases d:i=nid
   .rw [if_pos d,if_pos d]
   .rw [if_neg d,if_neg d];exact l i j
  grind
theorem tO (j:f6 F H' H)(e:¬ H.al nid){a:Nat}(f:a∈F)(b:Blk):H'.put a b=lD H' (H.put a b) F nid:=by
 obtain ⟨n,k,g⟩:=H'
 simp only [AHeap.put,lD,AHeap.mk.injEq,true_and]
 refine ⟨?_,?_⟩
 .funext i;exact propext ⟨.inl,λh=>h.elim (λh=>h) λh=>absurd h.2 e⟩
 .funext i
  by_cases d:i∈F
  .rw [if_pos d]
   by_cases c:i=a
   .rw [if_pos c,if_pos c]
   .rw [if_neg c,if_neg c];exact j i d
  grind
theorem QR (e:f6 F H' H)(c:Nat)(b:Blk):f6 F (H'.put c b) (H.put c b):=by
 intro i d
 simp only [AHeap.put]
 by_cases a:i=c
 .rw [if_pos a,if_pos a]
 .rw [if_neg a,if_neg a];exact e i d
theorem OW (H:AHeap)(a:Nat):(H.frz a).al=H.al/\(H.frz a).next=H.next:=by unfold AHeap.frz;cases H.get a<;>exact ⟨rfl,rfl⟩
theorem wP (a:List Nat):∀ H:AHeap,(fJ a H).al=H.al/\(fJ a H).next=H.next:=by
 induction a with
 | nil=>intro H;exact ⟨rfl,rfl⟩
 | cons i l ih=>intro H;exact ⟨(ih _).1.trans (OW H i).1,(ih _).2.trans (OW H i).2⟩
theorem Ji (H:AHeap)(a i:Nat)(h:i≠a):(H.frz a).get i=H.get i:=by grind [AHeap.frz, AHeap.put]
theorem Ba (b:List Nat):∀ (H:AHeap) (i:Nat),i∉b->(fJ b H).get i=H.get i:=by
 induction b with
 | nil=>intro H i _;rfl
 | cons a l ih =>
  intro H i c
  simp only [fJ]
  rw [ih _ i (λh=>c (by simp [h])),Ji H a i (λe=>c (by simp [e]))]
theorem GJ (b:List Nat)(c:∀ i∈b,i∈F):∀ {H H':AHeap},f6 F H' H->f6 F (fJ b H') (fJ b H):=by
 induction b with
 | nil=>intro H H' h;exact h
 | cons a l ih =>
  intro H H' h
  refine ih (λi hi=>c i (by simp [hi])) ?_
  have d:=h a (c a bW)
  unfold AHeap.frz
  rw [d]
  cases H.get a with
  | none=>exact h
  | some k=>exact QR h a _
theorem B1 (a:List Nat)(d:∀ i∈a,i∈F)(c:AHeap):lD (fJ a H') c F nid=lD H' c F nid:=by
 simp only [lD,AHeap.mk.injEq]
 refine ⟨(wP a H').2,by rw [(wP a H').1],?_⟩
 funext i
 by_cases b:i∈F
 .rw [if_pos b,if_pos b]
 .rw [if_neg b,if_neg b,Ba a H' i (λh=>b (d i h))]
theorem PN (d:D):∀ i∈dV d,i∈eB d:=by
 cases d<;>intro i a<;>first|exact a|(simp [dV,lC] at a;done)|(simp only [dV,lC,eB] at a ⊢;exact a)
theorem FJ {d:D}(h:f6 (lC d) H' H):fG H' d=fG H d:=by
 cases d<;>try rfl
 .rename_i a n
  simp only [fG,h a (by simp [lC])]
 .rename_i a n b c
  simp only [fG,h a (by simp [lC])]
theorem FG {d:D}(h:f6 (dV d) H' H):iM H' d=iM H d:=by
 cases d with
 | agg cs =>
  simp only [iM]
  congr 1
  exact bU λx a=>FJ λi b=>h i (bT.2 ⟨x,a,b⟩)
 | _ =>
  have c:=h
  simp only [iM]
  exact FJ c
theorem If {x:D}(h:f6 (eB x) H' H):fK H' x=fK H x:=by
 cases x<;>try rfl
 rename_i c a i b
 simp only [fK,h c (by simp [eB])]
theorem NL {t:TypeId}{x:D}(h:f6 (eB x) H' H):nU P t x H'=(nU P t x H).on H':=by
 unfold nU
 rw [If h]
 cases fK H x with
 | none=>rfl
 | some cs=>cases tk P t<;>rfl
theorem AP {x:D}{n:Nat}(h:f6 (eB x) H' H):eJ x n H'=(eJ x n H).on H':=by
 cases x<;>try rfl
 rename_i a b i c
 simp only [eJ,h a (by simp [eB])]
 cases H.get a<;>rfl
theorem CF {x:D}{n:Nat}:(eJ x n H).heap=H:=by
 unfold eJ
 split
 .rfl
 .split<;>rfl
 .rfl
theorem xF {t:TypeId}{x:D}{f:Nat}:(iF P t x f H).heap=H:=by
 unfold iF
 split
 .split
  .exact CF
  .rfl
 .rfl
theorem xE {t:TypeId}{x i:D}:(iE P t x i H).heap=H:=by
 unfold iE
 split
 .split
  .split<;>rfl
  .split<;>rfl
  .split
   .exact CF
   .rfl
 .rfl
theorem EQ {x:D}(h:f6 (eB x) H' H):jI x H'=(jI x H).on H':=by
 cases x<;>try rfl
 rename_i a b i c
 simp only [jI,h a (by simp [eB])]
 cases H.get a<;>rfl
theorem DD {t:TypeId}{x:D}{f:Nat}(h:f6 (eB x) H' H):iF P t x f H'=(iF P t x f H).on H':=by
 unfold iF
 cases bk P t with
 | none=>rfl
 | some b=>cases b with
  | ar sz=>rfl
  | st l =>
   simp only
   cases l[f]? with
   | none=>rfl
   | some q=>simp only [AP h];rfl
theorem DC {t:TypeId}{x i:D}(h:f6 (eB x) H' H):iE P t x i H'=(iE P t x i H).on H':=by
 cases i<;>try rfl
 rename_i k n
 unfold iE
 cases x<;>simp only<;>first
  | (cases sl P t<;>rfl)
  | (simp only [AP h];cases Pn P t<;>rfl)
  | skip
 rename_i a m
 simp only [h a (by simp [eB])]
 cases sl P t<;>cases H.get a<;>rfl
theorem La {t:TypeId}{x:D}{a b:Option D}(h:f6 (eB x) H' H):qD P t x a b H'=(qD P t x a b H).on H':=by
 unfold qD
 cases x<;>try rfl
 .simp only;split<;>rfl
 .simp only;split<;>rfl
 .rename_i c n
  simp only [h c (by simp [eB])]
  split<;>rfl
theorem Ek {t:TypeId}{x:D}{a b:Option D}:(qD P t x a b H).heap=H:=by
 unfold qD
 split
 .split<;>rfl
 .split<;>rfl
 .split<;>rfl
 .rfl
theorem Pp {t:TypeId}{x:D}(h:f6 (eB x) H' H):ER P t x H'=(ER P t x H).on H':=by
 unfold ER
 cases P.underlying t with
 | none=>rfl
 | some b =>
  cases b<;>try rfl
  .cases x<;>rfl
  .cases x<;>try rfl
   rename_i a n
   simp only [h a (by simp [eB])]
   cases H.get a<;>rfl
theorem H8 {x:D}(h:f6 (eB x) H' H):pC H' x=pC H x:=by
 cases x<;>try rfl
 rename_i a n
 simp only [pC,h a (by simp [eB])]
structure Loc (r r':AOut) (H':AHeap) (F:List Nat) (nid:Nat):Prop where
 cond:r.cond->r'.cond
 fact:r'.fact=r.fact
 val:r'.val=r.val
 heap:r'.heap=lD H' r.heap F nid
theorem Loc.on {r a:AOut}(h:a=r.on H')(c:r.heap=H)(d:f6 F H' H)(b:¬ H.al nid):Loc r a H' F nid:=by
 subst h
 exact ⟨λh=>h,rfl,rfl,by rw [c,iI d b];rfl⟩
theorem Loc.bad (hF:f6 F H' H)(hn:¬ H.al nid):Loc (AOut.bad H) (AOut.bad H') H' F nid:=⟨λh=>h,rfl,rfl,(iI hF hn).symm⟩
theorem CH {t:TypeId}{x v:D}(d:f6 F H' H)(l:∀ i∈eB x,i∈F)(f:¬ H.al nid):Loc (mC P t x v H) (mC P t x v H') H' F nid:=by
 unfold mC
 cases x<;>try (exact Loc.bad d f)
 rename_i e g i j
 have b:e∈F:=l e (by simp [eB])
 simp only
 rw [d e b]
 cases m:H.get e with
 | none=>(simp only [];exact Loc.bad d f)
 | some k =>
  simp only []
  cases n:k.es[i]? with
  | none=>(simp only [];exact Loc.bad d f)
  | some c =>
   exact ⟨λh=>h,rfl,rfl,tO d f b _⟩
theorem Lb {t:TypeId}{x:D}(c:f6 F H' H)(g:∀ i∈eB x,i∈F)(e:¬ H.al nid):Loc (uR P t x H) (uR P t x H') H' F nid:=by
 unfold uR
 cases x<;>try (exact Loc.bad c e)
 rename_i d f j n
 have b:d∈F:=g d (by simp [eB])
 simp only
 rw [c d b]
 cases l:sl P t with
 | none=>(simp only [];exact Loc.bad c e)
 | some s =>
  cases m:H.get d with
  | none=>(simp only [];exact Loc.bad c e)
  | some k =>
   exact ⟨λh=>h,rfl,rfl,tO c e b _⟩
theorem Il {t f:TypeId}{x y:D}(b:f6 F H' H)(l:∀ i∈eB x,i∈F)(m:∀ i∈eB y,i∈F)(e:¬ H.al nid)(j:nid<H'.next)(g:nid∈F) :
  Loc (kH P nid t f x y H) (kH P nid t f x y H') H' F nid:=by
 unfold kH
 rw [H8 (H:=H) (H':=H') λi hi=>b i (m i hi)]
 cases q:sl P t with
 | none=>(simp only [];exact Loc.bad b e)
 | some s =>
  cases r:pC H y with
  | none =>
   unfold pJ
   cases y<;>try (exact Loc.bad b e)
   cases x<;>try (exact Loc.bad b e)
   rename_i d n
   cases o:A5 P f with
   | none=>(simp only [];exact Loc.bad b e)
   | some kn =>
    simp only []
    have c:d∈F:=l d (by simp [eB])
    rw [b d c]
    cases p:H.get d with
    | none=>(simp only [];exact Loc.bad b e)
    | some k =>
     exact ⟨λh=>h,rfl,rfl,tO b e c _⟩
  | some ys =>
   simp only []
   cases x<;>try (exact Loc.bad b e)
   .exact ⟨λh=>h,rfl,rfl,mZ b j g _⟩
   .rename_i d n
    have c:d∈F:=l d (by simp [eB])
    simp only
    rw [b d c]
    cases p:H.get d with
    | none=>(simp only [];exact Loc.bad b e)
    | some k =>
     simp only []
     exact ⟨λh=>h,rfl,rfl,tO b e c _⟩
theorem Dz {md:Nat->Bool}{e:Nat->D}{o:Oper}(g:f6 (foot nid e o.op) H' H)(j:¬ H.al nid)(C:nid<H'.next) :
  Loc (EP P nid md e o H) (EP P nid md e o H') H' (foot nid e o.op) nid:=by
 obtain ⟨E,F,G,a0,X,W⟩:=o
 have w:qT F=true->∀ x∈F.operands,∀ i∈eB (eZ e x),i∈foot nid e F:=λhh x K i q=>by
  simp only [foot,hh,if_true,aW,bT]
  exact .inr ⟨x,by simpa using K,q⟩
 have L:Gp F=true->nid∈foot nid e F:=λh=>by simp [foot,h]
 simp only at g
 have I:qT F=true->∀ x∈F.operands,f6 (eB (eZ e x)) H' H:=λhh x K i q=>g i (w hh x K i q)
 unfold EP
 simp only
 have r:∀ x:Operand,Gp F=jB x ->
   Loc (if jB x then DB P nid (De md E) G H else ⟨True,True,eZ e x,H⟩) (if jB x then DB P nid (De md E) G H' else ⟨True,True,eZ e x,H'⟩) H' (foot nid e F) nid:=by
  intro x Q
  by_cases K:jB x=true
  .rw [if_pos K]
   rw [if_pos K]
   unfold DB
   generalize De md E=m
   cases m with
   | false=>exact ⟨λh=>h,rfl,rfl,(iI g j).symm⟩
   | true =>
    simp only [if_true]
    cases hs:sl P G with
    | none=>(simp only [];exact Loc.bad g j)
    | some s=>exact ⟨λh=>h,rfl,rfl,mZ g C (L (Q.trans K)) _⟩
  .rw [if_neg K]
   rw [if_neg K]
   exact ⟨λh=>h,rfl,rfl,(iI g j).symm⟩
 cases F<;>try (exact Loc.bad g j)
 case move x=>exact r x rfl
 case assign x=>exact r x rfl
 case pick c a b =>
  refine Loc.on ?_ ?_ g j
  .simp only [zN];split<;>first|rfl|(simp only [uQ];split<;>rfl)
  .simp only [zN];split<;>first|rfl|(simp only [uQ];split<;>rfl)
 case alloc t =>
  simp only [wW]
  cases hz:zd P t with
  | none=>(simp only [];exact Loc.bad g j)
  | some z =>
   simp only []
   generalize De md E=m
   cases m with
   | false=>exact ⟨λh=>h,rfl,rfl,(iI g j).symm⟩
   | true=>exact ⟨λh=>h,rfl,rfl,mZ g C (L rfl) _⟩
 case box t x =>
  simp only [Lc]
  generalize De md E=m
  cases m with
  | false=>exact ⟨λh=>h,rfl,rfl,(iI g j).symm⟩
  | true=>exact ⟨λh=>h,rfl,rfl,mZ g C (L rfl) _⟩
 case build t ps =>
  refine Loc.on ?_ ?_ g j
  .simp only [sZ];split
   .split<;>rfl
   .rfl
  .simp only [sZ];split
   .split<;>rfl
   .rfl
 case buildSlice t m ps =>
  have k:∀ i∈(ps.toList.flatMap λp=>KU md (eZ e p.2)),i∈foot nid e (.buildSlice t m ps):=λi q=>by
   obtain ⟨p,U,q⟩:=bT.1 q
   refine w rfl p.2 ?_ i (PN _ i (T8 q))
   simp only [Op.operands]
   simpa using ⟨p.1,by simpa using U⟩
  have R:(ps.toList.map λp=>(p.1,Qf md H' (eZ e p.2)))=ps.toList.map λp=>(p.1,Qf md H (eZ e p.2)):=bU λp U=>by
   congr 1;unfold Qf;split
   .rfl
   .rename_i hb;exact FG λi q=>g i (k i (bT.2 ⟨p,U,by unfold KU;rw [if_neg hb];exact q⟩))
  simp only
  rw [R]
  have V:=GJ _ k g
  have O:∀ H1:AHeap,lD (fJ (ps.toList.flatMap λp=>KU md (eZ e p.2)) H') H1 (foot nid e (.buildSlice t m ps)) nid=lD H' H1 (foot nid e (.buildSlice t m ps)) nid:=λH1=>B1 _ k H1
  have N:Loc (AOut.bad (fJ (ps.toList.flatMap λp=>KU md (eZ e p.2)) H)) (AOut.bad (fJ (ps.toList.flatMap λp=>KU md (eZ e p.2)) H')) H' (foot nid e (.buildSlice t m ps)) nid :=
   ⟨λh=>h,rfl,rfl,by
    show fJ _ H'=lD H' (fJ _ H) _ nid
    rw [<- O,iI V (by rw [(wP _ H).1];exact j)]⟩
  simp only [iR]
  cases hs:sl P t with
  | none=>(simp only [];exact N)
  | some s =>
   simp only []
   cases a1:AM (λi=>some (i * s.sz,s.sz)) (List.replicate m s.z).flatten (ps.toList.map λp=>(p.1,Qf md H (eZ e p.2))) with
   | none=>(simp only [];exact N)
   | some cs =>
    simp only []
    generalize De md E=m'
    cases m' with
    | false =>
     refine ⟨λh=>h,rfl,rfl,?_⟩
     simp only [eX,if_false]
     rw [<- O,iI V (by rw [(wP _ H).1];exact j)]
    | true =>
     refine ⟨λh=>h,rfl,rfl,?_⟩
     simp only [if_true]
     rw [<- O]
     exact mZ V (by rw [(wP _ H').2];exact C) (L rfl) _
 case load t a=>exact Loc.on (NL (I rfl a (by simp [Op.operands]))) (by simp only [nU];split<;>(try split)<;>rfl) g j
 case store t a v =>
  have Y:=w rfl a (by simp [Op.operands])
  have hv:=w rfl v (by simp [Op.operands])
  simp only
  by_cases Q:md 1000000=true
  .rw [if_pos Q]
   rw [if_pos Q]
   have k:∀ i∈dV (eZ e v),i∈foot nid e (.store t a v):=λi q=>hv i (PN _ i q)
   rw [FG (H:=H) (H':=H') λi q=>g i (k i q)]
   have S:=CH (P:=P) (t:=t) (v:=iM H (eZ e v)) (nid:=nid) (GJ _ k g) Y (by rw [(wP _ H).1];exact j)
   exact ⟨S.cond,S.fact,S.val,by rw [S.heap,B1 _ k]⟩
  .rw [if_neg Q]
   rw [if_neg Q]
   exact CH g Y j
 case nilCheck x=>exact Loc.on (EQ (I rfl x (by simp [Op.operands]))) (by simp only [jI];split<;>(try split)<;>rfl) g j
 case binOp F t x y t' =>
  refine Loc.on ?_ ?_ g j
  .simp only [rR];split<;>first|rfl|(simp only [Hk];split<;>first|rfl|(split<;>rfl)|(simp only [Ik];split<;>rfl))
  .simp only [rR];split<;>first|rfl|(simp only [Hk];split<;>first|rfl|(split<;>rfl)|(simp only [Ik];split<;>rfl))
 case unOp F t x =>
  refine Loc.on ?_ ?_ g j
  .simp only [S1];split<;>rfl
  .simp only [S1];split<;>rfl
 case convert s d x =>
  refine Loc.on ?_ ?_ g j
  .simp only [mV];split<;>(try split)<;>rfl
  .simp only [mV];split<;>(try split)<;>rfl
 case makeFunc fn first caps =>
  cases fn<;>try (exact Loc.bad g j)
  simp only
  by_cases T:first.isEmpty=true
  .rw [if_pos T]
   rw [if_pos T]
   exact ⟨λh=>h,rfl,rfl,(iI g j).symm⟩
  .rw [if_neg T];rw [if_neg T];exact Loc.bad g j
 case makeSlice t l c =>
  simp only [CK]
  split
  .exact ⟨λh=>h,rfl,rfl,mZ g C (L rfl) _⟩
  .exact Loc.bad g j
 case slice t x lo q mx =>
  cases mx<;>try (exact Loc.bad g j)
  exact Loc.on (La (I rfl x (by simp [Op.operands]))) Ek g j
 case fieldAddr t x f=>exact Loc.on (DD (I rfl x (by simp [Op.operands]))) xF g j
 case indexAddr t x i=>exact Loc.on (DC (I rfl x (by simp [Op.operands]))) xE g j
 case index t x i =>
  refine Loc.on ?_ ?_ g j
  .simp only [sY];split<;>(try split)<;>(try split)<;>rfl
  .simp only [sY];split<;>(try split)<;>(try split)<;>rfl
 case extract t i =>
  refine Loc.on ?_ ?_ g j
  .simp only [mU];split<;>rfl
  .simp only [mU];split<;>rfl
 case call c =>
  obtain ⟨callee,args,Z⟩:=c
  cases callee<;>try (exact Loc.bad g j)
  rename_i b
  simp only
  have n:∀ d∈args.toList.map (eZ e),∀ i∈eB d,i∈foot nid e (.call { callee:=.builtin b,args:=args,argTypes:=Z }):=by
   intro d hd i q
   obtain ⟨x,K,rfl⟩:=bB.1 hd
   exact w rfl x (by simp only [Op.operands,Call.operands];simpa using K) i q
  generalize args.toList.map (eZ e)=az at n ⊢
  unfold vU
  split
  .exact Loc.on (Pp λi q=>g i (n _ (bL.2 rfl) i q)) (by
    simp only [ER]
    split
    .split<;>(try split)<;>rfl
    .split<;>rfl
    .rfl
    .rfl) g j
  .exact Il g (n _ (fN ..)) (n _ (dC _ (bL.2 rfl))) j C (by simp [foot,Gp])
  .exact Lb g (n _ (bL.2 rfl)) j
  .refine Loc.on ?_ ?_ g j
   .simp only [CJ];split<;>rfl
   .simp only [CJ];split<;>rfl
  .refine Loc.on ?_ ?_ g j
   .simp only [CJ];split<;>rfl
   .simp only [CJ];split<;>rfl
  .exact Loc.bad g j
theorem S2 {md:Nat->Bool}{e:Nat->D}{o:Oper}(h:vV o.op=false):(EP P nid md e o H).heap=H:=by
 obtain ⟨u,k,n,p,m,l⟩:=o
 simp only at h
 unfold EP
 cases k<;>first|(simp [vV] at h;done)|skip
 case move x =>
  simp only [vV] at h
  simp [h]
 case assign x =>
  simp only [vV] at h
  simp [h]
 case pick c a b=>simp only [zN];split<;>first|rfl|(simp only [uQ];split<;>rfl)
 case build t ps =>
  simp only [sZ]
  split
  .split<;>rfl
  .rfl
 case load t a=>simp only [nU];split<;>(try split)<;>rfl
 case nilCheck x=>simp only [jI];split<;>(try split)<;>rfl
 case binOp k t x y t'=>simp only [rR];split<;>first|rfl|(simp only [Hk];split<;>first|rfl|(split<;>rfl)|(simp only [Ik];split<;>rfl))
 case unOp k t x=>simp only [S1];split<;>rfl
 case convert s d x=>simp only [mV];split<;>(try split)<;>rfl
 case makeFunc r first caps =>
  cases r<;>try rfl
  simp only
  split<;>rfl
 case slice t x lo hi q =>
  cases q<;>try rfl
  exact Ek
 case fieldAddr t x f=>exact xF
 case indexAddr t x i=>exact xE
 case index t x i=>simp only [sY];split<;>(try split)<;>(try split)<;>rfl
 case extract t i=>simp only [mU];split<;>rfl
 case call c =>
  obtain ⟨g,j,v⟩:=c
  cases g<;>try rfl
  rename_i b
  simp only
  generalize j.toList.map (eZ e)=az
  unfold vU
  split
  .simp only [ER]
   split
   .split<;>(try split)<;>rfl
   .split<;>rfl
   .rfl
   .rfl
  .simp [vV] at h
  .simp [vV] at h
  .simp only [CJ];split<;>rfl
  .simp only [CJ];split<;>rfl
  .rfl
 all_goals rfl
end
end Go.Abs
end
section
namespace Go.Abs
theorem Gq {ops:Array Oper}{o:Oper}{t:Tmp}(h:Operand.tmp t∈o.op.operands):t∈o.looksAt ops:=by
 simp only [Oper.looksAt,aW,List.mem_filterMap]
 exact .inl ⟨.tmp t,by simpa using h,rfl⟩
theorem MG {ops:Array Oper}{o:Oper}{j:Nat}{b:Bool}{t:Tmp}(a:o.guard=some (j,b))(h:(ops[j]?).bind (·.dst)=some t):t∈o.looksAt ops:=by
 simp only [Oper.looksAt,aW,a]
 grind
section
variable {P:Program} {md:Nat→Bool} {ops:Array Oper} {nid:Nat}
def vB (H' H1:AHeap)(F N:List Nat):AHeap:=⟨H'.next,λi=>H'.al i\/(i∈N/\H1.al i),λi=>if i∈F then H1.get i else H'.get i⟩
theorem Mu (H' b:AHeap)(F:List Nat)(nid:Nat):lD H' b F nid=vB H' b F [nid]:=by
 simp only [lD,vB,AHeap.mk.injEq,true_and,and_true]
 grind
theorem IN {H H':AHeap}{F N:List Nat}(c:f6 F H' H)(b:∀ i∈N,¬ H.al i):vB H' H F N=H':=by
 obtain ⟨n,d,g⟩:=H'
 simp only [vB,AHeap.mk.injEq,true_and]
 refine ⟨?_,?_⟩
 .funext i;exact propext ⟨λh=>h.elim id λh=>absurd h.2 (b i h.1),.inl⟩
 .funext i
  by_cases a:i∈F
  .rw [if_pos a];exact (c i a).symm
  grind
theorem pU:∀ (q:List (Nat × Blk)) (H:AHeap),(∀ p∈q,p.1<H.next)->(H.pushs q).next=H.next
 | [],H,_=>rfl
 | p :: l,H,h=>by
  have h1:(H.push p.1 p.2).next=H.next:=by simp only [AHeap.push,if_pos (h p bW)]
  simp only [AHeap.pushs]
  rw [pU l _ (λx hx=>by rw [h1];exact h x (by simp [hx])),h1]
theorem sF:∀ (q:List (Nat × Blk)) (H:AHeap) (i:Nat),(H.pushs q).al i↔H.al i\/i∈q.map (·.1)
 | [],H,i=>by simp [AHeap.pushs]
 | p :: l,H,i=>by
  simp only [AHeap.pushs]
  rw [sF l]
  simp only [AHeap.push,g9,aU]
  constructor
  .rintro ((h|h)|h)
   .exact .inr (.inl h)
   .exact .inl h
   .exact .inr (.inr h)
  .rintro (h|h|h)
   .exact .inl (.inr h)
   .exact .inl (.inl h)
   .exact .inr h
theorem IL:∀ (q:List (Nat × Blk)) (H H':AHeap) (i:Nat),(i∈q.map (·.1)\/H.get i=H'.get i)->(H.pushs q).get i=(H'.pushs q).get i
 | [],H,H',i,h=>by
  rcases h with h|h
  .simp at h
  .exact h
 | p :: l,H,H',i,h=>by
  simp only [AHeap.pushs]
  refine IL l _ _ i ?_
  by_cases hl:i∈l.map (·.1)
  .exact .inl hl
  .right
   simp only [AHeap.push]
   by_cases hp:i=p.1
   .simp [hp]
   .simp only [hp,if_false]
    rcases h with h|h
    .simp only [g9,aU] at h
     rcases h with h|h
     .exact absurd h hp
     .exact absurd h hl
    .exact h
theorem oB:∀ (q:List (Nat × Blk)) (H:AHeap) (i:Nat),i∉q.map (·.1)->(H.pushs q).get i=H.get i
 | [],H,i,_=>rfl
 | p :: l,H,i,h=>by
  simp only [g9,aU,not_or] at h
  simp only [AHeap.pushs]
  rw [oB l _ i h.2]
  simp [AHeap.push,h.1]
theorem u6:∀ (u:List (Nat × Blk)) (H:AHeap),(H.puts u).next=H.next
 | [],_=>rfl
 | p :: l,H=>u6 l (H.put p.1 p.2)
theorem Kr:∀ (u:List (Nat × Blk)) (H:AHeap) (i:Nat),(H.puts u).al i↔H.al i
 | [],_,_=>Iff.rfl
 | p :: l,H,i=>Kr l (H.put p.1 p.2) i
theorem Mo:∀ (u:List (Nat × Blk)) (H H':AHeap) (i:Nat),H.get i=H'.get i->(H.puts u).get i=(H'.puts u).get i
 | [],_,_,_,h=>h
 | p :: l,H,H',i,h=>Mo l _ _ i (by simp only [AHeap.put];split<;>first|rfl|exact h)
theorem wI:∀ (u:List (Nat × Blk)) (H:AHeap) (i:Nat),(∀ p∈u,p.1≠i)->(H.puts u).get i=H.get i
 | [],H,i,_=>rfl
 | p :: l,H,i,h=>by
  simp only [AHeap.puts]
  rw [wI l _ i λx hx=>h x (by simp [hx])]
  have:=(h p bW).symm
  simp [AHeap.put,this]
theorem Ge {H H':AHeap}{S:List Nat}{u q:List (Nat × Blk)}(m:∀ p∈u,p.1∈S)(j:f6 (S++q.map (·.1)) H' H)(b:∀ p∈q,p.1<H'.next):(H'.puts u).pushs q=vB H' ((H.puts u).pushs q) (S++q.map (·.1)) (q.map (·.1)):=by
 have d:=pU q (H'.puts u) (by rw [u6];exact b)
 have c:=sF q (H'.puts u)
 have f:=IL q (H'.puts u) (H.puts u)
 have e:=oB q (H'.puts u)
 have k:=sF q (H.puts u)
 rw [u6] at d
 simp only [Kr] at c k
 generalize (H'.puts u).pushs q=X at d c f e
 obtain ⟨n,l,g⟩:=X
 simp only [vB,AHeap.mk.injEq]
 refine ⟨d,funext λi=>propext ?_,funext λi=>?_⟩
 .rw [show l i↔_ from c i]
  grind
 .by_cases a:i∈S++q.map (·.1)
  .rw [if_pos a]
   exact f i (.inr (Mo u _ _ i (j i a)))
  .rw [if_neg a]
   refine (e i λh=>a (by simp only [aW];exact .inr h)).trans (wI u _ i λp hp he=>a ?_)
   grind
structure Txt (P:Program) (md:Nat->Bool) (ops:Array Oper) (m nid:Nat) (o:Oper) (e:Nat->D) (H:AHeap) (v:D) (H1:AHeap) (F N:List Nat):Prop where
 self:H1=vB H H1 F N
 new:∀ id∈N,¬ H.al id/\(id=nid\/(id<m/\H1.al id))
 still:mX md o=false->H1=H
 foot:qT o.op=false->F=[]
 any:∀ e' H',(∀ t∈o.looksAt ops,e' t=e t)->f6 F H' H->nid<H'.next->¬ H'.al nid->(∀ id∈N,id<H'.next/\¬ H'.al id) ->
  pI P md (some m) nid ops e' o H' λv' H2 _=>v'=v/\H2=vB H' H1 F N
theorem MF {o:Op}(h:qT o=false):Gp o=false:=by
 cases o<;>first|rfl|(simp [qT] at h;done)|(simp only [qT] at h;simp only [Gp];exact h)
theorem M3 {e:Nat->D}{o:Op}(h:qT o=false):foot nid e o=[]:=by simp [foot,h,MF h]
theorem Cq {e a:Nat->D}{o:Oper}(h:∀ t∈o.looksAt ops,a t=e t):∀ x∈o.op.operands,eZ a x=eZ e x:=by
 intro x b
 cases x with
 | tmp t=>exact h t (Gq b)
 | _=>rfl
theorem AU {e b:Nat->D}{o:Oper}(h:∀ t∈o.looksAt ops,b t=e t):∀ x∈o.op.operands,eZ (gE b o.op) x=eZ (gE e o.op) x:=by
 intro x d
 cases x with
 | tmp t =>
  have a:=h t (Gq d)
  simp only [eZ]
  cases o.op<;>simp only [gE,DH,a]
  rename_i c _ _
  cases c<;>simp only [a]
 | _=>rfl
theorem IR {e e':Nat->D}:∀ (l:List Operand),(∀ x∈l,og e' x=og e x)->RF e' l=RF e l
 | [],_=>rfl
 | x :: l,h=>by simp only [RF,h x bW,IR l λy hy=>h y (by simp [hy])]
theorem Loc.self {r:AOut}{H:AHeap}{F:List Nat}(h:Loc r r H F nid):r.heap=lD H r.heap F nid:=h.heap
theorem RC {m:Nat}{e:Nat->D}{o:Oper}{H:AHeap}{K:D->AHeap->List Nat->Prop}(h:pI P md (some m) nid ops e o H K)(T:¬ H.al nid)(a0:nid<H.next)(Z:m<=H.next) :
  ∃ v H1 F N,Txt P md ops m nid o e H v H1 F N/\K v H1 F:=by
 unfold pI at h
 have s:∀ F:List Nat,H=vB H H F [nid]:=λF=>(IN (λ_ _=>rfl) (bX T)).symm
 have a:∀ id∈[nid],¬ H.al id/\∀ H1:AHeap,(id=nid\/(id<m/\H1.al id)):=λid hid=>by
  grind
 have z:∀ {H':AHeap},f6 [] H' H->∀ {F:List Nat},f6 F H' H->vB H' H F [nid]=H':=λ_ _ n=>IN n (bX T)
 cases L:o.guard with
 | none =>
  simp only [L] at h
  cases l:gQ e o with
  | some fa =>
   obtain ⟨f,X⟩:=fa
   simp only [l] at h
   have hh:qT o.op=true/\EX md o=De md o.dst:=by
    unfold gQ at l
    split at l
    .rename_i O;unfold EX;rw [O];exact ⟨rfl,rfl⟩
    .cases l
   rcases h with ⟨r,S,B,G⟩|⟨W,r,S,u,q,Y,hq,B,G⟩
   .refine ⟨r,H,S,[nid],⟨s S,λid hid=>⟨(a id hid).1,(a id hid).2 _⟩,λ_=>rfl,λh=>(by rw [hh.1] at h;cases h),λe' H' k n d E U=>?_⟩,G⟩
    unfold pI
    simp only [L]
    rw [pF (Cq k),l]
    exact .inl ⟨r,S,λH'' hF'=>B H'' λi hi=>(hF' i hi).trans (n i hi),rfl,(z (λ_ h=>by cases h) n).symm⟩
   .have a1:=sF q (H.puts u)
    refine ⟨r,(H.puts u).pushs q,S++q.map (·.1),q.map (·.1),⟨Ge Y (λ_ _=>rfl) (λp C=>cC (hq p C).1 Z),λid hid=>?_,λhw=>?_,λh=>(by rw [hh.1] at h;cases h),λe' H' k n d E U=>?_⟩,G⟩
    .obtain ⟨p,C,rfl⟩:=bB.1 hid
     exact ⟨(hq p C).2,.inr ⟨(hq p C).1,(a1 _).2 (.inr hid)⟩⟩
    .unfold mX at hw
     rw [hh.2,W] at hw
     simp at hw
    .unfold pI
     simp only [L]
     rw [pF (Cq k),l]
     refine .inr ⟨W,r,S,u,q,Y,λp C=>⟨(hq p C).1,(U p.1 (bB.2 ⟨p,C,rfl⟩)).2⟩,λH'' hF' hn''=>B H'' (λi hi=>(hF' i hi).trans (n i (by simp [hi]))) hn'',rfl,?_⟩
     exact Ge Y n λp C=>(U p.1 (bB.2 ⟨p,C,rfl⟩)).1
  | none =>
   simp only [l] at h
   obtain ⟨B,G⟩:=h
   have hl:=Dz (P:=P) (md:=md) (e:=e) (o:=o) (H:=H) (H':=H) (nid:=nid) (λ_ _=>rfl) T a0
   refine ⟨_,_,_,[nid],⟨(Mu _ _ _ _) ▸ hl.heap,λid hid=>⟨(a id hid).1,(a id hid).2 _⟩,λhw=>S2 (by unfold mX at hw;simp at hw;exact hw.1),λhh=>M3 hh,λe' H' k n d E U=>?_⟩,G (λh=>by cases h)⟩
   unfold pI
   simp only [L]
   rw [pF (Cq k),l]
   simp only
   rw [DA (Cq k)]
   have w:=Dz (P:=P) (md:=md) (e:=e) (o:=o) (H:=H) (H':=H') (nid:=nid) n T d
   exact ⟨w.cond B,λ_=>⟨w.val,(Mu _ _ _ _) ▸ w.heap⟩⟩
 | some jb =>
  obtain ⟨j,b⟩:=jb
  simp only [L] at h
  cases R:gD ops e j with
  | none=>simp [R] at h
  | some gc =>
   obtain ⟨g,c⟩:=gc
   simp only [R] at h
   obtain ⟨V,h⟩:=h
   have J:∀ e',(∀ t∈o.looksAt ops,e' t=e t)->gD ops e' j=some (g,c):=by
    intro e' k
    rw [<- R]
    unfold gD
    cases ht:(ops[j]?).bind (·.dst) with
    | none=>rfl
    | some t=>simp only [k t (MG L ht)]
   have I:∀ e',(∀ t∈o.looksAt ops,e' t=e t)->RF e' (gO o.op)=RF e (gO o.op):=by
    intro e' k
    refine IR _ λx hx=>?_
    cases x with
    | tmp t=>simp only [og,k t (Gq (Vw hx))]
    | _=>rfl
   cases l:gQ (gE e o.op) o with
   | some fa =>
    obtain ⟨f,X⟩:=fa
    simp only [l] at h
    obtain ⟨r,S,B,G⟩:=h
    have hh:qT o.op=true:=by
     unfold gQ at l
     split at l
     .rename_i O;rw [O];rfl
     .cases l
    refine ⟨_,H,S,[nid],⟨s S,λid hid=>⟨(a id hid).1,(a id hid).2 _⟩,λ_=>rfl,λh=>(by rw [hh] at h;cases h),λe' H' k n d E U=>?_⟩,G⟩
    unfold pI
    simp only [L,J e' k,I e' k]
    rw [pF (AU k),l]
    exact ⟨V,r,S,λhq H'' hF'=>B hq H'' λi hi=>(hF' i hi).trans (n i hi),rfl,(z (λ_ h=>by cases h) n).symm⟩
   | none =>
    simp only [l] at h
    obtain ⟨B,G⟩:=h
    refine ⟨_,H,_,[nid],⟨s _,λid hid=>⟨(a id hid).1,(a id hid).2 _⟩,λhw=>rfl,λhh=>M3 hh,λe' H' k n d E U=>?_⟩,G (λh=>by cases h)⟩
    unfold pI
    simp only [L,J e' k,I e' k]
    rw [pF (AU k),l]
    simp only
    rw [DA (AU k)]
    have w:=Dz (P:=P) (md:=md) (e:=gE e o.op) (o:=o) (H:=H) (H':=H') (nid:=nid) n T d
    refine ⟨V,λhq=>⟨w.cond (B hq).1,?_⟩,λ_=>⟨by rw [w.val],(z (λ_ h=>by cases h) n).symm⟩⟩
    rw [w.heap,(B hq).2,iI n T]
end
structure Run (P:Program) (md:Nat->Bool) (ops:Array Oper) (sp:List (Nat × Nat)) (n0:Nat) (es:Nat->Nat->D) (Hs:Nat->AHeap) (vs:Nat->D) (Fs Ns:Nat->List Nat) (i0:Nat) (l:List Oper):Prop where
 step:∀ (j:Nat) (o:Oper),l[j]?=some o->es (i0+j+1)=oP (es (i0+j)) o.dst (vs (i0+j))/\Txt P md ops n0 (n0+(i0+j)) o (es (i0+j)) (Hs (i0+j)) (vs (i0+j)) (Hs (i0+j+1)) (Fs (i0+j)) (Ns (i0+j))
 apart:∀ (k j:Nat),k<j->j<l.length->(i0+k,i0+j)∈sp->∀ x∈Fs (i0+k),x∉Fs (i0+j)
theorem JH {P:Program}{md:Nat->Bool}{ops:Array Oper}{sp:List (Nat × Nat)}{n0 nn:Nat}:∀ (l:List Oper) (i:Nat) (acc:List (Nat × List Nat)) (e:Nat->D) (H:AHeap) (K:(Nat->D)->AHeap->Prop),
  jZ P md ops sp n0 i l acc e H K->(∀ id,H.al id->id<n0+i)->H.next=nn->n0+i+l.length<=nn ->
  ∃ (es:Nat->Nat->D) (Hs:Nat->AHeap) (vs:Nat->D) (Fs Ns:Nat->List Nat),es i=e/\Hs i=H/\K (es (i+l.length)) (Hs (i+l.length))/\Run P md ops sp n0 es Hs vs Fs Ns i l /\
   (∀ (j:Nat),j<l.length->∀ p∈acc,(p.1,i+j)∈sp->∀ x∈p.2,x∉Fs (i+j))
 | [],i,acc,e,H,K,h,hal,hnn,hle=>by
  refine ⟨λ_=>e,λ_=>H,λ_=>.junk,λ_=>[],λ_=>[],rfl,rfl,h,⟨λj o h=>by simp at h,λk j _ h=>by simp at h⟩,λj h=>by simp at h⟩
 | o :: l,i,acc,e,H,K,h,hal,hnn,hle=>by
  unfold jZ at h
  simp only [fH] at hle
  have hn:¬ H.al (n0+i):=λh=>by have:=hal _ h;omega
  have hlt:n0+i<H.next:=aD
  obtain ⟨v,H1,F,N,hT,hchk,hrest⟩:=RC h hn hlt aD
  have hal1:∀ id,H1.al id->id<n0+(i+1):=λid hid=>by
   rw [hT.self] at hid
   rcases hid with hid|⟨hid,_⟩
   .have:=hal id hid;omega
   .rcases (hT.new id hid).2 with h|⟨h,_⟩<;>omega
  have hnn1:H1.next=nn:=by rw [hT.self];exact hnn
  obtain ⟨es,Hs,vs,Fs,Ns,he,hH,hK,hrun,hacc⟩:=JH l (i+1) _ _ _ _ hrest hal1 hnn1 aD
  refine ⟨λk=>if k=i then e else es k,λk=>if k=i then H else Hs k,λk=>if k=i then v else vs k,λk=>if k=i then F else Fs k,λk=>if k=i then N else Ns k,by simp,by simp,?_,⟨λj o' ho'=>?_,λk j hkj hj hsp=>?_⟩,λj hj p hp hsp=>?_⟩
  .have:i+(o :: l).length≠i:=bW
   simp only [this,if_false]
   rw [show i+(o :: l).length=i+1+l.length by simp;omega]
   exact hK
  .cases j with
   | zero =>
    simp only [lN,bF] at ho'
    subst ho'
    have:i+0+1≠i:=aD
    simp only [this,if_false,tA,if_true]
    rw [show i+1=i+1 from rfl,he,hH]
    exact ⟨rfl,hT⟩
   | succ j =>
    have h1:i+(j+1)≠i:=aD
    have h2:i+(j+1)+1≠i:=aD
    simp only [h1,h2,if_false]
    have:=hrun.step j o' (bX ho')
    rw [(aD:i+1+j=i+(j+1))] at this
    exact this
  .have hj0:i+j≠i:=aD
   simp only [hj0,if_false]
   cases j with
   | zero=>omega
   | succ j =>
    simp only [fH] at hj
    by_cases hk:k=0
    .subst hk
     simp only [tA,if_true] at hsp ⊢
     have:=hacc j aD (i,F) bW
     rw [(aD:i+1+j=i+(j+1))] at this
     exact this hsp
    .have hk0:i+k≠i:=aD
     simp only [hk0,if_false]
     have:=hrun.apart (k - 1) j aD aD
     rw [(aD:i+1+(k - 1)=i+k),(aD:i+1+j=i+(j+1))] at this
     exact this hsp
  .cases j with
   | zero =>
    simp only [tA,if_true] at hsp ⊢
    unfold chk at hchk
    cases sp with
    | nil=>simp at hsp
    | cons a sp=>exact hchk p hp hsp
   | succ j =>
    have h1:i+(j+1)≠i:=aD
    simp only [h1,if_false]
    simp only [fH] at hj
    have:=hacc j aD p (by simp [hp])
    rw [(aD:i+1+j=i+(j+1))] at this
    exact this hsp
end Go.Abs
end
section
namespace Go.Abs
theorem Dg {p:Nat->Bool}{i:Nat}:∀ (n:Nat),i<n->p i=true->(∀ k,i<k->k<n->p k=false)->gI p n=some i
 | 0,h,_,_=>by omega
 | n+1,h,hp,hk=>by
  by_cases hi:i=n
  .subst hi;simp [gI,hp]
  .simp only [gI,hk n aD aD,eX,if_false]
   exact Dg n aD hp λk h1 h2=>hk k h1 aD
section
variable (md:Nat→Bool) (ops:Array Oper) (n0:Nat) (e0:Nat→D) (H0:AHeap) (Hs:Nat→AHeap) (vs:Nat→D) (Fs Ns:Nat→List Nat)
def nE (i:Nat):Option Tmp:=(ops[i]?).bind (·.dst)
def qO (i:Nat):Bool:=match ops[i]? with|some o=>mX md o|none=>false
def eS (S:Nat->Bool)(m:Nat):Nat->D:=λt =>
 match gI (λk=>S k&&(nE ops k==some t)) m with
 | some k=>vs k
 | none=>e0 t
def HS (S:Nat->Bool)(m:Nat):AHeap where
 next:=n0+ops.size
 al:=λid=>H0.al id\/∃ k,k<m/\S k=true/\id∈Ns k/\(Hs (k+1)).al id
 get:=λid=>match gI (λk=>S k&&(qO md ops k&&(Fs k).contains id)) m with
  | some k=>(Hs (k+1)).get id
  | none=>H0.get id
end
section
variable {P:Program} {md:Nat→Bool} {ops:Array Oper} {sp:List (Nat × Nat)} {n0:Nat} {es:Nat→Nat→D} {Hs:Nat→AHeap} {vs:Nat→D} {Fs Ns:Nat→List Nat}
theorem mJ (i:Nat):ops.toList[i]?=ops[i]?:=bW
theorem wD (hr:Run P md ops sp n0 es Hs vs Fs Ns 0 ops.toList)(hn:(Hs 0).next=n0+ops.size):∀ i,i<=ops.size->es i=eS ops (es 0) vs (λ_=>true) i/\Hs i=HS md ops n0 (Hs 0) Hs Fs Ns (λ_=>true) i
 | 0,_=>⟨by funext t;rfl,by
   generalize hH:Hs 0=X at hn
   obtain ⟨nx,al,g⟩:=X
   simp only [HS,AHeap.mk.injEq]
   refine ⟨hn,funext λid=>propext ⟨.inl,λh=>h.elim (λh=>h) λ⟨k,hk,_⟩=>by omega⟩,funext λid=>rfl⟩⟩
 | i+1,hi=>by
  obtain ⟨ih1,ih2⟩:=wD hr hn i aD
  have hlt:i<ops.size:=aD
  have ho:ops[i]?=some ops[i]:=bI hlt
  obtain ⟨h1,hT⟩:=hr.step i ops[i] (by rw [mJ,ho])
  simp only [eM] at h1 hT
  refine ⟨?_,?_⟩
  .rw [h1,ih1]
   funext t
   simp only [eS,gI,gM]
   have hd:nE ops i=ops[i].dst:=by simp [nE,ho]
   cases hdd:ops[i].dst with
   | none=>simp [oP,hd,hdd,eS]
   | some d =>
    by_cases ht:t=d
    .subst ht;simp [oP,hd,hdd]
    .have ht':¬ d=t:=λh=>ht h.symm
     simp [oP,hd,hdd,ht,ht',eS]
  .have hself:=hT.self
   have hw:qO md ops i=mX md ops[i]:=by simp [qO,ho]
   have hget:∀ id,(Hs (i+1)).get id=if (qO md ops i&&(Fs i).contains id)=true then (Hs (i+1)).get id else (Hs i).get id:=by
    intro id
    split
    .rfl
    .rename_i hc
     by_cases hwr:qO md ops i=true
     .have hnc:id∉Fs i:=λh=>hc (by simp [hwr,h])
      rw [hself];simp [vB,hnc]
     .rw [hT.still (by rw [<- hw];simpa using hwr)]
   have hnext:(Hs (i+1)).next=n0+ops.size:=by rw [hself,ih2];rfl
   have halq:∀ id,(Hs (i+1)).al id↔(Hs i).al id\/(id∈Ns i/\(Hs (i+1)).al id):=λid=>by
    constructor
    .intro h;rw [hself] at h;exact h
    .intro h;rw [hself];exact h
   generalize hH:Hs (i+1)=X at hget hnext halq
   obtain ⟨nx,al,g⟩:=X
   simp only [HS,AHeap.mk.injEq]
   refine ⟨hnext,funext λid=>propext ?_,funext λid=>?_⟩
   .rw [show al id↔_ from halq id,ih2]
    simp only [HS]
    constructor
    .rintro ((h|⟨k,hk,_,hm,h⟩)|⟨hm,h⟩)
     .exact .inl h
     .exact .inr ⟨k,aD,trivial,hm,h⟩
     .exact .inr ⟨i,aD,trivial,hm,by rw [hH];exact h⟩
    .rintro (h|⟨k,hk,_,hm,h⟩)
     .exact .inl (.inl h)
     .by_cases hki:k=i
      .subst hki;rw [hH] at h;exact .inr ⟨hm,h⟩
      .exact .inl (.inr ⟨k,aD,trivial,hm,h⟩)
   .have:=hget id
    simp only at this
    rw [this,ih2]
    simp only [HS,gI,gM]
    split
    .simp only [hH]
    .rfl
theorem rU (h:vZ md ops sp=true){i j:Nat}(a:i<j)(d:j<ops.size) :
  ((NE ops.toList []).getD j 0).testBit i=true\/(KT ops (ops[i]' aD) ops[j]=false/\(G9 md (ops[i]' aD) ops[j]=false\/(i,j)∈sp)):=by
 unfold vZ at h
 simp only [cJ,bK] at h
 have c:=h j d
 rw [bI d] at c
 simp only [aQ,cJ,bK] at c
 have b:=c.2 i a
 rw [bI aD] at b
 simp only [c4,aQ,c9,xP] at b
 exact b
theorem Qu (h:vZ md ops sp=true){j:Nat}{o:Oper}(c:ops[j]?=some o):∀ e∈o.after.toList,Region.binds .any e=true->e.on<j:=by
 have d:j<ops.size:=(rA.1 c).1
 unfold vZ at h
 simp only [cJ,bK] at h
 have b:=h j d
 rw [c] at b
 simp only [aQ,cJ,c4,c9,decide_eq_true_eq] at b
 intro e f g
 rcases b.1.1 e f with a|a
 .rw [g] at a;cases a
 .exact a
variable {S:Nat→Bool} {i:Nat}
def nB (S:Nat->Bool)(i:Nat):Nat->Bool:=λk=>k==i||S k
theorem JK {o:Op}(h:vV o=true):qT o=true:=by
 cases o<;>first|rfl|(simp [vV] at h;done)|exact h
theorem qF {md:Nat->Bool}{o:Oper}(h:mX md o=true):qT o.op=true:=by
 unfold mX at h
 rw [c4] at h
 rcases h with h|h
 .exact JK h
 .unfold EX at h
  split at h
  .rename_i a;rw [a];rfl
  .cases h
theorem zK {x y:Oper}(h:KT ops x y=false):(∀ t,x.dst=some t->t∉y.looksAt ops/\y.dst≠some t)/\(∀ t,y.dst=some t->t∉x.looksAt ops):=by
 have:=Oper.apart_spec (by simpa [KT] using h)
 grind
theorem D0 (e:vZ md ops sp=true)(d:Lf ops S)(c:Lf ops (nB S i))(f:i<ops.size)(b:S i=false) :
  (∀ k,k<i->(((NE ops.toList []).getD i 0).testBit k=true)->S k=true)/\(∀ k,i<k->k<ops.size->((NE ops.toList []).getD k 0).testBit i=true->S k=false):=by
 refine ⟨λk hk hb=>?_,λk hk hk2 hb=>?_⟩
 .have:=JA c i k (by simp [nB]) hb
  simp only [nB,c4,beq_iff_eq] at this
  grind
 .cases a:S k with
  | false=>rfl
  | true=>have:=JA d k i a hb;rw [b] at this;cases this
theorem IJ (r:Run P md ops sp n0 es Hs vs Fs Ns 0 ops.toList)(A:(Hs 0).next=n0+ops.size)(o:vZ md ops sp=true)(C:Lf ops S)(w:Lf ops (nB S i))(q:i<ops.size)(n:S i=false) :
  (∀ t∈(ops[i]).looksAt ops,eS ops (es 0) vs S ops.size t=es i t)/\f6 (Fs i) (HS md ops n0 (Hs 0) Hs Fs Ns S ops.size) (Hs i):=by
 obtain ⟨y,x⟩:=D0 o C w q n
 obtain ⟨E,D⟩:=wD r A i aD
 have v:∀ k,k<ops.size->nE ops k=(ops[k]?).bind (·.dst):=λk _=>rfl
 obtain ⟨_,z⟩:=r.step i ops[i] (by rw [mJ,bI q])
 simp only [eM] at z
 refine ⟨λt ht=>?_,λid e=>?_⟩
 .rw [E]
  simp only [eS,gM]
  have u:gI (λk=>S k&&(nE ops k==some t)) ops.size=gI (λk=>nE ops k==some t) i:=by
   rw [A3 (p:=λk=>S k&&(nE ops k==some t)) i ops.size aD (λk g hk2=>?_)]
   .refine kD i λk g=>?_
    cases c:(nE ops k==some t) with
    | false=>simp
    | true =>
     have j:k<ops.size:=aD
     have m:ops[k].dst=some t:=by simpa [nE,bI j] using c
     rcases rU o g q with h|⟨h,_⟩
     .simp [y k g h]
     .exact absurd ht ((zK h).1 t m).1
   .by_cases l:k=i
    .subst l;simp [n]
    .cases c:(nE ops k==some t) with
     | false=>simp
     | true =>
      have m:ops[k].dst=some t:=by simpa [nE,bI hk2] using c
      rcases rU o (aD:i<k) hk2 with h|⟨h,_⟩
      .simp [x k aD hk2 h]
      .exact absurd ht ((zK h).2 t m)
  rw [u]
 .rw [D]
  have b:qT ops[i].op=true:=by
   cases B:qT ops[i].op with
   | true=>rfl
   | false=>rw [z.foot B] at e;cases e
  simp only [HS,gM]
  have u:gI (λk=>S k&&(qO md ops k&&(Fs k).contains id)) ops.size=gI (λk=>qO md ops k&&(Fs k).contains id) i:=by
   rw [A3 (p:=λk=>S k&&(qO md ops k&&(Fs k).contains id)) i ops.size aD (λk g hk2=>?_)]
   .refine kD i λk g=>?_
    cases c:(qO md ops k&&(Fs k).contains id) with
    | false=>simp
    | true =>
     have j:k<ops.size:=aD
     simp only [aQ,xP] at c
     have a:mX md ops[k]=true:=by simpa [qO,bI j] using c.1
     rcases rU o g q with h|⟨_,h|h⟩
     .simp [y k g h]
     .simp [G9,b,qF a,a] at h
     .have d:=r.apart k i g (bX q)
      simp only [eM] at d
      exact absurd e (d h id c.2)
   .by_cases l:k=i
    .subst l;simp [n]
    .cases c:(qO md ops k&&(Fs k).contains id) with
     | false=>simp
     | true =>
      simp only [aQ,xP] at c
      have a:mX md ops[k]=true:=by simpa [qO,bI hk2] using c.1
      rcases rU o (aD:i<k) hk2 with h|⟨_,h|h⟩
      .simp [x k aD hk2 h]
      .simp [G9,b,qF a,a] at h
      .have d:=r.apart i k aD (bX hk2)
       simp only [eM] at d
       exact absurd c.2 (d h id e)
  rw [u]
theorem Rz (y:Run P md ops sp n0 es Hs vs Fs Ns 0 ops.toList)(H:(Hs 0).next=n0+ops.size)(x:vZ md ops sp=true)(F:Lf ops S)(v:Lf ops (nB S i))(m:i<ops.size)(u:S i=false) :
  oP (eS ops (es 0) vs S ops.size) ops[i].dst (vs i)=eS ops (es 0) vs (nB S i) ops.size /\
  vB (HS md ops n0 (Hs 0) Hs Fs Ns S ops.size) (Hs (i+1)) (Fs i) (Ns i)=HS md ops n0 (Hs 0) Hs Fs Ns (nB S i) ops.size:=by
 obtain ⟨I,C⟩:=D0 x F v m u
 obtain ⟨_,E⟩:=y.step i ops[i] (by rw [mJ,bI m])
 simp only [eM] at E
 have B:=(IJ y H x F v m u).2
 have j:ops[i]?=some ops[i]:=bI m
 refine ⟨?_,?_⟩
 .funext t
  by_cases q:ops[i].dst=some t
  .have g:gI (λk=>nB S i k&&(nE ops k==some t)) ops.size=some i:=by
    refine Dg ops.size m (by simp [nB,nE,j,q]) λk e c=>?_
    cases r:(nE ops k==some t) with
    | false=>simp
    | true =>
     have z:ops[k].dst=some t:=by simpa [nE,bI c] using r
     rcases rU x e c with h|⟨h,_⟩
     .have a:(k==i)=false:=by simp;omega
      simp [nB,a,C k e c h]
     .exact absurd z ((zK h).1 t q).2
   simp only [eS,g,oP,q,if_true]
  .have g:gI (λk=>nB S i k&&(nE ops k==some t)) ops.size=gI (λk=>S k&&(nE ops k==some t)) ops.size:=by
    refine kD _ λk e=>?_
    by_cases a:k=i
    .subst a
     have:(nE ops k==some t)=false:=by simp [nE,j];exact q
     simp [this]
    .have:(k==i)=false:=by simpa using a
     simp [nB,this]
   simp only [eS,g]
   cases A:ops[i].dst with
   | none=>rfl
   | some d =>
    have:¬ t=d:=λh=>q (by rw [A,h])
    simp only [oP,this,if_false]
    rfl
 .simp only [vB,HS,AHeap.mk.injEq,true_and]
  refine ⟨funext λid=>propext ?_,funext λid=>?_⟩
  .constructor
   .rintro ((h|⟨k,e,n,o,h⟩)|⟨o,h⟩)
    .exact .inl h
    .exact .inr ⟨k,e,by simp [nB,n],o,h⟩
    .exact .inr ⟨i,m,by simp [nB],o,h⟩
   .rintro (h|⟨k,e,n,o,h⟩)
    .exact .inl (.inl h)
    .by_cases a:k=i
     .subst a;exact .inr ⟨o,h⟩
     .have:(k==i)=false:=by simpa using a
      exact .inl (.inr ⟨k,e,by simpa [nB,this] using n,o,h⟩)
  .by_cases w:mX md ops[i]=true
   .by_cases b:id∈Fs i
    .rw [if_pos b]
     have g:gI (λk=>nB S i k&&(qO md ops k&&(Fs k).contains id)) ops.size=some i:=by
      refine Dg ops.size m (by simp [nB,qO,j,w,b]) λk e c=>?_
      cases r:(qO md ops k&&(Fs k).contains id) with
      | false=>simp
      | true =>
       simp only [aQ,xP] at r
       have p:mX md ops[k]=true:=by simpa [qO,bI c] using r.1
       rcases rU x e c with h|⟨_,h|h⟩
       .have a:(k==i)=false:=by simp;omega
        simp [nB,a,C k e c h]
       .simp [G9,qF w,qF p,p] at h
       .have s:=y.apart i k e (bX c)
        simp only [eM] at s
        exact absurd r.2 (s h id b)
     rw [g]
    .rw [if_neg b]
     have g:gI (λk=>nB S i k&&(qO md ops k&&(Fs k).contains id)) ops.size=gI (λk=>S k&&(qO md ops k&&(Fs k).contains id)) ops.size:=by
      refine kD _ λk e=>?_
      by_cases a:k=i
      .subst a;simp [b]
      .have:(k==i)=false:=by simpa using a
       simp [nB,this]
     rw [g]
   .have g:gI (λk=>nB S i k&&(qO md ops k&&(Fs k).contains id)) ops.size=gI (λk=>S k&&(qO md ops k&&(Fs k).contains id)) ops.size:=by
     refine kD _ λk e=>?_
     by_cases a:k=i
     .subst a
      have:qO md ops k=false:=by simp [qO,j];simpa using w
      simp [this]
     .have:(k==i)=false:=by simpa using a
      simp [nB,this]
    rw [g]
    by_cases b:id∈Fs i
    .rw [if_pos b,E.still (bX w),<- B id b]
     rfl
    .rw [if_neg b]
theorem BH (hr:Run P md ops sp n0 es Hs vs Fs Ns 0 ops.toList){id:Nat}:∀ (j k:Nat),k<=j->j<=ops.size->(Hs k).al id->(Hs j).al id
 | 0,k,hk,_,h=>by rw [(aD:(0:Nat)=k)];exact h
 | j+1,k,hk,hj,h=>by
  by_cases he:k=j+1
  .rw [<- he];exact h
  .have ih:=BH hr j k aD aD h
   obtain ⟨_,hT⟩:=hr.step j ops[j] (by rw [mJ,bI aD])
   simp only [eM] at hT
   rw [hT.self]
   exact .inl ih
theorem QQ (a:Run P md ops sp n0 es Hs vs Fs Ns 0 ops.toList)(s:i<ops.size)(j:S i=false):∀ id∈Ns i,¬ (HS md ops n0 (Hs 0) Hs Fs Ns S ops.size).al id:=by
 intro id g
 obtain ⟨_,m⟩:=a.step i ops[i] (by rw [mJ,bI s])
 simp only [eM] at m
 obtain ⟨n,l⟩:=m.new id g
 rintro (h|⟨k,r,c,p,h⟩)
 .exact n (BH a i 0 aD aD h)
 .obtain ⟨_,b⟩:=a.step k ops[k] (by rw [mJ,bI r])
  simp only [eM] at b
  obtain ⟨o,d⟩:=b.new id p
  have f:k≠i:=λe=>by subst e;rw [j] at c;cases c
  rcases Nat.lt_or_gt_of_ne f with q|t
  .exact n (BH a i (k+1) aD aD h)
  .rcases l with l|⟨l,u⟩
   .rcases d with d|⟨d,_⟩<;>omega
   .exact o (BH a k (i+1) aD aD u)
end
end Go.Abs
end
section
namespace Go.Abs
def Came (n:Nat)(M0:Nat->Prop)(H0:AHeap)(σ0:Nat->Option Ow)(w0:World)(K:(Nat->D)->AHeap->Prop)(a:Act)(w:World):Prop :=
 ∃ e H σ,K e H/\St n M0 H σ w e a/\Stp σ0 w0 σ w/\Keeps (dA M0 H0 σ0) σ0 H0.al w0 (dA M0 H σ) σ H.al w
theorem Came.mono {n:Nat}{M0:Nat->Prop}{H0:AHeap}{σ0:Nat->Option Ow}{w0:World}{K K':(Nat->D)->AHeap->Prop}{a:Act}{w:World}(h:Came n M0 H0 σ0 w0 K a w)
 (hk:∀ e H,K e H->K' e H):Came n M0 H0 σ0 w0 K' a w:=let ⟨e,H,σ,a,b⟩:=h;⟨e,H,σ,hk _ _ a,b⟩
theorem Came.trans {n:Nat}{M0:Nat->Prop}{H0 H1:AHeap}{σ0 σ1:Nat->Option Ow}{w0 w1:World}{K:(Nat->D)->AHeap->Prop}{a:Act}{w:World}
  (hs:Stp σ0 w0 σ1 w1) (hk:Keeps (dA M0 H0 σ0) σ0 H0.al w0 (dA M0 H1 σ1) σ1 H1.al w1) (h:Came n M0 H1 σ1 w1 K a w):Came n M0 H0 σ0 w0 K a w :=
 let ⟨e,H,σ,a,b,c,d⟩:=h;⟨e,H,σ,a,b,hs.trans c,hk.trans d⟩
section
variable {P:Program} {md:Nat→Bool} {n:Nat} {M0:Nat→Prop}
theorem Rel.bump {H:AHeap}{σ:Nat->Option Ow}{w:World}(h:Rel M0 H σ w){m:Nat}(hm:H.next<=m):Rel M0 { H with next:=m } σ w :=
 ⟨h.top,λid hid=>cC (h.nxt id hid) hm,λid k hk=>h.lies id k hk,h.inj,h.lt,h.m0⟩
theorem StepC.mono {ops:Array Oper}{Q:Exit->Act->World->Prop}{o:Oper}{K K':Act->World->Prop}{a:Act}{w:World}(h:∀ a w,K a w->K' a w)(b:StepC P ops Q o K a w):StepC P ops Q o K' a w:=by
 unfold StepC at *
 split
 .rename_i c;rw [if_pos c] at b;exact b.imp (Oper.wp_mono h) id
 grind
def nC (P:Program)(md:Nat->Bool)(ops:Array Oper):List Oper->(Nat->D)->AHeap->((Nat->D)->AHeap->Prop)->Prop
 | [],e,H,K=>K e H
 | o :: rest,e,H,K=>pI P md none H.next ops e o H λv H' _=>nC P md ops rest (oP e o.dst v) H' K
theorem Hj {ops:Array Oper}{Q:Exit->Act->World->Prop}:∀ (l:List Oper) (e:Nat->D) (H:AHeap) (K:(Nat->D)->AHeap->Prop),nC P md ops l e H K->(∀ o∈l,qV n o.dst=true) ->
  ∀ (σ:Nat->Option Ow) (w:World) (a:Act),St n M0 H σ w e a->(∀ a' w',Came n M0 H σ w K a' w'->Q .normal a' w')->wpList P ops Q l a w
 | [],e,H,K,h,hd,σ,w,a,hS,hQ=>wpList_nil (hQ a w ⟨e,H,σ,h,hS,.refl _ _,.refl _ _ _ _⟩)
 | o :: l,e,H,K,h,hd,σ,w,a,hS,hQ=>by
  unfold nC at h
  have hs:=zM (Q:=Q) h hS (λhn=>oJ _ (hS.rel.nxt _ hn)) (hd o bW)
  have:=StepC.mono (K':=wpList P ops Q l) (λa' w' ⟨v,H',F,σ',hk,hS',hst,hkp⟩ =>
   Hj l _ _ _ hk (λo' ho'=>hd o' (by simp [ho'])) σ' w' a' hS' λa'' w'' hc=>hQ a'' w'' (hc.trans hst hkp)) hs
  unfold StepC at this
  unfold wpList
  exact this
theorem TW {ops:Array Oper}{a:Nat->D}{vs:Nat->D}{S T:Nat->Bool}{m:Nat}(h:∀ k,k<m->S k=T k):eS ops a vs S m=eS ops a vs T m:=by
 funext t
 unfold eS
 rw [kD (p:=λk=>S k&&(nE ops k==some t)) (q:=λk=>T k&&(nE ops k==some t)) m λk hk=>by rw [h k hk]]
theorem Qj {ops:Array Oper}{c:Nat}{f:AHeap}{e:Nat->AHeap}{a d:Nat->List Nat}{S T:Nat->Bool}{m:Nat}(h:∀ k,k<m->S k=T k):HS md ops c f e a d S m=HS md ops c f e a d T m:=by
 unfold HS
 congr 1
 .funext b
  grind
 .funext b
  rw [kD (p:=λk=>S k&&(qO md ops k&&(a k).contains b)) (q:=λk=>T k&&(qO md ops k&&(a k).contains b)) m λk hk=>by rw [h k hk]]
def uN (S:Nat->Bool):Nat->Nat
 | 0=>0
 | m+1=>(if S m then 0 else 1)+uN S m
theorem Nm {S:Nat->Bool}:∀ {m:Nat},uN S m=0->∀ k,k<m->S k=true
 | 0,_,k,hk=>by omega
 | m+1,h,k,hk=>by
  simp only [uN] at h
  by_cases hk':k=m
  .subst hk';cases hS:S k<;>simp [hS] at h ⊢
  .exact Nm (m:=m) aD k aD
theorem G3 {S T:Nat->Bool}:∀ {m:Nat},(∀ k,k<m->S k=T k)->uN S m=uN T m
 | 0,_=>rfl
 | m+1,h=>by simp only [uN,h m aD,G3 (m:=m) λk hk=>h k aD]
theorem Qa {S:Nat->Bool}{i:Nat}(a:S i=false):∀ {m:Nat},i<m->uN (nB S i) m+1=uN S m
 | 0,h=>by omega
 | m+1,h=>by
  simp only [uN]
  by_cases hi:i=m
  .subst hi
   have h1:nB S i i=true:=by simp [nB]
   have b:uN (nB S i) i=uN S i:=G3 λk hk=>by
    have:(k==i)=false:=by simp;omega
    simp [nB,this]
   grind
  .have h1:nB S i m=S m:=by
    have:(m==i)=false:=by simp;omega
    simp [nB,this]
   have:=Qa a (m:=m) aD
   rw [h1];omega
theorem O1 {ops:Array Oper}{sp:List (Nat × Nat)}{id:Nat}{e:Nat->D}{H:AHeap}{σ:Nat->Option Ow}{w:World}{a:Act}{K:(Nat->D)->AHeap->Prop}{Q:Exit->Act->World->Prop}
  (hm:P.follows .mixedOrders=true) (hs:vZ md ops sp=true) (hd:∀ o∈ops.toList,qV n o.dst=true)
  (h:jZ P md ops sp H.next 0 ops.toList [] e { H with next:=H.next+ops.size } K) (hS:St n M0 H σ w e a) (hQ:∀ a' w',Came n M0 H σ w K a' w'->Q .normal a' w') :
  (Code.region id ops true).wp P Q a w:=by
 refine wp_region_any hm ?_
 obtain ⟨c0,a3,a4⟩:=hS.rel.drew
 have b9:=c0.bump (m:=H.next+ops.size) aD
 have b8:St n M0 { H with next:=H.next+ops.size } σ w.drew e a:=⟨b9,λt=>(hS.env t).keep a4,hS.defers,hS.size⟩
 obtain ⟨es,u,vs,V,Ns,he,U,hK,d,_⟩:=JH (nn:=H.next+ops.size) ops.toList 0 [] e _ K h (λi hi=>hS.rel.nxt i hi) rfl bW
 simp only [eM,fP] at hK
 have hn:(u 0).next=H.next+ops.size:=by rw [U]
 have b2:∀ (g:Nat) (c:Array Bool) (a':Act) (w':World),c.size=ops.size->uN (λk=>c.getD k false) ops.size<=g->Lf ops (λk=>c.getD k false) ->
   (∃ σ',St n M0 (HS md ops H.next (u 0) u V Ns (λk=>c.getD k false) ops.size) σ' w' (eS ops (es 0) vs (λk=>c.getD k false) ops.size) a'/\Stp σ w σ' w' /\
    Keeps (dA M0 H σ) σ H.al w (dA M0 (HS md ops H.next (u 0) u V Ns (λk=>c.getD k false) ops.size) σ') σ' (HS md ops H.next (u 0) u V Ns (λk=>c.getD k false) ops.size).al w') ->
   wpAny P .any ops Q g c a' w':=by
  intro g
  induction g with
  | zero =>
   intro c a' w' hl hc hD ⟨σ',M,q,I⟩
   have l:=Nm (S:=λk=>c.getD k false) (m:=ops.size) aD
   refine ⟨?_,?_⟩
   .unfold Region.ready
    simp_all
   .refine hQ a' w' ⟨es ops.size,u ops.size,σ',hK,?_,q,?_⟩
    .obtain ⟨r1,r2⟩:=wD d hn ops.size (bC _)
     rw [r1,r2,TW (T:=λk=>c.getD k false) λk s=>(l k s).symm,Qj (T:=λk=>c.getD k false) λk s=>(l k s).symm]
     exact M
    .obtain ⟨r1,r2⟩:=wD d hn ops.size (bC _)
     rw [r2,Qj (T:=λk=>c.getD k false) λk s=>(l k s).symm]
     exact I
  | succ g ih =>
   intro c a' w' hl hc hD ⟨σ',M,q,I⟩
   have C:∀ i,i∈Region.ready .any ops c->i<ops.size/\c.getD i false=false/\∀ o,ops[i]?=some o->∀ B∈o.after.toList,Region.binds .any B=true->c.getD B.on false=true:=by
    intro i hi
    unfold Region.ready at hi
    simp only [g6,bK,aQ,c9] at hi
    obtain ⟨h1,h2,h3⟩:=hi
    refine ⟨h1,?_,λo E B y hb=>?_⟩
    .simp only [i5] at h2 ⊢
     rw [bI aD] at h2 ⊢
     simpa using h2
    .rw [E] at h3
     simp only [dQ,Option.getD_some,Array.all_eq_true_iff_forall_mem] at h3
     have:=h3 B (bX y)
     rw [hb] at this
     simpa using this
   refine ⟨λhnil=>?_,λi hi=>?_⟩
   .-- nothing is ready: all is done
    have l:∀ k,k<ops.size->c.getD k false=true:=by
     intro k
     induction k using Nat.strongRecOn with
     | _ k ihk =>
      intro s
      cases Z:c.getD k false with
      | true=>rfl
      | false =>
       exfalso
       have R:k∈Region.ready .any ops c:=by
        unfold Region.ready
        simp only [g6,bK,aQ,c9]
        refine ⟨s,?_,?_⟩
        .simp only [i5] at Z ⊢
         rw [bI aD] at Z ⊢
         simpa using Z
        .have E:ops[k]?=some ops[k]:=bI s
         rw [E]
         simp only [dQ,Option.getD_some,Array.all_eq_true_iff_forall_mem]
         intro B y
         cases hb:Region.binds .any B with
         | false=>simp
         | true =>
          have b3:=Qu hs E B (bX y) hb
          simp [ihk B.on b3 aD]
       rw [hnil] at R;cases R
    have:=(ih c a' w' hl (by
     have:uN (λk=>c.getD k false) ops.size=uN (λ_=>true) ops.size:=G3 l
     have h0:∀ m,uN (λ_=>true) m=0:=λm=>by induction m with
      | zero=>rfl
      | succ m ih=>simp [uN,ih]
     rw [this,h0];omega) hD ⟨σ',M,q,I⟩)
    cases g with
    | zero=>exact this.2
    | succ f=>exact this.1 hnil
   .obtain ⟨x,A,b5⟩:=C i hi
    have E:ops[i]?=some ops[i]:=bI x
    have a2:Lf ops (nB (λk=>c.getD k false) i):=by
     intro j o hj z B y hb
     simp only [nB,c4,beq_iff_eq] at z
     simp only [nB,c4]
     rcases z with rfl|z
     .exact .inr (b5 o hj B y hb)
     .exact .inr (hD j o hj z B y hb)
    have r:(λk=>(c.setIfInBounds i true).getD k false)=nB (λk=>c.getD k false) i:=by
     funext k
     simp only [nB,i5,Array.getElem?_setIfInBounds]
     by_cases a0:k=i
     .subst a0;simp [hl,x]
     .have:¬ i=k:=λh=>a0 h.symm
      have h2:(k==i)=false:=by simpa using a0
      simp [this,h2]
    obtain ⟨a6,b6⟩:=IJ d hn hs hD a2 x A
    obtain ⟨b7,a7⟩:=Rz d hn hs hD a2 x A
    obtain ⟨_,hT⟩:=d.step i ops[i] (by rw [mJ,E])
    simp only [eM] at hT
    have Y:=QQ d (S:=λk=>c.getD k false) x A
    have b1:∀ id∈Ns i,id<H.next+ops.size:=λid J=>by rcases (hT.new id J).2 with h|⟨h,_⟩<;>omega
    have O:¬ (HS md ops H.next (u 0) u V Ns (λk=>c.getD k false) ops.size).al (H.next+i):=by
     simp only [HS]
     rintro (h|⟨k,s,a9,b4,_⟩)
     .rw [U] at h
      have:=hS.rel.nxt _ h;omega
     .obtain ⟨_,a8⟩:=d.step k ops[k] (by rw [mJ,bI s])
      simp only [eM] at a8
      have:k=i:=by rcases (a8.new _ b4).2 with h|⟨h,_⟩<;>omega
      subst this
      rw [A] at a9;cases a9
    have W:=hT.any _ _ a6 b6 (by simp only [HS];omega) O (λid J=>⟨by simp only [HS];exact b1 id J,Y id J⟩)
    have hc:=zM (Q:=Q) W M O (hd ops[i] bW) (λm hm=>by cases hm;simp only [HS];omega)
    have a1:StepC P ops Q ops[i] (wpAny P .any ops Q g (c.setIfInBounds i true)) a' w':=by
     refine StepC.mono (λa'' w'' ⟨v,H',F,σ'',⟨hv,c1⟩,b0,X,a5⟩=>?_) hc
     subst hv;subst c1
     refine ih _ a'' w'' (bX hl) ?_ (by rw [r];exact a2) ⟨σ'',?_,q.trans X,?_⟩
     .rw [r]
      have:=Qa (S:=λk=>c.getD k false) A x
      omega
     .rw [r,<- b7,<- a7];exact b0
     .rw [r,<- a7];exact I.trans a5
    unfold wpOp
    rw [E]
    exact a1
 refine b2 ops.size _ a _ bW ?_ ?_ ⟨σ,?_,a3,?_⟩
 .have:∀ S:Nat->Bool,∀ m,uN S m<=m:=λS m=>by
   induction m with
   | zero=>simp [uN]
   | succ m ih=>simp only [uN];split<;>omega
  exact this _ _
 .intro j o E z
  exfalso
  have hj:j<ops.size:=(rA.1 E).1
  simp [hj] at z
 .have L:(λk=>(Array.replicate ops.size false).getD k false)=λ_=>false:=by
   funext k
   by_cases s:k<ops.size<;>simp [s]
  have G:∀ (p:Nat->Bool) m,gI (λk=>false&&p k) m=none:=λp m=>by
   induction m with
   | zero=>rfl
   | succ m ih=>simp only [gI,Eo,eX,if_false];exact ih
  have e1:eS ops (es 0) vs (λk=>(Array.replicate ops.size false).getD k false) ops.size=e:=by
   rw [L];funext t;simp only [eS,G (λk=>nE ops k==some t)];rw [he]
  have e2:HS md ops H.next (u 0) u V Ns (λk=>(Array.replicate ops.size false).getD k false) ops.size={ H with next:=H.next+ops.size }:=by
   rw [L]
   simp only [HS,AHeap.mk.injEq,true_and]
   refine ⟨funext λid=>propext ⟨λh=>h.elim (λh=>by rw [U] at h;exact h) λ⟨_,_,h,_⟩=>(by cases h),λh=>.inl (by rw [U];exact h)⟩,funext λid=>?_⟩
   rw [G (λk=>qO md ops k&&(V k).contains id),U]
  rw [e1,e2];exact b8
 .have L:(λk=>(Array.replicate ops.size false).getD k false)=λ_=>false:=by
   funext k
   by_cases s:k<ops.size<;>simp [s]
  have G:∀ (p:Nat->Bool) m,gI (λk=>false&&p k) m=none:=λp m=>by
   induction m with
   | zero=>rfl
   | succ m ih=>simp only [gI,Eo,eX,if_false];exact ih
  have e2:HS md ops H.next (u 0) u V Ns (λk=>(Array.replicate ops.size false).getD k false) ops.size={ H with next:=H.next+ops.size }:=by
   rw [L]
   simp only [HS,AHeap.mk.injEq,true_and]
   refine ⟨funext λid=>propext ⟨λh=>h.elim (λh=>by rw [U] at h;exact h) λ⟨_,_,h,_⟩=>(by cases h),λh=>.inl (by rw [U];exact h)⟩,funext λid=>?_⟩
   rw [G (λk=>qO md ops k&&(V k).contains id),U]
  rw [e2];exact a4
end
end Go.Abs
end
