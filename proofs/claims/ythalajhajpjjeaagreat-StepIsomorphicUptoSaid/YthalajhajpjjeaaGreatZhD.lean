/- The abstraction layer, part N: an operation looks at no more -/
import Derived.Test.YthalajhajpjjeaaGreatZhC
set_option linter.unusedVariables false
set_option linter.unusedSimpArgs false
section
namespace Go.Abs
def AOut.on (r:AOut)(H:AHeap):AOut:=⟨r.cond,r.fact,r.val,H⟩
def kG (H' H1:AHeap)(F:List Nat)(nid:Nat):AHeap:=⟨H'.next,λi=>H'.al i\/(i=nid/\H1.al nid),λi=>if i∈F then H1.get i else H'.get i⟩
section
variable {P:Program} {H H':AHeap} {F:List Nat} {nid:Nat}
theorem g7 (c:fN F H' H)(b:¬ H.al nid):kG H' H F nid=H':=by
 obtain ⟨n,d,g⟩:=H'
 simp only [kG,AHeap.mk.injEq,true_and]
 refine ⟨?_,?_⟩
 .funext i;exact propext ⟨λh=>h.elim id λh=>absurd h.2 b,.inl⟩
 .funext i
  by_cases a:i∈F
  .rw [if_pos a];exact (c i a).symm
  grind
theorem mH (l:fN F H' H)(f:nid<H'.next)(k:nid∈F)(b:Blk):H'.push nid b=kG H' (H.push nid b) F nid:=by
 obtain ⟨n,m,g⟩:=H'
 have c:nid<n:=f
 simp only [AHeap.push,kG,AHeap.mk.injEq,c,if_true,true_and]
 refine ⟨?_,?_⟩
 .funext i;exact propext ⟨λh=>h.elim (λe=>.inr ⟨e,.inl trivial⟩) .inl,λh=>h.elim .inr λh=>.inl h.1⟩
 .funext i
  by_cases j:i∈F
  .rw [if_pos j]
   by_cases d:i=nid
   .rw [if_pos d,if_pos d]
   .rw [if_neg d,if_neg d];exact l i j
  grind
theorem s4 (j:fN F H' H)(e:¬ H.al nid){a:Nat}(f:a∈F)(b:Blk):H'.put a b=kG H' (H.put a b) F nid:=by
 obtain ⟨n,k,g⟩:=H'
 simp only [AHeap.put,kG,AHeap.mk.injEq,true_and]
 refine ⟨?_,?_⟩
 .funext i;exact propext ⟨.inl,λh=>h.elim (λh=>h) λh=>absurd h.2 e⟩
 .funext i
  by_cases d:i∈F
  .rw [if_pos d]
   by_cases c:i=a
   .rw [if_pos c,if_pos c]
   .rw [if_neg c,if_neg c];exact j i d
  grind
theorem Rc (e:fN F H' H)(c:Nat)(b:Blk):fN F (H'.put c b) (H.put c b):=by
 intro i d
 simp only [AHeap.put]
 by_cases a:i=c
 .rw [if_pos a,if_pos a]
 .rw [if_neg a,if_neg a];exact e i d
theorem Pj (H:AHeap)(a:Nat):(H.frz a).al=H.al/\(H.frz a).next=H.next:=by unfold AHeap.frz;cases H.get a<;>exact ⟨rfl,rfl⟩
theorem zZ (a:List Nat):∀ H:AHeap,(fE a H).al=H.al/\(fE a H).next=H.next:=by
 induction a with
 | nil=>intro H;exact ⟨rfl,rfl⟩
 | cons i l ih=>intro H;exact ⟨(ih _).1.trans (Pj H i).1,(ih _).2.trans (Pj H i).2⟩
theorem Jh (H:AHeap)(a i:Nat)(h:i≠a):(H.frz a).get i=H.get i:=by grind [AHeap.frz, AHeap.put]
theorem GR (b:List Nat):∀ (H:AHeap) (i:Nat),i∉b->(fE b H).get i=H.get i:=by
 induction b with
 | nil=>intro H i _;rfl
 | cons a l ih =>
  intro H i c
  simp only [fE]
  rw [ih _ i (λh=>c (by simp [h])),Jh H a i (λe=>c (by simp [e]))]
theorem GS (b:List Nat)(c:∀ i∈b,i∈F):∀ {H H':AHeap},fN F H' H->fN F (fE b H') (fE b H):=by
 induction b with
 | nil=>intro H H' h;exact h
 | cons a l ih =>
  intro H H' h
  refine ih (λi hi=>c i (by simp [hi])) ?_
  have d:=h a (c a aF)
  unfold AHeap.frz
  rw [d]
  cases H.get a with
  | none=>exact h
  | some k=>exact Rc h a _
theorem BS (a:List Nat)(d:∀ i∈a,i∈F)(c:AHeap):kG (fE a H') c F nid=kG H' c F nid:=by
 simp only [kG,AHeap.mk.injEq]
 refine ⟨(zZ a H').2,by rw [(zZ a H').1],?_⟩
 funext i
 by_cases b:i∈F
 .rw [if_pos b,if_pos b]
 .rw [if_neg b,if_neg b,GR a H' i (λh=>b (d i h))]
theorem Qd (d:D):∀ i∈dK d,i∈dQ d:=by
 cases d<;>intro i a<;>first|exact a|(simp [dK,kO] at a;done)|(simp only [dK,kO,dQ] at a ⊢;exact a)
theorem FN {d:D}(h:fN (kO d) H' H):eM H' d=eM H d:=by
 cases d<;>try rfl
 .rename_i a n
  simp only [eM,h a (by simp [kO])]
 .rename_i a n b c
  simp only [eM,h a (by simp [kO])]
theorem FL {d:D}(h:fN (dK d) H' H):iP H' d=iP H d:=by
 cases d with
 | agg cs =>
  simp only [iP]
  congr 1
  exact bW λx a=>FN λi b=>h i (bH.2 ⟨x,a,b⟩)
 | _ =>
  have c:=h
  simp only [iP]
  exact FN c
theorem Ig {x:D}(h:fN (dQ x) H' H):fP H' x=fP H x:=by
 cases x<;>try rfl
 rename_i c a i b
 simp only [fP,h c (by simp [dQ])]
theorem NV {t:TypeId}{x:D}(h:fN (dQ x) H' H):mV P t x H'=(mV P t x H).on H':=by
 unfold mV
 rw [Ig h]
 cases fP H x with
 | none=>rfl
 | some cs=>cases tk P t<;>rfl
theorem AQ {x:D}{n:Nat}(h:fN (dQ x) H' H):dW x n H'=(dW x n H).on H':=by
 cases x<;>try rfl
 rename_i a b i c
 simp only [dW,h a (by simp [dQ])]
 cases H.get a<;>rfl
theorem CB {x:D}{n:Nat}:(dW x n H).heap=H:=by
 unfold dW
 split
 .rfl
 .split<;>rfl
 .rfl
theorem xG {t:TypeId}{x:D}{f:Nat}:(gZ P t x f H).heap=H:=by
 unfold gZ
 split
 .split
  .exact CB
  .rfl
 .rfl
theorem xF {t:TypeId}{x i:D}:(gY P t x i H).heap=H:=by
 unfold gY
 split
 .split
  .split<;>rfl
  .split<;>rfl
  .split
   .exact CB
   .rfl
 .rfl
theorem ER {x:D}(h:fN (dQ x) H' H):jI x H'=(jI x H).on H':=by
 cases x<;>try rfl
 rename_i a b i c
 simp only [jI,h a (by simp [dQ])]
 cases H.get a<;>rfl
theorem DH {t:TypeId}{x:D}{f:Nat}(h:fN (dQ x) H' H):gZ P t x f H'=(gZ P t x f H).on H':=by
 unfold gZ
 cases bk P t with
 | none=>rfl
 | some b=>cases b with
  | ar sz=>rfl
  | st l =>
   simp only
   cases l[f]? with
   | none=>rfl
   | some q=>simp only [AQ h];rfl
theorem DG {t:TypeId}{x i:D}(h:fN (dQ x) H' H):gY P t x i H'=(gY P t x i H).on H':=by
 cases i<;>try rfl
 rename_i k n
 unfold gY
 cases x<;>simp only<;>first
  | (cases sl P t<;>rfl)
  | (simp only [AQ h];cases PO P t<;>rfl)
  | skip
 rename_i a m
 simp only [h a (by simp [dQ])]
 cases sl P t<;>cases H.get a<;>rfl
theorem KZ {t:TypeId}{x:D}{a b:Option D}(h:fN (dQ x) H' H):pC P t x a b H'=(pC P t x a b H).on H':=by
 unfold pC
 cases x<;>try rfl
 .simp only;split<;>rfl
 .simp only;split<;>rfl
 .rename_i c n
  simp only [h c (by simp [dQ])]
  split<;>rfl
theorem Eu {t:TypeId}{x:D}{a b:Option D}:(pC P t x a b H).heap=H:=by
 unfold pC
 split
 .split<;>rfl
 .split<;>rfl
 .split<;>rfl
 .rfl
theorem PR {t:TypeId}{x:D}(h:fN (dQ x) H' H):ES P t x H'=(ES P t x H).on H':=by
 unfold ES
 cases P.underlying t with
 | none=>rfl
 | some b =>
  cases b<;>try rfl
  .cases x<;>rfl
  .cases x<;>try rfl
   rename_i a n
   simp only [h a (by simp [dQ])]
   cases H.get a<;>rfl
theorem Ia {x:D}(h:fN (dQ x) H' H):oD H' x=oD H x:=by
 cases x<;>try rfl
 rename_i a n
 simp only [oD,h a (by simp [dQ])]
structure Loc (r r':AOut) (H':AHeap) (F:List Nat) (nid:Nat):Prop where
 cond:r.cond->r'.cond
 fact:r'.fact=r.fact
 val:r'.val=r.val
 heap:r'.heap=kG H' r.heap F nid
theorem Loc.on {r a:AOut}(h:a=r.on H')(c:r.heap=H)(d:fN F H' H)(b:¬ H.al nid):Loc r a H' F nid:=by
 subst h
 exact ⟨λh=>h,rfl,rfl,by rw [c,g7 d b];rfl⟩
theorem Loc.bad (hF:fN F H' H)(hn:¬ H.al nid):Loc (AOut.bad H) (AOut.bad H') H' F nid:=⟨λh=>h,rfl,rfl,(g7 hF hn).symm⟩
theorem CD {t:TypeId}{x v:D}(d:fN F H' H)(l:∀ i∈dQ x,i∈F)(f:¬ H.al nid):Loc (lF P t x v H) (lF P t x v H') H' F nid:=by
 unfold lF
 cases x<;>try (exact Loc.bad d f)
 rename_i e g i j
 have b:e∈F:=l e (by simp [dQ])
 simp only
 rw [d e b]
 cases m:H.get e with
 | none=>(simp only [];exact Loc.bad d f)
 | some k =>
  simp only []
  cases n:k.es[i]? with
  | none=>(simp only [];exact Loc.bad d f)
  | some c =>
   exact ⟨λh=>h,rfl,rfl,s4 d f b _⟩
theorem K6 {t:TypeId}{x:D}(c:fN F H' H)(g:∀ i∈dQ x,i∈F)(e:¬ H.al nid):Loc (uD P t x H) (uD P t x H') H' F nid:=by
 unfold uD
 cases x<;>try (exact Loc.bad c e)
 rename_i d f j n
 have b:d∈F:=g d (by simp [dQ])
 simp only
 rw [c d b]
 cases l:sl P t with
 | none=>(simp only [];exact Loc.bad c e)
 | some s =>
  cases m:H.get d with
  | none=>(simp only [];exact Loc.bad c e)
  | some k =>
   exact ⟨λh=>h,rfl,rfl,s4 c e b _⟩
theorem Il {t f:TypeId}{x y:D}(b:fN F H' H)(l:∀ i∈dQ x,i∈F)(m:∀ i∈dQ y,i∈F)(e:¬ H.al nid)(j:nid<H'.next)(g:nid∈F) :
  Loc (j7 P nid t f x y H) (j7 P nid t f x y H') H' F nid:=by
 unfold j7
 rw [Ia (H:=H) (H':=H') λi hi=>b i (m i hi)]
 cases q:sl P t with
 | none=>(simp only [];exact Loc.bad b e)
 | some s =>
  cases r:oD H y with
  | none =>
   unfold oL
   cases y<;>try (exact Loc.bad b e)
   cases x<;>try (exact Loc.bad b e)
   rename_i d n
   cases o:A8 P f with
   | none=>(simp only [];exact Loc.bad b e)
   | some kn =>
    simp only []
    have c:d∈F:=l d (by simp [dQ])
    rw [b d c]
    cases p:H.get d with
    | none=>(simp only [];exact Loc.bad b e)
    | some k =>
     exact ⟨λh=>h,rfl,rfl,s4 b e c _⟩
  | some ys =>
   simp only []
   cases x<;>try (exact Loc.bad b e)
   .exact ⟨λh=>h,rfl,rfl,mH b j g _⟩
   .rename_i d n
    have c:d∈F:=l d (by simp [dQ])
    simp only
    rw [b d c]
    cases p:H.get d with
    | none=>(simp only [];exact Loc.bad b e)
    | some k =>
     simp only []
     exact ⟨λh=>h,rfl,rfl,s4 b e c _⟩
theorem DD {md:Nat->Bool}{e:Nat->D}{o:Oper}(g:fN (foot nid e o.op) H' H)(j:¬ H.al nid)(C:nid<H'.next) :
  Loc (EQ P nid md e o H) (EQ P nid md e o H') H' (foot nid e o.op) nid:=by
 obtain ⟨E,F,G,a0,X,W⟩:=o
 have w:p6 F=true->∀ x∈F.operands,∀ i∈dQ (eH e x),i∈foot nid e F:=λhh x K i q=>by
  simp only [foot,hh,if_true,aV,bH]
  exact .inr ⟨x,by simpa using K,q⟩
 have L:Gt F=true->nid∈foot nid e F:=λh=>by simp [foot,h]
 simp only at g
 have I:p6 F=true->∀ x∈F.operands,fN (dQ (eH e x)) H' H:=λhh x K i q=>g i (w hh x K i q)
 unfold EQ
 simp only
 have r:∀ x:Operand,Gt F=i6 x ->
   Loc (if i6 x then DF P nid (EH md E) G H else ⟨True,True,eH e x,H⟩) (if i6 x then DF P nid (EH md E) G H' else ⟨True,True,eH e x,H'⟩) H' (foot nid e F) nid:=by
  intro x Q
  by_cases K:i6 x=true
  .rw [if_pos K]
   rw [if_pos K]
   unfold DF
   generalize EH md E=m
   cases m with
   | false=>exact ⟨λh=>h,rfl,rfl,(g7 g j).symm⟩
   | true =>
    simp only [if_true]
    cases hs:sl P G with
    | none=>(simp only [];exact Loc.bad g j)
    | some s=>exact ⟨λh=>h,rfl,rfl,mH g C (L (Q.trans K)) _⟩
  .rw [if_neg K]
   rw [if_neg K]
   exact ⟨λh=>h,rfl,rfl,(g7 g j).symm⟩
 cases F<;>try (exact Loc.bad g j)
 case move x=>exact r x rfl
 case assign x=>exact r x rfl
 case pick c a b =>
  refine Loc.on ?_ ?_ g j
  .simp only [zF];split<;>first|rfl|(simp only [uC];split<;>rfl)
  .simp only [zF];split<;>first|rfl|(simp only [uC];split<;>rfl)
 case alloc t =>
  simp only [wQ]
  cases hz:zd P t with
  | none=>(simp only [];exact Loc.bad g j)
  | some z =>
   simp only []
   generalize EH md E=m
   cases m with
   | false=>exact ⟨λh=>h,rfl,rfl,(g7 g j).symm⟩
   | true=>exact ⟨λh=>h,rfl,rfl,mH g C (L rfl) _⟩
 case box t x =>
  simp only [K7]
  generalize EH md E=m
  cases m with
  | false=>exact ⟨λh=>h,rfl,rfl,(g7 g j).symm⟩
  | true=>exact ⟨λh=>h,rfl,rfl,mH g C (L rfl) _⟩
 case build t ps =>
  refine Loc.on ?_ ?_ g j
  .simp only [sE];split
   .split<;>rfl
   .rfl
  .simp only [sE];split
   .split<;>rfl
   .rfl
 case buildSlice t m ps =>
  have k:∀ i∈(ps.toList.flatMap λp=>KO md (eH e p.2)),i∈foot nid e (.buildSlice t m ps):=λi q=>by
   obtain ⟨p,U,q⟩:=bH.1 q
   refine w rfl p.2 ?_ i (Qd _ i (U1 q))
   simp only [Op.operands]
   simpa using ⟨p.1,by simpa using U⟩
  have R:(ps.toList.map λp=>(p.1,QD md H' (eH e p.2)))=ps.toList.map λp=>(p.1,QD md H (eH e p.2)):=bW λp U=>by
   congr 1;unfold QD;split
   .rfl
   .rename_i hb;exact FL λi q=>g i (k i (bH.2 ⟨p,U,by unfold KO;rw [if_neg hb];exact q⟩))
  simp only
  rw [R]
  have V:=GS _ k g
  have O:∀ H1:AHeap,kG (fE (ps.toList.flatMap λp=>KO md (eH e p.2)) H') H1 (foot nid e (.buildSlice t m ps)) nid=kG H' H1 (foot nid e (.buildSlice t m ps)) nid:=λH1=>BS _ k H1
  have N:Loc (AOut.bad (fE (ps.toList.flatMap λp=>KO md (eH e p.2)) H)) (AOut.bad (fE (ps.toList.flatMap λp=>KO md (eH e p.2)) H')) H' (foot nid e (.buildSlice t m ps)) nid :=
   ⟨λh=>h,rfl,rfl,by
    show fE _ H'=kG H' (fE _ H) _ nid
    rw [<- O,g7 V (by rw [(zZ _ H).1];exact j)]⟩
  simp only [iH]
  cases hs:sl P t with
  | none=>(simp only [];exact N)
  | some s =>
   simp only []
   cases a1:AO (λi=>some (i * s.sz,s.sz)) (List.replicate m s.z).flatten (ps.toList.map λp=>(p.1,QD md H (eH e p.2))) with
   | none=>(simp only [];exact N)
   | some cs =>
    simp only []
    generalize EH md E=m'
    cases m' with
    | false =>
     refine ⟨λh=>h,rfl,rfl,?_⟩
     simp only [eD,if_false]
     rw [<- O,g7 V (by rw [(zZ _ H).1];exact j)]
    | true =>
     refine ⟨λh=>h,rfl,rfl,?_⟩
     simp only [if_true]
     rw [<- O]
     exact mH V (by rw [(zZ _ H').2];exact C) (L rfl) _
 case load t a=>exact Loc.on (NV (I rfl a (by simp [Op.operands]))) (by simp only [mV];split<;>(try split)<;>rfl) g j
 case store t a v =>
  have Y:=w rfl a (by simp [Op.operands])
  have hv:=w rfl v (by simp [Op.operands])
  simp only
  by_cases Q:md 1000000=true
  .rw [if_pos Q]
   rw [if_pos Q]
   have k:∀ i∈dK (eH e v),i∈foot nid e (.store t a v):=λi q=>hv i (Qd _ i q)
   rw [FL (H:=H) (H':=H') λi q=>g i (k i q)]
   have S:=CD (P:=P) (t:=t) (v:=iP H (eH e v)) (nid:=nid) (GS _ k g) Y (by rw [(zZ _ H).1];exact j)
   exact ⟨S.cond,S.fact,S.val,by rw [S.heap,BS _ k]⟩
  .rw [if_neg Q]
   rw [if_neg Q]
   exact CD g Y j
 case nilCheck x=>exact Loc.on (ER (I rfl x (by simp [Op.operands]))) (by simp only [jI];split<;>(try split)<;>rfl) g j
 case binOp F t x y t' =>
  refine Loc.on ?_ ?_ g j
  .simp only [q9];split<;>first|rfl|(simp only [Hv];split<;>first|rfl|(split<;>rfl)|(simp only [Ik];split<;>rfl))
  .simp only [q9];split<;>first|rfl|(simp only [Hv];split<;>first|rfl|(split<;>rfl)|(simp only [Ik];split<;>rfl))
 case unOp F t x =>
  refine Loc.on ?_ ?_ g j
  .simp only [TQ];split<;>rfl
  .simp only [TQ];split<;>rfl
 case convert s d x =>
  refine Loc.on ?_ ?_ g j
  .simp only [mD];split<;>(try split)<;>rfl
  .simp only [mD];split<;>(try split)<;>rfl
 case makeFunc fn first caps =>
  cases fn<;>try (exact Loc.bad g j)
  simp only
  by_cases T:first.isEmpty=true
  .rw [if_pos T]
   rw [if_pos T]
   exact ⟨λh=>h,rfl,rfl,(g7 g j).symm⟩
  .rw [if_neg T];rw [if_neg T];exact Loc.bad g j
 case makeSlice t l c =>
  simp only [CG]
  split
  .exact ⟨λh=>h,rfl,rfl,mH g C (L rfl) _⟩
  .exact Loc.bad g j
 case slice t x lo q mx =>
  cases mx<;>try (exact Loc.bad g j)
  exact Loc.on (KZ (I rfl x (by simp [Op.operands]))) Eu g j
 case fieldAddr t x f=>exact Loc.on (DH (I rfl x (by simp [Op.operands]))) xG g j
 case indexAddr t x i=>exact Loc.on (DG (I rfl x (by simp [Op.operands]))) xF g j
 case index t x i =>
  refine Loc.on ?_ ?_ g j
  .simp only [sD];split<;>(try split)<;>(try split)<;>rfl
  .simp only [sD];split<;>(try split)<;>(try split)<;>rfl
 case extract t i =>
  refine Loc.on ?_ ?_ g j
  .simp only [mC];split<;>rfl
  .simp only [mC];split<;>rfl
 case call c =>
  obtain ⟨callee,args,Z⟩:=c
  cases callee<;>try (exact Loc.bad g j)
  rename_i b
  simp only
  have n:∀ d∈args.toList.map (eH e),∀ i∈dQ d,i∈foot nid e (.call { callee:=.builtin b,args:=args,argTypes:=Z }):=by
   intro d hd i q
   obtain ⟨x,K,rfl⟩:=aQ.1 hd
   exact w rfl x (by simp only [Op.operands,Call.operands];simpa using K) i q
  generalize args.toList.map (eH e)=az at n ⊢
  unfold vI
  split
  .exact Loc.on (PR λi q=>g i (n _ (aW.2 rfl) i q)) (by
    simp only [ES]
    split
    .split<;>(try split)<;>rfl
    .split<;>rfl
    .rfl
    .rfl) g j
  .exact Il g (n _ (lN ..)) (n _ (iY _ (aW.2 rfl))) j C (by simp [foot,Gt])
  .exact K6 g (n _ (aW.2 rfl)) j
  .refine Loc.on ?_ ?_ g j
   .simp only [CF];split<;>rfl
   .simp only [CF];split<;>rfl
  .refine Loc.on ?_ ?_ g j
   .simp only [CF];split<;>rfl
   .simp only [CF];split<;>rfl
  .exact Loc.bad g j
theorem TR {md:Nat->Bool}{e:Nat->D}{o:Oper}(h:vK o.op=false):(EQ P nid md e o H).heap=H:=by
 obtain ⟨u,k,n,p,m,l⟩:=o
 simp only at h
 unfold EQ
 cases k<;>first|(simp [vK] at h;done)|skip
 case move x =>
  simp only [vK] at h
  simp [h]
 case assign x =>
  simp only [vK] at h
  simp [h]
 case pick c a b=>simp only [zF];split<;>first|rfl|(simp only [uC];split<;>rfl)
 case build t ps =>
  simp only [sE]
  split
  .split<;>rfl
  .rfl
 case load t a=>simp only [mV];split<;>(try split)<;>rfl
 case nilCheck x=>simp only [jI];split<;>(try split)<;>rfl
 case binOp k t x y t'=>simp only [q9];split<;>first|rfl|(simp only [Hv];split<;>first|rfl|(split<;>rfl)|(simp only [Ik];split<;>rfl))
 case unOp k t x=>simp only [TQ];split<;>rfl
 case convert s d x=>simp only [mD];split<;>(try split)<;>rfl
 case makeFunc r first caps =>
  cases r<;>try rfl
  simp only
  split<;>rfl
 case slice t x lo hi q =>
  cases q<;>try rfl
  exact Eu
 case fieldAddr t x f=>exact xG
 case indexAddr t x i=>exact xF
 case index t x i=>simp only [sD];split<;>(try split)<;>(try split)<;>rfl
 case extract t i=>simp only [mC];split<;>rfl
 case call c =>
  obtain ⟨g,j,v⟩:=c
  cases g<;>try rfl
  rename_i b
  simp only
  generalize j.toList.map (eH e)=az
  unfold vI
  split
  .simp only [ES]
   split
   .split<;>(try split)<;>rfl
   .split<;>rfl
   .rfl
   .rfl
  .simp [vK] at h
  .simp [vK] at h
  .simp only [CF];split<;>rfl
  .simp only [CF];split<;>rfl
  .rfl
 all_goals rfl
end
end Go.Abs
end
section
namespace Go.Abs
theorem Gz {ops:Array Oper}{o:Oper}{t:Tmp}(h:Operand.tmp t∈o.op.operands):t∈o.looksAt ops:=by
 simp only [Oper.looksAt,aV,List.mem_filterMap]
 exact .inl ⟨.tmp t,by simpa using h,rfl⟩
theorem MT {ops:Array Oper}{o:Oper}{j:Nat}{b:Bool}{t:Tmp}(a:o.guard=some (j,b))(h:(ops[j]?).bind (·.dst)=some t):t∈o.looksAt ops:=by
 simp only [Oper.looksAt,aV,a]
 grind
section
variable {P:Program} {md:Nat→Bool} {ops:Array Oper} {nid:Nat}
def uS (H' H1:AHeap)(F N:List Nat):AHeap:=⟨H'.next,λi=>H'.al i\/(i∈N/\H1.al i),λi=>if i∈F then H1.get i else H'.get i⟩
theorem Mt (H' b:AHeap)(F:List Nat)(nid:Nat):kG H' b F nid=uS H' b F [nid]:=by
 simp only [kG,uS,AHeap.mk.injEq,true_and,and_true]
 grind
theorem IO {H H':AHeap}{F N:List Nat}(c:fN F H' H)(b:∀ i∈N,¬ H.al i):uS H' H F N=H':=by
 obtain ⟨n,d,g⟩:=H'
 simp only [uS,AHeap.mk.injEq,true_and]
 refine ⟨?_,?_⟩
 .funext i;exact propext ⟨λh=>h.elim id λh=>absurd h.2 (b i h.1),.inl⟩
 .funext i
  by_cases a:i∈F
  .rw [if_pos a];exact (c i a).symm
  grind
theorem Gb:∀ (q:List (Nat × Blk)) (H:AHeap),(∀ p∈q,p.1<H.next)->(H.pushs q).next=H.next
 | [],H,_=>rfl
 | p :: l,H,h=>by
  have h1:(H.push p.1 p.2).next=H.next:=by simp only [AHeap.push,if_pos (h p aF)]
  simp only [AHeap.pushs]
  rw [Gb l _ (λx hx=>by rw [h1];exact h x (by simp [hx])),h1]
theorem BP:∀ (q:List (Nat × Blk)) (H:AHeap) (i:Nat),(H.pushs q).al i↔H.al i\/i∈q.map (·.1)
 | [],H,i=>by simp [AHeap.pushs]
 | p :: l,H,i=>by
  simp only [AHeap.pushs]
  rw [BP l]
  simp only [AHeap.push,gS,bP]
  constructor
  .rintro ((h|h)|h)
   .exact .inr (.inl h)
   .exact .inl h
   .exact .inr (.inr h)
  .rintro (h|h|h)
   .exact .inl (.inr h)
   .exact .inl (.inl h)
   .exact .inr h
theorem IJ:∀ (q:List (Nat × Blk)) (H H':AHeap) (i:Nat),(i∈q.map (·.1)\/H.get i=H'.get i)->(H.pushs q).get i=(H'.pushs q).get i
 | [],H,H',i,h=>by
  rcases h with h|h
  .simp at h
  .exact h
 | p :: l,H,H',i,h=>by
  simp only [AHeap.pushs]
  refine IJ l _ _ i ?_
  by_cases hl:i∈l.map (·.1)
  .exact .inl hl
  .right
   simp only [AHeap.push]
   by_cases hp:i=p.1
   .simp [hp]
   .simp only [hp,if_false]
    rcases h with h|h
    .simp only [gS,bP] at h
     rcases h with h|h
     .exact absurd h hp
     .exact absurd h hl
    .exact h
theorem D0:∀ (q:List (Nat × Blk)) (H:AHeap) (i:Nat),i∉q.map (·.1)->(H.pushs q).get i=H.get i
 | [],H,i,_=>rfl
 | p :: l,H,i,h=>by
  simp only [gS,bP,not_or] at h
  simp only [AHeap.pushs]
  rw [D0 l _ i h.2]
  simp [AHeap.push,h.1]
theorem C4:∀ (u:List (Nat × Blk)) (H:AHeap),(H.puts u).next=H.next
 | [],_=>rfl
 | p :: l,H=>C4 l (H.put p.1 p.2)
theorem P7:∀ (u:List (Nat × Blk)) (H:AHeap) (i:Nat),(H.puts u).al i↔H.al i
 | [],_,_=>Iff.rfl
 | p :: l,H,i=>P7 l (H.put p.1 p.2) i
theorem Mm:∀ (u:List (Nat × Blk)) (H H':AHeap) (i:Nat),H.get i=H'.get i->(H.puts u).get i=(H'.puts u).get i
 | [],_,_,_,h=>h
 | p :: l,H,H',i,h=>Mm l _ _ i (by simp only [AHeap.put];split<;>first|rfl|exact h)
theorem F7:∀ (u:List (Nat × Blk)) (H:AHeap) (i:Nat),(∀ p∈u,p.1≠i)->(H.puts u).get i=H.get i
 | [],H,i,_=>rfl
 | p :: l,H,i,h=>by
  simp only [AHeap.puts]
  rw [F7 l _ i λx hx=>h x (by simp [hx])]
  have:=(h p aF).symm
  simp [AHeap.put,this]
theorem Ga {H H':AHeap}{S:List Nat}{u q:List (Nat × Blk)}(m:∀ p∈u,p.1∈S)(j:fN (S++q.map (·.1)) H' H)(b:∀ p∈q,p.1<H'.next):(H'.puts u).pushs q=uS H' ((H.puts u).pushs q) (S++q.map (·.1)) (q.map (·.1)):=by
 have d:=Gb q (H'.puts u) (by rw [C4];exact b)
 have c:=BP q (H'.puts u)
 have f:=IJ q (H'.puts u) (H.puts u)
 have e:=D0 q (H'.puts u)
 have k:=BP q (H.puts u)
 rw [C4] at d
 simp only [P7] at c k
 generalize (H'.puts u).pushs q=X at d c f e
 obtain ⟨n,l,g⟩:=X
 simp only [uS,AHeap.mk.injEq]
 refine ⟨d,funext λi=>propext ?_,funext λi=>?_⟩
 .rw [show l i↔_ from c i]
  grind
 .by_cases a:i∈S++q.map (·.1)
  .rw [if_pos a]
   exact f i (.inr (Mm u _ _ i (j i a)))
  .rw [if_neg a]
   refine (e i λh=>a (by simp only [aV];exact .inr h)).trans (F7 u _ i λp hp he=>a ?_)
   grind
structure Txt (P:Program) (md:Nat->Bool) (ops:Array Oper) (m nid:Nat) (o:Oper) (e:Nat->D) (H:AHeap) (v:D) (H1:AHeap) (F N:List Nat):Prop where
 self:H1=uS H H1 F N
 new:∀ id∈N,¬ H.al id/\(id=nid\/(id<m/\H1.al id))
 still:mF md o=false->H1=H
 foot:p6 o.op=false->F=[]
 any:∀ e' H',(∀ t∈o.looksAt ops,e' t=e t)->fN F H' H->nid<H'.next->¬ H'.al nid->(∀ id∈N,id<H'.next/\¬ H'.al id) ->
  oJ P md (some m) nid ops e' o H' λv' H2 _=>v'=v/\H2=uS H' H1 F N
theorem MI {o:Op}(h:p6 o=false):Gt o=false:=by
 cases o<;>first|rfl|(simp [p6] at h;done)|(simp only [p6] at h;simp only [Gt];exact h)
theorem Nc {e:Nat->D}{o:Op}(h:p6 o=false):foot nid e o=[]:=by simp [foot,h,MI h]
theorem Ci {e a:Nat->D}{o:Oper}(h:∀ t∈o.looksAt ops,a t=e t):∀ x∈o.op.operands,eH a x=eH e x:=by
 intro x b
 cases x with
 | tmp t=>exact h t (Gz b)
 | _=>rfl
theorem AU {e b:Nat->D}{o:Oper}(h:∀ t∈o.looksAt ops,b t=e t):∀ x∈o.op.operands,eH (gE b o.op) x=eH (gE e o.op) x:=by
 intro x d
 cases x with
 | tmp t =>
  have a:=h t (Gz d)
  simp only [eH]
  cases o.op<;>simp only [gE,DL,a]
  rename_i c _ _
  cases c<;>simp only [a]
 | _=>rfl
theorem IQ {e e':Nat->D}:∀ (l:List Operand),(∀ x∈l,og e' x=og e x)->Sh e' l=Sh e l
 | [],_=>rfl
 | x :: l,h=>by simp only [Sh,h x aF,IQ l λy hy=>h y (by simp [hy])]
theorem Loc.self {r:AOut}{H:AHeap}{F:List Nat}(h:Loc r r H F nid):r.heap=kG H r.heap F nid:=h.heap
theorem Se {m:Nat}{e:Nat->D}{o:Oper}{H:AHeap}{K:D->AHeap->List Nat->Prop}(h:oJ P md (some m) nid ops e o H K)(T:¬ H.al nid)(a0:nid<H.next)(Z:m<=H.next) :
  ∃ v H1 F N,Txt P md ops m nid o e H v H1 F N/\K v H1 F:=by
 unfold oJ at h
 have s:∀ F:List Nat,H=uS H H F [nid]:=λF=>(IO (λ_ _=>rfl) (bS T)).symm
 have a:∀ id∈[nid],¬ H.al id/\∀ H1:AHeap,(id=nid\/(id<m/\H1.al id)):=λid hid=>by
  grind
 have z:∀ {H':AHeap},fN [] H' H->∀ {F:List Nat},fN F H' H->uS H' H F [nid]=H':=λ_ _ n=>IO n (bS T)
 cases L:o.guard with
 | none =>
  simp only [L] at h
  cases l:f7 e o with
  | some fa =>
   obtain ⟨f,X⟩:=fa
   simp only [l] at h
   have hh:p6 o.op=true/\EY md o=EH md o.dst:=by
    unfold f7 at l
    split at l
    .rename_i O;unfold EY;rw [O];exact ⟨rfl,rfl⟩
    .cases l
   rcases h with ⟨r,S,B,G⟩|⟨W,r,S,u,q,Y,hq,B,G⟩
   .refine ⟨r,H,S,[nid],⟨s S,λid hid=>⟨(a id hid).1,(a id hid).2 _⟩,λ_=>rfl,λh=>(by rw [hh.1] at h;cases h),λe' H' k n d E U=>?_⟩,G⟩
    unfold oJ
    simp only [L]
    rw [oH (Ci k),l]
    exact .inl ⟨r,S,λH'' hF'=>B H'' λi hi=>(hF' i hi).trans (n i hi),rfl,(z (λ_ h=>by cases h) n).symm⟩
   .have a1:=BP q (H.puts u)
    refine ⟨r,(H.puts u).pushs q,S++q.map (·.1),q.map (·.1),⟨Ga Y (λ_ _=>rfl) (λp C=>cW (hq p C).1 Z),λid hid=>?_,λhw=>?_,λh=>(by rw [hh.1] at h;cases h),λe' H' k n d E U=>?_⟩,G⟩
    .obtain ⟨p,C,rfl⟩:=aQ.1 hid
     exact ⟨(hq p C).2,.inr ⟨(hq p C).1,(a1 _).2 (.inr hid)⟩⟩
    .unfold mF at hw
     rw [hh.2,W] at hw
     simp at hw
    .unfold oJ
     simp only [L]
     rw [oH (Ci k),l]
     refine .inr ⟨W,r,S,u,q,Y,λp C=>⟨(hq p C).1,(U p.1 (aQ.2 ⟨p,C,rfl⟩)).2⟩,λH'' hF' hn''=>B H'' (λi hi=>(hF' i hi).trans (n i (by simp [hi]))) hn'',rfl,?_⟩
     exact Ga Y n λp C=>(U p.1 (aQ.2 ⟨p,C,rfl⟩)).1
  | none =>
   simp only [l] at h
   obtain ⟨B,G⟩:=h
   have hl:=DD (P:=P) (md:=md) (e:=e) (o:=o) (H:=H) (H':=H) (nid:=nid) (λ_ _=>rfl) T a0
   refine ⟨_,_,_,[nid],⟨(Mt _ _ _ _) ▸ hl.heap,λid hid=>⟨(a id hid).1,(a id hid).2 _⟩,λhw=>TR (by unfold mF at hw;simp at hw;exact hw.1),λhh=>Nc hh,λe' H' k n d E U=>?_⟩,G (λh=>by cases h)⟩
   unfold oJ
   simp only [L]
   rw [oH (Ci k),l]
   simp only
   rw [DE (Ci k)]
   have w:=DD (P:=P) (md:=md) (e:=e) (o:=o) (H:=H) (H':=H') (nid:=nid) n T d
   exact ⟨w.cond B,λ_=>⟨w.val,(Mt _ _ _ _) ▸ w.heap⟩⟩
 | some jb =>
  obtain ⟨j,b⟩:=jb
  simp only [L] at h
  cases R:gD ops e j with
  | none=>simp [R] at h
  | some gc =>
   obtain ⟨g,c⟩:=gc
   simp only [R] at h
   obtain ⟨V,h⟩:=h
   have J:∀ e',(∀ t∈o.looksAt ops,e' t=e t)->gD ops e' j=some (g,c):=by
    intro e' k
    rw [<- R]
    unfold gD
    cases ht:(ops[j]?).bind (·.dst) with
    | none=>rfl
    | some t=>simp only [k t (MT L ht)]
   have I:∀ e',(∀ t∈o.looksAt ops,e' t=e t)->Sh e' (gO o.op)=Sh e (gO o.op):=by
    intro e' k
    refine IQ _ λx hx=>?_
    cases x with
    | tmp t=>simp only [og,k t (Gz (Wu hx))]
    | _=>rfl
   cases l:f7 (gE e o.op) o with
   | some fa =>
    obtain ⟨f,X⟩:=fa
    simp only [l] at h
    obtain ⟨r,S,B,G⟩:=h
    have hh:p6 o.op=true:=by
     unfold f7 at l
     split at l
     .rename_i O;rw [O];rfl
     .cases l
    refine ⟨_,H,S,[nid],⟨s S,λid hid=>⟨(a id hid).1,(a id hid).2 _⟩,λ_=>rfl,λh=>(by rw [hh] at h;cases h),λe' H' k n d E U=>?_⟩,G⟩
    unfold oJ
    simp only [L,J e' k,I e' k]
    rw [oH (AU k),l]
    exact ⟨V,r,S,λhq H'' hF'=>B hq H'' λi hi=>(hF' i hi).trans (n i hi),rfl,(z (λ_ h=>by cases h) n).symm⟩
   | none =>
    simp only [l] at h
    obtain ⟨B,G⟩:=h
    refine ⟨_,H,_,[nid],⟨s _,λid hid=>⟨(a id hid).1,(a id hid).2 _⟩,λhw=>rfl,λhh=>Nc hh,λe' H' k n d E U=>?_⟩,G (λh=>by cases h)⟩
    unfold oJ
    simp only [L,J e' k,I e' k]
    rw [oH (AU k),l]
    simp only
    rw [DE (AU k)]
    have w:=DD (P:=P) (md:=md) (e:=gE e o.op) (o:=o) (H:=H) (H':=H') (nid:=nid) n T d
    refine ⟨V,λhq=>⟨w.cond (B hq).1,?_⟩,λ_=>⟨by rw [w.val],(z (λ_ h=>by cases h) n).symm⟩⟩
    rw [w.heap,(B hq).2,g7 n T]
end
structure Run (P:Program) (md:Nat->Bool) (ops:Array Oper) (sp:List (Nat × Nat)) (n0:Nat) (es:Nat->Nat->D) (Hs:Nat->AHeap) (vs:Nat->D) (Fs Ns:Nat->List Nat) (i0:Nat) (l:List Oper):Prop where
 step:∀ (j:Nat) (o:Oper),l[j]?=some o->es (i0+j+1)=nZ (es (i0+j)) o.dst (vs (i0+j))/\Txt P md ops n0 (n0+(i0+j)) o (es (i0+j)) (Hs (i0+j)) (vs (i0+j)) (Hs (i0+j+1)) (Fs (i0+j)) (Ns (i0+j))
 apart:∀ (k j:Nat),k<j->j<l.length->(i0+k,i0+j)∈sp->∀ x∈Fs (i0+k),x∉Fs (i0+j)
theorem JK {P:Program}{md:Nat->Bool}{ops:Array Oper}{sp:List (Nat × Nat)}{n0 nn:Nat}:∀ (l:List Oper) (i:Nat) (acc:List (Nat × List Nat)) (e:Nat->D) (H:AHeap) (K:(Nat->D)->AHeap->Prop),
  kL P md ops sp n0 i l acc e H K->(∀ id,H.al id->id<n0+i)->H.next=nn->n0+i+l.length<=nn ->
  ∃ (es:Nat->Nat->D) (Hs:Nat->AHeap) (vs:Nat->D) (Fs Ns:Nat->List Nat),es i=e/\Hs i=H/\K (es (i+l.length)) (Hs (i+l.length))/\Run P md ops sp n0 es Hs vs Fs Ns i l /\
   (∀ (j:Nat),j<l.length->∀ p∈acc,(p.1,i+j)∈sp->∀ x∈p.2,x∉Fs (i+j))
 | [],i,acc,e,H,K,h,hal,hnn,hle=>by
  refine ⟨λ_=>e,λ_=>H,λ_=>.junk,λ_=>[],λ_=>[],rfl,rfl,h,⟨λj o h=>by simp at h,λk j _ h=>by simp at h⟩,λj h=>by simp at h⟩
 | o :: l,i,acc,e,H,K,h,hal,hnn,hle=>by
  unfold kL at h
  simp only [eV] at hle
  have hn:¬ H.al (n0+i):=λh=>by have:=hal _ h;omega
  have hlt:n0+i<H.next:=aD
  obtain ⟨v,H1,F,N,hT,hchk,hrest⟩:=Se h hn hlt aD
  have hal1:∀ id,H1.al id->id<n0+(i+1):=λid hid=>by
   rw [hT.self] at hid
   rcases hid with hid|⟨hid,_⟩
   .have:=hal id hid;omega
   .rcases (hT.new id hid).2 with h|⟨h,_⟩<;>omega
  have hnn1:H1.next=nn:=by rw [hT.self];exact hnn
  obtain ⟨es,Hs,vs,Fs,Ns,he,hH,hK,hrun,hacc⟩:=JK l (i+1) _ _ _ _ hrest hal1 hnn1 aD
  refine ⟨λk=>if k=i then e else es k,λk=>if k=i then H else Hs k,λk=>if k=i then v else vs k,λk=>if k=i then F else Fs k,λk=>if k=i then N else Ns k,by simp,by simp,?_,⟨λj o' ho'=>?_,λk j hkj hj hsp=>?_⟩,λj hj p hp hsp=>?_⟩
  .have:i+(o :: l).length≠i:=aF
   simp only [this,if_false]
   rw [show i+(o :: l).length=i+1+l.length by simp;omega]
   exact hK
  .cases j with
   | zero =>
    simp only [kM,bD] at ho'
    subst ho'
    have:i+0+1≠i:=aD
    simp only [this,if_false,sN,if_true]
    rw [show i+1=i+1 from rfl,he,hH]
    exact ⟨rfl,hT⟩
   | succ j =>
    have h1:i+(j+1)≠i:=aD
    have h2:i+(j+1)+1≠i:=aD
    simp only [h1,h2,if_false]
    have:=hrun.step j o' (bS ho')
    rw [(aD:i+1+j=i+(j+1))] at this
    exact this
  .have hj0:i+j≠i:=aD
   simp only [hj0,if_false]
   cases j with
   | zero=>omega
   | succ j =>
    simp only [eV] at hj
    by_cases hk:k=0
    .subst hk
     simp only [sN,if_true] at hsp ⊢
     have:=hacc j aD (i,F) aF
     rw [(aD:i+1+j=i+(j+1))] at this
     exact this hsp
    .have hk0:i+k≠i:=aD
     simp only [hk0,if_false]
     have:=hrun.apart (k - 1) j aD aD
     rw [(aD:i+1+(k - 1)=i+k),(aD:i+1+j=i+(j+1))] at this
     exact this hsp
  .cases j with
   | zero =>
    simp only [sN,if_true] at hsp ⊢
    unfold KM at hchk
    cases sp with
    | nil=>simp at hsp
    | cons a sp=>exact hchk p hp hsp
   | succ j =>
    have h1:i+(j+1)≠i:=aD
    simp only [h1,if_false]
    simp only [eV] at hj
    have:=hacc j aD p (by simp [hp])
    rw [(aD:i+1+j=i+(j+1))] at this
    exact this hsp
end Go.Abs
end
section
namespace Go.Abs
theorem Dj {p:Nat->Bool}{i:Nat}:∀ (n:Nat),i<n->p i=true->(∀ k,i<k->k<n->p k=false)->fY p n=some i
 | 0,h,_,_=>by omega
 | n+1,h,hp,hk=>by
  by_cases hi:i=n
  .subst hi;simp [fY,hp]
  .simp only [fY,hk n aD aD,eD,if_false]
   exact Dj n aD hp λk h1 h2=>hk k h1 aD
section
variable (md:Nat→Bool) (ops:Array Oper) (n0:Nat) (e0:Nat→D) (H0:AHeap) (Hs:Nat→AHeap) (vs:Nat→D) (Fs Ns:Nat→List Nat)
def mL (i:Nat):Option Tmp:=(ops[i]?).bind (·.dst)
def pR (i:Nat):Bool:=match ops[i]? with|some o=>mF md o|none=>false
def eS (S:Nat->Bool)(m:Nat):Nat->D:=λt =>
 match fY (λk=>S k&&(mL ops k==some t)) m with
 | some k=>vs k
 | none=>e0 t
def HS (S:Nat->Bool)(m:Nat):AHeap where
 next:=n0+ops.size
 al:=λid=>H0.al id\/∃ k,k<m/\S k=true/\id∈Ns k/\(Hs (k+1)).al id
 get:=λid=>match fY (λk=>S k&&(pR md ops k&&(Fs k).contains id)) m with
  | some k=>(Hs (k+1)).get id
  | none=>H0.get id
end
section
variable {P:Program} {md:Nat→Bool} {ops:Array Oper} {sp:List (Nat × Nat)} {n0:Nat} {es:Nat→Nat→D} {Hs:Nat→AHeap} {vs:Nat→D} {Fs Ns:Nat→List Nat}
theorem lP (i:Nat):ops.toList[i]?=ops[i]?:=aF
theorem vR (hr:Run P md ops sp n0 es Hs vs Fs Ns 0 ops.toList)(hn:(Hs 0).next=n0+ops.size):∀ i,i<=ops.size->es i=eS ops (es 0) vs (λ_=>true) i/\Hs i=HS md ops n0 (Hs 0) Hs Fs Ns (λ_=>true) i
 | 0,_=>⟨by funext t;rfl,by
   generalize hH:Hs 0=X at hn
   obtain ⟨nx,al,g⟩:=X
   simp only [HS,AHeap.mk.injEq]
   refine ⟨hn,funext λid=>propext ⟨.inl,λh=>h.elim (λh=>h) λ⟨k,hk,_⟩=>by omega⟩,funext λid=>rfl⟩⟩
 | i+1,hi=>by
  obtain ⟨ih1,ih2⟩:=vR hr hn i aD
  have hlt:i<ops.size:=aD
  have ho:ops[i]?=some ops[i]:=bG hlt
  obtain ⟨h1,hT⟩:=hr.step i ops[i] (by rw [lP,ho])
  simp only [d8] at h1 hT
  refine ⟨?_,?_⟩
  .rw [h1,ih1]
   funext t
   simp only [eS,fY,iT]
   have hd:mL ops i=ops[i].dst:=by simp [mL,ho]
   cases hdd:ops[i].dst with
   | none=>simp [nZ,hd,hdd,eS]
   | some d =>
    by_cases ht:t=d
    .subst ht;simp [nZ,hd,hdd]
    .have ht':¬ d=t:=λh=>ht h.symm
     simp [nZ,hd,hdd,ht,ht',eS]
  .have hself:=hT.self
   have hw:pR md ops i=mF md ops[i]:=by simp [pR,ho]
   have hget:∀ id,(Hs (i+1)).get id=if (pR md ops i&&(Fs i).contains id)=true then (Hs (i+1)).get id else (Hs i).get id:=by
    intro id
    split
    .rfl
    .rename_i hc
     by_cases hwr:pR md ops i=true
     .have hnc:id∉Fs i:=λh=>hc (by simp [hwr,h])
      rw [hself];simp [uS,hnc]
     .rw [hT.still (by rw [<- hw];simpa using hwr)]
   have hnext:(Hs (i+1)).next=n0+ops.size:=by rw [hself,ih2];rfl
   have halq:∀ id,(Hs (i+1)).al id↔(Hs i).al id\/(id∈Ns i/\(Hs (i+1)).al id):=λid=>by
    constructor
    .intro h;rw [hself] at h;exact h
    .intro h;rw [hself];exact h
   generalize hH:Hs (i+1)=X at hget hnext halq
   obtain ⟨nx,al,g⟩:=X
   simp only [HS,AHeap.mk.injEq]
   refine ⟨hnext,funext λid=>propext ?_,funext λid=>?_⟩
   .rw [show al id↔_ from halq id,ih2]
    simp only [HS]
    constructor
    .rintro ((h|⟨k,hk,_,hm,h⟩)|⟨hm,h⟩)
     .exact .inl h
     .exact .inr ⟨k,aD,trivial,hm,h⟩
     .exact .inr ⟨i,aD,trivial,hm,by rw [hH];exact h⟩
    .rintro (h|⟨k,hk,_,hm,h⟩)
     .exact .inl (.inl h)
     .by_cases hki:k=i
      .subst hki;rw [hH] at h;exact .inr ⟨hm,h⟩
      .exact .inl (.inr ⟨k,aD,trivial,hm,h⟩)
   .have:=hget id
    simp only at this
    rw [this,ih2]
    simp only [HS,fY,iT]
    split
    .simp only [hH]
    .rfl
theorem rB (h:vO md ops sp=true){i j:Nat}(a:i<j)(d:j<ops.size) :
  ((NJ ops.toList []).getD j 0).testBit i=true\/(KL ops (ops[i]' aD) ops[j]=false/\(Hf md (ops[i]' aD) ops[j]=false\/(i,j)∈sp)):=by
 unfold vO at h
 simp only [cD,aR] at h
 have c:=h j d
 rw [bG d] at c
 simp only [aN,cD,aR] at c
 have b:=c.2 i a
 rw [bG aD] at b
 simp only [cO,aN,cG,xQ] at b
 exact b
theorem QS (h:vO md ops sp=true){j:Nat}{o:Oper}(c:ops[j]?=some o):∀ e∈o.after.toList,Region.binds .any e=true->e.on<j:=by
 have d:j<ops.size:=(qK.1 c).1
 unfold vO at h
 simp only [cD,aR] at h
 have b:=h j d
 rw [c] at b
 simp only [aN,cD,cO,cG,decide_eq_true_eq] at b
 intro e f g
 rcases b.1.1 e f with a|a
 .rw [g] at a;cases a
 .exact a
variable {S:Nat→Bool} {i:Nat}
def mK (S:Nat->Bool)(i:Nat):Nat->Bool:=λk=>k==i||S k
theorem JN {o:Op}(h:vK o=true):p6 o=true:=by
 cases o<;>first|rfl|(simp [vK] at h;done)|exact h
theorem pG {md:Nat->Bool}{o:Oper}(h:mF md o=true):p6 o.op=true:=by
 unfold mF at h
 rw [cO] at h
 rcases h with h|h
 .exact JN h
 .unfold EY at h
  split at h
  .rename_i a;rw [a];rfl
  .cases h
theorem zB {x y:Oper}(h:KL ops x y=false):(∀ t,x.dst=some t->t∉y.looksAt ops/\y.dst≠some t)/\(∀ t,y.dst=some t->t∉x.looksAt ops):=by
 have:=Oper.apart_spec (by simpa [KL] using h)
 grind
theorem D2 (e:vO md ops sp=true)(d:K9 ops S)(c:K9 ops (mK S i))(f:i<ops.size)(b:S i=false) :
  (∀ k,k<i->(((NJ ops.toList []).getD i 0).testBit k=true)->S k=true)/\(∀ k,i<k->k<ops.size->((NJ ops.toList []).getD k 0).testBit i=true->S k=false):=by
 refine ⟨λk hk hb=>?_,λk hk hk2 hb=>?_⟩
 .have:=JB c i k (by simp [mK]) hb
  simp only [mK,cO,beq_iff_eq] at this
  grind
 .cases a:S k with
  | false=>rfl
  | true=>have:=JB d k i a hb;rw [b] at this;cases this
theorem IH (r:Run P md ops sp n0 es Hs vs Fs Ns 0 ops.toList)(A:(Hs 0).next=n0+ops.size)(o:vO md ops sp=true)(C:K9 ops S)(w:K9 ops (mK S i))(q:i<ops.size)(n:S i=false) :
  (∀ t∈(ops[i]).looksAt ops,eS ops (es 0) vs S ops.size t=es i t)/\fN (Fs i) (HS md ops n0 (Hs 0) Hs Fs Ns S ops.size) (Hs i):=by
 obtain ⟨y,x⟩:=D2 o C w q n
 obtain ⟨E,D⟩:=vR r A i aD
 have v:∀ k,k<ops.size->mL ops k=(ops[k]?).bind (·.dst):=λk _=>rfl
 obtain ⟨_,z⟩:=r.step i ops[i] (by rw [lP,bG q])
 simp only [d8] at z
 refine ⟨λt ht=>?_,λid e=>?_⟩
 .rw [E]
  simp only [eS,iT]
  have u:fY (λk=>S k&&(mL ops k==some t)) ops.size=fY (λk=>mL ops k==some t) i:=by
   rw [A6 (p:=λk=>S k&&(mL ops k==some t)) i ops.size aD (λk g hk2=>?_)]
   .refine jZ i λk g=>?_
    cases c:(mL ops k==some t) with
    | false=>simp
    | true =>
     have j:k<ops.size:=aD
     have m:ops[k].dst=some t:=by simpa [mL,bG j] using c
     rcases rB o g q with h|⟨h,_⟩
     .simp [y k g h]
     .exact absurd ht ((zB h).1 t m).1
   .by_cases l:k=i
    .subst l;simp [n]
    .cases c:(mL ops k==some t) with
     | false=>simp
     | true =>
      have m:ops[k].dst=some t:=by simpa [mL,bG hk2] using c
      rcases rB o (aD:i<k) hk2 with h|⟨h,_⟩
      .simp [x k aD hk2 h]
      .exact absurd ht ((zB h).2 t m)
  rw [u]
 .rw [D]
  have b:p6 ops[i].op=true:=by
   cases B:p6 ops[i].op with
   | true=>rfl
   | false=>rw [z.foot B] at e;cases e
  simp only [HS,iT]
  have u:fY (λk=>S k&&(pR md ops k&&(Fs k).contains id)) ops.size=fY (λk=>pR md ops k&&(Fs k).contains id) i:=by
   rw [A6 (p:=λk=>S k&&(pR md ops k&&(Fs k).contains id)) i ops.size aD (λk g hk2=>?_)]
   .refine jZ i λk g=>?_
    cases c:(pR md ops k&&(Fs k).contains id) with
    | false=>simp
    | true =>
     have j:k<ops.size:=aD
     simp only [aN,xQ] at c
     have a:mF md ops[k]=true:=by simpa [pR,bG j] using c.1
     rcases rB o g q with h|⟨_,h|h⟩
     .simp [y k g h]
     .simp [Hf,b,pG a,a] at h
     .have d:=r.apart k i g (bS q)
      simp only [d8] at d
      exact absurd e (d h id c.2)
   .by_cases l:k=i
    .subst l;simp [n]
    .cases c:(pR md ops k&&(Fs k).contains id) with
     | false=>simp
     | true =>
      simp only [aN,xQ] at c
      have a:mF md ops[k]=true:=by simpa [pR,bG hk2] using c.1
      rcases rB o (aD:i<k) hk2 with h|⟨_,h|h⟩
      .simp [x k aD hk2 h]
      .simp [Hf,b,pG a,a] at h
      .have d:=r.apart i k aD (bS hk2)
       simp only [d8] at d
       exact absurd c.2 (d h id e)
  rw [u]
theorem Sb (y:Run P md ops sp n0 es Hs vs Fs Ns 0 ops.toList)(H:(Hs 0).next=n0+ops.size)(x:vO md ops sp=true)(F:K9 ops S)(v:K9 ops (mK S i))(m:i<ops.size)(u:S i=false) :
  nZ (eS ops (es 0) vs S ops.size) ops[i].dst (vs i)=eS ops (es 0) vs (mK S i) ops.size /\
  uS (HS md ops n0 (Hs 0) Hs Fs Ns S ops.size) (Hs (i+1)) (Fs i) (Ns i)=HS md ops n0 (Hs 0) Hs Fs Ns (mK S i) ops.size:=by
 obtain ⟨I,C⟩:=D2 x F v m u
 obtain ⟨_,E⟩:=y.step i ops[i] (by rw [lP,bG m])
 simp only [d8] at E
 have B:=(IH y H x F v m u).2
 have j:ops[i]?=some ops[i]:=bG m
 refine ⟨?_,?_⟩
 .funext t
  by_cases q:ops[i].dst=some t
  .have g:fY (λk=>mK S i k&&(mL ops k==some t)) ops.size=some i:=by
    refine Dj ops.size m (by simp [mK,mL,j,q]) λk e c=>?_
    cases r:(mL ops k==some t) with
    | false=>simp
    | true =>
     have z:ops[k].dst=some t:=by simpa [mL,bG c] using r
     rcases rB x e c with h|⟨h,_⟩
     .have a:(k==i)=false:=by simp;omega
      simp [mK,a,C k e c h]
     .exact absurd z ((zB h).1 t q).2
   simp only [eS,g,nZ,q,if_true]
  .have g:fY (λk=>mK S i k&&(mL ops k==some t)) ops.size=fY (λk=>S k&&(mL ops k==some t)) ops.size:=by
    refine jZ _ λk e=>?_
    by_cases a:k=i
    .subst a
     have:(mL ops k==some t)=false:=by simp [mL,j];exact q
     simp [this]
    .have:(k==i)=false:=by simpa using a
     simp [mK,this]
   simp only [eS,g]
   cases A:ops[i].dst with
   | none=>rfl
   | some d =>
    have:¬ t=d:=λh=>q (by rw [A,h])
    simp only [nZ,this,if_false]
    rfl
 .simp only [uS,HS,AHeap.mk.injEq,true_and]
  refine ⟨funext λid=>propext ?_,funext λid=>?_⟩
  .constructor
   .rintro ((h|⟨k,e,n,o,h⟩)|⟨o,h⟩)
    .exact .inl h
    .exact .inr ⟨k,e,by simp [mK,n],o,h⟩
    .exact .inr ⟨i,m,by simp [mK],o,h⟩
   .rintro (h|⟨k,e,n,o,h⟩)
    .exact .inl (.inl h)
    .by_cases a:k=i
     .subst a;exact .inr ⟨o,h⟩
     .have:(k==i)=false:=by simpa using a
      exact .inl (.inr ⟨k,e,by simpa [mK,this] using n,o,h⟩)
  .by_cases w:mF md ops[i]=true
   .by_cases b:id∈Fs i
    .rw [if_pos b]
     have g:fY (λk=>mK S i k&&(pR md ops k&&(Fs k).contains id)) ops.size=some i:=by
      refine Dj ops.size m (by simp [mK,pR,j,w,b]) λk e c=>?_
      cases r:(pR md ops k&&(Fs k).contains id) with
      | false=>simp
      | true =>
       simp only [aN,xQ] at r
       have p:mF md ops[k]=true:=by simpa [pR,bG c] using r.1
       rcases rB x e c with h|⟨_,h|h⟩
       .have a:(k==i)=false:=by simp;omega
        simp [mK,a,C k e c h]
       .simp [Hf,pG w,pG p,p] at h
       .have s:=y.apart i k e (bS c)
        simp only [d8] at s
        exact absurd r.2 (s h id b)
     rw [g]
    .rw [if_neg b]
     have g:fY (λk=>mK S i k&&(pR md ops k&&(Fs k).contains id)) ops.size=fY (λk=>S k&&(pR md ops k&&(Fs k).contains id)) ops.size:=by
      refine jZ _ λk e=>?_
      by_cases a:k=i
      .subst a;simp [b]
      .have:(k==i)=false:=by simpa using a
       simp [mK,this]
     rw [g]
   .have g:fY (λk=>mK S i k&&(pR md ops k&&(Fs k).contains id)) ops.size=fY (λk=>S k&&(pR md ops k&&(Fs k).contains id)) ops.size:=by
     refine jZ _ λk e=>?_
     by_cases a:k=i
     .subst a
      have:pR md ops k=false:=by simp [pR,j];simpa using w
      simp [this]
     .have:(k==i)=false:=by simpa using a
      simp [mK,this]
    rw [g]
    by_cases b:id∈Fs i
    .rw [if_pos b,E.still (bS w),<- B id b]
     rfl
    .rw [if_neg b]
theorem BC (hr:Run P md ops sp n0 es Hs vs Fs Ns 0 ops.toList){id:Nat}:∀ (j k:Nat),k<=j->j<=ops.size->(Hs k).al id->(Hs j).al id
 | 0,k,hk,_,h=>by rw [(aD:(0:Nat)=k)];exact h
 | j+1,k,hk,hj,h=>by
  by_cases he:k=j+1
  .rw [<- he];exact h
  .have ih:=BC hr j k aD aD h
   obtain ⟨_,hT⟩:=hr.step j ops[j] (by rw [lP,bG aD])
   simp only [d8] at hT
   rw [hT.self]
   exact .inl ih
theorem Rb (a:Run P md ops sp n0 es Hs vs Fs Ns 0 ops.toList)(s:i<ops.size)(j:S i=false):∀ id∈Ns i,¬ (HS md ops n0 (Hs 0) Hs Fs Ns S ops.size).al id:=by
 intro id g
 obtain ⟨_,m⟩:=a.step i ops[i] (by rw [lP,bG s])
 simp only [d8] at m
 obtain ⟨n,l⟩:=m.new id g
 rintro (h|⟨k,r,c,p,h⟩)
 .exact n (BC a i 0 aD aD h)
 .obtain ⟨_,b⟩:=a.step k ops[k] (by rw [lP,bG r])
  simp only [d8] at b
  obtain ⟨o,d⟩:=b.new id p
  have f:k≠i:=λe=>by subst e;rw [j] at c;cases c
  rcases Nat.lt_or_gt_of_ne f with q|t
  .exact n (BC a i (k+1) aD aD h)
  .rcases l with l|⟨l,u⟩
   .rcases d with d|⟨d,_⟩<;>omega
   .exact o (BC a k (i+1) aD aD u)
end
end Go.Abs
end
section
namespace Go.Abs
def Came (n:Nat)(M0:Nat->Prop)(H0:AHeap)(σ0:Nat->Option Ow)(w0:World)(K:(Nat->D)->AHeap->Prop)(a:Act)(w:World):Prop :=
 ∃ e H σ,K e H/\St n M0 H σ w e a/\Stp σ0 w0 σ w/\Keeps (cX M0 H0 σ0) σ0 H0.al w0 (cX M0 H σ) σ H.al w
theorem Came.mono {n:Nat}{M0:Nat->Prop}{H0:AHeap}{σ0:Nat->Option Ow}{w0:World}{K K':(Nat->D)->AHeap->Prop}{a:Act}{w:World}(h:Came n M0 H0 σ0 w0 K a w)
 (hk:∀ e H,K e H->K' e H):Came n M0 H0 σ0 w0 K' a w:=let ⟨e,H,σ,a,b⟩:=h;⟨e,H,σ,hk _ _ a,b⟩
theorem Came.trans {n:Nat}{M0:Nat->Prop}{H0 H1:AHeap}{σ0 σ1:Nat->Option Ow}{w0 w1:World}{K:(Nat->D)->AHeap->Prop}{a:Act}{w:World}
  (hs:Stp σ0 w0 σ1 w1) (hk:Keeps (cX M0 H0 σ0) σ0 H0.al w0 (cX M0 H1 σ1) σ1 H1.al w1) (h:Came n M0 H1 σ1 w1 K a w):Came n M0 H0 σ0 w0 K a w :=
 let ⟨e,H,σ,a,b,c,d⟩:=h;⟨e,H,σ,a,b,hs.trans c,hk.trans d⟩
section
variable {P:Program} {md:Nat→Bool} {n:Nat} {M0:Nat→Prop}
theorem Rel.bump {H:AHeap}{σ:Nat->Option Ow}{w:World}(h:Rel M0 H σ w){m:Nat}(hm:H.next<=m):Rel M0 { H with next:=m } σ w :=
 ⟨h.top,λid hid=>cW (h.nxt id hid) hm,λid k hk=>h.lies id k hk,h.inj,h.lt,h.m0⟩
theorem StepC.mono {ops:Array Oper}{Q:Exit->Act->World->Prop}{o:Oper}{K K':Act->World->Prop}{a:Act}{w:World}(h:∀ a w,K a w->K' a w)(b:StepC P ops Q o K a w):StepC P ops Q o K' a w:=by
 unfold StepC at *
 split
 .rename_i c;rw [if_pos c] at b;exact b.imp (Oper.wp_mono h) id
 grind
def lM (P:Program)(md:Nat->Bool)(ops:Array Oper):List Oper->(Nat->D)->AHeap->((Nat->D)->AHeap->Prop)->Prop
 | [],e,H,K=>K e H
 | o :: rest,e,H,K=>oJ P md none H.next ops e o H λv H' _=>lM P md ops rest (nZ e o.dst v) H' K
theorem Hu {ops:Array Oper}{Q:Exit->Act->World->Prop}:∀ (l:List Oper) (e:Nat->D) (H:AHeap) (K:(Nat->D)->AHeap->Prop),lM P md ops l e H K->(∀ o∈l,p8 n o.dst=true) ->
  ∀ (σ:Nat->Option Ow) (w:World) (a:Act),St n M0 H σ w e a->(∀ a' w',Came n M0 H σ w K a' w'->Q .normal a' w')->wpList P ops Q l a w
 | [],e,H,K,h,hd,σ,w,a,hS,hQ=>wpList_nil (hQ a w ⟨e,H,σ,h,hS,.refl _ _,.refl _ _ _ _⟩)
 | o :: l,e,H,K,h,hd,σ,w,a,hS,hQ=>by
  unfold lM at h
  have hs:=zE (Q:=Q) h hS (λhn=>nQ _ (hS.rel.nxt _ hn)) (hd o aF)
  have:=StepC.mono (K':=wpList P ops Q l) (λa' w' ⟨v,H',F,σ',hk,hS',hst,hkp⟩ =>
   Hu l _ _ _ hk (λo' ho'=>hd o' (by simp [ho'])) σ' w' a' hS' λa'' w'' hc=>hQ a'' w'' (hc.trans hst hkp)) hs
  unfold StepC at this
  unfold wpList
  exact this
theorem UT {ops:Array Oper}{a:Nat->D}{vs:Nat->D}{S T:Nat->Bool}{m:Nat}(h:∀ k,k<m->S k=T k):eS ops a vs S m=eS ops a vs T m:=by
 funext t
 unfold eS
 rw [jZ (p:=λk=>S k&&(mL ops k==some t)) (q:=λk=>T k&&(mL ops k==some t)) m λk hk=>by rw [h k hk]]
theorem QG {ops:Array Oper}{c:Nat}{f:AHeap}{e:Nat->AHeap}{a d:Nat->List Nat}{S T:Nat->Bool}{m:Nat}(h:∀ k,k<m->S k=T k):HS md ops c f e a d S m=HS md ops c f e a d T m:=by
 unfold HS
 congr 1
 .funext b
  grind
 .funext b
  rw [jZ (p:=λk=>S k&&(pR md ops k&&(a k).contains b)) (q:=λk=>T k&&(pR md ops k&&(a k).contains b)) m λk hk=>by rw [h k hk]]
def xO (S:Nat->Bool):Nat->Nat
 | 0=>0
 | m+1=>(if S m then 0 else 1)+xO S m
theorem Nv {S:Nat->Bool}:∀ {m:Nat},xO S m=0->∀ k,k<m->S k=true
 | 0,_,k,hk=>by omega
 | m+1,h,k,hk=>by
  simp only [xO] at h
  by_cases hk':k=m
  .subst hk';cases hS:S k<;>simp [hS] at h ⊢
  .exact Nv (m:=m) aD k aD
theorem G8 {S T:Nat->Bool}:∀ {m:Nat},(∀ k,k<m->S k=T k)->xO S m=xO T m
 | 0,_=>rfl
 | m+1,h=>by simp only [xO,h m aD,G8 (m:=m) λk hk=>h k aD]
theorem Qz {S:Nat->Bool}{i:Nat}(a:S i=false):∀ {m:Nat},i<m->xO (mK S i) m+1=xO S m
 | 0,h=>by omega
 | m+1,h=>by
  simp only [xO]
  by_cases hi:i=m
  .subst hi
   have h1:mK S i i=true:=by simp [mK]
   have b:xO (mK S i) i=xO S i:=G8 λk hk=>by
    have:(k==i)=false:=by simp;omega
    simp [mK,this]
   grind
  .have h1:mK S i m=S m:=by
    have:(m==i)=false:=by simp;omega
    simp [mK,this]
   have:=Qz a (m:=m) aD
   rw [h1];omega
theorem Pp {ops:Array Oper}{sp:List (Nat × Nat)}{id:Nat}{e:Nat->D}{H:AHeap}{σ:Nat->Option Ow}{w:World}{a:Act}{K:(Nat->D)->AHeap->Prop}{Q:Exit->Act->World->Prop}
  (hm:P.follows .mixedOrders=true) (hs:vO md ops sp=true) (hd:∀ o∈ops.toList,p8 n o.dst=true)
  (h:kL P md ops sp H.next 0 ops.toList [] e { H with next:=H.next+ops.size } K) (hS:St n M0 H σ w e a) (hQ:∀ a' w',Came n M0 H σ w K a' w'->Q .normal a' w') :
  (Code.region id ops true).wp P Q a w:=by
 refine wp_region_any hm ?_
 obtain ⟨c0,a3,a4⟩:=hS.rel.drew
 have b9:=c0.bump (m:=H.next+ops.size) aD
 have b8:St n M0 { H with next:=H.next+ops.size } σ w.drew e a:=⟨b9,λt=>(hS.env t).keep a4,hS.defers,hS.size⟩
 obtain ⟨es,u,vs,V,Ns,he,U,hK,d,_⟩:=JK (nn:=H.next+ops.size) ops.toList 0 [] e _ K h (λi hi=>hS.rel.nxt i hi) rfl aF
 simp only [d8,fS] at hK
 have hn:(u 0).next=H.next+ops.size:=by rw [U]
 have b2:∀ (g:Nat) (c:Array Bool) (a':Act) (w':World),c.size=ops.size->xO (λk=>c.getD k false) ops.size<=g->K9 ops (λk=>c.getD k false) ->
   (∃ σ',St n M0 (HS md ops H.next (u 0) u V Ns (λk=>c.getD k false) ops.size) σ' w' (eS ops (es 0) vs (λk=>c.getD k false) ops.size) a'/\Stp σ w σ' w' /\
    Keeps (cX M0 H σ) σ H.al w (cX M0 (HS md ops H.next (u 0) u V Ns (λk=>c.getD k false) ops.size) σ') σ' (HS md ops H.next (u 0) u V Ns (λk=>c.getD k false) ops.size).al w') ->
   wpAny P .any ops Q g c a' w':=by
  intro g
  induction g with
  | zero =>
   intro c a' w' hl hc hD ⟨σ',M,q,I⟩
   have l:=Nv (S:=λk=>c.getD k false) (m:=ops.size) aD
   refine ⟨?_,?_⟩
   .unfold Region.ready
    simp_all
   .refine hQ a' w' ⟨es ops.size,u ops.size,σ',hK,?_,q,?_⟩
    .obtain ⟨r1,r2⟩:=vR d hn ops.size (bC _)
     rw [r1,r2,UT (T:=λk=>c.getD k false) λk s=>(l k s).symm,QG (T:=λk=>c.getD k false) λk s=>(l k s).symm]
     exact M
    .obtain ⟨r1,r2⟩:=vR d hn ops.size (bC _)
     rw [r2,QG (T:=λk=>c.getD k false) λk s=>(l k s).symm]
     exact I
  | succ g ih =>
   intro c a' w' hl hc hD ⟨σ',M,q,I⟩
   have C:∀ i,i∈Region.ready .any ops c->i<ops.size/\c.getD i false=false/\∀ o,ops[i]?=some o->∀ B∈o.after.toList,Region.binds .any B=true->c.getD B.on false=true:=by
    intro i hi
    unfold Region.ready at hi
    simp only [dL,aR,aN,cG] at hi
    obtain ⟨h1,h2,h3⟩:=hi
    refine ⟨h1,?_,λo E B y hb=>?_⟩
    .simp only [iU] at h2 ⊢
     rw [bG aD] at h2 ⊢
     simpa using h2
    .rw [E] at h3
     simp only [c6,Option.getD_some,Array.all_eq_true_iff_forall_mem] at h3
     have:=h3 B (bS y)
     rw [hb] at this
     simpa using this
   refine ⟨λhnil=>?_,λi hi=>?_⟩
   .-- nothing is ready: all is done
    have l:∀ k,k<ops.size->c.getD k false=true:=by
     intro k
     induction k using Nat.strongRecOn with
     | _ k ihk =>
      intro s
      cases Z:c.getD k false with
      | true=>rfl
      | false =>
       exfalso
       have R:k∈Region.ready .any ops c:=by
        unfold Region.ready
        simp only [dL,aR,aN,cG]
        refine ⟨s,?_,?_⟩
        .simp only [iU] at Z ⊢
         rw [bG aD] at Z ⊢
         simpa using Z
        .have E:ops[k]?=some ops[k]:=bG s
         rw [E]
         simp only [c6,Option.getD_some,Array.all_eq_true_iff_forall_mem]
         intro B y
         cases hb:Region.binds .any B with
         | false=>simp
         | true =>
          have b3:=QS hs E B (bS y) hb
          simp [ihk B.on b3 aD]
       rw [hnil] at R;cases R
    have:=(ih c a' w' hl (by
     have:xO (λk=>c.getD k false) ops.size=xO (λ_=>true) ops.size:=G8 l
     have h0:∀ m,xO (λ_=>true) m=0:=λm=>by induction m with
      | zero=>rfl
      | succ m ih=>simp [xO,ih]
     rw [this,h0];omega) hD ⟨σ',M,q,I⟩)
    cases g with
    | zero=>exact this.2
    | succ f=>exact this.1 hnil
   .obtain ⟨x,A,b5⟩:=C i hi
    have E:ops[i]?=some ops[i]:=bG x
    have a2:K9 ops (mK (λk=>c.getD k false) i):=by
     intro j o hj z B y hb
     simp only [mK,cO,beq_iff_eq] at z
     simp only [mK,cO]
     rcases z with rfl|z
     .exact .inr (b5 o hj B y hb)
     .exact .inr (hD j o hj z B y hb)
    have r:(λk=>(c.setIfInBounds i true).getD k false)=mK (λk=>c.getD k false) i:=by
     funext k
     simp only [mK,iU,Array.getElem?_setIfInBounds]
     by_cases a0:k=i
     .subst a0;simp [hl,x]
     .have:¬ i=k:=λh=>a0 h.symm
      have h2:(k==i)=false:=by simpa using a0
      simp [this,h2]
    obtain ⟨a6,b6⟩:=IH d hn hs hD a2 x A
    obtain ⟨b7,a7⟩:=Sb d hn hs hD a2 x A
    obtain ⟨_,hT⟩:=d.step i ops[i] (by rw [lP,E])
    simp only [d8] at hT
    have Y:=Rb d (S:=λk=>c.getD k false) x A
    have b1:∀ id∈Ns i,id<H.next+ops.size:=λid J=>by rcases (hT.new id J).2 with h|⟨h,_⟩<;>omega
    have O:¬ (HS md ops H.next (u 0) u V Ns (λk=>c.getD k false) ops.size).al (H.next+i):=by
     simp only [HS]
     rintro (h|⟨k,s,a9,b4,_⟩)
     .rw [U] at h
      have:=hS.rel.nxt _ h;omega
     .obtain ⟨_,a8⟩:=d.step k ops[k] (by rw [lP,bG s])
      simp only [d8] at a8
      have:k=i:=by rcases (a8.new _ b4).2 with h|⟨h,_⟩<;>omega
      subst this
      rw [A] at a9;cases a9
    have W:=hT.any _ _ a6 b6 (by simp only [HS];omega) O (λid J=>⟨by simp only [HS];exact b1 id J,Y id J⟩)
    have hc:=zE (Q:=Q) W M O (hd ops[i] aF) (λm hm=>by cases hm;simp only [HS];omega)
    have a1:StepC P ops Q ops[i] (wpAny P .any ops Q g (c.setIfInBounds i true)) a' w':=by
     refine StepC.mono (λa'' w'' ⟨v,H',F,σ'',⟨hv,c1⟩,b0,X,a5⟩=>?_) hc
     subst hv;subst c1
     refine ih _ a'' w'' (bS hl) ?_ (by rw [r];exact a2) ⟨σ'',?_,q.trans X,?_⟩
     .rw [r]
      have:=Qz (S:=λk=>c.getD k false) A x
      omega
     .rw [r,<- b7,<- a7];exact b0
     .rw [r,<- a7];exact I.trans a5
    unfold wpOp
    rw [E]
    exact a1
 refine b2 ops.size _ a _ aF ?_ ?_ ⟨σ,?_,a3,?_⟩
 .have:∀ S:Nat->Bool,∀ m,xO S m<=m:=λS m=>by
   induction m with
   | zero=>simp [xO]
   | succ m ih=>simp only [xO];split<;>omega
  exact this _ _
 .intro j o E z
  exfalso
  have hj:j<ops.size:=(qK.1 E).1
  simp [hj] at z
 .have L:(λk=>(Array.replicate ops.size false).getD k false)=λ_=>false:=by
   funext k
   by_cases s:k<ops.size<;>simp [s]
  have G:∀ (p:Nat->Bool) m,fY (λk=>false&&p k) m=none:=λp m=>by
   induction m with
   | zero=>rfl
   | succ m ih=>simp only [fY,Bool.false_and,eD,if_false];exact ih
  have e1:eS ops (es 0) vs (λk=>(Array.replicate ops.size false).getD k false) ops.size=e:=by
   rw [L];funext t;simp only [eS,G (λk=>mL ops k==some t)];rw [he]
  have e2:HS md ops H.next (u 0) u V Ns (λk=>(Array.replicate ops.size false).getD k false) ops.size={ H with next:=H.next+ops.size }:=by
   rw [L]
   simp only [HS,AHeap.mk.injEq,true_and]
   refine ⟨funext λid=>propext ⟨λh=>h.elim (λh=>by rw [U] at h;exact h) λ⟨_,_,h,_⟩=>(by cases h),λh=>.inl (by rw [U];exact h)⟩,funext λid=>?_⟩
   rw [G (λk=>pR md ops k&&(V k).contains id),U]
  rw [e1,e2];exact b8
 .have L:(λk=>(Array.replicate ops.size false).getD k false)=λ_=>false:=by
   funext k
   by_cases s:k<ops.size<;>simp [s]
  have G:∀ (p:Nat->Bool) m,fY (λk=>false&&p k) m=none:=λp m=>by
   induction m with
   | zero=>rfl
   | succ m ih=>simp only [fY,Bool.false_and,eD,if_false];exact ih
  have e2:HS md ops H.next (u 0) u V Ns (λk=>(Array.replicate ops.size false).getD k false) ops.size={ H with next:=H.next+ops.size }:=by
   rw [L]
   simp only [HS,AHeap.mk.injEq,true_and]
   refine ⟨funext λid=>propext ⟨λh=>h.elim (λh=>by rw [U] at h;exact h) λ⟨_,_,h,_⟩=>(by cases h),λh=>.inl (by rw [U];exact h)⟩,funext λid=>?_⟩
   rw [G (λk=>pR md ops k&&(V k).contains id),U]
  rw [e2];exact a4
end
end Go.Abs
end
