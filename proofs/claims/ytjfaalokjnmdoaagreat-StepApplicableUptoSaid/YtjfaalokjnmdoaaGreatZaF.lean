/- The abstraction layer, part W: the rows that walk a region w -/
import Derived.Test.YtjfaalokjnmdoaaGreatZaE
import Derived.Test.YtjfaalokjnmdoaaGreatZaA
import Derived.Sort.OwnSortedInts
set_option linter.unusedVariables false
set_option linter.unusedSimpArgs false
section
namespace Go.Abs
def nK (P:Program)(md:Nat→Bool)(ops:Array Oper)(sp:List (Nat × Nat))(n0 i:Nat)(rest:List Oper)(acc:List (Nat × List Nat))(e:cZ)(dst:Option Tmp)(K:cZ→AHeap→Prop)(f:FuncId)(args:List D)(H:AHeap):Prop :=
 (∃ r S,(∀ H',eT S H' H→ACalls P f args H' fun v H1=>v=r∧H1=H')∧En sp i S acc∧iO P md ops sp n0 (i+1) rest ((i,S) :: acc) (mC e dst r) H K) ∨
 (AS md dst=true∧∃ r S u q,(∀ p∈u,p.1∈S)∧(∀ p∈q,p.1<n0∧¬ H.al p.1)∧(∀ H',eT S H' H→(∀ p∈q,p.1<H'.next∧¬ H'.al p.1)→ACalls P f args H' fun v H1=>v=r∧H1=(H'.puts u).pushs q) ∧
  En sp i (S++q.map (·.1)) acc∧iO P md ops sp n0 (i+1) rest ((i,S++q.map (·.1)) :: acc) (mC e dst r) ((H.puts u).pushs q) K)
def rF (P:Program)(md:Nat→Bool)(ops:Array Oper)(sp:List (Nat × Nat))(n0 i:Nat)(rest:List Oper)(acc:List (Nat × List Nat))(e:cZ)(dst:Option Tmp)(K:cZ→AHeap→Prop)(t:Bool)(f:FuncId)(args:List D)(H:AHeap):Prop :=
 ∃ r S,(t=true→∀ H',eT S H' H→ACalls P f args H' fun v H1=>v=r∧H1=H')∧En sp i S acc∧iO P md ops sp n0 (i+1) rest ((i,S) :: acc) (mC e dst (.opt t r)) H K
def F3 (nid:Nat)(e:cZ)(o:Oper):List Nat:=foot nid (match o.guard with|none=>e|some _=>gE e o.op) o.op
def pZ (P:Program)(md:Nat→Bool)(ops:Array Oper)(sp:List (Nat × Nat))(n0 i:Nat)(rest:List Oper)(acc:List (Nat × List Nat))(e:cZ)(dst:Option Tmp)(H:AHeap)(K:cZ→AHeap→Prop)(F:List Nat):SOut→Prop
 | .op o=>o.cond∧En sp i F acc∧iO P md ops sp n0 (i+1) rest ((i,F) :: acc) (mC e dst o.val) o.heap K
 | .call f args=>nK P md ops sp n0 i rest acc e dst K f args H
 | .gop t g o=>(t=true→g=true)∧(t=true→o.cond∧o.heap=H)∧En sp i F acc∧iO P md ops sp n0 (i+1) rest ((i,F) :: acc) (mC e dst (.opt t o.val)) H K
 | .gcall t g f args=>(t=true→g=true)∧rF P md ops sp n0 i rest acc e dst K t f args H
 | .bad=>False
theorem Lp (P : Program) (md : Nat → Bool) (ops : Array Oper) (sp : List (Nat × Nat)) (n0 i : Nat) (o : Oper) (rest : List Oper) (acc : List (Nat × List Nat)) (e : cZ) (H : AHeap) (K : cZ → AHeap → Prop) :
    iO P md ops sp n0 i (o :: rest) acc e H K = pZ P md ops sp n0 i rest acc e o.dst H K (F3 (n0 + i) e o) (kZ P md (n0 + i) ops e o H) := by
  obtain ⟨dst, op, type, pos, after, guard⟩ := o
  cases guard with
  | none =>
    simp only [iO, mT, kZ, F3]
    cases hc : fL e { dst := dst, op := op, type := type, pos := pos, after := after, guard := none } with
    | none => simp [GH, pZ]
    | some p => simp [GH, pZ, nK]
  | some p =>
    obtain ⟨j, b⟩ := p
    simp only [iO, mT, kZ, F3]
    cases hg : gD ops e j with
    | none => simp [EB, pZ]
    | some gc =>
      obtain ⟨t, c'⟩ := gc
      simp only
      cases hc : fL (gE e op) { dst := dst, op := op, type := type, pos := pos, after := after, guard := some (j, b) } with
      | none => simp [EB, pZ]
      | some p => simp [EB, pZ, rF]
@[go_sem] theorem Q1 (P:Program)(md:Nat→Bool)(ops:Array Oper)(sp:List (Nat × Nat))(n0 i:Nat)(acc:List (Nat × List Nat))(e:cZ)(H:AHeap)(K:cZ→AHeap→Prop):iO P md ops sp n0 i [] acc e H K=K e H:=rfl
section
variable (P:Program) (md:Nat→Bool) (ops:Array Oper) (sp:List (Nat × Nat)) (n0 i:Nat) (rest:List Oper) (acc:List (Nat × List Nat)) (e:cZ) (dst:Option Tmp) (H H':AHeap) (K:cZ→AHeap→Prop) (F:List Nat) (c f:Prop) (v:D) (t g:Bool) (fn:FuncId) (args:List D)
@[go_sem] theorem RI:pZ P md ops sp n0 i rest acc e dst H K F (.op ⟨c,f,v,H'⟩)=(c∧En sp i F acc∧iO P md ops sp n0 (i+1) rest ((i,F) :: acc) (mC e dst v) H' K):=rfl
@[go_sem] theorem PS:pZ P md ops sp n0 i rest acc e dst H K F (.call fn args)=nK P md ops sp n0 i rest acc e dst K fn args H:=rfl
@[go_sem] theorem QQ:pZ P md ops sp n0 i rest acc e dst H K F (.gop t g ⟨c,f,v,H'⟩) =
  ((t=true→g=true)∧(t=true→c∧H'=H)∧En sp i F acc∧iO P md ops sp n0 (i+1) rest ((i,F) :: acc) (mC e dst (.opt t v)) H K):=rfl
@[go_sem] theorem Pk:pZ P md ops sp n0 i rest acc e dst H K F (.gcall t g fn args)=((t=true→g=true)∧rF P md ops sp n0 i rest acc e dst K t fn args H):=rfl
@[go_sem] theorem PZ (d:Option Tmp)(op:Op)(ty:TypeId)(p:String)(af:Array Edge)(gu:Option (Nat × Bool)) :
  iO P md ops sp n0 i (⟨d,op,ty,p,af,gu⟩ :: rest) acc e H K=pZ P md ops sp n0 i rest acc e d H K (F3 (n0+i) e ⟨d,op,ty,p,af,gu⟩) (kZ P md (n0+i) ops e ⟨d,op,ty,p,af,gu⟩ H):=Lp P md ops sp n0 i _ rest acc e H K
@[go_sem] theorem Ur:En [] i F acc=True:=rfl
end
@[go_sem] theorem Te (p:Nat × Nat)(sp:List (Nat × Nat))(i:Nat)(F:List Nat)(acc:List (Nat × List Nat)):En (p :: sp) i F acc = ∀ q∈acc,(q.1,i)∈(p :: sp)→∀ x∈q.2,x∉F:=rfl
@[go_sem] theorem QK (nid:Nat)(e:cZ)(d:Option Tmp)(op:Op)(ty:TypeId)(p:String)(af:Array Edge):F3 nid e ⟨d,op,ty,p,af,none⟩=foot nid e op:=rfl
@[go_sem] theorem QJ (nid:Nat)(e:cZ)(d:Option Tmp)(op:Op)(ty:TypeId)(p:String)(af:Array Edge)(g:Nat × Bool):F3 nid e ⟨d,op,ty,p,af,some g⟩=foot nid (gE e op) op:=rfl
attribute [go_sem] foot Dy oD Op.operands Call.operands
@[go_sem] theorem QB (k:IntKind)(n:Int):c9 (.int k n)=[]:=rfl
@[go_sem] theorem PQ (b:Bool):c9 (.bool b)=[]:=rfl
@[go_sem] theorem Qw (b:ByteArray):c9 (.str b)=[]:=rfl
@[go_sem] theorem QA:c9 .nil=[]:=rfl
@[go_sem] theorem PO (es:List (List D)):c9 (.list es)=[]:=rfl
@[go_sem] theorem QD (es:List D):c9 (.adr es)=[]:=rfl
@[go_sem] theorem PM:c9 .nilp=[]:=rfl
@[go_sem] theorem PN:c9 .nilf=[]:=rfl
@[go_sem] theorem Rx (f:FuncId)(l:List D):c9 (.fn f l)=[]:=rfl
@[go_sem] theorem Qy (id n:Nat):c9 (.own id n)=[id]:=rfl
@[go_sem] theorem Qu (id n lo hi:Nat):c9 (.win id n lo hi)=[id]:=rfl
@[go_sem] theorem Qx (id v i o:Nat):c9 (.ptr id v i o)=[id]:=rfl
@[go_sem] theorem QC (l:List D):c9 (.agg l)=l.flatMap jB:=rfl
@[go_sem] theorem Qz (t:Bool)(d:D):c9 (.opt t d)=[]:=rfl
@[go_sem] theorem PP:c9 .junk=[]:=rfl
@[go_sem] theorem Qv (l:List D):c9 (.tup l)=[]:=rfl
/-! ### guards -/
def gV:D→Option (Bool × Bool)
 | .bool c=>some (true,c)
 | .opt g (.bool c)=>some (g,c)
 | _=>none
def gT (e:cZ):Option Tmp→Option (Bool × Bool)
 | some t=>gV (e t)
 | none=>none
@[go_sem] theorem Um (e:cZ)(t:Nat):gT e (some t)=gV (e t):=rfl
@[go_sem] theorem Ul (c:Bool):gV (.bool c)=some (true,c):=rfl
@[go_sem] theorem VG (g c:Bool):gV (.opt g (.bool c))=some (g,c):=rfl
section
variable (P:Program) (md:Nat→Bool) (nid:Nat) (ops:Array Oper) (e:cZ) (d:Option Tmp) (op:Op) (ty:TypeId) (p:String) (af:Array Edge) (H:AHeap) (j:Nat) (b:Bool)
@[go_sem] theorem P8:kZ P md nid ops e ⟨d,op,ty,p,af,some (j,b)⟩ H =
  EB (gD ops e j) b (Nn e (gO op)) (fL (gE e op) ⟨d,op,ty,p,af,none⟩) (Co P nid md (gE e op) ⟨d,op,ty,p,af,none⟩ H):=rfl
@[go_sem] theorem VH (l:List Oper):gD l.toArray e j=gT e ((l[j]?).bind (·.dst)):=by
 unfold gD gT
 rw [List.getElem?_toArray]
 cases (l[j]?).bind (·.dst) with
 | none=>rfl
 | some t=>simp only [gV];rfl
end
@[go_sem] theorem Q9 (t c b g:Bool)(f:FuncId)(args:List D)(o:AOut):EB (some (t,c)) b g (some (f,args)) o=.gcall (t&&(c==b)) g f args:=rfl
@[go_sem] theorem TB (t c b g:Bool)(o:AOut):EB (some (t,c)) b g none o=.gop (t&&(c==b)) g o:=rfl
attribute [go_sem] gE gO Operand.tmp.injEq Nn og fL Co Option.bind_some jI Eo fI Bool.and_true beq_false beq_true beq_self_eq_true
 c5 Bool.and_self Es Bool.not_false
@[go_sem] theorem Q6 (e:cZ)(d:Option Tmp)(v:D)(t:Nat):Bj (mC e d v) t=match mC e d v t with | .opt _ d=>d|d=>d:=rfl
@[go_sem] theorem P7 (l:List D)(t:Nat):Bj (w4 l) t=match w4 l t with | .opt _ d=>d|d=>d:=rfl
section
variable {P:Program} {md:Nat→Bool} {ops:Array Oper} {sp:List (Nat × Nat)} {n0 i:Nat} {rest:List Oper} {acc:List (Nat × List Nat)} {e:cZ} {dst:Option Tmp} {K:cZ→AHeap→Prop} {f:FuncId} {args args':List D} {H:AHeap} {r:D}
theorem Gh:En sp i [] acc:=by
 unfold En
 cases sp with
 | nil=>trivial
 | cons=>intro p hp _ x _;simp
theorem aI (hp:Pure P f args r)(hcl:D.clL args=true)(h:iO P md ops sp n0 (i+1) rest ((i,[]) :: acc) (mC e dst r) H K):nK P md ops sp n0 i rest acc e dst K f args H :=
 .inl ⟨r,[],fun H' _=>pA hp hcl ⟨rfl,rfl⟩,Gh,h⟩
theorem eK {t:Bool}(hp:t=true→Pure P f args r)(hcl:t=true→D.clL args=true)(h:iO P md ops sp n0 (i+1) rest ((i,[]) :: acc) (mC e dst (.opt t r)) H K):rF P md ops sp n0 i rest acc e dst K t f args H :=
 ⟨r,[],fun ht H' _=>pA (hp ht) (hcl ht) ⟨rfl,rfl⟩,Gh,h⟩
theorem aK {t:Bool}(hp:t=true→Pure P f args r)(hcl:t=true→D.clL args=true)(h:lD P md ops rest (mC e dst (.opt t r)) H K):vR P md ops rest e dst K t f args H:=by
 unfold vR
 exact .inl ⟨r,[],fun ht H' _=>pA (hp ht) (hcl ht) ⟨rfl,rfl⟩,h⟩
theorem tE {S:List Nat}{H':AHeap}(ha:eT S H' H){d:D}(hd:∀ x∈jB d,x∈S):eB H' d=eB H d:=by
 cases d<;>try rfl
 ·rename_i id n
  have:=ha id (hd id (by simp [jB]))
  simp only [eB,this]
 ·rename_i id n lo hi
  have:=ha id (hd id (by simp [jB]))
  simp only [eB,this]
theorem C3 {S:List Nat}{H':AHeap}(ha:eT S H' H){d:D}(hd:∀ x∈c7 d,x∈S):gQ H' d=gQ H d:=by
 cases d<;>try rfl
 case own id n=>exact tE (d:=.own id n) ha hd
 case win id n lo hi=>exact tE (d:=.win id n lo hi) ha hd
 case agg l =>
  simp only [gQ]
  congr 1
  exact bS fun x hx=>tE ha fun y hy=>hd y (by simp only [c7,bR];exact ⟨x,hx,hy⟩)
theorem yQ {S:List Nat}{H':AHeap}(ha:eT S H' H){l:List D}(hd:∀ x∈l.flatMap c7,x∈S):l.map (gQ H')=l.map (gQ H) :=
 bS fun d hm=>C3 ha fun x hx=>hd x (bR.2 ⟨d,hm,hx⟩)
theorem EX {t:Bool}(hp:t=true→Pure P f args' r)(ha:args.map (gQ H)=args')(hcl:t=true→D.clL args'=true)(hf:t=true→r.flat=true){S:List Nat}(hS:args.flatMap c7=S)(hc:En sp i S acc)
  (h:iO P md ops sp n0 (i+1) rest ((i,S) :: acc) (mC e dst (.opt t r)) H K):rF P md ops sp n0 i rest acc e dst K t f args H:=by
 subst ha hS
 refine ⟨r,_,fun ht H' hag=>?_,hc,h⟩
 have he:=yQ hag fun x hx=>hx
 exact tY (by rw [he];exact hp ht) (by rw [he];exact hcl ht) (hf ht) ⟨rfl,rfl⟩
theorem Hj {t:Bool}(hp:t=true→Pure P f args' r)(ha:args.map (gQ H)=args')(hcl:t=true→D.clL args'=true)(hf:t=true→r.flat=true)
  (h:lD P md ops rest (mC e dst (.opt t r)) H K):vR P md ops rest e dst K t f args H:=by
 subst ha
 unfold vR
 refine .inl ⟨r,args.flatMap c7,fun ht H' hag=>?_,h⟩
 have he:=yQ hag fun x hx=>hx
 exact tY (by rw [he];exact hp ht) (by rw [he];exact hcl ht) (hf ht) ⟨rfl,rfl⟩
end
/-! ### calls of function values -/
def L4:D→List D→Option (FuncId × List D)
 | .fn g caps,az=>some (g,az++caps)
 | _,_=>none
@[go_sem] theorem Tf (g:FuncId)(caps az:List D):L4 (.fn g caps) az=some (g,az++caps):=rfl
theorem Lf (e:cZ)(d:Option Tmp)(f:Operand)(args:Array Operand)(ts:Array TypeId)(ty:TypeId)(p:String)(af:Array Edge)(g:Option (Nat × Bool)) :
  fL e ⟨d,.call ⟨.value f,args,ts⟩,ty,p,af,g⟩=L4 (dU e f) (args.toList.map (dU e)):=by
 simp only [fL,L4]
 cases dU e f<;>rfl
@[go_sem] theorem TF (P:Program)(md:Nat→Bool)(nid:Nat)(ops:Array Oper)(e:cZ)(d:Option Tmp)(ty:TypeId)(p:String)(af:Array Edge)(H:AHeap)(t:Nat)(args:Array Operand)(ts:Array TypeId) :
  kZ P md nid ops e ⟨d,.call ⟨.value (.tmp t),args,ts⟩,ty,p,af,none⟩ H=GH (L4 (e t) (args.toList.map (dU e))) (.bad H):=by
 simp only [kZ,Lf]
 rfl
attribute [go_sem] decide_eq_true_eq fP fV
attribute [irreducible] nK rF
end Go.Abs
end
section
namespace Go.Abs
attribute [go_sem] D.cell D.cl D.clL D.clLL D.flat D.flat1 pO oN qH List.take_zero List.drop_succ_cons List.drop_zero l5 List.replicate_zero dK List.flatten_nil
def dI (n:Int):D:=.int .i64 n
def cI (n:Int):List D:=[.int .i64 n]
def cS (s:ByteArray):List D:=[.str s]
def dLI (xs:List Int):D:=.list (xs.map cI)
def qL (xs:List ByteArray):D:=.list (xs.map cS)
structure Attr where
 name:ByteArray
 low:Int
 high:Int
 names:List ByteArray
def Attr.c (a:Attr):List D:=[.str a.name,dI a.low,dI a.high,qL a.names]
structure NodeTy where
 name:ByteArray
 parent:Int
 abs:Bool
 attrs:List Attr
def NodeTy.c (n:NodeTy):List D:=[.str n.name,dI n.parent,.bool n.abs,.list (n.attrs.map Attr.c)]
structure EdgeTy where
 name:ByteArray
 from_:Int
 to_:Int
 outLow:Int
 outHigh:Int
 inLow:Int
 inHigh:Int
def EdgeTy.c (x:EdgeTy):List D:=[.str x.name,dI x.from_,dI x.to_,dI x.outLow,dI x.outHigh,dI x.inLow,dI x.inHigh]
structure Types where
 nodes:List NodeTy
 edges:List EdgeTy
def Types.c (t:Types):List D:=[.list (t.nodes.map NodeTy.c),.list (t.edges.map EdgeTy.c)]
def Types.d (t:Types):D:=.agg t.c
structure Edge where
 type:Int
 from_:Int
 to_:Int
def Edge.c (x:Edge):List D:=[dI x.type,dI x.from_,dI x.to_]
structure Graph where
 nodes:List Int
 edges:List Edge
def Graph.c (g:Graph):List D:=[dLI g.nodes,.list (g.edges.map Edge.c)]
def Graph.d (g:Graph):D:=.agg g.c
/-! ### closed -/
theorem cJ {α:Type}(f:α→List D)(h:∀ a,D.clL (f a)=true)(l:List α):D.clLL (l.map f)=true:=by
 induction l with
 | nil=>rfl
 | cons a l ih=>simp [D.clLL,h,ih]
@[go_sem] theorem mP (l:List Int):(dLI l).cl=true:=by simp only [dLI,D.cl];exact cJ _ (fun _=>rfl) l
@[go_sem] theorem Od (l:List ByteArray):(qL l).cl=true:=by simp only [qL,D.cl];exact cJ _ (fun _=>rfl) l
@[go_sem] theorem Attr.cl (a:Attr):D.clL a.c=true:=by simp [Attr.c,D.clL,D.cl,dI,Od]
@[go_sem] theorem NodeTy.cl (n:NodeTy):D.clL n.c=true:=by simp [NodeTy.c,D.clL,D.cl,dI,cJ _ Attr.cl]
@[go_sem] theorem EdgeTy.cl (x:EdgeTy):D.clL x.c=true:=by simp [EdgeTy.c,D.clL,D.cl,dI]
@[go_sem] theorem Types.cl (t:Types):t.d.cl=true:=by simp [Types.d,Types.c,D.clL,D.cl,cJ _ NodeTy.cl,cJ _ EdgeTy.cl]
@[go_sem] theorem Edge.cl (x:Edge):D.clL x.c=true:=by simp [Edge.c,D.clL,D.cl,dI]
@[go_sem] theorem Graph.cl (g:Graph):g.d.cl=true:=by simp [Graph.d,Graph.c,D.clL,D.cl,mP,cJ _ Edge.cl]
@[go_sem] theorem RU (a b:D)(l:List D):CL (a :: b :: l)=.tup (a :: b :: l):=rfl
end Go.Abs
end
section
namespace Go.Abs
structure Term where
 var:Int
 add:Int
def Term.c (x:Term):List D:=[dI x.var,dI x.add]
structure Slot where
 node:Int
 attr:Int
 term:Term
def Slot.c (x:Slot):List D:=[dI x.node,dI x.attr,dI x.term.var,dI x.term.add]
structure Test where
 kind:Int
 left:Term
 right:Term
def Test.c (x:Test):List D:=[dI x.kind,dI x.left.var,dI x.left.add,dI x.right.var,dI x.right.add]
structure Pattern where
 graph:Graph
 slots:List Slot
 vars:Int
 tests:List Test
def Pattern.c (p:Pattern):List D:=[dLI p.graph.nodes,.list (p.graph.edges.map Edge.c),.list (p.slots.map Slot.c),dI p.vars,.list (p.tests.map Test.c)]
def Pattern.d (p:Pattern):D:=.agg p.c
structure Part where
 nodes:List Int
 edges:List Int
def Part.c (p:Part):List D:=[dLI p.nodes,dLI p.edges]
def Part.d (p:Part):D:=.agg p.c
inductive Cond where
 | mk (kind:Int) (kids:List Cond) (map:Part) (pattern:Pattern)
def Cond.kind:Cond→Int | .mk k _ _ _=>k
def Cond.kids:Cond→List Cond | .mk _ l _ _=>l
def Cond.map:Cond→Part | .mk _ _ m _=>m
def Cond.pattern:Cond→Pattern | .mk _ _ _ p=>p
mutual
def Cond.c:Cond→List D
 | .mk k l m p=>[dI k,.list (Cond.cs l),dLI m.nodes,dLI m.edges,dLI p.graph.nodes,.list (p.graph.edges.map Edge.c),.list (p.slots.map Slot.c),dI p.vars,.list (p.tests.map Test.c)]
def Cond.cs:List Cond→List (List D)
 | []=>[]
 | c :: l=>c.c :: Cond.cs l
end
theorem Cond.cs_eq (l:List Cond):Cond.cs l=l.map Cond.c:=by
 induction l with
 | nil=>simp [Cond.cs]
 | cons a l ih=>simp [Cond.cs,ih]
theorem Cond.c_eq (x:Cond):x.c=[dI x.kind,.list (x.kids.map Cond.c),dLI x.map.nodes,dLI x.map.edges,dLI x.pattern.graph.nodes,.list (x.pattern.graph.edges.map Edge.c),.list (x.pattern.slots.map Slot.c),dI x.pattern.vars,.list (x.pattern.tests.map Test.c)]:=by
 cases x;simp [Cond.c,Cond.kind,Cond.kids,Cond.map,Cond.pattern,Cond.cs_eq]
structure Rule where
 name:ByteArray
 left:Pattern
 right:Pattern
 keep:Part
 into:Part
 inj:Bool
 cond:Cond
def Rule.c (r:Rule):List D:=[.str r.name,dLI r.left.graph.nodes,.list (r.left.graph.edges.map Edge.c),.list (r.left.slots.map Slot.c),dI r.left.vars,.list (r.left.tests.map Test.c),
 dLI r.right.graph.nodes,.list (r.right.graph.edges.map Edge.c),.list (r.right.slots.map Slot.c),dI r.right.vars,.list (r.right.tests.map Test.c),
 dLI r.keep.nodes,dLI r.keep.edges,dLI r.into.nodes,dLI r.into.edges,.bool r.inj,
 dI r.cond.kind,.list (r.cond.kids.map Cond.c),dLI r.cond.map.nodes,dLI r.cond.map.edges,dLI r.cond.pattern.graph.nodes,.list (r.cond.pattern.graph.edges.map Edge.c),.list (r.cond.pattern.slots.map Slot.c),dI r.cond.pattern.vars,.list (r.cond.pattern.tests.map Test.c)]
def Rule.d (r:Rule):D:=.agg r.c
structure Stage where
 weights:List Int
 removed:List Int
def Stage.c (s:Stage):List D:=[dLI s.weights,dLI s.removed]
@[go_sem] theorem Slot.cl (x:Slot):D.clL x.c=true:=rfl
@[go_sem] theorem Test.cl (x:Test):D.clL x.c=true:=rfl
@[go_sem] theorem CU (l:List Slot):D.clLL (l.map Slot.c)=true:=cJ _ Slot.cl l
@[go_sem] theorem HW (l:List Test):D.clLL (l.map Test.c)=true:=cJ _ Test.cl l
@[go_sem] theorem Stage.cl (x:Stage):D.clL x.c=true:=by simp [Stage.c,D.clL,mP]
@[go_sem] theorem Q7 (l:List Stage):D.clLL (l.map Stage.c)=true:=cJ _ Stage.cl l
theorem sQ (l:List Edge):D.clLL (l.map Edge.c)=true:=cJ _ Edge.cl l
mutual
theorem Cond.cl:∀ x:Cond,D.clL x.c=true
 | .mk k l m p=>by
  have:=Cond.cls l
  simp [Cond.c,D.clL,D.cl,dI,mP,this,sQ,CU,HW]
theorem Cond.cls:∀ l:List Cond,D.clLL (Cond.cs l)=true
 | []=>by simp [Cond.cs,D.clLL]
 | c :: l=>by simp [Cond.cs,D.clLL,Cond.cl c,Cond.cls l]
end
attribute [go_sem] Cond.cl
@[go_sem] theorem Oe (l:List Cond):D.clLL (l.map Cond.c)=true:=by rw [← Cond.cs_eq];exact Cond.cls l
@[go_sem] theorem Rule.cl (r:Rule):D.clL r.c=true:=by
 simp [Rule.c,D.clL,D.cl,dI,mP,sQ,CU,HW,Oe]
@[go_sem] theorem RZ (l:List Rule):D.clLL (l.map Rule.c)=true:=cJ _ Rule.cl l
end Go.Abs
end
section
namespace Go.Abs
def AJ (H:AHeap)(d:D):D :=
 match d with
 | .ptr id ver i off=>match eF H (.ptr id ver i off) with
  | some (c :: cs)=>.adr (c :: cs)
  | _=>.ptr id ver i off
 | d=>eB H d
def Pe:D→List Nat
 | .ptr id _ _ _=>[id]
 | d=>jB d
def C4 (H:AHeap)(d:D):D :=
 match d with
 | .fn g caps=>.fn g (caps.map (AJ H))
 | .ptr id ver i off=>AJ H (.ptr id ver i off)
 | d=>gQ H d
def N0:D→List Nat
 | .fn _ caps=>caps.flatMap Pe
 | .ptr id _ _ _=>[id]
 | d=>c7 d
section
variable {P:Program} {M0:Nat→Prop} {H:AHeap} {σ:Nat→Option Ow} {w:World}
theorem Aj {H H':AHeap}(h:∀ i,(H'.get i).map (·.es)=(H.get i).map (·.es))(d:D):eF H' d=eF H d:=by
 cases d<;>try rfl
 rename_i id ver i off
 have:=h id
 simp only [eF]
 cases h1:H.get id<;>cases h2:H'.get id<;>rw [h1,h2] at this<;>simp at this
 ·simp only [this]
theorem u5 {v : Value} {d : D} (hR : Rel M0 H σ w) (hx : RepV (cE M0 H σ) σ H.al w v d) (hf : ∀ i ∈ Pe d, ∀ k, H.get i = some k → k.fz = true) :
    RepV (cE M0 H σ) σ H.al w v (AJ H d) := by
  cases d <;> try exact kK hR hx hf
  rename_i id ver i off
  simp only [AJ]
  cases hc : eF H (.ptr id ver i off) with
  | none => exact hx
  | some cs =>
    cases cs with
    | nil => exact hx
    | cons c cs =>
      obtain ⟨ad, xs, hv, hrep, h1, hcell⟩ := nW hR hx hc (by simp)
      subst hv
      have hnm : ¬ cE M0 H σ ad.block := by
        cases hk : H.get id with
        | none => simp [eF, hk] at hc
        | some k =>
          obtain ⟨o, ho, l⟩ := hR.lies id k hk
          have hver : k.es.length = ver := by
            simp only [eF, hk] at hc
            split at hc
            · assumption
            · cases hc
          cases hx
          rename_i hN h1' h
          rcases h o ho with h' | ⟨_, b, hob, hvb⟩
          · have := l.ver; omega
          · cases hvb
            rintro (hm | ⟨i', k', o', hk', hf', ho', hb'⟩)
            · exact (hR.lt id o b ho hob).2 hm
            · have hi := hR.inj i' id o' o b ho' ho hb' hob
              subst hi
              rw [hk] at hk'; cases hk'
              rw [hf i' (by simp [Pe]) k hk] at hf'; cases hf'
      exact .adr ad xs _ hrep.len h1 (fun j u hu => ⟨hnm, hcell j u hu⟩) hrep.rep
theorem Ic {v : Value} {d : D} (hR : Rel M0 H σ w) (hx : RepV (cE M0 H σ) σ H.al w v d) (ids : List Nat) (hi : ∀ i ∈ N0 d, i ∈ ids) :
    RepV (cE M0 (eJ ids H) σ) σ (eJ ids H).al w v (C4 H d) := by
  obtain ⟨h1, h2, h3, h4⟩ := e8 ids hR
  have hx' := hx.keep h2
  have hfr : ∀ i ∈ ids, ∀ k, (eJ ids H).get i = some k → k.fz = true := fun i hi k hk => by
    have he := (h4 i).1
    rw [hk] at he
    cases hk0 : H.get i with
    | none => rw [hk0] at he; cases he
    | some k0 =>
      obtain ⟨k', a1, a2, a3⟩ := (h4 i).2 k0 hk0 (.inr hi)
      rw [hk] at a1; cases a1; exact a2
  have hsame : ∀ d, AJ (eJ ids H) d = AJ H d := fun d => by
    have hq := nC (fun i => (h4 i).1) d
    cases d with
    | ptr id ver i off => simp only [AJ, Aj (fun i => (h4 i).1)]
    | _ => exact hq
  cases d with
  | fn g caps =>
    cases hx'
    rename_i vs hl hr
    refine .fn g vs _ (by simpa using hl) fun j u x hu hx => ?_
    rw [aQ, bE] at hx
    obtain ⟨y, hy, rfl⟩ := hx
    rw [← hsame y]
    refine u5 h1 (hr j u y hu hy) fun i hii k hk => hfr i (hi i ?_) k hk
    simp only [N0, bR]
    exact ⟨y, aH hy, hii⟩
  | ptr id ver i off =>
    simp only [C4]
    rw [← hsame]
    exact u5 h1 hx' fun i hii k hk => hfr i (hi i hii) k hk
  | _ => exact kJ hR hx ids hi
theorem Ms {vals:List Value}{args:List D}(hR:Rel M0 H σ w)(ha:RepL (cE M0 H σ) σ H.al w vals args)(ids:List Nat)(hi:∀ i∈args.flatMap N0,i∈ids) :
  RepL (cE M0 (eJ ids H) σ) σ (eJ ids H).al w vals (args.map (C4 H)) :=
 ⟨by simpa using ha.len,fun j u d hu hd=>by
  rw [aQ,bE] at hd
  obtain ⟨y,hy,rfl⟩:=hd
  exact Ic hR (ha.rep j u y hu hy) ids fun i hii=>hi i (bR.2 ⟨y,aH hy,hii⟩)⟩
theorem HI {f:FuncId}{args:List D}{r:D}{Q:D→AHeap→Prop}(hp:Pure P f (args.map (C4 H)) r)(hcl:D.clL (args.map (C4 H))=true)(hf:r.flat=true)(hQ:Q r H):ACalls P f args H Q:=by
 refine ⟨hp.1,fun M0 σ w vals hR ha=>?_⟩
 obtain ⟨f1,f2,f3,f4⟩:=e8 (args.flatMap N0) hR
 refine (hp.2 (cE M0 (eJ (args.flatMap N0) H) σ) w vals (tK f1) (gA (fun _ h=>h) (Ms hR ha _ fun i h=>h) hcl)).mono fun e w' ⟨v,he,hv,hb⟩=>?_
 obtain ⟨h1,h2,h3⟩:=hR.grow hb.os hb.tape hb.output hb.size hb.block
 exact ⟨v,r,H,σ,he,h1,vT hv hf,h2,h3,hQ⟩
theorem rH {md:Nat→Bool}{ops:Array Oper}{rest:List Oper}{e:cZ}{dst:Option Tmp}{K:cZ→AHeap→Prop}{f:FuncId}{args args':List D}{r:D}(hp:Pure P f args' r)(ha:args.map (C4 H)=args')(hcl:D.clL args'=true)(hf:r.flat=true)
  (h:lD P md ops rest (mC e dst r) H K):eY P md ops rest e dst K f args H:=by subst ha;unfold eY;exact HI hp hcl hf h
end
theorem Own.pure {P:Program}{f:FuncId}{args:List D}{ty:TypeId}{sz:Nat}{es:List (List D)}(h:Own P f args ty sz es):Pure P f args (.list es):=by
 refine ⟨h.1,fun M w vals hM ha=>(h.2 M w vals hM ha).mono fun e w' ⟨v,xs,he,hrow,h1,hrep,hcl,hsz,hb⟩=>⟨v,he,?_,hb⟩⟩
 have hclF:D.clL es.flatten=true:=At fun d hd=>by
  obtain ⟨c,hcm,hxm⟩:=gZ.1 hd
  exact iD (nQ hcl c hcm) d hxm
 have hrep':RepL M gG pT w' xs es.flatten:=gA (fun b h h'=>h (.inl h')) hrep hclF
 rcases hrow.2 with ⟨hnil,h0⟩|⟨g,cap,cur,hval,hg,hcells,hnc,hcm,hsz',htake⟩
 ·rw [hnil,bF h0];exact .listN
 ·rw [hval]
  refine .list ⟨g,0,none⟩ cap sz xs es hnc hcm hsz hrep'.len h1 (fun j u hu=>⟨fun hm=>?_,hrow.cells (g:=g) (by simp [hval,Value.ownBlock]) j u hu⟩) hrep'.rep
  have:=hM g hm
  omega
end Go.Abs
end
section
namespace Go.Abs
def ML:D→D
 | .nil=>.list []
 | d=>d
def OH:D→D
 | .agg cs=>.agg (cs.map ML)
 | d=>ML d
def No:D→D
 | .tup vs=>.tup (vs.map OH)
 | d=>OH d
@[go_sem] theorem T3 (k:IntKind)(n:Int):ML (.int k n)=.int k n:=rfl
@[go_sem] theorem SL (b:Bool):ML (.bool b)=.bool b:=rfl
@[go_sem] theorem T1 (b:ByteArray):ML (.str b)=.str b:=rfl
@[go_sem] theorem SK (l:List (List D)):ML (.list l)=.list l:=rfl
@[go_sem] theorem T2:ML .nil=.list []:=rfl
@[go_sem] theorem TZ (k:IntKind)(n:Int):OH (.int k n)=.int k n:=rfl
@[go_sem] theorem SJ (b:Bool):OH (.bool b)=.bool b:=rfl
@[go_sem] theorem TX (b:ByteArray):OH (.str b)=.str b:=rfl
@[go_sem] theorem SI (l:List (List D)):OH (.list l)=.list l:=rfl
@[go_sem] theorem TY:OH .nil=.list []:=rfl
@[go_sem] theorem T0 (l:List D):OH (.agg l)=.agg (l.map ML):=rfl
@[go_sem] theorem TV (k:IntKind)(n:Int):No (.int k n)=.int k n:=rfl
@[go_sem] theorem SH (b:Bool):No (.bool b)=.bool b:=rfl
@[go_sem] theorem TT (b:ByteArray):No (.str b)=.str b:=rfl
@[go_sem] theorem SF (l:List (List D)):No (.list l)=.list l:=rfl
@[go_sem] theorem TU:No .nil=.list []:=rfl
@[go_sem] theorem TW (l:List D):No (.agg l)=.agg (l.map ML):=rfl
@[go_sem] theorem TS (l:List D):No (.tup l)=.tup (l.map OH):=rfl
theorem G7 {M:Nat→Prop}{σ:Nat→Option Ow}{N:Nat→Prop}{w:World}{v:Value}{d:D}(h:RepV M σ N w v d):RepV M σ N w v (ML d):=by
 cases d<;>try exact h
 cases h
 exact .listN
theorem LJ {M:Nat→Prop}{σ:Nat→Option Ow}{N:Nat→Prop}{w:World}{v:Value}{d:D}(h:RepV M σ N w v d):RepV M σ N w v (OH d):=by
 cases d<;>try exact G7 h
 cases h
 rename_i vs h1 hl hr
 refine .agg vs _ (by simpa using hl) h1 fun j u d hu hd=>?_
 rw [aQ,bE] at hd
 obtain ⟨y,hy,rfl⟩:=hd
 exact G7 (hr j u y hu hy)
theorem O2 {M:Nat→Prop}{σ:Nat→Option Ow}{N:Nat→Prop}{w:World}{v:Value}{d:D}(h:RepV M σ N w v d):RepV M σ N w v (No d):=by
 cases d<;>try exact LJ h
 cases h
 rename_i vs hl hr
 refine .tup vs _ (by simpa using hl) fun j u d hu hd=>?_
 rw [aQ,bE] at hd
 obtain ⟨y,hy,rfl⟩:=hd
 exact LJ (hr j u y hu hy)
section
variable {P:Program} {c:Cfg}
theorem LA {f:FuncId}{args:List D}{r:D}(hcl:r.cl=true)(h:∀ Q:D→AHeap→Prop,(∀ d H',(n5 H' d=r∨No (n5 H' d)=r)→Q d H')→ACalls P f args .emp Q):Pure P f args r:=by
 have h:=h (fun d H'=>n5 H' d=r∨No (n5 H' d)=r) fun _ _ h=>h
 refine ⟨h.1,fun M w vals hM ha=>(h.2 M gG w vals (Cu M w hM) (by rw [Cx];exact ha)).mono fun e w' ⟨v,d,H',σ',he,hR,hv,hst,hk,hr⟩=>⟨v,he,?_,wE hst⟩⟩
 have h1:RepV (cE M (eJ (AQ d) H') σ') σ' (eJ (AQ d) H').al w' v r:=by
  have h0:=qT hR hv (AQ d) fun i hi=>hi
  rcases hr with hr|hr
  ·rw [hr] at h0;exact h0
  ·have h0:=O2 h0;rw [hr] at h0;exact h0
 exact h1.closed (fun ad u hm hc=>⟨fun h=>hm (.inl h),hc⟩) hcl
theorem Vp {f:FuncId}{args:List D}{ty:TypeId}{sz:Nat}{es:List (List D)}(hcl:D.clLL es=true)
  (h:∀ Q:D→AHeap→Prop,(∀ id n H',n=es.length→H'.get id=some ⟨ty,sz,es,false⟩→Q (.own id n) H')→ACalls P f args .emp Q):Own P f args ty sz es :=
 zN (h _ fun id n H' hn hg=>⟨id,_,by rw [hn],hg,rfl,rfl,rfl,rfl,hcl⟩)
def BB (I:Nat→cZ→AHeap→Prop)(m:Nat→Nat)(x:Nat)(e:cZ)(H:AHeap):Prop:=∃ H',Ghosts H H'∧∃ x',m x'<m x∧I x' e H'
theorem eV {I:Nat→cZ→AHeap→Prop}{m:Nat→Nat}{x:Nat}{e:cZ}{H:AHeap}(x':Nat)(hm:m x'<m x)(hI:I x' e H):BB I m x e H:=⟨H,.refl H,x',hm,hI⟩
theorem Dw {I:Nat→cZ→AHeap→Prop}{m:Nat→Nat}{x:Nat}{e:cZ}{H H':AHeap}(hg:Ghosts H H')(x':Nat)(hm:m x'<m x)(hI:I x' e H'):BB I m x e H:=⟨H',hg,x',hm,hI⟩
theorem q9 {b:Code}{Q:Exit→cZ→AHeap→Prop}{e:cZ}{H:AHeap}(I:Nat→cZ→AHeap→Prop)(μ:Nat→Nat)(x0:Nat)(h0:I x0 e H)
  (hs:∀ x e H,I x e H→l7 P c b (qQ (BB I μ x) Q) e H):xM P c b Q e H:=zV (.refl H) I μ x0 h0 hs
theorem KG {b:Code}{Q:Exit→cZ→AHeap→Prop}{e:cZ}{H H':AHeap}(hg:Ghosts H H')(I:Nat→cZ→AHeap→Prop)(μ:Nat→Nat)(x0:Nat)(h0:I x0 e H')
  (hs:∀ x e H,I x e H→l7 P c b (qQ (BB I μ x) Q) e H):xM P c b Q e H:=zV hg I μ x0 h0 hs
end
@[go_sem] theorem RD (H:AHeap)(id i off:Nat)(ty sz:Nat):DO H id i off ty sz=match H.get id with
 | some k=>(H.put id { k with es:=k.es.set i ((k.es[i]?.getD []).set off (.own H.next 0)) }).push H.next ⟨ty,sz,[],false⟩
 | none=>H:=rfl
@[go_sem] theorem QG (H:AHeap)(id i off q hi:Nat):yH H id i off q hi=match H.get id,H.get q with
 | some k,some kq=>(((H.drop q).push H.next ⟨kq.ty,kq.sz,kq.es.take hi,false⟩).put id { k with es:=k.es.set i ((k.es[i]?.getD []).set off (.own H.next hi)) })
 | _,_=>H:=rfl
attribute [go_sem] rY Bg
attribute [irreducible] BB
theorem eP {p:Prop}(h:p:=by (first|assumption|(intros;first|assumption|omega|exact cF (by omega) (by omega)|(and_intros<;>first|assumption|omega|exact cF (by omega) (by omega)))|(simp_all<;>omega))):p:=h
theorem eM {p:Prop}(h:p:=by (first|assumption|(intros;first|assumption|omega|exact cF (by omega) (by omega)|(and_intros<;>first|assumption|omega|exact cF (by omega) (by omega)))|(simp;done)|(simp;omega))):p:=h
end Go.Abs
end
section
namespace Go.Abs
section
variable {P:Program} {M0:Nat→Prop} {H:AHeap} {σ:Nat→Option Ow} {w:World}
theorem wN (zs:List Int):(zs.map cI).flatten=zs.map (D.int .i64):=by
 induction zs with
 | nil=>rfl
 | cons a l ih=>simp only [fT,dK,ih,cI,dI];rfl
theorem wG {M:Nat→Prop}{N:Nat→Prop}(zs:List Int):RepL M σ N w (zs.map (Value.int .i64)) (zs.map cI).flatten:=by
 rw [wN]
 refine ⟨by simp,fun j u d hu hd=>?_⟩
 rw [aQ,bE] at hu hd
 obtain ⟨x,hx,rfl⟩:=hu
 obtain ⟨y,hy,rfl⟩:=hd
 rw [hx] at hy;cases hy
 exact .int _ _
def Cr (w:World)(ty:TypeId)(v:Value)(xs:List Int):Prop:=w.ownsRow 0 ty 1 v xs.length (xs.map (Value.int .i64))
theorem Ly (hR:Rel M0 H σ w){id:Nat}{ty:TypeId}{xs:List Int}(hg:H.get id=some ⟨ty,1,xs.map cI,false⟩){v:Value}(hv:RepV (cE M0 H σ) σ H.al w v (.own id xs.length)) :
  ∃ o,σ id=some o∧v=o.val∧o.ver=xs.length∧o.ty=ty∧o.esz=1∧Cr w ty v xs:=by
 obtain ⟨o,ho,l⟩:=hR.lies id _ hg
 have hver:o.ver=xs.length:=by have:=l.ver;simpa using this
 cases hv
 rename_i hN h1 h
 rcases h o ho with h'|⟨_,rfl⟩
 ·omega
 ·obtain ⟨us,hrow,hu1,hrep⟩:=l.row
  have hus:us=xs.map (Value.int .i64):=by
   simp only [wN] at hrep
   apply fH
   intro j
   have hl:=hrep.len
   simp only [bW] at hl
   by_cases hj:j<xs.length
   ·have h2:=hrep.rep j us[j] (D.int .i64 xs[j]) (aA (by omega)) (by simp [hj])
    generalize us[j]=u at h2
    have h3:us[j]?=some us[j]:=aA (by omega)
    have h4:=hrep.rep j us[j] (D.int .i64 xs[j]) h3 (by simp [hj])
    generalize hq:us[j]=q at h3 h4
    rw [h3]
    cases h4
    simp [hj]
   ·rw [bM (by omega),bM (by simp;omega)]
  refine ⟨o,ho,rfl,hver,l.ty,l.sz,?_⟩
  unfold Cr
  have hsz:o.esz=1:=l.sz
  rw [hsz,hus] at hrow
  simpa using hrow
theorem Ii {w':World}(hR:Rel M0 H σ w){id:Nat}{ty:TypeId}{xs zs:List Int}(fz:Bool)(hg:H.get id=some ⟨ty,1,xs.map cI,false⟩){o:Ow}(ho:σ id=some o)(hver:o.ver=xs.length)(hty:o.ty=ty)(hsz:o.esz=1)
  (hl:zs.length=xs.length) (hgr:w.grownBy w' o.block) (hrow:Cr w' ty o.val zs) :
  Rel M0 (H.put id ⟨ty,1,zs.map cI,fz⟩) (fun i=>if i=id then some o else σ i) w'∧Stp σ w (fun i=>if i=id then some o else σ i) w' ∧
   Keeps (cE M0 H σ) σ H.al w (cE M0 (H.put id ⟨ty,1,zs.map cI,fz⟩) (fun i=>if i=id then some o else σ i)) (fun i=>if i=id then some o else σ i) (H.put id ⟨ty,1,zs.map cI,fz⟩).al w':=by
 refine Rel.put hR hg rfl ho ⟨ty,1,zs.map cI,fz⟩ o hgr (fun b hb=>.inl hb) (.inl rfl) (by simp [hver,hl]) hty hsz (fun c hc=>?_) (zs.map (Value.int .i64)) ?_ (fun u hu=>?_) (wG zs)
 ·obtain ⟨x,_,rfl⟩:=bG.1 hc;rw [hsz];rfl
 ·rw [hsz];simpa [Cr] using hrow
 ·obtain ⟨x,_,rfl⟩:=bG.1 hu;rfl
theorem JO {f:FuncId}{id:Nat}{ty:TypeId}{xs zs:List Int}{Q:D→AHeap→Prop}(hent:P2 P f)(hg:H.get id=some ⟨ty,1,xs.map cI,false⟩)(hl:zs.length=xs.length)
  (hc:∀ (w:World) (v:Value),Cr w ty v xs→Calls P f #[v] w fun e w'=>e=.returned (.tuple #[])∧w.grownBy w' v.ownBlock∧Cr w' ty v zs)
  (hQ:Q (.tup []) (H.put id ⟨ty,1,zs.map cI,false⟩)):ACalls P f [.own id xs.length] H Q:=by
 refine ⟨hent,fun M0 σ w vals hR ha=>?_⟩
 obtain ⟨hlen,hr⟩:=ha
 match vals,hlen with
 | [v],_ =>
  obtain ⟨o,ho,rfl,hver,hty,hsz,hrow⟩:=Ly hR hg (hr 0 v _ rfl rfl)
  refine (hc w _ hrow).mono fun e w' ⟨he,hgr,hrow'⟩=>?_
  obtain ⟨h1,h2,h3⟩:=Ii hR false hg ho hver hty hsz hl hgr hrow'
  exact ⟨_,.tup [],_,_,he,h1,.tup [] [] rfl (fun j u d hu=>by simp at hu),h2,h3,hQ⟩
theorem Hy {f:FuncId}{id:Nat}{ty:TypeId}{xs zs:List Int}{m:Nat}{Q:D→AHeap→Prop}(hent:P2 P f)(hg:H.get id=some ⟨ty,1,xs.map cI,false⟩)(hl:zs.length=xs.length)(hm:m≤xs.length)
  (hc:∀ (w:World) (v:Value),Cr w ty v xs→Calls P f #[v] w fun e w'=>(∃ r,e=.returned r∧((v=.slice none 0 0∧r=v)∨∃ g n cap,v=.slice (some g) n cap∧r=.slice (some g) m cap))∧w.grownBy w' v.ownBlock∧Cr w' ty v zs)
  (hQ:Q (.list ((zs.take m).map cI)) (H.put id ⟨ty,1,zs.map cI,true⟩)):ACalls P f [.own id xs.length] H Q:=by
 refine ⟨hent,fun M0 σ w vals hR ha=>?_⟩
 obtain ⟨hlen,hr⟩:=ha
 match vals,hlen with
 | [v],_ =>
  obtain ⟨o,ho,rfl,hver,hty,hsz,hrow⟩:=Ly hR hg (hr 0 v _ rfl rfl)
  refine (hc w _ hrow).mono fun e w' ⟨⟨r,he,hr'⟩,hgr,hrow'⟩=>?_
  obtain ⟨h1,h2,h3⟩:=Ii hR true hg ho hver hty hsz hl hgr hrow'
  refine ⟨r,.list ((zs.take m).map cI),_,_,he,h1,?_,h2,h3,hQ⟩
  rcases hr' with ⟨hv,rfl⟩|⟨g,n,cap,hv,rfl⟩
  ·have hz:zs=[]:=by
    rcases hrow.2 with ⟨_,h0⟩|⟨g',cap',cur,hv',_⟩
    ·exact bF (by omega)
    ·rw [hv] at hv';cases hv'
   subst hz
   rw [hv];simpa using RepV.listN
  ·rcases hrow'.2 with ⟨hn,_⟩|⟨g',cap',cur,hv',hb0,hblk,hcz,hcm,hcs,htk⟩
   ·rw [hv] at hn;cases hn
   ·have hvv:=hv'
    rw [hv] at hvv
    cases hvv
    have hlt:(zs.take m).length=m:=by simp;omega
    have hfl:=wN (zs.take m)
    have key:=RepV.list (M:=cE M0 (H.put id ⟨ty,1,zs.map cI,true⟩) (fun i=>if i=id then some o else σ i)) (σ:=fun i=>if i=id then some o else σ i) (N:=(H.put id ⟨ty,1,zs.map cI,true⟩).al) (w:=w')
     ⟨g',0,none⟩ cap 1 ((zs.take m).map (Value.int .i64)) ((zs.take m).map cI) (by simp;omega) hcm (fun c hc=>(by obtain ⟨x,_,rfl⟩:=bG.1 hc;rfl)) (by rw [hfl];simp)
     (fun u hu=>(by obtain ⟨x,_,rfl⟩:=bG.1 hu;rfl))
     (fun j u hu=>by
      refine ⟨?_,?_⟩
      ·rintro (hm0|⟨i,k',o',hk',hf,ho',hb'⟩)
       ·exact (hR.lt id o g' ho (by simp [Ow.block,hv,Value.ownBlock])).2 hm0
       ·by_cases hi:i=id
        ·simp only [AHeap.put,hi,if_true,bA] at hk'
         subst hk';cases hf
        ·simp only [hi,if_false] at ho'
         exact hi (hR.inj i id o' o g' ho' ho hb' (by simp [Ow.block,hv,Value.ownBlock]))
      ·have:=hrow'.cells (g:=g') (by simp [hv,Value.ownBlock]) j u (by
        rw [aQ] at hu ⊢
        rw [bU] at hu
        split at hu
        ·exact hu
        ·simp at hu)
       exact this)
     (wG (zs.take m)).rep
    simp only [bW,hlt] at key
    exact key
end
end Go.Abs
end
section
namespace Go.Abs
section
variable {P:Program} {M0:Nat→Prop} {H:AHeap} {σ:Nat→Option Ow} {w:World}
structure Made (M:Nat→Prop) (w w':World) (v:Value) (b:Blk) (xs:List Value):Prop where
 row:w'.ownsRow w.heap.size b.ty b.sz v b.es.length xs
 one:∀ u∈xs,u.oneCell'=true
 rep:RepL M gG pT w' xs b.es.flatten
 cl:D.clLL b.es=true
 sz:∀ c∈b.es,c.length=b.sz
theorem JS {f:FuncId}{args:List D}{ty:TypeId}{sz:Nat}{es:List (List D)}{Q:D→AHeap→Prop}(hp:Own P f args ty sz es)(hcl:D.clL args=true)(q:Nat)(hq:¬ H.al q)
  (hQ:Q (.own q es.length) (H.push q ⟨ty,sz,es,false⟩)):ACalls P f args H Q:=by
 refine ⟨hp.1,fun M0 σ w vals hR ha=>(hp.2 (cE M0 H σ) w vals (tK hR) (gA (fun _ h=>h) ha hcl)).mono fun e w' ⟨v,xs,he,hrow,h1,hrep,hcll,hsz,hb⟩=>?_⟩
 have hrow0:w'.ownsRow 0 ty sz v es.length xs:=⟨hrow.1,hrow.2.imp (fun x=>x) fun ⟨g,cap,cur,a,b,c⟩=>⟨g,cap,cur,a,c8 _,c⟩⟩
 have hbk:∀ b,v.ownBlock=some b→w.heap.size≤b:=fun b hb'=>by
  rcases hrow.2 with hn|⟨g,cap,cur,h1,h2,h3⟩
  ·rw [hn.1] at hb';simp [Value.ownBlock] at hb'
  ·rw [h1] at hb';simp only [Value.ownBlock,bA] at hb';omega
 have hG:∀ ad,¬ (cE M0 H σ ad∨v.ownBlock=some ad)→¬ cE M0 (H.push q ⟨ty,sz,es,false⟩) (fun i=>if i=q then some ⟨es.length,v,sz,ty⟩ else σ i) ad:=by
  intro ad hm h
  rcases h with h|⟨i,k',o',hk',hf,ho',hb'⟩
  ·exact hm (.inl (.inl h))
  ·by_cases hii:i=q
   ·simp only [hii,if_true,bA] at ho'
    subst ho'
    exact hm (.inr hb')
   ·simp only [hii,if_false] at ho'
    simp only [AHeap.push,hii,if_false] at hk'
    exact hm (.inl (.inr ⟨i,k',o',hk',hf,ho',hb'⟩))
 have hclF:D.clL es.flatten=true:=At fun d hd=>by
  obtain ⟨c,hcm,hxm⟩:=gZ.1 hd
  exact iD (nQ hcll c hcm) d hxm
 obtain ⟨p1,p2,p3⟩:=Rel.pushG hR q hq (w':=w') hb.os hb.tape hb.output hb.size hb.block ⟨ty,sz,es,false⟩ ⟨es.length,v,sz,ty⟩
  hbk rfl rfl rfl hsz xs hrow0 h1 (fun hk=>gA hG hrep hclF)
 exact ⟨v,_,_,_,he,p1,.own v _ _ (.inl rfl) (by rcases hrow.2 with ⟨hn,_⟩|⟨g,cap,cur,hn,_⟩<;>simp [hn,Value.oneCell']) (fun o ho=>by simp at ho;subst ho;exact .inr ⟨rfl,rfl⟩),p2,p3,hQ⟩
theorem ACalls.bump {f:FuncId}{args:List D}{Q:D→AHeap→Prop}(k:Nat)(h:ACalls P f args ⟨H.next+k,H.al,H.get⟩ Q):ACalls P f args H Q :=
 ⟨h.1,fun M0 σ w vals hR ha=>h.2 M0 σ w vals (hR.bump (m:=H.next+k) (by omega)) ha⟩
theorem ACalls.frz {f:FuncId}{args:List D}{Q:D→AHeap→Prop}(h:ACalls P f (args.map (gQ H)) (eJ (args.flatMap c7) H) Q):ACalls P f args H Q:=by
 refine ⟨h.1,fun M0 σ w vals hR ha=>?_⟩
 obtain ⟨f1,f2,f3,f4⟩:=e8 (args.flatMap c7) hR
 refine (h.2 M0 σ w vals f1 (C9 hR ha _ fun i h=>h)).mono fun e w' ⟨v,d,H',σ',he,h1,hv,hs,hk,hq⟩=>?_
 exact ⟨v,d,H',σ',he,h1,hv,hs,f2.trans hk,hq⟩
end
section
variable {P:Program} {md:Nat→Bool} {ops:Array Oper} {sp:List (Nat × Nat)} {n0 i:Nat} {rest:List Oper} {acc:List (Nat × List Nat)} {e:cZ} {dst:Option Tmp} {K:cZ→AHeap→Prop} {f:FuncId} {args args':List D} {H H':AHeap}
theorem Gj (ha:args.map (gQ H)=args')(hz:eJ (args.flatMap c7) H=H')(h:eY P md ops rest e dst K f args' H'):eY P md ops rest e dst K f args H:=by
 subst ha;subst hz;unfold eY at h ⊢;exact ACalls.frz h
theorem BP {ty:TypeId}{sz:Nat}{es:List (List D)}(q:Nat)(hp:Own P f args ty sz es)(hcl:D.clL args=true)(hmd:AS md dst=true)(hq:q<n0)(hal:¬ H.al q)(hc:En sp i [q] acc)
  (h:iO P md ops sp n0 (i+1) rest ((i,[q]) :: acc) (mC e dst (.own q es.length)) (H.push q ⟨ty,sz,es,false⟩) K):nK P md ops sp n0 i rest acc e dst K f args H:=by
 unfold nK
 exact Or.inr ⟨hmd,.own q es.length,[],[],[(q,⟨ty,sz,es,false⟩)],(fun _ h=>by cases h),fun p hp=>(by
   have:p=(q,⟨ty,sz,es,false⟩):=by simpa using hp
   subst this;exact ⟨hq,hal⟩),
  fun H' _ hn=>JS hp hcl q (hn (q,⟨ty,sz,es,false⟩) (by simp)).2 ⟨rfl,rfl⟩,hc,h⟩
end
theorem Eg (i:Nat):AHeap.emp.al i↔False:=Iff.rfl
theorem mS (H:AHeap)(i j:Nat)(k:Blk):(H.push i k).al j↔j=i∨H.al j:=Iff.rfl
theorem qC (H:AHeap)(i j:Nat)(k:Blk):(H.put i k).al j↔H.al j:=Iff.rfl
theorem Gs (n:Nat)(al:Nat→Prop)(g:Nat→Option Blk)(j:Nat):(AHeap.mk n al g).al j↔al j:=Iff.rfl
end Go.Abs
end
section
namespace Go.Abs
def TN (id:Nat):D→D
 | .own 0 n=>.own id n
 | d=>d
section
variable {P:Program} {M0:Nat→Prop} {H:AHeap} {σ:Nat→Option Ow} {w:World}
theorem OX (id n:Nat):TN id (.own 0 n)=.own id n:=rfl
theorem MG (k:Blk):(AHeap.emp.push 0 k).get 0=some k:=rfl
theorem P3 {f : FuncId} {args : List D} {k k' : Blk} {r : D} {id : Nat} {Q : D → AHeap → Prop}
    (h : ACalls P f args (AHeap.emp.push 0 k) fun d H' => n5 H' d = r ∧ r.cl = true ∧ 0 ∉ AQ d ∧ H'.get 0 = some k')
    (hargs : ∀ d ∈ args, d.cl = true ∨ d = .own 0 k.es.length) (hk : k.fz = false) (hk' : k'.fz = false) (hcl : D.clLL k.es = true) (hfl : ∀ d ∈ k'.es.flatten, d.flat = true) (hg : H.get id = some k) (hQ : Q r (H.put id k')) :
    ACalls P f (args.map (TN id)) H Q := by
  refine ⟨h.1, fun M0 σ w vals hR ha => ?_⟩
  obtain ⟨o, ho, l⟩ := hR.lies id k hg
  obtain ⟨xs, hrow, hx1, hrep⟩ := l.row
  obtain ⟨σ0, hσ0⟩ : ∃ s : Nat → Option Ow, s = fun i => if i = 0 then some o else none := ⟨_, rfl⟩
  obtain ⟨M1, hM1⟩ : ∃ m : Nat → Prop, m = fun b => cE M0 H σ b ∧ o.block ≠ some b := ⟨_, rfl⟩
  have s0 : σ0 0 = some o := by rw [hσ0]; rfl
  have sn : ∀ i o', σ0 i = some o' → i = 0 ∧ o' = o := fun i o' hi => by
    rw [hσ0] at hi
    by_cases h0 : i = 0
    · simp only [h0, if_true, bA] at hi; exact ⟨h0, hi.symm⟩
    · simp only [h0, if_false] at hi; cases hi
  have g0 : ∀ i k1, (AHeap.emp.push 0 k).get i = some k1 → i = 0 ∧ k1 = k := fun i k1 hi => by
    by_cases h0 : i = 0
    · subst h0; rw [MG] at hi; exact ⟨rfl, (Option.some.inj hi).symm⟩
    · simp [AHeap.push, AHeap.emp, h0] at hi
  have hob : ∀ b, o.block = some b → cE M0 H σ b := fun b hb => .inr ⟨id, k, o, hg, hk, ho, hb⟩
  have hmut : ∀ b, cE M1 (AHeap.emp.push 0 k) σ0 b → cE M0 H σ b := by
    rintro b (hb | ⟨i, k1, o1, hk1, hf, ho1, hb⟩)
    · rw [hM1] at hb; exact hb.1
    · obtain ⟨_, rfl⟩ := sn i o1 ho1
      exact hob b hb
  have hcF : ∀ {es : List (List D)}, D.clLL es = true → D.clL es.flatten = true := fun {es} hc => At fun d hd => by
    obtain ⟨c, hcm, hxm⟩ := gZ.1 hd
    exact iD (nQ hc c hcm) d hxm
  have hR0 : Rel M1 (AHeap.emp.push 0 k) σ0 w := by
    refine ⟨fun i hi => ?_, fun i hi => ?_, fun i k1 hk1 => ?_, fun i j oi oj b hi hj hbi hbj => ?_, fun i oi b hi hbi => ?_, fun b hb => ?_⟩
    · have h0 : i ≠ 0 := fun e => hi (.inl e)
      exact ⟨by rw [hσ0]; simp [h0], by simp [AHeap.push, AHeap.emp, h0]⟩
    · rcases hi with hi | hi
      · subst hi; simp [AHeap.push, AHeap.emp]
      · exact hi.elim
    · obtain ⟨h0, h1⟩ := g0 i k1 hk1
      subst h0; subst h1
      exact ⟨o, s0, l.ver, l.ty, l.sz, l.esz, xs, hrow, hx1, gA (fun b hb hb' => hb (hmut b hb')) hrep (hcF hcl)⟩
    · rw [(sn i oi hi).1, (sn j oj hj).1]
    · obtain ⟨_, rfl⟩ := sn i oi hi
      exact ⟨(hR.lt id oi b ho hbi).1, fun hb => by rw [hM1] at hb; exact hb.2 hbi⟩
    · rw [hM1] at hb; exact tK hR b hb.1
  have ha0 : RepL (cE M1 (AHeap.emp.push 0 k) σ0) σ0 (AHeap.emp.push 0 k).al w vals args := by
    refine ⟨by simpa using ha.len, fun j u d hu hd => ?_⟩
    have hj := ha.rep j u (TN id d) hu (by rw [aQ, hd]; rfl)
    rcases hargs d (aH hd) with hc | rfl
    · have hren : TN id d = d := by cases d <;> first | rfl | (simp [D.cl] at hc)
      rw [hren] at hj
      exact hj.closed (fun ad u hm hu => ⟨fun hm' => hm (hmut _ hm'), hu⟩) hc
    · rw [OX] at hj
      cases hj
      rename_i h1 hN hv
      exact .own u _ _ (.inl rfl) (by first | exact h1 | exact hN) fun o1 ho1 => by
        obtain ⟨_, rfl⟩ := sn 0 o1 ho1
        exact hv o1 ho
  refine (h.2 M1 σ0 w vals hR0 ha0).mono fun e w' ⟨v, d, H', σ', he, hR', hv, hst, hkp, hr, hrcl, hr0, hg'⟩ => ?_
  obtain ⟨o', ho', l'⟩ := hR'.lies 0 k' hg'
  obtain ⟨xs', hrow', hx1', hrep'⟩ := l'.row
  obtain ⟨o2, ho2, hle⟩ := hkp.own 0 o' (.inl rfl) ho'
  rw [s0] at ho2
  cases ho2
  have hgr : w.grownBy w' o.block := ⟨hst.os, hst.tape, hst.output, hst.size, fun b hb hne => hst.old b hb fun i o1 hi => by
    obtain ⟨_, rfl⟩ := sn i o1 hi
    exact fun hb' => hne (by first | simpa using hb' | exact hb'.symm | exact hb')⟩
  have hnew : ∀ b, o'.block = some b → o.block = some b ∨ w.heap.size ≤ b := fun b hb => by
    rcases hst.new 0 o' b ho' hb with h1 | ⟨j1, o1, h1, h2⟩
    · exact .inr h1
    · obtain ⟨_, rfl⟩ := sn j1 o1 h1; exact .inl h2
  obtain ⟨p1, p2, p3⟩ := Rel.put hR hg hk ho k' o' hgr hnew hle l'.ver l'.ty l'.sz l'.esz xs' hrow' hx1'
    ⟨hrep'.len, fun j u d hu hd => vT (hrep'.rep j u d hu hd) (hfl d (aH hd))⟩
  have hv' := qT hR' hv (AQ d) fun i hi => hi
  rw [hr] at hv'
  obtain ⟨_, _, _, f4⟩ := e8 (AQ d) hR'
  refine ⟨v, r, _, _, he, p1, hv'.closed (fun ad u hm hu => ⟨fun hm' => hm ?_, hu⟩) hrcl, p2, p3, hQ⟩
  rcases hm' with h0 | ⟨i, k1, o1, hk1, hf, ho1, hb⟩
  · left
    rw [hM1]
    exact ⟨.inl h0, fun hb => (hR.lt id o _ ho hb).2 h0⟩
  · by_cases hi : i = id
    · simp only [hi, if_true, bA] at ho1
      subst ho1
      right
      obtain ⟨f41, f42⟩ := f4 0
      rw [hg'] at f41
      cases hq : (eJ (AQ d) H').get 0 with
      | none => rw [hq] at f41; cases f41
      | some kq =>
        refine ⟨0, kq, o', hq, ?_, ho', hb⟩
        rw [yI _ _ 0 hr0, hg'] at hq
        cases hq
        exact hk'
    · simp only [hi, if_false] at ho1
      simp only [AHeap.put, hi, if_false] at hk1
      left
      rw [hM1]
      exact ⟨.inr ⟨i, k1, o1, hk1, hf, ho1, hb⟩, fun hb' => hi (hR.inj i id o1 o _ ho1 ho hb hb')⟩
end
section
variable {P:Program} {M0:Nat→Prop} {H:AHeap} {σ:Nat→Option Ow} {w:World}
end
section
variable {P:Program} {md:Nat→Bool} {ops:Array Oper} {sp:List (Nat × Nat)} {n0 i:Nat} {rest:List Oper} {acc:List (Nat × List Nat)} {e:cZ} {dst:Option Tmp} {K:cZ→AHeap→Prop} {f:FuncId} {args args':List D} {H:AHeap}
end
theorem Fj {P:Program}{f:FuncId}{args:List D}{H H':AHeap}{Q:D→AHeap→Prop}(hg:Ghosts H H')(h:ACalls P f args H' Q):ACalls P f args H Q :=
 ⟨h.1,fun M0 σ w vals hR ha=>by
  obtain ⟨σ1,g1,g2,g3⟩:=tN hg hR
  exact (h.2 M0 σ1 w vals g1 (ha.keep g3)).mono fun e w' ⟨v,d,H1,σ2,he,h1,hv,hs,hk,hq⟩=>⟨v,d,H1,σ2,he,h1,hv,g2.trans hs,g3.trans hk,hq⟩⟩
theorem tS {P:Program}{md:Nat→Bool}{ops:Array Oper}{rest:List Oper}{e:cZ}{dst:Option Tmp}{K:cZ→AHeap→Prop}{f:FuncId}{args:List D}{H H':AHeap}(hg:Ghosts H H')(h:eY P md ops rest e dst K f args H'):eY P md ops rest e dst K f args H:=by
 unfold eY at h ⊢;exact Fj hg h
end Go.Abs
end
section
namespace Go.Abs
mutual
def lK:D→D
 | .nil=>.list []
 | .agg cs=>.agg (i4 cs)
 | .tup cs=>.tup (i4 cs)
 | .list es=>.list (eE es)
 | d=>d
def i4:List D→List D
 | []=>[]
 | d :: l=>lK d :: i4 l
def eE:List (List D)→List (List D)
 | []=>[]
 | c :: l=>i4 c :: eE l
end
theorem zQ (l:List D):i4 l=l.map lK:=by
 induction l with
 | nil=>rfl
 | cons a l ih=>simp [i4,ih]
theorem AR (l:List (List D)):eE l=l.map i4:=by
 induction l with
 | nil=>rfl
 | cons a l ih=>simp [eE,ih]
theorem Du (l:List (List D)):(eE l).flatten=l.flatten.map lK:=by
 induction l with
 | nil=>rfl
 | cons a l ih=>simp only [eE,dK,ih,List.map_append,zQ]
theorem LK {M:Nat→Prop}{σ:Nat→Option Ow}{N:Nat→Prop}{w:World}{v:Value}{d:D}(h:RepV M σ N w v d):RepV M σ N w v (lK d):=by
 have hm:∀ {vs:List Value} {ds:List D},(∀ (j:Nat) (u:Value) (d:D),vs[j]?=some u→ds[j]?=some d→RepV M σ N w u (lK d)) →
   ∀ (j:Nat) (u:Value) (d:D),vs[j]?=some u→(ds.map lK)[j]?=some d→RepV M σ N w u d:=by
  intro vs ds ih j u d hu hd
  rw [aQ,bE] at hd
  obtain ⟨y,hy,rfl⟩:=hd
  exact ih j u y hu hy
 induction h with
 | int=>simp only [lK];exact .int _ _
 | bool=>simp only [lK];exact .bool _
 | str=>simp only [lK];exact .str _
 | agg vs ds hl h1 _ ih =>
  simp only [lK,zQ]
  exact .agg vs _ (by simp [hl]) h1 (hm ih)
 | tup vs ds hl _ ih =>
  simp only [lK,zQ]
  exact .tup vs _ (by simp [hl]) (hm ih)
 | nil=>simp only [lK];exact .listN
 | listN=>simp only [lK,eE];exact .listN
 | list ad cap sz xs es hc hm' hsz hl h1 hcell _ ih =>
  simp only [lK]
  have hlen:(eE es).length=es.length:=by rw [AR,bW]
  have:=RepV.list (M:=M) (σ:=σ) (N:=N) (w:=w) ad cap sz xs (eE es) (by rw [hlen];exact hc) hm' (fun c hc'=>by
   rw [AR,bG] at hc'
   obtain ⟨y,hy,rfl⟩:=hc'
   rw [zQ,bW];exact hsz y hy) (by rw [Du,bW];exact hl) h1 hcell (by rw [Du];exact hm ih)
  rwa [hlen] at this
 | adr ad xs ds hl h1 hcell hr ih=>simp only [lK];exact .adr ad xs ds hl h1 hcell hr
 | ne ad cap hm=>simp only [lK];exact .ne ad cap hm
 | nilp=>simp only [lK];exact .nilp
 | ptr v id ver i off hN h1 h=>simp only [lK];exact .ptr v id ver i off hN h1 h
 | own v id n hN h1 h=>simp only [lK];exact .own v id n hN h1 h
 | win v id ver lo hi hN h1 hlh h=>simp only [lK];exact .win v id ver lo hi hN h1 hlh h
 | fn f vs ds hl hr ih=>simp only [lK];exact .fn f vs ds hl hr
 | nilf=>simp only [lK];exact .nilf
 | opt v g d hf h ih=>simp only [lK];exact .opt v g d hf h
 | cst v=>simp only [lK];exact .cst v
 | junk v=>simp only [lK];exact .junk v
theorem vF {P:Program}{f:FuncId}{args:List D}{r:D}(hcl:r.cl=true)(h:∀ Q:D→AHeap→Prop,(∀ d H',lK (n5 H' d)=r→Q d H')→ACalls P f args .emp Q):Pure P f args r:=by
 have h:=h (fun d H'=>lK (n5 H' d)=r) fun _ _ h=>h
 refine ⟨h.1,fun M w vals hM ha=>(h.2 M gG w vals (Cu M w hM) (by rw [Cx];exact ha)).mono fun e w' ⟨v,d,H',σ',he,hR,hv,hst,hk,hr⟩=>⟨v,he,?_,wE hst⟩⟩
 have h1:RepV (cE M (eJ (AQ d) H') σ') σ' (eJ (AQ d) H').al w' v r:=by
  have h0:=LK (qT hR hv (AQ d) fun i hi=>hi)
  rw [hr] at h0;exact h0
 exact h1.closed (fun ad u hm hc=>⟨fun h=>hm (.inl h),hc⟩) hcl
attribute [go_sem] lK i4 eE
end Go.Abs
end
section
namespace Go.Abs
def zB (H:AHeap)(d:D):D :=
 match d with
 | .ptr id ver i off=>match eF H (.ptr id ver i off) with
  | some (c :: cs)=>.adr ((c :: cs).map (eB H))
  | _=>.ptr id ver i off
 | d=>gQ H d
def z1 (H:AHeap)(d:D):List Nat :=
 match d with
 | .ptr id ver i off=>id :: (match eF H (.ptr id ver i off) with|some cs=>cs.flatMap jB|none=>[])
 | d=>c7 d
section
variable {P:Program} {M0:Nat→Prop} {H:AHeap} {σ:Nat→Option Ow} {w:World}
theorem Ib {v : Value} {d : D} (hR : Rel M0 H σ w) (hx : RepV (cE M0 H σ) σ H.al w v d) (ids : List Nat) (hi : ∀ i ∈ z1 H d, i ∈ ids) :
    RepV (cE M0 (eJ ids H) σ) σ (eJ ids H).al w v (zB H d) := by
  obtain ⟨h1, h2, h3, h4⟩ := e8 ids hR
  have hx' := hx.keep h2
  have hfr : ∀ i ∈ ids, ∀ k, (eJ ids H).get i = some k → k.fz = true := fun i hi k hk => by
    have he := (h4 i).1
    rw [hk] at he
    cases hk0 : H.get i with
    | none => rw [hk0] at he; cases he
    | some k0 =>
      obtain ⟨k', a1, a2, a3⟩ := (h4 i).2 k0 hk0 (.inr hi)
      rw [hk] at a1; cases a1; exact a2
  cases d with
  | ptr id ver i off =>
    have hs := Aj (fun i => (h4 i).1) (.ptr id ver i off)
    simp only [zB]
    cases hc : eF H (.ptr id ver i off) with
    | none => exact hx'
    | some cs =>
      cases cs with
      | nil => exact hx'
      | cons c cs =>
        rw [hc] at hs
        have hin : ∀ y ∈ c :: cs, ∀ q ∈ jB y, q ∈ ids := fun y hy q hq => hi q (by simp only [z1, hc, aS, bR]; exact .inr ⟨y, aS.1 hy, hq⟩)
        have hid : id ∈ ids := hi id (by simp only [z1]; exact kC ..)
        obtain ⟨ad, xs, hv, hrep, hone, hcell⟩ := nW h1 hx' hs (by simp)
        have hP := u5 h1 hx' fun q hq k hk => hfr q (by simp only [Pe, bL] at hq; subst hq; exact hid) k hk
        simp only [AJ, hs] at hP
        cases hP with
        | adr ad' xs' ds hl' hone' hcell' hrep' =>
          refine .adr ad' xs' _ (by simpa using hl') hone' hcell' fun j u x hu hx => ?_
          rw [aQ, bE] at hx
          obtain ⟨y, hy, rfl⟩ := hx
          rw [← nC (fun i => (h4 i).1) y]
          exact kK h1 (hrep' j u y hu hy) fun q hq k hk => hfr q (hin y (aH hy) q hq) k hk
  | _ => exact kJ hR hx ids hi
theorem Mr {vals:List Value}{args:List D}(hR:Rel M0 H σ w)(ha:RepL (cE M0 H σ) σ H.al w vals args)(ids:List Nat)(hi:∀ i∈args.flatMap (z1 H),i∈ids) :
  RepL (cE M0 (eJ ids H) σ) σ (eJ ids H).al w vals (args.map (zB H)) :=
 ⟨by simpa using ha.len,fun j u d hu hd=>by
  rw [aQ,bE] at hd
  obtain ⟨y,hy,rfl⟩:=hd
  exact Ib hR (ha.rep j u y hu hy) ids fun i hii=>hi i (bR.2 ⟨y,aH hy,hii⟩)⟩
theorem Av {f:FuncId}{args:List D}{r:D}{Q:D→AHeap→Prop}(hp:Pure P f (args.map (zB H)) r)(hcl:D.clL (args.map (zB H))=true)(hf:r.flat=true)(hQ:Q r H):ACalls P f args H Q:=by
 refine ⟨hp.1,fun M0 σ w vals hR ha=>?_⟩
 obtain ⟨f1,f2,f3,f4⟩:=e8 (args.flatMap (z1 H)) hR
 refine (hp.2 (cE M0 (eJ (args.flatMap (z1 H)) H) σ) w vals (tK f1) (gA (fun _ h=>h) (Mr hR ha _ fun i h=>h) hcl)).mono fun e w' ⟨v,he,hv,hb⟩=>?_
 obtain ⟨h1,h2,h3⟩:=hR.grow hb.os hb.tape hb.output hb.size hb.block
 exact ⟨v,r,H,σ,he,h1,vT hv hf,h2,h3,hQ⟩
theorem BS {md:Nat→Bool}{ops:Array Oper}{rest:List Oper}{e:cZ}{dst:Option Tmp}{K:cZ→AHeap→Prop}{f:FuncId}{args args':List D}{r:D}(hp:Pure P f args' r)(ha:args.map (zB H)=args')(hcl:D.clL args'=true)(hf:r.flat=true)
  (h:lD P md ops rest (mC e dst r) H K):eY P md ops rest e dst K f args H:=by subst ha;unfold eY;exact Av hp hcl hf h
theorem Lv {H:AHeap}{d:D}(h:∀ a b c e,d≠.ptr a b c e):zB H d=gQ H d:=by cases d<;>first|rfl|exact absurd rfl (h _ _ _ _)
theorem Pd {H:AHeap}{d:D}(h:∀ a b c e,d≠.ptr a b c e):z1 H d=c7 d:=by cases d<;>first|rfl|exact absurd rfl (h _ _ _ _)
theorem Ki {S : List Nat} {H H' : AHeap} {d : D} (ha : eT S H' H) (hd : ∀ x ∈ z1 H d, x ∈ S) : zB H' d = zB H d := by
  by_cases hp : ∀ a b c e, d ≠ .ptr a b c e
  · rw [Lv hp, Lv hp]
    rw [Pd hp] at hd
    exact C3 ha hd
  · obtain ⟨id, ver, i, off, rfl⟩ : ∃ a b c e, d = .ptr a b c e := by
      refine bD fun hn => hp fun a b c e he => hn ⟨a, b, c, e, he⟩
    have h0 := ha id (hd id (by simp only [z1]; exact kC ..))
    have hs : eF H' (.ptr id ver i off) = eF H (.ptr id ver i off) := by simp only [eF, h0]
    simp only [zB, hs]
    cases hc : eF H (.ptr id ver i off) with
    | none => rfl
    | some cs =>
      cases cs with
      | nil => rfl
      | cons c cs =>
        simp only
        congr 1
        exact bS fun y hy => tE ha fun x hx => hd x (by simp only [z1, hc, aS, bR]; exact .inr ⟨y, aS.1 hy, hx⟩)
theorem rR {md:Nat→Bool}{ops:Array Oper}{sp:List (Nat × Nat)}{n0 i:Nat}{rest:List Oper}{acc:List (Nat × List Nat)}{e:cZ}{dst:Option Tmp}{K:cZ→AHeap→Prop}{f:FuncId}{args args':List D}{H:AHeap}{r:D}{t:Bool}
  (hp:t=true→Pure P f args' r) (ha:args.map (zB H)=args') (hcl:t=true→D.clL args'=true) (hf:t=true→r.flat=true) {S:List Nat} (hS:args.flatMap (z1 H)=S) (hc:En sp i S acc)
  (h:iO P md ops sp n0 (i+1) rest ((i,S) :: acc) (mC e dst (.opt t r)) H K):rF P md ops sp n0 i rest acc e dst K t f args H:=by
 subst ha hS
 unfold rF
 refine ⟨r,_,fun ht H' hag=>?_,hc,h⟩
 have he:args.map (zB H')=args.map (zB H):=bS fun d hm=>Ki hag fun x hx=>bR.2 ⟨d,hm,hx⟩
 exact Av (by rw [he];exact hp ht) (by rw [he];exact hcl ht) (hf ht) ⟨rfl,rfl⟩
end
attribute [go_sem] z1
end Go.Abs
end
section
namespace Go.Abs
def mW (H:AHeap)(d:D):D :=
 match d with
 | .own id n=>match H.get id with
  | some k=>if k.es.length=n then .list (k.es.map (·.map (eB H))) else .own id n
  | none=>.own id n
 | d=>eB H d
def He (H:AHeap)(d:D):List Nat :=
 match d with
 | .own id n=>id :: (match H.get id with|some k=>k.es.flatten.flatMap jB|none=>[])
 | d=>jB d
def iM (H:AHeap):D→D
 | .agg cs=>.agg (cs.map (mW H))
 | d=>mW H d
def DL (H:AHeap):D→List Nat
 | .agg cs=>cs.flatMap (He H)
 | d=>He H d
def gF (H:AHeap):D→D
 | .tup vs=>.tup (vs.map (iM H))
 | d=>iM H d
def xN (H:AHeap):D→List Nat
 | .tup vs=>vs.flatMap (DL H)
 | d=>DL H d
section
variable {P:Program} {M0:Nat→Prop} {H:AHeap} {σ:Nat→Option Ow} {w:World}
theorem RepV.list_map {M:Nat→Prop}{N:Nat→Prop}{v:Value}{es:List (List D)}{f:D→D}(h:RepV M σ N w v (.list es))(hf:∀ y∈es.flatten,∀ u,RepV M σ N w u y→RepV M σ N w u (f y)) :
  RepV M σ N w v (.list (es.map (·.map f))):=by
 have hfl:(es.map (·.map f)).flatten=es.flatten.map f:=List.map_flatten.symm
 cases h with
 | listN=>exact .listN
 | list ad cap sz xs es hc hm hsz hl h1 hcell hr =>
  have:=RepV.list (M:=M) (σ:=σ) (N:=N) (w:=w) ad cap sz xs (es.map (·.map f)) (by simpa using hc) hm (fun c hc'=>by
   rw [bG] at hc';obtain ⟨y,hy,rfl⟩:=hc';rw [bW];exact hsz y hy) (by rw [hfl,bW];exact hl) h1 hcell (fun j u d hu hd=>by
   rw [hfl,aQ,bE] at hd
   obtain ⟨y,hy,rfl⟩:=hd
   exact hf y (aH hy) u (hr j u y hu hy))
  rw [bW] at this
  exact this
theorem OV {d:D}(h:∀ a b,d≠.own a b):mW H d=eB H d:=by cases d<;>first|rfl|exact absurd rfl (h _ _)
theorem Pc {d:D}(h:∀ a b,d≠.own a b):He H d=jB d:=by cases d<;>first|rfl|exact absurd rfl (h _ _)
theorem Bo {v : Value} {d : D} (hR : Rel M0 H σ w) (hx : RepV (cE M0 H σ) σ H.al w v d) (ids : List Nat) (hi : ∀ i ∈ He H d, i ∈ ids) :
    RepV (cE M0 (eJ ids H) σ) σ (eJ ids H).al w v (mW H d) := by
  obtain ⟨h1, h2, h3, h4⟩ := e8 ids hR
  have hx' := hx.keep h2
  have hfr : ∀ i ∈ ids, ∀ k, (eJ ids H).get i = some k → k.fz = true := fun i hi k hk => by
    have he := (h4 i).1
    rw [hk] at he
    cases hk0 : H.get i with
    | none => rw [hk0] at he; cases he
    | some k0 =>
      obtain ⟨k', a1, a2, a3⟩ := (h4 i).2 k0 hk0 (.inr hi)
      rw [hk] at a1; cases a1; exact a2
  by_cases ho : ∀ a b, d ≠ .own a b
  · rw [OV ho, ← nC (fun i => (h4 i).1) d]
    rw [Pc ho] at hi
    exact kK h1 hx' fun i hii k hk => hfr i (hi i hii) k hk
  · obtain ⟨id, n, rfl⟩ : ∃ a b, d = .own a b := by
      refine bD fun hn => ho fun a b he => hn ⟨a, b, he⟩
    have hL := kK h1 hx' fun i hii k hk => hfr i (hi i (by
      simp only [jB, bL] at hii; subst hii; simp only [He]; exact kC ..)) k hk
    rw [nC (fun i => (h4 i).1)] at hL
    simp only [mW, eB] at hL ⊢
    cases hk : H.get id with
    | none => rw [hk] at hL; exact hL
    | some k =>
      rw [hk] at hL
      simp only at hL ⊢
      split
      · rename_i hn
        rw [if_pos hn] at hL
        refine hL.list_map fun y hy u hu => ?_
        rw [← nC (fun i => (h4 i).1) y]
        exact kK h1 hu fun i hii k' hk' => hfr i (hi i (by
          simp only [He, hk, aS, bR]; exact .inr ⟨y, hy, hii⟩)) k' hk'
      · rename_i hn
        rw [if_neg hn] at hL; exact hL
theorem zA {v : Value} {d : D} (hR : Rel M0 H σ w) (hx : RepV (cE M0 H σ) σ H.al w v d) (ids : List Nat) (hi : ∀ i ∈ DL H d, i ∈ ids) :
    RepV (cE M0 (eJ ids H) σ) σ (eJ ids H).al w v (iM H d) := by
  cases d with
  | agg cs =>
    obtain ⟨h1, h2, h3, h4⟩ := e8 ids hR
    cases hx with
    | agg vs ds hl h1 hr =>
      refine .agg vs _ (by simpa using hl) h1 fun j u x hu hd => ?_
      rw [aQ, bE] at hd
      obtain ⟨y, hy, rfl⟩ := hd
      exact Bo hR (hr j u y hu hy) ids fun i hii => hi i (by simp only [DL, bR]; exact ⟨y, aH hy, hii⟩)
  | _ => exact Bo hR hx ids hi
theorem GR {v : Value} {d : D} (hR : Rel M0 H σ w) (hx : RepV (cE M0 H σ) σ H.al w v d) (ids : List Nat) (hi : ∀ i ∈ xN H d, i ∈ ids) :
    RepV (cE M0 (eJ ids H) σ) σ (eJ ids H).al w v (gF H d) := by
  cases d with
  | tup cs =>
    cases hx with
    | tup vs ds hl hr =>
      refine .tup vs _ (by simpa using hl) fun j u x hu hd => ?_
      rw [aQ, bE] at hd
      obtain ⟨y, hy, rfl⟩ := hd
      exact zA hR (hr j u y hu hy) ids fun i hii => hi i (by simp only [xN, bR]; exact ⟨y, aH hy, hii⟩)
  | _ => exact zA hR hx ids hi
theorem ACalls.deep {f:FuncId}{args:List D}{Q:D→AHeap→Prop}(h:ACalls P f args H fun d H'=>Q (gF H' d) (eJ (xN H' d) H')):ACalls P f args H Q :=
 ⟨h.1,fun M0 σ w vals hR ha=>(h.2 M0 σ w vals hR ha).mono fun e w' ⟨v,d,H',σ',he,hR',hv,hst,hk,hq⟩=>by
  obtain ⟨f1,f2,_,_⟩:=e8 (xN H' d) hR'
  exact ⟨v,_,_,σ',he,f1,GR hR' hv _ fun _ h=>h,hst,hk.trans f2,hq⟩⟩
end
end Go.Abs
end
section
namespace Go.Abs
theorem wa {a b:Prop}(x:a)(y:b):a∧b:=⟨x,y⟩
section
variable {P:Program} {c:Cfg} {a b:Code} {Q:Exit→cZ→AHeap→Prop} {e:cZ} {H:AHeap}
theorem wq {t:Bool}{A B:Prop}(h1:A→l7 P c a Q e H)(h2:B→l7 P c b Q e H)
  (k1:t=true→A:=by (intro h;first|(simp [go_sem] at h;exact h)|exact h)) (k2:t=false→B:=by (intro h;first|(simp [go_sem] at h;exact h)|exact h)) :
  uD P c a b Q e H (.bool t):=aO (fun h=>h1 (k1 h)) (fun h=>h2 (k2 h))
theorem bB (I:Nat→cZ→AHeap→Prop)(μ:Nat→Nat)(x0:Nat)(h0:I x0 e H)
  (hs:∀ J:Nat→cZ→AHeap→Prop,(∀ x e H,J x e H↔I x e H)→∀ x e H,I x e H→l7 P c b (qQ (BB J μ x) Q) e H):xM P c b Q e H :=
 q9 I μ x0 h0 (hs I fun _ _ _=>Iff.rfl)
theorem vK {H':AHeap}(hg:Ghosts H H')(I:Nat→cZ→AHeap→Prop)(μ:Nat→Nat)(x0:Nat)(h0:I x0 e H')
  (hs:∀ J:Nat→cZ→AHeap→Prop,(∀ x e H,J x e H↔I x e H)→∀ x e H,I x e H→l7 P c b (qQ (BB J μ x) Q) e H):xM P c b Q e H :=
 KG hg I μ x0 h0 (hs I fun _ _ _=>Iff.rfl)
end
section
variable {p q:Prop}
structure Wh (q:Prop):Prop where
 h:q
theorem wv (k:q→p:=by (intro h;first|(simp [go_sem,seval,Y];exact h)|exact h))(h:q):p:=k h
theorem Px (k:q→p:=by (intro h;first|(simp -implicitDefEqProofs [go_sem,seval,Y];exact h)|exact h))(h:q):p:=k h
theorem wo (k:Wh q→p:=by (intro h;(try simp [go_sem,seval,Y]);(repeat first|intro _|refine ⟨eP,?_⟩);exact h.1))(h:q):p:=k ⟨h⟩
theorem wp (k:Wh q→p:=by (intro h;(try simp [go_sem,seval,Y]);(repeat first|intro _|refine ⟨eM,?_⟩);exact h.1))(h:q):p:=k ⟨h⟩
theorem Uv (k:Wh q→p:=by (intro h;(try simp -implicitDefEqProofs [go_sem,seval,Y]);(repeat first|intro _|refine ⟨eM,?_⟩);exact h.1))(h:q):p:=k ⟨h⟩
theorem wl (h:p:=by first|rfl|(simp [go_sem,← List.map_take,← List.map_drop,Y];done)):p:=h
theorem wr (h:p:=by simp [C4,AJ,eF,go_sem,← List.map_take,← List.map_drop,Y]):p:=h
theorem RP (h:p:=by simp [C4,AJ,zB,z1,eF,go_sem,← List.map_take,← List.map_drop,Y]):p:=h
theorem V3 (h:p:=by simp [go_sem,Y]):p:=h
theorem Uw (h:p:=by simp [go_sem,z1,eF,Y]):p:=h
theorem wn (h:p:=by first|omega|(simp [go_sem,seval,Y]<;>omega)):p:=h
theorem wg (h:p:=by and_intros<;>first|omega|(simp [go_sem,seval,Y]<;>omega)):p:=h
theorem wi (h:p:=by first|assumption|omega|(simp [go_sem,Y];done)|(simp_all;done)):p:=h
theorem wj (h:p:=by first|assumption|omega|(simp [go_sem,Y];done)|(simp_all<;>omega)):p:=h
theorem wy (h:p:=by simp [go_sem,Y]<;>first|omega|(rw [aV];simp<;>omega)|(simp_all<;>omega)):p:=h
end
section
variable {P:Program} {c:Cfg} {a b:Code} {Q:Exit→cZ→AHeap→Prop} {e:cZ} {H:AHeap} {p:Prop}
theorem cT {t:Bool}{A B:Prop}(h1:A→l7 P c a Q e H)(h2:B→l7 P c b Q e H)(k:uD P c a b Q e H (.bool t)→p:=by (intro h;first|(simp [go_sem,seval,Y];exact h)|exact h))
  (k1:t=true→A:=by (intro h;first|(simp [go_sem] at h;exact h)|exact h)) (k2:t=false→B:=by (intro h;first|(simp [go_sem] at h;exact h)|exact h)):p:=k (aO (fun h=>h1 (k1 h)) (fun h=>h2 (k2 h)))
theorem dV {t:Bool}{A B:Prop}(h1:A→l7 P c a Q e H)(h2:B→l7 P c b Q e H)(k:Wh (uD P c a b Q e H (.bool t))→p:=by (intro h;(try simp [go_sem,seval,Y]);(repeat first|intro _|refine ⟨eP,?_⟩);exact h.1))
  (k1:t=true→A:=by (intro h;first|(simp [go_sem] at h;exact h)|exact h)) (k2:t=false→B:=by (intro h;first|(simp [go_sem] at h;exact h)|exact h)):p:=k ⟨aO (fun h=>h1 (k1 h)) (fun h=>h2 (k2 h))⟩
theorem qP {t:Bool}{A B:Prop}(h1:A→l7 P c a Q e H)(h2:B→l7 P c b Q e H)(k:Wh (uD P c a b Q e H (.bool t))→p:=by (intro h;(try simp [go_sem,seval,Y]);(repeat first|intro _|refine ⟨eM,?_⟩);exact h.1))
  (k1:t=true→A:=by (intro h;first|(simp [go_sem] at h;exact h)|exact h)) (k2:t=false→B:=by (intro h;first|(simp [go_sem] at h;exact h)|exact h)):p:=k ⟨aO (fun h=>h1 (k1 h)) (fun h=>h2 (k2 h))⟩
theorem wx {I J:Nat→cZ→AHeap→Prop}{m:Nat→Nat}{x:Nat}(hJ:∀ x e H,J x e H↔I x e H)(x':Nat)(hI:I x' e H)(hm:m x'<m x:=by omega):BB J m x e H:=eV x' hm ((hJ _ _ _).2 hI)
end
end Go.Abs
end
