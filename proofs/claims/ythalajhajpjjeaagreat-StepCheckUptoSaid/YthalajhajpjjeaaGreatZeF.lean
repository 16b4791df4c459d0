/- The abstraction layer, part W: the rows that walk a region w -/
import Derived.Test.YthalajhajpjjeaaGreatZeE
import Derived.Test.YthalajhajpjjeaaGreatZeA
import Derived.Sort.OwnSortedInts
set_option linter.unusedVariables false
set_option linter.unusedSimpArgs false
section
namespace Go.Abs
def nS (P:Program)(md:Nat→Bool)(ops:Array Oper)(sp:List (Nat × Nat))(n0 i:Nat)(rest:List Oper)(acc:List (Nat × List Nat))(e:dA)(dst:Option Tmp)(K:dA→AHeap→Prop)(f:FuncId)(args:List D)(H:AHeap):Prop :=
 (∃ r S,(∀ H',fA S H' H→ACalls P f args H' fun v H1=>v=r∧H1=H')∧Fd sp i S acc∧iX P md ops sp n0 (i+1) rest ((i,S) :: acc) (mJ e dst r) H K) ∨
 (Bh md dst=true∧∃ r S u q,(∀ p∈u,p.1∈S)∧(∀ p∈q,p.1<n0∧¬ H.al p.1)∧(∀ H',fA S H' H→(∀ p∈q,p.1<H'.next∧¬ H'.al p.1)→ACalls P f args H' fun v H1=>v=r∧H1=(H'.puts u).pushs q) ∧
  Fd sp i (S++q.map (·.1)) acc∧iX P md ops sp n0 (i+1) rest ((i,S++q.map (·.1)) :: acc) (mJ e dst r) ((H.puts u).pushs q) K)
def rN (P:Program)(md:Nat→Bool)(ops:Array Oper)(sp:List (Nat × Nat))(n0 i:Nat)(rest:List Oper)(acc:List (Nat × List Nat))(e:dA)(dst:Option Tmp)(K:dA→AHeap→Prop)(t:Bool)(f:FuncId)(args:List D)(H:AHeap):Prop :=
 ∃ r S,(t=true→∀ H',fA S H' H→ACalls P f args H' fun v H1=>v=r∧H1=H')∧Fd sp i S acc∧iX P md ops sp n0 (i+1) rest ((i,S) :: acc) (mJ e dst (.opt t r)) H K
def GP (nid:Nat)(e:dA)(o:Oper):List Nat:=foot nid (match o.guard with|none=>e|some _=>gE e o.op) o.op
def qD (P:Program)(md:Nat→Bool)(ops:Array Oper)(sp:List (Nat × Nat))(n0 i:Nat)(rest:List Oper)(acc:List (Nat × List Nat))(e:dA)(dst:Option Tmp)(H:AHeap)(K:dA→AHeap→Prop)(F:List Nat):SOut→Prop
 | .op o=>o.cond∧Fd sp i F acc∧iX P md ops sp n0 (i+1) rest ((i,F) :: acc) (mJ e dst o.val) o.heap K
 | .call f args=>nS P md ops sp n0 i rest acc e dst K f args H
 | .gop t g o=>(t=true→g=true)∧(t=true→o.cond∧o.heap=H)∧Fd sp i F acc∧iX P md ops sp n0 (i+1) rest ((i,F) :: acc) (mJ e dst (.opt t o.val)) H K
 | .gcall t g f args=>(t=true→g=true)∧rN P md ops sp n0 i rest acc e dst K t f args H
 | .bad=>False
theorem Mp (P : Program) (md : Nat → Bool) (ops : Array Oper) (sp : List (Nat × Nat)) (n0 i : Nat) (o : Oper) (rest : List Oper) (acc : List (Nat × List Nat)) (e : dA) (H : AHeap) (K : dA → AHeap → Prop) :
    iX P md ops sp n0 i (o :: rest) acc e H K = qD P md ops sp n0 i rest acc e o.dst H K (GP (n0 + i) e o) (lC P md (n0 + i) ops e o H) := by
  obtain ⟨dst, op, type, pos, after, guard⟩ := o
  cases guard with
  | none =>
    simp only [iX, mZ, lC, GP]
    cases hc : fU e { dst := dst, op := op, type := type, pos := pos, after := after, guard := none } with
    | none => simp [Ht, qD]
    | some p => simp [Ht, qD, nS]
  | some p =>
    obtain ⟨j, b⟩ := p
    simp only [iX, mZ, lC, GP]
    cases hg : gD ops e j with
    | none => simp [Fo, qD]
    | some gc =>
      obtain ⟨t, c'⟩ := gc
      simp only
      cases hc : fU (gE e op) { dst := dst, op := op, type := type, pos := pos, after := after, guard := some (j, b) } with
      | none => simp [Fo, qD]
      | some p => simp [Fo, qD, rN]
@[go_sem] theorem Sr (P:Program)(md:Nat→Bool)(ops:Array Oper)(sp:List (Nat × Nat))(n0 i:Nat)(acc:List (Nat × List Nat))(e:dA)(H:AHeap)(K:dA→AHeap→Prop):iX P md ops sp n0 i [] acc e H K=K e H:=rfl
section
variable (P:Program) (md:Nat→Bool) (ops:Array Oper) (sp:List (Nat × Nat)) (n0 i:Nat) (rest:List Oper) (acc:List (Nat × List Nat)) (e:dA) (dst:Option Tmp) (H H':AHeap) (K:dA→AHeap→Prop) (F:List Nat) (c f:Prop) (v:D) (t g:Bool) (fn:FuncId) (args:List D)
@[go_sem] theorem Ta:qD P md ops sp n0 i rest acc e dst H K F (.op ⟨c,f,v,H'⟩)=(c∧Fd sp i F acc∧iX P md ops sp n0 (i+1) rest ((i,F) :: acc) (mJ e dst v) H' K):=rfl
@[go_sem] theorem Q5:qD P md ops sp n0 i rest acc e dst H K F (.call fn args)=nS P md ops sp n0 i rest acc e dst K fn args H:=rfl
@[go_sem] theorem Se:qD P md ops sp n0 i rest acc e dst H K F (.gop t g ⟨c,f,v,H'⟩) =
  ((t=true→g=true)∧(t=true→c∧H'=H)∧Fd sp i F acc∧iX P md ops sp n0 (i+1) rest ((i,F) :: acc) (mJ e dst (.opt t v)) H K):=rfl
@[go_sem] theorem Qz:qD P md ops sp n0 i rest acc e dst H K F (.gcall t g fn args)=((t=true→g=true)∧rN P md ops sp n0 i rest acc e dst K t fn args H):=rfl
@[go_sem] theorem Rd (d:Option Tmp)(op:Op)(ty:TypeId)(p:String)(af:Array Edge)(gu:Option (Nat × Bool)) :
  iX P md ops sp n0 i (⟨d,op,ty,p,af,gu⟩ :: rest) acc e H K=qD P md ops sp n0 i rest acc e d H K (GP (n0+i) e ⟨d,op,ty,p,af,gu⟩) (lC P md (n0+i) ops e ⟨d,op,ty,p,af,gu⟩ H):=Mp P md ops sp n0 i _ rest acc e H K
@[go_sem] theorem V9:Fd [] i F acc=True:=rfl
end
@[go_sem] theorem UW (p:Nat × Nat)(sp:List (Nat × Nat))(i:Nat)(F:List Nat)(acc:List (Nat × List Nat)):Fd (p :: sp) i F acc = ∀ q∈acc,(q.1,i)∈(p :: sp)→∀ x∈q.2,x∉F:=rfl
@[go_sem] theorem R7 (nid:Nat)(e:dA)(d:Option Tmp)(op:Op)(ty:TypeId)(p:String)(af:Array Edge):GP nid e ⟨d,op,ty,p,af,none⟩=foot nid e op:=rfl
@[go_sem] theorem R6 (nid:Nat)(e:dA)(d:Option Tmp)(op:Op)(ty:TypeId)(p:String)(af:Array Edge)(g:Nat × Bool):GP nid e ⟨d,op,ty,p,af,some g⟩=foot nid (gE e op) op:=rfl
attribute [go_sem] foot D6 oN Op.operands Call.operands
@[go_sem] theorem RY (k:IntKind)(n:Int):dG (.int k n)=[]:=rfl
@[go_sem] theorem Q3 (b:Bool):dG (.bool b)=[]:=rfl
@[go_sem] theorem RT (b:ByteArray):dG (.str b)=[]:=rfl
@[go_sem] theorem RX:dG .nil=[]:=rfl
@[go_sem] theorem Q1 (es:List (List D)):dG (.list es)=[]:=rfl
@[go_sem] theorem R0 (es:List D):dG (.adr es)=[]:=rfl
@[go_sem] theorem QZ:dG .nilp=[]:=rfl
@[go_sem] theorem Q0:dG .nilf=[]:=rfl
@[go_sem] theorem SZ (f:FuncId)(l:List D):dG (.fn f l)=[]:=rfl
@[go_sem] theorem RV (id n:Nat):dG (.own id n)=[id]:=rfl
@[go_sem] theorem RR (id n lo hi:Nat):dG (.win id n lo hi)=[id]:=rfl
@[go_sem] theorem RU (id v i o:Nat):dG (.ptr id v i o)=[id]:=rfl
@[go_sem] theorem RZ (l:List D):dG (.agg l)=l.flatMap jL:=rfl
@[go_sem] theorem RW (t:Bool)(d:D):dG (.opt t d)=[]:=rfl
@[go_sem] theorem Q2:dG .junk=[]:=rfl
@[go_sem] theorem RS (l:List D):dG (.tup l)=[]:=rfl
/-! ### guards -/
def gV:D→Option (Bool × Bool)
 | .bool c=>some (true,c)
 | .opt g (.bool c)=>some (g,c)
 | _=>none
def gT (e:dA):Option Tmp→Option (Bool × Bool)
 | some t=>gV (e t)
 | none=>none
@[go_sem] theorem V4 (e:dA)(t:Nat):gT e (some t)=gV (e t):=rfl
@[go_sem] theorem V3 (c:Bool):gV (.bool c)=some (true,c):=rfl
@[go_sem] theorem Xz (g c:Bool):gV (.opt g (.bool c))=some (g,c):=rfl
section
variable (P:Program) (md:Nat→Bool) (nid:Nat) (ops:Array Oper) (e:dA) (d:Option Tmp) (op:Op) (ty:TypeId) (p:String) (af:Array Edge) (H:AHeap) (j:Nat) (b:Bool)
@[go_sem] theorem Ro:lC P md nid ops e ⟨d,op,ty,p,af,some (j,b)⟩ H =
  Fo (gD ops e j) b (Ox e (gO op)) (fU (gE e op) ⟨d,op,ty,p,af,none⟩) (CU P nid md (gE e op) ⟨d,op,ty,p,af,none⟩ H):=rfl
@[go_sem] theorem XA (l:List Oper):gD l.toArray e j=gT e ((l[j]?).bind (·.dst)):=by
 unfold gD gT
 rw [List.getElem?_toArray]
 cases (l[j]?).bind (·.dst) with
 | none=>rfl
 | some t=>simp only [gV];rfl
end
@[go_sem] theorem SA (t c b g:Bool)(f:FuncId)(args:List D)(o:AOut):Fo (some (t,c)) b g (some (f,args)) o=.gcall (t&&(c==b)) g f args:=rfl
@[go_sem] theorem Vi (t c b g:Bool)(o:AOut):Fo (some (t,c)) b g none o=.gop (t&&(c==b)) g o:=rfl
attribute [go_sem] gE gO Operand.tmp.injEq Ox og fU CU Option.bind_some jS Fe fQ Bool.and_true beq_false beq_true beq_self_eq_true
 dJ Bool.and_self Ff Bool.not_false
@[go_sem] theorem Sx (e:dA)(d:Option Tmp)(v:D)(t:Nat):BL (mJ e d v) t=match mJ e d v t with | .opt _ d=>d|d=>d:=rfl
@[go_sem] theorem Rm (l:List D)(t:Nat):BL (xN l) t=match xN l t with | .opt _ d=>d|d=>d:=rfl
section
variable {P:Program} {md:Nat→Bool} {ops:Array Oper} {sp:List (Nat × Nat)} {n0 i:Nat} {rest:List Oper} {acc:List (Nat × List Nat)} {e:dA} {dst:Option Tmp} {K:dA→AHeap→Prop} {f:FuncId} {args args':List D} {H:AHeap} {r:D}
theorem G3:Fd sp i [] acc:=by
 unfold Fd
 cases sp with
 | nil=>trivial
 | cons=>intro p hp _ x _;simp
theorem aK (hp:Pure P f args r)(hcl:D.clL args=true)(h:iX P md ops sp n0 (i+1) rest ((i,[]) :: acc) (mJ e dst r) H K):nS P md ops sp n0 i rest acc e dst K f args H :=
 .inl ⟨r,[],fun H' _=>pJ hp hcl ⟨rfl,rfl⟩,G3,h⟩
theorem dO {t:Bool}(hp:t=true→Pure P f args r)(hcl:t=true→D.clL args=true)(h:iX P md ops sp n0 (i+1) rest ((i,[]) :: acc) (mJ e dst (.opt t r)) H K):rN P md ops sp n0 i rest acc e dst K t f args H :=
 ⟨r,[],fun ht H' _=>pJ (hp ht) (hcl ht) ⟨rfl,rfl⟩,G3,h⟩
theorem aG {t:Bool}(hp:t=true→Pure P f args r)(hcl:t=true→D.clL args=true)(h:lL P md ops rest (mJ e dst (.opt t r)) H K):wG P md ops rest e dst K t f args H:=by
 unfold wG
 exact .inl ⟨r,[],fun ht H' _=>pJ (hp ht) (hcl ht) ⟨rfl,rfl⟩,h⟩
theorem tQ {S:List Nat}{H':AHeap}(ha:fA S H' H){d:D}(hd:∀ x∈jL d,x∈S):eJ H' d=eJ H d:=by
 cases d<;>try rfl
 ·rename_i id n
  have:=ha id (hd id (by simp [jL]))
  simp only [eJ,this]
 ·rename_i id n lo hi
  have:=ha id (hd id (by simp [jL]))
  simp only [eJ,this]
theorem DA {S:List Nat}{H':AHeap}(ha:fA S H' H){d:D}(hd:∀ x∈dE d,x∈S):g6 H' d=g6 H d:=by
 cases d<;>try rfl
 case own id n=>exact tQ (d:=.own id n) ha hd
 case win id n lo hi=>exact tQ (d:=.win id n lo hi) ha hd
 case agg l =>
  simp only [g6]
  congr 1
  exact bU fun x hx=>tQ ha fun y hy=>hd y (by simp only [dE,bT];exact ⟨x,hx,hy⟩)
theorem zE {S:List Nat}{H':AHeap}(ha:fA S H' H){l:List D}(hd:∀ x∈l.flatMap dE,x∈S):l.map (g6 H')=l.map (g6 H) :=
 bU fun d hm=>DA ha fun x hx=>hd x (bT.2 ⟨d,hm,hx⟩)
theorem FK {t:Bool}(hp:t=true→Pure P f args' r)(ha:args.map (g6 H)=args')(hcl:t=true→D.clL args'=true)(hf:t=true→r.flat=true){S:List Nat}(hS:args.flatMap dE=S)(hc:Fd sp i S acc)
  (h:iX P md ops sp n0 (i+1) rest ((i,S) :: acc) (mJ e dst (.opt t r)) H K):rN P md ops sp n0 i rest acc e dst K t f args H:=by
 subst ha hS
 refine ⟨r,_,fun ht H' hag=>?_,hc,h⟩
 have he:=zE hag fun x hx=>hx
 exact uI (by rw [he];exact hp ht) (by rw [he];exact hcl ht) (hf ht) ⟨rfl,rfl⟩
theorem Ie {t:Bool}(hp:t=true→Pure P f args' r)(ha:args.map (g6 H)=args')(hcl:t=true→D.clL args'=true)(hf:t=true→r.flat=true)
  (h:lL P md ops rest (mJ e dst (.opt t r)) H K):wG P md ops rest e dst K t f args H:=by
 subst ha
 unfold wG
 refine .inl ⟨r,args.flatMap dE,fun ht H' hag=>?_,h⟩
 have he:=zE hag fun x hx=>hx
 exact uI (by rw [he];exact hp ht) (by rw [he];exact hcl ht) (hf ht) ⟨rfl,rfl⟩
end
/-! ### calls of function values -/
def Nc:D→List D→Option (FuncId × List D)
 | .fn g caps,az=>some (g,az++caps)
 | _,_=>none
@[go_sem] theorem UX (g:FuncId)(caps az:List D):Nc (.fn g caps) az=some (g,az++caps):=rfl
theorem Mf (e:dA)(d:Option Tmp)(f:Operand)(args:Array Operand)(ts:Array TypeId)(ty:TypeId)(p:String)(af:Array Edge)(g:Option (Nat × Bool)) :
  fU e ⟨d,.call ⟨.value f,args,ts⟩,ty,p,af,g⟩=Nc (eB e f) (args.toList.map (eB e)):=by
 simp only [fU,Nc]
 cases eB e f<;>rfl
@[go_sem] theorem Vm (P:Program)(md:Nat→Bool)(nid:Nat)(ops:Array Oper)(e:dA)(d:Option Tmp)(ty:TypeId)(p:String)(af:Array Edge)(H:AHeap)(t:Nat)(args:Array Operand)(ts:Array TypeId) :
  lC P md nid ops e ⟨d,.call ⟨.value (.tmp t),args,ts⟩,ty,p,af,none⟩ H=Ht (Nc (e t) (args.toList.map (eB e))) (.bad H):=by
 simp only [lC,Mf]
 rfl
attribute [go_sem] decide_eq_true_eq eN eL
attribute [irreducible] nS rN
end Go.Abs
end
section
namespace Go.Abs
attribute [go_sem] D.cell D.cl D.clL D.clLL D.flat D.flat1 pW oV qR List.take_zero List.drop_succ_cons List.drop_zero qS List.replicate_zero dU List.flatten_nil
def dI (n:Int):D:=.int .i64 n
def cI (n:Int):List D:=[.int .i64 n]
def cS (s:ByteArray):List D:=[.str s]
def dLI (xs:List Int):D:=.list (xs.map cI)
def qV (xs:List ByteArray):D:=.list (xs.map cS)
structure Attr where
 name:ByteArray
 low:Int
 high:Int
 names:List ByteArray
def Attr.c (a:Attr):List D:=[.str a.name,dI a.low,dI a.high,qV a.names]
structure NodeTy where
 name:ByteArray
 parent:Int
 abs:Bool
 attrs:List Attr
def NodeTy.c (n:NodeTy):List D:=[.str n.name,dI n.parent,.bool n.abs,.list (n.attrs.map Attr.c)]
structure EdgeTy where
 name:ByteArray
 from_:Int
 to_:Int
 outLow:Int
 outHigh:Int
 inLow:Int
 inHigh:Int
def EdgeTy.c (x:EdgeTy):List D:=[.str x.name,dI x.from_,dI x.to_,dI x.outLow,dI x.outHigh,dI x.inLow,dI x.inHigh]
structure Types where
 nodes:List NodeTy
 edges:List EdgeTy
def Types.c (t:Types):List D:=[.list (t.nodes.map NodeTy.c),.list (t.edges.map EdgeTy.c)]
def Types.d (t:Types):D:=.agg t.c
structure Edge where
 type:Int
 from_:Int
 to_:Int
def Edge.c (x:Edge):List D:=[dI x.type,dI x.from_,dI x.to_]
structure Graph where
 nodes:List Int
 edges:List Edge
def Graph.c (g:Graph):List D:=[dLI g.nodes,.list (g.edges.map Edge.c)]
def Graph.d (g:Graph):D:=.agg g.c
/-! ### closed -/
theorem cQ {α:Type}(f:α→List D)(h:∀ a,D.clL (f a)=true)(l:List α):D.clLL (l.map f)=true:=by
 induction l with
 | nil=>rfl
 | cons a l ih=>simp [D.clLL,h,ih]
@[go_sem] theorem mV (l:List Int):(dLI l).cl=true:=by simp only [dLI,D.cl];exact cQ _ (fun _=>rfl) l
@[go_sem] theorem Pq (l:List ByteArray):(qV l).cl=true:=by simp only [qV,D.cl];exact cQ _ (fun _=>rfl) l
@[go_sem] theorem Attr.cl (a:Attr):D.clL a.c=true:=by simp [Attr.c,D.clL,D.cl,dI,Pq]
@[go_sem] theorem NodeTy.cl (n:NodeTy):D.clL n.c=true:=by simp [NodeTy.c,D.clL,D.cl,dI,cQ _ Attr.cl]
@[go_sem] theorem EdgeTy.cl (x:EdgeTy):D.clL x.c=true:=by simp [EdgeTy.c,D.clL,D.cl,dI]
@[go_sem] theorem Types.cl (t:Types):t.d.cl=true:=by simp [Types.d,Types.c,D.clL,D.cl,cQ _ NodeTy.cl,cQ _ EdgeTy.cl]
@[go_sem] theorem Edge.cl (x:Edge):D.clL x.c=true:=by simp [Edge.c,D.clL,D.cl,dI]
@[go_sem] theorem Graph.cl (g:Graph):g.d.cl=true:=by simp [Graph.d,Graph.c,D.clL,D.cl,mV,cQ _ Edge.cl]
@[go_sem] theorem Tn (a b:D)(l:List D):Dg (a :: b :: l)=.tup (a :: b :: l):=rfl
end Go.Abs
end
section
namespace Go.Abs
structure Term where
 var:Int
 add:Int
def Term.c (x:Term):List D:=[dI x.var,dI x.add]
structure Slot where
 node:Int
 attr:Int
 term:Term
def Slot.c (x:Slot):List D:=[dI x.node,dI x.attr,dI x.term.var,dI x.term.add]
structure Test where
 kind:Int
 left:Term
 right:Term
def Test.c (x:Test):List D:=[dI x.kind,dI x.left.var,dI x.left.add,dI x.right.var,dI x.right.add]
structure Pattern where
 graph:Graph
 slots:List Slot
 vars:Int
 tests:List Test
def Pattern.c (p:Pattern):List D:=[dLI p.graph.nodes,.list (p.graph.edges.map Edge.c),.list (p.slots.map Slot.c),dI p.vars,.list (p.tests.map Test.c)]
def Pattern.d (p:Pattern):D:=.agg p.c
structure Part where
 nodes:List Int
 edges:List Int
def Part.c (p:Part):List D:=[dLI p.nodes,dLI p.edges]
def Part.d (p:Part):D:=.agg p.c
inductive Cond where
 | mk (kind:Int) (kids:List Cond) (map:Part) (pattern:Pattern)
def Cond.kind:Cond→Int | .mk k _ _ _=>k
def Cond.kids:Cond→List Cond | .mk _ l _ _=>l
def Cond.map:Cond→Part | .mk _ _ m _=>m
def Cond.pattern:Cond→Pattern | .mk _ _ _ p=>p
mutual
def Cond.c:Cond→List D
 | .mk k l m p=>[dI k,.list (Cond.cs l),dLI m.nodes,dLI m.edges,dLI p.graph.nodes,.list (p.graph.edges.map Edge.c),.list (p.slots.map Slot.c),dI p.vars,.list (p.tests.map Test.c)]
def Cond.cs:List Cond→List (List D)
 | []=>[]
 | c :: l=>c.c :: Cond.cs l
end
theorem Cond.cs_eq (l:List Cond):Cond.cs l=l.map Cond.c:=by
 induction l with
 | nil=>simp [Cond.cs]
 | cons a l ih=>simp [Cond.cs,ih]
theorem Cond.c_eq (x:Cond):x.c=[dI x.kind,.list (x.kids.map Cond.c),dLI x.map.nodes,dLI x.map.edges,dLI x.pattern.graph.nodes,.list (x.pattern.graph.edges.map Edge.c),.list (x.pattern.slots.map Slot.c),dI x.pattern.vars,.list (x.pattern.tests.map Test.c)]:=by
 cases x;simp [Cond.c,Cond.kind,Cond.kids,Cond.map,Cond.pattern,Cond.cs_eq]
structure Rule where
 name:ByteArray
 left:Pattern
 right:Pattern
 keep:Part
 into:Part
 inj:Bool
 cond:Cond
def Rule.c (r:Rule):List D:=[.str r.name,dLI r.left.graph.nodes,.list (r.left.graph.edges.map Edge.c),.list (r.left.slots.map Slot.c),dI r.left.vars,.list (r.left.tests.map Test.c),
 dLI r.right.graph.nodes,.list (r.right.graph.edges.map Edge.c),.list (r.right.slots.map Slot.c),dI r.right.vars,.list (r.right.tests.map Test.c),
 dLI r.keep.nodes,dLI r.keep.edges,dLI r.into.nodes,dLI r.into.edges,.bool r.inj,
 dI r.cond.kind,.list (r.cond.kids.map Cond.c),dLI r.cond.map.nodes,dLI r.cond.map.edges,dLI r.cond.pattern.graph.nodes,.list (r.cond.pattern.graph.edges.map Edge.c),.list (r.cond.pattern.slots.map Slot.c),dI r.cond.pattern.vars,.list (r.cond.pattern.tests.map Test.c)]
def Rule.d (r:Rule):D:=.agg r.c
structure Stage where
 weights:List Int
 removed:List Int
def Stage.c (s:Stage):List D:=[dLI s.weights,dLI s.removed]
@[go_sem] theorem Slot.cl (x:Slot):D.clL x.c=true:=rfl
@[go_sem] theorem Test.cl (x:Test):D.clL x.c=true:=rfl
@[go_sem] theorem Dq (l:List Slot):D.clLL (l.map Slot.c)=true:=cQ _ Slot.cl l
@[go_sem] theorem IQ (l:List Test):D.clLL (l.map Test.c)=true:=cQ _ Test.cl l
@[go_sem] theorem Stage.cl (x:Stage):D.clL x.c=true:=by simp [Stage.c,D.clL,mV]
@[go_sem] theorem Sy (l:List Stage):D.clLL (l.map Stage.c)=true:=cQ _ Stage.cl l
theorem s7 (l:List Edge):D.clLL (l.map Edge.c)=true:=cQ _ Edge.cl l
mutual
theorem Cond.cl:∀ x:Cond,D.clL x.c=true
 | .mk k l m p=>by
  have:=Cond.cls l
  simp [Cond.c,D.clL,D.cl,dI,mV,this,s7,Dq,IQ]
theorem Cond.cls:∀ l:List Cond,D.clLL (Cond.cs l)=true
 | []=>by simp [Cond.cs,D.clLL]
 | c :: l=>by simp [Cond.cs,D.clLL,Cond.cl c,Cond.cls l]
end
attribute [go_sem] Cond.cl
@[go_sem] theorem Pr (l:List Cond):D.clLL (l.map Cond.c)=true:=by rw [← Cond.cs_eq];exact Cond.cls l
@[go_sem] theorem Rule.cl (r:Rule):D.clL r.c=true:=by
 simp [Rule.c,D.clL,D.cl,dI,mV,s7,Dq,IQ,Pr]
@[go_sem] theorem Tu (l:List Rule):D.clLL (l.map Rule.c)=true:=cQ _ Rule.cl l
end Go.Abs
end
section
namespace Go.Abs
def A8 (H:AHeap)(d:D):D :=
 match d with
 | .ptr id ver i off=>match eQ H (.ptr id ver i off) with
  | some (c :: cs)=>.adr (c :: cs)
  | _=>.ptr id ver i off
 | d=>eJ H d
def Qt:D→List Nat
 | .ptr id _ _ _=>[id]
 | d=>jL d
def DB (H:AHeap)(d:D):D :=
 match d with
 | .fn g caps=>.fn g (caps.map (A8 H))
 | .ptr id ver i off=>A8 H (.ptr id ver i off)
 | d=>g6 H d
def Pe:D→List Nat
 | .fn _ caps=>caps.flatMap Qt
 | .ptr id _ _ _=>[id]
 | d=>dE d
section
variable {P:Program} {M0:Nat→Prop} {H:AHeap} {σ:Nat→Option Ow} {w:World}
theorem AI {H H':AHeap}(h:∀ i,(H'.get i).map (·.es)=(H.get i).map (·.es))(d:D):eQ H' d=eQ H d:=by
 cases d<;>try rfl
 rename_i id ver i off
 have:=h id
 simp only [eQ]
 cases h1:H.get id<;>cases h2:H'.get id<;>rw [h1,h2] at this<;>simp at this
 ·simp only [this]
theorem vL {v : Value} {d : D} (hR : Rel M0 H σ w) (hx : RepV (cF M0 H σ) σ H.al w v d) (hf : ∀ i ∈ Qt d, ∀ k, H.get i = some k → k.fz = true) :
    RepV (cF M0 H σ) σ H.al w v (A8 H d) := by
  cases d <;> try exact kS hR hx hf
  rename_i id ver i off
  simp only [A8]
  cases hc : eQ H (.ptr id ver i off) with
  | none => exact hx
  | some cs =>
    cases cs with
    | nil => exact hx
    | cons c cs =>
      obtain ⟨ad, xs, hv, hrep, h1, hcell⟩ := n8 hR hx hc (by simp)
      subst hv
      have hnm : ¬ cF M0 H σ ad.block := by
        cases hk : H.get id with
        | none => simp [eQ, hk] at hc
        | some k =>
          obtain ⟨o, ho, l⟩ := hR.lies id k hk
          have hver : k.es.length = ver := by
            simp only [eQ, hk] at hc
            split at hc
            · assumption
            · cases hc
          cases hx
          rename_i hN h1' h
          rcases h o ho with h' | ⟨_, b, hob, hvb⟩
          · have := l.ver; omega
          · cases hvb
            rintro (hm | ⟨i', k', o', hk', hf', ho', hb'⟩)
            · exact (hR.lt id o b ho hob).2 hm
            · have hi := hR.inj i' id o' o b ho' ho hb' hob
              subst hi
              rw [hk] at hk'; cases hk'
              rw [hf i' (by simp [Qt]) k hk] at hf'; cases hf'
      exact .adr ad xs _ hrep.len h1 (fun j u hu => ⟨hnm, hcell j u hu⟩) hrep.rep
theorem I8 {v : Value} {d : D} (hR : Rel M0 H σ w) (hx : RepV (cF M0 H σ) σ H.al w v d) (ids : List Nat) (hi : ∀ i ∈ Pe d, i ∈ ids) :
    RepV (cF M0 (eV ids H) σ) σ (eV ids H).al w v (DB H d) := by
  obtain ⟨h1, h2, h3, h4⟩ := fF ids hR
  have hx' := hx.keep h2
  have hfr : ∀ i ∈ ids, ∀ k, (eV ids H).get i = some k → k.fz = true := fun i hi k hk => by
    have he := (h4 i).1
    rw [hk] at he
    cases hk0 : H.get i with
    | none => rw [hk0] at he; cases he
    | some k0 =>
      obtain ⟨k', a1, a2, a3⟩ := (h4 i).2 k0 hk0 (.inr hi)
      rw [hk] at a1; cases a1; exact a2
  have hsame : ∀ d, A8 (eV ids H) d = A8 H d := fun d => by
    have hq := nJ (fun i => (h4 i).1) d
    cases d with
    | ptr id ver i off => simp only [A8, AI (fun i => (h4 i).1)]
    | _ => exact hq
  cases d with
  | fn g caps =>
    cases hx'
    rename_i vs hl hr
    refine .fn g vs _ (by simpa using hl) fun j u x hu hx => ?_
    rw [aR, bD] at hx
    obtain ⟨y, hy, rfl⟩ := hx
    rw [← hsame y]
    refine vL h1 (hr j u y hu hy) fun i hii k hk => hfr i (hi i ?_) k hk
    simp only [Pe, bT]
    exact ⟨y, aJ hy, hii⟩
  | ptr id ver i off =>
    simp only [DB]
    rw [← hsame]
    exact vL h1 hx' fun i hii k hk => hfr i (hi i hii) k hk
  | _ => exact kQ hR hx ids hi
theorem ND {vals:List Value}{args:List D}(hR:Rel M0 H σ w)(ha:RepL (cF M0 H σ) σ H.al w vals args)(ids:List Nat)(hi:∀ i∈args.flatMap Pe,i∈ids) :
  RepL (cF M0 (eV ids H) σ) σ (eV ids H).al w vals (args.map (DB H)) :=
 ⟨by simpa using ha.len,fun j u d hu hd=>by
  rw [aR,bD] at hd
  obtain ⟨y,hy,rfl⟩:=hd
  exact I8 hR (ha.rep j u y hu hy) ids fun i hii=>hi i (bT.2 ⟨y,aJ hy,hii⟩)⟩
theorem ID {f:FuncId}{args:List D}{r:D}{Q:D→AHeap→Prop}(hp:Pure P f (args.map (DB H)) r)(hcl:D.clL (args.map (DB H))=true)(hf:r.flat=true)(hQ:Q r H):ACalls P f args H Q:=by
 refine ⟨hp.1,fun M0 σ w vals hR ha=>?_⟩
 obtain ⟨f1,f2,f3,f4⟩:=fF (args.flatMap Pe) hR
 refine (hp.2 (cF M0 (eV (args.flatMap Pe) H) σ) w vals (tX f1) (gK (fun _ h=>h) (ND hR ha _ fun i h=>h) hcl)).mono fun e w' ⟨v,he,hv,hb⟩=>?_
 obtain ⟨h1,h2,h3⟩:=hR.grow hb.os hb.tape hb.output hb.size hb.block
 exact ⟨v,r,H,σ,he,h1,wI hv hf,h2,h3,hQ⟩
theorem rP {md:Nat→Bool}{ops:Array Oper}{rest:List Oper}{e:dA}{dst:Option Tmp}{K:dA→AHeap→Prop}{f:FuncId}{args args':List D}{r:D}(hp:Pure P f args' r)(ha:args.map (DB H)=args')(hcl:D.clL args'=true)(hf:r.flat=true)
  (h:lL P md ops rest (mJ e dst r) H K):fE P md ops rest e dst K f args H:=by subst ha;unfold fE;exact ID hp hcl hf h
end
theorem Own.pure {P:Program}{f:FuncId}{args:List D}{ty:TypeId}{sz:Nat}{es:List (List D)}(h:Own P f args ty sz es):Pure P f args (.list es):=by
 refine ⟨h.1,fun M w vals hM ha=>(h.2 M w vals hM ha).mono fun e w' ⟨v,xs,he,hrow,h1,hrep,hcl,hsz,hb⟩=>⟨v,he,?_,hb⟩⟩
 have hclF:D.clL es.flatten=true:=AT fun d hd=>by
  obtain ⟨c,hcm,hxm⟩:=iD.1 hd
  exact iK (n3 hcl c hcm) d hxm
 have hrep':RepL M gS p7 w' xs es.flatten:=gK (fun b h h'=>h (.inl h')) hrep hclF
 rcases hrow.2 with ⟨hnil,h0⟩|⟨g,cap,cur,hval,hg,hcells,hnc,hcm,hsz',htake⟩
 ·rw [hnil,bF h0];exact .listN
 ·rw [hval]
  refine .list ⟨g,0,none⟩ cap sz xs es hnc hcm hsz hrep'.len h1 (fun j u hu=>⟨fun hm=>?_,hrow.cells (g:=g) (by simp [hval,Value.ownBlock]) j u hu⟩) hrep'.rep
  have:=hM g hm
  omega
end Go.Abs
end
section
namespace Go.Abs
def NT:D→D
 | .nil=>.list []
 | d=>d
def PT:D→D
 | .agg cs=>.agg (cs.map NT)
 | d=>NT d
def Oy:D→D
 | .tup vs=>.tup (vs.map PT)
 | d=>PT d
@[go_sem] theorem VJ (k:IntKind)(n:Int):NT (.int k n)=.int k n:=rfl
@[go_sem] theorem Um (b:Bool):NT (.bool b)=.bool b:=rfl
@[go_sem] theorem VH (b:ByteArray):NT (.str b)=.str b:=rfl
@[go_sem] theorem Ul (l:List (List D)):NT (.list l)=.list l:=rfl
@[go_sem] theorem VI:NT .nil=.list []:=rfl
@[go_sem] theorem VF (k:IntKind)(n:Int):PT (.int k n)=.int k n:=rfl
@[go_sem] theorem Uk (b:Bool):PT (.bool b)=.bool b:=rfl
@[go_sem] theorem VD (b:ByteArray):PT (.str b)=.str b:=rfl
@[go_sem] theorem Uj (l:List (List D)):PT (.list l)=.list l:=rfl
@[go_sem] theorem VE:PT .nil=.list []:=rfl
@[go_sem] theorem VG (l:List D):PT (.agg l)=.agg (l.map NT):=rfl
@[go_sem] theorem VB (k:IntKind)(n:Int):Oy (.int k n)=.int k n:=rfl
@[go_sem] theorem Ui (b:Bool):Oy (.bool b)=.bool b:=rfl
@[go_sem] theorem Vz (b:ByteArray):Oy (.str b)=.str b:=rfl
@[go_sem] theorem Uh (l:List (List D)):Oy (.list l)=.list l:=rfl
@[go_sem] theorem VA:Oy .nil=.list []:=rfl
@[go_sem] theorem VC (l:List D):Oy (.agg l)=.agg (l.map NT):=rfl
@[go_sem] theorem Vy (l:List D):Oy (.tup l)=.tup (l.map PT):=rfl
theorem HW {M:Nat→Prop}{σ:Nat→Option Ow}{N:Nat→Prop}{w:World}{v:Value}{d:D}(h:RepV M σ N w v d):RepV M σ N w v (NT d):=by
 cases d<;>try exact h
 cases h
 exact .listN
theorem MK {M:Nat→Prop}{σ:Nat→Option Ow}{N:Nat→Prop}{w:World}{v:Value}{d:D}(h:RepV M σ N w v d):RepV M σ N w v (PT d):=by
 cases d<;>try exact HW h
 cases h
 rename_i vs h1 hl hr
 refine .agg vs _ (by simpa using hl) h1 fun j u d hu hd=>?_
 rw [aR,bD] at hd
 obtain ⟨y,hy,rfl⟩:=hd
 exact HW (hr j u y hu hy)
theorem Qg {M:Nat→Prop}{σ:Nat→Option Ow}{N:Nat→Prop}{w:World}{v:Value}{d:D}(h:RepV M σ N w v d):RepV M σ N w v (Oy d):=by
 cases d<;>try exact MK h
 cases h
 rename_i vs hl hr
 refine .tup vs _ (by simpa using hl) fun j u d hu hd=>?_
 rw [aR,bD] at hd
 obtain ⟨y,hy,rfl⟩:=hd
 exact MK (hr j u y hu hy)
section
variable {P:Program} {c:Cfg}
theorem MC {f:FuncId}{args:List D}{r:D}(hcl:r.cl=true)(h:∀ Q:D→AHeap→Prop,(∀ d H',(oF H' d=r∨Oy (oF H' d)=r)→Q d H')→ACalls P f args .emp Q):Pure P f args r:=by
 have h:=h (fun d H'=>oF H' d=r∨Oy (oF H' d)=r) fun _ _ h=>h
 refine ⟨h.1,fun M w vals hM ha=>(h.2 M gS w vals (C1 M w hM) (by rw [C3];exact ha)).mono fun e w' ⟨v,d,H',σ',he,hR,hv,hst,hk,hr⟩=>⟨v,he,?_,wW hst⟩⟩
 have h1:RepV (cF M (eV (Bf d) H') σ') σ' (eV (Bf d) H').al w' v r:=by
  have h0:=q7 hR hv (Bf d) fun i hi=>hi
  rcases hr with hr|hr
  ·rw [hr] at h0;exact h0
  ·have h0:=Qg h0;rw [hr] at h0;exact h0
 exact h1.closed (fun ad u hm hc=>⟨fun h=>hm (.inl h),hc⟩) hcl
theorem Xc {f:FuncId}{args:List D}{ty:TypeId}{sz:Nat}{es:List (List D)}(hcl:D.clLL es=true)
  (h:∀ Q:D→AHeap→Prop,(∀ id n H',n=es.length→H'.get id=some ⟨ty,sz,es,false⟩→Q (.own id n) H')→ACalls P f args .emp Q):Own P f args ty sz es :=
 Ae (h _ fun id n H' hn hg=>⟨id,_,by rw [hn],hg,rfl,rfl,rfl,rfl,hcl⟩)
def B7 (I:Nat→dA→AHeap→Prop)(m:Nat→Nat)(x:Nat)(e:dA)(H:AHeap):Prop:=∃ H',Ghosts H H'∧∃ x',m x'<m x∧I x' e H'
theorem fR {I:Nat→dA→AHeap→Prop}{m:Nat→Nat}{x:Nat}{e:dA}{H:AHeap}(x':Nat)(hm:m x'<m x)(hI:I x' e H):B7 I m x e H:=⟨H,.refl H,x',hm,hI⟩
theorem D4 {I:Nat→dA→AHeap→Prop}{m:Nat→Nat}{x:Nat}{e:dA}{H H':AHeap}(hg:Ghosts H H')(x':Nat)(hm:m x'<m x)(hI:I x' e H'):B7 I m x e H:=⟨H',hg,x',hm,hI⟩
theorem uN {b:Code}{Q:Exit→dA→AHeap→Prop}{e:dA}{H:AHeap}(I:Nat→dA→AHeap→Prop)(μ:Nat→Nat)(x0:Nat)(h0:I x0 e H)
  (hs:∀ x e H,I x e H→mE P c b (qX (B7 I μ x) Q) e H):yE P c b Q e H:=Am (.refl H) I μ x0 h0 hs
theorem LM {b:Code}{Q:Exit→dA→AHeap→Prop}{e:dA}{H H':AHeap}(hg:Ghosts H H')(I:Nat→dA→AHeap→Prop)(μ:Nat→Nat)(x0:Nat)(h0:I x0 e H')
  (hs:∀ x e H,I x e H→mE P c b (qX (B7 I μ x) Q) e H):yE P c b Q e H:=Am hg I μ x0 h0 hs
end
@[go_sem] theorem S5 (H:AHeap)(id i off:Nat)(ty sz:Nat):Er H id i off ty sz=match H.get id with
 | some k=>(H.put id { k with es:=k.es.set i ((k.es[i]?.getD []).set off (.own H.next 0)) }).push H.next ⟨ty,sz,[],false⟩
 | none=>H:=rfl
@[go_sem] theorem R3 (H:AHeap)(id i off q hi:Nat):y3 H id i off q hi=match H.get id,H.get q with
 | some k,some kq=>(((H.drop q).push H.next ⟨kq.ty,kq.sz,kq.es.take hi,false⟩).put id { k with es:=k.es.set i ((k.es[i]?.getD []).set off (.own H.next hi)) })
 | _,_=>H:=rfl
attribute [go_sem] sB BH
attribute [irreducible] B7
theorem dR {p:Prop}(h:p:=by (first|assumption|(intros;first|assumption|omega|exact cG (by omega) (by omega)|(and_intros<;>first|assumption|omega|exact cG (by omega) (by omega)))|(simp_all<;>omega))):p:=h
theorem eZ {p:Prop}(h:p:=by (first|assumption|(intros;first|assumption|omega|exact cG (by omega) (by omega)|(and_intros<;>first|assumption|omega|exact cG (by omega) (by omega)))|(simp;done)|(simp;omega))):p:=h
end Go.Abs
end
section
namespace Go.Abs
section
variable {P:Program} {M0:Nat→Prop} {H:AHeap} {σ:Nat→Option Ow} {w:World}
theorem w9 (zs:List Int):(zs.map cI).flatten=zs.map (D.int .i64):=by
 induction zs with
 | nil=>rfl
 | cons a l ih=>simp only [f6,dU,ih,cI,dI];rfl
theorem wY {M:Nat→Prop}{N:Nat→Prop}(zs:List Int):RepL M σ N w (zs.map (Value.int .i64)) (zs.map cI).flatten:=by
 rw [w9]
 refine ⟨by simp,fun j u d hu hd=>?_⟩
 rw [aR,bD] at hu hd
 obtain ⟨x,hx,rfl⟩:=hu
 obtain ⟨y,hy,rfl⟩:=hd
 rw [hx] at hy;cases hy
 exact .int _ _
def CX (w:World)(ty:TypeId)(v:Value)(xs:List Int):Prop:=w.ownsRow 0 ty 1 v xs.length (xs.map (Value.int .i64))
theorem MA (hR:Rel M0 H σ w){id:Nat}{ty:TypeId}{xs:List Int}(hg:H.get id=some ⟨ty,1,xs.map cI,false⟩){v:Value}(hv:RepV (cF M0 H σ) σ H.al w v (.own id xs.length)) :
  ∃ o,σ id=some o∧v=o.val∧o.ver=xs.length∧o.ty=ty∧o.esz=1∧CX w ty v xs:=by
 obtain ⟨o,ho,l⟩:=hR.lies id _ hg
 have hver:o.ver=xs.length:=by have:=l.ver;simpa using this
 cases hv
 rename_i hN h1 h
 rcases h o ho with h'|⟨_,rfl⟩
 ·omega
 ·obtain ⟨us,hrow,hu1,hrep⟩:=l.row
  have hus:us=xs.map (Value.int .i64):=by
   simp only [w9] at hrep
   apply fP
   intro j
   have hl:=hrep.len
   simp only [bW] at hl
   by_cases hj:j<xs.length
   ·have h2:=hrep.rep j us[j] (D.int .i64 xs[j]) (aA (by omega)) (by simp [hj])
    generalize us[j]=u at h2
    have h3:us[j]?=some us[j]:=aA (by omega)
    have h4:=hrep.rep j us[j] (D.int .i64 xs[j]) h3 (by simp [hj])
    generalize hq:us[j]=q at h3 h4
    rw [h3]
    cases h4
    simp [hj]
   ·rw [bP (by omega),bP (by simp;omega)]
  refine ⟨o,ho,rfl,hver,l.ty,l.sz,?_⟩
  unfold CX
  have hsz:o.esz=1:=l.sz
  rw [hsz,hus] at hrow
  simpa using hrow
theorem Je {w':World}(hR:Rel M0 H σ w){id:Nat}{ty:TypeId}{xs zs:List Int}(fz:Bool)(hg:H.get id=some ⟨ty,1,xs.map cI,false⟩){o:Ow}(ho:σ id=some o)(hver:o.ver=xs.length)(hty:o.ty=ty)(hsz:o.esz=1)
  (hl:zs.length=xs.length) (hgr:w.grownBy w' o.block) (hrow:CX w' ty o.val zs) :
  Rel M0 (H.put id ⟨ty,1,zs.map cI,fz⟩) (fun i=>if i=id then some o else σ i) w'∧Stp σ w (fun i=>if i=id then some o else σ i) w' ∧
   Keeps (cF M0 H σ) σ H.al w (cF M0 (H.put id ⟨ty,1,zs.map cI,fz⟩) (fun i=>if i=id then some o else σ i)) (fun i=>if i=id then some o else σ i) (H.put id ⟨ty,1,zs.map cI,fz⟩).al w':=by
 refine Rel.put hR hg rfl ho ⟨ty,1,zs.map cI,fz⟩ o hgr (fun b hb=>.inl hb) (.inl rfl) (by simp [hver,hl]) hty hsz (fun c hc=>?_) (zs.map (Value.int .i64)) ?_ (fun u hu=>?_) (wY zs)
 ·obtain ⟨x,_,rfl⟩:=bG.1 hc;rw [hsz];rfl
 ·rw [hsz];simpa [CX] using hrow
 ·obtain ⟨x,_,rfl⟩:=bG.1 hu;rfl
theorem KM {f:FuncId}{id:Nat}{ty:TypeId}{xs zs:List Int}{Q:D→AHeap→Prop}(hent:Rg P f)(hg:H.get id=some ⟨ty,1,xs.map cI,false⟩)(hl:zs.length=xs.length)
  (hc:∀ (w:World) (v:Value),CX w ty v xs→Calls P f #[v] w fun e w'=>e=.returned (.tuple #[])∧w.grownBy w' v.ownBlock∧CX w' ty v zs)
  (hQ:Q (.tup []) (H.put id ⟨ty,1,zs.map cI,false⟩)):ACalls P f [.own id xs.length] H Q:=by
 refine ⟨hent,fun M0 σ w vals hR ha=>?_⟩
 obtain ⟨hlen,hr⟩:=ha
 match vals,hlen with
 | [v],_ =>
  obtain ⟨o,ho,rfl,hver,hty,hsz,hrow⟩:=MA hR hg (hr 0 v _ rfl rfl)
  refine (hc w _ hrow).mono fun e w' ⟨he,hgr,hrow'⟩=>?_
  obtain ⟨h1,h2,h3⟩:=Je hR false hg ho hver hty hsz hl hgr hrow'
  exact ⟨_,.tup [],_,_,he,h1,.tup [] [] rfl (fun j u d hu=>by simp at hu),h2,h3,hQ⟩
theorem It {f:FuncId}{id:Nat}{ty:TypeId}{xs zs:List Int}{m:Nat}{Q:D→AHeap→Prop}(hent:Rg P f)(hg:H.get id=some ⟨ty,1,xs.map cI,false⟩)(hl:zs.length=xs.length)(hm:m≤xs.length)
  (hc:∀ (w:World) (v:Value),CX w ty v xs→Calls P f #[v] w fun e w'=>(∃ r,e=.returned r∧((v=.slice none 0 0∧r=v)∨∃ g n cap,v=.slice (some g) n cap∧r=.slice (some g) m cap))∧w.grownBy w' v.ownBlock∧CX w' ty v zs)
  (hQ:Q (.list ((zs.take m).map cI)) (H.put id ⟨ty,1,zs.map cI,true⟩)):ACalls P f [.own id xs.length] H Q:=by
 refine ⟨hent,fun M0 σ w vals hR ha=>?_⟩
 obtain ⟨hlen,hr⟩:=ha
 match vals,hlen with
 | [v],_ =>
  obtain ⟨o,ho,rfl,hver,hty,hsz,hrow⟩:=MA hR hg (hr 0 v _ rfl rfl)
  refine (hc w _ hrow).mono fun e w' ⟨⟨r,he,hr'⟩,hgr,hrow'⟩=>?_
  obtain ⟨h1,h2,h3⟩:=Je hR true hg ho hver hty hsz hl hgr hrow'
  refine ⟨r,.list ((zs.take m).map cI),_,_,he,h1,?_,h2,h3,hQ⟩
  rcases hr' with ⟨hv,rfl⟩|⟨g,n,cap,hv,rfl⟩
  ·have hz:zs=[]:=by
    rcases hrow.2 with ⟨_,h0⟩|⟨g',cap',cur,hv',_⟩
    ·exact bF (by omega)
    ·rw [hv] at hv';cases hv'
   subst hz
   rw [hv];simpa using RepV.listN
  ·rcases hrow'.2 with ⟨hn,_⟩|⟨g',cap',cur,hv',hb0,hblk,hcz,hcm,hcs,htk⟩
   ·rw [hv] at hn;cases hn
   ·have hvv:=hv'
    rw [hv] at hvv
    cases hvv
    have hlt:(zs.take m).length=m:=by simp;omega
    have hfl:=w9 (zs.take m)
    have key:=RepV.list (M:=cF M0 (H.put id ⟨ty,1,zs.map cI,true⟩) (fun i=>if i=id then some o else σ i)) (σ:=fun i=>if i=id then some o else σ i) (N:=(H.put id ⟨ty,1,zs.map cI,true⟩).al) (w:=w')
     ⟨g',0,none⟩ cap 1 ((zs.take m).map (Value.int .i64)) ((zs.take m).map cI) (by simp;omega) hcm (fun c hc=>(by obtain ⟨x,_,rfl⟩:=bG.1 hc;rfl)) (by rw [hfl];simp)
     (fun u hu=>(by obtain ⟨x,_,rfl⟩:=bG.1 hu;rfl))
     (fun j u hu=>by
      refine ⟨?_,?_⟩
      ·rintro (hm0|⟨i,k',o',hk',hf,ho',hb'⟩)
       ·exact (hR.lt id o g' ho (by simp [Ow.block,hv,Value.ownBlock])).2 hm0
       ·by_cases hi:i=id
        ·simp only [AHeap.put,hi,if_true,aX] at hk'
         subst hk';cases hf
        ·simp only [hi,if_false] at ho'
         exact hi (hR.inj i id o' o g' ho' ho hb' (by simp [Ow.block,hv,Value.ownBlock]))
      ·have:=hrow'.cells (g:=g') (by simp [hv,Value.ownBlock]) j u (by
        rw [aR] at hu ⊢
        rw [bM] at hu
        split at hu
        ·exact hu
        ·simp at hu)
       exact this)
     (wY (zs.take m)).rep
    simp only [bW,hlt] at key
    exact key
end
end Go.Abs
end
section
namespace Go.Abs
section
variable {P:Program} {M0:Nat→Prop} {H:AHeap} {σ:Nat→Option Ow} {w:World}
structure Made (M:Nat→Prop) (w w':World) (v:Value) (b:Blk) (xs:List Value):Prop where
 row:w'.ownsRow w.heap.size b.ty b.sz v b.es.length xs
 one:∀ u∈xs,u.oneCell'=true
 rep:RepL M gS p7 w' xs b.es.flatten
 cl:D.clLL b.es=true
 sz:∀ c∈b.es,c.length=b.sz
theorem KQ {f:FuncId}{args:List D}{ty:TypeId}{sz:Nat}{es:List (List D)}{Q:D→AHeap→Prop}(hp:Own P f args ty sz es)(hcl:D.clL args=true)(q:Nat)(hq:¬ H.al q)
  (hQ:Q (.own q es.length) (H.push q ⟨ty,sz,es,false⟩)):ACalls P f args H Q:=by
 refine ⟨hp.1,fun M0 σ w vals hR ha=>(hp.2 (cF M0 H σ) w vals (tX hR) (gK (fun _ h=>h) ha hcl)).mono fun e w' ⟨v,xs,he,hrow,h1,hrep,hcll,hsz,hb⟩=>?_⟩
 have hrow0:w'.ownsRow 0 ty sz v es.length xs:=⟨hrow.1,hrow.2.imp (fun x=>x) fun ⟨g,cap,cur,a,b,c⟩=>⟨g,cap,cur,a,dF _,c⟩⟩
 have hbk:∀ b,v.ownBlock=some b→w.heap.size≤b:=fun b hb'=>by
  rcases hrow.2 with hn|⟨g,cap,cur,h1,h2,h3⟩
  ·rw [hn.1] at hb';simp [Value.ownBlock] at hb'
  ·rw [h1] at hb';simp only [Value.ownBlock,aX] at hb';omega
 have hG:∀ ad,¬ (cF M0 H σ ad∨v.ownBlock=some ad)→¬ cF M0 (H.push q ⟨ty,sz,es,false⟩) (fun i=>if i=q then some ⟨es.length,v,sz,ty⟩ else σ i) ad:=by
  intro ad hm h
  rcases h with h|⟨i,k',o',hk',hf,ho',hb'⟩
  ·exact hm (.inl (.inl h))
  ·by_cases hii:i=q
   ·simp only [hii,if_true,aX] at ho'
    subst ho'
    exact hm (.inr hb')
   ·simp only [hii,if_false] at ho'
    simp only [AHeap.push,hii,if_false] at hk'
    exact hm (.inl (.inr ⟨i,k',o',hk',hf,ho',hb'⟩))
 have hclF:D.clL es.flatten=true:=AT fun d hd=>by
  obtain ⟨c,hcm,hxm⟩:=iD.1 hd
  exact iK (n3 hcll c hcm) d hxm
 obtain ⟨p1,p2,p3⟩:=Rel.pushG hR q hq (w':=w') hb.os hb.tape hb.output hb.size hb.block ⟨ty,sz,es,false⟩ ⟨es.length,v,sz,ty⟩
  hbk rfl rfl rfl hsz xs hrow0 h1 (fun hk=>gK hG hrep hclF)
 exact ⟨v,_,_,_,he,p1,.own v _ _ (.inl rfl) (by rcases hrow.2 with ⟨hn,_⟩|⟨g,cap,cur,hn,_⟩<;>simp [hn,Value.oneCell']) (fun o ho=>by simp at ho;subst ho;exact .inr ⟨rfl,rfl⟩),p2,p3,hQ⟩
theorem ACalls.bump {f:FuncId}{args:List D}{Q:D→AHeap→Prop}(k:Nat)(h:ACalls P f args ⟨H.next+k,H.al,H.get⟩ Q):ACalls P f args H Q :=
 ⟨h.1,fun M0 σ w vals hR ha=>h.2 M0 σ w vals (hR.bump (m:=H.next+k) (by omega)) ha⟩
theorem ACalls.frz {f:FuncId}{args:List D}{Q:D→AHeap→Prop}(h:ACalls P f (args.map (g6 H)) (eV (args.flatMap dE) H) Q):ACalls P f args H Q:=by
 refine ⟨h.1,fun M0 σ w vals hR ha=>?_⟩
 obtain ⟨f1,f2,f3,f4⟩:=fF (args.flatMap dE) hR
 refine (h.2 M0 σ w vals f1 (DG hR ha _ fun i h=>h)).mono fun e w' ⟨v,d,H',σ',he,h1,hv,hs,hk,hq⟩=>?_
 exact ⟨v,d,H',σ',he,h1,hv,hs,f2.trans hk,hq⟩
end
section
variable {P:Program} {md:Nat→Bool} {ops:Array Oper} {sp:List (Nat × Nat)} {n0 i:Nat} {rest:List Oper} {acc:List (Nat × List Nat)} {e:dA} {dst:Option Tmp} {K:dA→AHeap→Prop} {f:FuncId} {args args':List D} {H H':AHeap}
theorem G5 (ha:args.map (g6 H)=args')(hz:eV (args.flatMap dE) H=H')(h:fE P md ops rest e dst K f args' H'):fE P md ops rest e dst K f args H:=by
 subst ha;subst hz;unfold fE at h ⊢;exact ACalls.frz h
theorem Cj {ty:TypeId}{sz:Nat}{es:List (List D)}(q:Nat)(hp:Own P f args ty sz es)(hcl:D.clL args=true)(hmd:Bh md dst=true)(hq:q<n0)(hal:¬ H.al q)(hc:Fd sp i [q] acc)
  (h:iX P md ops sp n0 (i+1) rest ((i,[q]) :: acc) (mJ e dst (.own q es.length)) (H.push q ⟨ty,sz,es,false⟩) K):nS P md ops sp n0 i rest acc e dst K f args H:=by
 unfold nS
 exact Or.inr ⟨hmd,.own q es.length,[],[],[(q,⟨ty,sz,es,false⟩)],(fun _ h=>by cases h),fun p hp=>(by
   have:p=(q,⟨ty,sz,es,false⟩):=by simpa using hp
   subst this;exact ⟨hq,hal⟩),
  fun H' _ hn=>KQ hp hcl q (hn (q,⟨ty,sz,es,false⟩) (by simp)).2 ⟨rfl,rfl⟩,hc,h⟩
end
theorem EZ (i:Nat):AHeap.emp.al i↔False:=Iff.rfl
theorem mY (H:AHeap)(i j:Nat)(k:Blk):(H.push i k).al j↔j=i∨H.al j:=Iff.rfl
theorem qM (H:AHeap)(i j:Nat)(k:Blk):(H.put i k).al j↔H.al j:=Iff.rfl
theorem Hc (n:Nat)(al:Nat→Prop)(g:Nat→Option Blk)(j:Nat):(AHeap.mk n al g).al j↔al j:=Iff.rfl
end Go.Abs
end
section
namespace Go.Abs
def Vt (id:Nat):D→D
 | .own 0 n=>.own id n
 | d=>d
section
variable {P:Program} {M0:Nat→Prop} {H:AHeap} {σ:Nat→Option Ow} {w:World}
theorem Qb (id n:Nat):Vt id (.own 0 n)=.own id n:=rfl
theorem NQ (k:Blk):(AHeap.emp.push 0 k).get 0=some k:=rfl
theorem Rh {f : FuncId} {args : List D} {k k' : Blk} {r : D} {id : Nat} {Q : D → AHeap → Prop}
    (h : ACalls P f args (AHeap.emp.push 0 k) fun d H' => oF H' d = r ∧ r.cl = true ∧ 0 ∉ Bf d ∧ H'.get 0 = some k')
    (hargs : ∀ d ∈ args, d.cl = true ∨ d = .own 0 k.es.length) (hk : k.fz = false) (hk' : k'.fz = false) (hcl : D.clLL k.es = true) (hfl : ∀ d ∈ k'.es.flatten, d.flat = true) (hg : H.get id = some k) (hQ : Q r (H.put id k')) :
    ACalls P f (args.map (Vt id)) H Q := by
  refine ⟨h.1, fun M0 σ w vals hR ha => ?_⟩
  obtain ⟨o, ho, l⟩ := hR.lies id k hg
  obtain ⟨xs, hrow, hx1, hrep⟩ := l.row
  obtain ⟨σ0, hσ0⟩ : ∃ s : Nat → Option Ow, s = fun i => if i = 0 then some o else none := ⟨_, rfl⟩
  obtain ⟨M1, hM1⟩ : ∃ m : Nat → Prop, m = fun b => cF M0 H σ b ∧ o.block ≠ some b := ⟨_, rfl⟩
  have s0 : σ0 0 = some o := by rw [hσ0]; rfl
  have sn : ∀ i o', σ0 i = some o' → i = 0 ∧ o' = o := fun i o' hi => by
    rw [hσ0] at hi
    by_cases h0 : i = 0
    · simp only [h0, if_true, aX] at hi; exact ⟨h0, hi.symm⟩
    · simp only [h0, if_false] at hi; cases hi
  have g0 : ∀ i k1, (AHeap.emp.push 0 k).get i = some k1 → i = 0 ∧ k1 = k := fun i k1 hi => by
    by_cases h0 : i = 0
    · subst h0; rw [NQ] at hi; exact ⟨rfl, (Option.some.inj hi).symm⟩
    · simp [AHeap.push, AHeap.emp, h0] at hi
  have hob : ∀ b, o.block = some b → cF M0 H σ b := fun b hb => .inr ⟨id, k, o, hg, hk, ho, hb⟩
  have hmut : ∀ b, cF M1 (AHeap.emp.push 0 k) σ0 b → cF M0 H σ b := by
    rintro b (hb | ⟨i, k1, o1, hk1, hf, ho1, hb⟩)
    · rw [hM1] at hb; exact hb.1
    · obtain ⟨_, rfl⟩ := sn i o1 ho1
      exact hob b hb
  have hcF : ∀ {es : List (List D)}, D.clLL es = true → D.clL es.flatten = true := fun {es} hc => AT fun d hd => by
    obtain ⟨c, hcm, hxm⟩ := iD.1 hd
    exact iK (n3 hc c hcm) d hxm
  have hR0 : Rel M1 (AHeap.emp.push 0 k) σ0 w := by
    refine ⟨fun i hi => ?_, fun i hi => ?_, fun i k1 hk1 => ?_, fun i j oi oj b hi hj hbi hbj => ?_, fun i oi b hi hbi => ?_, fun b hb => ?_⟩
    · have h0 : i ≠ 0 := fun e => hi (.inl e)
      exact ⟨by rw [hσ0]; simp [h0], by simp [AHeap.push, AHeap.emp, h0]⟩
    · rcases hi with hi | hi
      · subst hi; simp [AHeap.push, AHeap.emp]
      · exact hi.elim
    · obtain ⟨h0, h1⟩ := g0 i k1 hk1
      subst h0; subst h1
      exact ⟨o, s0, l.ver, l.ty, l.sz, l.esz, xs, hrow, hx1, gK (fun b hb hb' => hb (hmut b hb')) hrep (hcF hcl)⟩
    · rw [(sn i oi hi).1, (sn j oj hj).1]
    · obtain ⟨_, rfl⟩ := sn i oi hi
      exact ⟨(hR.lt id oi b ho hbi).1, fun hb => by rw [hM1] at hb; exact hb.2 hbi⟩
    · rw [hM1] at hb; exact tX hR b hb.1
  have ha0 : RepL (cF M1 (AHeap.emp.push 0 k) σ0) σ0 (AHeap.emp.push 0 k).al w vals args := by
    refine ⟨by simpa using ha.len, fun j u d hu hd => ?_⟩
    have hj := ha.rep j u (Vt id d) hu (by rw [aR, hd]; rfl)
    rcases hargs d (aJ hd) with hc | rfl
    · have hren : Vt id d = d := by cases d <;> first | rfl | (simp [D.cl] at hc)
      rw [hren] at hj
      exact hj.closed (fun ad u hm hu => ⟨fun hm' => hm (hmut _ hm'), hu⟩) hc
    · rw [Qb] at hj
      cases hj
      rename_i h1 hN hv
      exact .own u _ _ (.inl rfl) (by first | exact h1 | exact hN) fun o1 ho1 => by
        obtain ⟨_, rfl⟩ := sn 0 o1 ho1
        exact hv o1 ho
  refine (h.2 M1 σ0 w vals hR0 ha0).mono fun e w' ⟨v, d, H', σ', he, hR', hv, hst, hkp, hr, hrcl, hr0, hg'⟩ => ?_
  obtain ⟨o', ho', l'⟩ := hR'.lies 0 k' hg'
  obtain ⟨xs', hrow', hx1', hrep'⟩ := l'.row
  obtain ⟨o2, ho2, hle⟩ := hkp.own 0 o' (.inl rfl) ho'
  rw [s0] at ho2
  cases ho2
  have hgr : w.grownBy w' o.block := ⟨hst.os, hst.tape, hst.output, hst.size, fun b hb hne => hst.old b hb fun i o1 hi => by
    obtain ⟨_, rfl⟩ := sn i o1 hi
    exact fun hb' => hne (by first | simpa using hb' | exact hb'.symm | exact hb')⟩
  have hnew : ∀ b, o'.block = some b → o.block = some b ∨ w.heap.size ≤ b := fun b hb => by
    rcases hst.new 0 o' b ho' hb with h1 | ⟨j1, o1, h1, h2⟩
    · exact .inr h1
    · obtain ⟨_, rfl⟩ := sn j1 o1 h1; exact .inl h2
  obtain ⟨p1, p2, p3⟩ := Rel.put hR hg hk ho k' o' hgr hnew hle l'.ver l'.ty l'.sz l'.esz xs' hrow' hx1'
    ⟨hrep'.len, fun j u d hu hd => wI (hrep'.rep j u d hu hd) (hfl d (aJ hd))⟩
  have hv' := q7 hR' hv (Bf d) fun i hi => hi
  rw [hr] at hv'
  obtain ⟨_, _, _, f4⟩ := fF (Bf d) hR'
  refine ⟨v, r, _, _, he, p1, hv'.closed (fun ad u hm hu => ⟨fun hm' => hm ?_, hu⟩) hrcl, p2, p3, hQ⟩
  rcases hm' with h0 | ⟨i, k1, o1, hk1, hf, ho1, hb⟩
  · left
    rw [hM1]
    exact ⟨.inl h0, fun hb => (hR.lt id o _ ho hb).2 h0⟩
  · by_cases hi : i = id
    · simp only [hi, if_true, aX] at ho1
      subst ho1
      right
      obtain ⟨f41, f42⟩ := f4 0
      rw [hg'] at f41
      cases hq : (eV (Bf d) H').get 0 with
      | none => rw [hq] at f41; cases f41
      | some kq =>
        refine ⟨0, kq, o', hq, ?_, ho', hb⟩
        rw [y4 _ _ 0 hr0, hg'] at hq
        cases hq
        exact hk'
    · simp only [hi, if_false] at ho1
      simp only [AHeap.put, hi, if_false] at hk1
      left
      rw [hM1]
      exact ⟨.inr ⟨i, k1, o1, hk1, hf, ho1, hb⟩, fun hb' => hi (hR.inj i id o1 o _ ho1 ho hb hb')⟩
end
section
variable {P:Program} {M0:Nat→Prop} {H:AHeap} {σ:Nat→Option Ow} {w:World}
end
section
variable {P:Program} {md:Nat→Bool} {ops:Array Oper} {sp:List (Nat × Nat)} {n0 i:Nat} {rest:List Oper} {acc:List (Nat × List Nat)} {e:dA} {dst:Option Tmp} {K:dA→AHeap→Prop} {f:FuncId} {args args':List D} {H:AHeap}
end
theorem F1 {P:Program}{f:FuncId}{args:List D}{H H':AHeap}{Q:D→AHeap→Prop}(hg:Ghosts H H')(h:ACalls P f args H' Q):ACalls P f args H Q :=
 ⟨h.1,fun M0 σ w vals hR ha=>by
  obtain ⟨σ1,g1,g2,g3⟩:=t7 hg hR
  exact (h.2 M0 σ1 w vals g1 (ha.keep g3)).mono fun e w' ⟨v,d,H1,σ2,he,h1,hv,hs,hk,hq⟩=>⟨v,d,H1,σ2,he,h1,hv,g2.trans hs,g3.trans hk,hq⟩⟩
theorem uC {P:Program}{md:Nat→Bool}{ops:Array Oper}{rest:List Oper}{e:dA}{dst:Option Tmp}{K:dA→AHeap→Prop}{f:FuncId}{args:List D}{H H':AHeap}(hg:Ghosts H H')(h:fE P md ops rest e dst K f args H'):fE P md ops rest e dst K f args H:=by
 unfold fE at h ⊢;exact F1 hg h
end Go.Abs
end
section
namespace Go.Abs
mutual
def lR:D→D
 | .nil=>.list []
 | .agg cs=>.agg (jE cs)
 | .tup cs=>.tup (jE cs)
 | .list es=>.list (eO es)
 | d=>d
def jE:List D→List D
 | []=>[]
 | d :: l=>lR d :: jE l
def eO:List (List D)→List (List D)
 | []=>[]
 | c :: l=>jE c :: eO l
end
theorem Ah (l:List D):jE l=l.map lR:=by
 induction l with
 | nil=>rfl
 | cons a l ih=>simp [jE,ih]
theorem Bg (l:List (List D)):eO l=l.map jE:=by
 induction l with
 | nil=>rfl
 | cons a l ih=>simp [eO,ih]
theorem D1 (l:List (List D)):(eO l).flatten=l.flatten.map lR:=by
 induction l with
 | nil=>rfl
 | cons a l ih=>simp only [eO,dU,ih,List.map_append,Ah]
theorem ML {M:Nat→Prop}{σ:Nat→Option Ow}{N:Nat→Prop}{w:World}{v:Value}{d:D}(h:RepV M σ N w v d):RepV M σ N w v (lR d):=by
 have hm:∀ {vs:List Value} {ds:List D},(∀ (j:Nat) (u:Value) (d:D),vs[j]?=some u→ds[j]?=some d→RepV M σ N w u (lR d)) →
   ∀ (j:Nat) (u:Value) (d:D),vs[j]?=some u→(ds.map lR)[j]?=some d→RepV M σ N w u d:=by
  intro vs ds ih j u d hu hd
  rw [aR,bD] at hd
  obtain ⟨y,hy,rfl⟩:=hd
  exact ih j u y hu hy
 induction h with
 | int=>simp only [lR];exact .int _ _
 | bool=>simp only [lR];exact .bool _
 | str=>simp only [lR];exact .str _
 | agg vs ds hl h1 _ ih =>
  simp only [lR,Ah]
  exact .agg vs _ (by simp [hl]) h1 (hm ih)
 | tup vs ds hl _ ih =>
  simp only [lR,Ah]
  exact .tup vs _ (by simp [hl]) (hm ih)
 | nil=>simp only [lR];exact .listN
 | listN=>simp only [lR,eO];exact .listN
 | list ad cap sz xs es hc hm' hsz hl h1 hcell _ ih =>
  simp only [lR]
  have hlen:(eO es).length=es.length:=by rw [Bg,bW]
  have:=RepV.list (M:=M) (σ:=σ) (N:=N) (w:=w) ad cap sz xs (eO es) (by rw [hlen];exact hc) hm' (fun c hc'=>by
   rw [Bg,bG] at hc'
   obtain ⟨y,hy,rfl⟩:=hc'
   rw [Ah,bW];exact hsz y hy) (by rw [D1,bW];exact hl) h1 hcell (by rw [D1];exact hm ih)
  rwa [hlen] at this
 | adr ad xs ds hl h1 hcell hr ih=>simp only [lR];exact .adr ad xs ds hl h1 hcell hr
 | ne ad cap hm=>simp only [lR];exact .ne ad cap hm
 | nilp=>simp only [lR];exact .nilp
 | ptr v id ver i off hN h1 h=>simp only [lR];exact .ptr v id ver i off hN h1 h
 | own v id n hN h1 h=>simp only [lR];exact .own v id n hN h1 h
 | win v id ver lo hi hN h1 hlh h=>simp only [lR];exact .win v id ver lo hi hN h1 hlh h
 | fn f vs ds hl hr ih=>simp only [lR];exact .fn f vs ds hl hr
 | nilf=>simp only [lR];exact .nilf
 | opt v g d hf h ih=>simp only [lR];exact .opt v g d hf h
 | cst v=>simp only [lR];exact .cst v
 | junk v=>simp only [lR];exact .junk v
theorem vY {P:Program}{f:FuncId}{args:List D}{r:D}(hcl:r.cl=true)(h:∀ Q:D→AHeap→Prop,(∀ d H',lR (oF H' d)=r→Q d H')→ACalls P f args .emp Q):Pure P f args r:=by
 have h:=h (fun d H'=>lR (oF H' d)=r) fun _ _ h=>h
 refine ⟨h.1,fun M w vals hM ha=>(h.2 M gS w vals (C1 M w hM) (by rw [C3];exact ha)).mono fun e w' ⟨v,d,H',σ',he,hR,hv,hst,hk,hr⟩=>⟨v,he,?_,wW hst⟩⟩
 have h1:RepV (cF M (eV (Bf d) H') σ') σ' (eV (Bf d) H').al w' v r:=by
  have h0:=ML (q7 hR hv (Bf d) fun i hi=>hi)
  rw [hr] at h0;exact h0
 exact h1.closed (fun ad u hm hc=>⟨fun h=>hm (.inl h),hc⟩) hcl
attribute [go_sem] lR jE eO
end Go.Abs
end
section
namespace Go.Abs
def zX (H:AHeap)(d:D):D :=
 match d with
 | .ptr id ver i off=>match eQ H (.ptr id ver i off) with
  | some (c :: cs)=>.adr ((c :: cs).map (eJ H))
  | _=>.ptr id ver i off
 | d=>g6 H d
def Ar (H:AHeap)(d:D):List Nat :=
 match d with
 | .ptr id ver i off=>id :: (match eQ H (.ptr id ver i off) with|some cs=>cs.flatMap jL|none=>[])
 | d=>dE d
section
variable {P:Program} {M0:Nat→Prop} {H:AHeap} {σ:Nat→Option Ow} {w:World}
theorem I7 {v : Value} {d : D} (hR : Rel M0 H σ w) (hx : RepV (cF M0 H σ) σ H.al w v d) (ids : List Nat) (hi : ∀ i ∈ Ar H d, i ∈ ids) :
    RepV (cF M0 (eV ids H) σ) σ (eV ids H).al w v (zX H d) := by
  obtain ⟨h1, h2, h3, h4⟩ := fF ids hR
  have hx' := hx.keep h2
  have hfr : ∀ i ∈ ids, ∀ k, (eV ids H).get i = some k → k.fz = true := fun i hi k hk => by
    have he := (h4 i).1
    rw [hk] at he
    cases hk0 : H.get i with
    | none => rw [hk0] at he; cases he
    | some k0 =>
      obtain ⟨k', a1, a2, a3⟩ := (h4 i).2 k0 hk0 (.inr hi)
      rw [hk] at a1; cases a1; exact a2
  cases d with
  | ptr id ver i off =>
    have hs := AI (fun i => (h4 i).1) (.ptr id ver i off)
    simp only [zX]
    cases hc : eQ H (.ptr id ver i off) with
    | none => exact hx'
    | some cs =>
      cases cs with
      | nil => exact hx'
      | cons c cs =>
        rw [hc] at hs
        have hin : ∀ y ∈ c :: cs, ∀ q ∈ jL y, q ∈ ids := fun y hy q hq => hi q (by simp only [Ar, hc, aT, bT]; exact .inr ⟨y, aT.1 hy, hq⟩)
        have hid : id ∈ ids := hi id (by simp only [Ar]; exact kL ..)
        obtain ⟨ad, xs, hv, hrep, hone, hcell⟩ := n8 h1 hx' hs (by simp)
        have hP := vL h1 hx' fun q hq k hk => hfr q (by simp only [Qt, bL] at hq; subst hq; exact hid) k hk
        simp only [A8, hs] at hP
        cases hP with
        | adr ad' xs' ds hl' hone' hcell' hrep' =>
          refine .adr ad' xs' _ (by simpa using hl') hone' hcell' fun j u x hu hx => ?_
          rw [aR, bD] at hx
          obtain ⟨y, hy, rfl⟩ := hx
          rw [← nJ (fun i => (h4 i).1) y]
          exact kS h1 (hrep' j u y hu hy) fun q hq k hk => hfr q (hin y (aJ hy) q hq) k hk
  | _ => exact kQ hR hx ids hi
theorem NC {vals:List Value}{args:List D}(hR:Rel M0 H σ w)(ha:RepL (cF M0 H σ) σ H.al w vals args)(ids:List Nat)(hi:∀ i∈args.flatMap (Ar H),i∈ids) :
  RepL (cF M0 (eV ids H) σ) σ (eV ids H).al w vals (args.map (zX H)) :=
 ⟨by simpa using ha.len,fun j u d hu hd=>by
  rw [aR,bD] at hd
  obtain ⟨y,hy,rfl⟩:=hd
  exact I7 hR (ha.rep j u y hu hy) ids fun i hii=>hi i (bT.2 ⟨y,aJ hy,hii⟩)⟩
theorem AV {f:FuncId}{args:List D}{r:D}{Q:D→AHeap→Prop}(hp:Pure P f (args.map (zX H)) r)(hcl:D.clL (args.map (zX H))=true)(hf:r.flat=true)(hQ:Q r H):ACalls P f args H Q:=by
 refine ⟨hp.1,fun M0 σ w vals hR ha=>?_⟩
 obtain ⟨f1,f2,f3,f4⟩:=fF (args.flatMap (Ar H)) hR
 refine (hp.2 (cF M0 (eV (args.flatMap (Ar H)) H) σ) w vals (tX f1) (gK (fun _ h=>h) (NC hR ha _ fun i h=>h) hcl)).mono fun e w' ⟨v,he,hv,hb⟩=>?_
 obtain ⟨h1,h2,h3⟩:=hR.grow hb.os hb.tape hb.output hb.size hb.block
 exact ⟨v,r,H,σ,he,h1,wI hv hf,h2,h3,hQ⟩
theorem Cm {md:Nat→Bool}{ops:Array Oper}{rest:List Oper}{e:dA}{dst:Option Tmp}{K:dA→AHeap→Prop}{f:FuncId}{args args':List D}{r:D}(hp:Pure P f args' r)(ha:args.map (zX H)=args')(hcl:D.clL args'=true)(hf:r.flat=true)
  (h:lL P md ops rest (mJ e dst r) H K):fE P md ops rest e dst K f args H:=by subst ha;unfold fE;exact AV hp hcl hf h
theorem Mx {H:AHeap}{d:D}(h:∀ a b c e,d≠.ptr a b c e):zX H d=g6 H d:=by cases d<;>first|rfl|exact absurd rfl (h _ _ _ _)
theorem Qs {H:AHeap}{d:D}(h:∀ a b c e,d≠.ptr a b c e):Ar H d=dE d:=by cases d<;>first|rfl|exact absurd rfl (h _ _ _ _)
theorem Lm {S : List Nat} {H H' : AHeap} {d : D} (ha : fA S H' H) (hd : ∀ x ∈ Ar H d, x ∈ S) : zX H' d = zX H d := by
  by_cases hp : ∀ a b c e, d ≠ .ptr a b c e
  · rw [Mx hp, Mx hp]
    rw [Qs hp] at hd
    exact DA ha hd
  · obtain ⟨id, ver, i, off, rfl⟩ : ∃ a b c e, d = .ptr a b c e := by
      refine bE fun hn => hp fun a b c e he => hn ⟨a, b, c, e, he⟩
    have h0 := ha id (hd id (by simp only [Ar]; exact kL ..))
    have hs : eQ H' (.ptr id ver i off) = eQ H (.ptr id ver i off) := by simp only [eQ, h0]
    simp only [zX, hs]
    cases hc : eQ H (.ptr id ver i off) with
    | none => rfl
    | some cs =>
      cases cs with
      | nil => rfl
      | cons c cs =>
        simp only
        congr 1
        exact bU fun y hy => tQ ha fun x hx => hd x (by simp only [Ar, hc, aT, bT]; exact .inr ⟨y, aT.1 hy, hx⟩)
theorem r5 {md:Nat→Bool}{ops:Array Oper}{sp:List (Nat × Nat)}{n0 i:Nat}{rest:List Oper}{acc:List (Nat × List Nat)}{e:dA}{dst:Option Tmp}{K:dA→AHeap→Prop}{f:FuncId}{args args':List D}{H:AHeap}{r:D}{t:Bool}
  (hp:t=true→Pure P f args' r) (ha:args.map (zX H)=args') (hcl:t=true→D.clL args'=true) (hf:t=true→r.flat=true) {S:List Nat} (hS:args.flatMap (Ar H)=S) (hc:Fd sp i S acc)
  (h:iX P md ops sp n0 (i+1) rest ((i,S) :: acc) (mJ e dst (.opt t r)) H K):rN P md ops sp n0 i rest acc e dst K t f args H:=by
 subst ha hS
 unfold rN
 refine ⟨r,_,fun ht H' hag=>?_,hc,h⟩
 have he:args.map (zX H')=args.map (zX H):=bU fun d hm=>Lm hag fun x hx=>bT.2 ⟨d,hm,hx⟩
 exact AV (by rw [he];exact hp ht) (by rw [he];exact hcl ht) (hf ht) ⟨rfl,rfl⟩
end
attribute [go_sem] Ar
end Go.Abs
end
section
namespace Go.Abs
def nC (H:AHeap)(d:D):D :=
 match d with
 | .own id n=>match H.get id with
  | some k=>if k.es.length=n then .list (k.es.map (·.map (eJ H))) else .own id n
  | none=>.own id n
 | d=>eJ H d
def H9 (H:AHeap)(d:D):List Nat :=
 match d with
 | .own id n=>id :: (match H.get id with|some k=>k.es.flatten.flatMap jL|none=>[])
 | d=>jL d
def iV (H:AHeap):D→D
 | .agg cs=>.agg (cs.map (nC H))
 | d=>nC H d
def Em (H:AHeap):D→List Nat
 | .agg cs=>cs.flatMap (H9 H)
 | d=>H9 H d
def gQ (H:AHeap):D→D
 | .tup vs=>.tup (vs.map (iV H))
 | d=>iV H d
def yF (H:AHeap):D→List Nat
 | .tup vs=>vs.flatMap (Em H)
 | d=>Em H d
section
variable {P:Program} {M0:Nat→Prop} {H:AHeap} {σ:Nat→Option Ow} {w:World}
theorem RepV.list_map {M:Nat→Prop}{N:Nat→Prop}{v:Value}{es:List (List D)}{f:D→D}(h:RepV M σ N w v (.list es))(hf:∀ y∈es.flatten,∀ u,RepV M σ N w u y→RepV M σ N w u (f y)) :
  RepV M σ N w v (.list (es.map (·.map f))):=by
 have hfl:(es.map (·.map f)).flatten=es.flatten.map f:=List.map_flatten.symm
 cases h with
 | listN=>exact .listN
 | list ad cap sz xs es hc hm hsz hl h1 hcell hr =>
  have:=RepV.list (M:=M) (σ:=σ) (N:=N) (w:=w) ad cap sz xs (es.map (·.map f)) (by simpa using hc) hm (fun c hc'=>by
   rw [bG] at hc';obtain ⟨y,hy,rfl⟩:=hc';rw [bW];exact hsz y hy) (by rw [hfl,bW];exact hl) h1 hcell (fun j u d hu hd=>by
   rw [hfl,aR,bD] at hd
   obtain ⟨y,hy,rfl⟩:=hd
   exact hf y (aJ hy) u (hr j u y hu hy))
  rw [bW] at this
  exact this
theorem P9 {d:D}(h:∀ a b,d≠.own a b):nC H d=eJ H d:=by cases d<;>first|rfl|exact absurd rfl (h _ _)
theorem Qr {d:D}(h:∀ a b,d≠.own a b):H9 H d=jL d:=by cases d<;>first|rfl|exact absurd rfl (h _ _)
theorem BR {v : Value} {d : D} (hR : Rel M0 H σ w) (hx : RepV (cF M0 H σ) σ H.al w v d) (ids : List Nat) (hi : ∀ i ∈ H9 H d, i ∈ ids) :
    RepV (cF M0 (eV ids H) σ) σ (eV ids H).al w v (nC H d) := by
  obtain ⟨h1, h2, h3, h4⟩ := fF ids hR
  have hx' := hx.keep h2
  have hfr : ∀ i ∈ ids, ∀ k, (eV ids H).get i = some k → k.fz = true := fun i hi k hk => by
    have he := (h4 i).1
    rw [hk] at he
    cases hk0 : H.get i with
    | none => rw [hk0] at he; cases he
    | some k0 =>
      obtain ⟨k', a1, a2, a3⟩ := (h4 i).2 k0 hk0 (.inr hi)
      rw [hk] at a1; cases a1; exact a2
  by_cases ho : ∀ a b, d ≠ .own a b
  · rw [P9 ho, ← nJ (fun i => (h4 i).1) d]
    rw [Qr ho] at hi
    exact kS h1 hx' fun i hii k hk => hfr i (hi i hii) k hk
  · obtain ⟨id, n, rfl⟩ : ∃ a b, d = .own a b := by
      refine bE fun hn => ho fun a b he => hn ⟨a, b, he⟩
    have hL := kS h1 hx' fun i hii k hk => hfr i (hi i (by
      simp only [jL, bL] at hii; subst hii; simp only [H9]; exact kL ..)) k hk
    rw [nJ (fun i => (h4 i).1)] at hL
    simp only [nC, eJ] at hL ⊢
    cases hk : H.get id with
    | none => rw [hk] at hL; exact hL
    | some k =>
      rw [hk] at hL
      simp only at hL ⊢
      split
      · rename_i hn
        rw [if_pos hn] at hL
        refine hL.list_map fun y hy u hu => ?_
        rw [← nJ (fun i => (h4 i).1) y]
        exact kS h1 hu fun i hii k' hk' => hfr i (hi i (by
          simp only [H9, hk, aT, bT]; exact .inr ⟨y, hy, hii⟩)) k' hk'
      · rename_i hn
        rw [if_neg hn] at hL; exact hL
theorem zW {v : Value} {d : D} (hR : Rel M0 H σ w) (hx : RepV (cF M0 H σ) σ H.al w v d) (ids : List Nat) (hi : ∀ i ∈ Em H d, i ∈ ids) :
    RepV (cF M0 (eV ids H) σ) σ (eV ids H).al w v (iV H d) := by
  cases d with
  | agg cs =>
    obtain ⟨h1, h2, h3, h4⟩ := fF ids hR
    cases hx with
    | agg vs ds hl h1 hr =>
      refine .agg vs _ (by simpa using hl) h1 fun j u x hu hd => ?_
      rw [aR, bD] at hd
      obtain ⟨y, hy, rfl⟩ := hd
      exact BR hR (hr j u y hu hy) ids fun i hii => hi i (by simp only [Em, bT]; exact ⟨y, aJ hy, hii⟩)
  | _ => exact BR hR hx ids hi
theorem HD {v : Value} {d : D} (hR : Rel M0 H σ w) (hx : RepV (cF M0 H σ) σ H.al w v d) (ids : List Nat) (hi : ∀ i ∈ yF H d, i ∈ ids) :
    RepV (cF M0 (eV ids H) σ) σ (eV ids H).al w v (gQ H d) := by
  cases d with
  | tup cs =>
    cases hx with
    | tup vs ds hl hr =>
      refine .tup vs _ (by simpa using hl) fun j u x hu hd => ?_
      rw [aR, bD] at hd
      obtain ⟨y, hy, rfl⟩ := hd
      exact zW hR (hr j u y hu hy) ids fun i hii => hi i (by simp only [yF, bT]; exact ⟨y, aJ hy, hii⟩)
  | _ => exact zW hR hx ids hi
theorem ACalls.deep {f:FuncId}{args:List D}{Q:D→AHeap→Prop}(h:ACalls P f args H fun d H'=>Q (gQ H' d) (eV (yF H' d) H')):ACalls P f args H Q :=
 ⟨h.1,fun M0 σ w vals hR ha=>(h.2 M0 σ w vals hR ha).mono fun e w' ⟨v,d,H',σ',he,hR',hv,hst,hk,hq⟩=>by
  obtain ⟨f1,f2,_,_⟩:=fF (yF H' d) hR'
  exact ⟨v,_,_,σ',he,f1,HD hR' hv _ fun _ h=>h,hst,hk.trans f2,hq⟩⟩
end
end Go.Abs
end
section
namespace Go.Abs
theorem wa {a b:Prop}(x:a)(y:b):a∧b:=⟨x,y⟩
section
variable {P:Program} {c:Cfg} {a b:Code} {Q:Exit→dA→AHeap→Prop} {e:dA} {H:AHeap}
theorem wq {t:Bool}{A B:Prop}(h1:A→mE P c a Q e H)(h2:B→mE P c b Q e H)
  (k1:t=true→A:=by (intro h;first|(simp [go_sem] at h;exact h)|exact h)) (k2:t=false→B:=by (intro h;first|(simp [go_sem] at h;exact h)|exact h)) :
  uR P c a b Q e H (.bool t):=aP (fun h=>h1 (k1 h)) (fun h=>h2 (k2 h))
theorem bA (I:Nat→dA→AHeap→Prop)(μ:Nat→Nat)(x0:Nat)(h0:I x0 e H)
  (hs:∀ J:Nat→dA→AHeap→Prop,(∀ x e H,J x e H↔I x e H)→∀ x e H,I x e H→mE P c b (qX (B7 J μ x) Q) e H):yE P c b Q e H :=
 uN I μ x0 h0 (hs I fun _ _ _=>Iff.rfl)
theorem wB {H':AHeap}(hg:Ghosts H H')(I:Nat→dA→AHeap→Prop)(μ:Nat→Nat)(x0:Nat)(h0:I x0 e H')
  (hs:∀ J:Nat→dA→AHeap→Prop,(∀ x e H,J x e H↔I x e H)→∀ x e H,I x e H→mE P c b (qX (B7 J μ x) Q) e H):yE P c b Q e H :=
 LM hg I μ x0 h0 (hs I fun _ _ _=>Iff.rfl)
end
section
variable {p q:Prop}
structure Wh (q:Prop):Prop where
 h:q
theorem wv (k:q→p:=by (intro h;first|(simp [go_sem,seval,Y];exact h)|exact h))(h:q):p:=k h
theorem KS (k:q→p:=by (intro h;first|(simp -implicitDefEqProofs [go_sem,seval,Y];exact h)|exact h))(h:q):p:=k h
theorem wo (k:Wh q→p:=by (intro h;(try simp [go_sem,seval,Y]);(repeat first|intro _|refine ⟨dR,?_⟩);exact h.1))(h:q):p:=k ⟨h⟩
theorem wp (k:Wh q→p:=by (intro h;(try simp [go_sem,seval,Y]);(repeat first|intro _|refine ⟨eZ,?_⟩);exact h.1))(h:q):p:=k ⟨h⟩
theorem F3 (k:Wh q→p:=by (intro h;(try simp -implicitDefEqProofs [go_sem,seval,Y]);(repeat first|intro _|refine ⟨dR,?_⟩);exact h.1))(h:q):p:=k ⟨h⟩
theorem CY (k:Wh q→p:=by (intro h;(try simp -implicitDefEqProofs [go_sem,seval,Y]);(repeat first|intro _|refine ⟨eZ,?_⟩);exact h.1))(h:q):p:=k ⟨h⟩
theorem wl (h:p:=by first|rfl|(simp [go_sem,← List.map_take,← List.map_drop,Y];done)):p:=h
theorem wr (h:p:=by simp [DB,A8,eQ,go_sem,← List.map_take,← List.map_drop,Y]):p:=h
theorem Th (h:p:=by simp [DB,A8,zX,Ar,eQ,go_sem,← List.map_take,← List.map_drop,Y]):p:=h
theorem X1 (h:p:=by simp [go_sem,Y]):p:=h
theorem Wd (h:p:=by simp [go_sem,Ar,eQ,Y]):p:=h
theorem wn (h:p:=by first|omega|(simp [go_sem,seval,Y]<;>omega)):p:=h
theorem wg (h:p:=by and_intros<;>first|omega|(simp [go_sem,seval,Y]<;>omega)):p:=h
theorem wi (h:p:=by first|assumption|omega|(simp [go_sem,Y];done)|(simp_all;done)):p:=h
theorem wj (h:p:=by first|assumption|omega|(simp [go_sem,Y];done)|(simp_all<;>omega)):p:=h
theorem wy (h:p:=by simp [go_sem,Y]<;>first|omega|(rw [aQ];simp<;>omega)|(simp_all<;>omega)):p:=h
end
section
variable {P:Program} {c:Cfg} {a b:Code} {Q:Exit→dA→AHeap→Prop} {e:dA} {H:AHeap} {p:Prop}
theorem c4 {t:Bool}{A B:Prop}(h1:A→mE P c a Q e H)(h2:B→mE P c b Q e H)(k:uR P c a b Q e H (.bool t)→p:=by (intro h;first|(simp [go_sem,seval,Y];exact h)|exact h))
  (k1:t=true→A:=by (intro h;first|(simp [go_sem] at h;exact h)|exact h)) (k2:t=false→B:=by (intro h;first|(simp [go_sem] at h;exact h)|exact h)):p:=k (aP (fun h=>h1 (k1 h)) (fun h=>h2 (k2 h)))
theorem eF {t:Bool}{A B:Prop}(h1:A→mE P c a Q e H)(h2:B→mE P c b Q e H)(k:Wh (uR P c a b Q e H (.bool t))→p:=by (intro h;(try simp [go_sem,seval,Y]);(repeat first|intro _|refine ⟨dR,?_⟩);exact h.1))
  (k1:t=true→A:=by (intro h;first|(simp [go_sem] at h;exact h)|exact h)) (k2:t=false→B:=by (intro h;first|(simp [go_sem] at h;exact h)|exact h)):p:=k ⟨aP (fun h=>h1 (k1 h)) (fun h=>h2 (k2 h))⟩
theorem tG {t:Bool}{A B:Prop}(h1:A→mE P c a Q e H)(h2:B→mE P c b Q e H)(k:Wh (uR P c a b Q e H (.bool t))→p:=by (intro h;(try simp [go_sem,seval,Y]);(repeat first|intro _|refine ⟨eZ,?_⟩);exact h.1))
  (k1:t=true→A:=by (intro h;first|(simp [go_sem] at h;exact h)|exact h)) (k2:t=false→B:=by (intro h;first|(simp [go_sem] at h;exact h)|exact h)):p:=k ⟨aP (fun h=>h1 (k1 h)) (fun h=>h2 (k2 h))⟩
theorem wx {I J:Nat→dA→AHeap→Prop}{m:Nat→Nat}{x:Nat}(hJ:∀ x e H,J x e H↔I x e H)(x':Nat)(hI:I x' e H)(hm:m x'<m x:=by omega):B7 J m x e H:=fR x' hm ((hJ _ _ _).2 hI)
end
end Go.Abs
end
