/- The abstraction layer, part W: the rows that walk a region w -/
import Derived.Test.YtjfaalokjnmdoaaGreatZaAE
import Derived.Test.YtjfaalokjnmdoaaGreatZaAA
import Derived.Sort.OwnSortedInts
set_option linter.unusedVariables false
set_option linter.unusedSimpArgs false
section
namespace Go.Abs
def o7 (P:Program)(md:Nat→Bool)(ops:Array Oper)(sp:List (Nat × Nat))(n0 i:Nat)(rest:List Oper)(acc:List (Nat × List Nat))(e:cY)(dst:Option Tmp)(K:cY→AHeap→Prop)(f:FuncId)(args:List D)(H:AHeap):Prop :=
 (∃ r S,(∀ H',fC S H' H→ACalls P f args H' fun v H1=>v=r∧H1=H')∧Ke sp i S acc∧iS P md ops sp n0 (i+1) rest ((i,S) :: acc) (oW e dst r) H K) ∨
 (Df md dst=true∧∃ r S u q,(∀ p∈u,p.1∈S)∧(∀ p∈q,p.1<n0∧¬ H.al p.1)∧(∀ H',fC S H' H→(∀ p∈q,p.1<H'.next∧¬ H'.al p.1)→ACalls P f args H' fun v H1=>v=r∧H1=(H'.puts u).pushs q) ∧
  Ke sp i (S++q.map (·.1)) acc∧iS P md ops sp n0 (i+1) rest ((i,S++q.map (·.1)) :: acc) (oW e dst r) ((H.puts u).pushs q) K)
def pQ (P:Program)(md:Nat→Bool)(ops:Array Oper)(sp:List (Nat × Nat))(n0 i:Nat)(rest:List Oper)(acc:List (Nat × List Nat))(e:cY)(dst:Option Tmp)(K:cY→AHeap→Prop)(t:Bool)(f:FuncId)(args:List D)(H:AHeap):Prop :=
 ∃ r S,(t=true→∀ H',fC S H' H→ACalls P f args H' fun v H1=>v=r∧H1=H')∧Ke sp i S acc∧iS P md ops sp n0 (i+1) rest ((i,S) :: acc) (oW e dst (.opt t r)) H K
def IJ (nid:Nat)(e:cY)(o:Oper):List Nat:=foot nid (match o.guard with|none=>e|some _=>gE e o.op) o.op
def qY (P:Program)(md:Nat→Bool)(ops:Array Oper)(sp:List (Nat × Nat))(n0 i:Nat)(rest:List Oper)(acc:List (Nat × List Nat))(e:cY)(dst:Option Tmp)(H:AHeap)(K:cY→AHeap→Prop)(F:List Nat):SOut→Prop
 | .op o=>o.cond∧Ke sp i F acc∧iS P md ops sp n0 (i+1) rest ((i,F) :: acc) (oW e dst o.val) o.heap K
 | .call f args=>o7 P md ops sp n0 i rest acc e dst K f args H
 | .gop t g o=>(t=true→g=true)∧(t=true→o.cond∧o.heap=H)∧Ke sp i F acc∧iS P md ops sp n0 (i+1) rest ((i,F) :: acc) (oW e dst (.opt t o.val)) H K
 | .gcall t g f args=>(t=true→g=true)∧pQ P md ops sp n0 i rest acc e dst K t f args H
 | .bad=>False
theorem OZ (P : Program) (md : Nat → Bool) (ops : Array Oper) (sp : List (Nat × Nat)) (n0 i : Nat) (o : Oper) (rest : List Oper) (acc : List (Nat × List Nat)) (e : cY) (H : AHeap) (K : cY → AHeap → Prop) :
    iS P md ops sp n0 i (o :: rest) acc e H K = qY P md ops sp n0 i rest acc e o.dst H K (IJ (n0 + i) e o) (k6 P md (n0 + i) ops e o H) := by
  obtain ⟨dst, op, type, pos, after, guard⟩ := o
  cases guard with
  | none =>
    simp only [iS, nC, k6, IJ]
    cases hc : f7 e { dst := dst, op := op, type := type, pos := pos, after := after, guard := none } with
    | none => simp [Js, qY]
    | some p => simp [Js, qY, o7]
  | some p =>
    obtain ⟨j, b⟩ := p
    simp only [iS, nC, k6, IJ]
    cases hg : gD ops e j with
    | none => simp [GR, qY]
    | some gc =>
      obtain ⟨t, c'⟩ := gc
      simp only
      cases hc : f7 (gE e op) { dst := dst, op := op, type := type, pos := pos, after := after, guard := some (j, b) } with
      | none => simp [GR, qY]
      | some p => simp [GR, qY, pQ]
@[go_sem] theorem Vi (P:Program)(md:Nat→Bool)(ops:Array Oper)(sp:List (Nat × Nat))(n0 i:Nat)(acc:List (Nat × List Nat))(e:cY)(H:AHeap)(K:cY→AHeap→Prop):iS P md ops sp n0 i [] acc e H K=K e H:=rfl
section
variable (P:Program) (md:Nat→Bool) (ops:Array Oper) (sp:List (Nat × Nat)) (n0 i:Nat) (rest:List Oper) (acc:List (Nat × List Nat)) (e:cY) (dst:Option Tmp) (H H':AHeap) (K:cY→AHeap→Prop) (F:List Nat) (c f:Prop) (v:D) (t g:Bool) (fn:FuncId) (args:List D)
@[go_sem] theorem VY:qY P md ops sp n0 i rest acc e dst H K F (.op ⟨c,f,v,H'⟩)=(c∧Ke sp i F acc∧iS P md ops sp n0 (i+1) rest ((i,F) :: acc) (oW e dst v) H' K):=rfl
@[go_sem] theorem Ub:qY P md ops sp n0 i rest acc e dst H K F (.call fn args)=o7 P md ops sp n0 i rest acc e dst K fn args H:=rfl
@[go_sem] theorem U5:qY P md ops sp n0 i rest acc e dst H K F (.gop t g ⟨c,f,v,H'⟩) =
  ((t=true→g=true)∧(t=true→c∧H'=H)∧Ke sp i F acc∧iS P md ops sp n0 (i+1) rest ((i,F) :: acc) (oW e dst (.opt t v)) H K):=rfl
@[go_sem] theorem TB:qY P md ops sp n0 i rest acc e dst H K F (.gcall t g fn args)=((t=true→g=true)∧pQ P md ops sp n0 i rest acc e dst K t fn args H):=rfl
@[go_sem] theorem Uh (d:Option Tmp)(op:Op)(ty:TypeId)(p:String)(af:Array Edge)(gu:Option (Nat × Bool)) :
  iS P md ops sp n0 i (⟨d,op,ty,p,af,gu⟩ :: rest) acc e H K=qY P md ops sp n0 i rest acc e d H K (IJ (n0+i) e ⟨d,op,ty,p,af,gu⟩) (k6 P md (n0+i) ops e ⟨d,op,ty,p,af,gu⟩ H):=OZ P md ops sp n0 i _ rest acc e H K
@[go_sem] theorem Ya:Ke [] i F acc=True:=rfl
end
@[go_sem] theorem Xf (p:Nat × Nat)(sp:List (Nat × Nat))(i:Nat)(F:List Nat)(acc:List (Nat × List Nat)):Ke (p :: sp) i F acc = ∀ q∈acc,(q.1,i)∈(p :: sp)→∀ x∈q.2,x∉F:=rfl
@[go_sem] theorem U1 (nid:Nat)(e:cY)(d:Option Tmp)(op:Op)(ty:TypeId)(p:String)(af:Array Edge):IJ nid e ⟨d,op,ty,p,af,none⟩=foot nid e op:=rfl
@[go_sem] theorem U0 (nid:Nat)(e:cY)(d:Option Tmp)(op:Op)(ty:TypeId)(p:String)(af:Array Edge)(g:Nat × Bool):IJ nid e ⟨d,op,ty,p,af,some g⟩=foot nid (gE e op) op:=rfl
attribute [go_sem] foot Fj oS Op.operands Call.operands
@[go_sem] theorem UT (k:IntKind)(n:Int):dW (.int k n)=[]:=rfl
@[go_sem] theorem T6 (b:Bool):dW (.bool b)=[]:=rfl
@[go_sem] theorem UO (b:ByteArray):dW (.str b)=[]:=rfl
@[go_sem] theorem US:dW .nil=[]:=rfl
@[go_sem] theorem T3 (es:List (List D)):dW (.list es)=[]:=rfl
@[go_sem] theorem UV (es:List D):dW (.adr es)=[]:=rfl
@[go_sem] theorem T1:dW .nilp=[]:=rfl
@[go_sem] theorem T2:dW .nilf=[]:=rfl
@[go_sem] theorem VM (f:FuncId)(l:List D):dW (.fn f l)=[]:=rfl
@[go_sem] theorem UQ (id n:Nat):dW (.own id n)=[id]:=rfl
@[go_sem] theorem UM (id n lo hi:Nat):dW (.win id n lo hi)=[id]:=rfl
@[go_sem] theorem UP (id v i o:Nat):dW (.ptr id v i o)=[id]:=rfl
@[go_sem] theorem UU (l:List D):dW (.agg l)=l.flatMap iW:=rfl
@[go_sem] theorem UR (t:Bool)(d:D):dW (.opt t d)=[]:=rfl
@[go_sem] theorem T5:dW .junk=[]:=rfl
@[go_sem] theorem UN (l:List D):dW (.tup l)=[]:=rfl
/-! ### guards -/
def gV:D→Option (Bool × Bool)
 | .bool c=>some (true,c)
 | .opt g (.bool c)=>some (g,c)
 | _=>none
def gT (e:cY):Option Tmp→Option (Bool × Bool)
 | some t=>gV (e t)
 | none=>none
@[go_sem] theorem X5 (e:cY)(t:Nat):gT e (some t)=gV (e t):=rfl
@[go_sem] theorem X4 (c:Bool):gV (.bool c)=some (true,c):=rfl
@[go_sem] theorem Zd (g c:Bool):gV (.opt g (.bool c))=some (g,c):=rfl
section
variable (P:Program) (md:Nat→Bool) (nid:Nat) (ops:Array Oper) (e:cY) (d:Option Tmp) (op:Op) (ty:TypeId) (p:String) (af:Array Edge) (H:AHeap) (j:Nat) (b:Bool)
@[go_sem] theorem Un:k6 P md nid ops e ⟨d,op,ty,p,af,some (j,b)⟩ H =
  GR (gD ops e j) b (Rd e (gO op)) (f7 (gE e op) ⟨d,op,ty,p,af,none⟩) (DZ P nid md (gE e op) ⟨d,op,ty,p,af,none⟩ H):=rfl
@[go_sem] theorem Ze (l:List Oper):gD l.toArray e j=gT e ((l[j]?).bind (·.dst)):=by
 unfold gD gT
 rw [List.getElem?_toArray]
 cases (l[j]?).bind (·.dst) with
 | none=>rfl
 | some t=>simp only [gV];rfl
end
@[go_sem] theorem Vn (t c b g:Bool)(f:FuncId)(args:List D)(o:AOut):GR (some (t,c)) b g (some (f,args)) o=.gcall (t&&(c==b)) g f args:=rfl
@[go_sem] theorem Xn (t c b g:Bool)(o:AOut):GR (some (t,c)) b g none o=.gop (t&&(c==b)) g o:=rfl
attribute [go_sem] gE gO Operand.tmp.injEq Rd og f7 DZ Option.bind_some jN GD dU zS beq_false beq_true beq_self_eq_true
 fE Bool.and_self mI p8
@[go_sem] theorem Vk (e:cY)(d:Option Tmp)(v:D)(t:Nat):CW (oW e d v) t=match oW e d v t with | .opt _ d=>d|d=>d:=rfl
@[go_sem] theorem Um (l:List D)(t:Nat):CW (yX l) t=match yX l t with | .opt _ d=>d|d=>d:=rfl
section
variable {P:Program} {md:Nat→Bool} {ops:Array Oper} {sp:List (Nat × Nat)} {n0 i:Nat} {rest:List Oper} {acc:List (Nat × List Nat)} {e:cY} {dst:Option Tmp} {K:cY→AHeap→Prop} {f:FuncId} {args args':List D} {H:AHeap} {r:D}
theorem IV:Ke sp i [] acc:=by
 unfold Ke
 cases sp with
 | nil=>trivial
 | cons=>intro p hp _ x _;simp
theorem aM (hp:Pure P f args r)(hcl:D.clL args=true)(h:iS P md ops sp n0 (i+1) rest ((i,[]) :: acc) (oW e dst r) H K):o7 P md ops sp n0 i rest acc e dst K f args H :=
 .inl ⟨r,[],fun H' _=>nG hp hcl ⟨rfl,rfl⟩,IV,h⟩
theorem c9 {t:Bool}(hp:t=true→Pure P f args r)(hcl:t=true→D.clL args=true)(h:iS P md ops sp n0 (i+1) rest ((i,[]) :: acc) (oW e dst (.opt t r)) H K):pQ P md ops sp n0 i rest acc e dst K t f args H :=
 ⟨r,[],fun ht H' _=>nG (hp ht) (hcl ht) ⟨rfl,rfl⟩,IV,h⟩
theorem aN {t:Bool}(hp:t=true→Pure P f args r)(hcl:t=true→D.clL args=true)(h:lR P md ops rest (oW e dst (.opt t r)) H K):xG P md ops rest e dst K t f args H:=by
 unfold xG
 exact .inl ⟨r,[],fun ht H' _=>nG (hp ht) (hcl ht) ⟨rfl,rfl⟩,h⟩
theorem J5 {t:Bool}(h1:t=true→ACalls P f args H fun v H1=>lR P md ops rest (oW e dst (.opt true v)) H1 K)(h2:t=false→∃ r,lR P md ops rest (oW e dst (.opt false r)) H K):xG P md ops rest e dst K t f args H:=by
 unfold xG
 exact .inr ⟨h1,h2⟩
theorem nT {S:List Nat}{H':AHeap}(ha:fC S H' H){d:D}(hd:∀ x∈iW d,x∈S):gQ H' d=gQ H d:=by
 cases d<;>try rfl
 ·rename_i id n
  have:=ha id (hd id (by simp [iW]))
  simp only [gQ,this]
 ·rename_i id n lo hi
  have:=ha id (hd id (by simp [iW]))
  simp only [gQ,this]
theorem qG {S:List Nat}{H':AHeap}(ha:fC S H' H){d:D}(hd:∀ x∈dO d,x∈S):gX H' d=gX H d:=by
 cases d<;>try rfl
 case own id n=>exact nT (d:=.own id n) ha hd
 case win id n lo hi=>exact nT (d:=.win id n lo hi) ha hd
 case agg l =>
  simp only [gX]
  congr 1
  exact bR fun x hx=>nT ha fun y hy=>hd y (by simp only [dO,bU];exact ⟨x,hx,hy⟩)
theorem Gt {S:List Nat}{H':AHeap}(ha:fC S H' H){l:List D}(hd:∀ x∈l.flatMap dO,x∈S):l.map (gX H')=l.map (gX H) :=
 bR fun d hm=>qG ha fun x hx=>hd x (bU.2 ⟨d,hm,hx⟩)
theorem Ka (hp:Pure P f args' r)(ha:args.map (gX H)=args')(hcl:D.clL args'=true)(hf:r.flat=true){S:List Nat}(hS:args.flatMap dO=S)(hc:Ke sp i S acc)
  (h:iS P md ops sp n0 (i+1) rest ((i,S) :: acc) (oW e dst r) H K):o7 P md ops sp n0 i rest acc e dst K f args H:=by
 subst ha hS
 refine .inl ⟨r,_,fun H' hag=>?_,hc,h⟩
 have he:=Gt hag fun x hx=>hx
 exact BH (by rw [he];exact hp) (by rw [he];exact hcl) hf ⟨rfl,rfl⟩
end
/-! ### calls of function values -/
def PD:D→List D→Option (FuncId × List D)
 | .fn g caps,az=>some (g,az++caps)
 | _,_=>none
@[go_sem] theorem Xg (g:FuncId)(caps az:List D):PD (.fn g caps) az=some (g,az++caps):=rfl
theorem OJ (e:cY)(d:Option Tmp)(f:Operand)(args:Array Operand)(ts:Array TypeId)(ty:TypeId)(p:String)(af:Array Edge)(g:Option (Nat × Bool)) :
  f7 e ⟨d,.call ⟨.value f,args,ts⟩,ty,p,af,g⟩=PD (eX e f) (args.toList.map (eX e)):=by
 simp only [f7,PD]
 cases eX e f<;>rfl
@[go_sem] theorem Xr (P:Program)(md:Nat→Bool)(nid:Nat)(ops:Array Oper)(e:cY)(d:Option Tmp)(ty:TypeId)(p:String)(af:Array Edge)(H:AHeap)(t:Nat)(args:Array Operand)(ts:Array TypeId) :
  k6 P md nid ops e ⟨d,.call ⟨.value (.tmp t),args,ts⟩,ty,p,af,none⟩ H=Js (PD (e t) (args.toList.map (eX e))) (.bad H):=by
 simp only [k6,OJ]
 rfl
attribute [go_sem] decide_eq_true_eq oF kI
attribute [irreducible] o7 pQ
end Go.Abs
end
section
namespace Go.Abs
attribute [go_sem] D.cell D.cl D.clL D.clLL D.flat D.flat1 qC pA rG List.take_zero List.drop_succ_cons List.drop_zero jY List.replicate_zero dR List.flatten_nil
def dI (n:Int):D:=.int .i64 n
def dE (n:Int):D:=.int .i64 n
def cI (n:Int):List D:=[.int .i64 n]
def cS (s:ByteArray):List D:=[.str s]
def dLI (xs:List Int):D:=.list (xs.map cI)
def o8 (xs:List ByteArray):D:=.list (xs.map cS)
structure Attr where
 name:ByteArray
 low:Int
 high:Int
 names:List ByteArray
def Attr.c (a:Attr):List D:=[.str a.name,dI a.low,dI a.high,o8 a.names]
structure NodeTy where
 name:ByteArray
 parent:Int
 abs:Bool
 attrs:List Attr
def NodeTy.c (n:NodeTy):List D:=[.str n.name,dI n.parent,.bool n.abs,.list (n.attrs.map Attr.c)]
structure EdgeTy where
 name:ByteArray
 from_:Int
 to_:Int
 outLow:Int
 outHigh:Int
 inLow:Int
 inHigh:Int
def EdgeTy.c (x:EdgeTy):List D:=[.str x.name,dI x.from_,dI x.to_,dI x.outLow,dI x.outHigh,dI x.inLow,dI x.inHigh]
structure Types where
 nodes:List NodeTy
 edges:List EdgeTy
def Types.c (t:Types):List D:=[.list (t.nodes.map NodeTy.c),.list (t.edges.map EdgeTy.c)]
def Types.d (t:Types):D:=.agg t.c
structure Edge where
 type:Int
 from_:Int
 to_:Int
def Edge.c (x:Edge):List D:=[dI x.type,dI x.from_,dI x.to_]
structure Graph where
 nodes:List Int
 edges:List Edge
def Graph.c (g:Graph):List D:=[dLI g.nodes,.list (g.edges.map Edge.c)]
def Graph.d (g:Graph):D:=.agg g.c
/-! ### closed -/
theorem dA {α:Type}(f:α→List D)(h:∀ a,D.clL (f a)=true)(l:List α):D.clLL (l.map f)=true:=by
 induction l with
 | nil=>rfl
 | cons a l ih=>simp [D.clLL,h,ih]
@[go_sem] theorem n3 (l:List Int):(dLI l).cl=true:=by simp only [dLI,D.cl];exact dA _ (fun _=>rfl) l
@[go_sem] theorem Sq (l:List ByteArray):(o8 l).cl=true:=by simp only [o8,D.cl];exact dA _ (fun _=>rfl) l
@[go_sem] theorem Attr.cl (a:Attr):D.clL a.c=true:=by simp [Attr.c,D.clL,D.cl,dI,Sq]
@[go_sem] theorem NodeTy.cl (n:NodeTy):D.clL n.c=true:=by simp [NodeTy.c,D.clL,D.cl,dI,dA _ Attr.cl]
@[go_sem] theorem EdgeTy.cl (x:EdgeTy):D.clL x.c=true:=by simp [EdgeTy.c,D.clL,D.cl,dI]
@[go_sem] theorem Types.cl (t:Types):t.d.cl=true:=by simp [Types.d,Types.c,D.clL,D.cl,dA _ NodeTy.cl,dA _ EdgeTy.cl]
@[go_sem] theorem Edge.cl (x:Edge):D.clL x.c=true:=by simp [Edge.c,D.clL,D.cl,dI]
@[go_sem] theorem Graph.cl (g:Graph):g.d.cl=true:=by simp [Graph.d,Graph.c,D.clL,D.cl,n3,dA _ Edge.cl]
@[go_sem] theorem V9 (a b:D)(l:List D):Em (a :: b :: l)=.tup (a :: b :: l):=rfl
end Go.Abs
end
section
namespace Go.Abs
structure Term where
 var:Int
 add:Int
def Term.c (x:Term):List D:=[dI x.var,dI x.add]
structure Slot where
 node:Int
 attr:Int
 term:Term
def Slot.c (x:Slot):List D:=[dI x.node,dI x.attr,dI x.term.var,dI x.term.add]
structure Test where
 kind:Int
 left:Term
 right:Term
def Test.c (x:Test):List D:=[dI x.kind,dI x.left.var,dI x.left.add,dI x.right.var,dI x.right.add]
structure Pattern where
 graph:Graph
 slots:List Slot
 vars:Int
 tests:List Test
def Pattern.c (p:Pattern):List D:=[dLI p.graph.nodes,.list (p.graph.edges.map Edge.c),.list (p.slots.map Slot.c),dI p.vars,.list (p.tests.map Test.c)]
def Pattern.d (p:Pattern):D:=.agg p.c
structure Part where
 nodes:List Int
 edges:List Int
def Part.c (p:Part):List D:=[dLI p.nodes,dLI p.edges]
def Part.d (p:Part):D:=.agg p.c
inductive Cond where
 | mk (kind:Int) (kids:List Cond) (map:Part) (pattern:Pattern)
def Cond.kind:Cond→Int | .mk k _ _ _=>k
def Cond.kids:Cond→List Cond | .mk _ l _ _=>l
def Cond.map:Cond→Part | .mk _ _ m _=>m
def Cond.pattern:Cond→Pattern | .mk _ _ _ p=>p
mutual
def Cond.c:Cond→List D
 | .mk k l m p=>[dI k,.list (Cond.cs l),dLI m.nodes,dLI m.edges,dLI p.graph.nodes,.list (p.graph.edges.map Edge.c),.list (p.slots.map Slot.c),dI p.vars,.list (p.tests.map Test.c)]
def Cond.cs:List Cond→List (List D)
 | []=>[]
 | c :: l=>c.c :: Cond.cs l
end
theorem Cond.cs_eq (l:List Cond):Cond.cs l=l.map Cond.c:=by
 induction l with
 | nil=>simp [Cond.cs]
 | cons a l ih=>simp [Cond.cs,ih]
theorem Cond.c_eq (x:Cond):x.c=[dI x.kind,.list (x.kids.map Cond.c),dLI x.map.nodes,dLI x.map.edges,dLI x.pattern.graph.nodes,.list (x.pattern.graph.edges.map Edge.c),.list (x.pattern.slots.map Slot.c),dI x.pattern.vars,.list (x.pattern.tests.map Test.c)]:=by
 cases x;simp [Cond.c,Cond.kind,Cond.kids,Cond.map,Cond.pattern,Cond.cs_eq]
structure Rule where
 name:ByteArray
 left:Pattern
 right:Pattern
 keep:Part
 into:Part
 inj:Bool
 cond:Cond
def Rule.c (r:Rule):List D:=[.str r.name,dLI r.left.graph.nodes,.list (r.left.graph.edges.map Edge.c),.list (r.left.slots.map Slot.c),dI r.left.vars,.list (r.left.tests.map Test.c),
 dLI r.right.graph.nodes,.list (r.right.graph.edges.map Edge.c),.list (r.right.slots.map Slot.c),dI r.right.vars,.list (r.right.tests.map Test.c),
 dLI r.keep.nodes,dLI r.keep.edges,dLI r.into.nodes,dLI r.into.edges,.bool r.inj,
 dI r.cond.kind,.list (r.cond.kids.map Cond.c),dLI r.cond.map.nodes,dLI r.cond.map.edges,dLI r.cond.pattern.graph.nodes,.list (r.cond.pattern.graph.edges.map Edge.c),.list (r.cond.pattern.slots.map Slot.c),dI r.cond.pattern.vars,.list (r.cond.pattern.tests.map Test.c)]
def Rule.d (r:Rule):D:=.agg r.c
structure Stage where
 weights:List Int
 removed:List Int
def Stage.c (s:Stage):List D:=[dLI s.weights,dLI s.removed]
@[go_sem] theorem Slot.cl (x:Slot):D.clL x.c=true:=rfl
@[go_sem] theorem Test.cl (x:Test):D.clL x.c=true:=rfl
@[go_sem] theorem Ev (l:List Slot):D.clLL (l.map Slot.c)=true:=dA _ Slot.cl l
@[go_sem] theorem KP (l:List Test):D.clLL (l.map Test.c)=true:=dA _ Test.cl l
@[go_sem] theorem Stage.cl (x:Stage):D.clL x.c=true:=by simp [Stage.c,D.clL,n3]
@[go_sem] theorem Vl (l:List Stage):D.clLL (l.map Stage.c)=true:=dA _ Stage.cl l
theorem t8 (l:List Edge):D.clLL (l.map Edge.c)=true:=dA _ Edge.cl l
mutual
theorem Cond.cl:∀ x:Cond,D.clL x.c=true
 | .mk k l m p=>by
  have:=Cond.cls l
  simp [Cond.c,D.clL,D.cl,dI,n3,this,t8,Ev,KP]
theorem Cond.cls:∀ l:List Cond,D.clLL (Cond.cs l)=true
 | []=>by simp [Cond.cs,D.clLL]
 | c :: l=>by simp [Cond.cs,D.clLL,Cond.cl c,Cond.cls l]
end
attribute [go_sem] Cond.cl
@[go_sem] theorem Sr (l:List Cond):D.clLL (l.map Cond.c)=true:=by rw [← Cond.cs_eq];exact Cond.cls l
@[go_sem] theorem Rule.cl (r:Rule):D.clL r.c=true:=by
 simp [Rule.c,D.clL,D.cl,dI,n3,t8,Ev,KP,Sr]
@[go_sem] theorem Wd (l:List Rule):D.clLL (l.map Rule.c)=true:=dA _ Rule.cl l
end Go.Abs
end
section
namespace Go.Abs
def tI (H:AHeap)(d:D):D :=
 match d with
 | .ptr id ver i off=>match eD H (.ptr id ver i off) with
  | some (c :: cs)=>.adr (c :: cs)
  | _=>.ptr id ver i off
 | d=>gQ H d
def QK:D→List Nat
 | .ptr id _ _ _=>[id]
 | d=>iW d
def sP (H:AHeap)(d:D):D :=
 match d with
 | .fn g caps=>.fn g (caps.map (tI H))
 | .ptr id ver i off=>tI H (.ptr id ver i off)
 | d=>gX H d
def Md:D→List Nat
 | .fn _ caps=>caps.flatMap QK
 | .ptr id _ _ _=>[id]
 | d=>dO d
section
variable {P:Program} {M0:Nat→Prop} {H:AHeap} {σ:Nat→Option Ow} {w:World}
theorem Bx {H H':AHeap}(h:∀ i,(H'.get i).map (·.es)=(H.get i).map (·.es))(d:D):eD H' d=eD H d:=by
 cases d<;>try rfl
 rename_i id ver i off
 have:=h id
 simp only [eD]
 cases h1:H.get id<;>cases h2:H'.get id<;>rw [h1,h2] at this<;>simp at this
 ·simp only [this]
theorem wP {v : Value} {d : D} (hR : Rel M0 H σ w) (hx : RepV (c7 M0 H σ) σ H.al w v d) (hf : ∀ i ∈ QK d, ∀ k, H.get i = some k → k.fz = true) :
    RepV (c7 M0 H σ) σ H.al w v (tI H d) := by
  cases d <;> try exact kN hR hx hf
  rename_i id ver i off
  simp only [tI]
  cases hc : eD H (.ptr id ver i off) with
  | none => exact hx
  | some cs =>
    cases cs with
    | nil => exact hx
    | cons c cs =>
      obtain ⟨ad, xs, hv, hrep, h1, hcell⟩ := oA hR hx hc (by simp)
      subst hv
      have hnm : ¬ c7 M0 H σ ad.block := by
        cases hk : H.get id with
        | none => simp [eD, hk] at hc
        | some k =>
          obtain ⟨o, ho, l⟩ := hR.lies id k hk
          have hver : k.es.length = ver := by
            simp only [eD, hk] at hc
            split at hc
            · assumption
            · cases hc
          cases hx
          rename_i hN h1' h
          rcases h o ho with h' | ⟨_, b, hob, hvb⟩
          · have := l.ver; omega
          · cases hvb
            rintro (hm | ⟨i', k', o', hk', hf', ho', hb'⟩)
            · exact (hR.lt id o b ho hob).2 hm
            · have hi := hR.inj i' id o' o b ho' ho hb' hob
              subst hi
              rw [hk] at hk'; cases hk'
              rw [hf i' (by simp [QK]) k hk] at hf'; cases hf'
      exact .adr ad xs _ hrep.len h1 (fun j u hu => ⟨hnm, hcell j u hu⟩) hrep.rep
theorem K3 {v : Value} {d : D} (hR : Rel M0 H σ w) (hx : RepV (c7 M0 H σ) σ H.al w v d) (ids : List Nat) (hi : ∀ i ∈ Md d, i ∈ ids) :
    RepV (c7 M0 (eW ids H) σ) σ (eW ids H).al w v (sP H d) := by
  obtain ⟨h1, h2, h3, h4⟩ := fH ids hR
  have hx' := hx.keep h2
  have hfr : ∀ i ∈ ids, ∀ k, (eW ids H).get i = some k → k.fz = true := fun i hi k hk => by
    have he := (h4 i).1
    rw [hk] at he
    cases hk0 : H.get i with
    | none => rw [hk0] at he; cases he
    | some k0 =>
      obtain ⟨k', a1, a2, a3⟩ := (h4 i).2 k0 hk0 (.inr hi)
      rw [hk] at a1; cases a1; exact a2
  have hsame : ∀ d, tI (eW ids H) d = tI H d := fun d => by
    have hq := nS (fun i => (h4 i).1) d
    cases d with
    | ptr id ver i off => simp only [tI, Bx (fun i => (h4 i).1)]
    | _ => exact hq
  cases d with
  | fn g caps =>
    cases hx'
    rename_i vs hl hr
    refine .fn g vs _ (by simpa using hl) fun j u x hu hx => ?_
    rw [aR, bJ] at hx
    obtain ⟨y, hy, rfl⟩ := hx
    rw [← hsame y]
    refine wP h1 (hr j u y hu hy) fun i hii k hk => hfr i (hi i ?_) k hk
    simp only [Md, bU]
    exact ⟨y, aK hy, hii⟩
  | ptr id ver i off =>
    simp only [sP]
    rw [← hsame]
    exact wP h1 hx' fun i hii k hk => hfr i (hi i hii) k hk
  | _ => exact kM hR hx ids hi
theorem P8 {vals:List Value}{args:List D}(hR:Rel M0 H σ w)(ha:RepL (c7 M0 H σ) σ H.al w vals args)(ids:List Nat)(hi:∀ i∈args.flatMap Md,i∈ids) :
  RepL (c7 M0 (eW ids H) σ) σ (eW ids H).al w vals (args.map (sP H)) :=
 ⟨by simpa using ha.len,fun j u d hu hd=>by
  rw [aR,bJ] at hd
  obtain ⟨y,hy,rfl⟩:=hd
  exact K3 hR (ha.rep j u y hu hy) ids fun i hii=>hi i (bU.2 ⟨y,aK hy,hii⟩)⟩
theorem BI {f:FuncId}{args:List D}{r:D}{Q:D→AHeap→Prop}(hp:Pure P f (args.map (sP H)) r)(hcl:D.clL (args.map (sP H))=true)(hf:r.flat=true)(hQ:Q r H):ACalls P f args H Q:=by
 refine ⟨hp.1,fun M0 σ w vals hR ha=>?_⟩
 obtain ⟨f1,f2,f3,f4⟩:=fH (args.flatMap Md) hR
 refine (hp.2 (c7 M0 (eW (args.flatMap Md) H) σ) w vals (sS f1) (gK (fun _ h=>h) (P8 hR ha _ fun i h=>h) hcl)).mono fun e w' ⟨v,he,hv,hb⟩=>?_
 obtain ⟨h1,h2,h3⟩:=hR.grow hb.os hb.tape hb.output hb.size hb.block
 exact ⟨v,r,H,σ,he,h1,xH hv hf,h2,h3,hQ⟩
theorem mA {md:Nat→Bool}{ops:Array Oper}{rest:List Oper}{e:cY}{dst:Option Tmp}{K:cY→AHeap→Prop}{f:FuncId}{args args':List D}{r:D}(hp:Pure P f args' r)(ha:args.map (sP H)=args')(hcl:D.clL args'=true)(hf:r.flat=true)
  (h:lR P md ops rest (oW e dst r) H K):fB P md ops rest e dst K f args H:=by subst ha;unfold fB;exact BI hp hcl hf h
end
theorem Own.pure {P:Program}{f:FuncId}{args:List D}{ty:TypeId}{sz:Nat}{es:List (List D)}(h:Own P f args ty sz es):Pure P f args (.list es):=by
 refine ⟨h.1,fun M w vals hM ha=>(h.2 M w vals hM ha).mono fun e w' ⟨v,xs,he,hrow,h1,hrep,hcl,hsz,hb⟩=>⟨v,he,?_,hb⟩⟩
 have hclF:D.clL es.flatten=true:=GC fun d hd=>by
  obtain ⟨c,hcm,hxm⟩:=kG.1 hd
  exact j8 (rF hcl c hcm) d hxm
 have hrep':RepL M gB pM w' xs es.flatten:=gK (fun b h h'=>h (.inl h')) hrep hclF
 rcases hrow.2 with ⟨hnil,h0⟩|⟨g,cap,cur,hval,hg,hcells,hnc,hcm,hsz',htake⟩
 ·rw [hnil,bW h0];exact .listN
 ·rw [hval]
  refine .list ⟨g,0,none⟩ cap sz xs es hnc hcm hsz hrep'.len h1 (fun j u hu=>⟨fun hm=>?_,hrow.cells (g:=g) (by simp [hval,Value.ownBlock]) j u hu⟩) hrep'.rep
  have:=hM g hm
  omega
end Go.Abs
end
section
namespace Go.Abs
def Qo:D→D
 | .nil=>.list []
 | d=>d
def RR:D→D
 | .agg cs=>.agg (cs.map Qo)
 | d=>Qo d
def RQ:D→D
 | .tup vs=>.tup (vs.map RR)
 | d=>RR d
@[go_sem] theorem XO (k:IntKind)(n:Int):Qo (.int k n)=.int k n:=rfl
@[go_sem] theorem WN (b:Bool):Qo (.bool b)=.bool b:=rfl
@[go_sem] theorem XM (b:ByteArray):Qo (.str b)=.str b:=rfl
@[go_sem] theorem WM (l:List (List D)):Qo (.list l)=.list l:=rfl
@[go_sem] theorem XN:Qo .nil=.list []:=rfl
@[go_sem] theorem XK (k:IntKind)(n:Int):RR (.int k n)=.int k n:=rfl
@[go_sem] theorem WL (b:Bool):RR (.bool b)=.bool b:=rfl
@[go_sem] theorem XI (b:ByteArray):RR (.str b)=.str b:=rfl
@[go_sem] theorem WK (l:List (List D)):RR (.list l)=.list l:=rfl
@[go_sem] theorem XJ:RR .nil=.list []:=rfl
@[go_sem] theorem XL (l:List D):RR (.agg l)=.agg (l.map Qo):=rfl
@[go_sem] theorem XG (k:IntKind)(n:Int):RQ (.int k n)=.int k n:=rfl
@[go_sem] theorem WJ (b:Bool):RQ (.bool b)=.bool b:=rfl
@[go_sem] theorem XE (b:ByteArray):RQ (.str b)=.str b:=rfl
@[go_sem] theorem WI (l:List (List D)):RQ (.list l)=.list l:=rfl
@[go_sem] theorem XF:RQ .nil=.list []:=rfl
@[go_sem] theorem XH (l:List D):RQ (.agg l)=.agg (l.map Qo):=rfl
@[go_sem] theorem XD (l:List D):RQ (.tup l)=.tup (l.map RR):=rfl
theorem JR {M:Nat→Prop}{σ:Nat→Option Ow}{N:Nat→Prop}{w:World}{v:Value}{d:D}(h:RepV M σ N w v d):RepV M σ N w v (Qo d):=by
 cases d<;>try exact h
 cases h
 exact .listN
theorem JQ {M:Nat→Prop}{σ:Nat→Option Ow}{N:Nat→Prop}{w:World}{v:Value}{d:D}(h:RepV M σ N w v d):RepV M σ N w v (RR d):=by
 cases d<;>try exact JR h
 cases h
 rename_i vs h1 hl hr
 refine .agg vs _ (by simpa using hl) h1 fun j u d hu hd=>?_
 rw [aR,bJ] at hd
 obtain ⟨y,hy,rfl⟩:=hd
 exact JR (hr j u y hu hy)
theorem Tb {M:Nat→Prop}{σ:Nat→Option Ow}{N:Nat→Prop}{w:World}{v:Value}{d:D}(h:RepV M σ N w v d):RepV M σ N w v (RQ d):=by
 cases d<;>try exact JQ h
 cases h
 rename_i vs hl hr
 refine .tup vs _ (by simpa using hl) fun j u d hu hd=>?_
 rw [aR,bJ] at hd
 obtain ⟨y,hy,rfl⟩:=hd
 exact JQ (hr j u y hu hy)
section
variable {P:Program} {c:Cfg}
theorem TR {f:FuncId}{args:List D}{r:D}(hcl:r.cl=true)(h:∀ Q:D→AHeap→Prop,(∀ d H',(lW H' d=r∨RQ (lW H' d)=r)→Q d H')→ACalls P f args .emp Q):Pure P f args r:=by
 have h:=h (fun d H'=>lW H' d=r∨RQ (lW H' d)=r) fun _ _ h=>h
 refine ⟨h.1,fun M w vals hM ha=>(h.2 M gB w vals (AJ M w hM) (by rw [A5];exact ha)).mono fun e w' ⟨v,d,H',σ',he,hR,hv,hst,hk,hr⟩=>⟨v,he,?_,tE hst⟩⟩
 have h1:RepV (c7 M (eW (AX d) H') σ') σ' (eW (AX d) H').al w' v r:=by
  have h0:=oJ hR hv (AX d) fun i hi=>hi
  rcases hr with hr|hr
  ·rw [hr] at h0;exact h0
  ·have h0:=Tb h0;rw [hr] at h0;exact h0
 exact h1.closed (fun ad u hm hc=>⟨fun h=>hm (.inl h),hc⟩) hcl
theorem Y0 {f:FuncId}{args:List D}{ty:TypeId}{sz:Nat}{es:List (List D)}(hcl:D.clLL es=true)
  (h:∀ Q:D→AHeap→Prop,(∀ id n H',n=es.length→H'.get id=some ⟨ty,sz,es,false⟩→Q (.own id n) H')→ACalls P f args .emp Q):Own P f args ty sz es :=
 AW (h _ fun id n H' hn hg=>⟨id,_,by rw [hn],hg,rfl,rfl,rfl,rfl,hcl⟩)
def Fg (I:Nat→cY→AHeap→Prop)(m:Nat→Nat)(x:Nat)(e:cY)(H:AHeap):Prop:=∃ H',Ghosts H H'∧∃ x',m x'<m x∧I x' e H'
theorem bY {I:Nat→cY→AHeap→Prop}{m:Nat→Nat}{x:Nat}{e:cY}{H:AHeap}(x':Nat)(hm:m x'<m x)(hI:I x' e H):Fg I m x e H:=⟨H,.refl H,x',hm,hI⟩
theorem fZ {b:Code}{Q:Exit→cY→AHeap→Prop}{e:cY}{H:AHeap}(I:Nat→cY→AHeap→Prop)(μ:Nat→Nat)(x0:Nat)(h0:I x0 e H)
  (hs:∀ x e H,I x e H→lT P c b (pC (Fg I μ x) Q) e H):zG P c b Q e H:=A8 (.refl H) I μ x0 h0 hs
theorem uY {b:Code}{Q:Exit→cY→AHeap→Prop}{e:cY}{H H':AHeap}(hg:Ghosts H H')(I:Nat→cY→AHeap→Prop)(μ:Nat→Nat)(x0:Nat)(h0:I x0 e H')
  (hs:∀ x e H,I x e H→lT P c b (pC (Fg I μ x) Q) e H):zG P c b Q e H:=A8 hg I μ x0 h0 hs
end
@[go_sem] theorem VS (H:AHeap)(id i off:Nat)(ty sz:Nat):FP H id i off ty sz=match H.get id with
 | some k=>(H.put id { k with es:=k.es.set i ((k.es[i]?.getD []).set off (.own H.next 0)) }).push H.next ⟨ty,sz,[],false⟩
 | none=>H:=rfl
@[go_sem] theorem UX (H:AHeap)(id i off q hi:Nat):Ah H id i off q hi=match H.get id,H.get q with
 | some k,some kq=>(((H.drop q).push H.next ⟨kq.ty,kq.sz,kq.es.take hi,false⟩).put id { k with es:=k.es.set i ((k.es[i]?.getD []).set off (.own H.next hi)) })
 | _,_=>H:=rfl
attribute [go_sem] List.set_cons_zero tC
attribute [irreducible] Fg
theorem d8 {p:Prop}(h:p:=by (first|assumption|(intros;first|assumption|omega|exact c3 (by omega) (by omega)|(and_intros<;>first|assumption|omega|exact c3 (by omega) (by omega)))|(simp_all<;>omega))):p:=h
theorem eI {p:Prop}(h:p:=by (first|assumption|(intros;first|assumption|omega|exact c3 (by omega) (by omega)|(and_intros<;>first|assumption|omega|exact c3 (by omega) (by omega)))|(simp;done)|(simp;omega))):p:=h
end Go.Abs
end
section
namespace Go.Abs
section
variable {P:Program} {M0:Nat→Prop} {H:AHeap} {σ:Nat→Option Ow} {w:World}
theorem Bf (zs:List Int):(zs.map cI).flatten=zs.map (D.int .i64):=by
 induction zs with
 | nil=>rfl
 | cons a l ih=>simp only [fA,dR,ih,cI,dI];rfl
theorem HY {M:Nat→Prop}{N:Nat→Prop}(zs:List Int):RepL M σ N w (zs.map (Value.int .i64)) (zs.map cI).flatten:=by
 rw [Bf]
 refine ⟨by simp,fun j u d hu hd=>?_⟩
 rw [aR,bJ] at hu hd
 obtain ⟨x,hx,rfl⟩:=hu
 obtain ⟨y,hy,rfl⟩:=hd
 rw [hx] at hy;cases hy
 exact .int _ _
def D2 (w:World)(ty:TypeId)(v:Value)(xs:List Int):Prop:=w.ownsRow 0 ty 1 v xs.length (xs.map (Value.int .i64))
theorem Pd (hR:Rel M0 H σ w){id:Nat}{ty:TypeId}{xs:List Int}(hg:H.get id=some ⟨ty,1,xs.map cI,false⟩){v:Value}(hv:RepV (c7 M0 H σ) σ H.al w v (.own id xs.length)) :
  ∃ o,σ id=some o∧v=o.val∧o.ver=xs.length∧o.ty=ty∧o.esz=1∧D2 w ty v xs:=by
 obtain ⟨o,ho,l⟩:=hR.lies id _ hg
 have hver:o.ver=xs.length:=by have:=l.ver;simpa using this
 cases hv
 rename_i hN h1 h
 rcases h o ho with h'|⟨_,rfl⟩
 ·omega
 ·obtain ⟨us,hrow,hu1,hrep⟩:=l.row
  have hus:us=xs.map (Value.int .i64):=by
   simp only [Bf] at hrep
   apply eK
   intro j
   have hl:=hrep.len
   simp only [bE] at hl
   by_cases hj:j<xs.length
   ·have h2:=hrep.rep j us[j] (D.int .i64 xs[j]) (aA (by omega)) (by simp [hj])
    generalize us[j]=u at h2
    have h3:us[j]?=some us[j]:=aA (by omega)
    have h4:=hrep.rep j us[j] (D.int .i64 xs[j]) h3 (by simp [hj])
    generalize hq:us[j]=q at h3 h4
    rw [h3]
    cases h4
    simp [hj]
   ·rw [aX (by omega),aX (by simp;omega)]
  refine ⟨o,ho,rfl,hver,l.ty,l.sz,?_⟩
  unfold D2
  have hsz:o.esz=1:=l.sz
  rw [hsz,hus] at hrow
  simpa using hrow
theorem K9 {w':World}(hR:Rel M0 H σ w){id:Nat}{ty:TypeId}{xs zs:List Int}(fz:Bool)(hg:H.get id=some ⟨ty,1,xs.map cI,false⟩){o:Ow}(ho:σ id=some o)(hver:o.ver=xs.length)(hty:o.ty=ty)(hsz:o.esz=1)
  (hl:zs.length=xs.length) (hgr:w.grownBy w' o.block) (hrow:D2 w' ty o.val zs) :
  Rel M0 (H.put id ⟨ty,1,zs.map cI,fz⟩) (fun i=>if i=id then some o else σ i) w'∧Stp σ w (fun i=>if i=id then some o else σ i) w' ∧
   Keeps (c7 M0 H σ) σ H.al w (c7 M0 (H.put id ⟨ty,1,zs.map cI,fz⟩) (fun i=>if i=id then some o else σ i)) (fun i=>if i=id then some o else σ i) (H.put id ⟨ty,1,zs.map cI,fz⟩).al w':=by
 refine Rel.put hR hg rfl ho ⟨ty,1,zs.map cI,fz⟩ o hgr (fun b hb=>.inl hb) (.inl rfl) (by simp [hver,hl]) hty hsz (fun c hc=>?_) (zs.map (Value.int .i64)) ?_ (fun u hu=>?_) (HY zs)
 ·obtain ⟨x,_,rfl⟩:=aU.1 hc;rw [hsz];rfl
 ·rw [hsz];simpa [D2] using hrow
 ·obtain ⟨x,_,rfl⟩:=aU.1 hu;rfl
theorem MY {f:FuncId}{id:Nat}{ty:TypeId}{xs zs:List Int}{Q:D→AHeap→Prop}(hent:TM P f)(hg:H.get id=some ⟨ty,1,xs.map cI,false⟩)(hl:zs.length=xs.length)
  (hc:∀ (w:World) (v:Value),D2 w ty v xs→Calls P f #[v] w fun e w'=>e=.returned (.tuple #[])∧w.grownBy w' v.ownBlock∧D2 w' ty v zs)
  (hQ:Q (.tup []) (H.put id ⟨ty,1,zs.map cI,false⟩)):ACalls P f [.own id xs.length] H Q:=by
 refine ⟨hent,fun M0 σ w vals hR ha=>?_⟩
 obtain ⟨hlen,hr⟩:=ha
 match vals,hlen with
 | [v],_ =>
  obtain ⟨o,ho,rfl,hver,hty,hsz,hrow⟩:=Pd hR hg (hr 0 v _ rfl rfl)
  refine (hc w _ hrow).mono fun e w' ⟨he,hgr,hrow'⟩=>?_
  obtain ⟨h1,h2,h3⟩:=K9 hR false hg ho hver hty hsz hl hgr hrow'
  exact ⟨_,.tup [],_,_,he,h1,.tup [] [] rfl (fun j u d hu=>by simp at hu),h2,h3,hQ⟩
theorem Km {f:FuncId}{id:Nat}{ty:TypeId}{xs zs:List Int}{m:Nat}{Q:D→AHeap→Prop}(hent:TM P f)(hg:H.get id=some ⟨ty,1,xs.map cI,false⟩)(hl:zs.length=xs.length)(hm:m≤xs.length)
  (hc:∀ (w:World) (v:Value),D2 w ty v xs→Calls P f #[v] w fun e w'=>(∃ r,e=.returned r∧((v=.slice none 0 0∧r=v)∨∃ g n cap,v=.slice (some g) n cap∧r=.slice (some g) m cap))∧w.grownBy w' v.ownBlock∧D2 w' ty v zs)
  (hQ:Q (.list ((zs.take m).map cI)) (H.put id ⟨ty,1,zs.map cI,true⟩)):ACalls P f [.own id xs.length] H Q:=by
 refine ⟨hent,fun M0 σ w vals hR ha=>?_⟩
 obtain ⟨hlen,hr⟩:=ha
 match vals,hlen with
 | [v],_ =>
  obtain ⟨o,ho,rfl,hver,hty,hsz,hrow⟩:=Pd hR hg (hr 0 v _ rfl rfl)
  refine (hc w _ hrow).mono fun e w' ⟨⟨r,he,hr'⟩,hgr,hrow'⟩=>?_
  obtain ⟨h1,h2,h3⟩:=K9 hR true hg ho hver hty hsz hl hgr hrow'
  refine ⟨r,.list ((zs.take m).map cI),_,_,he,h1,?_,h2,h3,hQ⟩
  rcases hr' with ⟨hv,rfl⟩|⟨g,n,cap,hv,rfl⟩
  ·have hz:zs=[]:=by
    rcases hrow.2 with ⟨_,h0⟩|⟨g',cap',cur,hv',_⟩
    ·exact bW (by omega)
    ·rw [hv] at hv';cases hv'
   subst hz
   rw [hv];simpa using RepV.listN
  ·rcases hrow'.2 with ⟨hn,_⟩|⟨g',cap',cur,hv',hb0,hblk,hcz,hcm,hcs,htk⟩
   ·rw [hv] at hn;cases hn
   ·have hvv:=hv'
    rw [hv] at hvv
    cases hvv
    have hlt:(zs.take m).length=m:=by simp;omega
    have hfl:=Bf (zs.take m)
    have key:=RepV.list (M:=c7 M0 (H.put id ⟨ty,1,zs.map cI,true⟩) (fun i=>if i=id then some o else σ i)) (σ:=fun i=>if i=id then some o else σ i) (N:=(H.put id ⟨ty,1,zs.map cI,true⟩).al) (w:=w')
     ⟨g',0,none⟩ cap 1 ((zs.take m).map (Value.int .i64)) ((zs.take m).map cI) (by simp;omega) hcm (fun c hc=>(by obtain ⟨x,_,rfl⟩:=aU.1 hc;rfl)) (by rw [hfl];simp)
     (fun u hu=>(by obtain ⟨x,_,rfl⟩:=aU.1 hu;rfl))
     (fun j u hu=>by
      refine ⟨?_,?_⟩
      ·rintro (hm0|⟨i,k',o',hk',hf,ho',hb'⟩)
       ·exact (hR.lt id o g' ho (by simp [Ow.block,hv,Value.ownBlock])).2 hm0
       ·by_cases hi:i=id
        ·simp only [AHeap.put,hi,if_true,bH] at hk'
         subst hk';cases hf
        ·simp only [hi,if_false] at ho'
         exact hi (hR.inj i id o' o g' ho' ho hb' (by simp [Ow.block,hv,Value.ownBlock]))
      ·have:=hrow'.cells (g:=g') (by simp [hv,Value.ownBlock]) j u (by
        rw [aR] at hu ⊢
        rw [bF] at hu
        split at hu
        ·exact hu
        ·simp at hu)
       exact this)
     (HY (zs.take m)).rep
    simp only [bE,hlt] at key
    exact key
end
end Go.Abs
end
section
namespace Go.Abs
section
variable {P:Program} {M0:Nat→Prop} {H:AHeap} {σ:Nat→Option Ow} {w:World}
structure Made (M:Nat→Prop) (w w':World) (v:Value) (b:Blk) (xs:List Value):Prop where
 row:w'.ownsRow w.heap.size b.ty b.sz v b.es.length xs
 one:∀ u∈xs,u.oneCell'=true
 rep:RepL M gB pM w' xs b.es.flatten
 cl:D.clLL b.es=true
 sz:∀ c∈b.es,c.length=b.sz
theorem ACalls.bump {f:FuncId}{args:List D}{Q:D→AHeap→Prop}(k:Nat)(h:ACalls P f args ⟨H.next+k,H.al,H.get⟩ Q):ACalls P f args H Q :=
 ⟨h.1,fun M0 σ w vals hR ha=>h.2 M0 σ w vals (hR.bump (m:=H.next+k) (by omega)) ha⟩
theorem ACalls.frz {f:FuncId}{args:List D}{Q:D→AHeap→Prop}(h:ACalls P f (args.map (gX H)) (eW (args.flatMap dO) H) Q):ACalls P f args H Q:=by
 refine ⟨h.1,fun M0 σ w vals hR ha=>?_⟩
 obtain ⟨f1,f2,f3,f4⟩:=fH (args.flatMap dO) hR
 refine (h.2 M0 σ w vals f1 (AF hR ha _ fun i h=>h)).mono fun e w' ⟨v,d,H',σ',he,h1,hv,hs,hk,hq⟩=>?_
 exact ⟨v,d,H',σ',he,h1,hv,hs,f2.trans hk,hq⟩
end
section
variable {P:Program} {md:Nat→Bool} {ops:Array Oper} {sp:List (Nat × Nat)} {n0 i:Nat} {rest:List Oper} {acc:List (Nat × List Nat)} {e:cY} {dst:Option Tmp} {K:cY→AHeap→Prop} {f:FuncId} {args args':List D} {H H':AHeap}
theorem IX (ha:args.map (gX H)=args')(hz:eW (args.flatMap dO) H=H')(h:fB P md ops rest e dst K f args' H'):fB P md ops rest e dst K f args H:=by
 subst ha;subst hz;unfold fB at h ⊢;exact ACalls.frz h
end
theorem OX (i:Nat):AHeap.emp.al i↔False:=Iff.rfl
theorem Kk (H:AHeap)(i j:Nat)(k:Blk):(H.push i k).al j↔j=i∨H.al j:=Iff.rfl
theorem OW (H:AHeap)(i j:Nat)(k:Blk):(H.put i k).al j↔H.al j:=Iff.rfl
theorem SG (n:Nat)(al:Nat→Prop)(g:Nat→Option Blk)(j:Nat):(AHeap.mk n al g).al j↔al j:=Iff.rfl
end Go.Abs
end
section
namespace Go.Abs
def Xy (id:Nat):D→D
 | .own 0 n=>.own id n
 | d=>d
section
variable {P:Program} {M0:Nat→Prop} {H:AHeap} {σ:Nat→Option Ow} {w:World}
theorem S4 (id n:Nat):Xy id (.own 0 n)=.own id n:=rfl
theorem Qk (k:Blk):(AHeap.emp.push 0 k).get 0=some k:=rfl
theorem Ui {f : FuncId} {args : List D} {k k' : Blk} {r : D} {id : Nat} {Q : D → AHeap → Prop}
    (h : ACalls P f args (AHeap.emp.push 0 k) fun d H' => lW H' d = r ∧ r.cl = true ∧ 0 ∉ AX d ∧ H'.get 0 = some k')
    (hargs : ∀ d ∈ args, d.cl = true ∨ d = .own 0 k.es.length) (hk : k.fz = false) (hk' : k'.fz = false) (hcl : D.clLL k.es = true) (hfl : ∀ d ∈ k'.es.flatten, d.flat = true) (hg : H.get id = some k) (hQ : Q r (H.put id k')) :
    ACalls P f (args.map (Xy id)) H Q := by
  refine ⟨h.1, fun M0 σ w vals hR ha => ?_⟩
  obtain ⟨o, ho, l⟩ := hR.lies id k hg
  obtain ⟨xs, hrow, hx1, hrep⟩ := l.row
  obtain ⟨σ0, hσ0⟩ : ∃ s : Nat → Option Ow, s = fun i => if i = 0 then some o else none := ⟨_, rfl⟩
  obtain ⟨M1, hM1⟩ : ∃ m : Nat → Prop, m = fun b => c7 M0 H σ b ∧ o.block ≠ some b := ⟨_, rfl⟩
  have s0 : σ0 0 = some o := by rw [hσ0]; rfl
  have sn : ∀ i o', σ0 i = some o' → i = 0 ∧ o' = o := fun i o' hi => by
    rw [hσ0] at hi
    by_cases h0 : i = 0
    · simp only [h0, if_true, bH] at hi; exact ⟨h0, hi.symm⟩
    · simp only [h0, if_false] at hi; cases hi
  have g0 : ∀ i k1, (AHeap.emp.push 0 k).get i = some k1 → i = 0 ∧ k1 = k := fun i k1 hi => by
    by_cases h0 : i = 0
    · subst h0; rw [Qk] at hi; exact ⟨rfl, (Option.some.inj hi).symm⟩
    · simp [AHeap.push, AHeap.emp, h0] at hi
  have hob : ∀ b, o.block = some b → c7 M0 H σ b := fun b hb => .inr ⟨id, k, o, hg, hk, ho, hb⟩
  have hmut : ∀ b, c7 M1 (AHeap.emp.push 0 k) σ0 b → c7 M0 H σ b := by
    rintro b (hb | ⟨i, k1, o1, hk1, hf, ho1, hb⟩)
    · rw [hM1] at hb; exact hb.1
    · obtain ⟨_, rfl⟩ := sn i o1 ho1
      exact hob b hb
  have hcF : ∀ {es : List (List D)}, D.clLL es = true → D.clL es.flatten = true := fun {es} hc => GC fun d hd => by
    obtain ⟨c, hcm, hxm⟩ := kG.1 hd
    exact j8 (rF hc c hcm) d hxm
  have hR0 : Rel M1 (AHeap.emp.push 0 k) σ0 w := by
    refine ⟨fun i hi => ?_, fun i hi => ?_, fun i k1 hk1 => ?_, fun i j oi oj b hi hj hbi hbj => ?_, fun i oi b hi hbi => ?_, fun b hb => ?_⟩
    · have h0 : i ≠ 0 := fun e => hi (.inl e)
      exact ⟨by rw [hσ0]; simp [h0], by simp [AHeap.push, AHeap.emp, h0]⟩
    · rcases hi with hi | hi
      · subst hi; simp [AHeap.push, AHeap.emp]
      · exact hi.elim
    · obtain ⟨h0, h1⟩ := g0 i k1 hk1
      subst h0; subst h1
      exact ⟨o, s0, l.ver, l.ty, l.sz, l.esz, xs, hrow, hx1, gK (fun b hb hb' => hb (hmut b hb')) hrep (hcF hcl)⟩
    · rw [(sn i oi hi).1, (sn j oj hj).1]
    · obtain ⟨_, rfl⟩ := sn i oi hi
      exact ⟨(hR.lt id oi b ho hbi).1, fun hb => by rw [hM1] at hb; exact hb.2 hbi⟩
    · rw [hM1] at hb; exact sS hR b hb.1
  have ha0 : RepL (c7 M1 (AHeap.emp.push 0 k) σ0) σ0 (AHeap.emp.push 0 k).al w vals args := by
    refine ⟨by simpa using ha.len, fun j u d hu hd => ?_⟩
    have hj := ha.rep j u (Xy id d) hu (by rw [aR, hd]; rfl)
    rcases hargs d (aK hd) with hc | rfl
    · have hren : Xy id d = d := by cases d <;> first | rfl | (simp [D.cl] at hc)
      rw [hren] at hj
      exact hj.closed (fun ad u hm hu => ⟨fun hm' => hm (hmut _ hm'), hu⟩) hc
    · rw [S4] at hj
      cases hj
      rename_i h1 hN hv
      exact .own u _ _ (.inl rfl) (by first | exact h1 | exact hN) fun o1 ho1 => by
        obtain ⟨_, rfl⟩ := sn 0 o1 ho1
        exact hv o1 ho
  refine (h.2 M1 σ0 w vals hR0 ha0).mono fun e w' ⟨v, d, H', σ', he, hR', hv, hst, hkp, hr, hrcl, hr0, hg'⟩ => ?_
  obtain ⟨o', ho', l'⟩ := hR'.lies 0 k' hg'
  obtain ⟨xs', hrow', hx1', hrep'⟩ := l'.row
  obtain ⟨o2, ho2, hle⟩ := hkp.own 0 o' (.inl rfl) ho'
  rw [s0] at ho2
  cases ho2
  have hgr : w.grownBy w' o.block := ⟨hst.os, hst.tape, hst.output, hst.size, fun b hb hne => hst.old b hb fun i o1 hi => by
    obtain ⟨_, rfl⟩ := sn i o1 hi
    exact fun hb' => hne (by first | simpa using hb' | exact hb'.symm | exact hb')⟩
  have hnew : ∀ b, o'.block = some b → o.block = some b ∨ w.heap.size ≤ b := fun b hb => by
    rcases hst.new 0 o' b ho' hb with h1 | ⟨j1, o1, h1, h2⟩
    · exact .inr h1
    · obtain ⟨_, rfl⟩ := sn j1 o1 h1; exact .inl h2
  obtain ⟨p1, p2, p3⟩ := Rel.put hR hg hk ho k' o' hgr hnew hle l'.ver l'.ty l'.sz l'.esz xs' hrow' hx1'
    ⟨hrep'.len, fun j u d hu hd => xH (hrep'.rep j u d hu hd) (hfl d (aK hd))⟩
  have hv' := oJ hR' hv (AX d) fun i hi => hi
  rw [hr] at hv'
  obtain ⟨_, _, _, f4⟩ := fH (AX d) hR'
  refine ⟨v, r, _, _, he, p1, hv'.closed (fun ad u hm hu => ⟨fun hm' => hm ?_, hu⟩) hrcl, p2, p3, hQ⟩
  rcases hm' with h0 | ⟨i, k1, o1, hk1, hf, ho1, hb⟩
  · left
    rw [hM1]
    exact ⟨.inl h0, fun hb => (hR.lt id o _ ho hb).2 h0⟩
  · by_cases hi : i = id
    · simp only [hi, if_true, bH] at ho1
      subst ho1
      right
      obtain ⟨f41, f42⟩ := f4 0
      rw [hg'] at f41
      cases hq : (eW (AX d) H').get 0 with
      | none => rw [hq] at f41; cases f41
      | some kq =>
        refine ⟨0, kq, o', hq, ?_, ho', hb⟩
        rw [Ai _ _ 0 hr0, hg'] at hq
        cases hq
        exact hk'
    · simp only [hi, if_false] at ho1
      simp only [AHeap.put, hi, if_false] at hk1
      left
      rw [hM1]
      exact ⟨.inr ⟨i, k1, o1, hk1, hf, ho1, hb⟩, fun hb' => hi (hR.inj i id o1 o _ ho1 ho hb hb')⟩
end
section
variable {P:Program} {M0:Nat→Prop} {H:AHeap} {σ:Nat→Option Ow} {w:World}
end
section
variable {P:Program} {md:Nat→Bool} {ops:Array Oper} {sp:List (Nat × Nat)} {n0 i:Nat} {rest:List Oper} {acc:List (Nat × List Nat)} {e:cY} {dst:Option Tmp} {K:cY→AHeap→Prop} {f:FuncId} {args args':List D} {H:AHeap}
end
theorem HD {P:Program}{f:FuncId}{args:List D}{H H':AHeap}{Q:D→AHeap→Prop}(hg:Ghosts H H')(h:ACalls P f args H' Q):ACalls P f args H Q :=
 ⟨h.1,fun M0 σ w vals hR ha=>by
  obtain ⟨σ1,g1,g2,g3⟩:=u3 hg hR
  exact (h.2 M0 σ1 w vals g1 (ha.keep g3)).mono fun e w' ⟨v,d,H1,σ2,he,h1,hv,hs,hk,hq⟩=>⟨v,d,H1,σ2,he,h1,hv,g2.trans hs,g3.trans hk,hq⟩⟩
theorem Kf {P:Program}{md:Nat→Bool}{ops:Array Oper}{rest:List Oper}{e:cY}{dst:Option Tmp}{K:cY→AHeap→Prop}{f:FuncId}{args:List D}{H H':AHeap}(hg:Ghosts H H')(h:fB P md ops rest e dst K f args H'):fB P md ops rest e dst K f args H:=by
 unfold fB at h ⊢;exact HD hg h
end Go.Abs
end
section
namespace Go.Abs
mutual
def qL:D→D
 | .nil=>.list []
 | .agg cs=>.agg (nH cs)
 | .tup cs=>.tup (nH cs)
 | .list es=>.list (f6 es)
 | d=>d
def nH:List D→List D
 | []=>[]
 | d :: l=>qL d :: nH l
def f6:List (List D)→List (List D)
 | []=>[]
 | c :: l=>nH c :: f6 l
end
theorem A1 (l:List D):nH l=l.map qL:=by
 induction l with
 | nil=>rfl
 | cons a l ih=>simp [nH,ih]
theorem tQ (l:List (List D)):f6 l=l.map nH:=by
 induction l with
 | nil=>rfl
 | cons a l ih=>simp [f6,ih]
theorem Fc (l:List (List D)):(f6 l).flatten=l.flatten.map qL:=by
 induction l with
 | nil=>rfl
 | cons a l ih=>simp only [f6,dR,ih,List.map_append,A1]
theorem Pl {M:Nat→Prop}{σ:Nat→Option Ow}{N:Nat→Prop}{w:World}{v:Value}{d:D}(h:RepV M σ N w v d):RepV M σ N w v (qL d):=by
 have hm:∀ {vs:List Value} {ds:List D},(∀ (j:Nat) (u:Value) (d:D),vs[j]?=some u→ds[j]?=some d→RepV M σ N w u (qL d)) →
   ∀ (j:Nat) (u:Value) (d:D),vs[j]?=some u→(ds.map qL)[j]?=some d→RepV M σ N w u d:=by
  intro vs ds ih j u d hu hd
  rw [aR,bJ] at hd
  obtain ⟨y,hy,rfl⟩:=hd
  exact ih j u y hu hy
 induction h with
 | int=>simp only [qL];exact .int _ _
 | bool=>simp only [qL];exact .bool _
 | str=>simp only [qL];exact .str _
 | agg vs ds hl h1 _ ih =>
  simp only [qL,A1]
  exact .agg vs _ (by simp [hl]) h1 (hm ih)
 | tup vs ds hl _ ih =>
  simp only [qL,A1]
  exact .tup vs _ (by simp [hl]) (hm ih)
 | nil=>simp only [qL];exact .listN
 | listN=>simp only [qL,f6];exact .listN
 | list ad cap sz xs es hc hm' hsz hl h1 hcell _ ih =>
  simp only [qL]
  have hlen:(f6 es).length=es.length:=by rw [tQ,bE]
  have:=RepV.list (M:=M) (σ:=σ) (N:=N) (w:=w) ad cap sz xs (f6 es) (by rw [hlen];exact hc) hm' (fun c hc'=>by
   rw [tQ,aU] at hc'
   obtain ⟨y,hy,rfl⟩:=hc'
   rw [A1,bE];exact hsz y hy) (by rw [Fc,bE];exact hl) h1 hcell (by rw [Fc];exact hm ih)
  rwa [hlen] at this
 | adr ad xs ds hl h1 hcell hr ih=>simp only [qL];exact .adr ad xs ds hl h1 hcell hr
 | ne ad cap hm=>simp only [qL];exact .ne ad cap hm
 | nilp=>simp only [qL];exact .nilp
 | ptr v id ver i off hN h1 h=>simp only [qL];exact .ptr v id ver i off hN h1 h
 | own v id n hN h1 h=>simp only [qL];exact .own v id n hN h1 h
 | win v id ver lo hi hN h1 hlh h=>simp only [qL];exact .win v id ver lo hi hN h1 hlh h
 | fn f vs ds hl hr ih=>simp only [qL];exact .fn f vs ds hl hr
 | nilf=>simp only [qL];exact .nilf
 | opt v g d hf h ih=>simp only [qL];exact .opt v g d hf h
 | cst v=>simp only [qL];exact .cst v
 | junk v=>simp only [qL];exact .junk v
theorem zZ {P:Program}{f:FuncId}{args:List D}{r:D}(hcl:r.cl=true)(h:∀ Q:D→AHeap→Prop,(∀ d H',qL (lW H' d)=r→Q d H')→ACalls P f args .emp Q):Pure P f args r:=by
 have h:=h (fun d H'=>qL (lW H' d)=r) fun _ _ h=>h
 refine ⟨h.1,fun M w vals hM ha=>(h.2 M gB w vals (AJ M w hM) (by rw [A5];exact ha)).mono fun e w' ⟨v,d,H',σ',he,hR,hv,hst,hk,hr⟩=>⟨v,he,?_,tE hst⟩⟩
 have h1:RepV (c7 M (eW (AX d) H') σ') σ' (eW (AX d) H').al w' v r:=by
  have h0:=Pl (oJ hR hv (AX d) fun i hi=>hi)
  rw [hr] at h0;exact h0
 exact h1.closed (fun ad u hm hc=>⟨fun h=>hm (.inl h),hc⟩) hcl
attribute [go_sem] qL nH f6
end Go.Abs
end
section
namespace Go.Abs
def BV (H:AHeap)(d:D):D :=
 match d with
 | .ptr id ver i off=>match eD H (.ptr id ver i off) with
  | some (c :: cs)=>.adr ((c :: cs).map (gQ H))
  | _=>.ptr id ver i off
 | d=>gX H d
def Bd (H:AHeap)(d:D):List Nat :=
 match d with
 | .ptr id ver i off=>id :: (match eD H (.ptr id ver i off) with|some cs=>cs.flatMap iW|none=>[])
 | d=>dO d
section
variable {P:Program} {M0:Nat→Prop} {H:AHeap} {σ:Nat→Option Ow} {w:World}
theorem K2 {v : Value} {d : D} (hR : Rel M0 H σ w) (hx : RepV (c7 M0 H σ) σ H.al w v d) (ids : List Nat) (hi : ∀ i ∈ Bd H d, i ∈ ids) :
    RepV (c7 M0 (eW ids H) σ) σ (eW ids H).al w v (BV H d) := by
  obtain ⟨h1, h2, h3, h4⟩ := fH ids hR
  have hx' := hx.keep h2
  have hfr : ∀ i ∈ ids, ∀ k, (eW ids H).get i = some k → k.fz = true := fun i hi k hk => by
    have he := (h4 i).1
    rw [hk] at he
    cases hk0 : H.get i with
    | none => rw [hk0] at he; cases he
    | some k0 =>
      obtain ⟨k', a1, a2, a3⟩ := (h4 i).2 k0 hk0 (.inr hi)
      rw [hk] at a1; cases a1; exact a2
  cases d with
  | ptr id ver i off =>
    have hs := Bx (fun i => (h4 i).1) (.ptr id ver i off)
    simp only [BV]
    cases hc : eD H (.ptr id ver i off) with
    | none => exact hx'
    | some cs =>
      cases cs with
      | nil => exact hx'
      | cons c cs =>
        rw [hc] at hs
        have hin : ∀ y ∈ c :: cs, ∀ q ∈ iW y, q ∈ ids := fun y hy q hq => hi q (by simp only [Bd, hc, bB, bU]; exact .inr ⟨y, bB.1 hy, hq⟩)
        have hid : id ∈ ids := hi id (by simp only [Bd]; exact jE ..)
        obtain ⟨ad, xs, hv, hrep, hone, hcell⟩ := oA h1 hx' hs (by simp)
        have hP := wP h1 hx' fun q hq k hk => hfr q (by simp only [QK, cH] at hq; subst hq; exact hid) k hk
        simp only [tI, hs] at hP
        cases hP with
        | adr ad' xs' ds hl' hone' hcell' hrep' =>
          refine .adr ad' xs' _ (by simpa using hl') hone' hcell' fun j u x hu hx => ?_
          rw [aR, bJ] at hx
          obtain ⟨y, hy, rfl⟩ := hx
          rw [← nS (fun i => (h4 i).1) y]
          exact kN h1 (hrep' j u y hu hy) fun q hq k hk => hfr q (hin y (aK hy) q hq) k hk
  | _ => exact kM hR hx ids hi
theorem P7 {vals:List Value}{args:List D}(hR:Rel M0 H σ w)(ha:RepL (c7 M0 H σ) σ H.al w vals args)(ids:List Nat)(hi:∀ i∈args.flatMap (Bd H),i∈ids) :
  RepL (c7 M0 (eW ids H) σ) σ (eW ids H).al w vals (args.map (BV H)) :=
 ⟨by simpa using ha.len,fun j u d hu hd=>by
  rw [aR,bJ] at hd
  obtain ⟨y,hy,rfl⟩:=hd
  exact K2 hR (ha.rep j u y hu hy) ids fun i hii=>hi i (bU.2 ⟨y,aK hy,hii⟩)⟩
theorem Kx {f:FuncId}{args:List D}{r:D}{Q:D→AHeap→Prop}(hp:Pure P f (args.map (BV H)) r)(hcl:D.clL (args.map (BV H))=true)(hf:r.flat=true)(hQ:Q r H):ACalls P f args H Q:=by
 refine ⟨hp.1,fun M0 σ w vals hR ha=>?_⟩
 obtain ⟨f1,f2,f3,f4⟩:=fH (args.flatMap (Bd H)) hR
 refine (hp.2 (c7 M0 (eW (args.flatMap (Bd H)) H) σ) w vals (sS f1) (gK (fun _ h=>h) (P7 hR ha _ fun i h=>h) hcl)).mono fun e w' ⟨v,he,hv,hb⟩=>?_
 obtain ⟨h1,h2,h3⟩:=hR.grow hb.os hb.tape hb.output hb.size hb.block
 exact ⟨v,r,H,σ,he,h1,xH hv hf,h2,h3,hQ⟩
theorem Pb {H:AHeap}{d:D}(h:∀ a b c e,d≠.ptr a b c e):BV H d=gX H d:=by cases d<;>first|rfl|exact absurd rfl (h _ _ _ _)
theorem Tp {H:AHeap}{d:D}(h:∀ a b c e,d≠.ptr a b c e):Bd H d=dO d:=by cases d<;>first|rfl|exact absurd rfl (h _ _ _ _)
theorem NC {S : List Nat} {H H' : AHeap} {d : D} (ha : fC S H' H) (hd : ∀ x ∈ Bd H d, x ∈ S) : BV H' d = BV H d := by
  by_cases hp : ∀ a b c e, d ≠ .ptr a b c e
  · rw [Pb hp, Pb hp]
    rw [Tp hp] at hd
    exact qG ha hd
  · obtain ⟨id, ver, i, off, rfl⟩ : ∃ a b c e, d = .ptr a b c e := by
      refine bP fun hn => hp fun a b c e he => hn ⟨a, b, c, e, he⟩
    have h0 := ha id (hd id (by simp only [Bd]; exact jE ..))
    have hs : eD H' (.ptr id ver i off) = eD H (.ptr id ver i off) := by simp only [eD, h0]
    simp only [BV, hs]
    cases hc : eD H (.ptr id ver i off) with
    | none => rfl
    | some cs =>
      cases cs with
      | nil => rfl
      | cons c cs =>
        simp only
        congr 1
        exact bR fun y hy => nT ha fun x hx => hd x (by simp only [Bd, hc, bB, bU]; exact .inr ⟨y, bB.1 hy, hx⟩)
theorem sZ {md:Nat→Bool}{ops:Array Oper}{sp:List (Nat × Nat)}{n0 i:Nat}{rest:List Oper}{acc:List (Nat × List Nat)}{e:cY}{dst:Option Tmp}{K:cY→AHeap→Prop}{f:FuncId}{args args':List D}{H:AHeap}{r:D}{t:Bool}
  (hp:t=true→Pure P f args' r) (ha:args.map (BV H)=args') (hcl:t=true→D.clL args'=true) (hf:t=true→r.flat=true) {S:List Nat} (hS:args.flatMap (Bd H)=S) (hc:Ke sp i S acc)
  (h:iS P md ops sp n0 (i+1) rest ((i,S) :: acc) (oW e dst (.opt t r)) H K):pQ P md ops sp n0 i rest acc e dst K t f args H:=by
 subst ha hS
 unfold pQ
 refine ⟨r,_,fun ht H' hag=>?_,hc,h⟩
 have he:args.map (BV H')=args.map (BV H):=bR fun d hm=>NC hag fun x hx=>bU.2 ⟨d,hm,hx⟩
 exact Kx (by rw [he];exact hp ht) (by rw [he];exact hcl ht) (hf ht) ⟨rfl,rfl⟩
end
attribute [go_sem] Bd
end Go.Abs
end
section
namespace Go.Abs
def K1 (H:AHeap)(d:D):D :=
 match d with
 | .own id n=>match H.get id with
  | some k=>if k.es.length=n then .list (k.es.map (·.map (gQ H))) else .own id n
  | none=>.own id n
 | d=>gQ H d
def J1 (H:AHeap)(d:D):List Nat :=
 match d with
 | .own id n=>id :: (match H.get id with|some k=>k.es.flatten.flatMap iW|none=>[])
 | d=>iW d
def C0 (H:AHeap):D→D
 | .agg cs=>.agg (cs.map (K1 H))
 | d=>K1 H d
def FJ (H:AHeap):D→List Nat
 | .agg cs=>cs.flatMap (J1 H)
 | d=>J1 H d
def EC (H:AHeap):D→D
 | .tup vs=>.tup (vs.map (C0 H))
 | d=>C0 H d
def zH (H:AHeap):D→List Nat
 | .tup vs=>vs.flatMap (FJ H)
 | d=>FJ H d
section
variable {P:Program} {M0:Nat→Prop} {H:AHeap} {σ:Nat→Option Ow} {w:World}
theorem RepV.list_map {M:Nat→Prop}{N:Nat→Prop}{v:Value}{es:List (List D)}{f:D→D}(h:RepV M σ N w v (.list es))(hf:∀ y∈es.flatten,∀ u,RepV M σ N w u y→RepV M σ N w u (f y)) :
  RepV M σ N w v (.list (es.map (·.map f))):=by
 have hfl:(es.map (·.map f)).flatten=es.flatten.map f:=List.map_flatten.symm
 cases h with
 | listN=>exact .listN
 | list ad cap sz xs es hc hm hsz hl h1 hcell hr =>
  have:=RepV.list (M:=M) (σ:=σ) (N:=N) (w:=w) ad cap sz xs (es.map (·.map f)) (by simpa using hc) hm (fun c hc'=>by
   rw [aU] at hc';obtain ⟨y,hy,rfl⟩:=hc';rw [bE];exact hsz y hy) (by rw [hfl,bE];exact hl) h1 hcell (fun j u d hu hd=>by
   rw [hfl,aR,bJ] at hd
   obtain ⟨y,hy,rfl⟩:=hd
   exact hf y (aK hy) u (hr j u y hu hy))
  rw [bE] at this
  exact this
theorem S2 {d:D}(h:∀ a b,d≠.own a b):K1 H d=gQ H d:=by cases d<;>first|rfl|exact absurd rfl (h _ _)
theorem To {d:D}(h:∀ a b,d≠.own a b):J1 H d=iW d:=by cases d<;>first|rfl|exact absurd rfl (h _ _)
theorem CZ {v : Value} {d : D} (hR : Rel M0 H σ w) (hx : RepV (c7 M0 H σ) σ H.al w v d) (ids : List Nat) (hi : ∀ i ∈ J1 H d, i ∈ ids) :
    RepV (c7 M0 (eW ids H) σ) σ (eW ids H).al w v (K1 H d) := by
  obtain ⟨h1, h2, h3, h4⟩ := fH ids hR
  have hx' := hx.keep h2
  have hfr : ∀ i ∈ ids, ∀ k, (eW ids H).get i = some k → k.fz = true := fun i hi k hk => by
    have he := (h4 i).1
    rw [hk] at he
    cases hk0 : H.get i with
    | none => rw [hk0] at he; cases he
    | some k0 =>
      obtain ⟨k', a1, a2, a3⟩ := (h4 i).2 k0 hk0 (.inr hi)
      rw [hk] at a1; cases a1; exact a2
  by_cases ho : ∀ a b, d ≠ .own a b
  · rw [S2 ho, ← nS (fun i => (h4 i).1) d]
    rw [To ho] at hi
    exact kN h1 hx' fun i hii k hk => hfr i (hi i hii) k hk
  · obtain ⟨id, n, rfl⟩ : ∃ a b, d = .own a b := by
      refine bP fun hn => ho fun a b he => hn ⟨a, b, he⟩
    have hL := kN h1 hx' fun i hii k hk => hfr i (hi i (by
      simp only [iW, cH] at hii; subst hii; simp only [J1]; exact jE ..)) k hk
    rw [nS (fun i => (h4 i).1)] at hL
    simp only [K1, gQ] at hL ⊢
    cases hk : H.get id with
    | none => rw [hk] at hL; exact hL
    | some k =>
      rw [hk] at hL
      simp only at hL ⊢
      split
      · rename_i hn
        rw [if_pos hn] at hL
        refine hL.list_map fun y hy u hu => ?_
        rw [← nS (fun i => (h4 i).1) y]
        exact kN h1 hu fun i hii k' hk' => hfr i (hi i (by
          simp only [J1, hk, bB, bU]; exact .inr ⟨y, hy, hii⟩)) k' hk'
      · rename_i hn
        rw [if_neg hn] at hL; exact hL
theorem AE {v : Value} {d : D} (hR : Rel M0 H σ w) (hx : RepV (c7 M0 H σ) σ H.al w v d) (ids : List Nat) (hi : ∀ i ∈ FJ H d, i ∈ ids) :
    RepV (c7 M0 (eW ids H) σ) σ (eW ids H).al w v (C0 H d) := by
  cases d with
  | agg cs =>
    obtain ⟨h1, h2, h3, h4⟩ := fH ids hR
    cases hx with
    | agg vs ds hl h1 hr =>
      refine .agg vs _ (by simpa using hl) h1 fun j u x hu hd => ?_
      rw [aR, bJ] at hd
      obtain ⟨y, hy, rfl⟩ := hd
      exact CZ hR (hr j u y hu hy) ids fun i hii => hi i (by simp only [FJ, bU]; exact ⟨y, aK hy, hii⟩)
  | _ => exact CZ hR hx ids hi
theorem Jx {v : Value} {d : D} (hR : Rel M0 H σ w) (hx : RepV (c7 M0 H σ) σ H.al w v d) (ids : List Nat) (hi : ∀ i ∈ zH H d, i ∈ ids) :
    RepV (c7 M0 (eW ids H) σ) σ (eW ids H).al w v (EC H d) := by
  cases d with
  | tup cs =>
    cases hx with
    | tup vs ds hl hr =>
      refine .tup vs _ (by simpa using hl) fun j u x hu hd => ?_
      rw [aR, bJ] at hd
      obtain ⟨y, hy, rfl⟩ := hd
      exact AE hR (hr j u y hu hy) ids fun i hii => hi i (by simp only [zH, bU]; exact ⟨y, aK hy, hii⟩)
  | _ => exact AE hR hx ids hi
theorem ACalls.deep {f:FuncId}{args:List D}{Q:D→AHeap→Prop}(h:ACalls P f args H fun d H'=>Q (EC H' d) (eW (zH H' d) H')):ACalls P f args H Q :=
 ⟨h.1,fun M0 σ w vals hR ha=>(h.2 M0 σ w vals hR ha).mono fun e w' ⟨v,d,H',σ',he,hR',hv,hst,hk,hq⟩=>by
  obtain ⟨f1,f2,_,_⟩:=fH (zH H' d) hR'
  exact ⟨v,_,_,σ',he,f1,Jx hR' hv _ fun _ h=>h,hst,hk.trans f2,hq⟩⟩
end
end Go.Abs
end
section
namespace Go.Abs
theorem wa {a b:Prop}(x:a)(y:b):a∧b:=⟨x,y⟩
section
variable {P:Program} {c:Cfg} {a b:Code} {Q:Exit→cY→AHeap→Prop} {e:cY} {H:AHeap}
theorem wq {t:Bool}{A B:Prop}(h1:A→lT P c a Q e H)(h2:B→lT P c b Q e H)
  (k1:t=true→A:=by (intro h;first|(simp [go_sem] at h;exact h)|exact h)) (k2:t=false→B:=by (intro h;first|(simp [go_sem] at h;exact h)|exact h)) :
  vP P c a b Q e H (.bool t):=aJ (fun h=>h1 (k1 h)) (fun h=>h2 (k2 h))
theorem bG (I:Nat→cY→AHeap→Prop)(μ:Nat→Nat)(x0:Nat)(h0:I x0 e H)
  (hs:∀ J:Nat→cY→AHeap→Prop,(∀ x e H,J x e H↔I x e H)→∀ x e H,I x e H→lT P c b (pC (Fg J μ x) Q) e H):zG P c b Q e H :=
 fZ I μ x0 h0 (hs I fun _ _ _=>Iff.rfl)
theorem uX {H':AHeap}(hg:Ghosts H H')(I:Nat→cY→AHeap→Prop)(μ:Nat→Nat)(x0:Nat)(h0:I x0 e H')
  (hs:∀ J:Nat→cY→AHeap→Prop,(∀ x e H,J x e H↔I x e H)→∀ x e H,I x e H→lT P c b (pC (Fg J μ x) Q) e H):zG P c b Q e H :=
 uY hg I μ x0 h0 (hs I fun _ _ _=>Iff.rfl)
end
section
variable {p q:Prop}
structure Wh (q:Prop):Prop where
 h:q
theorem wv (k:q→p:=by (intro h;first|(simp [go_sem,seval,Y];exact h)|exact h))(h:q):p:=k h
theorem wo (k:Wh q→p:=by (intro h;(try simp [go_sem,seval,Y]);(repeat first|intro _|refine ⟨d8,?_⟩);exact h.1))(h:q):p:=k ⟨h⟩
theorem wp (k:Wh q→p:=by (intro h;(try simp [go_sem,seval,Y]);(repeat first|intro _|refine ⟨eI,?_⟩);exact h.1))(h:q):p:=k ⟨h⟩
theorem wl (h:p:=by first|rfl|(simp [go_sem,← List.map_take,← List.map_drop,Y];done)):p:=h
theorem wr (h:p:=by simp [sP,tI,eD,go_sem,← List.map_take,← List.map_drop,Y]):p:=h
theorem Yf (h:p:=by simp [sP,tI,BV,Bd,eD,go_sem,← List.map_take,← List.map_drop,Y]):p:=h
theorem Zv (h:p:=by simp [go_sem,Y]):p:=h
theorem Yg (h:p:=by simp [go_sem,Bd,eD,Y]):p:=h
theorem wz (h:p:=by (simp [go_sem,Y])<;>rfl):p:=h
theorem wn (h:p:=by first|omega|(simp [go_sem,seval,Y]<;>omega)):p:=h
theorem wg (h:p:=by and_intros<;>first|omega|(simp [go_sem,seval,Y]<;>omega)):p:=h
theorem wi (h:p:=by first|assumption|omega|(simp [go_sem,Y];done)|(simp_all;done)):p:=h
theorem wj (h:p:=by first|assumption|omega|(simp [go_sem,Y];done)|(simp_all<;>omega)):p:=h
theorem wy (h:p:=by simp [go_sem,Y]<;>first|omega|(rw [aY];simp<;>omega)|(simp_all<;>omega)):p:=h
end
section
variable {P:Program} {c:Cfg} {a b:Code} {Q:Exit→cY→AHeap→Prop} {e:cY} {H:AHeap} {p:Prop}
theorem d7 {t:Bool}{A B:Prop}(h1:A→lT P c a Q e H)(h2:B→lT P c b Q e H)(k:vP P c a b Q e H (.bool t)→p:=by (intro h;first|(simp [go_sem,seval,Y];exact h)|exact h))
  (k1:t=true→A:=by (intro h;first|(simp [go_sem] at h;exact h)|exact h)) (k2:t=false→B:=by (intro h;first|(simp [go_sem] at h;exact h)|exact h)):p:=k (aJ (fun h=>h1 (k1 h)) (fun h=>h2 (k2 h)))
theorem eJ {t:Bool}{A B:Prop}(h1:A→lT P c a Q e H)(h2:B→lT P c b Q e H)(k:Wh (vP P c a b Q e H (.bool t))→p:=by (intro h;(try simp [go_sem,seval,Y]);(repeat first|intro _|refine ⟨d8,?_⟩);exact h.1))
  (k1:t=true→A:=by (intro h;first|(simp [go_sem] at h;exact h)|exact h)) (k2:t=false→B:=by (intro h;first|(simp [go_sem] at h;exact h)|exact h)):p:=k ⟨aJ (fun h=>h1 (k1 h)) (fun h=>h2 (k2 h))⟩
theorem pH {t:Bool}{A B:Prop}(h1:A→lT P c a Q e H)(h2:B→lT P c b Q e H)(k:Wh (vP P c a b Q e H (.bool t))→p:=by (intro h;(try simp [go_sem,seval,Y]);(repeat first|intro _|refine ⟨eI,?_⟩);exact h.1))
  (k1:t=true→A:=by (intro h;first|(simp [go_sem] at h;exact h)|exact h)) (k2:t=false→B:=by (intro h;first|(simp [go_sem] at h;exact h)|exact h)):p:=k ⟨aJ (fun h=>h1 (k1 h)) (fun h=>h2 (k2 h))⟩
theorem wx {I J:Nat→cY→AHeap→Prop}{m:Nat→Nat}{x:Nat}(hJ:∀ x e H,J x e H↔I x e H)(x':Nat)(hI:I x' e H)(hm:m x'<m x:=by omega):Fg J m x e H:=bY x' hm ((hJ _ _ _).2 hI)
end
end Go.Abs
end
