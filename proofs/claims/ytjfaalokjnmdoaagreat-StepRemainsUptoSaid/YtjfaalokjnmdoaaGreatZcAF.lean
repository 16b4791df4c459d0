/- The abstraction layer, part W: the rows that walk a region w -/
import Derived.Test.YtjfaalokjnmdoaaGreatZcAE
import Derived.Test.YtjfaalokjnmdoaaGreatZcAA
import Derived.Sort.OwnSortedInts
set_option linter.unusedVariables false
set_option linter.unusedSimpArgs false
section
namespace Go.Abs
def vE (P:Program)(md:Nat→Bool)(ops:Array Oper)(sp:List (Nat × Nat))(n0 i:Nat)(rest:List Oper)(acc:List (Nat × List Nat))(e:cX)(dst:Option Tmp)(K:cX→AHeap→Prop)(f:FuncId)(args:List D)(H:AHeap):Prop :=
 (∃ r S,(∀ H',eY S H' H→ACalls P f args H' fun v H1=>v=r∧H1=H')∧J6 sp i S acc∧jQ P md ops sp n0 (i+1) rest ((i,S) :: acc) (nK e dst r) H K) ∨
 (Ea md dst=true∧∃ r S u q,(∀ p∈u,p.1∈S)∧(∀ p∈q,p.1<n0∧¬ H.al p.1)∧(∀ H',eY S H' H→(∀ p∈q,p.1<H'.next∧¬ H'.al p.1)→ACalls P f args H' fun v H1=>v=r∧H1=(H'.puts u).pushs q) ∧
  J6 sp i (S++q.map (·.1)) acc∧jQ P md ops sp n0 (i+1) rest ((i,S++q.map (·.1)) :: acc) (nK e dst r) ((H.puts u).pushs q) K)
def y0 (P:Program)(md:Nat→Bool)(ops:Array Oper)(sp:List (Nat × Nat))(n0 i:Nat)(rest:List Oper)(acc:List (Nat × List Nat))(e:cX)(dst:Option Tmp)(K:cX→AHeap→Prop)(t:Bool)(f:FuncId)(args:List D)(H:AHeap):Prop :=
 ∃ r S,(t=true→∀ H',eY S H' H→ACalls P f args H' fun v H1=>v=r∧H1=H')∧J6 sp i S acc∧jQ P md ops sp n0 (i+1) rest ((i,S) :: acc) (nK e dst (.opt t r)) H K
def IC (nid:Nat)(e:cX)(o:Oper):List Nat:=foot nid (match o.guard with|none=>e|some _=>gE e o.op) o.op
def qS (P:Program)(md:Nat→Bool)(ops:Array Oper)(sp:List (Nat × Nat))(n0 i:Nat)(rest:List Oper)(acc:List (Nat × List Nat))(e:cX)(dst:Option Tmp)(H:AHeap)(K:cX→AHeap→Prop)(F:List Nat):SOut→Prop
 | .op o=>o.cond∧J6 sp i F acc∧jQ P md ops sp n0 (i+1) rest ((i,F) :: acc) (nK e dst o.val) o.heap K
 | .call f args=>vE P md ops sp n0 i rest acc e dst K f args H
 | .gop t g o=>(t=true→g=true)∧(t=true→o.cond∧o.heap=H)∧J6 sp i F acc∧jQ P md ops sp n0 (i+1) rest ((i,F) :: acc) (nK e dst (.opt t o.val)) H K
 | .gcall t g f args=>(t=true→g=true)∧y0 P md ops sp n0 i rest acc e dst K t f args H
 | .bad=>False
theorem OR (P : Program) (md : Nat → Bool) (ops : Array Oper) (sp : List (Nat × Nat)) (n0 i : Nat) (o : Oper) (rest : List Oper) (acc : List (Nat × List Nat)) (e : cX) (H : AHeap) (K : cX → AHeap → Prop) :
    jQ P md ops sp n0 i (o :: rest) acc e H K = qS P md ops sp n0 i rest acc e o.dst H K (IC (n0 + i) e o) (lJ P md (n0 + i) ops e o H) := by
  obtain ⟨dst, op, type, pos, after, guard⟩ := o
  cases guard with
  | none =>
    simp only [jQ, nF, lJ, IC]
    cases hc : fN e { dst := dst, op := op, type := type, pos := pos, after := after, guard := none } with
    | none => simp [Jk, qS]
    | some p => simp [Jk, qS, vE]
  | some p =>
    obtain ⟨j, b⟩ := p
    simp only [jQ, nF, lJ, IC]
    cases hg : gD ops e j with
    | none => simp [Hc, qS]
    | some gc =>
      obtain ⟨t, c'⟩ := gc
      simp only
      cases hc : fN (gE e op) { dst := dst, op := op, type := type, pos := pos, after := after, guard := some (j, b) } with
      | none => simp [Hc, qS]
      | some p => simp [Hc, qS, y0]
@[go_sem] theorem U9 (P:Program)(md:Nat→Bool)(ops:Array Oper)(sp:List (Nat × Nat))(n0 i:Nat)(acc:List (Nat × List Nat))(e:cX)(H:AHeap)(K:cX→AHeap→Prop):jQ P md ops sp n0 i [] acc e H K=K e H:=rfl
section
variable (P:Program) (md:Nat→Bool) (ops:Array Oper) (sp:List (Nat × Nat)) (n0 i:Nat) (rest:List Oper) (acc:List (Nat × List Nat)) (e:cX) (dst:Option Tmp) (H H':AHeap) (K:cX→AHeap→Prop) (F:List Nat) (c f:Prop) (v:D) (t g:Bool) (fn:FuncId) (args:List D)
@[go_sem] theorem VT:qS P md ops sp n0 i rest acc e dst H K F (.op ⟨c,f,v,H'⟩)=(c∧J6 sp i F acc∧jQ P md ops sp n0 (i+1) rest ((i,F) :: acc) (nK e dst v) H' K):=rfl
@[go_sem] theorem TT:qS P md ops sp n0 i rest acc e dst H K F (.call fn args)=vE P md ops sp n0 i rest acc e dst K fn args H:=rfl
@[go_sem] theorem UZ:qS P md ops sp n0 i rest acc e dst H K F (.gop t g ⟨c,f,v,H'⟩) =
  ((t=true→g=true)∧(t=true→c∧H'=H)∧J6 sp i F acc∧jQ P md ops sp n0 (i+1) rest ((i,F) :: acc) (nK e dst (.opt t v)) H K):=rfl
@[go_sem] theorem Tk:qS P md ops sp n0 i rest acc e dst H K F (.gcall t g fn args)=((t=true→g=true)∧y0 P md ops sp n0 i rest acc e dst K t fn args H):=rfl
@[go_sem] theorem T0 (d:Option Tmp)(op:Op)(ty:TypeId)(p:String)(af:Array Edge)(gu:Option (Nat × Bool)) :
  jQ P md ops sp n0 i (⟨d,op,ty,p,af,gu⟩ :: rest) acc e H K=qS P md ops sp n0 i rest acc e d H K (IC (n0+i) e ⟨d,op,ty,p,af,gu⟩) (lJ P md (n0+i) ops e ⟨d,op,ty,p,af,gu⟩ H):=OR P md ops sp n0 i _ rest acc e H K
@[go_sem] theorem Yp:J6 [] i F acc=True:=rfl
end
@[go_sem] theorem Xg (p:Nat × Nat)(sp:List (Nat × Nat))(i:Nat)(F:List Nat)(acc:List (Nat × List Nat)):J6 (p :: sp) i F acc = ∀ q∈acc,(q.1,i)∈(p :: sp)→∀ x∈q.2,x∉F:=rfl
@[go_sem] theorem UT (nid:Nat)(e:cX)(d:Option Tmp)(op:Op)(ty:TypeId)(p:String)(af:Array Edge):IC nid e ⟨d,op,ty,p,af,none⟩=foot nid e op:=rfl
@[go_sem] theorem US (nid:Nat)(e:cX)(d:Option Tmp)(op:Op)(ty:TypeId)(p:String)(af:Array Edge)(g:Nat × Bool):IC nid e ⟨d,op,ty,p,af,some g⟩=foot nid (gE e op) op:=rfl
attribute [go_sem] foot FL oW Op.operands Call.operands
@[go_sem] theorem UK (k:IntKind)(n:Int):dG (.int k n)=[]:=rfl
@[go_sem] theorem TN (b:Bool):dG (.bool b)=[]:=rfl
@[go_sem] theorem UF (b:ByteArray):dG (.str b)=[]:=rfl
@[go_sem] theorem UJ:dG .nil=[]:=rfl
@[go_sem] theorem TL (es:List (List D)):dG (.list es)=[]:=rfl
@[go_sem] theorem UM (es:List D):dG (.adr es)=[]:=rfl
@[go_sem] theorem TI:dG .nilp=[]:=rfl
@[go_sem] theorem TJ:dG .nilf=[]:=rfl
@[go_sem] theorem VH (f:FuncId)(l:List D):dG (.fn f l)=[]:=rfl
@[go_sem] theorem UH (id n:Nat):dG (.own id n)=[id]:=rfl
@[go_sem] theorem UD (id n lo hi:Nat):dG (.win id n lo hi)=[id]:=rfl
@[go_sem] theorem UG (id v i o:Nat):dG (.ptr id v i o)=[id]:=rfl
@[go_sem] theorem UL (l:List D):dG (.agg l)=l.flatMap jS:=rfl
@[go_sem] theorem UI (t:Bool)(d:D):dG (.opt t d)=[]:=rfl
@[go_sem] theorem TM:dG .junk=[]:=rfl
@[go_sem] theorem UE (l:List D):dG (.tup l)=[]:=rfl
/-! ### guards -/
def gV:D→Option (Bool × Bool)
 | .bool c=>some (true,c)
 | .opt g (.bool c)=>some (g,c)
 | _=>none
def gT (e:cX):Option Tmp→Option (Bool × Bool)
 | some t=>gV (e t)
 | none=>none
@[go_sem] theorem Yk (e:cX)(t:Nat):gT e (some t)=gV (e t):=rfl
@[go_sem] theorem Yj (c:Bool):gV (.bool c)=some (true,c):=rfl
@[go_sem] theorem Zw (g c:Bool):gV (.opt g (.bool c))=some (g,c):=rfl
section
variable (P:Program) (md:Nat→Bool) (nid:Nat) (ops:Array Oper) (e:cX) (d:Option Tmp) (op:Op) (ty:TypeId) (p:String) (af:Array Edge) (H:AHeap) (j:Nat) (b:Bool)
@[go_sem] theorem Ue:lJ P md nid ops e ⟨d,op,ty,p,af,some (j,b)⟩ H =
  Hc (gD ops e j) b (Q8 e (gO op)) (fN (gE e op) ⟨d,op,ty,p,af,none⟩) (Ek P nid md (gE e op) ⟨d,op,ty,p,af,none⟩ H):=rfl
@[go_sem] theorem Zx (l:List Oper):gD l.toArray e j=gT e ((l[j]?).bind (·.dst)):=by
 unfold gD gT
 rw [List.getElem?_toArray]
 cases (l[j]?).bind (·.dst) with
 | none=>rfl
 | some t=>simp only [gV];rfl
end
@[go_sem] theorem Vh (t c b g:Bool)(f:FuncId)(args:List D)(o:AOut):Hc (some (t,c)) b g (some (f,args)) o=.gcall (t&&(c==b)) g f args:=rfl
@[go_sem] theorem XC (t c b g:Bool)(o:AOut):Hc (some (t,c)) b g none o=.gop (t&&(c==b)) g o:=rfl
attribute [go_sem] gE gO Operand.tmp.injEq Q8 og fN Ek Option.bind_some jR G4 g6 Bool.and_true beq_false beq_true beq_self_eq_true
 iW Bool.and_self Bool.not_true Bool.not_false
@[go_sem] theorem Ve (e:cX)(d:Option Tmp)(v:D)(t:Nat):Df (nK e d v) t=match nK e d v t with | .opt _ d=>d|d=>d:=rfl
@[go_sem] theorem Ud (l:List D)(t:Nat):Df (zG l) t=match zG l t with | .opt _ d=>d|d=>d:=rfl
section
variable {P:Program} {md:Nat→Bool} {ops:Array Oper} {sp:List (Nat × Nat)} {n0 i:Nat} {rest:List Oper} {acc:List (Nat × List Nat)} {e:cX} {dst:Option Tmp} {K:cX→AHeap→Prop} {f:FuncId} {args args':List D} {H:AHeap} {r:D}
theorem IO:J6 sp i [] acc:=by
 unfold J6
 cases sp with
 | nil=>trivial
 | cons=>intro p hp _ x _;simp
theorem aQ (hp:Pure P f args r)(hcl:D.clL args=true)(h:jQ P md ops sp n0 (i+1) rest ((i,[]) :: acc) (nK e dst r) H K):vE P md ops sp n0 i rest acc e dst K f args H :=
 .inl ⟨r,[],fun H' _=>pV hp hcl ⟨rfl,rfl⟩,IO,h⟩
theorem eC {t:Bool}(hp:t=true→Pure P f args r)(hcl:t=true→D.clL args=true)(h:jQ P md ops sp n0 (i+1) rest ((i,[]) :: acc) (nK e dst (.opt t r)) H K):y0 P md ops sp n0 i rest acc e dst K t f args H :=
 ⟨r,[],fun ht H' _=>pV (hp ht) (hcl ht) ⟨rfl,rfl⟩,IO,h⟩
theorem aO {t:Bool}(hp:t=true→Pure P f args r)(hcl:t=true→D.clL args=true)(h:lQ P md ops rest (nK e dst (.opt t r)) H K):xS P md ops rest e dst K t f args H:=by
 unfold xS
 exact .inl ⟨r,[],fun ht H' _=>pV (hp ht) (hcl ht) ⟨rfl,rfl⟩,h⟩
theorem Ae {S:List Nat}{H':AHeap}(ha:eY S H' H){d:D}(hd:∀ x∈jS d,x∈S):eK H' d=eK H d:=by
 cases d<;>try rfl
 ·rename_i id n
  have:=ha id (hd id (by simp [jS]))
  simp only [eK,this]
 ·rename_i id n lo hi
  have:=ha id (hd id (by simp [jS]))
  simp only [eK,this]
theorem NB {S:List Nat}{H':AHeap}(ha:eY S H' H){d:D}(hd:∀ x∈dD d,x∈S):gX H' d=gX H d:=by
 cases d<;>try rfl
 case own id n=>exact Ae (d:=.own id n) ha hd
 case win id n lo hi=>exact Ae (d:=.win id n lo hi) ha hd
 case agg l =>
  simp only [gX]
  congr 1
  exact bY fun x hx=>Ae ha fun y hy=>hd y (by simp only [dD,bQ];exact ⟨x,hx,hy⟩)
theorem AJ {S:List Nat}{H':AHeap}(ha:eY S H' H){l:List D}(hd:∀ x∈l.flatMap dD,x∈S):l.map (gX H')=l.map (gX H) :=
 bY fun d hm=>NB ha fun x hx=>hd x (bQ.2 ⟨d,hm,hx⟩)
theorem Hx {t:Bool}(hp:t=true→Pure P f args' r)(ha:args.map (gX H)=args')(hcl:t=true→D.clL args'=true)(hf:t=true→r.flat=true){S:List Nat}(hS:args.flatMap dD=S)(hc:J6 sp i S acc)
  (h:jQ P md ops sp n0 (i+1) rest ((i,S) :: acc) (nK e dst (.opt t r)) H K):y0 P md ops sp n0 i rest acc e dst K t f args H:=by
 subst ha hS
 refine ⟨r,_,fun ht H' hag=>?_,hc,h⟩
 have he:=AJ hag fun x hx=>hx
 exact vN (by rw [he];exact hp ht) (by rw [he];exact hcl ht) (hf ht) ⟨rfl,rfl⟩
theorem JW {t:Bool}(hp:t=true→Pure P f args' r)(ha:args.map (gX H)=args')(hcl:t=true→D.clL args'=true)(hf:t=true→r.flat=true)
  (h:lQ P md ops rest (nK e dst (.opt t r)) H K):xS P md ops rest e dst K t f args H:=by
 subst ha
 unfold xS
 refine .inl ⟨r,args.flatMap dD,fun ht H' hag=>?_,h⟩
 have he:=AJ hag fun x hx=>hx
 exact vN (by rw [he];exact hp ht) (by rw [he];exact hcl ht) (hf ht) ⟨rfl,rfl⟩
end
/-! ### calls of function values -/
def PB:D→List D→Option (FuncId × List D)
 | .fn g caps,az=>some (g,az++caps)
 | _,_=>none
@[go_sem] theorem Xh (g:FuncId)(caps az:List D):PB (.fn g caps) az=some (g,az++caps):=rfl
theorem OG (e:cX)(d:Option Tmp)(f:Operand)(args:Array Operand)(ts:Array TypeId)(ty:TypeId)(p:String)(af:Array Edge)(g:Option (Nat × Bool)) :
  fN e ⟨d,.call ⟨.value f,args,ts⟩,ty,p,af,g⟩=PB (dZ e f) (args.toList.map (dZ e)):=by
 simp only [fN,PB]
 cases dZ e f<;>rfl
@[go_sem] theorem XG (P:Program)(md:Nat→Bool)(nid:Nat)(ops:Array Oper)(e:cX)(d:Option Tmp)(ty:TypeId)(p:String)(af:Array Edge)(H:AHeap)(t:Nat)(args:Array Operand)(ts:Array TypeId) :
  lJ P md nid ops e ⟨d,.call ⟨.value (.tmp t),args,ts⟩,ty,p,af,none⟩ H=Jk (PB (e t) (args.toList.map (dZ e))) (.bad H):=by
 simp only [lJ,OG]
 rfl
attribute [go_sem] decide_eq_true_eq eJ eQ
attribute [irreducible] vE y0
end Go.Abs
end
section
namespace Go.Abs
attribute [go_sem] D.cell D.cl D.clL D.clLL D.flat D.flat1 p8 o8 rC List.take_zero List.drop_succ_cons List.drop_zero rD List.replicate_zero dS List.flatten_nil
def dI (n:Int):D:=.int .i64 n
def cI (n:Int):List D:=[.int .i64 n]
def cS (s:ByteArray):List D:=[.str s]
def dLI (xs:List Int):D:=.list (xs.map cI)
def o3 (xs:List ByteArray):D:=.list (xs.map cS)
structure Attr where
 name:ByteArray
 low:Int
 high:Int
 names:List ByteArray
def Attr.c (a:Attr):List D:=[.str a.name,dI a.low,dI a.high,o3 a.names]
structure NodeTy where
 name:ByteArray
 parent:Int
 abs:Bool
 attrs:List Attr
def NodeTy.c (n:NodeTy):List D:=[.str n.name,dI n.parent,.bool n.abs,.list (n.attrs.map Attr.c)]
structure EdgeTy where
 name:ByteArray
 from_:Int
 to_:Int
 outLow:Int
 outHigh:Int
 inLow:Int
 inHigh:Int
def EdgeTy.c (x:EdgeTy):List D:=[.str x.name,dI x.from_,dI x.to_,dI x.outLow,dI x.outHigh,dI x.inLow,dI x.inHigh]
structure Types where
 nodes:List NodeTy
 edges:List EdgeTy
def Types.c (t:Types):List D:=[.list (t.nodes.map NodeTy.c),.list (t.edges.map EdgeTy.c)]
def Types.d (t:Types):D:=.agg t.c
structure Edge where
 type:Int
 from_:Int
 to_:Int
def Edge.c (x:Edge):List D:=[dI x.type,dI x.from_,dI x.to_]
structure Graph where
 nodes:List Int
 edges:List Edge
def Graph.c (g:Graph):List D:=[dLI g.nodes,.list (g.edges.map Edge.c)]
def Graph.d (g:Graph):D:=.agg g.c
/-! ### closed -/
theorem c4 {α:Type}(f:α→List D)(h:∀ a,D.clL (f a)=true)(l:List α):D.clLL (l.map f)=true:=by
 induction l with
 | nil=>rfl
 | cons a l ih=>simp [D.clLL,h,ih]
@[go_sem] theorem nC (l:List Int):(dLI l).cl=true:=by simp only [dLI,D.cl];exact c4 _ (fun _=>rfl) l
@[go_sem] theorem R3 (l:List ByteArray):(o3 l).cl=true:=by simp only [o3,D.cl];exact c4 _ (fun _=>rfl) l
@[go_sem] theorem Attr.cl (a:Attr):D.clL a.c=true:=by simp [Attr.c,D.clL,D.cl,dI,R3]
@[go_sem] theorem NodeTy.cl (n:NodeTy):D.clL n.c=true:=by simp [NodeTy.c,D.clL,D.cl,dI,c4 _ Attr.cl]
@[go_sem] theorem EdgeTy.cl (x:EdgeTy):D.clL x.c=true:=by simp [EdgeTy.c,D.clL,D.cl,dI]
@[go_sem] theorem Types.cl (t:Types):t.d.cl=true:=by simp [Types.d,Types.c,D.clL,D.cl,c4 _ NodeTy.cl,c4 _ EdgeTy.cl]
@[go_sem] theorem Edge.cl (x:Edge):D.clL x.c=true:=by simp [Edge.c,D.clL,D.cl,dI]
@[go_sem] theorem Graph.cl (g:Graph):g.d.cl=true:=by simp [Graph.d,Graph.c,D.clL,D.cl,nC,c4 _ Edge.cl]
@[go_sem] theorem V5 (a b:D)(l:List D):EH (a :: b :: l)=.tup (a :: b :: l):=rfl
end Go.Abs
end
section
namespace Go.Abs
structure Term where
 var:Int
 add:Int
def Term.c (x:Term):List D:=[dI x.var,dI x.add]
structure Slot where
 node:Int
 attr:Int
 term:Term
def Slot.c (x:Slot):List D:=[dI x.node,dI x.attr,dI x.term.var,dI x.term.add]
structure Test where
 kind:Int
 left:Term
 right:Term
def Test.c (x:Test):List D:=[dI x.kind,dI x.left.var,dI x.left.add,dI x.right.var,dI x.right.add]
structure Pattern where
 graph:Graph
 slots:List Slot
 vars:Int
 tests:List Test
def Pattern.c (p:Pattern):List D:=[dLI p.graph.nodes,.list (p.graph.edges.map Edge.c),.list (p.slots.map Slot.c),dI p.vars,.list (p.tests.map Test.c)]
def Pattern.d (p:Pattern):D:=.agg p.c
structure Part where
 nodes:List Int
 edges:List Int
def Part.c (p:Part):List D:=[dLI p.nodes,dLI p.edges]
def Part.d (p:Part):D:=.agg p.c
inductive Cond where
 | mk (kind:Int) (kids:List Cond) (map:Part) (pattern:Pattern)
def Cond.kind:Cond→Int | .mk k _ _ _=>k
def Cond.kids:Cond→List Cond | .mk _ l _ _=>l
def Cond.map:Cond→Part | .mk _ _ m _=>m
def Cond.pattern:Cond→Pattern | .mk _ _ _ p=>p
mutual
def Cond.c:Cond→List D
 | .mk k l m p=>[dI k,.list (Cond.cs l),dLI m.nodes,dLI m.edges,dLI p.graph.nodes,.list (p.graph.edges.map Edge.c),.list (p.slots.map Slot.c),dI p.vars,.list (p.tests.map Test.c)]
def Cond.cs:List Cond→List (List D)
 | []=>[]
 | c :: l=>c.c :: Cond.cs l
end
theorem Cond.cs_eq (l:List Cond):Cond.cs l=l.map Cond.c:=by
 induction l with
 | nil=>simp [Cond.cs]
 | cons a l ih=>simp [Cond.cs,ih]
theorem Cond.c_eq (x:Cond):x.c=[dI x.kind,.list (x.kids.map Cond.c),dLI x.map.nodes,dLI x.map.edges,dLI x.pattern.graph.nodes,.list (x.pattern.graph.edges.map Edge.c),.list (x.pattern.slots.map Slot.c),dI x.pattern.vars,.list (x.pattern.tests.map Test.c)]:=by
 cases x;simp [Cond.c,Cond.kind,Cond.kids,Cond.map,Cond.pattern,Cond.cs_eq]
structure Rule where
 name:ByteArray
 left:Pattern
 right:Pattern
 keep:Part
 into:Part
 inj:Bool
 cond:Cond
def Rule.c (r:Rule):List D:=[.str r.name,dLI r.left.graph.nodes,.list (r.left.graph.edges.map Edge.c),.list (r.left.slots.map Slot.c),dI r.left.vars,.list (r.left.tests.map Test.c),
 dLI r.right.graph.nodes,.list (r.right.graph.edges.map Edge.c),.list (r.right.slots.map Slot.c),dI r.right.vars,.list (r.right.tests.map Test.c),
 dLI r.keep.nodes,dLI r.keep.edges,dLI r.into.nodes,dLI r.into.edges,.bool r.inj,
 dI r.cond.kind,.list (r.cond.kids.map Cond.c),dLI r.cond.map.nodes,dLI r.cond.map.edges,dLI r.cond.pattern.graph.nodes,.list (r.cond.pattern.graph.edges.map Edge.c),.list (r.cond.pattern.slots.map Slot.c),dI r.cond.pattern.vars,.list (r.cond.pattern.tests.map Test.c)]
def Rule.d (r:Rule):D:=.agg r.c
structure Stage where
 weights:List Int
 removed:List Int
def Stage.c (s:Stage):List D:=[dLI s.weights,dLI s.removed]
@[go_sem] theorem Slot.cl (x:Slot):D.clL x.c=true:=rfl
@[go_sem] theorem Test.cl (x:Test):D.clL x.c=true:=rfl
@[go_sem] theorem ER (l:List Slot):D.clLL (l.map Slot.c)=true:=c4 _ Slot.cl l
@[go_sem] theorem KI (l:List Test):D.clLL (l.map Test.c)=true:=c4 _ Test.cl l
@[go_sem] theorem Stage.cl (x:Stage):D.clL x.c=true:=by simp [Stage.c,D.clL,nC]
@[go_sem] theorem Vf (l:List Stage):D.clLL (l.map Stage.c)=true:=c4 _ Stage.cl l
theorem t7 (l:List Edge):D.clLL (l.map Edge.c)=true:=c4 _ Edge.cl l
mutual
theorem Cond.cl:∀ x:Cond,D.clL x.c=true
 | .mk k l m p=>by
  have:=Cond.cls l
  simp [Cond.c,D.clL,D.cl,dI,nC,this,t7,ER,KI]
theorem Cond.cls:∀ l:List Cond,D.clLL (Cond.cs l)=true
 | []=>by simp [Cond.cs,D.clLL]
 | c :: l=>by simp [Cond.cs,D.clLL,Cond.cl c,Cond.cls l]
end
attribute [go_sem] Cond.cl
@[go_sem] theorem R4 (l:List Cond):D.clLL (l.map Cond.c)=true:=by rw [← Cond.cs_eq];exact Cond.cls l
@[go_sem] theorem Rule.cl (r:Rule):D.clL r.c=true:=by
 simp [Rule.c,D.clL,D.cl,dI,nC,t7,ER,KI,R4]
@[go_sem] theorem Wa (l:List Rule):D.clLL (l.map Rule.c)=true:=c4 _ Rule.cl l
end Go.Abs
end
section
namespace Go.Abs
def Cn (H:AHeap)(d:D):D :=
 match d with
 | .ptr id ver i off=>match fD H (.ptr id ver i off) with
  | some (c :: cs)=>.adr (c :: cs)
  | _=>.ptr id ver i off
 | d=>eK H d
def S6:D→List Nat
 | .ptr id _ _ _=>[id]
 | d=>jS d
def E8 (H:AHeap)(d:D):D :=
 match d with
 | .fn g caps=>.fn g (caps.map (Cn H))
 | .ptr id ver i off=>Cn H (.ptr id ver i off)
 | d=>gX H d
def RT:D→List Nat
 | .fn _ caps=>caps.flatMap S6
 | .ptr id _ _ _=>[id]
 | d=>dD d
section
variable {P:Program} {M0:Nat→Prop} {H:AHeap} {σ:Nat→Option Ow} {w:World}
theorem BP {H H':AHeap}(h:∀ i,(H'.get i).map (·.es)=(H.get i).map (·.es))(d:D):fD H' d=fD H d:=by
 cases d<;>try rfl
 rename_i id ver i off
 have:=h id
 simp only [fD]
 cases h1:H.get id<;>cases h2:H'.get id<;>rw [h1,h2] at this<;>simp at this
 ·simp only [this]
theorem wW {v : Value} {d : D} (hR : Rel M0 H σ w) (hx : RepV (cR M0 H σ) σ H.al w v d) (hf : ∀ i ∈ S6 d, ∀ k, H.get i = some k → k.fz = true) :
    RepV (cR M0 H σ) σ H.al w v (Cn H d) := by
  cases d <;> try exact kW hR hx hf
  rename_i id ver i off
  simp only [Cn]
  cases hc : fD H (.ptr id ver i off) with
  | none => exact hx
  | some cs =>
    cases cs with
    | nil => exact hx
    | cons c cs =>
      obtain ⟨ad, xs, hv, hrep, h1, hcell⟩ := oD hR hx hc (by simp)
      subst hv
      have hnm : ¬ cR M0 H σ ad.block := by
        cases hk : H.get id with
        | none => simp [fD, hk] at hc
        | some k =>
          obtain ⟨o, ho, l⟩ := hR.lies id k hk
          have hver : k.es.length = ver := by
            simp only [fD, hk] at hc
            split at hc
            · assumption
            · cases hc
          cases hx
          rename_i hN h1' h
          rcases h o ho with h' | ⟨_, b, hob, hvb⟩
          · have := l.ver; omega
          · cases hvb
            rintro (hm | ⟨i', k', o', hk', hf', ho', hb'⟩)
            · exact (hR.lt id o b ho hob).2 hm
            · have hi := hR.inj i' id o' o b ho' ho hb' hob
              subst hi
              rw [hk] at hk'; cases hk'
              rw [hf i' (by simp [S6]) k hk] at hf'; cases hf'
      exact .adr ad xs _ hrep.len h1 (fun j u hu => ⟨hnm, hcell j u hu⟩) hrep.rep
theorem K6 {v : Value} {d : D} (hR : Rel M0 H σ w) (hx : RepV (cR M0 H σ) σ H.al w v d) (ids : List Nat) (hi : ∀ i ∈ RT d, i ∈ ids) :
    RepV (cR M0 (eP ids H) σ) σ (eP ids H).al w v (E8 H d) := by
  obtain ⟨h1, h2, h3, h4⟩ := eU ids hR
  have hx' := hx.keep h2
  have hfr : ∀ i ∈ ids, ∀ k, (eP ids H).get i = some k → k.fz = true := fun i hi k hk => by
    have he := (h4 i).1
    rw [hk] at he
    cases hk0 : H.get i with
    | none => rw [hk0] at he; cases he
    | some k0 =>
      obtain ⟨k', a1, a2, a3⟩ := (h4 i).2 k0 hk0 (.inr hi)
      rw [hk] at a1; cases a1; exact a2
  have hsame : ∀ d, Cn (eP ids H) d = Cn H d := fun d => by
    have hq := nW (fun i => (h4 i).1) d
    cases d with
    | ptr id ver i off => simp only [Cn, BP (fun i => (h4 i).1)]
    | _ => exact hq
  cases d with
  | fn g caps =>
    cases hx'
    rename_i vs hl hr
    refine .fn g vs _ (by simpa using hl) fun j u x hu hx => ?_
    rw [aM, bF] at hx
    obtain ⟨y, hy, rfl⟩ := hx
    rw [← hsame y]
    refine wW h1 (hr j u y hu hy) fun i hii k hk => hfr i (hi i ?_) k hk
    simp only [RT, bQ]
    exact ⟨y, aH hy, hii⟩
  | ptr id ver i off =>
    simp only [E8]
    rw [← hsame]
    exact wW h1 hx' fun i hii k hk => hfr i (hi i hii) k hk
  | _ => exact kV hR hx ids hi
theorem P5 {vals:List Value}{args:List D}(hR:Rel M0 H σ w)(ha:RepL (cR M0 H σ) σ H.al w vals args)(ids:List Nat)(hi:∀ i∈args.flatMap RT,i∈ids) :
  RepL (cR M0 (eP ids H) σ) σ (eP ids H).al w vals (args.map (E8 H)) :=
 ⟨by simpa using ha.len,fun j u d hu hd=>by
  rw [aM,bF] at hd
  obtain ⟨y,hy,rfl⟩:=hd
  exact K6 hR (ha.rep j u y hu hy) ids fun i hii=>hi i (bQ.2 ⟨y,aH hy,hii⟩)⟩
theorem Kr {f:FuncId}{args:List D}{r:D}{Q:D→AHeap→Prop}(hp:Pure P f (args.map (E8 H)) r)(hcl:D.clL (args.map (E8 H))=true)(hf:r.flat=true)(hQ:Q r H):ACalls P f args H Q:=by
 refine ⟨hp.1,fun M0 σ w vals hR ha=>?_⟩
 obtain ⟨f1,f2,f3,f4⟩:=eU (args.flatMap RT) hR
 refine (hp.2 (cR M0 (eP (args.flatMap RT) H) σ) w vals (sO f1) (fQ (fun _ h=>h) (P5 hR ha _ fun i h=>h) hcl)).mono fun e w' ⟨v,he,hv,hb⟩=>?_
 obtain ⟨h1,h2,h3⟩:=hR.grow hb.os hb.tape hb.output hb.size hb.block
 exact ⟨v,r,H,σ,he,h1,xT hv hf,h2,h3,hQ⟩
theorem sD {md:Nat→Bool}{ops:Array Oper}{rest:List Oper}{e:cX}{dst:Option Tmp}{K:cX→AHeap→Prop}{f:FuncId}{args args':List D}{r:D}(hp:Pure P f args' r)(ha:args.map (E8 H)=args')(hcl:D.clL args'=true)(hf:r.flat=true)
  (h:lQ P md ops rest (nK e dst r) H K):gU P md ops rest e dst K f args H:=by subst ha;unfold gU;exact Kr hp hcl hf h
end
theorem Own.pure {P:Program}{f:FuncId}{args:List D}{ty:TypeId}{sz:Nat}{es:List (List D)}(h:Own P f args ty sz es):Pure P f args (.list es):=by
 refine ⟨h.1,fun M w vals hM ha=>(h.2 M w vals hM ha).mono fun e w' ⟨v,xs,he,hrow,h1,hrep,hcl,hsz,hb⟩=>⟨v,he,?_,hb⟩⟩
 have hclF:D.clL es.flatten=true:=B6 fun d hd=>by
  obtain ⟨c,hcm,hxm⟩:=iG.1 hd
  exact iN (n9 hcl c hcm) d hxm
 have hrep':RepL M gC o6 w' xs es.flatten:=fQ (fun b h h'=>h (.inl h')) hrep hclF
 rcases hrow.2 with ⟨hnil,h0⟩|⟨g,cap,cur,hval,hg,hcells,hnc,hcm,hsz',htake⟩
 ·rw [hnil,bG h0];exact .listN
 ·rw [hval]
  refine .list ⟨g,0,none⟩ cap sz xs es hnc hcm hsz hrep'.len h1 (fun j u hu=>⟨fun hm=>?_,hrow.cells (g:=g) (by simp [hval,Value.ownBlock]) j u hu⟩) hrep'.rep
  have:=hM g hm
  omega
end Go.Abs
end
section
namespace Go.Abs
def Sy:D→D
 | .nil=>.list []
 | d=>d
def RI:D→D
 | .agg cs=>.agg (cs.map Sy)
 | d=>Sy d
def Q9:D→D
 | .tup vs=>.tup (vs.map RI)
 | d=>RI d
@[go_sem] theorem X3 (k:IntKind)(n:Int):Sy (.int k n)=.int k n:=rfl
@[go_sem] theorem WL (b:Bool):Sy (.bool b)=.bool b:=rfl
@[go_sem] theorem X1 (b:ByteArray):Sy (.str b)=.str b:=rfl
@[go_sem] theorem WK (l:List (List D)):Sy (.list l)=.list l:=rfl
@[go_sem] theorem X2:Sy .nil=.list []:=rfl
@[go_sem] theorem XZ (k:IntKind)(n:Int):RI (.int k n)=.int k n:=rfl
@[go_sem] theorem WJ (b:Bool):RI (.bool b)=.bool b:=rfl
@[go_sem] theorem XX (b:ByteArray):RI (.str b)=.str b:=rfl
@[go_sem] theorem WI (l:List (List D)):RI (.list l)=.list l:=rfl
@[go_sem] theorem XY:RI .nil=.list []:=rfl
@[go_sem] theorem X0 (l:List D):RI (.agg l)=.agg (l.map Sy):=rfl
@[go_sem] theorem XV (k:IntKind)(n:Int):Q9 (.int k n)=.int k n:=rfl
@[go_sem] theorem WH (b:Bool):Q9 (.bool b)=.bool b:=rfl
@[go_sem] theorem XT (b:ByteArray):Q9 (.str b)=.str b:=rfl
@[go_sem] theorem WG (l:List (List D)):Q9 (.list l)=.list l:=rfl
@[go_sem] theorem XU:Q9 .nil=.list []:=rfl
@[go_sem] theorem XW (l:List D):Q9 (.agg l)=.agg (l.map Sy):=rfl
@[go_sem] theorem XS (l:List D):Q9 (.tup l)=.tup (l.map RI):=rfl
theorem Pg {M:Nat→Prop}{σ:Nat→Option Ow}{N:Nat→Prop}{w:World}{v:Value}{d:D}(h:RepV M σ N w v d):RepV M σ N w v (Sy d):=by
 cases d<;>try exact h
 cases h
 exact .listN
theorem JJ {M:Nat→Prop}{σ:Nat→Option Ow}{N:Nat→Prop}{w:World}{v:Value}{d:D}(h:RepV M σ N w v d):RepV M σ N w v (RI d):=by
 cases d<;>try exact Pg h
 cases h
 rename_i vs h1 hl hr
 refine .agg vs _ (by simpa using hl) h1 fun j u d hu hd=>?_
 rw [aM,bF] at hd
 obtain ⟨y,hy,rfl⟩:=hd
 exact Pg (hr j u y hu hy)
theorem SV {M:Nat→Prop}{σ:Nat→Option Ow}{N:Nat→Prop}{w:World}{v:Value}{d:D}(h:RepV M σ N w v d):RepV M σ N w v (Q9 d):=by
 cases d<;>try exact JJ h
 cases h
 rename_i vs hl hr
 refine .tup vs _ (by simpa using hl) fun j u d hu hd=>?_
 rw [aM,bF] at hd
 obtain ⟨y,hy,rfl⟩:=hd
 exact JJ (hr j u y hu hy)
section
variable {P:Program} {c:Cfg}
theorem Rv {f:FuncId}{args:List D}{r:D}(hcl:r.cl=true)(h:∀ Q:D→AHeap→Prop,(∀ d H',(oQ H' d=r∨Q9 (oQ H' d)=r)→Q d H')→ACalls P f args .emp Q):Pure P f args r:=by
 have h:=h (fun d H'=>oQ H' d=r∨Q9 (oQ H' d)=r) fun _ _ h=>h
 refine ⟨h.1,fun M w vals hM ha=>(h.2 M gC w vals (Er M w hM) (by rw [Eu];exact ha)).mono fun e w' ⟨v,d,H',σ',he,hR,hv,hst,hk,hr⟩=>⟨v,he,?_,yG hst⟩⟩
 have h1:RepV (cR M (eP (Cv d) H') σ') σ' (eP (Cv d) H').al w' v r:=by
  have h0:=rK hR hv (Cv d) fun i hi=>hi
  rcases hr with hr|hr
  ·rw [hr] at h0;exact h0
  ·have h0:=SV h0;rw [hr] at h0;exact h0
 exact h1.closed (fun ad u hm hc=>⟨fun h=>hm (.inl h),hc⟩) hcl
theorem Zj {f:FuncId}{args:List D}{ty:TypeId}{sz:Nat}{es:List (List D)}(hcl:D.clLL es=true)
  (h:∀ Q:D→AHeap→Prop,(∀ id n H',n=es.length→H'.get id=some ⟨ty,sz,es,false⟩→Q (.own id n) H')→ACalls P f args .emp Q):Own P f args ty sz es :=
 Be (h _ fun id n H' hn hg=>⟨id,_,by rw [hn],hg,rfl,rfl,rfl,rfl,hcl⟩)
def Dz (I:Nat→cX→AHeap→Prop)(m:Nat→Nat)(x:Nat)(e:cX)(H:AHeap):Prop:=∃ H',Ghosts H H'∧∃ x',m x'<m x∧I x' e H'
theorem cT {I:Nat→cX→AHeap→Prop}{m:Nat→Nat}{x:Nat}{e:cX}{H:AHeap}(x':Nat)(hm:m x'<m x)(hI:I x' e H):Dz I m x e H:=⟨H,.refl H,x',hm,hI⟩
theorem FI {I:Nat→cX→AHeap→Prop}{m:Nat→Nat}{x:Nat}{e:cX}{H H':AHeap}(hg:Ghosts H H')(x':Nat)(hm:m x'<m x)(hI:I x' e H'):Dz I m x e H:=⟨H',hg,x',hm,hI⟩
theorem k6 {b:Code}{Q:Exit→cX→AHeap→Prop}{e:cX}{H:AHeap}(I:Nat→cX→AHeap→Prop)(μ:Nat→Nat)(x0:Nat)(h0:I x0 e H)
  (hs:∀ x e H,I x e H→mN P c b (rH (Dz I μ x) Q) e H):zY P c b Q e H:=Br (.refl H) I μ x0 h0 hs
theorem Ap {b:Code}{Q:Exit→cX→AHeap→Prop}{e:cX}{H H':AHeap}(hg:Ghosts H H')(I:Nat→cX→AHeap→Prop)(μ:Nat→Nat)(x0:Nat)(h0:I x0 e H')
  (hs:∀ x e H,I x e H→mN P c b (rH (Dz I μ x) Q) e H):zY P c b Q e H:=Br hg I μ x0 h0 hs
end
@[go_sem] theorem VN (H:AHeap)(id i off:Nat)(ty sz:Nat):Ge H id i off ty sz=match H.get id with
 | some k=>(H.put id { k with es:=k.es.set i ((k.es[i]?.getD []).set off (.own H.next 0)) }).push H.next ⟨ty,sz,[],false⟩
 | none=>H:=rfl
@[go_sem] theorem UQ (H:AHeap)(id i off q hi:Nat):Au H id i off q hi=match H.get id,H.get q with
 | some k,some kq=>(((H.drop q).push H.next ⟨kq.ty,kq.sz,kq.es.take hi,false⟩).put id { k with es:=k.es.set i ((k.es[i]?.getD []).set off (.own H.next hi)) })
 | _,_=>H:=rfl
attribute [go_sem] sZ Dc
attribute [irreducible] Dz
theorem fF {p:Prop}(h:p:=by (first|assumption|(intros;first|assumption|omega|exact cW (by omega) (by omega)|(and_intros<;>first|assumption|omega|exact cW (by omega) (by omega)))|(simp_all<;>omega))):p:=h
theorem dQ {p:Prop}(h:p:=by (first|assumption|(intros;first|assumption|omega|exact cW (by omega) (by omega)|(and_intros<;>first|assumption|omega|exact cW (by omega) (by omega)))|(simp;done)|(simp;omega))):p:=h
end Go.Abs
end
section
namespace Go.Abs
section
variable {P:Program} {M0:Nat→Prop} {H:AHeap} {σ:Nat→Option Ow} {w:World}
theorem yX (zs:List Int):(zs.map cI).flatten=zs.map (D.int .i64):=by
 induction zs with
 | nil=>rfl
 | cons a l ih=>simp only [kP,dS,ih,cI,dI];rfl
theorem yJ {M:Nat→Prop}{N:Nat→Prop}(zs:List Int):RepL M σ N w (zs.map (Value.int .i64)) (zs.map cI).flatten:=by
 rw [yX]
 refine ⟨by simp,fun j u d hu hd=>?_⟩
 rw [aM,bF] at hu hd
 obtain ⟨x,hx,rfl⟩:=hu
 obtain ⟨y,hy,rfl⟩:=hd
 rw [hx] at hy;cases hy
 exact .int _ _
def En (w:World)(ty:TypeId)(v:Value)(xs:List Int):Prop:=w.ownsRow 0 ty 1 v xs.length (xs.map (Value.int .i64))
theorem O5 (hR:Rel M0 H σ w){id:Nat}{ty:TypeId}{xs:List Int}(hg:H.get id=some ⟨ty,1,xs.map cI,false⟩){v:Value}(hv:RepV (cR M0 H σ) σ H.al w v (.own id xs.length)) :
  ∃ o,σ id=some o∧v=o.val∧o.ver=xs.length∧o.ty=ty∧o.esz=1∧En w ty v xs:=by
 obtain ⟨o,ho,l⟩:=hR.lies id _ hg
 have hver:o.ver=xs.length:=by have:=l.ver;simpa using this
 cases hv
 rename_i hN h1 h
 rcases h o ho with h'|⟨_,rfl⟩
 ·omega
 ·obtain ⟨us,hrow,hu1,hrep⟩:=l.row
  have hus:us=xs.map (Value.int .i64):=by
   simp only [yX] at hrep
   apply eR
   intro j
   have hl:=hrep.len
   simp only [bA] at hl
   by_cases hj:j<xs.length
   ·have h2:=hrep.rep j us[j] (D.int .i64 xs[j]) (aA (by omega)) (by simp [hj])
    generalize us[j]=u at h2
    have h3:us[j]?=some us[j]:=aA (by omega)
    have h4:=hrep.rep j us[j] (D.int .i64 xs[j]) h3 (by simp [hj])
    generalize hq:us[j]=q at h3 h4
    rw [h3]
    cases h4
    simp [hj]
   ·rw [bL (by omega),bL (by simp;omega)]
  refine ⟨o,ho,rfl,hver,l.ty,l.sz,?_⟩
  unfold En
  have hsz:o.esz=1:=l.sz
  rw [hsz,hus] at hrow
  simpa using hrow
theorem Le {w':World}(hR:Rel M0 H σ w){id:Nat}{ty:TypeId}{xs zs:List Int}(fz:Bool)(hg:H.get id=some ⟨ty,1,xs.map cI,false⟩){o:Ow}(ho:σ id=some o)(hver:o.ver=xs.length)(hty:o.ty=ty)(hsz:o.esz=1)
  (hl:zs.length=xs.length) (hgr:w.grownBy w' o.block) (hrow:En w' ty o.val zs) :
  Rel M0 (H.put id ⟨ty,1,zs.map cI,fz⟩) (fun i=>if i=id then some o else σ i) w'∧Stp σ w (fun i=>if i=id then some o else σ i) w' ∧
   Keeps (cR M0 H σ) σ H.al w (cR M0 (H.put id ⟨ty,1,zs.map cI,fz⟩) (fun i=>if i=id then some o else σ i)) (fun i=>if i=id then some o else σ i) (H.put id ⟨ty,1,zs.map cI,fz⟩).al w':=by
 refine Rel.put hR hg rfl ho ⟨ty,1,zs.map cI,fz⟩ o hgr (fun b hb=>.inl hb) (.inl rfl) (by simp [hver,hl]) hty hsz (fun c hc=>?_) (zs.map (Value.int .i64)) ?_ (fun u hu=>?_) (yJ zs)
 ·obtain ⟨x,_,rfl⟩:=aT.1 hc;rw [hsz];rfl
 ·rw [hsz];simpa [En] using hrow
 ·obtain ⟨x,_,rfl⟩:=aT.1 hu;rfl
theorem MY {f:FuncId}{id:Nat}{ty:TypeId}{xs zs:List Int}{Q:D→AHeap→Prop}(hent:T3 P f)(hg:H.get id=some ⟨ty,1,xs.map cI,false⟩)(hl:zs.length=xs.length)
  (hc:∀ (w:World) (v:Value),En w ty v xs→Calls P f #[v] w fun e w'=>e=.returned (.tuple #[])∧w.grownBy w' v.ownBlock∧En w' ty v zs)
  (hQ:Q (.tup []) (H.put id ⟨ty,1,zs.map cI,false⟩)):ACalls P f [.own id xs.length] H Q:=by
 refine ⟨hent,fun M0 σ w vals hR ha=>?_⟩
 obtain ⟨hlen,hr⟩:=ha
 match vals,hlen with
 | [v],_ =>
  obtain ⟨o,ho,rfl,hver,hty,hsz,hrow⟩:=O5 hR hg (hr 0 v _ rfl rfl)
  refine (hc w _ hrow).mono fun e w' ⟨he,hgr,hrow'⟩=>?_
  obtain ⟨h1,h2,h3⟩:=Le hR false hg ho hver hty hsz hl hgr hrow'
  exact ⟨_,.tup [],_,_,he,h1,.tup [] [] rfl (fun j u d hu=>by simp at hu),h2,h3,hQ⟩
theorem Kh {f:FuncId}{id:Nat}{ty:TypeId}{xs zs:List Int}{m:Nat}{Q:D→AHeap→Prop}(hent:T3 P f)(hg:H.get id=some ⟨ty,1,xs.map cI,false⟩)(hl:zs.length=xs.length)(hm:m≤xs.length)
  (hc:∀ (w:World) (v:Value),En w ty v xs→Calls P f #[v] w fun e w'=>(∃ r,e=.returned r∧((v=.slice none 0 0∧r=v)∨∃ g n cap,v=.slice (some g) n cap∧r=.slice (some g) m cap))∧w.grownBy w' v.ownBlock∧En w' ty v zs)
  (hQ:Q (.list ((zs.take m).map cI)) (H.put id ⟨ty,1,zs.map cI,true⟩)):ACalls P f [.own id xs.length] H Q:=by
 refine ⟨hent,fun M0 σ w vals hR ha=>?_⟩
 obtain ⟨hlen,hr⟩:=ha
 match vals,hlen with
 | [v],_ =>
  obtain ⟨o,ho,rfl,hver,hty,hsz,hrow⟩:=O5 hR hg (hr 0 v _ rfl rfl)
  refine (hc w _ hrow).mono fun e w' ⟨⟨r,he,hr'⟩,hgr,hrow'⟩=>?_
  obtain ⟨h1,h2,h3⟩:=Le hR true hg ho hver hty hsz hl hgr hrow'
  refine ⟨r,.list ((zs.take m).map cI),_,_,he,h1,?_,h2,h3,hQ⟩
  rcases hr' with ⟨hv,rfl⟩|⟨g,n,cap,hv,rfl⟩
  ·have hz:zs=[]:=by
    rcases hrow.2 with ⟨_,h0⟩|⟨g',cap',cur,hv',_⟩
    ·exact bG (by omega)
    ·rw [hv] at hv';cases hv'
   subst hz
   rw [hv];simpa using RepV.listN
  ·rcases hrow'.2 with ⟨hn,_⟩|⟨g',cap',cur,hv',hb0,hblk,hcz,hcm,hcs,htk⟩
   ·rw [hv] at hn;cases hn
   ·have hvv:=hv'
    rw [hv] at hvv
    cases hvv
    have hlt:(zs.take m).length=m:=by simp;omega
    have hfl:=yX (zs.take m)
    have key:=RepV.list (M:=cR M0 (H.put id ⟨ty,1,zs.map cI,true⟩) (fun i=>if i=id then some o else σ i)) (σ:=fun i=>if i=id then some o else σ i) (N:=(H.put id ⟨ty,1,zs.map cI,true⟩).al) (w:=w')
     ⟨g',0,none⟩ cap 1 ((zs.take m).map (Value.int .i64)) ((zs.take m).map cI) (by simp;omega) hcm (fun c hc=>(by obtain ⟨x,_,rfl⟩:=aT.1 hc;rfl)) (by rw [hfl];simp)
     (fun u hu=>(by obtain ⟨x,_,rfl⟩:=aT.1 hu;rfl))
     (fun j u hu=>by
      refine ⟨?_,?_⟩
      ·rintro (hm0|⟨i,k',o',hk',hf,ho',hb'⟩)
       ·exact (hR.lt id o g' ho (by simp [Ow.block,hv,Value.ownBlock])).2 hm0
       ·by_cases hi:i=id
        ·simp only [AHeap.put,hi,if_true,bC] at hk'
         subst hk';cases hf
        ·simp only [hi,if_false] at ho'
         exact hi (hR.inj i id o' o g' ho' ho hb' (by simp [Ow.block,hv,Value.ownBlock]))
      ·have:=hrow'.cells (g:=g') (by simp [hv,Value.ownBlock]) j u (by
        rw [aM] at hu ⊢
        rw [bU] at hu
        split at hu
        ·exact hu
        ·simp at hu)
       exact this)
     (yJ (zs.take m)).rep
    simp only [bA,hlt] at key
    exact key
end
end Go.Abs
end
section
namespace Go.Abs
section
variable {P:Program} {M0:Nat→Prop} {H:AHeap} {σ:Nat→Option Ow} {w:World}
structure Made (M:Nat→Prop) (w w':World) (v:Value) (b:Blk) (xs:List Value):Prop where
 row:w'.ownsRow w.heap.size b.ty b.sz v b.es.length xs
 one:∀ u∈xs,u.oneCell'=true
 rep:RepL M gC o6 w' xs b.es.flatten
 cl:D.clLL b.es=true
 sz:∀ c∈b.es,c.length=b.sz
theorem M5 {f:FuncId}{args:List D}{ty:TypeId}{sz:Nat}{es:List (List D)}{Q:D→AHeap→Prop}(hp:Own P f args ty sz es)(hcl:D.clL args=true)(q:Nat)(hq:¬ H.al q)
  (hQ:Q (.own q es.length) (H.push q ⟨ty,sz,es,false⟩)):ACalls P f args H Q:=by
 refine ⟨hp.1,fun M0 σ w vals hR ha=>(hp.2 (cR M0 H σ) w vals (sO hR) (fQ (fun _ h=>h) ha hcl)).mono fun e w' ⟨v,xs,he,hrow,h1,hrep,hcll,hsz,hb⟩=>?_⟩
 have hrow0:w'.ownsRow 0 ty sz v es.length xs:=⟨hrow.1,hrow.2.imp (fun x=>x) fun ⟨g,cap,cur,a,b,c⟩=>⟨g,cap,cur,a,d8 _,c⟩⟩
 have hbk:∀ b,v.ownBlock=some b→w.heap.size≤b:=fun b hb'=>by
  rcases hrow.2 with hn|⟨g,cap,cur,h1,h2,h3⟩
  ·rw [hn.1] at hb';simp [Value.ownBlock] at hb'
  ·rw [h1] at hb';simp only [Value.ownBlock,bC] at hb';omega
 have hG:∀ ad,¬ (cR M0 H σ ad∨v.ownBlock=some ad)→¬ cR M0 (H.push q ⟨ty,sz,es,false⟩) (fun i=>if i=q then some ⟨es.length,v,sz,ty⟩ else σ i) ad:=by
  intro ad hm h
  rcases h with h|⟨i,k',o',hk',hf,ho',hb'⟩
  ·exact hm (.inl (.inl h))
  ·by_cases hii:i=q
   ·simp only [hii,if_true,bC] at ho'
    subst ho'
    exact hm (.inr hb')
   ·simp only [hii,if_false] at ho'
    simp only [AHeap.push,hii,if_false] at hk'
    exact hm (.inl (.inr ⟨i,k',o',hk',hf,ho',hb'⟩))
 have hclF:D.clL es.flatten=true:=B6 fun d hd=>by
  obtain ⟨c,hcm,hxm⟩:=iG.1 hd
  exact iN (n9 hcll c hcm) d hxm
 obtain ⟨p1,p2,p3⟩:=Rel.pushG hR q hq (w':=w') hb.os hb.tape hb.output hb.size hb.block ⟨ty,sz,es,false⟩ ⟨es.length,v,sz,ty⟩
  hbk rfl rfl rfl hsz xs hrow0 h1 (fun hk=>fQ hG hrep hclF)
 exact ⟨v,_,_,_,he,p1,.own v _ _ (.inl rfl) (by rcases hrow.2 with ⟨hn,_⟩|⟨g,cap,cur,hn,_⟩<;>simp [hn,Value.oneCell']) (fun o ho=>by simp at ho;subst ho;exact .inr ⟨rfl,rfl⟩),p2,p3,hQ⟩
theorem ACalls.bump {f:FuncId}{args:List D}{Q:D→AHeap→Prop}(k:Nat)(h:ACalls P f args ⟨H.next+k,H.al,H.get⟩ Q):ACalls P f args H Q :=
 ⟨h.1,fun M0 σ w vals hR ha=>h.2 M0 σ w vals (hR.bump (m:=H.next+k) (by omega)) ha⟩
theorem ACalls.frz {f:FuncId}{args:List D}{Q:D→AHeap→Prop}(h:ACalls P f (args.map (gX H)) (eP (args.flatMap dD) H) Q):ACalls P f args H Q:=by
 refine ⟨h.1,fun M0 σ w vals hR ha=>?_⟩
 obtain ⟨f1,f2,f3,f4⟩:=eU (args.flatMap dD) hR
 refine (h.2 M0 σ w vals f1 (A5 hR ha _ fun i h=>h)).mono fun e w' ⟨v,d,H',σ',he,h1,hv,hs,hk,hq⟩=>?_
 exact ⟨v,d,H',σ',he,h1,hv,hs,f2.trans hk,hq⟩
end
section
variable {P:Program} {md:Nat→Bool} {ops:Array Oper} {sp:List (Nat × Nat)} {n0 i:Nat} {rest:List Oper} {acc:List (Nat × List Nat)} {e:cX} {dst:Option Tmp} {K:cX→AHeap→Prop} {f:FuncId} {args args':List D} {H H':AHeap}
theorem DP {ty:TypeId}{sz:Nat}{es:List (List D)}(q:Nat)(hp:Own P f args ty sz es)(hcl:D.clL args=true)(hmd:Ea md dst=true)(hq:q<n0)(hal:¬ H.al q)(hc:J6 sp i [q] acc)
  (h:jQ P md ops sp n0 (i+1) rest ((i,[q]) :: acc) (nK e dst (.own q es.length)) (H.push q ⟨ty,sz,es,false⟩) K):vE P md ops sp n0 i rest acc e dst K f args H:=by
 unfold vE
 exact Or.inr ⟨hmd,.own q es.length,[],[],[(q,⟨ty,sz,es,false⟩)],(fun _ h=>by cases h),fun p hp=>(by
   have:p=(q,⟨ty,sz,es,false⟩):=by simpa using hp
   subst this;exact ⟨hq,hal⟩),
  fun H' _ hn=>M5 hp hcl q (hn (q,⟨ty,sz,es,false⟩) (by simp)).2 ⟨rfl,rfl⟩,hc,h⟩
end
theorem Sk (i:Nat):AHeap.emp.al i↔False:=Iff.rfl
theorem sG (H:AHeap)(i j:Nat)(k:Blk):(H.push i k).al j↔j=i∨H.al j:=Iff.rfl
theorem yB (H:AHeap)(i j:Nat)(k:Blk):(H.put i k).al j↔H.al j:=Iff.rfl
theorem Sj (n:Nat)(al:Nat→Prop)(g:Nat→Option Blk)(j:Nat):(AHeap.mk n al g).al j↔al j:=Iff.rfl
end Go.Abs
end
section
namespace Go.Abs
def XN (id:Nat):D→D
 | .own 0 n=>.own id n
 | d=>d
section
variable {P:Program} {M0:Nat→Prop} {H:AHeap} {σ:Nat→Option Ow} {w:World}
theorem SP (id n:Nat):XN id (.own 0 n)=.own id n:=rfl
theorem Qi (k:Blk):(AHeap.emp.push 0 k).get 0=some k:=rfl
theorem T6 {f : FuncId} {args : List D} {k k' : Blk} {r : D} {id : Nat} {Q : D → AHeap → Prop}
    (h : ACalls P f args (AHeap.emp.push 0 k) fun d H' => oQ H' d = r ∧ r.cl = true ∧ 0 ∉ Cv d ∧ H'.get 0 = some k')
    (hargs : ∀ d ∈ args, d.cl = true ∨ d = .own 0 k.es.length) (hk : k.fz = false) (hk' : k'.fz = false) (hcl : D.clLL k.es = true) (hfl : ∀ d ∈ k'.es.flatten, d.flat = true) (hg : H.get id = some k) (hQ : Q r (H.put id k')) :
    ACalls P f (args.map (XN id)) H Q := by
  refine ⟨h.1, fun M0 σ w vals hR ha => ?_⟩
  obtain ⟨o, ho, l⟩ := hR.lies id k hg
  obtain ⟨xs, hrow, hx1, hrep⟩ := l.row
  obtain ⟨σ0, hσ0⟩ : ∃ s : Nat → Option Ow, s = fun i => if i = 0 then some o else none := ⟨_, rfl⟩
  obtain ⟨M1, hM1⟩ : ∃ m : Nat → Prop, m = fun b => cR M0 H σ b ∧ o.block ≠ some b := ⟨_, rfl⟩
  have s0 : σ0 0 = some o := by rw [hσ0]; rfl
  have sn : ∀ i o', σ0 i = some o' → i = 0 ∧ o' = o := fun i o' hi => by
    rw [hσ0] at hi
    by_cases h0 : i = 0
    · simp only [h0, if_true, bC] at hi; exact ⟨h0, hi.symm⟩
    · simp only [h0, if_false] at hi; cases hi
  have g0 : ∀ i k1, (AHeap.emp.push 0 k).get i = some k1 → i = 0 ∧ k1 = k := fun i k1 hi => by
    by_cases h0 : i = 0
    · subst h0; rw [Qi] at hi; exact ⟨rfl, (Option.some.inj hi).symm⟩
    · simp [AHeap.push, AHeap.emp, h0] at hi
  have hob : ∀ b, o.block = some b → cR M0 H σ b := fun b hb => .inr ⟨id, k, o, hg, hk, ho, hb⟩
  have hmut : ∀ b, cR M1 (AHeap.emp.push 0 k) σ0 b → cR M0 H σ b := by
    rintro b (hb | ⟨i, k1, o1, hk1, hf, ho1, hb⟩)
    · rw [hM1] at hb; exact hb.1
    · obtain ⟨_, rfl⟩ := sn i o1 ho1
      exact hob b hb
  have hcF : ∀ {es : List (List D)}, D.clLL es = true → D.clL es.flatten = true := fun {es} hc => B6 fun d hd => by
    obtain ⟨c, hcm, hxm⟩ := iG.1 hd
    exact iN (n9 hc c hcm) d hxm
  have hR0 : Rel M1 (AHeap.emp.push 0 k) σ0 w := by
    refine ⟨fun i hi => ?_, fun i hi => ?_, fun i k1 hk1 => ?_, fun i j oi oj b hi hj hbi hbj => ?_, fun i oi b hi hbi => ?_, fun b hb => ?_⟩
    · have h0 : i ≠ 0 := fun e => hi (.inl e)
      exact ⟨by rw [hσ0]; simp [h0], by simp [AHeap.push, AHeap.emp, h0]⟩
    · rcases hi with hi | hi
      · subst hi; simp [AHeap.push, AHeap.emp]
      · exact hi.elim
    · obtain ⟨h0, h1⟩ := g0 i k1 hk1
      subst h0; subst h1
      exact ⟨o, s0, l.ver, l.ty, l.sz, l.esz, xs, hrow, hx1, fQ (fun b hb hb' => hb (hmut b hb')) hrep (hcF hcl)⟩
    · rw [(sn i oi hi).1, (sn j oj hj).1]
    · obtain ⟨_, rfl⟩ := sn i oi hi
      exact ⟨(hR.lt id oi b ho hbi).1, fun hb => by rw [hM1] at hb; exact hb.2 hbi⟩
    · rw [hM1] at hb; exact sO hR b hb.1
  have ha0 : RepL (cR M1 (AHeap.emp.push 0 k) σ0) σ0 (AHeap.emp.push 0 k).al w vals args := by
    refine ⟨by simpa using ha.len, fun j u d hu hd => ?_⟩
    have hj := ha.rep j u (XN id d) hu (by rw [aM, hd]; rfl)
    rcases hargs d (aH hd) with hc | rfl
    · have hren : XN id d = d := by cases d <;> first | rfl | (simp [D.cl] at hc)
      rw [hren] at hj
      exact hj.closed (fun ad u hm hu => ⟨fun hm' => hm (hmut _ hm'), hu⟩) hc
    · rw [SP] at hj
      cases hj
      rename_i h1 hN hv
      exact .own u _ _ (.inl rfl) (by first | exact h1 | exact hN) fun o1 ho1 => by
        obtain ⟨_, rfl⟩ := sn 0 o1 ho1
        exact hv o1 ho
  refine (h.2 M1 σ0 w vals hR0 ha0).mono fun e w' ⟨v, d, H', σ', he, hR', hv, hst, hkp, hr, hrcl, hr0, hg'⟩ => ?_
  obtain ⟨o', ho', l'⟩ := hR'.lies 0 k' hg'
  obtain ⟨xs', hrow', hx1', hrep'⟩ := l'.row
  obtain ⟨o2, ho2, hle⟩ := hkp.own 0 o' (.inl rfl) ho'
  rw [s0] at ho2
  cases ho2
  have hgr : w.grownBy w' o.block := ⟨hst.os, hst.tape, hst.output, hst.size, fun b hb hne => hst.old b hb fun i o1 hi => by
    obtain ⟨_, rfl⟩ := sn i o1 hi
    exact fun hb' => hne (by first | simpa using hb' | exact hb'.symm | exact hb')⟩
  have hnew : ∀ b, o'.block = some b → o.block = some b ∨ w.heap.size ≤ b := fun b hb => by
    rcases hst.new 0 o' b ho' hb with h1 | ⟨j1, o1, h1, h2⟩
    · exact .inr h1
    · obtain ⟨_, rfl⟩ := sn j1 o1 h1; exact .inl h2
  obtain ⟨p1, p2, p3⟩ := Rel.put hR hg hk ho k' o' hgr hnew hle l'.ver l'.ty l'.sz l'.esz xs' hrow' hx1'
    ⟨hrep'.len, fun j u d hu hd => xT (hrep'.rep j u d hu hd) (hfl d (aH hd))⟩
  have hv' := rK hR' hv (Cv d) fun i hi => hi
  rw [hr] at hv'
  obtain ⟨_, _, _, f4⟩ := eU (Cv d) hR'
  refine ⟨v, r, _, _, he, p1, hv'.closed (fun ad u hm hu => ⟨fun hm' => hm ?_, hu⟩) hrcl, p2, p3, hQ⟩
  rcases hm' with h0 | ⟨i, k1, o1, hk1, hf, ho1, hb⟩
  · left
    rw [hM1]
    exact ⟨.inl h0, fun hb => (hR.lt id o _ ho hb).2 h0⟩
  · by_cases hi : i = id
    · simp only [hi, if_true, bC] at ho1
      subst ho1
      right
      obtain ⟨f41, f42⟩ := f4 0
      rw [hg'] at f41
      cases hq : (eP (Cv d) H').get 0 with
      | none => rw [hq] at f41; cases f41
      | some kq =>
        refine ⟨0, kq, o', hq, ?_, ho', hb⟩
        rw [Gg _ _ 0 hr0, hg'] at hq
        cases hq
        exact hk'
    · simp only [hi, if_false] at ho1
      simp only [AHeap.put, hi, if_false] at hk1
      left
      rw [hM1]
      exact ⟨.inr ⟨i, k1, o1, hk1, hf, ho1, hb⟩, fun hb' => hi (hR.inj i id o1 o _ ho1 ho hb hb')⟩
end
section
variable {P:Program} {M0:Nat→Prop} {H:AHeap} {σ:Nat→Option Ow} {w:World}
end
section
variable {P:Program} {md:Nat→Bool} {ops:Array Oper} {sp:List (Nat × Nat)} {n0 i:Nat} {rest:List Oper} {acc:List (Nat × List Nat)} {e:cX} {dst:Option Tmp} {K:cX→AHeap→Prop} {f:FuncId} {args args':List D} {H:AHeap}
end
theorem HM {P:Program}{f:FuncId}{args:List D}{H H':AHeap}{Q:D→AHeap→Prop}(hg:Ghosts H H')(h:ACalls P f args H' Q):ACalls P f args H Q :=
 ⟨h.1,fun M0 σ w vals hR ha=>by
  obtain ⟨σ1,g1,g2,g3⟩:=u7 hg hR
  exact (h.2 M0 σ1 w vals g1 (ha.keep g3)).mono fun e w' ⟨v,d,H1,σ2,he,h1,hv,hs,hk,hq⟩=>⟨v,d,H1,σ2,he,h1,hv,g2.trans hs,g3.trans hk,hq⟩⟩
theorem BQ {P:Program}{md:Nat→Bool}{ops:Array Oper}{rest:List Oper}{e:cX}{dst:Option Tmp}{K:cX→AHeap→Prop}{f:FuncId}{args:List D}{H H':AHeap}(hg:Ghosts H H')(h:gU P md ops rest e dst K f args H'):gU P md ops rest e dst K f args H:=by
 unfold gU at h ⊢;exact HM hg h
end Go.Abs
end
section
namespace Go.Abs
mutual
def mO:D→D
 | .nil=>.list []
 | .agg cs=>.agg (jH cs)
 | .tup cs=>.tup (jH cs)
 | .list es=>.list (d7 es)
 | d=>d
def jH:List D→List D
 | []=>[]
 | d :: l=>mO d :: jH l
def d7:List (List D)→List (List D)
 | []=>[]
 | c :: l=>jH c :: d7 l
end
theorem Bk (l:List D):jH l=l.map mO:=by
 induction l with
 | nil=>rfl
 | cons a l ih=>simp [jH,ih]
theorem tN (l:List (List D)):d7 l=l.map jH:=by
 induction l with
 | nil=>rfl
 | cons a l ih=>simp [d7,ih]
theorem FF (l:List (List D)):(d7 l).flatten=l.flatten.map mO:=by
 induction l with
 | nil=>rfl
 | cons a l ih=>simp only [d7,dS,ih,List.map_append,Bk]
theorem Pf {M:Nat→Prop}{σ:Nat→Option Ow}{N:Nat→Prop}{w:World}{v:Value}{d:D}(h:RepV M σ N w v d):RepV M σ N w v (mO d):=by
 have hm:∀ {vs:List Value} {ds:List D},(∀ (j:Nat) (u:Value) (d:D),vs[j]?=some u→ds[j]?=some d→RepV M σ N w u (mO d)) →
   ∀ (j:Nat) (u:Value) (d:D),vs[j]?=some u→(ds.map mO)[j]?=some d→RepV M σ N w u d:=by
  intro vs ds ih j u d hu hd
  rw [aM,bF] at hd
  obtain ⟨y,hy,rfl⟩:=hd
  exact ih j u y hu hy
 induction h with
 | int=>simp only [mO];exact .int _ _
 | bool=>simp only [mO];exact .bool _
 | str=>simp only [mO];exact .str _
 | agg vs ds hl h1 _ ih =>
  simp only [mO,Bk]
  exact .agg vs _ (by simp [hl]) h1 (hm ih)
 | tup vs ds hl _ ih =>
  simp only [mO,Bk]
  exact .tup vs _ (by simp [hl]) (hm ih)
 | nil=>simp only [mO];exact .listN
 | listN=>simp only [mO,d7];exact .listN
 | list ad cap sz xs es hc hm' hsz hl h1 hcell _ ih =>
  simp only [mO]
  have hlen:(d7 es).length=es.length:=by rw [tN,bA]
  have:=RepV.list (M:=M) (σ:=σ) (N:=N) (w:=w) ad cap sz xs (d7 es) (by rw [hlen];exact hc) hm' (fun c hc'=>by
   rw [tN,aT] at hc'
   obtain ⟨y,hy,rfl⟩:=hc'
   rw [Bk,bA];exact hsz y hy) (by rw [FF,bA];exact hl) h1 hcell (by rw [FF];exact hm ih)
  rwa [hlen] at this
 | adr ad xs ds hl h1 hcell hr ih=>simp only [mO];exact .adr ad xs ds hl h1 hcell hr
 | ne ad cap hm=>simp only [mO];exact .ne ad cap hm
 | nilp=>simp only [mO];exact .nilp
 | ptr v id ver i off hN h1 h=>simp only [mO];exact .ptr v id ver i off hN h1 h
 | own v id n hN h1 h=>simp only [mO];exact .own v id n hN h1 h
 | win v id ver lo hi hN h1 hlh h=>simp only [mO];exact .win v id ver lo hi hN h1 hlh h
 | fn f vs ds hl hr ih=>simp only [mO];exact .fn f vs ds hl hr
 | nilf=>simp only [mO];exact .nilf
 | opt v g d hf h ih=>simp only [mO];exact .opt v g d hf h
 | cst v=>simp only [mO];exact .cst v
 | junk v=>simp only [mO];exact .junk v
theorem sM {P:Program}{f:FuncId}{args:List D}{r:D}(hcl:r.cl=true)(h:∀ Q:D→AHeap→Prop,(∀ d H',mO (oQ H' d)=r→Q d H')→ACalls P f args .emp Q):Pure P f args r:=by
 have h:=h (fun d H'=>mO (oQ H' d)=r) fun _ _ h=>h
 refine ⟨h.1,fun M w vals hM ha=>(h.2 M gC w vals (Er M w hM) (by rw [Eu];exact ha)).mono fun e w' ⟨v,d,H',σ',he,hR,hv,hst,hk,hr⟩=>⟨v,he,?_,yG hst⟩⟩
 have h1:RepV (cR M (eP (Cv d) H') σ') σ' (eP (Cv d) H').al w' v r:=by
  have h0:=Pf (rK hR hv (Cv d) fun i hi=>hi)
  rw [hr] at h0;exact h0
 exact h1.closed (fun ad u hm hc=>⟨fun h=>hm (.inl h),hc⟩) hcl
attribute [go_sem] mO jH d7
end Go.Abs
end
section
namespace Go.Abs
def NA (H:AHeap)(d:D):D :=
 match d with
 | .ptr id ver i off=>match fD H (.ptr id ver i off) with
  | some (c :: cs)=>.adr ((c :: cs).map (eK H))
  | _=>.ptr id ver i off
 | d=>gX H d
def Md (H:AHeap)(d:D):List Nat :=
 match d with
 | .ptr id ver i off=>id :: (match fD H (.ptr id ver i off) with|some cs=>cs.flatMap jS|none=>[])
 | d=>dD d
section
variable {P:Program} {M0:Nat→Prop} {H:AHeap} {σ:Nat→Option Ow} {w:World}
theorem KZ {v : Value} {d : D} (hR : Rel M0 H σ w) (hx : RepV (cR M0 H σ) σ H.al w v d) (ids : List Nat) (hi : ∀ i ∈ Md H d, i ∈ ids) :
    RepV (cR M0 (eP ids H) σ) σ (eP ids H).al w v (NA H d) := by
  obtain ⟨h1, h2, h3, h4⟩ := eU ids hR
  have hx' := hx.keep h2
  have hfr : ∀ i ∈ ids, ∀ k, (eP ids H).get i = some k → k.fz = true := fun i hi k hk => by
    have he := (h4 i).1
    rw [hk] at he
    cases hk0 : H.get i with
    | none => rw [hk0] at he; cases he
    | some k0 =>
      obtain ⟨k', a1, a2, a3⟩ := (h4 i).2 k0 hk0 (.inr hi)
      rw [hk] at a1; cases a1; exact a2
  cases d with
  | ptr id ver i off =>
    have hs := BP (fun i => (h4 i).1) (.ptr id ver i off)
    simp only [NA]
    cases hc : fD H (.ptr id ver i off) with
    | none => exact hx'
    | some cs =>
      cases cs with
      | nil => exact hx'
      | cons c cs =>
        rw [hc] at hs
        have hin : ∀ y ∈ c :: cs, ∀ q ∈ jS y, q ∈ ids := fun y hy q hq => hi q (by simp only [Md, hc, bM, bQ]; exact .inr ⟨y, bM.1 hy, hq⟩)
        have hid : id ∈ ids := hi id (by simp only [Md]; exact nL ..)
        obtain ⟨ad, xs, hv, hrep, hone, hcell⟩ := oD h1 hx' hs (by simp)
        have hP := wW h1 hx' fun q hq k hk => hfr q (by simp only [S6, aV] at hq; subst hq; exact hid) k hk
        simp only [Cn, hs] at hP
        cases hP with
        | adr ad' xs' ds hl' hone' hcell' hrep' =>
          refine .adr ad' xs' _ (by simpa using hl') hone' hcell' fun j u x hu hx => ?_
          rw [aM, bF] at hx
          obtain ⟨y, hy, rfl⟩ := hx
          rw [← nW (fun i => (h4 i).1) y]
          exact kW h1 (hrep' j u y hu hy) fun q hq k hk => hfr q (hin y (aH hy) q hq) k hk
  | _ => exact kV hR hx ids hi
theorem P4 {vals:List Value}{args:List D}(hR:Rel M0 H σ w)(ha:RepL (cR M0 H σ) σ H.al w vals args)(ids:List Nat)(hi:∀ i∈args.flatMap (Md H),i∈ids) :
  RepL (cR M0 (eP ids H) σ) σ (eP ids H).al w vals (args.map (NA H)) :=
 ⟨by simpa using ha.len,fun j u d hu hd=>by
  rw [aM,bF] at hd
  obtain ⟨y,hy,rfl⟩:=hd
  exact KZ hR (ha.rep j u y hu hy) ids fun i hii=>hi i (bQ.2 ⟨y,aH hy,hii⟩)⟩
theorem Kq {f:FuncId}{args:List D}{r:D}{Q:D→AHeap→Prop}(hp:Pure P f (args.map (NA H)) r)(hcl:D.clL (args.map (NA H))=true)(hf:r.flat=true)(hQ:Q r H):ACalls P f args H Q:=by
 refine ⟨hp.1,fun M0 σ w vals hR ha=>?_⟩
 obtain ⟨f1,f2,f3,f4⟩:=eU (args.flatMap (Md H)) hR
 refine (hp.2 (cR M0 (eP (args.flatMap (Md H)) H) σ) w vals (sO f1) (fQ (fun _ h=>h) (P4 hR ha _ fun i h=>h) hcl)).mono fun e w' ⟨v,he,hv,hb⟩=>?_
 obtain ⟨h1,h2,h3⟩:=hR.grow hb.os hb.tape hb.output hb.size hb.block
 exact ⟨v,r,H,σ,he,h1,xT hv hf,h2,h3,hQ⟩
theorem DU {md:Nat→Bool}{ops:Array Oper}{rest:List Oper}{e:cX}{dst:Option Tmp}{K:cX→AHeap→Prop}{f:FuncId}{args args':List D}{r:D}(hp:Pure P f args' r)(ha:args.map (NA H)=args')(hcl:D.clL args'=true)(hf:r.flat=true)
  (h:lQ P md ops rest (nK e dst r) H K):gU P md ops rest e dst K f args H:=by subst ha;unfold gU;exact Kq hp hcl hf h
end
attribute [go_sem] Md
end Go.Abs
end
section
namespace Go.Abs
def oR (H:AHeap)(d:D):D :=
 match d with
 | .own id n=>match H.get id with
  | some k=>if k.es.length=n then .list (k.es.map (·.map (eK H))) else .own id n
  | none=>.own id n
 | d=>eK H d
def Oc (H:AHeap)(d:D):List Nat :=
 match d with
 | .own id n=>id :: (match H.get id with|some k=>k.es.flatten.flatMap jS|none=>[])
 | d=>jS d
def jM (H:AHeap):D→D
 | .agg cs=>.agg (cs.map (oR H))
 | d=>oR H d
def Mc (H:AHeap):D→List Nat
 | .agg cs=>cs.flatMap (Oc H)
 | d=>Oc H d
def i4 (H:AHeap):D→D
 | .tup vs=>.tup (vs.map (jM H))
 | d=>jM H d
def Iy (H:AHeap):D→List Nat
 | .tup vs=>vs.flatMap (Mc H)
 | d=>Mc H d
section
variable {P:Program} {M0:Nat→Prop} {H:AHeap} {σ:Nat→Option Ow} {w:World}
theorem RepV.list_map {M:Nat→Prop}{N:Nat→Prop}{v:Value}{es:List (List D)}{f:D→D}(h:RepV M σ N w v (.list es))(hf:∀ y∈es.flatten,∀ u,RepV M σ N w u y→RepV M σ N w u (f y)) :
  RepV M σ N w v (.list (es.map (·.map f))):=by
 have hfl:(es.map (·.map f)).flatten=es.flatten.map f:=List.map_flatten.symm
 cases h with
 | listN=>exact .listN
 | list ad cap sz xs es hc hm hsz hl h1 hcell hr =>
  have:=RepV.list (M:=M) (σ:=σ) (N:=N) (w:=w) ad cap sz xs (es.map (·.map f)) (by simpa using hc) hm (fun c hc'=>by
   rw [aT] at hc';obtain ⟨y,hy,rfl⟩:=hc';rw [bA];exact hsz y hy) (by rw [hfl,bA];exact hl) h1 hcell (fun j u d hu hd=>by
   rw [hfl,aM,bF] at hd
   obtain ⟨y,hy,rfl⟩:=hd
   exact hf y (aH hy) u (hr j u y hu hy))
  rw [bA] at this
  exact this
theorem SN {d:D}(h:∀ a b,d≠.own a b):oR H d=eK H d:=by cases d<;>first|rfl|exact absurd rfl (h _ _)
theorem S5 {d:D}(h:∀ a b,d≠.own a b):Oc H d=jS d:=by cases d<;>first|rfl|exact absurd rfl (h _ _)
theorem Dl {v : Value} {d : D} (hR : Rel M0 H σ w) (hx : RepV (cR M0 H σ) σ H.al w v d) (ids : List Nat) (hi : ∀ i ∈ Oc H d, i ∈ ids) :
    RepV (cR M0 (eP ids H) σ) σ (eP ids H).al w v (oR H d) := by
  obtain ⟨h1, h2, h3, h4⟩ := eU ids hR
  have hx' := hx.keep h2
  have hfr : ∀ i ∈ ids, ∀ k, (eP ids H).get i = some k → k.fz = true := fun i hi k hk => by
    have he := (h4 i).1
    rw [hk] at he
    cases hk0 : H.get i with
    | none => rw [hk0] at he; cases he
    | some k0 =>
      obtain ⟨k', a1, a2, a3⟩ := (h4 i).2 k0 hk0 (.inr hi)
      rw [hk] at a1; cases a1; exact a2
  by_cases ho : ∀ a b, d ≠ .own a b
  · rw [SN ho, ← nW (fun i => (h4 i).1) d]
    rw [S5 ho] at hi
    exact kW h1 hx' fun i hii k hk => hfr i (hi i hii) k hk
  · obtain ⟨id, n, rfl⟩ : ∃ a b, d = .own a b := by
      refine bD fun hn => ho fun a b he => hn ⟨a, b, he⟩
    have hL := kW h1 hx' fun i hii k hk => hfr i (hi i (by
      simp only [jS, aV] at hii; subst hii; simp only [Oc]; exact nL ..)) k hk
    rw [nW (fun i => (h4 i).1)] at hL
    simp only [oR, eK] at hL ⊢
    cases hk : H.get id with
    | none => rw [hk] at hL; exact hL
    | some k =>
      rw [hk] at hL
      simp only at hL ⊢
      split
      · rename_i hn
        rw [if_pos hn] at hL
        refine hL.list_map fun y hy u hu => ?_
        rw [← nW (fun i => (h4 i).1) y]
        exact kW h1 hu fun i hii k' hk' => hfr i (hi i (by
          simp only [Oc, hk, bM, bQ]; exact .inr ⟨y, hy, hii⟩)) k' hk'
      · rename_i hn
        rw [if_neg hn] at hL; exact hL
theorem A4 {v : Value} {d : D} (hR : Rel M0 H σ w) (hx : RepV (cR M0 H σ) σ H.al w v d) (ids : List Nat) (hi : ∀ i ∈ Mc H d, i ∈ ids) :
    RepV (cR M0 (eP ids H) σ) σ (eP ids H).al w v (jM H d) := by
  cases d with
  | agg cs =>
    obtain ⟨h1, h2, h3, h4⟩ := eU ids hR
    cases hx with
    | agg vs ds hl h1 hr =>
      refine .agg vs _ (by simpa using hl) h1 fun j u x hu hd => ?_
      rw [aM, bF] at hd
      obtain ⟨y, hy, rfl⟩ := hd
      exact Dl hR (hr j u y hu hy) ids fun i hii => hi i (by simp only [Mc, bQ]; exact ⟨y, aH hy, hii⟩)
  | _ => exact Dl hR hx ids hi
theorem Ju {v : Value} {d : D} (hR : Rel M0 H σ w) (hx : RepV (cR M0 H σ) σ H.al w v d) (ids : List Nat) (hi : ∀ i ∈ Iy H d, i ∈ ids) :
    RepV (cR M0 (eP ids H) σ) σ (eP ids H).al w v (i4 H d) := by
  cases d with
  | tup cs =>
    cases hx with
    | tup vs ds hl hr =>
      refine .tup vs _ (by simpa using hl) fun j u x hu hd => ?_
      rw [aM, bF] at hd
      obtain ⟨y, hy, rfl⟩ := hd
      exact A4 hR (hr j u y hu hy) ids fun i hii => hi i (by simp only [Iy, bQ]; exact ⟨y, aH hy, hii⟩)
  | _ => exact A4 hR hx ids hi
theorem ACalls.deep {f:FuncId}{args:List D}{Q:D→AHeap→Prop}(h:ACalls P f args H fun d H'=>Q (i4 H' d) (eP (Iy H' d) H')):ACalls P f args H Q :=
 ⟨h.1,fun M0 σ w vals hR ha=>(h.2 M0 σ w vals hR ha).mono fun e w' ⟨v,d,H',σ',he,hR',hv,hst,hk,hq⟩=>by
  obtain ⟨f1,f2,_,_⟩:=eU (Iy H' d) hR'
  exact ⟨v,_,_,σ',he,f1,Ju hR' hv _ fun _ h=>h,hst,hk.trans f2,hq⟩⟩
end
end Go.Abs
end
section
namespace Go.Abs
theorem wa {a b:Prop}(x:a)(y:b):a∧b:=⟨x,y⟩
section
variable {P:Program} {c:Cfg} {a b:Code} {Q:Exit→cX→AHeap→Prop} {e:cX} {H:AHeap}
theorem wq {t:Bool}{A B:Prop}(h1:A→mN P c a Q e H)(h2:B→mN P c b Q e H)
  (k1:t=true→A:=by (intro h;first|(simp [go_sem] at h;exact h)|exact h)) (k2:t=false→B:=by (intro h;first|(simp [go_sem] at h;exact h)|exact h)) :
  v6 P c a b Q e H (.bool t):=aK (fun h=>h1 (k1 h)) (fun h=>h2 (k2 h))
theorem bP (I:Nat→cX→AHeap→Prop)(μ:Nat→Nat)(x0:Nat)(h0:I x0 e H)
  (hs:∀ J:Nat→cX→AHeap→Prop,(∀ x e H,J x e H↔I x e H)→∀ x e H,I x e H→mN P c b (rH (Dz J μ x) Q) e H):zY P c b Q e H :=
 k6 I μ x0 h0 (hs I fun _ _ _=>Iff.rfl)
theorem uZ {H':AHeap}(hg:Ghosts H H')(I:Nat→cX→AHeap→Prop)(μ:Nat→Nat)(x0:Nat)(h0:I x0 e H')
  (hs:∀ J:Nat→cX→AHeap→Prop,(∀ x e H,J x e H↔I x e H)→∀ x e H,I x e H→mN P c b (rH (Dz J μ x) Q) e H):zY P c b Q e H :=
 Ap hg I μ x0 h0 (hs I fun _ _ _=>Iff.rfl)
end
section
variable {p q:Prop}
structure Wh (q:Prop):Prop where
 h:q
theorem wv (k:q→p:=by (intro h;first|(simp [go_sem,seval,Y];exact h)|exact h))(h:q):p:=k h
theorem G3 (k:q→p:=by (intro h;first|(simp -implicitDefEqProofs [go_sem,seval,Y];exact h)|exact h))(h:q):p:=k h
theorem wo (k:Wh q→p:=by (intro h;(try simp [go_sem,seval,Y]);(repeat first|intro _|refine ⟨fF,?_⟩);exact h.1))(h:q):p:=k ⟨h⟩
theorem wp (k:Wh q→p:=by (intro h;(try simp [go_sem,seval,Y]);(repeat first|intro _|refine ⟨dQ,?_⟩);exact h.1))(h:q):p:=k ⟨h⟩
theorem Ab (k:Wh q→p:=by (intro h;(try simp -implicitDefEqProofs [go_sem,seval,Y]);(repeat first|intro _|refine ⟨dQ,?_⟩);exact h.1))(h:q):p:=k ⟨h⟩
theorem wl (h:p:=by first|rfl|(simp [go_sem,← List.map_take,← List.map_drop,Y];done)):p:=h
theorem wr (h:p:=by simp [E8,Cn,fD,go_sem,← List.map_take,← List.map_drop,Y]):p:=h
theorem Zz (h:p:=by simp [E8,Cn,NA,Md,fD,go_sem,← List.map_take,← List.map_drop,Y]):p:=h
theorem ZW (h:p:=by simp [go_sem,Y]):p:=h
theorem wn (h:p:=by first|omega|(simp [go_sem,seval,Y]<;>omega)):p:=h
theorem wg (h:p:=by and_intros<;>first|omega|(simp [go_sem,seval,Y]<;>omega)):p:=h
theorem wi (h:p:=by first|assumption|omega|(simp [go_sem,Y];done)|(simp_all;done)):p:=h
theorem wj (h:p:=by first|assumption|omega|(simp [go_sem,Y];done)|(simp_all<;>omega)):p:=h
theorem wy (h:p:=by simp [go_sem,Y]<;>first|omega|(rw [aS];simp<;>omega)|(simp_all<;>omega)):p:=h
end
section
variable {P:Program} {c:Cfg} {a b:Code} {Q:Exit→cX→AHeap→Prop} {e:cX} {H:AHeap} {p:Prop}
theorem dO {t:Bool}{A B:Prop}(h1:A→mN P c a Q e H)(h2:B→mN P c b Q e H)(k:v6 P c a b Q e H (.bool t)→p:=by (intro h;first|(simp [go_sem,seval,Y];exact h)|exact h))
  (k1:t=true→A:=by (intro h;first|(simp [go_sem] at h;exact h)|exact h)) (k2:t=false→B:=by (intro h;first|(simp [go_sem] at h;exact h)|exact h)):p:=k (aK (fun h=>h1 (k1 h)) (fun h=>h2 (k2 h)))
theorem fJ {t:Bool}{A B:Prop}(h1:A→mN P c a Q e H)(h2:B→mN P c b Q e H)(k:Wh (v6 P c a b Q e H (.bool t))→p:=by (intro h;(try simp [go_sem,seval,Y]);(repeat first|intro _|refine ⟨fF,?_⟩);exact h.1))
  (k1:t=true→A:=by (intro h;first|(simp [go_sem] at h;exact h)|exact h)) (k2:t=false→B:=by (intro h;first|(simp [go_sem] at h;exact h)|exact h)):p:=k ⟨aK (fun h=>h1 (k1 h)) (fun h=>h2 (k2 h))⟩
theorem yE {t:Bool}{A B:Prop}(h1:A→mN P c a Q e H)(h2:B→mN P c b Q e H)(k:Wh (v6 P c a b Q e H (.bool t))→p:=by (intro h;(try simp [go_sem,seval,Y]);(repeat first|intro _|refine ⟨dQ,?_⟩);exact h.1))
  (k1:t=true→A:=by (intro h;first|(simp [go_sem] at h;exact h)|exact h)) (k2:t=false→B:=by (intro h;first|(simp [go_sem] at h;exact h)|exact h)):p:=k ⟨aK (fun h=>h1 (k1 h)) (fun h=>h2 (k2 h))⟩
theorem wx {I J:Nat→cX→AHeap→Prop}{m:Nat→Nat}{x:Nat}(hJ:∀ x e H,J x e H↔I x e H)(x':Nat)(hI:I x' e H)(hm:m x'<m x:=by omega):Dz J m x e H:=cT x' hm ((hJ _ _ _).2 hI)
end
end Go.Abs
end
