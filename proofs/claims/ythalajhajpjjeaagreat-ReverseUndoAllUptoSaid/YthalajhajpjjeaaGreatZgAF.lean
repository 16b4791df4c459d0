/- The abstraction layer, part W: the rows that walk a region w -/
import Derived.Test.YthalajhajpjjeaaGreatZgAE
import Derived.Test.YthalajhajpjjeaaGreatZgAA
import Derived.Sort.OwnSortedInts
set_option linter.unusedVariables false
set_option linter.unusedSimpArgs false
section
namespace Go.Abs
def p6 (P:Program)(md:Nat->Bool)(ops:Array Oper)(sp:List (Nat × Nat))(n0 i:Nat)(rest:List Oper)(acc:List (Nat × List Nat))(e:dJ)(dst:Option Tmp)(K:dJ->AHeap->Prop)(f:FuncId)(args:List D)(H:AHeap):Prop :=
 (∃ r S,(∀ H',f6 S H' H->ACalls P f args H' λv H1=>v=r/\H1=H')/\chk sp i S acc/\jZ P md ops sp n0 (i+1) rest ((i,S) :: acc) (oP e dst r) H K) \/
 (De md dst=true/\∃ r S u q,(∀ p∈u,p.1∈S)/\(∀ p∈q,p.1<n0/\¬ H.al p.1)/\(∀ H',f6 S H' H->(∀ p∈q,p.1<H'.next/\¬ H'.al p.1)->ACalls P f args H' λv H1=>v=r/\H1=(H'.puts u).pushs q) /\
  chk sp i (S++q.map (·.1)) acc/\jZ P md ops sp n0 (i+1) rest ((i,S++q.map (·.1)) :: acc) (oP e dst r) ((H.puts u).pushs q) K)
def tY (P:Program)(md:Nat->Bool)(ops:Array Oper)(sp:List (Nat × Nat))(n0 i:Nat)(rest:List Oper)(acc:List (Nat × List Nat))(e:dJ)(dst:Option Tmp)(K:dJ->AHeap->Prop)(t:Bool)(f:FuncId)(args:List D)(H:AHeap):Prop :=
 ∃ r S,(t=true->∀ H',f6 S H' H->ACalls P f args H' λv H1=>v=r/\H1=H')/\chk sp i S acc/\jZ P md ops sp n0 (i+1) rest ((i,S) :: acc) (oP e dst (.opt t r)) H K
def Jj (nid:Nat)(e:dJ)(o:Oper):List Nat:=foot nid (match o.guard with|none=>e|some _=>gE e o.op) o.op
def sO (P:Program)(md:Nat->Bool)(ops:Array Oper)(sp:List (Nat × Nat))(n0 i:Nat)(rest:List Oper)(acc:List (Nat × List Nat))(e:dJ)(dst:Option Tmp)(H:AHeap)(K:dJ->AHeap->Prop)(F:List Nat):SOut->Prop
 | .op o=>o.cond/\chk sp i F acc/\jZ P md ops sp n0 (i+1) rest ((i,F) :: acc) (oP e dst o.val) o.heap K
 | .call f args=>p6 P md ops sp n0 i rest acc e dst K f args H
 | .gop t g o=>(t=true->g=true)/\(t=true->o.cond/\o.heap=H)/\chk sp i F acc/\jZ P md ops sp n0 (i+1) rest ((i,F) :: acc) (oP e dst (.opt t o.val)) H K
 | .gcall t g f args=>(t=true->g=true)/\tY P md ops sp n0 i rest acc e dst K t f args H
 | .bad=>False
theorem Pq (P:Program)(md:Nat->Bool)(ops:Array Oper)(q:List (Nat × Nat))(n i:Nat)(o:Oper)(k:List Oper)(m:List (Nat × List Nat))(e:dJ)(H:AHeap)(K:dJ->AHeap->Prop) :
  jZ P md ops q n i (o :: k) m e H K=sO P md ops q n i k m e o.dst H K (Jj (n+i) e o) (mY P md (n+i) ops e o H):=by
 obtain ⟨dst,op,type,pos,after,guard⟩:=o
 cases guard with
 | none =>
  simp only [jZ,pI,mY,Jj]
  cases s:gQ e { dst:=dst,op:=op,type:=type,pos:=pos,after:=after,guard:=none } with
  | none=>simp [JX,sO]
  | some p=>simp [JX,sO,p6]
 | some p =>
  obtain ⟨j,b⟩:=p
  simp only [jZ,pI,mY,Jj]
  cases u:gD ops e j with
  | none=>simp [HB,sO]
  | some gc =>
   obtain ⟨t,v⟩:=gc
   cases s:gQ (gE e op) { dst:=dst,op:=op,type:=type,pos:=pos,after:=after,guard:=some (j,b) } with
   | none=>simp [HB,sO]
   | some p=>simp [HB,sO,tY]
@[go_sem] theorem VS (P:Program)(md:Nat->Bool)(ops:Array Oper)(sp:List (Nat × Nat))(n0 i:Nat)(acc:List (Nat × List Nat))(e:dJ)(H:AHeap)(K:dJ->AHeap->Prop):jZ P md ops sp n0 i [] acc e H K=K e H:=rfl
section
variable (P:Program) (md:Nat→Bool) (ops:Array Oper) (sp:List (Nat × Nat)) (n0 i:Nat) (rest:List Oper) (acc:List (Nat × List Nat)) (e:dJ) (dst:Option Tmp) (H H':AHeap) (K:dJ→AHeap→Prop) (F:List Nat) (c f:Prop) (v:D) (t g:Bool) (fn:FuncId) (args:List D)
@[go_sem] theorem WD:sO P md ops sp n0 i rest acc e dst H K F (.op ⟨c,f,v,H'⟩)=(c/\chk sp i F acc/\jZ P md ops sp n0 (i+1) rest ((i,F) :: acc) (oP e dst v) H' K):=rfl
@[go_sem] theorem Ux:sO P md ops sp n0 i rest acc e dst H K F (.call fn args)=p6 P md ops sp n0 i rest acc e dst K fn args H:=rfl
@[go_sem] theorem VF:sO P md ops sp n0 i rest acc e dst H K F (.gop t g ⟨c,f,v,H'⟩) =
 ((t=true->g=true)/\(t=true->c/\H'=H)/\chk sp i F acc/\jZ P md ops sp n0 (i+1) rest ((i,F) :: acc) (oP e dst (.opt t v)) H K):=rfl
@[go_sem] theorem TX:sO P md ops sp n0 i rest acc e dst H K F (.gcall t g fn args)=((t=true->g=true)/\tY P md ops sp n0 i rest acc e dst K t fn args H):=rfl
@[go_sem] theorem UE (d:Option Tmp)(op:Op)(ty:TypeId)(p:String)(af:Array Edge)(gu:Option (Nat × Bool)) :
 jZ P md ops sp n0 i (⟨d,op,ty,p,af,gu⟩ :: rest) acc e H K=sO P md ops sp n0 i rest acc e d H K (Jj (n0+i) e ⟨d,op,ty,p,af,gu⟩) (mY P md (n0+i) ops e ⟨d,op,ty,p,af,gu⟩ H):=Pq P md ops sp n0 i _ rest acc e H K
@[go_sem] theorem Zv:chk [] i F acc=True:=rfl
end
@[go_sem] theorem Yk (p:Nat × Nat)(sp:List (Nat × Nat))(i:Nat)(F:List Nat)(acc:List (Nat × List Nat)):chk (p :: sp) i F acc = ∀ q∈acc,(q.1,i)∈(p :: sp)->∀ x∈q.2,x∉F:=rfl
@[go_sem] theorem Vy (nid:Nat)(e:dJ)(d:Option Tmp)(op:Op)(ty:TypeId)(p:String)(af:Array Edge):Jj nid e ⟨d,op,ty,p,af,none⟩=foot nid e op:=rfl
@[go_sem] theorem Vx (nid:Nat)(e:dJ)(d:Option Tmp)(op:Op)(ty:TypeId)(p:String)(af:Array Edge)(g:Nat × Bool):Jj nid e ⟨d,op,ty,p,af,some g⟩=foot nid (gE e op) op:=rfl
attribute [go_sem] foot Gp qT Op.operands Call.operands
@[go_sem] theorem Vp (k:IntKind)(n:Int):eB (.int k n)=[]:=rfl
@[go_sem] theorem Uw (b:Bool):eB (.bool b)=[]:=rfl
@[go_sem] theorem Vk (b:ByteArray):eB (.str b)=[]:=rfl
@[go_sem] theorem Vo:eB .nil=[]:=rfl
@[go_sem] theorem Uu (es:List (List D)):eB (.list es)=[]:=rfl
@[go_sem] theorem Vr (es:List D):eB (.adr es)=[]:=rfl
@[go_sem] theorem Us:eB .nilp=[]:=rfl
@[go_sem] theorem Ut:eB .nilf=[]:=rfl
@[go_sem] theorem Ws (f:FuncId)(l:List D):eB (.fn f l)=[]:=rfl
@[go_sem] theorem Vm (id n:Nat):eB (.own id n)=[id]:=rfl
@[go_sem] theorem Vi (id n lo hi:Nat):eB (.win id n lo hi)=[id]:=rfl
@[go_sem] theorem Vl (id v i o:Nat):eB (.ptr id v i o)=[id]:=rfl
@[go_sem] theorem Vq (l:List D):eB (.agg l)=l.flatMap lC:=rfl
@[go_sem] theorem Vn (t:Bool)(d:D):eB (.opt t d)=[]:=rfl
@[go_sem] theorem Uv:eB .junk=[]:=rfl
@[go_sem] theorem Vj (l:List D):eB (.tup l)=[]:=rfl
/-! ### guards -/
def gV:D->Option (Bool × Bool)
 | .bool c=>some (true,c)
 | .opt g (.bool c)=>some (g,c)
 | _=>none
def gT (e:dJ):Option Tmp->Option (Bool × Bool)
 | some t=>gV (e t)
 | none=>none
@[go_sem] theorem Zq (e:dJ)(t:Nat):gT e (some t)=gV (e t):=rfl
@[go_sem] theorem Zp (c:Bool):gV (.bool c)=some (true,c):=rfl
@[go_sem] theorem abG (g c:Bool):gV (.opt g (.bool c))=some (g,c):=rfl
section
variable (P:Program) (md:Nat→Bool) (nid:Nat) (ops:Array Oper) (e:dJ) (d:Option Tmp) (op:Op) (ty:TypeId) (p:String) (af:Array Edge) (H:AHeap) (j:Nat) (b:Bool)
@[go_sem] theorem UP:mY P md nid ops e ⟨d,op,ty,p,af,some (j,b)⟩ H =
 HB (gD ops e j) b (RF e (gO op)) (gQ (gE e op) ⟨d,op,ty,p,af,none⟩) (EP P nid md (gE e op) ⟨d,op,ty,p,af,none⟩ H):=rfl
@[go_sem] theorem abH (l:List Oper):gD l.toArray e j=gT e ((l[j]?).bind (·.dst)):=by grind [gD, gT, gV]
end
@[go_sem] theorem V2 (t c b g:Bool)(f:FuncId)(args:List D)(o:AOut):HB (some (t,c)) b g (some (f,args)) o=.gcall (t&&(c==b)) g f args:=rfl
@[go_sem] theorem YG (t c b g:Bool)(o:AOut):HB (some (t,c)) b g none o=.gop (t&&(c==b)) g o:=rfl
attribute [go_sem] gE gO Operand.tmp.injEq RF og gQ EP Option.bind_some lN Hp gM Bool.and_true beq_false beq_true beq_self_eq_true
 dE Bool.and_self Hq Bool.not_false
@[go_sem] theorem VY (e:dJ)(d:Option Tmp)(v:D)(t:Nat):DH (oP e d v) t=match oP e d v t with | .opt _ d=>d|d=>d:=rfl
@[go_sem] theorem UO (l:List D)(t:Nat):DH (An l) t=match An l t with | .opt _ d=>d|d=>d:=rfl
section
variable {P:Program} {md:Nat→Bool} {ops:Array Oper} {sp:List (Nat × Nat)} {n0 i:Nat} {rest:List Oper} {acc:List (Nat × List Nat)} {e:dJ} {dst:Option Tmp} {K:dJ→AHeap→Prop} {f:FuncId} {args args':List D} {H:AHeap} {r:D}
theorem Jw:chk sp i [] acc:=by
 unfold chk
 grind
theorem aI (hp:Pure P f args r)(hcl:D.clL args=true)(h:jZ P md ops sp n0 (i+1) rest ((i,[]) :: acc) (oP e dst r) H K):p6 P md ops sp n0 i rest acc e dst K f args H :=
 .inl ⟨r,[],λH' _=>rS hp hcl ⟨rfl,rfl⟩,Jw,h⟩
theorem dL {t:Bool}(hp:t=true->Pure P f args r)(hcl:t=true->D.clL args=true)(h:jZ P md ops sp n0 (i+1) rest ((i,[]) :: acc) (oP e dst (.opt t r)) H K):tY P md ops sp n0 i rest acc e dst K t f args H :=
 ⟨r,[],λht H' _=>rS (hp ht) (hcl ht) ⟨rfl,rfl⟩,Jw,h⟩
theorem aH {t:Bool}(b:t=true->Pure P f args r)(a:t=true->D.clL args=true)(h:nC P md ops rest (oP e dst (.opt t r)) H K):y9 P md ops rest e dst K t f args H:=by
 unfold y9
 exact .inl ⟨r,[],λht H' _=>rS (b ht) (a ht) ⟨rfl,rfl⟩,h⟩
theorem wE {S:List Nat}{H':AHeap}(c:f6 S H' H){d:D}(b:∀ x∈lC d,x∈S):fG H' d=fG H d:=by
 cases d<;>try rfl
 .rename_i a n
  have:=c a (b a (by simp [lC]))
  simp only [fG,this]
 .rename_i a n e f
  have:=c a (b a (by simp [lC]))
  simp only [fG,this]
theorem FH {S:List Nat}{H':AHeap}(b:f6 S H' H){d:D}(a:∀ x∈dV d,x∈S):iM H' d=iM H d:=by
 cases d<;>try rfl
 case own id n=>exact wE (d:=.own id n) b a
 case win id n lo hi=>exact wE (d:=.win id n lo hi) b a
 case agg l =>
  simp only [iM]
  congr 1
  exact bU λx e=>wE b λy c=>a y (by simp only [dV,bT];exact ⟨x,e,c⟩)
theorem Bp {S:List Nat}{H':AHeap}(ha:f6 S H' H){l:List D}(hd:∀ x∈l.flatMap dV,x∈S):l.map (iM H')=l.map (iM H) :=
 bU λd hm=>FH ha λx hx=>hd x (bT.2 ⟨d,hm,hx⟩)
theorem H9 {t:Bool}(c:t=true->Pure P f args' r)(j:args.map (iM H)=args')(a:t=true->D.clL args'=true)(d:t=true->r.flat=true){S:List Nat}(k:args.flatMap dV=S)(g:chk sp i S acc)
  (h:jZ P md ops sp n0 (i+1) rest ((i,S) :: acc) (oP e dst (.opt t r)) H K):tY P md ops sp n0 i rest acc e dst K t f args H:=by
 subst j k
 refine ⟨r,_,λht H' hag=>?_,g,h⟩
 have b:=Bp hag λx hx=>hx
 exact wX (by rw [b];exact c ht) (by rw [b];exact a ht) (d ht) ⟨rfl,rfl⟩
theorem KO {t:Bool}(c:t=true->Pure P f args' r)(g:args.map (iM H)=args')(a:t=true->D.clL args'=true)(d:t=true->r.flat=true)
  (h:nC P md ops rest (oP e dst (.opt t r)) H K):y9 P md ops rest e dst K t f args H:=by
 subst g
 unfold y9
 refine .inl ⟨r,args.flatMap dV,λht H' hag=>?_,h⟩
 have b:=Bp hag λx hx=>hx
 exact wX (by rw [b];exact c ht) (by rw [b];exact a ht) (d ht) ⟨rfl,rfl⟩
end
/-! ### calls of function values -/
def Qd:D->List D->Option (FuncId × List D)
 | .fn g caps,az=>some (g,az++caps)
 | _,_=>none
@[go_sem] theorem Yl (g:FuncId)(caps az:List D):Qd (.fn g caps) az=some (g,az++caps):=rfl
theorem Pf (e:dJ)(d:Option Tmp)(f:Operand)(args:Array Operand)(ts:Array TypeId)(ty:TypeId)(p:String)(a:Array Edge)(g:Option (Nat × Bool)) :
  gQ e ⟨d,.call ⟨.value f,args,ts⟩,ty,p,a,g⟩=Qd (eZ e f) (args.toList.map (eZ e)):=by grind [gQ, Qd]
@[go_sem] theorem YK (P:Program)(md:Nat->Bool)(nid:Nat)(ops:Array Oper)(e:dJ)(d:Option Tmp)(ty:TypeId)(p:String)(a:Array Edge)(H:AHeap)(t:Nat)(args:Array Operand)(ts:Array TypeId) :
  mY P md nid ops e ⟨d,.call ⟨.value (.tmp t),args,ts⟩,ty,p,a,none⟩ H=JX (Qd (e t) (args.toList.map (eZ e))) (.bad H):=by
 simp only [mY,Pf]
 rfl
attribute [go_sem] decide_eq_true_eq cZ cX
attribute [irreducible] p6 tY
end Go.Abs
end
section
namespace Go.Abs
attribute [go_sem] D.cell D.cl D.clL D.clLL D.flat D.flat1 r9 q7 s4 List.take_zero List.drop_succ_cons List.drop_zero s5 List.replicate_zero eU List.flatten_nil
def dI (n:Int):D:=.int .i64 n
def cI (n:Int):List D:=[.int .i64 n]
def cS (s:ByteArray):List D:=[.str s]
def dLI (xs:List Int):D:=.list (xs.map cI)
def s9 (xs:List ByteArray):D:=.list (xs.map cS)
structure Attr where
 name:ByteArray
 low:Int
 high:Int
 names:List ByteArray
def Attr.c (a:Attr):List D:=[.str a.name,dI a.low,dI a.high,s9 a.names]
structure NodeTy where
 name:ByteArray
 parent:Int
 abs:Bool
 attrs:List Attr
def NodeTy.c (n:NodeTy):List D:=[.str n.name,dI n.parent,.bool n.abs,.list (n.attrs.map Attr.c)]
structure EdgeTy where
 name:ByteArray
 from_:Int
 to_:Int
 outLow:Int
 outHigh:Int
 inLow:Int
 inHigh:Int
def EdgeTy.c (x:EdgeTy):List D:=[.str x.name,dI x.from_,dI x.to_,dI x.outLow,dI x.outHigh,dI x.inLow,dI x.inHigh]
structure Types where
 nodes:List NodeTy
 edges:List EdgeTy
def Types.c (t:Types):List D:=[.list (t.nodes.map NodeTy.c),.list (t.edges.map EdgeTy.c)]
def Types.d (t:Types):D:=.agg t.c
structure Edge where
 type:Int
 from_:Int
 to_:Int
def Edge.c (x:Edge):List D:=[dI x.type,dI x.from_,dI x.to_]
structure Graph where
 nodes:List Int
 edges:List Edge
def Graph.c (g:Graph):List D:=[dLI g.nodes,.list (g.edges.map Edge.c)]
def Graph.d (g:Graph):D:=.agg g.c
/-! ### closed -/
theorem dK {α:Type}(f:α->List D)(h:∀ a,D.clL (f a)=true)(l:List α):D.clLL (l.map f)=true:=by
 induction l with
 | nil=>rfl
 | cons a l ih=>simp [D.clLL,h,ih]
@[go_sem] theorem pD (l:List Int):(dLI l).cl=true:=by simp only [dLI,D.cl];exact dK _ (λ_=>rfl) l
@[go_sem] theorem SH (l:List ByteArray):(s9 l).cl=true:=by simp only [s9,D.cl];exact dK _ (λ_=>rfl) l
@[go_sem] theorem Attr.cl (a:Attr):D.clL a.c=true:=by simp [Attr.c,D.clL,D.cl,dI,SH]
@[go_sem] theorem NodeTy.cl (n:NodeTy):D.clL n.c=true:=by simp [NodeTy.c,D.clL,D.cl,dI,dK _ Attr.cl]
@[go_sem] theorem EdgeTy.cl (x:EdgeTy):D.clL x.c=true:=by simp [EdgeTy.c,D.clL,D.cl,dI]
@[go_sem] theorem Types.cl (t:Types):t.d.cl=true:=by simp [Types.d,Types.c,D.clL,D.cl,dK _ NodeTy.cl,dK _ EdgeTy.cl]
@[go_sem] theorem Edge.cl (x:Edge):D.clL x.c=true:=by simp [Edge.c,D.clL,D.cl,dI]
@[go_sem] theorem Graph.cl (g:Graph):g.d.cl=true:=by simp [Graph.d,Graph.c,D.clL,D.cl,pD,dK _ Edge.cl]
@[go_sem] theorem WP (a b:D)(l:List D):Fl (a :: b :: l)=.tup (a :: b :: l):=rfl
end Go.Abs
end
section
namespace Go.Abs
structure Term where
 var:Int
 add:Int
def Term.c (x:Term):List D:=[dI x.var,dI x.add]
structure Slot where
 node:Int
 attr:Int
 term:Term
def Slot.c (x:Slot):List D:=[dI x.node,dI x.attr,dI x.term.var,dI x.term.add]
structure Test where
 kind:Int
 left:Term
 right:Term
def Test.c (x:Test):List D:=[dI x.kind,dI x.left.var,dI x.left.add,dI x.right.var,dI x.right.add]
structure Pattern where
 graph:Graph
 slots:List Slot
 vars:Int
 tests:List Test
def Pattern.c (p:Pattern):List D:=[dLI p.graph.nodes,.list (p.graph.edges.map Edge.c),.list (p.slots.map Slot.c),dI p.vars,.list (p.tests.map Test.c)]
def Pattern.d (p:Pattern):D:=.agg p.c
structure Part where
 nodes:List Int
 edges:List Int
def Part.c (p:Part):List D:=[dLI p.nodes,dLI p.edges]
def Part.d (p:Part):D:=.agg p.c
inductive Cond where
 | mk (kind:Int) (kids:List Cond) (map:Part) (pattern:Pattern)
def Cond.kind:Cond->Int | .mk k _ _ _=>k
def Cond.kids:Cond->List Cond | .mk _ l _ _=>l
def Cond.map:Cond->Part | .mk _ _ m _=>m
def Cond.pattern:Cond->Pattern | .mk _ _ _ p=>p
mutual
def Cond.c:Cond->List D
 | .mk k l m p=>[dI k,.list (Cond.cs l),dLI m.nodes,dLI m.edges,dLI p.graph.nodes,.list (p.graph.edges.map Edge.c),.list (p.slots.map Slot.c),dI p.vars,.list (p.tests.map Test.c)]
def Cond.cs:List Cond->List (List D)
 | []=>[]
 | c :: l=>c.c :: Cond.cs l
end
theorem Cond.cs_eq (l:List Cond):Cond.cs l=l.map Cond.c:=by
 induction l with
 | nil=>simp [Cond.cs]
 | cons a l ih=>simp [Cond.cs,ih]
theorem Cond.c_eq (x:Cond):x.c=[dI x.kind,.list (x.kids.map Cond.c),dLI x.map.nodes,dLI x.map.edges,dLI x.pattern.graph.nodes,.list (x.pattern.graph.edges.map Edge.c),.list (x.pattern.slots.map Slot.c),dI x.pattern.vars,.list (x.pattern.tests.map Test.c)]:=by
 cases x;simp [Cond.c,Cond.kind,Cond.kids,Cond.map,Cond.pattern,Cond.cs_eq]
structure Rule where
 name:ByteArray
 left:Pattern
 right:Pattern
 keep:Part
 into:Part
 inj:Bool
 cond:Cond
def Rule.c (r:Rule):List D:=[.str r.name,dLI r.left.graph.nodes,.list (r.left.graph.edges.map Edge.c),.list (r.left.slots.map Slot.c),dI r.left.vars,.list (r.left.tests.map Test.c),
 dLI r.right.graph.nodes,.list (r.right.graph.edges.map Edge.c),.list (r.right.slots.map Slot.c),dI r.right.vars,.list (r.right.tests.map Test.c),
 dLI r.keep.nodes,dLI r.keep.edges,dLI r.into.nodes,dLI r.into.edges,.bool r.inj,
 dI r.cond.kind,.list (r.cond.kids.map Cond.c),dLI r.cond.map.nodes,dLI r.cond.map.edges,dLI r.cond.pattern.graph.nodes,.list (r.cond.pattern.graph.edges.map Edge.c),.list (r.cond.pattern.slots.map Slot.c),dI r.cond.pattern.vars,.list (r.cond.pattern.tests.map Test.c)]
def Rule.d (r:Rule):D:=.agg r.c
structure Stage where
 weights:List Int
 removed:List Int
def Stage.c (s:Stage):List D:=[dLI s.weights,dLI s.removed]
@[go_sem] theorem Slot.cl (x:Slot):D.clL x.c=true:=rfl
@[go_sem] theorem Test.cl (x:Test):D.clL x.c=true:=rfl
@[go_sem] theorem Fv (l:List Slot):D.clLL (l.map Slot.c)=true:=dK _ Slot.cl l
@[go_sem] theorem LD (l:List Test):D.clLL (l.map Test.c)=true:=dK _ Test.cl l
@[go_sem] theorem Stage.cl (x:Stage):D.clL x.c=true:=by simp [Stage.c,D.clL,pD]
@[go_sem] theorem VZ (l:List Stage):D.clLL (l.map Stage.c)=true:=dK _ Stage.cl l
theorem vL (l:List Edge):D.clLL (l.map Edge.c)=true:=dK _ Edge.cl l
mutual
theorem Cond.cl:∀ x:Cond,D.clL x.c=true
 | .mk k l m p=>by
  have:=Cond.cls l
  simp [Cond.c,D.clL,D.cl,dI,pD,this,vL,Fv,LD]
theorem Cond.cls:∀ l:List Cond,D.clLL (Cond.cs l)=true
 | []=>by simp [Cond.cs,D.clLL]
 | c :: l=>by simp [Cond.cs,D.clLL,Cond.cl c,Cond.cls l]
end
attribute [go_sem] Cond.cl
@[go_sem] theorem SI (l:List Cond):D.clLL (l.map Cond.c)=true:=by rw [<- Cond.cs_eq];exact Cond.cls l
@[go_sem] theorem Rule.cl (r:Rule):D.clL r.c=true:=by
 simp [Rule.c,D.clL,D.cl,dI,pD,vL,Fv,LD,SI]
@[go_sem] theorem WW (l:List Rule):D.clLL (l.map Rule.c)=true:=dK _ Rule.cl l
end Go.Abs
end
section
namespace Go.Abs
def C2 (H:AHeap)(d:D):D :=
 match d with
 | .ptr id ver i off=>match fK H (.ptr id ver i off) with
  | some (c :: cs)=>.adr (c :: cs)
  | _=>.ptr id ver i off
 | d=>fG H d
def TS:D->List Nat
 | .ptr id _ _ _=>[id]
 | d=>lC d
def FI (H:AHeap)(d:D):D :=
 match d with
 | .fn g caps=>.fn g (caps.map (C2 H))
 | .ptr id ver i off=>C2 H (.ptr id ver i off)
 | d=>iM H d
def Ss:D->List Nat
 | .fn _ caps=>caps.flatMap TS
 | .ptr id _ _ _=>[id]
 | d=>dV d
section
variable {P:Program} {M0:Nat→Prop} {H:AHeap} {σ:Nat→Option Ow} {w:World}
theorem CB {H H':AHeap}(h:∀ i,(H'.get i).map (·.es)=(H.get i).map (·.es))(d:D):fK H' d=fK H d:=by
 cases d<;>try rfl
 rename_i c a i b
 simp only [fK]
 grind
theorem yF {v:Value}{d:D}(s:Rel M0 H σ w)(m:RepV (dA M0 H σ) σ H.al w v d)(G:∀ i∈TS d,∀ k,H.get i=some k->k.fz=true) :
  RepV (dA M0 H σ) σ H.al w v (C2 H d):=by
 cases d<;>try exact mL s m G
 rename_i g ver i t
 simp only [C2]
 cases B:fK H (.ptr g ver i t) with
 | none=>exact m
 | some I =>
  cases I with
  | nil=>exact m
  | cons c I =>
   obtain ⟨J,K,M,a,Q,e⟩:=qL s m B bW
   subst M
   have A:¬ dA M0 H σ J.block:=by
    cases q:H.get g with
    | none=>simp [fK,q] at B
    | some k =>
     obtain ⟨o,z,l⟩:=s.lies g k q
     have F:k.es.length=ver:=by
      simp only [fK,q] at B
      grind
     cases m
     rename_i S P h
     rcases h o z with T|⟨_,b,n,x⟩
     .have:=l.ver;omega
     .cases x
      rintro (N|⟨E,R,L,p,r,y,C⟩)
      .exact (s.lt g o b z n).2 N
      .have O:=s.inj E g L o b y z C n
       subst O
       rw [q] at p;cases p
       rw [G E (by simp [TS]) k q] at r;cases r
   exact .adr J K _ a.len Q (λj u hu=>⟨A,e j u hu⟩) a.rep
theorem LM {v:Value}{d:D}(p:Rel M0 H σ w)(e:RepV (dA M0 H σ) σ H.al w v d)(a:List Nat)(h:∀ i∈Ss d,i∈a) :
  RepV (dA M0 (fJ a H) σ) σ (fJ a H).al w v (FI H d):=by
 obtain ⟨q,B,C,n⟩:=fX a p
 have c:=e.keep B
 have f:∀ i∈a,∀ k,(fJ a H).get i=some k->k.fz=true:=λi h k hk=>by
  have m:=(n i).1
  rw [hk] at m
  cases l:H.get i with
  | none=>rw [l] at m;cases m
  | some k0 =>
   grind
 have b:∀ d,C2 (fJ a H) d=C2 H d:=λd=>by
  have z:=pS (λi=>(n i).1) d
  cases d with
  | ptr id ver i off=>simp only [C2,CB (λi=>(n i).1)]
  | _=>exact z
 cases d with
 | fn g caps =>
  cases c
  rename_i r A t
  refine .fn g r _ (bX A) λj u x hu e=>?_
  rw [aN,bR] at e
  obtain ⟨y,s,rfl⟩:=e
  rw [<- b y]
  refine yF q (t j u y hu s) λi hii k hk=>f i (h i ?_) k hk
  simp only [Ss,bT]
  grind
 | ptr id ver i off =>
  simp only [FI]
  rw [<- b]
  exact yF q c λi hii k hk=>f i (h i hii) k hk
 | _=>exact mK p e a h
theorem QG {vals:List Value}{args:List D}(hR:Rel M0 H σ w)(ha:RepL (dA M0 H σ) σ H.al w vals args)(ids:List Nat)(hi:∀ i∈args.flatMap Ss,i∈ids) :
  RepL (dA M0 (fJ ids H) σ) σ (fJ ids H).al w vals (args.map (FI H)) :=
 ⟨by simpa using ha.len,λj u d hu hd=>by
  rw [aN,bR] at hd
  obtain ⟨y,hy,rfl⟩:=hd
  exact LM hR (ha.rep j u y hu hy) ids λi hii=>hi i (bT.2 ⟨y,aK hy,hii⟩)⟩
theorem Lj {f:FuncId}{args:List D}{r:D}{Q:D->AHeap->Prop}(c:Pure P f (args.map (FI H)) r)(b:D.clL (args.map (FI H))=true)(g:r.flat=true)(k:Q r H):ACalls P f args H Q:=by
 refine ⟨c.1,λM0 σ w vals hR ha=>?_⟩
 obtain ⟨o,s,q,p⟩:=fX (args.flatMap Ss) hR
 refine (c.2 (dA M0 (fJ (args.flatMap Ss) H) σ) w vals (uH o) (gU (λ_ h=>h) (QG hR ha _ λi h=>h) b)).mono λe w' ⟨v,j,d,a⟩=>?_
 obtain ⟨n,m,l⟩:=hR.grow a.os a.tape a.output a.size a.block
 exact ⟨v,r,H,σ,j,n,zD d g,m,l,k⟩
theorem t6 {md:Nat->Bool}{ops:Array Oper}{a:List Oper}{e:dJ}{b:Option Tmp}{K:dJ->AHeap->Prop}{f:FuncId}{args args':List D}{r:D}(d:Pure P f args' r)(i:args.map (FI H)=args')(c:D.clL args'=true)(g:r.flat=true)
 (h:nC P md ops a (oP e b r) H K):fL P md ops a e b K f args H:=by grind [fL, Lj]
end
theorem Own.pure {P:Program}{f:FuncId}{args:List D}{ty:TypeId}{sz:Nat}{es:List (List D)}(h:Own P f args ty sz es):Pure P f args (.list es):=by
 refine ⟨h.1,λM w vals hM ha=>(h.2 M w vals hM ha).mono λe w' ⟨v,z,C,k,F,m,x,s,E⟩=>⟨v,C,?_,E⟩⟩
 have o:D.clL es.flatten=true:=CM λd hd=>by
  obtain ⟨c,l,q⟩:=jC.1 hd
  exact jK (qE x c l) d q
 have a:RepL M iN rJ w' z es.flatten:=gU (λb h h'=>h (.inl h')) m o
 rcases k.2 with ⟨n,G⟩|⟨g,y,H,i,I,p,t,l,B,r⟩
 .rw [n,bP G];exact .listN
 .rw [i]
  refine .list ⟨g,0,none⟩ y sz z es t l s a.len F (λj u hu=>⟨λhm=>?_,k.cells (g:=g) (by simp [i,Value.ownBlock]) j u hu⟩) a.rep
  grind
end Go.Abs
end
section
namespace Go.Abs
def Q3:D->D
 | .nil=>.list []
 | d=>d
def Tb:D->D
 | .agg cs=>.agg (cs.map Q3)
 | d=>Q3 d
def RG:D->D
 | .tup vs=>.tup (vs.map Tb)
 | d=>Tb d
@[go_sem] theorem Y7 (k:IntKind)(n:Int):Q3 (.int k n)=.int k n:=rfl
@[go_sem] theorem XJ (b:Bool):Q3 (.bool b)=.bool b:=rfl
@[go_sem] theorem Y5 (b:ByteArray):Q3 (.str b)=.str b:=rfl
@[go_sem] theorem XI (l:List (List D)):Q3 (.list l)=.list l:=rfl
@[go_sem] theorem Y6:Q3 .nil=.list []:=rfl
@[go_sem] theorem Y3 (k:IntKind)(n:Int):Tb (.int k n)=.int k n:=rfl
@[go_sem] theorem XH (b:Bool):Tb (.bool b)=.bool b:=rfl
@[go_sem] theorem Y1 (b:ByteArray):Tb (.str b)=.str b:=rfl
@[go_sem] theorem XG (l:List (List D)):Tb (.list l)=.list l:=rfl
@[go_sem] theorem Y2:Tb .nil=.list []:=rfl
@[go_sem] theorem Y4 (l:List D):Tb (.agg l)=.agg (l.map Q3):=rfl
@[go_sem] theorem YZ (k:IntKind)(n:Int):RG (.int k n)=.int k n:=rfl
@[go_sem] theorem XF (b:Bool):RG (.bool b)=.bool b:=rfl
@[go_sem] theorem YX (b:ByteArray):RG (.str b)=.str b:=rfl
@[go_sem] theorem XE (l:List (List D)):RG (.list l)=.list l:=rfl
@[go_sem] theorem YY:RG .nil=.list []:=rfl
@[go_sem] theorem Y0 (l:List D):RG (.agg l)=.agg (l.map Q3):=rfl
@[go_sem] theorem YW (l:List D):RG (.tup l)=.tup (l.map Tb):=rfl
theorem Ku {M:Nat->Prop}{σ:Nat->Option Ow}{N:Nat->Prop}{w:World}{v:Value}{d:D}(h:RepV M σ N w v d):RepV M σ N w v (Q3 d):=by
 cases d<;>try exact h
 cases h
 exact .listN
theorem PP {M:Nat->Prop}{σ:Nat->Option Ow}{N:Nat->Prop}{w:World}{v:Value}{d:D}(h:RepV M σ N w v d):RepV M σ N w v (Tb d):=by
 cases d<;>try exact Ku h
 cases h
 rename_i a f e c
 refine .agg a _ (bX e) f λj u d hu hd=>?_
 rw [aN,bR] at hd
 obtain ⟨y,b,rfl⟩:=hd
 exact Ku (c j u y hu b)
theorem TD {M:Nat->Prop}{σ:Nat->Option Ow}{N:Nat->Prop}{w:World}{v:Value}{d:D}(h:RepV M σ N w v d):RepV M σ N w v (RG d):=by
 cases d<;>try exact PP h
 cases h
 rename_i a e c
 refine .tup a _ (bX e) λj u d hu hd=>?_
 rw [aN,bR] at hd
 obtain ⟨y,b,rfl⟩:=hd
 exact PP (c j u y hu b)
section
variable {P:Program} {c:Cfg}
theorem PH {f:FuncId}{args:List D}{r:D}(g:r.cl=true)(h:∀ Q:D->AHeap->Prop,(∀ d H',(qP H' d=r\/RG (qP H' d)=r)->Q d H')->ACalls P f args .emp Q):Pure P f args r:=by
 have h:=h (λd H'=>qP H' d=r\/RG (qP H' d)=r) λ_ _ h=>h
 refine ⟨h.1,λM w vals hM ha=>(h.2 M iN w vals (EW M w hM) (by rw [EZ];exact ha)).mono λe w' ⟨v,d,H',σ',k,m,j,c,o,b⟩=>⟨v,k,?_,zR c⟩⟩
 have n:RepV (dA M (fJ (C9 d) H') σ') σ' (fJ (C9 d) H').al w' v r:=by
  have a:=tG m j (C9 d) λi hi=>hi
  rcases b with b|b
  .rw [b] at a;exact a
  .have a:=TD a;rw [b] at a;exact a
 exact n.closed (λad u hm l=>⟨λh=>hm (.inl h),l⟩) g
theorem aaR {f:FuncId}{args:List D}{ty:TypeId}{sz:Nat}{es:List (List D)}(hcl:D.clLL es=true)
  (h:∀ Q:D->AHeap->Prop,(∀ id n H',n=es.length->H'.get id=some ⟨ty,sz,es,false⟩->Q (.own id n) H')->ACalls P f args .emp Q):Own P f args ty sz es :=
 B0 (h _ λid n H' hn hg=>⟨id,_,by rw [hn],hg,rfl,rfl,rfl,rfl,hcl⟩)
def D2 (I:Nat->dJ->AHeap->Prop)(m:Nat->Nat)(x:Nat)(e:dJ)(H:AHeap):Prop:=∃ H',Ghosts H H'/\∃ x',m x'<m x/\I x' e H'
theorem d7 {I:Nat->dJ->AHeap->Prop}{m:Nat->Nat}{x:Nat}{e:dJ}{H:AHeap}(x':Nat)(hm:m x'<m x)(hI:I x' e H):D2 I m x e H:=⟨H,.refl H,x',hm,hI⟩
theorem Gl {I:Nat->dJ->AHeap->Prop}{m:Nat->Nat}{x:Nat}{e:dJ}{H H':AHeap}(hg:Ghosts H H')(x':Nat)(hm:m x'<m x)(hI:I x' e H'):D2 I m x e H:=⟨H',hg,x',hm,hI⟩
theorem oD {b:Code}{Q:Exit->dJ->AHeap->Prop}{e:dJ}{H:AHeap}(I:Nat->dJ->AHeap->Prop)(μ:Nat->Nat)(x0:Nat)(h0:I x0 e H)
 (hs:∀ x e H,I x e H->oN P c b (tC (D2 I μ x) Q) e H):AJ P c b Q e H:=Cc (.refl H) I μ x0 h0 hs
theorem Ky {b:Code}{Q:Exit->dJ->AHeap->Prop}{e:dJ}{H H':AHeap}(hg:Ghosts H H')(I:Nat->dJ->AHeap->Prop)(μ:Nat->Nat)(x0:Nat)(h0:I x0 e H')
 (hs:∀ x e H,I x e H->oN P c b (tC (D2 I μ x) Q) e H):AJ P c b Q e H:=Cc hg I μ x0 h0 hs
end
@[go_sem] theorem Wy (H:AHeap)(id i off:Nat)(ty sz:Nat):GH H id i off ty sz=match H.get id with
 | some k=>(H.put id { k with es:=k.es.set i ((k.es[i]?.getD []).set off (.own H.next 0)) }).push H.next ⟨ty,sz,[],false⟩
 | none=>H:=rfl
@[go_sem] theorem Vv (H:AHeap)(id i off q hi:Nat):A9 H id i off q hi=match H.get id,H.get q with
 | some k,some kq=>(((H.drop q).push H.next ⟨kq.ty,kq.sz,kq.es.take hi,false⟩).put id { k with es:=k.es.set i ((k.es[i]?.getD []).set off (.own H.next hi)) })
 | _,_=>H:=rfl
attribute [go_sem] uU DE
attribute [irreducible] D2
theorem eO {p:Prop}(h:p:=by (first|assumption|(intros;first|assumption|omega|exact dD aD aD|(and_intros<;>first|assumption|omega|exact dD aD aD))|(simp_all<;>omega))):p:=h
theorem eL {p:Prop}(h:p:=by (first|assumption|(intros;first|assumption|omega|exact dD aD aD|(and_intros<;>first|assumption|omega|exact dD aD aD))|(simp;done)|(simp;omega))):p:=h
end Go.Abs
end
section
namespace Go.Abs
section
variable {P:Program} {M0:Nat→Prop} {H:AHeap} {σ:Nat→Option Ow} {w:World}
theorem z6 (zs:List Int):(zs.map cI).flatten=zs.map (D.int .i64):=by
 induction zs with
 | nil=>rfl
 | cons a l b=>simp only [g9,eU,b,cI];rfl
theorem zT {M:Nat->Prop}{N:Nat->Prop}(zs:List Int):RepL M σ N w (zs.map (Value.int .i64)) (zs.map cI).flatten:=by
 rw [z6]
 refine ⟨by simp,λj u d hu hd=>?_⟩
 rw [aN,bR] at hu hd
 obtain ⟨x,b,rfl⟩:=hu
 obtain ⟨y,a,rfl⟩:=hd
 rw [b] at a;cases a
 exact .int _ _
def ES (w:World)(ty:TypeId)(v:Value)(xs:List Int):Prop:=w.ownsRow 0 ty 1 v xs.length (xs.map (Value.int .i64))
theorem PE (x:Rel M0 H σ w){d:Nat}{ty:TypeId}{xs:List Int}(t:H.get d=some ⟨ty,1,xs.map cI,false⟩){v:Value}(m:RepV (dA M0 H σ) σ H.al w v (.own d xs.length)) :
  ∃ o,σ d=some o/\v=o.val/\o.ver=xs.length/\o.ty=ty/\o.esz=1/\ES w ty v xs:=by
 obtain ⟨o,i,l⟩:=x.lies d _ t
 have c:o.ver=xs.length:=by have:=l.ver;simpa using this
 cases m
 rename_i A B h
 rcases h o i with C|⟨_,rfl⟩
 .omega
 .obtain ⟨b,g,p,a⟩:=l.row
  have n:b=xs.map (Value.int .i64):=by
   simp only [z6] at a
   apply gL
   intro j
   have s:=a.len
   simp only [aV] at s
   by_cases e:j<xs.length
   .have y:=a.rep j b[j] (D.int .i64 xs[j]) (aA aD) (by simp [e])
    generalize b[j]=u at y
    have f:b[j]?=some b[j]:=aA aD
    have k:=a.rep j b[j] (D.int .i64 xs[j]) f (by simp [e])
    generalize z:b[j]=q at f k
    rw [f]
    cases k
    simp [e]
   grind
  refine ⟨o,i,rfl,c,l.ty,l.sz,?_⟩
  unfold ES
  have r:o.esz=1:=l.sz
  grind
theorem LS {w':World}(n:Rel M0 H σ w){a:Nat}{ty:TypeId}{xs zs:List Int}(g:Bool)(m:H.get a=some ⟨ty,1,xs.map cI,false⟩){o:Ow}(k:σ a=some o)(e:o.ver=xs.length)(h:o.ty=ty)(d:o.esz=1)
  (l:zs.length=xs.length) (j:w.grownBy w' o.block) (f:ES w' ty o.val zs) :
  Rel M0 (H.put a ⟨ty,1,zs.map cI,g⟩) (λi=>if i=a then some o else σ i) w'/\Stp σ w (λi=>if i=a then some o else σ i) w' /\
   Keeps (dA M0 H σ) σ H.al w (dA M0 (H.put a ⟨ty,1,zs.map cI,g⟩) (λi=>if i=a then some o else σ i)) (λi=>if i=a then some o else σ i) (H.put a ⟨ty,1,zs.map cI,g⟩).al w':=by
 refine Rel.put n m rfl k ⟨ty,1,zs.map cI,g⟩ o j (λb hb=>.inl hb) (.inl rfl) (by simp [e,l]) h d (λc hc=>?_) (zs.map (Value.int .i64)) ?_ (λu hu=>?_) (zT zs)
 .obtain ⟨x,_,rfl⟩:=bB.1 hc;rw [d];rfl
 .rw [d];simpa [ES] using f
 .obtain ⟨x,_,rfl⟩:=bB.1 hu;rfl
theorem NK {f:FuncId}{i:Nat}{ty:TypeId}{xs zs:List Int}{Q:D->AHeap->Prop}(h:UH P f)(n:H.get i=some ⟨ty,1,xs.map cI,false⟩)(r:zs.length=xs.length)
  (t:∀ (w:World) (v:Value),ES w ty v xs->Calls P f #[v] w λe w'=>e=.returned (.tuple #[])/\w.grownBy w' v.ownBlock/\ES w' ty v zs)
  (x:Q (.tup []) (H.put i ⟨ty,1,zs.map cI,false⟩)):ACalls P f [.own i xs.length] H Q:=by
 refine ⟨h,λM0 σ w vals hR ha=>?_⟩
 obtain ⟨g,p⟩:=ha
 match vals,g with
 | [v],_ =>
  obtain ⟨o,q,rfl,b,k,l,c⟩:=PE hR n (p 0 v _ rfl rfl)
  refine (t w _ c).mono λe w' ⟨s,m,a⟩=>?_
  obtain ⟨A,z,y⟩:=LS hR false n q b k l r m a
  exact ⟨_,.tup [],_,_,s,A,.tup [] [] rfl (λj u d hu=>by simp at hu),z,y,x⟩
theorem K9 {f:FuncId}{b:Nat}{ty:TypeId}{xs zs:List Int}{m:Nat}{Q:D->AHeap->Prop}(A:UH P f)(X:H.get b=some ⟨ty,1,xs.map cI,false⟩)(hl:zs.length=xs.length)(hm:m<=xs.length)
  (T:∀ (w:World) (v:Value),ES w ty v xs->Calls P f #[v] w λe w'=>(∃ r,e=.returned r/\((v=.slice none 0 0/\r=v)\/∃ g n cap,v=.slice (some g) n cap/\r=.slice (some g) m cap))/\w.grownBy w' v.ownBlock/\ES w' ty v zs)
  (hQ:Q (.list ((zs.take m).map cI)) (H.put b ⟨ty,1,zs.map cI,true⟩)):ACalls P f [.own b xs.length] H Q:=by
 refine ⟨A,λM0 σ w vals hR ha=>?_⟩
 obtain ⟨y,hr⟩:=ha
 match vals,y with
 | [v],_ =>
  obtain ⟨o,I,rfl,q,E,F,d⟩:=PE hR X (hr 0 v _ rfl rfl)
  refine (T w _ d).mono λe w' ⟨⟨r,he,G⟩,O,a⟩=>?_
  obtain ⟨h1,h2,h3⟩:=LS hR true X I q E F hl O a
  refine ⟨r,.list ((zs.take m).map cI),_,_,he,h1,?_,h2,h3,hQ⟩
  rcases G with ⟨h,rfl⟩|⟨g,n,cap,h,rfl⟩
  .have hz:zs=[]:=by
    rcases d.2 with ⟨_,h0⟩|⟨B,C,V,s,_⟩
    .exact bP aD
    grind
   subst hz
   rw [h];simpa using RepV.listN
  .rcases a.2 with ⟨W,_⟩|⟨B,C,V,s,a3,Y,a1,S,a2,a0⟩
   .rw [h] at W;cases W
   .have p:=s
    rw [h] at p
    cases p
    have K:(zs.take m).length=m:=by simp;omega
    have R:=z6 (zs.take m)
    have k:=RepV.list (M:=dA M0 (H.put b ⟨ty,1,zs.map cI,true⟩) (λi=>if i=b then some o else σ i)) (σ:=λi=>if i=b then some o else σ i) (N:=(H.put b ⟨ty,1,zs.map cI,true⟩).al) (w:=w')
     ⟨B,0,none⟩ cap 1 ((zs.take m).map (Value.int .i64)) ((zs.take m).map cI) (by simp;omega) S (λc T=>(by obtain ⟨x,_,rfl⟩:=bB.1 T;rfl)) (by rw [R];simp)
     (λu hu=>(by obtain ⟨x,_,rfl⟩:=bB.1 hu;rfl))
     (λj u hu=>by
      refine ⟨?_,?_⟩
      .rintro (J|⟨i,k',Z,z,hf,t,U⟩)
       .exact (hR.lt b o B I (by simp [Ow.block,h,Value.ownBlock])).2 J
       .by_cases L:i=b
        .simp only [AHeap.put,L,if_true,bF] at z
         subst z;cases hf
        .simp only [L,if_false] at t
         exact L (hR.inj i b Z o B t I U (by simp [Ow.block,h,Value.ownBlock]))
      .have:=a.cells (g:=B) (by simp [h,Value.ownBlock]) j u (by
        rw [aN] at hu ⊢
        rw [b5] at hu
        split at hu
        .exact hu
        .simp at hu)
       exact this)
     (zT (zs.take m)).rep
    simp only [aV,K] at k
    exact k
end
end Go.Abs
end
section
namespace Go.Abs
section
variable {P:Program} {M0:Nat→Prop} {H:AHeap} {σ:Nat→Option Ow} {w:World}
structure Made (M:Nat->Prop) (w w':World) (v:Value) (b:Blk) (xs:List Value):Prop where
 row:w'.ownsRow w.heap.size b.ty b.sz v b.es.length xs
 one:∀ u∈xs,u.oneCell'=true
 rep:RepL M iN rJ w' xs b.es.flatten
 cl:D.clLL b.es=true
 sz:∀ c∈b.es,c.length=b.sz
theorem NO {f:FuncId}{args:List D}{ty:TypeId}{sz:Nat}{es:List (List D)}{Q:D->AHeap->Prop}(N:Own P f args ty sz es)(J:D.clL args=true)(q:Nat)(V:¬ H.al q)
  (Y:Q (.own q es.length) (H.push q ⟨ty,sz,es,false⟩)):ACalls P f args H Q:=by
 refine ⟨N.1,λM0 σ w vals hR ha=>(N.2 (dA M0 H σ) w vals (uH hR) (gU (λ_ h=>h) ha J)).mono λe w' ⟨v,M,X,k,L,t,y,F,A⟩=>?_⟩
 have m:w'.ownsRow 0 ty sz v es.length M:=⟨k.1,k.2.imp (λx=>x) λ⟨g,r,p,a,b,c⟩=>⟨g,r,p,a,dY _,c⟩⟩
 have K:∀ b,v.ownBlock=some b->w.heap.size<=b:=λb j=>by
  rcases k.2 with B|⟨g,r,p,L,h2,h3⟩
  .rw [B.1] at j;simp [Value.ownBlock] at j
  .rw [L] at j;simp only [Value.ownBlock,bF] at j;omega
 have Z:∀ C,¬ (dA M0 H σ C\/v.ownBlock=some C)->¬ dA M0 (H.push q ⟨ty,sz,es,false⟩) (λi=>if i=q then some ⟨es.length,v,sz,ty⟩ else σ i) C:=by
  intro C G h
  rcases h with h|⟨i,U,T,u,W,l,j⟩
  .exact G (.inl (.inl h))
  .by_cases n:i=q
   .simp only [n,if_true,bF] at l
    subst l
    exact G (.inr j)
   .simp only [n,if_false] at l
    simp only [AHeap.push,n,if_false] at u
    exact G (.inl (.inr ⟨i,U,T,u,W,l,j⟩))
 have z:D.clL es.flatten=true:=CM λd hd=>by
  obtain ⟨c,I,E⟩:=jC.1 hd
  exact jK (qE y c I) d E
 obtain ⟨S,R,O⟩:=Rel.pushG hR q V (w':=w') A.os A.tape A.output A.size A.block ⟨ty,sz,es,false⟩ ⟨es.length,v,sz,ty⟩
  K rfl rfl rfl F M m L (λhk=>gU Z t z)
 exact ⟨v,_,_,_,X,S,.own v _ _ (.inl rfl) (by rcases k.2 with ⟨B,_⟩|⟨g,r,p,B,_⟩<;>simp [B,Value.oneCell']) (λo ho=>by simp at ho;subst ho;exact .inr ⟨rfl,rfl⟩),R,O,Y⟩
theorem ACalls.bump {f:FuncId}{args:List D}{Q:D->AHeap->Prop}(k:Nat)(h:ACalls P f args ⟨H.next+k,H.al,H.get⟩ Q):ACalls P f args H Q :=
 ⟨h.1,λM0 σ w vals hR ha=>h.2 M0 σ w vals (hR.bump (m:=H.next+k) aD) ha⟩
theorem ACalls.frz {f:FuncId}{args:List D}{Q:D->AHeap->Prop}(h:ACalls P f (args.map (iM H)) (fJ (args.flatMap dV) H) Q):ACalls P f args H Q:=by
 refine ⟨h.1,λM0 σ w vals hR ha=>?_⟩
 obtain ⟨m,l,p,o⟩:=fX (args.flatMap dV) hR
 refine (h.2 M0 σ w vals m (BN hR ha _ λi h=>h)).mono λe w' ⟨v,d,n,σ',j,k,a,b,g,c⟩=>?_
 exact ⟨v,d,n,σ',j,k,a,b,l.trans g,c⟩
end
section
variable {P:Program} {md:Nat→Bool} {ops:Array Oper} {sp:List (Nat × Nat)} {n0 i:Nat} {rest:List Oper} {acc:List (Nat × List Nat)} {e:dJ} {dst:Option Tmp} {K:dJ→AHeap→Prop} {f:FuncId} {args args':List D} {H H':AHeap}
theorem Jz (b:args.map (iM H)=args')(a:fJ (args.flatMap dV) H=H')(h:fL P md ops rest e dst K f args' H'):fL P md ops rest e dst K f args H:=by grind [fL, ACalls.frz]
theorem Ed {ty:TypeId}{sz:Nat}{es:List (List D)}(q:Nat)(a:Own P f args ty sz es)(c:D.clL args=true)(b:De md dst=true)(g:q<n0)(d:¬ H.al q)(j:chk sp i [q] acc)
  (h:jZ P md ops sp n0 (i+1) rest ((i,[q]) :: acc) (oP e dst (.own q es.length)) (H.push q ⟨ty,sz,es,false⟩) K):p6 P md ops sp n0 i rest acc e dst K f args H:=by
 unfold p6
 exact Or.inr ⟨b,.own q es.length,[],[],[(q,⟨ty,sz,es,false⟩)],(λ_ h=>by cases h),λp a=>(by
   have:p=(q,⟨ty,sz,es,false⟩):=by simpa using a
   subst this;exact ⟨g,d⟩),
  λH' _ hn=>NO a c q (hn (q,⟨ty,sz,es,false⟩) bW).2 ⟨rfl,rfl⟩,j,h⟩
end
theorem Hh (i:Nat):AHeap.emp.al i↔False:=Iff.rfl
theorem pH (H:AHeap)(i j:Nat)(k:Blk):(H.push i k).al j↔j=i\/H.al j:=Iff.rfl
theorem sX (H:AHeap)(i j:Nat)(k:Blk):(H.put i k).al j↔H.al j:=Iff.rfl
theorem JF (n:Nat)(al:Nat->Prop)(g:Nat->Option Blk)(j:Nat):(AHeap.mk n al g).al j↔al j:=Iff.rfl
end Go.Abs
end
section
namespace Go.Abs
def YR (id:Nat):D->D
 | .own 0 n=>.own id n
 | d=>d
section
variable {P:Program} {M0:Nat→Prop} {H:AHeap} {σ:Nat→Option Ow} {w:World}
theorem Tu (id n:Nat):YR id (.own 0 n)=.own id n:=rfl
theorem QV (k:Blk):(AHeap.emp.push 0 k).get 0=some k:=rfl
theorem UI {f:FuncId}{args:List D}{k S:Blk}{r:D}{q:Nat}{Q:D->AHeap->Prop}
  (h:ACalls P f args (AHeap.emp.push 0 k) λd H'=>qP H' d=r/\r.cl=true/\0∉C9 d/\H'.get 0=some S)
  (L:∀ d∈args,d.cl=true\/d=.own 0 k.es.length) (hk:k.fz=false) (b4:S.fz=false) (b8:D.clLL k.es=true) (b6:∀ d∈S.es.flatten,d.flat=true) (hg:H.get q=some k) (hQ:Q r (H.put q S)) :
  ACalls P f (args.map (YR q)) H Q:=by
 refine ⟨h.1,λM0 σ w vals hR ha=>?_⟩
 obtain ⟨o,T,l⟩:=hR.lies q k hg
 obtain ⟨xs,a1,a9,a2⟩:=l.row
 obtain ⟨σ0,Y⟩:∃ s:Nat->Option Ow,s=λi=>if i=0 then some o else none:=⟨_,rfl⟩
 obtain ⟨M1,y⟩:∃ m:Nat->Prop,m=λb=>dA M0 H σ b/\o.block≠some b:=⟨_,rfl⟩
 have s0:σ0 0=some o:=by rw [Y];rfl
 have R:∀ i B,σ0 i=some B->i=0/\B=o:=λi B a=>by
  grind
 have g0:∀ i C,(AHeap.emp.push 0 k).get i=some C->i=0/\C=k:=λi C a=>by
  by_cases z:i=0
  .subst z;rw [QV] at a;exact ⟨rfl,(Option.some.inj a).symm⟩
  .simp [AHeap.push,AHeap.emp,z] at a
 have c2:∀ b,o.block=some b->dA M0 H σ b:=λb hb=>.inr ⟨q,k,o,hg,hk,T,hb⟩
 have E:∀ b,dA M1 (AHeap.emp.push 0 k) σ0 b->dA M0 H σ b:=by
  rintro b (hb|⟨i,C,o1,x,hf,n,hb⟩)
  .rw [y] at hb;exact hb.1
  grind
 have b9:∀ {es:List (List D)},D.clLL es=true->D.clL es.flatten=true:=λ {es} hc=>CM λd K=>by
  obtain ⟨c,b7,a8⟩:=jC.1 K
  exact jK (qE hc c b7) d a8
 have c1:Rel M1 (AHeap.emp.push 0 k) σ0 w:=by
  refine ⟨λi a=>?_,λi a=>?_,λi C x=>?_,λi j oi oj b a U hbi hbj=>?_,λi oi b a hbi=>?_,λb hb=>?_⟩
  .have z:i≠0:=λe=>a (.inl e)
   exact ⟨by rw [Y];simp [z],by simp [AHeap.push,AHeap.emp,z]⟩
  .rcases a with a|a
   .subst a;simp [AHeap.push,AHeap.emp]
   .exact a.elim
  .obtain ⟨z,N⟩:=g0 i C x
   subst z;subst N
   exact ⟨o,s0,l.ver,l.ty,l.sz,l.esz,xs,a1,a9,gU (λb hb hb'=>hb (E b hb')) a2 (b9 b8)⟩
  .rw [(R i oi a).1,(R j oj U).1]
  .obtain ⟨_,rfl⟩:=R i oi a
   exact ⟨(hR.lt q oi b T hbi).1,λhb=>by rw [y] at hb;exact hb.2 hbi⟩
  .rw [y] at hb;exact uH hR b hb.1
 have c0:RepL (dA M1 (AHeap.emp.push 0 k) σ0) σ0 (AHeap.emp.push 0 k).al w vals args:=by
  refine ⟨by simpa using ha.len,λj u d F K=>?_⟩
  have U:=ha.rep j u (YR q d) F (by rw [aN,K];rfl)
  rcases L d (aK K) with hc|rfl
  .have a3:YR q d=d:=by cases d<;>first|rfl|(simp [D.cl] at hc)
   rw [a3] at U
   exact U.closed (λad u hm F=>⟨λhm'=>hm (E _ hm'),F⟩) hc
  .rw [Tu] at U
   cases U
   rename_i N hN hv
   exact .own u _ _ (.inl rfl) (by first|exact N|exact hN) λo1 n=>by
    obtain ⟨_,rfl⟩:=R 0 o1 n
    exact hv o1 T
 refine (h.2 M1 σ0 w vals c1 c0).mono λe w' ⟨v,d,H',σ',he,M,hv,p,b3,hr,a4,b0,J⟩=>?_
 obtain ⟨B,I,W⟩:=M.lies 0 S J
 obtain ⟨a7,G,Z,t⟩:=W.row
 obtain ⟨o2,a5,b2⟩:=b3.own 0 B (.inl rfl) I
 rw [s0] at a5
 cases a5
 have b5:w.grownBy w' o.block:=⟨p.os,p.tape,p.output,p.size,λb hb hne=>p.old b hb λi o1 a=>by
  obtain ⟨_,rfl⟩:=R i o1 a
  exact λhb'=>hne (by first|simpa using hb'|exact hb'.symm|exact hb')⟩
 have a6:∀ b,B.block=some b->o.block=some b\/w.heap.size<=b:=λb hb=>by
  rcases p.new 0 B b I hb with N|⟨j1,o1,N,h2⟩
  .exact .inr N
  .obtain ⟨_,rfl⟩:=R j1 o1 N;exact .inl h2
 obtain ⟨p1,p2,p3⟩:=Rel.put hR hg hk T S B b5 a6 b2 W.ver W.ty W.sz W.esz a7 G Z
  ⟨t.len,λj u d F K=>zD (t.rep j u d F K) (b6 d (aK K))⟩
 have a0:=tG M hv (C9 d) λi a=>a
 rw [hr] at a0
 obtain ⟨_,_,_,f4⟩:=fX (C9 d) M
 refine ⟨v,r,_,_,he,p1,a0.closed (λad u hm F=>⟨λhm'=>hm ?_,F⟩) a4,p2,p3,hQ⟩
 rcases hm' with z|⟨i,C,o1,x,hf,n,hb⟩
 .left
  rw [y]
  exact ⟨.inl z,λhb=>(hR.lt q o _ T hb).2 z⟩
 .by_cases a:i=q
  .simp only [a,if_true,bF] at n
   subst n
   right
   obtain ⟨O,c3⟩:=f4 0
   rw [J] at O
   cases hq:(fJ (C9 d) H').get 0 with
   | none=>rw [hq] at O;cases O
   | some kq =>
    refine ⟨0,kq,B,hq,?_,I,hb⟩
    rw [Ba _ _ 0 b0,J] at hq
    cases hq
    exact b4
  .simp only [a,if_false] at n
   simp only [AHeap.put,a,if_false] at x
   left
   rw [y]
   exact ⟨.inr ⟨i,C,o1,x,hf,n,hb⟩,λhb'=>a (hR.inj i q o1 o _ n T hb hb')⟩
end
section
variable {P:Program} {M0:Nat→Prop} {H:AHeap} {σ:Nat→Option Ow} {w:World}
end
section
variable {P:Program} {md:Nat→Bool} {ops:Array Oper} {sp:List (Nat × Nat)} {n0 i:Nat} {rest:List Oper} {acc:List (Nat × List Nat)} {e:dJ} {dst:Option Tmp} {K:dJ→AHeap→Prop} {f:FuncId} {args args':List D} {H:AHeap}
end
theorem Ip {P:Program}{f:FuncId}{args:List D}{H H':AHeap}{Q:D->AHeap->Prop}(hg:Ghosts H H')(h:ACalls P f args H' Q):ACalls P f args H Q :=
 ⟨h.1,λM0 σ w vals hR ha=>by
  obtain ⟨σ1,g1,g2,g3⟩:=wO hg hR
  exact (h.2 M0 σ1 w vals g1 (ha.keep g3)).mono λe w' ⟨v,d,H1,σ2,he,h1,hv,hs,hk,hq⟩=>⟨v,d,H1,σ2,he,h1,hv,g2.trans hs,g3.trans hk,hq⟩⟩
theorem wS {P:Program}{md:Nat->Bool}{ops:Array Oper}{a:List Oper}{e:dJ}{b:Option Tmp}{K:dJ->AHeap->Prop}{f:FuncId}{args:List D}{H H':AHeap}(c:Ghosts H H')(h:fL P md ops a e b K f args H'):fL P md ops a e b K f args H:=by grind [fL, Ip]
end Go.Abs
end
section
namespace Go.Abs
mutual
def l8:D->D
 | .nil=>.list []
 | .agg cs=>.agg (i6 cs)
 | .tup cs=>.tup (i6 cs)
 | .list es=>.list (eQ es)
 | d=>d
def i6:List D->List D
 | []=>[]
 | d :: l=>l8 d :: i6 l
def eQ:List (List D)->List (List D)
 | []=>[]
 | c :: l=>i6 c :: eQ l
end
theorem B7 (l:List D):i6 l=l.map l8:=by
 induction l with
 | nil=>rfl
 | cons a l ih=>simp [i6,ih]
theorem Db (l:List (List D)):eQ l=l.map i6:=by
 induction l with
 | nil=>rfl
 | cons a l ih=>simp [eQ,ih]
theorem Gj (l:List (List D)):(eQ l).flatten=l.flatten.map l8:=by
 induction l with
 | nil=>rfl
 | cons a l b=>simp only [eQ,eU,b,List.map_append,B7]
theorem PQ {M:Nat->Prop}{σ:Nat->Option Ow}{N:Nat->Prop}{w:World}{v:Value}{d:D}(h:RepV M σ N w v d):RepV M σ N w v (l8 d):=by
 have b:∀ {vs:List Value} {ds:List D},(∀ (j:Nat) (u:Value) (d:D),vs[j]?=some u->ds[j]?=some d->RepV M σ N w u (l8 d)) ->
   ∀ (j:Nat) (u:Value) (d:D),vs[j]?=some u->(ds.map l8)[j]?=some d->RepV M σ N w u d:=by
  grind
 induction h with
 | int=>simp only [l8];exact .int _ _
 | bool=>simp only [l8];exact .bool _
 | str=>simp only [l8];exact .str _
 | agg vs ds hl h1 _ ih =>
  simp only [l8,B7]
  exact .agg vs _ (by simp [hl]) h1 (b ih)
 | tup vs ds hl _ ih =>
  simp only [l8,B7]
  exact .tup vs _ (by simp [hl]) (b ih)
 | nil=>simp only [l8];exact .listN
 | listN=>simp only [l8,eQ];exact .listN
 | list ad cap sz xs es hc hm' hsz hl h1 hcell _ ih =>
  have a:(eQ es).length=es.length:=by rw [Db,aV]
  have:=RepV.list (M:=M) (σ:=σ) (N:=N) (w:=w) ad cap sz xs (eQ es) (by rw [a];exact hc) hm' (λc hc'=>by
   rw [Db,bB] at hc'
   obtain ⟨y,e,rfl⟩:=hc'
   rw [B7,aV];exact hsz y e) (by rw [Gj,aV];exact hl) h1 hcell (by rw [Gj];exact b ih)
  rwa [a] at this
 | adr ad xs ds hl h1 hcell hr ih=>simp only [l8];exact .adr ad xs ds hl h1 hcell hr
 | ne ad cap b=>simp only [l8];exact .ne ad cap b
 | nilp=>simp only [l8];exact .nilp
 | ptr v id ver i off hN h1 h=>simp only [l8];exact .ptr v id ver i off hN h1 h
 | own v id n hN h1 h=>simp only [l8];exact .own v id n hN h1 h
 | win v id ver lo hi hN h1 hlh h=>simp only [l8];exact .win v id ver lo hi hN h1 hlh h
 | fn f vs ds hl hr ih=>simp only [l8];exact .fn f vs ds hl hr
 | nilf=>simp only [l8];exact .nilf
 | opt v g d hf h ih=>simp only [l8];exact .opt v g d hf h
 | cst v=>simp only [l8];exact .cst v
 | junk v=>simp only [l8];exact .junk v
theorem uF {P:Program}{f:FuncId}{args:List D}{r:D}(b:r.cl=true)(h:∀ Q:D->AHeap->Prop,(∀ d H',l8 (qP H' d)=r->Q d H')->ACalls P f args .emp Q):Pure P f args r:=by
 have h:=h (λd H'=>l8 (qP H' d)=r) λ_ _ h=>h
 refine ⟨h.1,λM w vals hM ha=>(h.2 M iN w vals (EW M w hM) (by rw [EZ];exact ha)).mono λe w' ⟨v,d,H',σ',g,k,c,a,n,m⟩=>⟨v,g,?_,zR a⟩⟩
 have l:RepV (dA M (fJ (C9 d) H') σ') σ' (fJ (C9 d) H').al w' v r:=by
  have o:=PQ (tG k c (C9 d) λi hi=>hi)
  grind
 exact l.closed (λad u hm j=>⟨λh=>hm (.inl h),j⟩) b
attribute [go_sem] l8 i6 eQ
end Go.Abs
end
section
namespace Go.Abs
def BJ (H:AHeap)(d:D):D :=
 match d with
 | .ptr id ver i off=>match fK H (.ptr id ver i off) with
  | some (c :: cs)=>.adr ((c :: cs).map (fG H))
  | _=>.ptr id ver i off
 | d=>iM H d
def Cj (H:AHeap)(d:D):List Nat :=
 match d with
 | .ptr id ver i off=>id :: (match fK H (.ptr id ver i off) with|some cs=>cs.flatMap lC|none=>[])
 | d=>dV d
section
variable {P:Program} {M0:Nat→Prop} {H:AHeap} {σ:Nat→Option Ow} {w:World}
theorem LL {v:Value}{d:D}(G:Rel M0 H σ w)(g:RepV (dA M0 H σ) σ H.al w v d)(a:List Nat)(m:∀ i∈Cj H d,i∈a) :
  RepV (dA M0 (fJ a H) σ) σ (fJ a H).al w v (BJ H d):=by
 obtain ⟨A,J,N,z⟩:=fX a G
 have b:=g.keep J
 have h:∀ i∈a,∀ k,(fJ a H).get i=some k->k.fz=true:=λi m k hk=>by
  have s:=(z i).1
  rw [hk] at s
  cases o:H.get i with
  | none=>rw [o] at s;cases s
  | some k0 =>
   grind
 cases d with
 | ptr id ver i off =>
  have n:=CB (λi=>(z i).1) (.ptr id ver i off)
  simp only [BJ]
  cases F:fK H (.ptr id ver i off) with
  | none=>exact b
  | some B =>
   cases B with
   | nil=>exact b
   | cons c B =>
    rw [F] at n
    have p:∀ y∈c :: B,∀ q∈lC y,q∈a:=λy l q e=>m q (by simp only [Cj,F,aU,bT];exact .inr ⟨y,aU.1 l,e⟩)
    have r:id∈a:=m id (by simp only [Cj];exact fN ..)
    obtain ⟨O,L,M,C,E,t⟩:=qL A b n bW
    have I:=yF A b λq e k hk=>h q (by simp only [TS,bL] at e;subst e;exact r) k hk
    simp only [C2,n] at I
    cases I with
    | adr ad' xs' ds hl' hone' hcell' hrep' =>
     refine .adr ad' xs' _ (bX hl') hone' hcell' λj u x hu g=>?_
     rw [aN,bR] at g
     obtain ⟨y,l,rfl⟩:=g
     rw [<- pS (λi=>(z i).1) y]
     exact mL A (hrep' j u y hu l) λq e k hk=>h q (p y (aK l) q e) k hk
 | _=>exact mK G g a m
theorem QF {vals:List Value}{args:List D}(hR:Rel M0 H σ w)(ha:RepL (dA M0 H σ) σ H.al w vals args)(ids:List Nat)(hi:∀ i∈args.flatMap (Cj H),i∈ids) :
  RepL (dA M0 (fJ ids H) σ) σ (fJ ids H).al w vals (args.map (BJ H)) :=
 ⟨by simpa using ha.len,λj u d hu hd=>by
  rw [aN,bR] at hd
  obtain ⟨y,hy,rfl⟩:=hd
  exact LL hR (ha.rep j u y hu hy) ids λi hii=>hi i (bT.2 ⟨y,aK hy,hii⟩)⟩
theorem CO {f:FuncId}{args:List D}{r:D}{Q:D->AHeap->Prop}(c:Pure P f (args.map (BJ H)) r)(b:D.clL (args.map (BJ H))=true)(g:r.flat=true)(k:Q r H):ACalls P f args H Q:=by
 refine ⟨c.1,λM0 σ w vals hR ha=>?_⟩
 obtain ⟨o,s,q,p⟩:=fX (args.flatMap (Cj H)) hR
 refine (c.2 (dA M0 (fJ (args.flatMap (Cj H)) H) σ) w vals (uH o) (gU (λ_ h=>h) (QF hR ha _ λi h=>h) b)).mono λe w' ⟨v,j,d,a⟩=>?_
 obtain ⟨n,m,l⟩:=hR.grow a.os a.tape a.output a.size a.block
 exact ⟨v,r,H,σ,j,n,zD d g,m,l,k⟩
theorem Ef {md:Nat->Bool}{ops:Array Oper}{a:List Oper}{e:dJ}{b:Option Tmp}{K:dJ->AHeap->Prop}{f:FuncId}{args args':List D}{r:D}(d:Pure P f args' r)(i:args.map (BJ H)=args')(c:D.clL args'=true)(g:r.flat=true)
 (h:nC P md ops a (oP e b r) H K):fL P md ops a e b K f args H:=by grind [fL, CO]
theorem PB {H:AHeap}{d:D}(h:∀ a b c e,d≠.ptr a b c e):BJ H d=iM H d:=by cases d<;>first|rfl|exact absurd rfl (h _ _ _ _)
theorem TR {H:AHeap}{d:D}(h:∀ a b c e,d≠.ptr a b c e):Cj H d=dV d:=by cases d<;>first|rfl|exact absurd rfl (h _ _ _ _)
theorem Oh {S:List Nat}{H H':AHeap}{d:D}(l:f6 S H' H)(j:∀ x∈Cj H d,x∈S):BJ H' d=BJ H d:=by
 by_cases k:∀ a b c e,d≠.ptr a b c e
 .rw [PB k,PB k]
  rw [TR k] at j
  exact FH l j
 .obtain ⟨h,f,i,g,rfl⟩:∃ a b c e,d=.ptr a b c e:=by
   grind
  have r:=l h (j h (by simp only [Cj];exact fN ..))
  have p:fK H' (.ptr h f i g)=fK H (.ptr h f i g):=by simp only [fK,r]
  simp only [BJ,p]
  cases q:fK H (.ptr h f i g) with
  | none=>rfl
  | some n =>
   cases n with
   | nil=>rfl
   | cons c n =>
    simp only
    congr 1
    exact bU λy hy=>wE l λx o=>j x (by simp only [Cj,q,aU,bT];exact .inr ⟨y,aU.1 hy,o⟩)
theorem uM {md:Nat->Bool}{ops:Array Oper}{g:List (Nat × Nat)}{k i:Nat}{a:List Oper}{b:List (Nat × List Nat)}{e:dJ}{c:Option Tmp}{K:dJ->AHeap->Prop}{f:FuncId}{args args':List D}{H:AHeap}{r:D}{t:Bool}
  (n:t=true->Pure P f args' r) (s:args.map (BJ H)=args') (j:t=true->D.clL args'=true) (p:t=true->r.flat=true) {S:List Nat} (u:args.flatMap (Cj H)=S) (q:chk g i S b)
  (h:jZ P md ops g k (i+1) a ((i,S) :: b) (oP e c (.opt t r)) H K):tY P md ops g k i a b e c K t f args H:=by
 subst s u
 unfold tY
 refine ⟨r,_,λht H' hag=>?_,q,h⟩
 have l:args.map (BJ H')=args.map (BJ H):=bU λd o=>Oh hag λx m=>bT.2 ⟨d,o,m⟩
 exact CO (by rw [l];exact n ht) (by rw [l];exact j ht) (p ht) ⟨rfl,rfl⟩
end
attribute [go_sem] Cj
end Go.Abs
end
section
namespace Go.Abs
def pN (H:AHeap)(d:D):D :=
 match d with
 | .own id n=>match H.get id with
  | some k=>if k.es.length=n then .list (k.es.map (·.map (fG H))) else .own id n
  | none=>.own id n
 | d=>fG H d
def KJ (H:AHeap)(d:D):List Nat :=
 match d with
 | .own id n=>id :: (match H.get id with|some k=>k.es.flatten.flatMap lC|none=>[])
 | d=>lC d
def jW (H:AHeap):D->D
 | .agg cs=>.agg (cs.map (pN H))
 | d=>pN H d
def GE (H:AHeap):D->List Nat
 | .agg cs=>cs.flatMap (KJ H)
 | d=>KJ H d
def iS (H:AHeap):D->D
 | .tup vs=>.tup (vs.map (jW H))
 | d=>jW H d
def AK (H:AHeap):D->List Nat
 | .tup vs=>vs.flatMap (GE H)
 | d=>GE H d
section
variable {P:Program} {M0:Nat→Prop} {H:AHeap} {σ:Nat→Option Ow} {w:World}
theorem RepV.list_map {M:Nat->Prop}{N:Nat->Prop}{v:Value}{es:List (List D)}{f:D->D}(h:RepV M σ N w v (.list es))(e:∀ y∈es.flatten,∀ u,RepV M σ N w u y->RepV M σ N w u (f y)) :
  RepV M σ N w v (.list (es.map (·.map f))):=by
 have a:(es.map (·.map f)).flatten=es.flatten.map f:=List.map_flatten.symm
 cases h with
 | listN=>exact .listN
 | list ad cap sz xs es hc hm hsz hl h1 hcell hr =>
  have:=RepV.list (M:=M) (σ:=σ) (N:=N) (w:=w) ad cap sz xs (es.map (·.map f)) (bX hc) hm (λc hc'=>by
   rw [bB] at hc';obtain ⟨y,b,rfl⟩:=hc';rw [aV];exact hsz y b) (by rw [a,aV];exact hl) h1 hcell (λj u d hu hd=>by
   rw [a,aN,bR] at hd
   obtain ⟨y,b,rfl⟩:=hd
   exact e y (aK b) u (hr j u y hu b))
  grind
theorem Ts {d:D}(h:∀ a b,d≠.own a b):pN H d=fG H d:=by cases d<;>first|rfl|exact absurd rfl (h _ _)
theorem TQ {d:D}(h:∀ a b,d≠.own a b):KJ H d=lC d:=by cases d<;>first|rfl|exact absurd rfl (h _ _)
theorem DN {v:Value}{d:D}(B:Rel M0 H σ w)(z:RepV (dA M0 H σ) σ H.al w v d)(c:List Nat)(m:∀ i∈KJ H d,i∈c) :
  RepV (dA M0 (fJ c H) σ) σ (fJ c H).al w v (pN H d):=by
 obtain ⟨r,C,E,o⟩:=fX c B
 have l:=z.keep C
 have h:∀ i∈c,∀ k,(fJ c H).get i=some k->k.fz=true:=λi m k f=>by
  have q:=(o i).1
  rw [f] at q
  cases p:H.get i with
  | none=>rw [p] at q;cases q
  | some k0 =>
   grind
 by_cases s:∀ a b,d≠.own a b
 .rw [Ts s,<- pS (λi=>(o i).1) d]
  rw [TQ s] at m
  exact mL r l λi e k f=>h i (m i e) k f
 .obtain ⟨t,n,rfl⟩:∃ a b,d=.own a b:=by
   grind
  have g:=mL r l λi e k f=>h i (m i (by
   simp only [lC,bL] at e;subst e;simp only [KJ];exact fN ..)) k f
  rw [pS (λi=>(o i).1)] at g
  simp only [pN,fG] at g ⊢
  cases f:H.get t with
  | none=>rw [f] at g;exact g
  | some k =>
   rw [f] at g
   simp only at g ⊢
   split
   .rename_i A
    rw [if_pos A] at g
    refine g.list_map λy x u hu=>?_
    rw [<- pS (λi=>(o i).1) y]
    exact mL r hu λi e k' hk'=>h i (m i (by
     simp only [KJ,f,aU,bT];exact .inr ⟨y,x,e⟩)) k' hk'
   grind
theorem BI {v:Value}{d:D}(c:Rel M0 H σ w)(f:RepV (dA M0 H σ) σ H.al w v d)(a:List Nat)(g:∀ i∈GE H d,i∈a) :
  RepV (dA M0 (fJ a H) σ) σ (fJ a H).al w v (jW H d):=by
 cases d with
 | agg cs =>
  obtain ⟨h,m,l,k⟩:=fX a c
  cases f with
  | agg vs ds hl h hr =>
   refine .agg vs _ (bX hl) h λj u x hu hd=>?_
   rw [aN,bR] at hd
   obtain ⟨y,e,rfl⟩:=hd
   exact DN c (hr j u y hu e) a λi b=>g i (by simp only [GE,bT];exact ⟨y,aK e,b⟩)
 | _=>exact DN c f a g
theorem J8 {v:Value}{d:D}(g:Rel M0 H σ w)(e:RepV (dA M0 H σ) σ H.al w v d)(a:List Nat)(f:∀ i∈AK H d,i∈a) :
  RepV (dA M0 (fJ a H) σ) σ (fJ a H).al w v (iS H d):=by
 cases d with
 | tup cs =>
  cases e with
  | tup vs ds hl hr =>
   refine .tup vs _ (bX hl) λj u x hu hd=>?_
   rw [aN,bR] at hd
   obtain ⟨y,c,rfl⟩:=hd
   exact BI g (hr j u y hu c) a λi b=>f i (by simp only [AK,bT];exact ⟨y,aK c,b⟩)
 | _=>exact BI g e a f
theorem ACalls.deep {f:FuncId}{args:List D}{Q:D->AHeap->Prop}(h:ACalls P f args H λd H'=>Q (iS H' d) (fJ (AK H' d) H')):ACalls P f args H Q :=
 ⟨h.1,λM0 σ w vals hR ha=>(h.2 M0 σ w vals hR ha).mono λe w' ⟨v,d,H',σ',he,hR',hv,hst,hk,hq⟩=>by
  obtain ⟨f1,f2,_,_⟩:=fX (AK H' d) hR'
  exact ⟨v,_,_,σ',he,f1,J8 hR' hv _ λ_ h=>h,hst,hk.trans f2,hq⟩⟩
end
end Go.Abs
end
section
namespace Go.Abs
theorem wa {a b:Prop}(x:a)(y:b):a/\b:=⟨x,y⟩
section
variable {P:Program} {c:Cfg} {a b:Code} {Q:Exit→dJ→AHeap→Prop} {e:dJ} {H:AHeap}
theorem wq {t:Bool}{A B:Prop}(h1:A->oN P c a Q e H)(h2:B->oN P c b Q e H)
 (k1:t=true->A:=by (intro h;first|(simp [go_sem] at h;exact h)|exact h)) (k2:t=false->B:=by (intro h;first|(simp [go_sem] at h;exact h)|exact h)) :
 xA P c a b Q e H (.bool t):=aP (λh=>h1 (k1 h)) (λh=>h2 (k2 h))
theorem bD (I:Nat->dJ->AHeap->Prop)(μ:Nat->Nat)(x0:Nat)(h0:I x0 e H)
  (hs:∀ J:Nat->dJ->AHeap->Prop,(∀ x e H,J x e H↔I x e H)->∀ x e H,I x e H->oN P c b (tC (D2 J μ x) Q) e H):AJ P c b Q e H :=
 oD I μ x0 h0 (hs I λ_ _ _=>Iff.rfl)
theorem uI {H':AHeap}(hg:Ghosts H H')(I:Nat->dJ->AHeap->Prop)(μ:Nat->Nat)(x0:Nat)(h0:I x0 e H')
  (hs:∀ J:Nat->dJ->AHeap->Prop,(∀ x e H,J x e H↔I x e H)->∀ x e H,I x e H->oN P c b (tC (D2 J μ x) Q) e H):AJ P c b Q e H :=
 Ky hg I μ x0 h0 (hs I λ_ _ _=>Iff.rfl)
end
section
variable {p q:Prop}
structure Wh (q:Prop):Prop where
 h:q
theorem wv (k:q->p:=by (intro h;first|(simp [go_sem,seval,Y];exact h)|exact h))(h:q):p:=k h
theorem pM (k:q->p:=by (intro h;first|(simp -implicitDefEqProofs [go_sem,seval,Y];exact h)|exact h))(h:q):p:=k h
theorem wo (k:Wh q->p:=by (intro h;(try simp [go_sem,seval,Y]);(repeat first|intro _|refine ⟨eO,?_⟩);exact h.1))(h:q):p:=k ⟨h⟩
theorem wp (k:Wh q->p:=by (intro h;(try simp [go_sem,seval,Y]);(repeat first|intro _|refine ⟨eL,?_⟩);exact h.1))(h:q):p:=k ⟨h⟩
theorem Iq (k:Wh q->p:=by (intro h;(try simp -implicitDefEqProofs [go_sem,seval,Y]);(repeat first|intro _|refine ⟨eO,?_⟩);exact h.1))(h:q):p:=k ⟨h⟩
theorem jM (k:Wh q->p:=by (intro h;(try simp -implicitDefEqProofs [go_sem,seval,Y]);(repeat first|intro _|refine ⟨eL,?_⟩);exact h.1))(h:q):p:=k ⟨h⟩
theorem wl (h:p:=by first|rfl|(simp [go_sem,<- List.map_take,<- List.map_drop,Y];done)):p:=h
theorem wr (h:p:=by simp [FI,C2,fK,go_sem,<- List.map_take,<- List.map_drop,Y]):p:=h
theorem WJ (h:p:=by simp [FI,C2,BJ,Cj,fK,go_sem,<- List.map_take,<- List.map_drop,Y]):p:=h
theorem wrd (h:p:=by simp [go_sem,Y]):p:=h
theorem Zz (h:p:=by simp [go_sem,Cj,fK,Y]):p:=h
theorem wn (h:p:=by first|omega|(simp [go_sem,seval,Y]<;>omega)):p:=h
theorem wg (h:p:=by and_intros<;>first|omega|(simp [go_sem,seval,Y]<;>omega)):p:=h
theorem wi (h:p:=by first|assumption|omega|(simp [go_sem,Y];done)|(simp_all;done)):p:=h
theorem wj (h:p:=by first|assumption|omega|(simp [go_sem,Y];done)|(simp_all<;>omega)):p:=h
theorem wy (h:p:=by simp [go_sem,Y]<;>first|omega|(rw [aR];simp<;>omega)|(simp_all<;>omega)):p:=h
end
section
variable {P:Program} {c:Cfg} {a b:Code} {Q:Exit→dJ→AHeap→Prop} {e:dJ} {H:AHeap} {p:Prop}
theorem dP {t:Bool}{A B:Prop}(h1:A->oN P c a Q e H)(h2:B->oN P c b Q e H)(k:xA P c a b Q e H (.bool t)->p:=by (intro h;first|(simp [go_sem,seval,Y];exact h)|exact h))
 (k1:t=true->A:=by (intro h;first|(simp [go_sem] at h;exact h)|exact h)) (k2:t=false->B:=by (intro h;first|(simp [go_sem] at h;exact h)|exact h)):p:=k (aP (λh=>h1 (k1 h)) (λh=>h2 (k2 h)))
theorem fA {t:Bool}{A B:Prop}(h1:A->oN P c a Q e H)(h2:B->oN P c b Q e H)(k:Wh (xA P c a b Q e H (.bool t))->p:=by (intro h;(try simp [go_sem,seval,Y]);(repeat first|intro _|refine ⟨eO,?_⟩);exact h.1))
 (k1:t=true->A:=by (intro h;first|(simp [go_sem] at h;exact h)|exact h)) (k2:t=false->B:=by (intro h;first|(simp [go_sem] at h;exact h)|exact h)):p:=k ⟨aP (λh=>h1 (k1 h)) (λh=>h2 (k2 h))⟩
theorem rT {t:Bool}{A B:Prop}(h1:A->oN P c a Q e H)(h2:B->oN P c b Q e H)(k:Wh (xA P c a b Q e H (.bool t))->p:=by (intro h;(try simp [go_sem,seval,Y]);(repeat first|intro _|refine ⟨eL,?_⟩);exact h.1))
 (k1:t=true->A:=by (intro h;first|(simp [go_sem] at h;exact h)|exact h)) (k2:t=false->B:=by (intro h;first|(simp [go_sem] at h;exact h)|exact h)):p:=k ⟨aP (λh=>h1 (k1 h)) (λh=>h2 (k2 h))⟩
theorem wx {I J:Nat->dJ->AHeap->Prop}{m:Nat->Nat}{x:Nat}(hJ:∀ x e H,J x e H↔I x e H)(x':Nat)(hI:I x' e H)(hm:m x'<m x:=by omega):D2 J m x e H:=d7 x' hm ((hJ _ _ _).2 hI)
end
end Go.Abs
end
