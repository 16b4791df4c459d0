/- The abstraction layer, part W: the rows that walk a region w -/
import Derived.Test.YthalajhajpjjeaaGreatZhE
import Derived.Test.YthalajhajpjjeaaGreatZhA
import Derived.Sort.OwnSortedInts
set_option linter.unusedVariables false
set_option linter.unusedSimpArgs false
section
namespace Go.Abs
def wH (P:Program)(md:Nat->Bool)(ops:Array Oper)(sp:List (Nat × Nat))(n0 i:Nat)(rest:List Oper)(acc:List (Nat × List Nat))(e:dA)(dst:Option Tmp)(K:dA->AHeap->Prop)(f:FuncId)(args:List D)(H:AHeap):Prop :=
 (∃ r S,(∀ H',fN S H' H->ACalls P f args H' λv H1=>v=r/\H1=H')/\KM sp i S acc/\kL P md ops sp n0 (i+1) rest ((i,S) :: acc) (nZ e dst r) H K) \/
 (EH md dst=true/\∃ r S u q,(∀ p∈u,p.1∈S)/\(∀ p∈q,p.1<n0/\¬ H.al p.1)/\(∀ H',fN S H' H->(∀ p∈q,p.1<H'.next/\¬ H'.al p.1)->ACalls P f args H' λv H1=>v=r/\H1=(H'.puts u).pushs q) /\
  KM sp i (S++q.map (·.1)) acc/\kL P md ops sp n0 (i+1) rest ((i,S++q.map (·.1)) :: acc) (nZ e dst r) ((H.puts u).pushs q) K)
def Aa (P:Program)(md:Nat->Bool)(ops:Array Oper)(sp:List (Nat × Nat))(n0 i:Nat)(rest:List Oper)(acc:List (Nat × List Nat))(e:dA)(dst:Option Tmp)(K:dA->AHeap->Prop)(t:Bool)(f:FuncId)(args:List D)(H:AHeap):Prop :=
 ∃ r S,(t=true->∀ H',fN S H' H->ACalls P f args H' λv H1=>v=r/\H1=H')/\KM sp i S acc/\kL P md ops sp n0 (i+1) rest ((i,S) :: acc) (nZ e dst (.opt t r)) H K
def Jj (nid:Nat)(e:dA)(o:Oper):List Nat:=foot nid (match o.guard with|none=>e|some _=>gE e o.op) o.op
def r6 (P:Program)(md:Nat->Bool)(ops:Array Oper)(sp:List (Nat × Nat))(n0 i:Nat)(rest:List Oper)(acc:List (Nat × List Nat))(e:dA)(dst:Option Tmp)(H:AHeap)(K:dA->AHeap->Prop)(F:List Nat):SOut->Prop
 | .op o=>o.cond/\KM sp i F acc/\kL P md ops sp n0 (i+1) rest ((i,F) :: acc) (nZ e dst o.val) o.heap K
 | .call f args=>wH P md ops sp n0 i rest acc e dst K f args H
 | .gop t g o=>(t=true->g=true)/\(t=true->o.cond/\o.heap=H)/\KM sp i F acc/\kL P md ops sp n0 (i+1) rest ((i,F) :: acc) (nZ e dst (.opt t o.val)) H K
 | .gcall t g f args=>(t=true->g=true)/\Aa P md ops sp n0 i rest acc e dst K t f args H
 | .bad=>False
theorem PS (P:Program)(md:Nat->Bool)(ops:Array Oper)(q:List (Nat × Nat))(n i:Nat)(o:Oper)(k:List Oper)(m:List (Nat × List Nat))(e:dA)(H:AHeap)(K:dA->AHeap->Prop) :
  kL P md ops q n i (o :: k) m e H K=r6 P md ops q n i k m e o.dst H K (Jj (n+i) e o) (mG P md (n+i) ops e o H):=by
 obtain ⟨dst,op,type,pos,after,guard⟩:=o
 cases guard with
 | none =>
  simp only [kL,oJ,mG,Jj]
  cases s:f7 e { dst:=dst,op:=op,type:=type,pos:=pos,after:=after,guard:=none } with
  | none=>simp [JZ,r6]
  | some p=>simp [JZ,r6,wH]
 | some p =>
  obtain ⟨j,b⟩:=p
  simp only [kL,oJ,mG,Jj]
  cases u:gD ops e j with
  | none=>simp [HJ,r6]
  | some gc =>
   obtain ⟨t,v⟩:=gc
   cases s:f7 (gE e op) { dst:=dst,op:=op,type:=type,pos:=pos,after:=after,guard:=some (j,b) } with
   | none=>simp [HJ,r6]
   | some p=>simp [HJ,r6,Aa]
@[go_sem] theorem WO (P:Program)(md:Nat->Bool)(ops:Array Oper)(sp:List (Nat × Nat))(n0 i:Nat)(acc:List (Nat × List Nat))(e:dA)(H:AHeap)(K:dA->AHeap->Prop):kL P md ops sp n0 i [] acc e H K=K e H:=rfl
section
variable (P:Program) (md:Nat→Bool) (ops:Array Oper) (sp:List (Nat × Nat)) (n0 i:Nat) (rest:List Oper) (acc:List (Nat × List Nat)) (e:dA) (dst:Option Tmp) (H H':AHeap) (K:dA→AHeap→Prop) (F:List Nat) (c f:Prop) (v:D) (t g:Bool) (fn:FuncId) (args:List D)
@[go_sem] theorem XB:r6 P md ops sp n0 i rest acc e dst H K F (.op ⟨c,f,v,H'⟩)=(c/\KM sp i F acc/\kL P md ops sp n0 (i+1) rest ((i,F) :: acc) (nZ e dst v) H' K):=rfl
@[go_sem] theorem Vv:r6 P md ops sp n0 i rest acc e dst H K F (.call fn args)=wH P md ops sp n0 i rest acc e dst K fn args H:=rfl
@[go_sem] theorem WC:r6 P md ops sp n0 i rest acc e dst H K F (.gop t g ⟨c,f,v,H'⟩) =
 ((t=true->g=true)/\(t=true->c/\H'=H)/\KM sp i F acc/\kL P md ops sp n0 (i+1) rest ((i,F) :: acc) (nZ e dst (.opt t v)) H K):=rfl
@[go_sem] theorem UU:r6 P md ops sp n0 i rest acc e dst H K F (.gcall t g fn args)=((t=true->g=true)/\Aa P md ops sp n0 i rest acc e dst K t fn args H):=rfl
@[go_sem] theorem VB (d:Option Tmp)(op:Op)(ty:TypeId)(p:String)(af:Array Edge)(gu:Option (Nat × Bool)) :
 kL P md ops sp n0 i (⟨d,op,ty,p,af,gu⟩ :: rest) acc e H K=r6 P md ops sp n0 i rest acc e d H K (Jj (n0+i) e ⟨d,op,ty,p,af,gu⟩) (mG P md (n0+i) ops e ⟨d,op,ty,p,af,gu⟩ H):=PS P md ops sp n0 i _ rest acc e H K
@[go_sem] theorem Z7:KM [] i F acc=True:=rfl
end
@[go_sem] theorem YW (p:Nat × Nat)(sp:List (Nat × Nat))(i:Nat)(F:List Nat)(acc:List (Nat × List Nat)):KM (p :: sp) i F acc = ∀ q∈acc,(q.1,i)∈(p :: sp)->∀ x∈q.2,x∉F:=rfl
@[go_sem] theorem Ww (nid:Nat)(e:dA)(d:Option Tmp)(op:Op)(ty:TypeId)(p:String)(af:Array Edge):Jj nid e ⟨d,op,ty,p,af,none⟩=foot nid e op:=rfl
@[go_sem] theorem Wv (nid:Nat)(e:dA)(d:Option Tmp)(op:Op)(ty:TypeId)(p:String)(af:Array Edge)(g:Nat × Bool):Jj nid e ⟨d,op,ty,p,af,some g⟩=foot nid (gE e op) op:=rfl
attribute [go_sem] foot Gt p6 Op.operands Call.operands
@[go_sem] theorem Wl (k:IntKind)(n:Int):dQ (.int k n)=[]:=rfl
@[go_sem] theorem Vq (b:Bool):dQ (.bool b)=[]:=rfl
@[go_sem] theorem Wf (b:ByteArray):dQ (.str b)=[]:=rfl
@[go_sem] theorem Wk:dQ .nil=[]:=rfl
@[go_sem] theorem Vo (es:List (List D)):dQ (.list es)=[]:=rfl
@[go_sem] theorem Wn (es:List D):dQ (.adr es)=[]:=rfl
@[go_sem] theorem Vm:dQ .nilp=[]:=rfl
@[go_sem] theorem Vn:dQ .nilf=[]:=rfl
@[go_sem] theorem Xp (f:FuncId)(l:List D):dQ (.fn f l)=[]:=rfl
@[go_sem] theorem Wi (id n:Nat):dQ (.own id n)=[id]:=rfl
@[go_sem] theorem Wd (id n lo hi:Nat):dQ (.win id n lo hi)=[id]:=rfl
@[go_sem] theorem Wg (id v i o:Nat):dQ (.ptr id v i o)=[id]:=rfl
@[go_sem] theorem Wm (l:List D):dQ (.agg l)=l.flatMap kO:=rfl
@[go_sem] theorem Wj (t:Bool)(d:D):dQ (.opt t d)=[]:=rfl
@[go_sem] theorem Vp:dQ .junk=[]:=rfl
@[go_sem] theorem We (l:List D):dQ (.tup l)=[]:=rfl
/-! ### guards -/
def gV:D->Option (Bool × Bool)
 | .bool c=>some (true,c)
 | .opt g (.bool c)=>some (g,c)
 | _=>none
def gT (e:dA):Option Tmp->Option (Bool × Bool)
 | some t=>gV (e t)
 | none=>none
@[go_sem] theorem Z2 (e:dA)(t:Nat):gT e (some t)=gV (e t):=rfl
@[go_sem] theorem Z1 (c:Bool):gV (.bool c)=some (true,c):=rfl
@[go_sem] theorem ab3 (g c:Bool):gV (.opt g (.bool c))=some (g,c):=rfl
section
variable (P:Program) (md:Nat→Bool) (nid:Nat) (ops:Array Oper) (e:dA) (d:Option Tmp) (op:Op) (ty:TypeId) (p:String) (af:Array Edge) (H:AHeap) (j:Nat) (b:Bool)
@[go_sem] theorem VO:mG P md nid ops e ⟨d,op,ty,p,af,some (j,b)⟩ H =
 HJ (gD ops e j) b (Sh e (gO op)) (f7 (gE e op) ⟨d,op,ty,p,af,none⟩) (EQ P nid md (gE e op) ⟨d,op,ty,p,af,none⟩ H):=rfl
@[go_sem] theorem ab4 (l:List Oper):gD l.toArray e j=gT e ((l[j]?).bind (·.dst)):=by grind [gD, gT, gV]
end
@[go_sem] theorem WX (t c b g:Bool)(f:FuncId)(args:List D)(o:AOut):HJ (some (t,c)) b g (some (f,args)) o=.gcall (t&&(c==b)) g f args:=rfl
@[go_sem] theorem Zi (t c b g:Bool)(o:AOut):HJ (some (t,c)) b g none o=.gop (t&&(c==b)) g o:=rfl
attribute [go_sem] gE gO Operand.tmp.injEq Sh og f7 EQ Option.bind_some kM HA iT Bool.and_true beq_false beq_true beq_self_eq_true
 jV Bool.and_self Bool.not_true Bool.not_false
@[go_sem] theorem WU (e:dA)(d:Option Tmp)(v:D)(t:Nat):DL (nZ e d v) t=match nZ e d v t with | .opt _ d=>d|d=>d:=rfl
@[go_sem] theorem VN (l:List D)(t:Nat):DL (Au l) t=match Au l t with | .opt _ d=>d|d=>d:=rfl
section
variable {P:Program} {md:Nat→Bool} {ops:Array Oper} {sp:List (Nat × Nat)} {n0 i:Nat} {rest:List Oper} {acc:List (Nat × List Nat)} {e:dA} {dst:Option Tmp} {K:dA→AHeap→Prop} {f:FuncId} {args args':List D} {H:AHeap} {r:D}
theorem Jy:KM sp i [] acc:=by
 unfold KM
 grind
theorem aM (hp:Pure P f args r)(hcl:D.clL args=true)(h:kL P md ops sp n0 (i+1) rest ((i,[]) :: acc) (nZ e dst r) H K):wH P md ops sp n0 i rest acc e dst K f args H :=
 .inl ⟨r,[],λH' _=>rA hp hcl ⟨rfl,rfl⟩,Jy,h⟩
theorem eP {t:Bool}(hp:t=true->Pure P f args r)(hcl:t=true->D.clL args=true)(h:kL P md ops sp n0 (i+1) rest ((i,[]) :: acc) (nZ e dst (.opt t r)) H K):Aa P md ops sp n0 i rest acc e dst K t f args H :=
 ⟨r,[],λht H' _=>rA (hp ht) (hcl ht) ⟨rfl,rfl⟩,Jy,h⟩
theorem aO {t:Bool}(b:t=true->Pure P f args r)(a:t=true->D.clL args=true)(h:lM P md ops rest (nZ e dst (.opt t r)) H K):tZ P md ops rest e dst K t f args H:=by
 unfold tZ
 exact .inl ⟨r,[],λht H' _=>rA (b ht) (a ht) ⟨rfl,rfl⟩,h⟩
theorem KE {t:Bool}(b:t=true->ACalls P f args H λv H1=>lM P md ops rest (nZ e dst (.opt true v)) H1 K)(a:t=false->∃ r,lM P md ops rest (nZ e dst (.opt false r)) H K):tZ P md ops rest e dst K t f args H:=by
 unfold tZ
 exact .inr ⟨b,a⟩
theorem AX {S:List Nat}{H':AHeap}(c:fN S H' H){d:D}(b:∀ x∈kO d,x∈S):eM H' d=eM H d:=by
 cases d<;>try rfl
 .rename_i a n
  have:=c a (b a (by simp [kO]))
  simp only [eM,this]
 .rename_i a n e f
  have:=c a (b a (by simp [kO]))
  simp only [eM,this]
theorem Oy {S:List Nat}{H':AHeap}(b:fN S H' H){d:D}(a:∀ x∈dK d,x∈S):iP H' d=iP H d:=by
 cases d<;>try rfl
 case own id n=>exact AX (d:=.own id n) b a
 case win id n lo hi=>exact AX (d:=.win id n lo hi) b a
 case agg l =>
  simp only [iP]
  congr 1
  exact bW λx e=>AX b λy c=>a y (by simp only [dK,bH];exact ⟨x,e,c⟩)
theorem Bk {S:List Nat}{H':AHeap}(ha:fN S H' H){l:List D}(hd:∀ x∈l.flatMap dK,x∈S):l.map (iP H')=l.map (iP H) :=
 bW λd hm=>Oy ha λx hx=>hd x (bH.2 ⟨d,hm,hx⟩)
theorem Ic {t:Bool}(c:t=true->Pure P f args' r)(j:args.map (iP H)=args')(a:t=true->D.clL args'=true)(d:t=true->r.flat=true){S:List Nat}(k:args.flatMap dK=S)(g:KM sp i S acc)
  (h:kL P md ops sp n0 (i+1) rest ((i,S) :: acc) (nZ e dst (.opt t r)) H K):Aa P md ops sp n0 i rest acc e dst K t f args H:=by
 subst j k
 refine ⟨r,_,λht H' hag=>?_,g,h⟩
 have b:=Bk hag λx hx=>hx
 exact wS (by rw [b];exact c ht) (by rw [b];exact a ht) (d ht) ⟨rfl,rfl⟩
theorem Cd {t:Bool}(c:t=true->Pure P f args' r)(g:args.map (iP H)=args')(a:t=true->D.clL args'=true)(d:t=true->r.flat=true)
  (h:lM P md ops rest (nZ e dst (.opt t r)) H K):tZ P md ops rest e dst K t f args H:=by
 subst g
 unfold tZ
 refine .inl ⟨r,args.flatMap dK,λht H' hag=>?_,h⟩
 have b:=Bk hag λx hx=>hx
 exact wS (by rw [b];exact c ht) (by rw [b];exact a ht) (d ht) ⟨rfl,rfl⟩
end
/-! ### calls of function values -/
def QB:D->List D->Option (FuncId × List D)
 | .fn g caps,az=>some (g,az++caps)
 | _,_=>none
@[go_sem] theorem YX (g:FuncId)(caps az:List D):QB (.fn g caps) az=some (g,az++caps):=rfl
theorem PE (e:dA)(d:Option Tmp)(f:Operand)(args:Array Operand)(ts:Array TypeId)(ty:TypeId)(p:String)(a:Array Edge)(g:Option (Nat × Bool)) :
  f7 e ⟨d,.call ⟨.value f,args,ts⟩,ty,p,a,g⟩=QB (eH e f) (args.toList.map (eH e)):=by grind [f7, QB]
@[go_sem] theorem Zm (P:Program)(md:Nat->Bool)(nid:Nat)(ops:Array Oper)(e:dA)(d:Option Tmp)(ty:TypeId)(p:String)(a:Array Edge)(H:AHeap)(t:Nat)(args:Array Operand)(ts:Array TypeId) :
  mG P md nid ops e ⟨d,.call ⟨.value (.tmp t),args,ts⟩,ty,p,a,none⟩ H=JZ (QB (e t) (args.toList.map (eH e))) (.bad H):=by
 simp only [mG,PE]
 rfl
attribute [go_sem] decide_eq_true_eq fR gU
attribute [irreducible] wH Aa
end Go.Abs
end
section
namespace Go.Abs
attribute [go_sem] D.cell D.cl D.clL D.clLL D.flat D.flat1 rM qI sI List.take_zero List.drop_succ_cons List.drop_zero sJ List.replicate_zero d9 List.flatten_nil
def dI (n:Int):D:=.int .i64 n
def cI (n:Int):List D:=[.int .i64 n]
def cS (s:ByteArray):List D:=[.str s]
def dLI (xs:List Int):D:=.list (xs.map cI)
def qA (xs:List ByteArray):D:=.list (xs.map cS)
structure Attr where
 name:ByteArray
 low:Int
 high:Int
 names:List ByteArray
def Attr.c (a:Attr):List D:=[.str a.name,dI a.low,dI a.high,qA a.names]
structure NodeTy where
 name:ByteArray
 parent:Int
 abs:Bool
 attrs:List Attr
def NodeTy.c (n:NodeTy):List D:=[.str n.name,dI n.parent,.bool n.abs,.list (n.attrs.map Attr.c)]
structure EdgeTy where
 name:ByteArray
 from_:Int
 to_:Int
 outLow:Int
 outHigh:Int
 inLow:Int
 inHigh:Int
def EdgeTy.c (x:EdgeTy):List D:=[.str x.name,dI x.from_,dI x.to_,dI x.outLow,dI x.outHigh,dI x.inLow,dI x.inHigh]
structure Types where
 nodes:List NodeTy
 edges:List EdgeTy
def Types.c (t:Types):List D:=[.list (t.nodes.map NodeTy.c),.list (t.edges.map EdgeTy.c)]
def Types.d (t:Types):D:=.agg t.c
structure Edge where
 type:Int
 from_:Int
 to_:Int
def Edge.c (x:Edge):List D:=[dI x.type,dI x.from_,dI x.to_]
structure Graph where
 nodes:List Int
 edges:List Edge
def Graph.c (g:Graph):List D:=[dLI g.nodes,.list (g.edges.map Edge.c)]
def Graph.d (g:Graph):D:=.agg g.c
/-! ### closed -/
theorem c8 {α:Type}(f:α->List D)(h:∀ a,D.clL (f a)=true)(l:List α):D.clLL (l.map f)=true:=by
 induction l with
 | nil=>rfl
 | cons a l ih=>simp [D.clLL,h,ih]
@[go_sem] theorem oF (l:List Int):(dLI l).cl=true:=by simp only [dLI,D.cl];exact c8 _ (λ_=>rfl) l
@[go_sem] theorem Ts (l:List ByteArray):(qA l).cl=true:=by simp only [qA,D.cl];exact c8 _ (λ_=>rfl) l
@[go_sem] theorem Attr.cl (a:Attr):D.clL a.c=true:=by simp [Attr.c,D.clL,D.cl,dI,Ts]
@[go_sem] theorem NodeTy.cl (n:NodeTy):D.clL n.c=true:=by simp [NodeTy.c,D.clL,D.cl,dI,c8 _ Attr.cl]
@[go_sem] theorem EdgeTy.cl (x:EdgeTy):D.clL x.c=true:=by simp [EdgeTy.c,D.clL,D.cl,dI]
@[go_sem] theorem Types.cl (t:Types):t.d.cl=true:=by simp [Types.d,Types.c,D.clL,D.cl,c8 _ NodeTy.cl,c8 _ EdgeTy.cl]
@[go_sem] theorem Edge.cl (x:Edge):D.clL x.c=true:=by simp [Edge.c,D.clL,D.cl,dI]
@[go_sem] theorem Graph.cl (g:Graph):g.d.cl=true:=by simp [Graph.d,Graph.c,D.clL,D.cl,oF,c8 _ Edge.cl]
@[go_sem] theorem XP (a b:D)(l:List D):Fn (a :: b :: l)=.tup (a :: b :: l):=rfl
end Go.Abs
end
section
namespace Go.Abs
structure Term where
 var:Int
 add:Int
def Term.c (x:Term):List D:=[dI x.var,dI x.add]
structure Slot where
 node:Int
 attr:Int
 term:Term
def Slot.c (x:Slot):List D:=[dI x.node,dI x.attr,dI x.term.var,dI x.term.add]
structure Test where
 kind:Int
 left:Term
 right:Term
def Test.c (x:Test):List D:=[dI x.kind,dI x.left.var,dI x.left.add,dI x.right.var,dI x.right.add]
structure Pattern where
 graph:Graph
 slots:List Slot
 vars:Int
 tests:List Test
def Pattern.c (p:Pattern):List D:=[dLI p.graph.nodes,.list (p.graph.edges.map Edge.c),.list (p.slots.map Slot.c),dI p.vars,.list (p.tests.map Test.c)]
def Pattern.d (p:Pattern):D:=.agg p.c
structure Part where
 nodes:List Int
 edges:List Int
def Part.c (p:Part):List D:=[dLI p.nodes,dLI p.edges]
def Part.d (p:Part):D:=.agg p.c
inductive Cond where
 | mk (kind:Int) (kids:List Cond) (map:Part) (pattern:Pattern)
def Cond.kind:Cond->Int | .mk k _ _ _=>k
def Cond.kids:Cond->List Cond | .mk _ l _ _=>l
def Cond.map:Cond->Part | .mk _ _ m _=>m
def Cond.pattern:Cond->Pattern | .mk _ _ _ p=>p
mutual
def Cond.c:Cond->List D
 | .mk k l m p=>[dI k,.list (Cond.cs l),dLI m.nodes,dLI m.edges,dLI p.graph.nodes,.list (p.graph.edges.map Edge.c),.list (p.slots.map Slot.c),dI p.vars,.list (p.tests.map Test.c)]
def Cond.cs:List Cond->List (List D)
 | []=>[]
 | c :: l=>c.c :: Cond.cs l
end
theorem Cond.cs_eq (l:List Cond):Cond.cs l=l.map Cond.c:=by
 induction l with
 | nil=>simp [Cond.cs]
 | cons a l ih=>simp [Cond.cs,ih]
theorem Cond.c_eq (x:Cond):x.c=[dI x.kind,.list (x.kids.map Cond.c),dLI x.map.nodes,dLI x.map.edges,dLI x.pattern.graph.nodes,.list (x.pattern.graph.edges.map Edge.c),.list (x.pattern.slots.map Slot.c),dI x.pattern.vars,.list (x.pattern.tests.map Test.c)]:=by
 cases x;simp [Cond.c,Cond.kind,Cond.kids,Cond.map,Cond.pattern,Cond.cs_eq]
structure Rule where
 name:ByteArray
 left:Pattern
 right:Pattern
 keep:Part
 into:Part
 inj:Bool
 cond:Cond
def Rule.c (r:Rule):List D:=[.str r.name,dLI r.left.graph.nodes,.list (r.left.graph.edges.map Edge.c),.list (r.left.slots.map Slot.c),dI r.left.vars,.list (r.left.tests.map Test.c),
 dLI r.right.graph.nodes,.list (r.right.graph.edges.map Edge.c),.list (r.right.slots.map Slot.c),dI r.right.vars,.list (r.right.tests.map Test.c),
 dLI r.keep.nodes,dLI r.keep.edges,dLI r.into.nodes,dLI r.into.edges,.bool r.inj,
 dI r.cond.kind,.list (r.cond.kids.map Cond.c),dLI r.cond.map.nodes,dLI r.cond.map.edges,dLI r.cond.pattern.graph.nodes,.list (r.cond.pattern.graph.edges.map Edge.c),.list (r.cond.pattern.slots.map Slot.c),dI r.cond.pattern.vars,.list (r.cond.pattern.tests.map Test.c)]
def Rule.d (r:Rule):D:=.agg r.c
structure Stage where
 weights:List Int
 removed:List Int
def Stage.c (s:Stage):List D:=[dLI s.weights,dLI s.removed]
@[go_sem] theorem Slot.cl (x:Slot):D.clL x.c=true:=rfl
@[go_sem] theorem Test.cl (x:Test):D.clL x.c=true:=rfl
@[go_sem] theorem Fy (l:List Slot):D.clLL (l.map Slot.c)=true:=c8 _ Slot.cl l
@[go_sem] theorem Lz (l:List Test):D.clLL (l.map Test.c)=true:=c8 _ Test.cl l
@[go_sem] theorem Stage.cl (x:Stage):D.clL x.c=true:=by simp [Stage.c,D.clL,oF]
@[go_sem] theorem WV (l:List Stage):D.clLL (l.map Stage.c)=true:=c8 _ Stage.cl l
theorem vB (l:List Edge):D.clLL (l.map Edge.c)=true:=c8 _ Edge.cl l
mutual
theorem Cond.cl:∀ x:Cond,D.clL x.c=true
 | .mk k l m p=>by
  have:=Cond.cls l
  simp [Cond.c,D.clL,D.cl,dI,oF,this,vB,Fy,Lz]
theorem Cond.cls:∀ l:List Cond,D.clLL (Cond.cs l)=true
 | []=>by simp [Cond.cs,D.clLL]
 | c :: l=>by simp [Cond.cs,D.clLL,Cond.cl c,Cond.cls l]
end
attribute [go_sem] Cond.cl
@[go_sem] theorem Tu (l:List Cond):D.clLL (l.map Cond.c)=true:=by rw [<- Cond.cs_eq];exact Cond.cls l
@[go_sem] theorem Rule.cl (r:Rule):D.clL r.c=true:=by
 simp [Rule.c,D.clL,D.cl,dI,oF,vB,Fy,Lz,Tu]
@[go_sem] theorem XT (l:List Rule):D.clLL (l.map Rule.c)=true:=c8 _ Rule.cl l
end Go.Abs
end
section
namespace Go.Abs
def BE (H:AHeap)(d:D):D :=
 match d with
 | .ptr id ver i off=>match fP H (.ptr id ver i off) with
  | some (c :: cs)=>.adr (c :: cs)
  | _=>.ptr id ver i off
 | d=>eM H d
def UF:D->List Nat
 | .ptr id _ _ _=>[id]
 | d=>kO d
def EC (H:AHeap)(d:D):D :=
 match d with
 | .fn g caps=>.fn g (caps.map (BE H))
 | .ptr id ver i off=>BE H (.ptr id ver i off)
 | d=>iP H d
def Tf:D->List Nat
 | .fn _ caps=>caps.flatMap UF
 | .ptr id _ _ _=>[id]
 | d=>dK d
section
variable {P:Program} {M0:Nat→Prop} {H:AHeap} {σ:Nat→Option Ow} {w:World}
theorem Cv {H H':AHeap}(h:∀ i,(H'.get i).map (·.es)=(H.get i).map (·.es))(d:D):fP H' d=fP H d:=by
 cases d<;>try rfl
 rename_i c a i b
 simp only [fP]
 grind
theorem yB {v:Value}{d:D}(s:Rel M0 H σ w)(m:RepV (cX M0 H σ) σ H.al w v d)(G:∀ i∈UF d,∀ k,H.get i=some k->k.fz=true) :
  RepV (cX M0 H σ) σ H.al w v (BE H d):=by
 cases d<;>try exact lT s m G
 rename_i g ver i t
 simp only [BE]
 cases B:fP H (.ptr g ver i t) with
 | none=>exact m
 | some I =>
  cases I with
  | nil=>exact m
  | cons c I =>
   obtain ⟨J,K,M,a,Q,e⟩:=pL s m B aF
   subst M
   have A:¬ cX M0 H σ J.block:=by
    cases q:H.get g with
    | none=>simp [fP,q] at B
    | some k =>
     obtain ⟨o,z,l⟩:=s.lies g k q
     have F:k.es.length=ver:=by
      simp only [fP,q] at B
      grind
     cases m
     rename_i S P h
     rcases h o z with T|⟨_,b,n,x⟩
     .have:=l.ver;omega
     .cases x
      rintro (N|⟨E,R,L,p,r,y,C⟩)
      .exact (s.lt g o b z n).2 N
      .have O:=s.inj E g L o b y z C n
       subst O
       rw [q] at p;cases p
       rw [G E (by simp [UF]) k q] at r;cases r
   exact .adr J K _ a.len Q (λj u hu=>⟨A,e j u hu⟩) a.rep
theorem LU {v:Value}{d:D}(p:Rel M0 H σ w)(e:RepV (cX M0 H σ) σ H.al w v d)(a:List Nat)(h:∀ i∈Tf d,i∈a) :
  RepV (cX M0 (fE a H) σ) σ (fE a H).al w v (EC H d):=by
 obtain ⟨q,B,C,n⟩:=fH a p
 have c:=e.keep B
 have f:∀ i∈a,∀ k,(fE a H).get i=some k->k.fz=true:=λi h k hk=>by
  have m:=(n i).1
  rw [hk] at m
  cases l:H.get i with
  | none=>rw [l] at m;cases m
  | some k0 =>
   grind
 have b:∀ d,BE (fE a H) d=BE H d:=λd=>by
  have z:=oZ (λi=>(n i).1) d
  cases d with
  | ptr id ver i off=>simp only [BE,Cv (λi=>(n i).1)]
  | _=>exact z
 cases d with
 | fn g caps =>
  cases c
  rename_i r A t
  refine .fn g r _ (bS A) λj u x hu e=>?_
  rw [aH,bL] at e
  obtain ⟨y,s,rfl⟩:=e
  rw [<- b y]
  refine yB q (t j u y hu s) λi hii k hk=>f i (h i ?_) k hk
  simp only [Tf,bH]
  grind
 | ptr id ver i off =>
  simp only [EC]
  rw [<- b]
  exact yB q c λi hii k hk=>f i (h i hii) k hk
 | _=>exact lS p e a h
theorem Q4 {vals:List Value}{args:List D}(hR:Rel M0 H σ w)(ha:RepL (cX M0 H σ) σ H.al w vals args)(ids:List Nat)(hi:∀ i∈args.flatMap Tf,i∈ids) :
  RepL (cX M0 (fE ids H) σ) σ (fE ids H).al w vals (args.map (EC H)) :=
 ⟨by simpa using ha.len,λj u d hu hd=>by
  rw [aH,bL] at hd
  obtain ⟨y,hy,rfl⟩:=hd
  exact LU hR (ha.rep j u y hu hy) ids λi hii=>hi i (bH.2 ⟨y,aI hy,hii⟩)⟩
theorem Le {f:FuncId}{args:List D}{r:D}{Q:D->AHeap->Prop}(c:Pure P f (args.map (EC H)) r)(b:D.clL (args.map (EC H))=true)(g:r.flat=true)(k:Q r H):ACalls P f args H Q:=by
 refine ⟨c.1,λM0 σ w vals hR ha=>?_⟩
 obtain ⟨o,s,q,p⟩:=fH (args.flatMap Tf) hR
 refine (c.2 (cX M0 (fE (args.flatMap Tf) H) σ) w vals (tV o) (gC (λ_ h=>h) (Q4 hR ha _ λi h=>h) b)).mono λe w' ⟨v,j,d,a⟩=>?_
 obtain ⟨n,m,l⟩:=hR.grow a.os a.tape a.output a.size a.block
 exact ⟨v,r,H,σ,j,n,y0 d g,m,l,k⟩
theorem tK {md:Nat->Bool}{ops:Array Oper}{a:List Oper}{e:dA}{b:Option Tmp}{K:dA->AHeap->Prop}{f:FuncId}{args args':List D}{r:D}(d:Pure P f args' r)(i:args.map (EC H)=args')(c:D.clL args'=true)(g:r.flat=true)
 (h:lM P md ops a (nZ e b r) H K):g5 P md ops a e b K f args H:=by grind [g5, Le]
end
theorem Own.pure {P:Program}{f:FuncId}{args:List D}{ty:TypeId}{sz:Nat}{es:List (List D)}(h:Own P f args ty sz es):Pure P f args (.list es):=by
 refine ⟨h.1,λM w vals hM ha=>(h.2 M w vals hM ha).mono λe w' ⟨v,z,C,k,F,m,x,s,E⟩=>⟨v,C,?_,E⟩⟩
 have o:D.clL es.flatten=true:=CI λd hd=>by
  obtain ⟨c,l,q⟩:=i9.1 hd
  exact jK (pF x c l) d q
 have a:RepL M gQ p5 w' z es.flatten:=gC (λb h h'=>h (.inl h')) m o
 rcases k.2 with ⟨n,G⟩|⟨g,y,H,i,I,p,t,l,B,r⟩
 .rw [n,bJ G];exact .listN
 .rw [i]
  refine .list ⟨g,0,none⟩ y sz z es t l s a.len F (λj u hu=>⟨λhm=>?_,k.cells (g:=g) (by simp [i,Value.ownBlock]) j u hu⟩) a.rep
  grind
end Go.Abs
end
section
namespace Go.Abs
def T3:D->D
 | .nil=>.list []
 | d=>d
def S1:D->D
 | .agg cs=>.agg (cs.map T3)
 | d=>T3 d
def Rl:D->D
 | .tup vs=>.tup (vs.map S1)
 | d=>S1 d
@[go_sem] theorem ZJ (k:IntKind)(n:Int):T3 (.int k n)=.int k n:=rfl
@[go_sem] theorem Ys (b:Bool):T3 (.bool b)=.bool b:=rfl
@[go_sem] theorem ZH (b:ByteArray):T3 (.str b)=.str b:=rfl
@[go_sem] theorem Yr (l:List (List D)):T3 (.list l)=.list l:=rfl
@[go_sem] theorem ZI:T3 .nil=.list []:=rfl
@[go_sem] theorem ZF (k:IntKind)(n:Int):S1 (.int k n)=.int k n:=rfl
@[go_sem] theorem Yq (b:Bool):S1 (.bool b)=.bool b:=rfl
@[go_sem] theorem ZD (b:ByteArray):S1 (.str b)=.str b:=rfl
@[go_sem] theorem Yp (l:List (List D)):S1 (.list l)=.list l:=rfl
@[go_sem] theorem ZE:S1 .nil=.list []:=rfl
@[go_sem] theorem ZG (l:List D):S1 (.agg l)=.agg (l.map T3):=rfl
@[go_sem] theorem ZB (k:IntKind)(n:Int):Rl (.int k n)=.int k n:=rfl
@[go_sem] theorem Yo (b:Bool):Rl (.bool b)=.bool b:=rfl
@[go_sem] theorem Zz (b:ByteArray):Rl (.str b)=.str b:=rfl
@[go_sem] theorem Yn (l:List (List D)):Rl (.list l)=.list l:=rfl
@[go_sem] theorem ZA:Rl .nil=.list []:=rfl
@[go_sem] theorem ZC (l:List D):Rl (.agg l)=.agg (l.map T3):=rfl
@[go_sem] theorem Zy (l:List D):Rl (.tup l)=.tup (l.map S1):=rfl
theorem Qg {M:Nat->Prop}{σ:Nat->Option Ow}{N:Nat->Prop}{w:World}{v:Value}{d:D}(h:RepV M σ N w v d):RepV M σ N w v (T3 d):=by
 cases d<;>try exact h
 cases h
 exact .listN
theorem Kr {M:Nat->Prop}{σ:Nat->Option Ow}{N:Nat->Prop}{w:World}{v:Value}{d:D}(h:RepV M σ N w v d):RepV M σ N w v (S1 d):=by
 cases d<;>try exact Qg h
 cases h
 rename_i a f e c
 refine .agg a _ (bS e) f λj u d hu hd=>?_
 rw [aH,bL] at hd
 obtain ⟨y,b,rfl⟩:=hd
 exact Qg (c j u y hu b)
theorem Up {M:Nat->Prop}{σ:Nat->Option Ow}{N:Nat->Prop}{w:World}{v:Value}{d:D}(h:RepV M σ N w v d):RepV M σ N w v (Rl d):=by
 cases d<;>try exact Kr h
 cases h
 rename_i a e c
 refine .tup a _ (bS e) λj u d hu hd=>?_
 rw [aH,bL] at hd
 obtain ⟨y,b,rfl⟩:=hd
 exact Kr (c j u y hu b)
section
variable {P:Program} {c:Cfg}
theorem SM {f:FuncId}{args:List D}{r:D}(g:r.cl=true)(h:∀ Q:D->AHeap->Prop,(∀ d H',(oX H' d=r\/Rl (oX H' d)=r)->Q d H')->ACalls P f args .emp Q):Pure P f args r:=by
 have h:=h (λd H'=>oX H' d=r\/Rl (oX H' d)=r) λ_ _ h=>h
 refine ⟨h.1,λM w vals hM ha=>(h.2 M gQ w vals (EX M w hM) (by rw [E5];exact ha)).mono λe w' ⟨v,d,H',σ',k,m,j,c,o,b⟩=>⟨v,k,?_,zI c⟩⟩
 have n:RepV (cX M (fE (C6 d) H') σ') σ' (fE (C6 d) H').al w' v r:=by
  have a:=sR m j (C6 d) λi hi=>hi
  rcases b with b|b
  .rw [b] at a;exact a
  .have a:=Up a;rw [b] at a;exact a
 exact n.closed (λad u hm l=>⟨λh=>hm (.inl h),l⟩) g
theorem abQ {f:FuncId}{args:List D}{ty:TypeId}{sz:Nat}{es:List (List D)}(hcl:D.clLL es=true)
  (h:∀ Q:D->AHeap->Prop,(∀ id n H',n=es.length->H'.get id=some ⟨ty,sz,es,false⟩->Q (.own id n) H')->ACalls P f args .emp Q):Own P f args ty sz es :=
 BR (h _ λid n H' hn hg=>⟨id,_,by rw [hn],hg,rfl,rfl,rfl,rfl,hcl⟩)
def D4 (I:Nat->dA->AHeap->Prop)(m:Nat->Nat)(x:Nat)(e:dA)(H:AHeap):Prop:=∃ H',Ghosts H H'/\∃ x',m x'<m x/\I x' e H'
theorem dN {I:Nat->dA->AHeap->Prop}{m:Nat->Nat}{x:Nat}{e:dA}{H:AHeap}(x':Nat)(hm:m x'<m x)(hI:I x' e H):D4 I m x e H:=⟨H,.refl H,x',hm,hI⟩
theorem BW {I:Nat->dA->AHeap->Prop}{m:Nat->Nat}{x:Nat}{e:dA}{H H':AHeap}(hg:Ghosts H H')(x':Nat)(hm:m x'<m x)(hI:I x' e H'):D4 I m x e H:=⟨H',hg,x',hm,hI⟩
theorem oR {b:Code}{Q:Exit->dA->AHeap->Prop}{e:dA}{H:AHeap}(I:Nat->dA->AHeap->Prop)(μ:Nat->Nat)(x0:Nat)(h0:I x0 e H)
 (hs:∀ x e H,I x e H->nW P c b (sO (D4 I μ x) Q) e H):AM P c b Q e H:=B5 (.refl H) I μ x0 h0 hs
theorem A5 {b:Code}{Q:Exit->dA->AHeap->Prop}{e:dA}{H H':AHeap}(hg:Ghosts H H')(I:Nat->dA->AHeap->Prop)(μ:Nat->Nat)(x0:Nat)(h0:I x0 e H')
 (hs:∀ x e H,I x e H->nW P c b (sO (D4 I μ x) Q) e H):AM P c b Q e H:=B5 hg I μ x0 h0 hs
end
@[go_sem] theorem Xv (H:AHeap)(id i off:Nat)(ty sz:Nat):GP H id i off ty sz=match H.get id with
 | some k=>(H.put id { k with es:=k.es.set i ((k.es[i]?.getD []).set off (.own H.next 0)) }).push H.next ⟨ty,sz,[],false⟩
 | none=>H:=rfl
@[go_sem] theorem Wt (H:AHeap)(id i off q hi:Nat):A9 H id i off q hi=match H.get id,H.get q with
 | some k,some kq=>(((H.drop q).push H.next ⟨kq.ty,kq.sz,kq.es.take hi,false⟩).put id { k with es:=k.es.set i ((k.es[i]?.getD []).set off (.own H.next hi)) })
 | _,_=>H:=rfl
attribute [go_sem] uF DI
attribute [irreducible] D4
theorem gL {p:Prop}(h:p:=by (first|assumption|(intros;first|assumption|omega|exact cZ aD aD|(and_intros<;>first|assumption|omega|exact cZ aD aD))|(simp_all<;>omega))):p:=h
theorem eK {p:Prop}(h:p:=by (first|assumption|(intros;first|assumption|omega|exact cZ aD aD|(and_intros<;>first|assumption|omega|exact cZ aD aD))|(simp;done)|(simp;omega))):p:=h
end Go.Abs
end
section
namespace Go.Abs
section
variable {P:Program} {M0:Nat→Prop} {H:AHeap} {σ:Nat→Option Ow} {w:World}
theorem z7 (zs:List Int):(zs.map cI).flatten=zs.map (D.int .i64):=by
 induction zs with
 | nil=>rfl
 | cons a l b=>simp only [gS,d9,b,cI];rfl
theorem zM {M:Nat->Prop}{N:Nat->Prop}(zs:List Int):RepL M σ N w (zs.map (Value.int .i64)) (zs.map cI).flatten:=by
 rw [z7]
 refine ⟨by simp,λj u d hu hd=>?_⟩
 rw [aH,bL] at hu hd
 obtain ⟨x,b,rfl⟩:=hu
 obtain ⟨y,a,rfl⟩:=hd
 rw [b] at a;cases a
 exact .int _ _
def ET (w:World)(ty:TypeId)(v:Value)(xs:List Int):Prop:=w.ownsRow 0 ty 1 v xs.length (xs.map (Value.int .i64))
theorem P6 (x:Rel M0 H σ w){d:Nat}{ty:TypeId}{xs:List Int}(t:H.get d=some ⟨ty,1,xs.map cI,false⟩){v:Value}(m:RepV (cX M0 H σ) σ H.al w v (.own d xs.length)) :
  ∃ o,σ d=some o/\v=o.val/\o.ver=xs.length/\o.ty=ty/\o.esz=1/\ET w ty v xs:=by
 obtain ⟨o,i,l⟩:=x.lies d _ t
 have c:o.ver=xs.length:=by have:=l.ver;simpa using this
 cases m
 rename_i A B h
 rcases h o i with C|⟨_,rfl⟩
 .omega
 .obtain ⟨b,g,p,a⟩:=l.row
  have n:b=xs.map (Value.int .i64):=by
   simp only [z7] at a
   apply eZ
   intro j
   have s:=a.len
   simp only [aS] at s
   by_cases e:j<xs.length
   .have y:=a.rep j b[j] (D.int .i64 xs[j]) (aA aD) (by simp [e])
    generalize b[j]=u at y
    have f:b[j]?=some b[j]:=aA aD
    have k:=a.rep j b[j] (D.int .i64 xs[j]) f (by simp [e])
    generalize z:b[j]=q at f k
    rw [f]
    cases k
    simp [e]
   grind
  refine ⟨o,i,rfl,c,l.ty,l.sz,?_⟩
  unfold ET
  have r:o.esz=1:=l.sz
  grind
theorem L0 {w':World}(n:Rel M0 H σ w){a:Nat}{ty:TypeId}{xs zs:List Int}(g:Bool)(m:H.get a=some ⟨ty,1,xs.map cI,false⟩){o:Ow}(k:σ a=some o)(e:o.ver=xs.length)(h:o.ty=ty)(d:o.esz=1)
  (l:zs.length=xs.length) (j:w.grownBy w' o.block) (f:ET w' ty o.val zs) :
  Rel M0 (H.put a ⟨ty,1,zs.map cI,g⟩) (λi=>if i=a then some o else σ i) w'/\Stp σ w (λi=>if i=a then some o else σ i) w' /\
   Keeps (cX M0 H σ) σ H.al w (cX M0 (H.put a ⟨ty,1,zs.map cI,g⟩) (λi=>if i=a then some o else σ i)) (λi=>if i=a then some o else σ i) (H.put a ⟨ty,1,zs.map cI,g⟩).al w':=by
 refine Rel.put n m rfl k ⟨ty,1,zs.map cI,g⟩ o j (λb hb=>.inl hb) (.inl rfl) (by simp [e,l]) h d (λc hc=>?_) (zs.map (Value.int .i64)) ?_ (λu hu=>?_) (zM zs)
 .obtain ⟨x,_,rfl⟩:=aQ.1 hc;rw [d];rfl
 .rw [d];simpa [ET] using f
 .obtain ⟨x,_,rfl⟩:=aQ.1 hu;rfl
theorem NU {f:FuncId}{i:Nat}{ty:TypeId}{xs zs:List Int}{Q:D->AHeap->Prop}(h:VE P f)(n:H.get i=some ⟨ty,1,xs.map cI,false⟩)(r:zs.length=xs.length)
  (t:∀ (w:World) (v:Value),ET w ty v xs->Calls P f #[v] w λe w'=>e=.returned (.tuple #[])/\w.grownBy w' v.ownBlock/\ET w' ty v zs)
  (x:Q (.tup []) (H.put i ⟨ty,1,zs.map cI,false⟩)):ACalls P f [.own i xs.length] H Q:=by
 refine ⟨h,λM0 σ w vals hR ha=>?_⟩
 obtain ⟨g,p⟩:=ha
 match vals,g with
 | [v],_ =>
  obtain ⟨o,q,rfl,b,k,l,c⟩:=P6 hR n (p 0 v _ rfl rfl)
  refine (t w _ c).mono λe w' ⟨s,m,a⟩=>?_
  obtain ⟨A,z,y⟩:=L0 hR false n q b k l r m a
  exact ⟨_,.tup [],_,_,s,A,.tup [] [] rfl (λj u d hu=>by simp at hu),z,y,x⟩
theorem KY {f:FuncId}{b:Nat}{ty:TypeId}{xs zs:List Int}{m:Nat}{Q:D->AHeap->Prop}(A:VE P f)(X:H.get b=some ⟨ty,1,xs.map cI,false⟩)(hl:zs.length=xs.length)(hm:m<=xs.length)
  (T:∀ (w:World) (v:Value),ET w ty v xs->Calls P f #[v] w λe w'=>(∃ r,e=.returned r/\((v=.slice none 0 0/\r=v)\/∃ g n cap,v=.slice (some g) n cap/\r=.slice (some g) m cap))/\w.grownBy w' v.ownBlock/\ET w' ty v zs)
  (hQ:Q (.list ((zs.take m).map cI)) (H.put b ⟨ty,1,zs.map cI,true⟩)):ACalls P f [.own b xs.length] H Q:=by
 refine ⟨A,λM0 σ w vals hR ha=>?_⟩
 obtain ⟨y,hr⟩:=ha
 match vals,y with
 | [v],_ =>
  obtain ⟨o,I,rfl,q,E,F,d⟩:=P6 hR X (hr 0 v _ rfl rfl)
  refine (T w _ d).mono λe w' ⟨⟨r,he,G⟩,O,a⟩=>?_
  obtain ⟨h1,h2,h3⟩:=L0 hR true X I q E F hl O a
  refine ⟨r,.list ((zs.take m).map cI),_,_,he,h1,?_,h2,h3,hQ⟩
  rcases G with ⟨h,rfl⟩|⟨g,n,cap,h,rfl⟩
  .have hz:zs=[]:=by
    rcases d.2 with ⟨_,h0⟩|⟨B,C,V,s,_⟩
    .exact bJ aD
    grind
   subst hz
   rw [h];simpa using RepV.listN
  .rcases a.2 with ⟨W,_⟩|⟨B,C,V,s,a3,Y,a1,S,a2,a0⟩
   .rw [h] at W;cases W
   .have p:=s
    rw [h] at p
    cases p
    have K:(zs.take m).length=m:=by simp;omega
    have R:=z7 (zs.take m)
    have k:=RepV.list (M:=cX M0 (H.put b ⟨ty,1,zs.map cI,true⟩) (λi=>if i=b then some o else σ i)) (σ:=λi=>if i=b then some o else σ i) (N:=(H.put b ⟨ty,1,zs.map cI,true⟩).al) (w:=w')
     ⟨B,0,none⟩ cap 1 ((zs.take m).map (Value.int .i64)) ((zs.take m).map cI) (by simp;omega) S (λc T=>(by obtain ⟨x,_,rfl⟩:=aQ.1 T;rfl)) (by rw [R];simp)
     (λu hu=>(by obtain ⟨x,_,rfl⟩:=aQ.1 hu;rfl))
     (λj u hu=>by
      refine ⟨?_,?_⟩
      .rintro (J|⟨i,k',Z,z,hf,t,U⟩)
       .exact (hR.lt b o B I (by simp [Ow.block,h,Value.ownBlock])).2 J
       .by_cases L:i=b
        .simp only [AHeap.put,L,if_true,bD] at z
         subst z;cases hf
        .simp only [L,if_false] at t
         exact L (hR.inj i b Z o B t I U (by simp [Ow.block,h,Value.ownBlock]))
      .have:=a.cells (g:=B) (by simp [h,Value.ownBlock]) j u (by
        rw [aH] at hu ⊢
        rw [bU] at hu
        split at hu
        .exact hu
        .simp at hu)
       exact this)
     (zM (zs.take m)).rep
    simp only [aS,K] at k
    exact k
end
end Go.Abs
end
section
namespace Go.Abs
section
variable {P:Program} {M0:Nat→Prop} {H:AHeap} {σ:Nat→Option Ow} {w:World}
structure Made (M:Nat->Prop) (w w':World) (v:Value) (b:Blk) (xs:List Value):Prop where
 row:w'.ownsRow w.heap.size b.ty b.sz v b.es.length xs
 one:∀ u∈xs,u.oneCell'=true
 rep:RepL M gQ p5 w' xs b.es.flatten
 cl:D.clLL b.es=true
 sz:∀ c∈b.es,c.length=b.sz
theorem N0 {f:FuncId}{args:List D}{ty:TypeId}{sz:Nat}{es:List (List D)}{Q:D->AHeap->Prop}(N:Own P f args ty sz es)(J:D.clL args=true)(q:Nat)(V:¬ H.al q)
  (Y:Q (.own q es.length) (H.push q ⟨ty,sz,es,false⟩)):ACalls P f args H Q:=by
 refine ⟨N.1,λM0 σ w vals hR ha=>(N.2 (cX M0 H σ) w vals (tV hR) (gC (λ_ h=>h) ha J)).mono λe w' ⟨v,M,X,k,L,t,y,F,A⟩=>?_⟩
 have m:w'.ownsRow 0 ty sz v es.length M:=⟨k.1,k.2.imp (λx=>x) λ⟨g,r,p,a,b,c⟩=>⟨g,r,p,a,eJ _,c⟩⟩
 have K:∀ b,v.ownBlock=some b->w.heap.size<=b:=λb j=>by
  rcases k.2 with B|⟨g,r,p,L,h2,h3⟩
  .rw [B.1] at j;simp [Value.ownBlock] at j
  .rw [L] at j;simp only [Value.ownBlock,bD] at j;omega
 have Z:∀ C,¬ (cX M0 H σ C\/v.ownBlock=some C)->¬ cX M0 (H.push q ⟨ty,sz,es,false⟩) (λi=>if i=q then some ⟨es.length,v,sz,ty⟩ else σ i) C:=by
  intro C G h
  rcases h with h|⟨i,U,T,u,W,l,j⟩
  .exact G (.inl (.inl h))
  .by_cases n:i=q
   .simp only [n,if_true,bD] at l
    subst l
    exact G (.inr j)
   .simp only [n,if_false] at l
    simp only [AHeap.push,n,if_false] at u
    exact G (.inl (.inr ⟨i,U,T,u,W,l,j⟩))
 have z:D.clL es.flatten=true:=CI λd hd=>by
  obtain ⟨c,I,E⟩:=i9.1 hd
  exact jK (pF y c I) d E
 obtain ⟨S,R,O⟩:=Rel.pushG hR q V (w':=w') A.os A.tape A.output A.size A.block ⟨ty,sz,es,false⟩ ⟨es.length,v,sz,ty⟩
  K rfl rfl rfl F M m L (λhk=>gC Z t z)
 exact ⟨v,_,_,_,X,S,.own v _ _ (.inl rfl) (by rcases k.2 with ⟨B,_⟩|⟨g,r,p,B,_⟩<;>simp [B,Value.oneCell']) (λo ho=>by simp at ho;subst ho;exact .inr ⟨rfl,rfl⟩),R,O,Y⟩
theorem ACalls.bump {f:FuncId}{args:List D}{Q:D->AHeap->Prop}(k:Nat)(h:ACalls P f args ⟨H.next+k,H.al,H.get⟩ Q):ACalls P f args H Q :=
 ⟨h.1,λM0 σ w vals hR ha=>h.2 M0 σ w vals (hR.bump (m:=H.next+k) aD) ha⟩
theorem ACalls.frz {f:FuncId}{args:List D}{Q:D->AHeap->Prop}(h:ACalls P f (args.map (iP H)) (fE (args.flatMap dK) H) Q):ACalls P f args H Q:=by
 refine ⟨h.1,λM0 σ w vals hR ha=>?_⟩
 obtain ⟨m,l,p,o⟩:=fH (args.flatMap dK) hR
 refine (h.2 M0 σ w vals m (BF hR ha _ λi h=>h)).mono λe w' ⟨v,d,n,σ',j,k,a,b,g,c⟩=>?_
 exact ⟨v,d,n,σ',j,k,a,b,l.trans g,c⟩
end
section
variable {P:Program} {md:Nat→Bool} {ops:Array Oper} {sp:List (Nat × Nat)} {n0 i:Nat} {rest:List Oper} {acc:List (Nat × List Nat)} {e:dA} {dst:Option Tmp} {K:dA→AHeap→Prop} {f:FuncId} {args args':List D} {H H':AHeap}
theorem Em {ty:TypeId}{sz:Nat}{es:List (List D)}(q:Nat)(a:Own P f args ty sz es)(c:D.clL args=true)(b:EH md dst=true)(g:q<n0)(d:¬ H.al q)(j:KM sp i [q] acc)
  (h:kL P md ops sp n0 (i+1) rest ((i,[q]) :: acc) (nZ e dst (.own q es.length)) (H.push q ⟨ty,sz,es,false⟩) K):wH P md ops sp n0 i rest acc e dst K f args H:=by
 unfold wH
 exact Or.inr ⟨b,.own q es.length,[],[],[(q,⟨ty,sz,es,false⟩)],(λ_ h=>by cases h),λp a=>(by
   have:p=(q,⟨ty,sz,es,false⟩):=by simpa using a
   subst this;exact ⟨g,d⟩),
  λH' _ hn=>N0 a c q (hn (q,⟨ty,sz,es,false⟩) aF).2 ⟨rfl,rfl⟩,j,h⟩
end
theorem TO (i:Nat):AHeap.emp.al i↔False:=Iff.rfl
theorem tN (H:AHeap)(i j:Nat)(k:Blk):(H.push i k).al j↔j=i\/H.al j:=Iff.rfl
theorem zD (H:AHeap)(i j:Nat)(k:Blk):(H.put i k).al j↔H.al j:=Iff.rfl
theorem TN (n:Nat)(al:Nat->Prop)(g:Nat->Option Blk)(j:Nat):(AHeap.mk n al g).al j↔al j:=Iff.rfl
end Go.Abs
end
section
namespace Go.Abs
def Zt (id:Nat):D->D
 | .own 0 n=>.own id n
 | d=>d
section
variable {P:Program} {M0:Nat→Prop} {H:AHeap} {σ:Nat→Option Ow} {w:World}
theorem Uj (id n:Nat):Zt id (.own 0 n)=.own id n:=rfl
theorem Rh (k:Blk):(AHeap.emp.push 0 k).get 0=some k:=rfl
theorem VG {f:FuncId}{args:List D}{k S:Blk}{r:D}{q:Nat}{Q:D->AHeap->Prop}
  (h:ACalls P f args (AHeap.emp.push 0 k) λd H'=>oX H' d=r/\r.cl=true/\0∉C6 d/\H'.get 0=some S)
  (L:∀ d∈args,d.cl=true\/d=.own 0 k.es.length) (hk:k.fz=false) (b4:S.fz=false) (b8:D.clLL k.es=true) (b6:∀ d∈S.es.flatten,d.flat=true) (hg:H.get q=some k) (hQ:Q r (H.put q S)) :
  ACalls P f (args.map (Zt q)) H Q:=by
 refine ⟨h.1,λM0 σ w vals hR ha=>?_⟩
 obtain ⟨o,T,l⟩:=hR.lies q k hg
 obtain ⟨xs,a1,a9,a2⟩:=l.row
 obtain ⟨σ0,Y⟩:∃ s:Nat->Option Ow,s=λi=>if i=0 then some o else none:=⟨_,rfl⟩
 obtain ⟨M1,y⟩:∃ m:Nat->Prop,m=λb=>cX M0 H σ b/\o.block≠some b:=⟨_,rfl⟩
 have s0:σ0 0=some o:=by rw [Y];rfl
 have R:∀ i B,σ0 i=some B->i=0/\B=o:=λi B a=>by
  grind
 have g0:∀ i C,(AHeap.emp.push 0 k).get i=some C->i=0/\C=k:=λi C a=>by
  by_cases z:i=0
  .subst z;rw [Rh] at a;exact ⟨rfl,(Option.some.inj a).symm⟩
  .simp [AHeap.push,AHeap.emp,z] at a
 have c2:∀ b,o.block=some b->cX M0 H σ b:=λb hb=>.inr ⟨q,k,o,hg,hk,T,hb⟩
 have E:∀ b,cX M1 (AHeap.emp.push 0 k) σ0 b->cX M0 H σ b:=by
  rintro b (hb|⟨i,C,o1,x,hf,n,hb⟩)
  .rw [y] at hb;exact hb.1
  grind
 have b9:∀ {es:List (List D)},D.clLL es=true->D.clL es.flatten=true:=λ {es} hc=>CI λd K=>by
  obtain ⟨c,b7,a8⟩:=i9.1 K
  exact jK (pF hc c b7) d a8
 have c1:Rel M1 (AHeap.emp.push 0 k) σ0 w:=by
  refine ⟨λi a=>?_,λi a=>?_,λi C x=>?_,λi j oi oj b a U hbi hbj=>?_,λi oi b a hbi=>?_,λb hb=>?_⟩
  .have z:i≠0:=λe=>a (.inl e)
   exact ⟨by rw [Y];simp [z],by simp [AHeap.push,AHeap.emp,z]⟩
  .rcases a with a|a
   .subst a;simp [AHeap.push,AHeap.emp]
   .exact a.elim
  .obtain ⟨z,N⟩:=g0 i C x
   subst z;subst N
   exact ⟨o,s0,l.ver,l.ty,l.sz,l.esz,xs,a1,a9,gC (λb hb hb'=>hb (E b hb')) a2 (b9 b8)⟩
  .rw [(R i oi a).1,(R j oj U).1]
  .obtain ⟨_,rfl⟩:=R i oi a
   exact ⟨(hR.lt q oi b T hbi).1,λhb=>by rw [y] at hb;exact hb.2 hbi⟩
  .rw [y] at hb;exact tV hR b hb.1
 have c0:RepL (cX M1 (AHeap.emp.push 0 k) σ0) σ0 (AHeap.emp.push 0 k).al w vals args:=by
  refine ⟨by simpa using ha.len,λj u d F K=>?_⟩
  have U:=ha.rep j u (Zt q d) F (by rw [aH,K];rfl)
  rcases L d (aI K) with hc|rfl
  .have a3:Zt q d=d:=by cases d<;>first|rfl|(simp [D.cl] at hc)
   rw [a3] at U
   exact U.closed (λad u hm F=>⟨λhm'=>hm (E _ hm'),F⟩) hc
  .rw [Uj] at U
   cases U
   rename_i N hN hv
   exact .own u _ _ (.inl rfl) (by first|exact N|exact hN) λo1 n=>by
    obtain ⟨_,rfl⟩:=R 0 o1 n
    exact hv o1 T
 refine (h.2 M1 σ0 w vals c1 c0).mono λe w' ⟨v,d,H',σ',he,M,hv,p,b3,hr,a4,b0,J⟩=>?_
 obtain ⟨B,I,W⟩:=M.lies 0 S J
 obtain ⟨a7,G,Z,t⟩:=W.row
 obtain ⟨o2,a5,b2⟩:=b3.own 0 B (.inl rfl) I
 rw [s0] at a5
 cases a5
 have b5:w.grownBy w' o.block:=⟨p.os,p.tape,p.output,p.size,λb hb hne=>p.old b hb λi o1 a=>by
  obtain ⟨_,rfl⟩:=R i o1 a
  exact λhb'=>hne (by first|simpa using hb'|exact hb'.symm|exact hb')⟩
 have a6:∀ b,B.block=some b->o.block=some b\/w.heap.size<=b:=λb hb=>by
  rcases p.new 0 B b I hb with N|⟨j1,o1,N,h2⟩
  .exact .inr N
  .obtain ⟨_,rfl⟩:=R j1 o1 N;exact .inl h2
 obtain ⟨p1,p2,p3⟩:=Rel.put hR hg hk T S B b5 a6 b2 W.ver W.ty W.sz W.esz a7 G Z
  ⟨t.len,λj u d F K=>y0 (t.rep j u d F K) (b6 d (aI K))⟩
 have a0:=sR M hv (C6 d) λi a=>a
 rw [hr] at a0
 obtain ⟨_,_,_,f4⟩:=fH (C6 d) M
 refine ⟨v,r,_,_,he,p1,a0.closed (λad u hm F=>⟨λhm'=>hm ?_,F⟩) a4,p2,p3,hQ⟩
 rcases hm' with z|⟨i,C,o1,x,hf,n,hb⟩
 .left
  rw [y]
  exact ⟨.inl z,λhb=>(hR.lt q o _ T hb).2 z⟩
 .by_cases a:i=q
  .simp only [a,if_true,bD] at n
   subst n
   right
   obtain ⟨O,c3⟩:=f4 0
   rw [J] at O
   cases hq:(fE (C6 d) H').get 0 with
   | none=>rw [hq] at O;cases O
   | some kq =>
    refine ⟨0,kq,B,hq,?_,I,hb⟩
    rw [GR _ _ 0 b0,J] at hq
    cases hq
    exact b4
  .simp only [a,if_false] at n
   simp only [AHeap.put,a,if_false] at x
   left
   rw [y]
   exact ⟨.inr ⟨i,C,o1,x,hf,n,hb⟩,λhb'=>a (hR.inj i q o1 o _ n T hb hb')⟩
end
section
variable {P:Program} {M0:Nat→Prop} {H:AHeap} {σ:Nat→Option Ow} {w:World}
end
section
variable {P:Program} {md:Nat→Bool} {ops:Array Oper} {sp:List (Nat × Nat)} {n0 i:Nat} {rest:List Oper} {acc:List (Nat × List Nat)} {e:dA} {dst:Option Tmp} {K:dA→AHeap→Prop} {f:FuncId} {args args':List D} {H:AHeap}
end
theorem AS {P:Program}{f:FuncId}{args:List D}{H H':AHeap}{Q:D->AHeap->Prop}(hg:Ghosts H H')(h:ACalls P f args H' Q):ACalls P f args H Q :=
 ⟨h.1,λM0 σ w vals hR ha=>by
  obtain ⟨σ1,g1,g2,g3⟩:=wD hg hR
  exact (h.2 M0 σ1 w vals g1 (ha.keep g3)).mono λe w' ⟨v,d,H1,σ2,he,h1,hv,hs,hk,hq⟩=>⟨v,d,H1,σ2,he,h1,hv,g2.trans hs,g3.trans hk,hq⟩⟩
theorem Cw {P:Program}{md:Nat->Bool}{ops:Array Oper}{a:List Oper}{e:dA}{b:Option Tmp}{K:dA->AHeap->Prop}{f:FuncId}{args:List D}{H H':AHeap}(c:Ghosts H H')(h:g5 P md ops a e b K f args H'):g5 P md ops a e b K f args H:=by grind [g5, AS]
end Go.Abs
end
section
namespace Go.Abs
mutual
def oM:D->D
 | .nil=>.list []
 | .agg cs=>.agg (kJ cs)
 | .tup cs=>.tup (kJ cs)
 | .list es=>.list (eI es)
 | d=>d
def kJ:List D->List D
 | []=>[]
 | d :: l=>oM d :: kJ l
def eI:List (List D)->List (List D)
 | []=>[]
 | c :: l=>kJ c :: eI l
end
theorem BV (l:List D):kJ l=l.map oM:=by
 induction l with
 | nil=>rfl
 | cons a l ih=>simp [kJ,ih]
theorem uT (l:List (List D)):eI l=l.map kJ:=by
 induction l with
 | nil=>rfl
 | cons a l ih=>simp [eI,ih]
theorem Gl (l:List (List D)):(eI l).flatten=l.flatten.map oM:=by
 induction l with
 | nil=>rfl
 | cons a l b=>simp only [eI,d9,b,List.map_append,BV]
theorem Qf {M:Nat->Prop}{σ:Nat->Option Ow}{N:Nat->Prop}{w:World}{v:Value}{d:D}(h:RepV M σ N w v d):RepV M σ N w v (oM d):=by
 have b:∀ {vs:List Value} {ds:List D},(∀ (j:Nat) (u:Value) (d:D),vs[j]?=some u->ds[j]?=some d->RepV M σ N w u (oM d)) ->
   ∀ (j:Nat) (u:Value) (d:D),vs[j]?=some u->(ds.map oM)[j]?=some d->RepV M σ N w u d:=by
  grind
 induction h with
 | int=>simp only [oM];exact .int _ _
 | bool=>simp only [oM];exact .bool _
 | str=>simp only [oM];exact .str _
 | agg vs ds hl h1 _ ih =>
  simp only [oM,BV]
  exact .agg vs _ (by simp [hl]) h1 (b ih)
 | tup vs ds hl _ ih =>
  simp only [oM,BV]
  exact .tup vs _ (by simp [hl]) (b ih)
 | nil=>simp only [oM];exact .listN
 | listN=>simp only [oM,eI];exact .listN
 | list ad cap sz xs es hc hm' hsz hl h1 hcell _ ih =>
  have a:(eI es).length=es.length:=by rw [uT,aS]
  have:=RepV.list (M:=M) (σ:=σ) (N:=N) (w:=w) ad cap sz xs (eI es) (by rw [a];exact hc) hm' (λc hc'=>by
   rw [uT,aQ] at hc'
   obtain ⟨y,e,rfl⟩:=hc'
   rw [BV,aS];exact hsz y e) (by rw [Gl,aS];exact hl) h1 hcell (by rw [Gl];exact b ih)
  rwa [a] at this
 | adr ad xs ds hl h1 hcell hr ih=>simp only [oM];exact .adr ad xs ds hl h1 hcell hr
 | ne ad cap b=>simp only [oM];exact .ne ad cap b
 | nilp=>simp only [oM];exact .nilp
 | ptr v id ver i off hN h1 h=>simp only [oM];exact .ptr v id ver i off hN h1 h
 | own v id n hN h1 h=>simp only [oM];exact .own v id n hN h1 h
 | win v id ver lo hi hN h1 hlh h=>simp only [oM];exact .win v id ver lo hi hN h1 hlh h
 | fn f vs ds hl hr ih=>simp only [oM];exact .fn f vs ds hl hr
 | nilf=>simp only [oM];exact .nilf
 | opt v g d hf h ih=>simp only [oM];exact .opt v g d hf h
 | cst v=>simp only [oM];exact .cst v
 | junk v=>simp only [oM];exact .junk v
theorem tT {P:Program}{f:FuncId}{args:List D}{r:D}(b:r.cl=true)(h:∀ Q:D->AHeap->Prop,(∀ d H',oM (oX H' d)=r->Q d H')->ACalls P f args .emp Q):Pure P f args r:=by
 have h:=h (λd H'=>oM (oX H' d)=r) λ_ _ h=>h
 refine ⟨h.1,λM w vals hM ha=>(h.2 M gQ w vals (EX M w hM) (by rw [E5];exact ha)).mono λe w' ⟨v,d,H',σ',g,k,c,a,n,m⟩=>⟨v,g,?_,zI a⟩⟩
 have l:RepV (cX M (fE (C6 d) H') σ') σ' (fE (C6 d) H').al w' v r:=by
  have o:=Qf (sR k c (C6 d) λi hi=>hi)
  grind
 exact l.closed (λad u hm j=>⟨λh=>hm (.inl h),j⟩) b
attribute [go_sem] oM kJ eI
end Go.Abs
end
section
namespace Go.Abs
def LT (H:AHeap)(d:D):D :=
 match d with
 | .ptr id ver i off=>match fP H (.ptr id ver i off) with
  | some (c :: cs)=>.adr ((c :: cs).map (eM H))
  | _=>.ptr id ver i off
 | d=>iP H d
def Kz (H:AHeap)(d:D):List Nat :=
 match d with
 | .ptr id ver i off=>id :: (match fP H (.ptr id ver i off) with|some cs=>cs.flatMap kO|none=>[])
 | d=>dK d
section
variable {P:Program} {M0:Nat→Prop} {H:AHeap} {σ:Nat→Option Ow} {w:World}
theorem LS {v:Value}{d:D}(G:Rel M0 H σ w)(g:RepV (cX M0 H σ) σ H.al w v d)(a:List Nat)(m:∀ i∈Kz H d,i∈a) :
  RepV (cX M0 (fE a H) σ) σ (fE a H).al w v (LT H d):=by
 obtain ⟨A,J,N,z⟩:=fH a G
 have b:=g.keep J
 have h:∀ i∈a,∀ k,(fE a H).get i=some k->k.fz=true:=λi m k hk=>by
  have s:=(z i).1
  rw [hk] at s
  cases o:H.get i with
  | none=>rw [o] at s;cases s
  | some k0 =>
   grind
 cases d with
 | ptr id ver i off =>
  have n:=Cv (λi=>(z i).1) (.ptr id ver i off)
  simp only [LT]
  cases F:fP H (.ptr id ver i off) with
  | none=>exact b
  | some B =>
   cases B with
   | nil=>exact b
   | cons c B =>
    rw [F] at n
    have p:∀ y∈c :: B,∀ q∈kO y,q∈a:=λy l q e=>m q (by simp only [Kz,F,bP,bH];exact .inr ⟨y,bP.1 l,e⟩)
    have r:id∈a:=m id (by simp only [Kz];exact lN ..)
    obtain ⟨O,L,M,C,E,t⟩:=pL A b n aF
    have I:=yB A b λq e k hk=>h q (by simp only [UF,aW] at e;subst e;exact r) k hk
    simp only [BE,n] at I
    cases I with
    | adr ad' xs' ds hl' hone' hcell' hrep' =>
     refine .adr ad' xs' _ (bS hl') hone' hcell' λj u x hu g=>?_
     rw [aH,bL] at g
     obtain ⟨y,l,rfl⟩:=g
     rw [<- oZ (λi=>(z i).1) y]
     exact lT A (hrep' j u y hu l) λq e k hk=>h q (p y (aI l) q e) k hk
 | _=>exact lS G g a m
theorem Q3 {vals:List Value}{args:List D}(hR:Rel M0 H σ w)(ha:RepL (cX M0 H σ) σ H.al w vals args)(ids:List Nat)(hi:∀ i∈args.flatMap (Kz H),i∈ids) :
  RepL (cX M0 (fE ids H) σ) σ (fE ids H).al w vals (args.map (LT H)) :=
 ⟨by simpa using ha.len,λj u d hu hd=>by
  rw [aH,bL] at hd
  obtain ⟨y,hy,rfl⟩:=hd
  exact LS hR (ha.rep j u y hu hy) ids λi hii=>hi i (bH.2 ⟨y,aI hy,hii⟩)⟩
theorem Ld {f:FuncId}{args:List D}{r:D}{Q:D->AHeap->Prop}(c:Pure P f (args.map (LT H)) r)(b:D.clL (args.map (LT H))=true)(g:r.flat=true)(k:Q r H):ACalls P f args H Q:=by
 refine ⟨c.1,λM0 σ w vals hR ha=>?_⟩
 obtain ⟨o,s,q,p⟩:=fH (args.flatMap (Kz H)) hR
 refine (c.2 (cX M0 (fE (args.flatMap (Kz H)) H) σ) w vals (tV o) (gC (λ_ h=>h) (Q3 hR ha _ λi h=>h) b)).mono λe w' ⟨v,j,d,a⟩=>?_
 obtain ⟨n,m,l⟩:=hR.grow a.os a.tape a.output a.size a.block
 exact ⟨v,r,H,σ,j,n,y0 d g,m,l,k⟩
theorem y7 {md:Nat->Bool}{ops:Array Oper}{a:List Oper}{e:dA}{b:Option Tmp}{K:dA->AHeap->Prop}{f:FuncId}{args args':List D}{r:D}(d:Pure P f args' r)(i:args.map (LT H)=args')(c:D.clL args'=true)(g:r.flat=true)
 (h:lM P md ops a (nZ e b r) H K):g5 P md ops a e b K f args H:=by grind [g5, Ld]
end
attribute [go_sem] Kz
end Go.Abs
end
section
namespace Go.Abs
def oY (H:AHeap)(d:D):D :=
 match d with
 | .own id n=>match H.get id with
  | some k=>if k.es.length=n then .list (k.es.map (·.map (eM H))) else .own id n
  | none=>.own id n
 | d=>eM H d
def O9 (H:AHeap)(d:D):List Nat :=
 match d with
 | .own id n=>id :: (match H.get id with|some k=>k.es.flatten.flatMap kO|none=>[])
 | d=>kO d
def kD (H:AHeap):D->D
 | .agg cs=>.agg (cs.map (oY H))
 | d=>oY H d
def M6 (H:AHeap):D->List Nat
 | .agg cs=>cs.flatMap (O9 H)
 | d=>O9 H d
def iV (H:AHeap):D->D
 | .tup vs=>.tup (vs.map (kD H))
 | d=>kD H d
def Jd (H:AHeap):D->List Nat
 | .tup vs=>vs.flatMap (M6 H)
 | d=>M6 H d
section
variable {P:Program} {M0:Nat→Prop} {H:AHeap} {σ:Nat→Option Ow} {w:World}
theorem RepV.list_map {M:Nat->Prop}{N:Nat->Prop}{v:Value}{es:List (List D)}{f:D->D}(h:RepV M σ N w v (.list es))(e:∀ y∈es.flatten,∀ u,RepV M σ N w u y->RepV M σ N w u (f y)) :
  RepV M σ N w v (.list (es.map (·.map f))):=by
 have a:(es.map (·.map f)).flatten=es.flatten.map f:=List.map_flatten.symm
 cases h with
 | listN=>exact .listN
 | list ad cap sz xs es hc hm hsz hl h1 hcell hr =>
  have:=RepV.list (M:=M) (σ:=σ) (N:=N) (w:=w) ad cap sz xs (es.map (·.map f)) (bS hc) hm (λc hc'=>by
   rw [aQ] at hc';obtain ⟨y,b,rfl⟩:=hc';rw [aS];exact hsz y b) (by rw [a,aS];exact hl) h1 hcell (λj u d hu hd=>by
   rw [a,aH,bL] at hd
   obtain ⟨y,b,rfl⟩:=hd
   exact e y (aI b) u (hr j u y hu b))
  grind
theorem Uh {d:D}(h:∀ a b,d≠.own a b):oY H d=eM H d:=by cases d<;>first|rfl|exact absurd rfl (h _ _)
theorem UE {d:D}(h:∀ a b,d≠.own a b):O9 H d=kO d:=by cases d<;>first|rfl|exact absurd rfl (h _ _)
theorem DR {v:Value}{d:D}(B:Rel M0 H σ w)(z:RepV (cX M0 H σ) σ H.al w v d)(c:List Nat)(m:∀ i∈O9 H d,i∈c) :
  RepV (cX M0 (fE c H) σ) σ (fE c H).al w v (oY H d):=by
 obtain ⟨r,C,E,o⟩:=fH c B
 have l:=z.keep C
 have h:∀ i∈c,∀ k,(fE c H).get i=some k->k.fz=true:=λi m k f=>by
  have q:=(o i).1
  rw [f] at q
  cases p:H.get i with
  | none=>rw [p] at q;cases q
  | some k0 =>
   grind
 by_cases s:∀ a b,d≠.own a b
 .rw [Uh s,<- oZ (λi=>(o i).1) d]
  rw [UE s] at m
  exact lT r l λi e k f=>h i (m i e) k f
 .obtain ⟨t,n,rfl⟩:∃ a b,d=.own a b:=by
   grind
  have g:=lT r l λi e k f=>h i (m i (by
   simp only [kO,aW] at e;subst e;simp only [O9];exact lN ..)) k f
  rw [oZ (λi=>(o i).1)] at g
  simp only [oY,eM] at g ⊢
  cases f:H.get t with
  | none=>rw [f] at g;exact g
  | some k =>
   rw [f] at g
   simp only at g ⊢
   split
   .rename_i A
    rw [if_pos A] at g
    refine g.list_map λy x u hu=>?_
    rw [<- oZ (λi=>(o i).1) y]
    exact lT r hu λi e k' hk'=>h i (m i (by
     simp only [O9,f,bP,bH];exact .inr ⟨y,x,e⟩)) k' hk'
   grind
theorem BD {v:Value}{d:D}(c:Rel M0 H σ w)(f:RepV (cX M0 H σ) σ H.al w v d)(a:List Nat)(g:∀ i∈M6 H d,i∈a) :
  RepV (cX M0 (fE a H) σ) σ (fE a H).al w v (kD H d):=by
 cases d with
 | agg cs =>
  obtain ⟨h,m,l,k⟩:=fH a c
  cases f with
  | agg vs ds hl h hr =>
   refine .agg vs _ (bS hl) h λj u x hu hd=>?_
   rw [aH,bL] at hd
   obtain ⟨y,e,rfl⟩:=hd
   exact DR c (hr j u y hu e) a λi b=>g i (by simp only [M6,bH];exact ⟨y,aI e,b⟩)
 | _=>exact DR c f a g
theorem J9 {v:Value}{d:D}(g:Rel M0 H σ w)(e:RepV (cX M0 H σ) σ H.al w v d)(a:List Nat)(f:∀ i∈Jd H d,i∈a) :
  RepV (cX M0 (fE a H) σ) σ (fE a H).al w v (iV H d):=by
 cases d with
 | tup cs =>
  cases e with
  | tup vs ds hl hr =>
   refine .tup vs _ (bS hl) λj u x hu hd=>?_
   rw [aH,bL] at hd
   obtain ⟨y,c,rfl⟩:=hd
   exact BD g (hr j u y hu c) a λi b=>f i (by simp only [Jd,bH];exact ⟨y,aI c,b⟩)
 | _=>exact BD g e a f
theorem ACalls.deep {f:FuncId}{args:List D}{Q:D->AHeap->Prop}(h:ACalls P f args H λd H'=>Q (iV H' d) (fE (Jd H' d) H')):ACalls P f args H Q :=
 ⟨h.1,λM0 σ w vals hR ha=>(h.2 M0 σ w vals hR ha).mono λe w' ⟨v,d,H',σ',he,hR',hv,hst,hk,hq⟩=>by
  obtain ⟨f1,f2,_,_⟩:=fH (Jd H' d) hR'
  exact ⟨v,_,_,σ',he,f1,J9 hR' hv _ λ_ h=>h,hst,hk.trans f2,hq⟩⟩
end
end Go.Abs
end
section
namespace Go.Abs
theorem wa {a b:Prop}(x:a)(y:b):a/\b:=⟨x,y⟩
section
variable {P:Program} {c:Cfg} {a b:Code} {Q:Exit→dA→AHeap→Prop} {e:dA} {H:AHeap}
theorem wq {t:Bool}{A B:Prop}(h1:A->nW P c a Q e H)(h2:B->nW P c b Q e H)
 (k1:t=true->A:=by (intro h;first|(simp [go_sem] at h;exact h)|exact h)) (k2:t=false->B:=by (intro h;first|(simp [go_sem] at h;exact h)|exact h)) :
 w9 P c a b Q e H (.bool t):=aP (λh=>h1 (k1 h)) (λh=>h2 (k2 h))
theorem bV (I:Nat->dA->AHeap->Prop)(μ:Nat->Nat)(x0:Nat)(h0:I x0 e H)
  (hs:∀ J:Nat->dA->AHeap->Prop,(∀ x e H,J x e H↔I x e H)->∀ x e H,I x e H->nW P c b (sO (D4 J μ x) Q) e H):AM P c b Q e H :=
 oR I μ x0 h0 (hs I λ_ _ _=>Iff.rfl)
theorem tX {H':AHeap}(hg:Ghosts H H')(I:Nat->dA->AHeap->Prop)(μ:Nat->Nat)(x0:Nat)(h0:I x0 e H')
  (hs:∀ J:Nat->dA->AHeap->Prop,(∀ x e H,J x e H↔I x e H)->∀ x e H,I x e H->nW P c b (sO (D4 J μ x) Q) e H):AM P c b Q e H :=
 A5 hg I μ x0 h0 (hs I λ_ _ _=>Iff.rfl)
end
section
variable {p q:Prop}
structure Wh (q:Prop):Prop where
 h:q
theorem wv (k:q->p:=by (intro h;first|(simp [go_sem,seval,Y];exact h)|exact h))(h:q):p:=k h
theorem Io (k:q->p:=by (intro h;first|(simp -implicitDefEqProofs [go_sem,seval,Y];exact h)|exact h))(h:q):p:=k h
theorem wo (k:Wh q->p:=by (intro h;(try simp [go_sem,seval,Y]);(repeat first|intro _|refine ⟨gL,?_⟩);exact h.1))(h:q):p:=k ⟨h⟩
theorem wp (k:Wh q->p:=by (intro h;(try simp [go_sem,seval,Y]);(repeat first|intro _|refine ⟨eK,?_⟩);exact h.1))(h:q):p:=k ⟨h⟩
theorem Lh (k:Wh q->p:=by (intro h;(try simp -implicitDefEqProofs [go_sem,seval,Y]);(repeat first|intro _|refine ⟨eK,?_⟩);exact h.1))(h:q):p:=k ⟨h⟩
theorem wl (h:p:=by first|rfl|(simp [go_sem,<- List.map_take,<- List.map_drop,Y];done)):p:=h
theorem wr (h:p:=by simp [EC,BE,fP,go_sem,<- List.map_take,<- List.map_drop,Y]):p:=h
theorem wrq (h:p:=by simp [EC,BE,LT,Kz,fP,go_sem,<- List.map_take,<- List.map_drop,Y]):p:=h
theorem wrd (h:p:=by simp [go_sem,Y]):p:=h
theorem wn (h:p:=by first|omega|(simp [go_sem,seval,Y]<;>omega)):p:=h
theorem wg (h:p:=by and_intros<;>first|omega|(simp [go_sem,seval,Y]<;>omega)):p:=h
theorem wi (h:p:=by first|assumption|omega|(simp [go_sem,Y];done)|(simp_all;done)):p:=h
theorem wj (h:p:=by first|assumption|omega|(simp [go_sem,Y];done)|(simp_all<;>omega)):p:=h
theorem wy (h:p:=by simp [go_sem,Y]<;>first|omega|(rw [aX];simp<;>omega)|(simp_all<;>omega)):p:=h
end
section
variable {P:Program} {c:Cfg} {a b:Code} {Q:Exit→dA→AHeap→Prop} {e:dA} {H:AHeap} {p:Prop}
theorem d7 {t:Bool}{A B:Prop}(h1:A->nW P c a Q e H)(h2:B->nW P c b Q e H)(k:w9 P c a b Q e H (.bool t)->p:=by (intro h;first|(simp [go_sem,seval,Y];exact h)|exact h))
 (k1:t=true->A:=by (intro h;first|(simp [go_sem] at h;exact h)|exact h)) (k2:t=false->B:=by (intro h;first|(simp [go_sem] at h;exact h)|exact h)):p:=k (aP (λh=>h1 (k1 h)) (λh=>h2 (k2 h)))
theorem f9 {t:Bool}{A B:Prop}(h1:A->nW P c a Q e H)(h2:B->nW P c b Q e H)(k:Wh (w9 P c a b Q e H (.bool t))->p:=by (intro h;(try simp [go_sem,seval,Y]);(repeat first|intro _|refine ⟨gL,?_⟩);exact h.1))
 (k1:t=true->A:=by (intro h;first|(simp [go_sem] at h;exact h)|exact h)) (k2:t=false->B:=by (intro h;first|(simp [go_sem] at h;exact h)|exact h)):p:=k ⟨aP (λh=>h1 (k1 h)) (λh=>h2 (k2 h))⟩
theorem vJ {t:Bool}{A B:Prop}(h1:A->nW P c a Q e H)(h2:B->nW P c b Q e H)(k:Wh (w9 P c a b Q e H (.bool t))->p:=by (intro h;(try simp [go_sem,seval,Y]);(repeat first|intro _|refine ⟨eK,?_⟩);exact h.1))
 (k1:t=true->A:=by (intro h;first|(simp [go_sem] at h;exact h)|exact h)) (k2:t=false->B:=by (intro h;first|(simp [go_sem] at h;exact h)|exact h)):p:=k ⟨aP (λh=>h1 (k1 h)) (λh=>h2 (k2 h))⟩
theorem wx {I J:Nat->dA->AHeap->Prop}{m:Nat->Nat}{x:Nat}(hJ:∀ x e H,J x e H↔I x e H)(x':Nat)(hI:I x' e H)(hm:m x'<m x:=by omega):D4 J m x e H:=dN x' hm ((hJ _ _ _).2 hI)
end
end Go.Abs
end
