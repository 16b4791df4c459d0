/- The abstraction layer, part W: the rows that walk a region w -/
import Derived.Test.YthlnbehgghjppaaGreatZrAE
import Derived.Sort.OwnSortedInts
set_option linter.unusedVariables false
set_option linter.unusedSimpArgs false
section
namespace Go.Abs
def mR (P:Program)(md:Nat->Bool)(ops:Array Oper)(sp:List (Nat × Nat))(n0 i:Nat)(rest:List Oper)(acc:List (Nat × List Nat))(e:d7)(dst:Option Tmp)(K:d7->AHeap->Prop)(f:FuncId)(args:Xa2)(H:AHeap):Prop :=
 (∃ r S,(∀ H',gH S H' H->ACalls P f args H' λv H1=>v=r/\H1=H')/\BH sp i S acc/\j5 P md ops sp n0 (i+1) rest ((i,S) :: acc) (pE e dst r) H K) \/
 (CJ md dst=true/\∃ r S u q,(∀ p∈u,p.1∈S)/\(∀ p∈q,p.1<n0/\¬ H.H p.1)/\(∀ H',gH S H' H->(∀ p∈q,p.1<H'.next/\¬ H'.H p.1)->ACalls P f args H' λv H1=>v=r/\H1=(H'.U u).af q) /\
  BH sp i (S++q.map (·.1)) acc/\j5 P md ops sp n0 (i+1) rest ((i,S++q.map (·.1)) :: acc) (pE e dst r) ((H.U u).af q) K)
def vU (P:Program)(md:Nat->Bool)(ops:Array Oper)(sp:List (Nat × Nat))(n0 i:Nat)(rest:List Oper)(acc:List (Nat × List Nat))(e:d7)(dst:Option Tmp)(K:d7->AHeap->Prop)(t:Bool)(f:FuncId)(args:Xa2)(H:AHeap):Prop :=
 ∃ r S,(t=true->∀ H',gH S H' H->ACalls P f args H' λv H1=>v=r/\H1=H')/\BH sp i S acc/\j5 P md ops sp n0 (i+1) rest ((i,S) :: acc) (pE e dst (.opt t r)) H K
def Li (nid:Nat)(e:d7)(o:Oper):List Nat:=foot nid (match o.guard with|none=>e|some _=>gE e o.op) o.op
def uO (P:Program)(md:Nat->Bool)(ops:Array Oper)(sp:List (Nat × Nat))(n0 i:Nat)(rest:List Oper)(acc:List (Nat × List Nat))(e:d7)(dst:Option Tmp)(H:AHeap)(K:d7->AHeap->Prop)(F:List Nat):SOut->Prop
 | .op o=>o.cond/\BH sp i F acc/\j5 P md ops sp n0 (i+1) rest ((i,F) :: acc) (pE e dst o.val) o.heap K
 | .call f args=>mR P md ops sp n0 i rest acc e dst K f args H
 | .gop t g o=>(t=true->g=true)/\(t=true->o.cond/\o.heap=H)/\BH sp i F acc/\j5 P md ops sp n0 (i+1) rest ((i,F) :: acc) (pE e dst (.opt t o.val)) H K
 | .gcall t g f args=>(t=true->g=true)/\vU P md ops sp n0 i rest acc e dst K t f args H
 | .bad=>False
theorem RI (P:Program)(md:Nat->Bool)(ops:Array Oper)(q:List (Nat × Nat))(n i:Nat)(o:Oper)(k:List Oper)(m:List (Nat × List Nat))(e:d7)(H:AHeap)(K:d7->AHeap->Prop) :
  j5 P md ops q n i (o :: k) m e H K=uO P md ops q n i k m e o.dst H K (Li (n+i) e o) (oH P md (n+i) ops e o H):=by
 obtain ⟨dst,op,type,pos,after,guard⟩:=o;cases guard with
 | none =>
  simp only [j5,qZ,oH,Li];cases s:iO e { dst:=dst,op:=op,type:=type,pos:=pos,after:=after,guard:=none } with
  | none=>simp [L7,uO]
  | some p=>simp [L7,uO,mR]
 | some p =>
  obtain ⟨j,b⟩:=p;simp only [j5,qZ,oH,Li];cases u:gD ops e j with
  | none=>simp [Jv,uO]
  | some gc =>
   obtain ⟨t,v⟩:=gc;cases s:iO (gE e op) { dst:=dst,op:=op,type:=type,pos:=pos,after:=after,guard:=some (j,b) } with
   | none=>simp [Jv,uO]
   | some p=>simp [Jv,uO,vU]
@[go_sem] theorem Zx (P:Program)(md:Nat->Bool)(ops:Array Oper)(sp:List (Nat × Nat))(n0 i:Nat)(acc:List (Nat × List Nat))(e:d7)(H:AHeap)(K:d7->AHeap->Prop):j5 P md ops sp n0 i [] acc e H K=K e H:=rfl
section
variable (P:Program) (md:Nat→Bool) (ops:Array Oper) (sp:List (Nat × Nat)) (n0 i:Nat) (rest:List Oper) (acc:List (Nat × List Nat)) (e:d7) (dst:Option Tmp) (H H':AHeap) (K:d7→AHeap→Prop) (F:List Nat) (c f:Prop) (v:D) (t g:Bool) (fn:FuncId) (args:Xa2)
@[go_sem] theorem aaG:uO P md ops sp n0 i rest acc e dst H K F (.op ⟨c,f,v,H'⟩)=(c/\BH sp i F acc/\j5 P md ops sp n0 (i+1) rest ((i,F) :: acc) (pE e dst v) H' K):=rfl
@[go_sem] theorem XK:uO P md ops sp n0 i rest acc e dst H K F (.call fn args)=mR P md ops sp n0 i rest acc e dst K fn args H:=rfl
@[go_sem] theorem Zh:uO P md ops sp n0 i rest acc e dst H K F (.gop t g ⟨c,f,v,H'⟩) =
 ((t=true->g=true)/\(t=true->c/\H'=H)/\BH sp i F acc/\j5 P md ops sp n0 (i+1) rest ((i,F) :: acc) (pE e dst (.opt t v)) H K):=rfl
@[go_sem] theorem W5:uO P md ops sp n0 i rest acc e dst H K F (.gcall t g fn args)=((t=true->g=true)/\vU P md ops sp n0 i rest acc e dst K t fn args H):=rfl
@[go_sem] theorem XZ (d:Option Tmp)(op:Op)(ty:TypeId)(p:String)(af:Array Edge)(gu:Option (Nat × Bool)) :
 j5 P md ops sp n0 i (⟨d,op,ty,p,af,gu⟩ :: rest) acc e H K=uO P md ops sp n0 i rest acc e d H K (Li (n0+i) e ⟨d,op,ty,p,af,gu⟩) (oH P md (n0+i) ops e ⟨d,op,ty,p,af,gu⟩ H):=RI P md ops sp n0 i _ rest acc e H K
@[go_sem] theorem afE:BH [] i F acc=True:=rfl
end
@[go_sem] theorem adG (p:Nat × Nat)(sp:List (Nat × Nat))(i:Nat)(F:List Nat)(acc:List (Nat × List Nat)):BH (p :: sp) i F acc = ∀ q∈acc,(q.1,i)∈(p :: sp)->∀ x∈q.2,x∉F:=rfl
@[go_sem] theorem Y8 (nid:Nat)(e:d7)(d:Option Tmp)(op:Op)(ty:TypeId)(p:String)(af:Array Edge):Li nid e ⟨d,op,ty,p,af,none⟩=foot nid e op:=rfl
@[go_sem] theorem Y7 (nid:Nat)(e:d7)(d:Option Tmp)(op:Op)(ty:TypeId)(p:String)(af:Array Edge)(g:Nat × Bool):Li nid e ⟨d,op,ty,p,af,some g⟩=foot nid (gE e op) op:=rfl
attribute [go_sem] foot H8 sJ Op.operands Call.operands
@[go_sem] theorem YU (k:IntKind)(n:Int):eK (.int k n)=[]:=rfl
@[go_sem] theorem XH (b:Bool):eK (.bool b)=[]:=rfl
@[go_sem] theorem YP (b:ByteArray):eK (.str b)=[]:=rfl
@[go_sem] theorem YT:eK .nil=[]:=rfl
@[go_sem] theorem XF (es:Xa1):eK (.list es)=[]:=rfl
@[go_sem] theorem YW (es:Xa2):eK (.adr es)=[]:=rfl
@[go_sem] theorem XD:eK .nilp=[]:=rfl
@[go_sem] theorem XE:eK .nilf=[]:=rfl
@[go_sem] theorem Z3 (f:FuncId)(l:Xa2):eK (.fn f l)=[]:=rfl
@[go_sem] theorem YR (id n:Nat):eK (.own id n)=[id]:=rfl
@[go_sem] theorem YN (id n lo hi:Nat):eK (.win id n lo hi)=[id]:=rfl
@[go_sem] theorem YQ (id v i o:Nat):eK (.ptr id v i o)=[id]:=rfl
@[go_sem] theorem YV (l:Xa2):eK (.agg l)=l.flatMap lR:=rfl
@[go_sem] theorem YS (t:Bool)(d:D):eK (.opt t d)=[]:=rfl
@[go_sem] theorem XG:eK .junk=[]:=rfl
@[go_sem] theorem YO (l:Xa2):eK (.tup l)=[]:=rfl
/-! ### guards -/
def gV:D->Option (Bool × Bool)
 | .bool c=>some (true,c)
 | .opt g (.bool c)=>some (g,c)
 | _=>none
def gT (e:d7):Option Tmp->Option (Bool × Bool)
 | some t=>gV (e t)
 | none=>none
@[go_sem] theorem ae8 (e:d7)(t:Nat):gT e (some t)=gV (e t):=rfl
@[go_sem] theorem ae7 (c:Bool):gV (.bool c)=some (true,c):=rfl
@[go_sem] theorem agT (g c:Bool):gV (.opt g (.bool c))=some (g,c):=rfl
section
variable (P:Program) (md:Nat→Bool) (nid:Nat) (ops:Array Oper) (e:d7) (d:Option Tmp) (op:Op) (ty:TypeId) (p:String) (af:Array Edge) (H:AHeap) (j:Nat) (b:Bool)
@[go_sem] theorem Yc:oH P md nid ops e ⟨d,op,ty,p,af,some (j,b)⟩ H =
 Jv (gD ops e j) b (Ua e (gO op)) (iO (gE e op) ⟨d,op,ty,p,af,none⟩) (GC P nid md (gE e op) ⟨d,op,ty,p,af,none⟩ H):=rfl
@[go_sem] theorem agU (l:List Oper):gD l.toArray e j=gT e ((l[j]?).bind (·.dst)):=by grind [gD, gT, gV]
end
@[go_sem] theorem ZF (t c b g:Bool)(f:FuncId)(args:Xa2)(o:AOut):Jv (some (t,c)) b g (some (f,args)) o=.gcall (t&&(c==b)) g f args:=rfl
@[go_sem] theorem ad4 (t c b g:Bool)(o:AOut):Jv (some (t,c)) b g none o=.gop (t&&(c==b)) g o:=rfl
attribute [go_sem] gE gO Operand.tmp.injEq Ua og iO GC Option.bind_some eE p6 iL Bool.and_true beq_false beq_true beq_self_eq_true
 cZ Bool.and_self Jk Bool.not_false
@[go_sem] theorem ZC (e:d7)(d:Option Tmp)(v:D)(t:Nat):Fh (pE e d v) t=match pE e d v t with | .opt _ d=>d|d=>d:=rfl
@[go_sem] theorem X9 (l:Xa2)(t:Nat):Fh (DM l) t=match DM l t with | .opt _ d=>d|d=>d:=rfl
section
variable {P:Program} {md:Nat→Bool} {ops:Array Oper} {sp:List (Nat × Nat)} {n0 i:Nat} {rest:List Oper} {acc:List (Nat × List Nat)} {e:d7} {dst:Option Tmp} {K:d7→AHeap→Prop} {f:FuncId} {args args':Xa2} {H:AHeap} {r:D}
theorem LC:BH sp i [] acc:=by
 unfold BH;grind
theorem aI (hp:Pure P f args r)(hcl:D.N args=true)(h:j5 P md ops sp n0 (i+1) rest ((i,[]) :: acc) (pE e dst r) H K):mR P md ops sp n0 i rest acc e dst K f args H :=
 .inl ⟨r,[],λH' _=>tO hp hcl ⟨rfl,rfl⟩,LC,h⟩
theorem fX {t:Bool}(hp:t=true->Pure P f args r)(hcl:t=true->D.N args=true)(h:j5 P md ops sp n0 (i+1) rest ((i,[]) :: acc) (pE e dst (.opt t r)) H K):vU P md ops sp n0 i rest acc e dst K t f args H :=
 ⟨r,[],λht H' _=>tO (hp ht) (hcl ht) ⟨rfl,rfl⟩,LC,h⟩
theorem aG {t:Bool}(b:t=true->Pure P f args r)(a:t=true->D.N args=true)(h:oO P md ops rest (pE e dst (.opt t r)) H K):AS P md ops rest e dst K t f args H:=by
 unfold AS;exact .inl ⟨r,[],λht H' _=>tO (b ht) (a ht) ⟨rfl,rfl⟩,h⟩
theorem yU {S:List Nat}{H':AHeap}(c:gH S H' H){d:D}(b:∀ x∈lR d,x∈S):fN H' d=fN H d:=by
 cases d<;>try rfl
 .rename_i a n;have:=c a (b a (by simp [lR]));simp only [fN,this]
 .rename_i a n e f;have:=c a (b a (by simp [lR]));simp only [fN,this]
theorem Hn {S:List Nat}{H':AHeap}(b:gH S H' H){d:D}(a:∀ x∈dQ d,x∈S):iS H' d=iS H d:=by
 cases d<;>try rfl
 case own id n=>exact yU (d:=.own id n) b a
 case win id n lo hi=>exact yU (d:=.win id n lo hi) b a
 case agg l =>
  simp only [iS];congr 1;exact cE λx e=>yU b λy c=>a y (by simp only [dQ,cD];exact ⟨x,e,c⟩)
theorem zC {S:List Nat}{H':AHeap}(ha:gH S H' H){l:Xa2}(hd:∀ x∈l.flatMap dQ,x∈S):l.map (iS H')=l.map (iS H) :=
 cE λd hm=>Hn ha λx hx=>hd x (cD.2 ⟨d,hm,hx⟩)
theorem J4 {t:Bool}(c:t=true->Pure P f args' r)(j:args.map (iS H)=args')(a:t=true->D.N args'=true)(d:t=true->r.az=true){S:List Nat}(k:args.flatMap dQ=S)(g:BH sp i S acc)
  (h:j5 P md ops sp n0 (i+1) rest ((i,S) :: acc) (pE e dst (.opt t r)) H K):vU P md ops sp n0 i rest acc e dst K t f args H:=by
 subst j k;refine ⟨r,_,λht H' hag=>?_,g,h⟩;have b:=zC hag λx hx=>hx;exact zG (by rw [b];exact c ht) (by rw [b];exact a ht) (d ht) ⟨rfl,rfl⟩
theorem MT {t:Bool}(c:t=true->Pure P f args' r)(g:args.map (iS H)=args')(a:t=true->D.N args'=true)(d:t=true->r.az=true)
  (h:oO P md ops rest (pE e dst (.opt t r)) H K):AS P md ops rest e dst K t f args H:=by
 subst g;unfold AS;refine .inl ⟨r,args.flatMap dQ,λht H' hag=>?_,h⟩;have b:=zC hag λx hx=>hx;exact zG (by rw [b];exact c ht) (by rw [b];exact a ht) (d ht) ⟨rfl,rfl⟩
end
/-! ### calls of function values -/
def SF:D->Xa2->Option (FuncId × Xa2)
 | .fn g caps,az=>some (g,az++caps)
 | _,_=>none
@[go_sem] theorem adH (g:FuncId)(caps az:Xa2):SF (.fn g caps) az=some (g,az++caps):=rfl
theorem Ry (e:d7)(d:Option Tmp)(f:Operand)(args:Array Operand)(ts:Array TypeId)(ty:TypeId)(p:String)(a:Array Edge)(g:Option (Nat × Bool)) :
  iO e ⟨d,.call ⟨.value f,args,ts⟩,ty,p,a,g⟩=SF (fG e f) (args.toList.map (fG e)):=by grind [iO, SF]
@[go_sem] theorem ad8 (P:Program)(md:Nat->Bool)(nid:Nat)(ops:Array Oper)(e:d7)(d:Option Tmp)(ty:TypeId)(p:String)(a:Array Edge)(H:AHeap)(t:Nat)(args:Array Operand)(ts:Array TypeId) :
  oH P md nid ops e ⟨d,.call ⟨.value (.tmp t),args,ts⟩,ty,p,a,none⟩ H=L7 (SF (e t) (args.toList.map (fG e))) (.bad H):=by
 simp only [oH,Ry];rfl
attribute [go_sem] decide_eq_true_eq dS dP
attribute [irreducible] mR vU
end Go.Abs
end
section
namespace Go.Abs
attribute [go_sem] D.cell D.W D.N D.V D.az D.cg uB sX u0 List.take_zero List.drop_succ_cons List.drop_zero p5 List.replicate_zero eQ List.flatten_nil
def dI (n:Int):D:=.int .i64 n
def cI (n:Int):Xa2:=[.int .i64 n]
def cS (s:ByteArray):Xa2:=[.str s]
def dLI (xs:Xa0):D:=.list (xs.map cI)
def uZ (xs:List ByteArray):D:=.list (xs.map cS)
structure Attr where
 name:ByteArray
 ax:Int
 ay:Int
 ah:List ByteArray
def Attr.c (a:Attr):Xa2:=[.str a.name,dI a.ax,dI a.ay,uZ a.ah]
structure NodeTy where
 name:ByteArray
 G:Int
 d2:Bool
 y:List Attr
def NodeTy.c (n:NodeTy):Xa2:=[.str n.name,dI n.G,.bool n.d2,.list (n.y.map Attr.c)]
structure EdgeTy where
 name:ByteArray
 B:Int
 O:Int
 b3:Int
 bw:Int
 cv:Int
 cb:Int
def EdgeTy.c (x:EdgeTy):Xa2:=[.str x.name,dI x.B,dI x.O,dI x.b3,dI x.bw,dI x.cv,dI x.cb]
structure Types where
 h:List NodeTy
 i:List EdgeTy
def Types.c (t:Types):Xa2:=[.list (t.h.map NodeTy.c),.list (t.i.map EdgeTy.c)]
def Types.d (t:Types):D:=.agg t.c
structure Edge where
 type:Int
 B:Int
 O:Int
def Edge.c (x:Edge):Xa2:=[dI x.type,dI x.B,dI x.O]
structure Graph where
 h:Xa0
 i:List Edge
def Graph.c (g:Graph):Xa2:=[dLI g.h,.list (g.i.map Edge.c)]
def Graph.d (g:Graph):D:=.agg g.c
/-! ### closed -/
theorem dU {α:Type}(f:α->Xa2)(h:∀ a,D.N (f a)=true)(l:List α):D.V (l.map f)=true:=by
 induction l with
 | nil=>rfl
 | cons a l ih=>simp [D.V,h,ih]
@[go_sem] theorem qU (l:Xa0):(dLI l).W=true:=by simp only [dLI,D.W];exact dU _ (λ_=>rfl) l
@[go_sem] theorem Vq (l:List ByteArray):(uZ l).W=true:=by simp only [uZ,D.W];exact dU _ (λ_=>rfl) l
@[go_sem] theorem Attr.W (a:Attr):D.N a.c=true:=by simp [Attr.c,D.N,D.W,dI,Vq]
@[go_sem] theorem NodeTy.W (n:NodeTy):D.N n.c=true:=by simp [NodeTy.c,D.N,D.W,dI,dU _ Attr.W]
@[go_sem] theorem EdgeTy.W (x:EdgeTy):D.N x.c=true:=by simp [EdgeTy.c,D.N,D.W,dI]
@[go_sem] theorem Types.W (t:Types):t.d.W=true:=by simp [Types.d,Types.c,D.N,D.W,dU _ NodeTy.W,dU _ EdgeTy.W]
@[go_sem] theorem Edge.W (x:Edge):D.N x.c=true:=by simp [Edge.c,D.N,D.W,dI]
@[go_sem] theorem Graph.W (g:Graph):g.d.W=true:=by simp [Graph.d,Graph.c,D.N,D.W,qU,dU _ Edge.W]
@[go_sem] theorem aaT (a b:D)(l:Xa2):G2 (a :: b :: l)=.tup (a :: b :: l):=rfl
end Go.Abs
end
section
namespace Go.Abs
structure Term where
 R:Int
 add:Int
def Term.c (x:Term):Xa2:=[dI x.R,dI x.add]
structure Slot where
 node:Int
 P:Int
 C:Term
def Slot.c (x:Slot):Xa2:=[dI x.node,dI x.P,dI x.C.R,dI x.C.add]
structure Test where
 F:Int
 left:Term
 right:Term
def Test.c (x:Test):Xa2:=[dI x.F,dI x.left.R,dI x.left.add,dI x.right.R,dI x.right.add]
structure Pattern where
 j:Graph
 q:List Slot
 vars:Int
 I:List Test
def Pattern.c (p:Pattern):Xa2:=[dLI p.j.h,.list (p.j.i.map Edge.c),.list (p.q.map Slot.c),dI p.vars,.list (p.I.map Test.c)]
def Pattern.d (p:Pattern):D:=.agg p.c
structure Part where
 h:Xa0
 i:Xa0
def Part.c (p:Part):Xa2:=[dLI p.h,dLI p.i]
def Part.d (p:Part):D:=.agg p.c
inductive Cond where
 | mk (kind:Int) (kids:List Cond) (map:Part) (pattern:Pattern)
def Cond.F:Cond->Int | .mk k _ _ _=>k
def Cond.w:Cond->List Cond | .mk _ l _ _=>l
def Cond.map:Cond->Part | .mk _ _ m _=>m
def Cond.n:Cond->Pattern | .mk _ _ _ p=>p
mutual
def Cond.c:Cond->Xa2
 | .mk k l m p=>[dI k,.list (Cond.cs l),dLI m.h,dLI m.i,dLI p.j.h,.list (p.j.i.map Edge.c),.list (p.q.map Slot.c),dI p.vars,.list (p.I.map Test.c)]
def Cond.cs:List Cond->Xa1
 | []=>[]
 | c :: l=>c.c :: Cond.cs l
end
theorem Cond.bv (l:List Cond):Cond.cs l=l.map Cond.c:=by
 induction l with
 | nil=>simp [Cond.cs]
 | cons a l ih=>simp [Cond.cs,ih]
theorem Cond.E (x:Cond):x.c=[dI x.F,.list (x.w.map Cond.c),dLI x.map.h,dLI x.map.i,dLI x.n.j.h,.list (x.n.j.i.map Edge.c),.list (x.n.q.map Slot.c),dI x.n.vars,.list (x.n.I.map Test.c)]:=by
 cases x;simp [Cond.c,Cond.F,Cond.w,Cond.map,Cond.n,Cond.bv]
structure Rule where
 name:ByteArray
 left:Pattern
 right:Pattern
 u:Part
 A:Part
 inj:Bool
 cond:Cond
def Rule.c (r:Rule):Xa2:=[.str r.name,dLI r.left.j.h,.list (r.left.j.i.map Edge.c),.list (r.left.q.map Slot.c),dI r.left.vars,.list (r.left.I.map Test.c),
 dLI r.right.j.h,.list (r.right.j.i.map Edge.c),.list (r.right.q.map Slot.c),dI r.right.vars,.list (r.right.I.map Test.c),
 dLI r.u.h,dLI r.u.i,dLI r.A.h,dLI r.A.i,.bool r.inj,
 dI r.cond.F,.list (r.cond.w.map Cond.c),dLI r.cond.map.h,dLI r.cond.map.i,dLI r.cond.n.j.h,.list (r.cond.n.j.i.map Edge.c),.list (r.cond.n.q.map Slot.c),dI r.cond.n.vars,.list (r.cond.n.I.map Test.c)]
def Rule.d (r:Rule):D:=.agg r.c
structure Stage where
 ew:Xa0
 ez:Xa0
def Stage.c (s:Stage):Xa2:=[dLI s.ew,dLI s.ez]
@[go_sem] theorem Slot.W (x:Slot):D.N x.c=true:=rfl
@[go_sem] theorem Test.W (x:Test):D.N x.c=true:=rfl
@[go_sem] theorem Hb (l:List Slot):D.V (l.map Slot.c)=true:=dU _ Slot.W l
@[go_sem] theorem NK (l:List Test):D.V (l.map Test.c)=true:=dU _ Test.W l
@[go_sem] theorem Stage.W (x:Stage):D.N x.c=true:=by simp [Stage.c,D.N,qU]
@[go_sem] theorem ZD (l:List Stage):D.V (l.map Stage.c)=true:=dU _ Stage.W l
theorem pT (l:List Edge):D.V (l.map Edge.c)=true:=dU _ Edge.W l
mutual
theorem Cond.W:∀ x:Cond,D.N x.c=true
 | .mk k l m p=>by
  have:=Cond.cV l;simp [Cond.c,D.N,D.W,dI,qU,this,pT,Hb,NK]
theorem Cond.cV:∀ l:List Cond,D.V (Cond.cs l)=true
 | []=>by simp [Cond.cs,D.V]
 | c :: l=>by simp [Cond.cs,D.V,Cond.W c,Cond.cV l]
end
attribute [go_sem] Cond.W
@[go_sem] theorem Vr (l:List Cond):D.V (l.map Cond.c)=true:=by rw [<- Cond.bv];exact Cond.cV l
@[go_sem] theorem Rule.W (r:Rule):D.N r.c=true:=by
 simp [Rule.c,D.N,D.W,dI,qU,pT,Hb,NK,Vr]
@[go_sem] theorem aaZ (l:List Rule):D.V (l.map Rule.c)=true:=dU _ Rule.W l
end Go.Abs
end
section
namespace Go.Abs
def C1 (H:AHeap)(d:D):D :=
 match d with
 | .ptr id ver i off=>match fT H (.ptr id ver i off) with
  | some (c :: cs)=>.adr (c :: cs)
  | _=>.ptr id ver i off
 | d=>fN H d
def WU:D->List Nat
 | .ptr id _ _ _=>[id]
 | d=>lR d
def JD (H:AHeap)(d:D):D :=
 match d with
 | .fn g caps=>.fn g (caps.map (C1 H))
 | .ptr id ver i off=>C1 H (.ptr id ver i off)
 | d=>iS H d
def U5:D->List Nat
 | .fn _ caps=>caps.flatMap WU
 | .ptr id _ _ _=>[id]
 | d=>dQ d
section
variable {P:Program} {M0:Nat→Prop} {H:AHeap} {σ:Nat→Option Ow} {w:World}
theorem D0 {H H':AHeap}(h:∀ i,(H'.get i).map (·.T)=(H.get i).map (·.T))(d:D):fT H' d=fT H d:=by
 cases d<;>try rfl
 rename_i c a i b;simp only [fT];grind
theorem Al {v:Value}{d:D}(s:Rel M0 H σ w)(m:RepV (dD M0 H σ) σ H.H w v d)(G:∀ i∈WU d,∀ k,H.get i=some k->k.fz=true) :
  RepV (dD M0 H σ) σ H.H w v (C1 H d):=by
 cases d<;>try exact nW s m G
 rename_i g ver i t;simp only [C1];cases B:fT H (.ptr g ver i t) with
 | none=>exact m
 | some I =>
  cases I with
  | nil=>exact m
  | cons c I =>
   obtain ⟨J,K,M,a,Q,e⟩:=r5 s m B eG;subst M;have A:¬ dD M0 H σ J.block:=by
    cases q:H.get g with
    | none=>simp [fT,q] at B
    | some k =>
     obtain ⟨o,z,l⟩:=s.ak g k q;have F:k.T.length=ver:=by
      simp only [fT,q] at B;grind
     cases m
     rename_i S P h;rcases h o z with T|⟨_,b,n,x⟩
     .have:=l.ai;omega
     .cases x
      rintro (N|⟨E,R,L,p,r,y,C⟩)
      .exact (s.lt g o b z n).2 N
      .have O:=s.inj E g L o b y z C n;subst O;rw [q] at p;cases p
       rw [G E (by simp [WU]) k q] at r;cases r
   exact .adr J K _ a.len Q (λj u hu=>⟨A,e j u hu⟩) a.ad
theorem NV {v:Value}{d:D}(p:Rel M0 H σ w)(e:RepV (dD M0 H σ) σ H.H w v d)(a:List Nat)(h:∀ i∈U5 d,i∈a) :
  RepV (dD M0 (fJ a H) σ) σ (fJ a H).H w v (JD H d):=by
 obtain ⟨q,B,C,n⟩:=fW a p;have c:=e.u B;have f:∀ i∈a,∀ k,(fJ a H).get i=some k->k.fz=true:=λi h k hk=>by
  have m:=(n i).1;rw [hk] at m;cases l:H.get i with
  | none=>rw [l] at m;cases m
  | some k0 =>
   grind
 have b:∀ d,C1 (fJ a H) d=C1 H d:=λd=>by
  have z:=rG (λi=>(n i).1) d;cases d with
  | ptr id ver i off=>simp only [C1,D0 (λi=>(n i).1)]
  | _=>exact z
 cases d with
 | fn g caps =>
  cases c
  rename_i r A t;refine .fn g r _ (eL A) λj u x hu e=>?_;rw [aP,bN] at e;obtain ⟨y,s,rfl⟩:=e;rw [<- b y];refine Al q (t j u y hu s) λi hii k hk=>f i (h i ?_) k hk;simp only [U5,cD];grind
 | ptr id ver i off =>
  simp only [JD];rw [<- b];exact Al q c λi hii k hk=>f i (h i hii) k hk
 | _=>exact nU p e a h
theorem Td {vals:List Value}{args:Xa2}(hR:Rel M0 H σ w)(ha:RepL (dD M0 H σ) σ H.H w vals args)(ids:List Nat)(hi:∀ i∈args.flatMap U5,i∈ids) :
  RepL (dD M0 (fJ ids H) σ) σ (fJ ids H).H w vals (args.map (JD H)) :=
 ⟨by simpa using ha.len,λj u d hu hd=>by
  rw [aP,bN] at hd;obtain ⟨y,hy,rfl⟩:=hd;exact NV hR (ha.ad j u y hu hy) ids λi hii=>hi i (cD.2 ⟨y,aM hy,hii⟩)⟩
theorem Nt {f:FuncId}{args:Xa2}{r:D}{Q:D->AHeap->Prop}(c:Pure P f (args.map (JD H)) r)(b:D.N (args.map (JD H))=true)(g:r.az=true)(k:Q r H):ACalls P f args H Q:=by
 refine ⟨c.1,λM0 σ w vals hR ha=>?_⟩;obtain ⟨o,s,q,p⟩:=fW (args.flatMap U5) hR;refine (c.2 (dD M0 (fJ (args.flatMap U5) H) σ) w vals (sR o) (dR (λ_ h=>h) (Td hR ha _ λi h=>h) b)).mono λe w' ⟨v,j,d,a⟩=>?_;obtain ⟨n,m,l⟩:=hR.grow a.os a.tape a.output a.size a.block;exact ⟨v,r,H,σ,j,n,AU d g,m,l,k⟩
theorem sN {md:Nat->Bool}{ops:Array Oper}{a:List Oper}{e:d7}{b:Option Tmp}{K:d7->AHeap->Prop}{f:FuncId}{args args':Xa2}{r:D}(d:Pure P f args' r)(i:args.map (JD H)=args')(c:D.N args'=true)(g:r.az=true)
 (h:oO P md ops a (pE e b r) H K):e8 P md ops a e b K f args H:=by grind [e8, Nt]
end
theorem Own.pure {P:Program}{f:FuncId}{args:Xa2}{ty:TypeId}{sz:Nat}{es:Xa1}(h:Own P f args ty sz es):Pure P f args (.list es):=by
 refine ⟨h.1,λM w vals hM ha=>(h.2 M w vals hM ha).mono λe w' ⟨v,z,C,k,F,m,x,s,E⟩=>⟨v,C,?_,E⟩⟩;have o:D.N es.flatten=true:=sO λd hd=>by
  obtain ⟨c,l,q⟩:=eR.1 hd;exact gM (lV x c l) d q
 have a:RepL M g8 sD w' z es.flatten:=dR (λb h h'=>h (.inl h')) m o;rcases k.2 with ⟨n,G⟩|⟨g,y,H,i,I,p,t,l,B,r⟩
 .rw [n,bQ G];exact .listN
 .rw [i];refine .list ⟨g,0,none⟩ y sz z es t l s a.len F (λj u hu=>⟨λhm=>?_,k.cells (g:=g) (by simp [i,Value.ownBlock]) j u hu⟩) a.ad;grind
end Go.Abs
end
section
namespace Go.Abs
def QU:D->D
 | .nil=>.list []
 | d=>d
def V0:D->D
 | .agg cs=>.agg (cs.map QU)
 | d=>QU d
def Ub:D->D
 | .tup vs=>.tup (vs.map V0)
 | d=>V0 d
@[go_sem] theorem aeU (k:IntKind)(n:Int):QU (.int k n)=.int k n:=rfl
@[go_sem] theorem acD (b:Bool):QU (.bool b)=.bool b:=rfl
@[go_sem] theorem aeS (b:ByteArray):QU (.str b)=.str b:=rfl
@[go_sem] theorem acC (l:Xa1):QU (.list l)=.list l:=rfl
@[go_sem] theorem aeT:QU .nil=.list []:=rfl
@[go_sem] theorem aeQ (k:IntKind)(n:Int):V0 (.int k n)=.int k n:=rfl
@[go_sem] theorem acB (b:Bool):V0 (.bool b)=.bool b:=rfl
@[go_sem] theorem aeO (b:ByteArray):V0 (.str b)=.str b:=rfl
@[go_sem] theorem acA (l:Xa1):V0 (.list l)=.list l:=rfl
@[go_sem] theorem aeP:V0 .nil=.list []:=rfl
@[go_sem] theorem aeR (l:Xa2):V0 (.agg l)=.agg (l.map QU):=rfl
@[go_sem] theorem aeM (k:IntKind)(n:Int):Ub (.int k n)=.int k n:=rfl
@[go_sem] theorem ab9 (b:Bool):Ub (.bool b)=.bool b:=rfl
@[go_sem] theorem aeK (b:ByteArray):Ub (.str b)=.str b:=rfl
@[go_sem] theorem ab8 (l:Xa1):Ub (.list l)=.list l:=rfl
@[go_sem] theorem aeL:Ub .nil=.list []:=rfl
@[go_sem] theorem aeN (l:Xa2):Ub (.agg l)=.agg (l.map QU):=rfl
@[go_sem] theorem aeJ (l:Xa2):Ub (.tup l)=.tup (l.map V0):=rfl
theorem MC {M:Nat->Prop}{σ:Nat->Option Ow}{N:Nat->Prop}{w:World}{v:Value}{d:D}(h:RepV M σ N w v d):RepV M σ N w v (QU d):=by
 cases d<;>try exact h
 cases h
 exact .listN
theorem Sa {M:Nat->Prop}{σ:Nat->Option Ow}{N:Nat->Prop}{w:World}{v:Value}{d:D}(h:RepV M σ N w v d):RepV M σ N w v (V0 d):=by
 cases d<;>try exact MC h
 cases h
 rename_i a f e c;refine .agg a _ (eL e) f λj u d hu hd=>?_;rw [aP,bN] at hd;obtain ⟨y,b,rfl⟩:=hd;exact MC (c j u y hu b)
theorem WD {M:Nat->Prop}{σ:Nat->Option Ow}{N:Nat->Prop}{w:World}{v:Value}{d:D}(h:RepV M σ N w v d):RepV M σ N w v (Ub d):=by
 cases d<;>try exact Sa h
 cases h
 rename_i a e c;refine .tup a _ (eL e) λj u d hu hd=>?_;rw [aP,bN] at hd;obtain ⟨y,b,rfl⟩:=hd;exact Sa (c j u y hu b)
section
variable {P:Program} {c:Cfg}
theorem HN {f:FuncId}{args:Xa2}{r:D}(g:r.W=true)(h:∀ Q:D->AHeap->Prop,(∀ d H',(qF H' d=r\/Ub (qF H' d)=r)->Q d H')->ACalls P f args .an Q):Pure P f args r:=by
 have h:=h (λd H'=>qF H' d=r\/Ub (qF H' d)=r) λ_ _ h=>h;refine ⟨h.1,λM w vals hM ha=>(h.2 M g8 w vals (Bg M w hM) (by rw [Bi];exact ha)).mono λe w' ⟨v,d,H',σ',k,m,j,c,o,b⟩=>⟨v,k,?_,tQ c⟩⟩;have n:RepV (dD M (fJ (Bz d) H') σ') σ' (fJ (Bz d) H').H w' v r:=by
  have a:=vC m j (Bz d) λi hi=>hi;rcases b with b|b
  .rw [b] at a;exact a
  .have a:=WD a;rw [b] at a;exact a
 exact n.be (λad u hm l=>⟨λh=>hm (.inl h),l⟩) g
theorem af4 {f:FuncId}{args:Xa2}{ty:TypeId}{sz:Nat}{es:Xa1}(hcl:D.V es=true)
  (h:∀ Q:D->AHeap->Prop,(∀ id n H',n=es.length->H'.get id=some ⟨ty,sz,es,false⟩->Q (.own id n) H')->ACalls P f args .an Q):Own P f args ty sz es :=
 Dj (h _ λid n H' hn hg=>⟨id,_,by rw [hn],hg,rfl,rfl,rfl,rfl,hcl⟩)
def FH (I:Nat->d7->AHeap->Prop)(m:Nat->Nat)(x:Nat)(e:d7)(H:AHeap):Prop:=∃ H',Ghosts H H'/\∃ x',m x'<m x/\I x' e H'
theorem g9 {I:Nat->d7->AHeap->Prop}{m:Nat->Nat}{x:Nat}{e:d7}{H:AHeap}(x':Nat)(hm:m x'<m x)(hI:I x' e H):FH I m x e H:=⟨H,.refl H,x',hm,hI⟩
theorem H5 {I:Nat->d7->AHeap->Prop}{m:Nat->Nat}{x:Nat}{e:d7}{H H':AHeap}(hg:Ghosts H H')(x':Nat)(hm:m x'<m x)(hI:I x' e H'):FH I m x e H:=⟨H',hg,x',hm,hI⟩
theorem uJ {b:Code}{Q:Exit->d7->AHeap->Prop}{e:d7}{H:AHeap}(I:Nat->d7->AHeap->Prop)(μ:Nat->Nat)(x0:Nat)(h0:I x0 e H)
 (hs:∀ x e H,I x e H->p7 P c b (u6 (FH I μ x) Q) e H):BW P c b Q e H:=Du (.refl H) I μ x0 h0 hs
theorem YF {b:Code}{Q:Exit->d7->AHeap->Prop}{e:d7}{H H':AHeap}(hg:Ghosts H H')(I:Nat->d7->AHeap->Prop)(μ:Nat->Nat)(x0:Nat)(h0:I x0 e H')
 (hs:∀ x e H,I x e H->p7 P c b (u6 (FH I μ x) Q) e H):BW P c b Q e H:=Du hg I μ x0 h0 hs
end
@[go_sem] theorem Z9 (H:AHeap)(id i off:Nat)(ty sz:Nat):Ir H id i off ty sz=match H.get id with
 | some k=>(H.put id { k with T:=k.T.set i ((k.T[i]?.getD []).set off (.own H.next 0)) }).push H.next ⟨ty,sz,[],false⟩
 | none=>H:=rfl
@[go_sem] theorem Y1 (H:AHeap)(id i off q hi:Nat):Ct H id i off q hi=match H.get id,H.get q with
 | some k,some kq=>(((H.drop q).push H.next ⟨kq.ty,kq.Z,kq.T.take hi,false⟩).put id { k with T:=k.T.set i ((k.T[i]?.getD []).set off (.own H.next hi)) })
 | _,_=>H:=rfl
attribute [go_sem] wU Fd
attribute [irreducible] FH
theorem iF {p:Prop}(h:p:=by (first|assumption|(intros;first|assumption|omega|exact dK bZ bZ|(and_intros<;>first|assumption|omega|exact dK bZ bZ))|(simp_all<;>omega))):p:=h
theorem gX {p:Prop}(h:p:=by (first|assumption|(intros;first|assumption|omega|exact dK bZ bZ|(and_intros<;>first|assumption|omega|exact dK bZ bZ))|(simp;done)|(simp;omega))):p:=h
end Go.Abs
end
section
namespace Go.Abs
section
variable {P:Program} {M0:Nat→Prop} {H:AHeap} {σ:Nat→Option Ow} {w:World}
theorem Bn (zs:Xa0):(zs.map cI).flatten=zs.map (D.int .i64):=by
 induction zs with
 | nil=>rfl
 | cons a l b=>simp only [gJ,eQ,b,cI];rfl
theorem Bf {M:Nat->Prop}{N:Nat->Prop}(zs:Xa0):RepL M σ N w (zs.map (Value.int .i64)) (zs.map cI).flatten:=by
 rw [Bn];refine ⟨by simp,λj u d hu hd=>?_⟩;rw [aP,bN] at hu hd;obtain ⟨x,b,rfl⟩:=hu;obtain ⟨y,a,rfl⟩:=hd;rw [b] at a;cases a
 exact .int _ _
def GF (w:World)(ty:TypeId)(v:Value)(xs:Xa0):Prop:=w.ownsRow 0 ty 1 v xs.length (xs.map (Value.int .i64))
theorem RX (x:Rel M0 H σ w){d:Nat}{ty:TypeId}{xs:Xa0}(t:H.get d=some ⟨ty,1,xs.map cI,false⟩){v:Value}(m:RepV (dD M0 H σ) σ H.H w v (.own d xs.length)) :
  ∃ o,σ d=some o/\v=o.val/\o.ai=xs.length/\o.ty=ty/\o.J=1/\GF w ty v xs:=by
 obtain ⟨o,i,l⟩:=x.ak d _ t;have c:o.ai=xs.length:=by have:=l.ai;simpa using this
 cases m
 rename_i A B h;rcases h o i with C|⟨_,rfl⟩
 .omega
 .obtain ⟨b,g,p,a⟩:=l.row;have n:b=xs.map (Value.int .i64):=by
   simp only [Bn] at a;apply f9;intro j;have s:=a.len;simp only [bI] at s;by_cases e:j<xs.length
   .have y:=a.ad j b[j] (D.int .i64 xs[j]) (aA bZ) (by simp [e]);generalize b[j]=u at y;have f:b[j]?=some b[j]:=aA bZ;have k:=a.ad j b[j] (D.int .i64 xs[j]) f (by simp [e]);generalize z:b[j]=q at f k;rw [f];cases k
    simp [e]
   grind
  refine ⟨o,i,rfl,c,l.ty,l.Z,?_⟩;unfold GF;have r:o.J=1:=l.Z;grind
theorem N2 {w':World}(n:Rel M0 H σ w){a:Nat}{ty:TypeId}{xs zs:Xa0}(g:Bool)(m:H.get a=some ⟨ty,1,xs.map cI,false⟩){o:Ow}(k:σ a=some o)(e:o.ai=xs.length)(h:o.ty=ty)(d:o.J=1)
  (l:zs.length=xs.length) (j:w.grownBy w' o.block) (f:GF w' ty o.val zs) :
  Rel M0 (H.put a ⟨ty,1,zs.map cI,g⟩) (λi=>if i=a then some o else σ i) w'/\Stp σ w (λi=>if i=a then some o else σ i) w' /\
   Keeps (dD M0 H σ) σ H.H w (dD M0 (H.put a ⟨ty,1,zs.map cI,g⟩) (λi=>if i=a then some o else σ i)) (λi=>if i=a then some o else σ i) (H.put a ⟨ty,1,zs.map cI,g⟩).H w':=by
 refine Rel.put n m rfl k ⟨ty,1,zs.map cI,g⟩ o j (λb hb=>.inl hb) (.inl rfl) (by simp [e,l]) h d (λc hc=>?_) (zs.map (Value.int .i64)) ?_ (λu hu=>?_) (Bf zs)
 .obtain ⟨x,_,rfl⟩:=aV.1 hc;rw [d];rfl
 .rw [d];simpa [GF] using f
 .obtain ⟨x,_,rfl⟩:=aV.1 hu;rfl
theorem PW {f:FuncId}{i:Nat}{ty:TypeId}{xs zs:Xa0}{Q:D->AHeap->Prop}(h:Wa P f)(n:H.get i=some ⟨ty,1,xs.map cI,false⟩)(r:zs.length=xs.length)
  (t:∀ (w:World) (v:Value),GF w ty v xs->Calls P f #[v] w λe w'=>e=.returned (.tuple #[])/\w.grownBy w' v.ownBlock/\GF w' ty v zs)
  (x:Q (.tup []) (H.put i ⟨ty,1,zs.map cI,false⟩)):ACalls P f [.own i xs.length] H Q:=by
 refine ⟨h,λM0 σ w vals hR ha=>?_⟩;obtain ⟨g,p⟩:=ha;match vals,g with
 | [v],_ =>
  obtain ⟨o,q,rfl,b,k,l,c⟩:=RX hR n (p 0 v _ rfl rfl);refine (t w _ c).mono λe w' ⟨s,m,a⟩=>?_;obtain ⟨A,z,y⟩:=N2 hR false n q b k l r m a;exact ⟨_,.tup [],_,_,s,A,.tup [] [] rfl (λj u d hu=>by simp at hu),z,y,x⟩
theorem Ni {f:FuncId}{b:Nat}{ty:TypeId}{xs zs:Xa0}{m:Nat}{Q:D->AHeap->Prop}(A:Wa P f)(X:H.get b=some ⟨ty,1,xs.map cI,false⟩)(hl:zs.length=xs.length)(hm:m<=xs.length)
  (T:∀ (w:World) (v:Value),GF w ty v xs->Calls P f #[v] w λe w'=>(∃ r,e=.returned r/\((v=.slice none 0 0/\r=v)\/∃ g n cap,v=.slice (some g) n cap/\r=.slice (some g) m cap))/\w.grownBy w' v.ownBlock/\GF w' ty v zs)
  (hQ:Q (.list ((zs.take m).map cI)) (H.put b ⟨ty,1,zs.map cI,true⟩)):ACalls P f [.own b xs.length] H Q:=by
 refine ⟨A,λM0 σ w vals hR ha=>?_⟩;obtain ⟨y,hr⟩:=ha;match vals,y with
 | [v],_ =>
  obtain ⟨o,I,rfl,q,E,F,d⟩:=RX hR X (hr 0 v _ rfl rfl);refine (T w _ d).mono λe w' ⟨⟨r,he,G⟩,O,a⟩=>?_;obtain ⟨h1,h2,h3⟩:=N2 hR true X I q E F hl O a;refine ⟨r,.list ((zs.take m).map cI),_,_,he,h1,?_,h2,h3,hQ⟩;rcases G with ⟨h,rfl⟩|⟨g,n,cap,h,rfl⟩
  .have hz:zs=[]:=by
    rcases d.2 with ⟨_,h0⟩|⟨B,C,V,s,_⟩
    .exact bQ bZ
    grind
   subst hz;rw [h];simpa using RepV.listN
  .rcases a.2 with ⟨W,_⟩|⟨B,C,V,s,a3,Y,a1,S,a2,a0⟩
   .rw [h] at W;cases W
   .have p:=s;rw [h] at p;cases p
    have K:(zs.take m).length=m:=by simp;omega
    have R:=Bn (zs.take m);have k:=RepV.list (M:=dD M0 (H.put b ⟨ty,1,zs.map cI,true⟩) (λi=>if i=b then some o else σ i)) (σ:=λi=>if i=b then some o else σ i) (N:=(H.put b ⟨ty,1,zs.map cI,true⟩).H) (w:=w')
     ⟨B,0,none⟩ cap 1 ((zs.take m).map (Value.int .i64)) ((zs.take m).map cI) (by simp;omega) S (λc T=>(by obtain ⟨x,_,rfl⟩:=aV.1 T;rfl)) (by rw [R];simp)
     (λu hu=>(by obtain ⟨x,_,rfl⟩:=aV.1 hu;rfl))
     (λj u hu=>by
      refine ⟨?_,?_⟩
      .rintro (J|⟨i,k',Z,z,hf,t,U⟩)
       .exact (hR.lt b o B I (by simp [Ow.block,h,Value.ownBlock])).2 J
       .by_cases L:i=b
        .simp only [AHeap.put,L,if_true,aZ] at z;subst z;cases hf
        .simp only [L,if_false] at t;exact L (hR.inj i b Z o B t I U (by simp [Ow.block,h,Value.ownBlock]))
      .have:=a.cells (g:=B) (by simp [h,Value.ownBlock]) j u (by
        rw [aP] at hu ⊢;rw [b9] at hu;split at hu
        .exact hu
        .simp at hu)
       exact this)
     (Bf (zs.take m)).ad
    simp only [bI,K] at k;exact k
end
end Go.Abs
end
section
namespace Go.Abs
section
variable {P:Program} {M0:Nat→Prop} {H:AHeap} {σ:Nat→Option Ow} {w:World}
theorem LM {w':World}(h:Rel M0 H σ w)(i1 i2:Nat)(hne:i1≠i2)(hal1:¬ H.H i1)(hal2:¬ H.H i2)(hos:w'.os=w.os)(htape:w'.tape=w.tape)(hout:w'.output=w.output)(hsize:w.heap.size<=w'.heap.size)
  (hold:∀ b,b<w.heap.size->w'.heap[b]?=w.heap[b]?) (k1 k2:Blk) (o1 o2:Ow) (hb1:∀ b,o1.block=some b->w.heap.size<=b) (hb2:∀ b,o2.block=some b->w.heap.size<=b) (hdis:∀ b,o1.block=some b->o2.block≠some b)
  (hver1:o1.ai=k1.T.length) (hty1:o1.ty=k1.ty) (hsz1:o1.J=k1.Z) (hver2:o2.ai=k2.T.length) (hty2:o2.ty=k2.ty) (hsz2:o2.J=k2.Z)
  (hesz1:∀ c∈k1.T,c.length=o1.J) (hesz2:∀ c∈k2.T,c.length=o2.J) (xs1 xs2:List Value) (hrow1:w'.ownsRow 0 k1.ty o1.J o1.val k1.T.length xs1) (hrow2:w'.ownsRow 0 k2.ty o2.J o2.val k2.T.length xs2)
  (h11:∀ u∈xs1,u.oneCell'=true) (h12:∀ u∈xs2,u.oneCell'=true)
  (hrep:let σ':Nat->Option Ow:=λi=>if i=i2 then some o2 else if i=i1 then some o1 else σ i
   let H':=(H.push i1 k1).push i2 k2
   RepL (dD M0 H' σ') σ' H'.H w' xs1 k1.T.flatten/\RepL (dD M0 H' σ') σ' H'.H w' xs2 k2.T.flatten) :
  let σ':Nat->Option Ow:=λi=>if i=i2 then some o2 else if i=i1 then some o1 else σ i
  let H':=(H.push i1 k1).push i2 k2
  Rel M0 H' σ' w'/\Stp σ w σ' w'/\Keeps (dD M0 H σ) σ H.H w (dD M0 H' σ') σ' H'.H w':=by
 intro σ' H';have hn1:∀ i o',σ i=some o'->i≠i1:=λi o' hi he=>by subst he;rw [(h.bn _ hal1).1] at hi;cases hi
 have hn2:∀ i o',σ i=some o'->i≠i2:=λi o' hi he=>by subst he;rw [(h.bn _ hal2).1] at hi;cases hi
 have hσ:∀ i o',σ i=some o'->σ' i=some o':=λi o' hi=>by simp [σ',hn1 i o' hi,hn2 i o' hi,hi]
 have s1:σ' i1=some o1:=by simp [σ',hne]
 have s2:σ' i2=some o2:=by simp [σ']
 have so:∀ i,i≠i1->i≠i2->σ' i=σ i:=λi a b=>by simp [σ',a,b]
 have g1:H'.get i1=some k1:=by simp [H',AHeap.push,hne]
 have g2:H'.get i2=some k2:=by simp [H',AHeap.push]
 have go:∀ i,i≠i1->i≠i2->H'.get i=H.get i:=λi a b=>by simp [H',AHeap.push,a,b]
 have ha:∀ i,H'.H i↔i=i2\/i=i1\/H.H i:=λi=>Iff.rfl;have hmut:∀ b,b<w.heap.size->¬ dD M0 H σ b->¬ dD M0 H' σ' b:=by
  rintro b hlt hm (hm'|⟨i,k',o',hk',hf,ho',hb'⟩)
  .exact hm (.inl hm')
  .by_cases e1:i=i1
   .subst e1;rw [s1] at ho';cases ho';have:=hb1 b hb';omega
   .by_cases e2:i=i2
    .subst e2;rw [s2] at ho';cases ho';have:=hb2 b hb';omega
    .rw [so i e1 e2] at ho';rw [go i e1 e2] at hk';exact hm (.inr ⟨i,k',o',hk',hf,ho',hb'⟩)
 have hkeep:Keeps (dD M0 H σ) σ H.H w (dD M0 H' σ') σ' H'.H w':=by
  refine ⟨λad u hm hu=>?_,λi o' hi ho'=>?_,λi hi=>(ha i).2 (.inr (.inr hi))⟩
  .have hlt:=World.block_lt_of_cell? w ad hu;exact ⟨hmut _ hlt hm,(World.cell?_of_block (hold ad.block hlt)).trans hu⟩
  .have e1:i≠i1:=λe=>hal1 (e ▸ hi);have e2:i≠i2:=λe=>hal2 (e ▸ hi);rw [so i e1 e2] at ho';exact ⟨o',ho',.inl rfl⟩
 have hg:w.grownBy w' none:=⟨hos,htape,hout,hsize,λb hb _=>hold b hb⟩;refine ⟨⟨λi hi=>?_,λi hi=>?_,λi k' hk'=>?_,λi j oi oj b hi hj hbi hbj=>?_,λi oi b hi hbi=>?_,λb hb=>b4 (h.m0 b hb) hsize⟩,
  ⟨hos,htape,hout,hsize,λb hb _=>hold b hb,λi o' b ho' hb'=>?_⟩,hkeep⟩
 .have e1:i≠i1:=λe=>hi ((ha i).2 (.inr (.inl e)));have e2:i≠i2:=λe=>hi ((ha i).2 (.inl e));rw [so i e1 e2,go i e1 e2];exact h.bn i λe=>hi ((ha i).2 (.inr (.inr e)))
 .simp only [H',AHeap.push];rcases (ha i).1 hi with rfl|rfl|hi'
  .split<;>split<;>omega
  .split<;>split<;>omega
  .have:=h.bp i hi';split<;>split<;>omega
 .by_cases e2:i=i2
  .subst e2;rw [g2] at hk';cases hk'
   exact ⟨o2,s2,hver2,hty2,hsz2,hesz2,xs2,hrow2,h12,hrep.2⟩
  .by_cases e1:i=i1
   .subst e1;rw [g1] at hk';cases hk'
    exact ⟨o1,s1,hver1,hty1,hsz1,hesz1,xs1,hrow1,h11,hrep.1⟩
   .rw [go i e1 e2] at hk';obtain ⟨o',ho',l⟩:=h.ak i k' hk';obtain ⟨xs',h1',h2',h3'⟩:=l.row;exact ⟨o',hσ _ _ ho',l.ai,l.ty,l.Z,l.J,xs',h1'.kept hg (by cases o'.val.ownBlock<;>simp),h2',h3'.u hkeep⟩
 .have hcase:∀ i oi,σ' i=some oi->(i=i1/\oi=o1)\/(i=i2/\oi=o2)\/σ i=some oi:=λi oi hi=>by
   by_cases e2:i=i2
   .subst e2;rw [s2] at hi;cases hi;exact .inr (.inl ⟨rfl,rfl⟩)
   .by_cases e1:i=i1
    .subst e1;rw [s1] at hi;cases hi;exact .inl ⟨rfl,rfl⟩
    .rw [so i e1 e2] at hi;exact .inr (.inr hi)
  rcases hcase i oi hi with ⟨a1,a2⟩|⟨a1,a2⟩|a<;>rcases hcase j oj hj with ⟨c1,c2⟩|⟨c1,c2⟩|c
  .rw [a1,c1]
  .subst a2 c2;exact absurd hbj (hdis b hbi)
  .subst a2;have p1:=hb1 b hbi;have p2:=(h.lt j oj b c hbj).1;omega
  .subst a2 c2;exact absurd hbi (hdis b hbj)
  .rw [a1,c1]
  .subst a2;have p1:=hb2 b hbi;have p2:=(h.lt j oj b c hbj).1;omega
  .subst c2;have p1:=hb1 b hbj;have p2:=(h.lt i oi b a hbi).1;omega
  .subst c2;have p1:=hb2 b hbj;have p2:=(h.lt i oi b a hbi).1;omega
  .exact h.inj i j oi oj b a c hbi hbj
 .by_cases e2:i=i2
  .subst e2;rw [s2] at hi;cases hi
   exact ⟨wA hrow2 hbi,λhm=>by have p1:=hb2 b hbi;have p2:=h.m0 b hm;omega⟩
  .by_cases e1:i=i1
   .subst e1;rw [s1] at hi;cases hi
    exact ⟨wA hrow1 hbi,λhm=>by have p1:=hb1 b hbi;have p2:=h.m0 b hm;omega⟩
   .rw [so i e1 e2] at hi;exact ⟨b4 (h.lt i oi b hi hbi).1 hsize,(h.lt i oi b hi hbi).2⟩
 .by_cases e2:i=i2
  .subst e2;rw [s2] at ho';cases ho';exact .inl (hb2 b hb')
  .by_cases e1:i=i1
   .subst e1;rw [s1] at ho';cases ho';exact .inl (hb1 b hb')
   .rw [so i e1 e2] at ho';exact .inr ⟨i,o',ho',hb'⟩
structure Made (M:Nat->Prop) (w w':World) (v:Value) (b:Blk) (xs:List Value):Prop where
 row:w'.ownsRow w.heap.size b.ty b.Z v b.T.length xs
 one:∀ u∈xs,u.oneCell'=true
 ad:RepL M g8 sD w' xs b.T.flatten
 W:D.V b.T=true
 Z:∀ c∈b.T,c.length=b.Z
def VS (P:Program)(f:FuncId)(args:Xa2)(b1 b2:Blk):Prop :=
 Wa P f/\b1.fz=false/\b2.fz=false/\∀ (M:Nat->Prop) (w:World) (vals:List Value),(∀ b,M b->b<w.heap.size)->RepL M g8 sD w vals args ->
  Calls P f vals.toArray w λe w'=>∃ v1 v2 xs1 xs2,e=.returned (.agg #[v1,v2])/\Made (λb=>M b\/v1.ownBlock=some b\/v2.ownBlock=some b) w w' v1 b1 xs1/\Made (λb=>M b\/v1.ownBlock=some b\/v2.ownBlock=some b) w w' v2 b2 xs2 /\
   (∀ b,v1.ownBlock=some b->v2.ownBlock≠some b)/\RowKit.Below w.heap.size w w'
theorem JT {f:FuncId}{args:Xa2}{b1 b2:Blk}(hf1:b1.fz=false)(hf2:b2.fz=false)(hcl1:D.V b1.T=true)(hcl2:D.V b2.T=true)
  (h:ACalls P f args .an λd H'=>∃ i j,i≠j/\d=.agg [.own i b1.T.length,.own j b2.T.length]/\H'.get i=some b1/\H'.get j=some b2):VS P f args b1 b2:=by
 refine ⟨h.1,hf1,hf2,λM w vals hM ha=>(h.2 M g8 w vals (Bg M w hM) (by rw [Bi];exact ha)).mono λe w' ⟨v,d,H',σ',he,hR,hv,hst,hk,i,j,hij,hd,hg1,hg2⟩=>?_⟩
 subst hd
 cases hv
 rename_i vs hv1 hl hr
 obtain ⟨v1,v2,rfl⟩:∃ v1 v2,vs=[v1,v2]:=by
  match vs,hl with
  | [a,b],_=>exact ⟨a,b,rfl⟩
 have r1:=hr 0 v1 _ rfl rfl
 have r2:=hr 1 v2 _ rfl rfl
 obtain ⟨o1,ho1,l1⟩:=hR.ak i b1 hg1
 obtain ⟨o2,ho2,l2⟩:=hR.ak j b2 hg2
 obtain ⟨xs1,row1,x1,p1⟩:=l1.row
 obtain ⟨xs2,row2,x2,p2⟩:=l2.row
 have e1:v1=o1.val:=by
  cases r1
  rename_i _ _ hval
  rcases hval o1 ho1 with hlt|⟨_,h⟩
  .have:=l1.ai;omega
  .exact h
 have e2:v2=o2.val:=by
  cases r2
  rename_i _ _ hval
  rcases hval o2 ho2 with hlt|⟨_,h⟩
  .have:=l2.ai;omega
  .exact h
 subst e1 e2
 have hM':∀ b,¬ (M b\/o1.val.ownBlock=some b\/o2.val.ownBlock=some b)↔¬ M b/\¬ o1.val.ownBlock=some b/\¬ o2.val.ownBlock=some b:=λb=>by simp only [not_or]
 have hmu:∀ b,¬ dD M H' σ' b->¬ (M b\/o1.val.ownBlock=some b\/o2.val.ownBlock=some b):=λb hm hh=>by
  rcases hh with hh|hh|hh
  .exact hm (.inl hh)
  .exact hm (.inr ⟨i,b1,o1,hg1,hf1,ho1,hh⟩)
  .exact hm (.inr ⟨j,b2,o2,hg2,hf2,ho2,hh⟩)
 have hflat:∀ {es:Xa1},D.V es=true->D.N es.flatten=true:=λ {es} hc=>sO λd hd=>by
  obtain ⟨c,hcm,hxm⟩:=eR.1 hd
  exact gM (lV hc c hcm) d hxm
 have hrow:∀ {o:Ow} {b:Blk} {q:Nat} {xs:List Value},σ' q=some o->w'.ownsRow 0 b.ty o.J o.val b.T.length xs->o.J=b.Z->w'.ownsRow w.heap.size b.ty b.Z o.val b.T.length xs:=λ {o b q xs} ho hrow hs=>by
  rw [<- hs]
  refine ⟨hrow.1,?_⟩
  rcases hrow.2 with hn|⟨g,cap,cur,h1,_,h3⟩
  .exact .inl hn
  .refine .inr ⟨g,cap,cur,h1,?_,h3⟩
   rcases hst.new q o g ho (by simp [Ow.block,h1,Value.ownBlock]) with h|⟨_,o',h,_⟩
   .exact h
   .simp [g8] at h
 refine ⟨o1.val,o2.val,xs1,xs2,he,⟨hrow ho1 row1 l1.Z,x1,dR hmu p1 (hflat hcl1),hcl1,λc hc=>(l1.J c hc).trans l1.Z⟩,⟨hrow ho2 row2 l2.Z,x2,dR hmu p2 (hflat hcl2),hcl2,λc hc=>(l2.J c hc).trans l2.Z⟩,λb hb hb'=>?_,tQ hst⟩
 exact hij (hR.inj i j o1 o2 b ho1 ho2 hb hb')
theorem abT {f:FuncId}{args:Xa2}{b1 b2:Blk}(hf1:b1.fz=false:=by rfl)(hf2:b2.fz=false:=by rfl)(hcl1:D.V b1.T=true)(hcl2:D.V b2.T=true)
  (h:∀ Q:D->AHeap->Prop,(∀ i j n m H',i≠j->n=b1.T.length->m=b2.T.length->H'.get i=some b1->H'.get j=some b2->Q (.agg [.own i n,.own j m]) H')->ACalls P f args .an Q):VS P f args b1 b2 :=
 JT hf1 hf2 hcl1 hcl2 (h _ λi j n m H' hij hn hm h1 h2=>⟨i,j,hij,by rw [hn,hm],h1,h2⟩)
theorem y0 {M:Nat->Prop}{w w':World}{v:Value}{b:Blk}{xs:List Value}(h:Made M w w' v b xs):∀ g,v.ownBlock=some g->w.heap.size<=g:=λg hg=>by
 rcases h.row.2 with hn|⟨g',cap,cur,h1,h2,h3⟩
 .rw [hn.1] at hg;simp [Value.ownBlock] at hg
 .rw [h1] at hg;simp only [Value.ownBlock,aZ] at hg;omega
theorem sF {M:Nat->Prop}{w w':World}{v:Value}{b:Blk}{xs:List Value}(h:Made M w w' v b xs):v.oneCell'=true:=by
 rcases h.row.2 with ⟨a,_⟩|⟨g,d,c,a,_⟩<;>simp [a,Value.oneCell']
theorem Bk {M:Nat->Prop}{w w':World}{v:Value}{b:Blk}{xs:List Value}(h:Made M w w' v b xs):w'.ownsRow 0 b.ty b.Z v b.T.length xs :=
 ⟨h.row.1,h.row.2.imp (λx=>x) λ⟨g,cap,cur,a,b,c⟩=>⟨g,cap,cur,a,d9 _,c⟩⟩
theorem Nu {f:FuncId}{args:Xa2}{g b:Blk}{Q:D->AHeap->Prop}(M:VS P f args g b)(K:D.N args=true)(i j:Nat)(p:i≠j)(X:¬ H.H i)(W:¬ H.H j)
  (hQ:Q (.agg [.own i g.T.length,.own j b.T.length]) ((H.push i g).push j b)):ACalls P f args H Q:=by
 refine ⟨M.1,λL σ w t N ha=>(M.2.2.2 (dD L H σ) w t (sR N) (dR (λ_ h=>h) ha K)).mono λe w' ⟨x,v,G,F,Z,m,l,A,B⟩=>?_⟩;have k:∀ {es:Xa1},D.V es=true->D.N es.flatten=true:=λ {es} hc=>sO λd s=>by
  obtain ⟨c,J,I⟩:=eR.1 s;exact gM (lV hc c J) d I
 have O:∀ C,¬ (dD L H σ C\/x.ownBlock=some C\/v.ownBlock=some C)->¬ dD L ((H.push i g).push j b) (λq=>if q=j then some (Ow.mk b.T.length v b.Z b.ty) else if q=i then some (Ow.mk g.T.length x g.Z g.ty) else σ q) C:=by
  intro C E h;rcases h with h|⟨q,V,U,z,Y,a,r⟩
  .exact E (.inl (.inl h))
  .by_cases e2:q=j
   .simp only [e2,if_true,aZ] at a;subst a;exact E (.inr (.inr r))
   .by_cases e1:q=i
    .simp only [e1,p,if_false,if_true,aZ] at a;subst a;exact E (.inr (.inl r))
    .simp only [e1,e2,if_false] at a;simp only [AHeap.push,e1,e2,if_false] at z;exact E (.inl (.inr ⟨q,V,U,z,Y,a,r⟩))
 obtain ⟨T,S,R⟩:=LM N i j p X W (w':=w') B.os B.tape B.output B.size B.block g b ⟨g.T.length,x,g.Z,g.ty⟩ ⟨b.T.length,v,b.Z,b.ty⟩
  (y0 m) (y0 l) A rfl rfl rfl rfl rfl rfl m.Z l.Z G F (Bk m) (Bk l) m.one l.one ⟨dR O m.ad (k m.W),dR O l.ad (k l.W)⟩
 refine ⟨_,_,_,_,Z,T,?_,S,R,hQ⟩;refine .agg [x,v] [.own i g.T.length,.own j b.T.length] rfl (λu n=>?_) λq u d n s=>?_
 .simp only [aS,eC,or_false] at n;rcases n with rfl|rfl
  .exact sF m
  .exact sF l
 .match q with
  | 0 =>
   simp only [eE,aZ] at n s;subst n s;exact .own x _ _ (.inr (.inl rfl)) (sF m) (λo y=>by simp [p] at y;subst y;exact .inr ⟨rfl,rfl⟩)
  | 1 =>
   simp only [p6,eE,aZ] at n s;subst n s;exact .own v _ _ (.inl rfl) (sF l) (λo y=>by simp at y;subst y;exact .inr ⟨rfl,rfl⟩)
  | q+2=>simp at n
theorem P3 {f:FuncId}{args:Xa2}{ty:TypeId}{sz:Nat}{es:Xa1}{Q:D->AHeap->Prop}(N:Own P f args ty sz es)(J:D.N args=true)(q:Nat)(V:¬ H.H q)
  (Y:Q (.own q es.length) (H.push q ⟨ty,sz,es,false⟩)):ACalls P f args H Q:=by
 refine ⟨N.1,λM0 σ w vals hR ha=>(N.2 (dD M0 H σ) w vals (sR hR) (dR (λ_ h=>h) ha J)).mono λe w' ⟨v,M,X,k,L,t,y,F,A⟩=>?_⟩;have m:w'.ownsRow 0 ty sz v es.length M:=⟨k.1,k.2.imp (λx=>x) λ⟨g,r,p,a,b,c⟩=>⟨g,r,p,a,d9 _,c⟩⟩;have K:∀ b,v.ownBlock=some b->w.heap.size<=b:=λb j=>by
  rcases k.2 with B|⟨g,r,p,L,h2,h3⟩
  .rw [B.1] at j;simp [Value.ownBlock] at j
  .rw [L] at j;simp only [Value.ownBlock,aZ] at j;omega
 have Z:∀ C,¬ (dD M0 H σ C\/v.ownBlock=some C)->¬ dD M0 (H.push q ⟨ty,sz,es,false⟩) (λi=>if i=q then some ⟨es.length,v,sz,ty⟩ else σ i) C:=by
  intro C G h;rcases h with h|⟨i,U,T,u,W,l,j⟩
  .exact G (.inl (.inl h))
  .by_cases n:i=q
   .simp only [n,if_true,aZ] at l;subst l;exact G (.inr j)
   .simp only [n,if_false] at l;simp only [AHeap.push,n,if_false] at u;exact G (.inl (.inr ⟨i,U,T,u,W,l,j⟩))
 have z:D.N es.flatten=true:=sO λd hd=>by
  obtain ⟨c,I,E⟩:=eR.1 hd;exact gM (lV y c I) d E
 obtain ⟨S,R,O⟩:=Rel.cH hR q V (w':=w') A.os A.tape A.output A.size A.block ⟨ty,sz,es,false⟩ ⟨es.length,v,sz,ty⟩
  K rfl rfl rfl F M m L (λhk=>dR Z t z)
 exact ⟨v,_,_,_,X,S,.own v _ _ (.inl rfl) (by rcases k.2 with ⟨B,_⟩|⟨g,r,p,B,_⟩<;>simp [B,Value.oneCell']) (λo ho=>by simp at ho;subst ho;exact .inr ⟨rfl,rfl⟩),R,O,Y⟩
theorem ACalls.b1 {f:FuncId}{args:Xa2}{Q:D->AHeap->Prop}(k:Nat)(h:ACalls P f args ⟨H.next+k,H.H,H.get⟩ Q):ACalls P f args H Q :=
 ⟨h.1,λM0 σ w vals hR ha=>h.2 M0 σ w vals (hR.b1 (m:=H.next+k) bZ) ha⟩
theorem ACalls.a7 {f:FuncId}{args:Xa2}{Q:D->AHeap->Prop}(h:ACalls P f (args.map (iS H)) (fJ (args.flatMap dQ) H) Q):ACalls P f args H Q:=by
 refine ⟨h.1,λM0 σ w vals hR ha=>?_⟩;obtain ⟨m,l,p,o⟩:=fW (args.flatMap dQ) hR;refine (h.2 M0 σ w vals m (Am hR ha _ λi h=>h)).mono λe w' ⟨v,d,n,σ',j,k,a,b,g,c⟩=>?_;exact ⟨v,d,n,σ',j,k,a,b,l.trans g,c⟩
end
section
variable {P:Program} {md:Nat→Bool} {ops:Array Oper} {sp:List (Nat × Nat)} {n0 i:Nat} {rest:List Oper} {acc:List (Nat × List Nat)} {e:d7} {dst:Option Tmp} {K:d7→AHeap→Prop} {f:FuncId} {args args':Xa2} {H H':AHeap}
theorem tY (b:args.map (iS H)=args')(a:fJ (args.flatMap dQ) H=H')(h:e8 P md ops rest e dst K f args' H'):e8 P md ops rest e dst K f args H:=by grind [e8, ACalls.a7]
theorem pV {ty:TypeId}{sz:Nat}{es:Xa1}(q:Nat)(a:Own P f args ty sz es)(c:D.N args=true)(b:CJ md dst=true)(g:q<n0)(d:¬ H.H q)(j:BH sp i [q] acc)
  (h:j5 P md ops sp n0 (i+1) rest ((i,[q]) :: acc) (pE e dst (.own q es.length)) (H.push q ⟨ty,sz,es,false⟩) K):mR P md ops sp n0 i rest acc e dst K f args H:=by
 unfold mR;exact Or.inr ⟨b,.own q es.length,[],[],[(q,⟨ty,sz,es,false⟩)],(λ_ h=>by cases h),λp a=>(by
   have:p=(q,⟨ty,sz,es,false⟩):=by simpa using a
   subst this;exact ⟨g,d⟩),
  λH' _ hn=>P3 a c q (hn (q,⟨ty,sz,es,false⟩) eG).2 ⟨rfl,rfl⟩,j,h⟩
theorem Pr {j g:Blk}(b a:Nat)(k:VS P f args j g)(q:D.N args=true)(o:CJ md dst=true)(n:b≠a)(m:b<n0)(l:a<n0)(d:¬ H.H b)(c:¬ H.H a)(s:BH sp i [b,a] acc)
  (h:j5 P md ops sp n0 (i+1) rest ((i,[b,a]) :: acc) (pE e dst (.agg [.own b j.T.length,.own a g.T.length])) ((H.push b j).push a g) K):mR P md ops sp n0 i rest acc e dst K f args H:=by
 unfold mR;exact Or.inr ⟨o,_,[],[],[(b,j),(a,g)],(λ_ h=>by cases h),λp k=>by
   simp only [aS,eC,or_false] at k;rcases k with rfl|rfl
   .exact ⟨m,d⟩
   .exact ⟨l,c⟩,
  λt _ r=>Nu k q b a n (r (b,j) eG).2 (r (a,g) eG).2 ⟨rfl,rfl⟩,s,h⟩
end
theorem rW (i:Nat):AHeap.an.H i↔False:=Iff.rfl
theorem j8 (H:AHeap)(i j:Nat)(k:Blk):(H.push i k).H j↔j=i\/H.H j:=Iff.rfl
theorem mV (H:AHeap)(i j:Nat)(k:Blk):(H.put i k).H j↔H.H j:=Iff.rfl
theorem v8 (n:Nat)(al:Nat->Prop)(g:Nat->Option Blk)(j:Nat):(AHeap.mk n al g).H j↔al j:=Iff.rfl
end Go.Abs
end
section
namespace Go.Abs
def Yh (id:Nat):D->D
 | .own 0 n=>.own id n
 | d=>d
section
variable {P:Program} {M0:Nat→Prop} {H:AHeap} {σ:Nat→Option Ow} {w:World}
theorem Wr (id n:Nat):Yh id (.own 0 n)=.own id n:=rfl
theorem Tp (k:Blk):(AHeap.an.push 0 k).get 0=some k:=rfl
theorem P0 {f:FuncId}{args:Xa2}{k S:Blk}{r:D}{q:Nat}{Q:D->AHeap->Prop}
  (h:ACalls P f args (AHeap.an.push 0 k) λd H'=>qF H' d=r/\r.W=true/\0∉Bz d/\H'.get 0=some S)
  (L:∀ d∈args,d.W=true\/d=.own 0 k.T.length) (hk:k.fz=false) (b4:S.fz=false) (b8:D.V k.T=true) (b6:∀ d∈S.T.flatten,d.az=true) (hg:H.get q=some k) (hQ:Q r (H.put q S)) :
  ACalls P f (args.map (Yh q)) H Q:=by
 refine ⟨h.1,λM0 σ w vals hR ha=>?_⟩;obtain ⟨o,T,l⟩:=hR.ak q k hg;obtain ⟨xs,a1,a9,a2⟩:=l.row;obtain ⟨σ0,Y⟩:∃ s:Nat->Option Ow,s=λi=>if i=0 then some o else none:=⟨_,rfl⟩
 obtain ⟨M1,y⟩:∃ m:Nat->Prop,m=λb=>dD M0 H σ b/\o.block≠some b:=⟨_,rfl⟩;have s0:σ0 0=some o:=by rw [Y];rfl
 have R:∀ i B,σ0 i=some B->i=0/\B=o:=λi B a=>by
  grind
 have g0:∀ i C,(AHeap.an.push 0 k).get i=some C->i=0/\C=k:=λi C a=>by
  by_cases z:i=0
  .subst z;rw [Tp] at a;exact ⟨rfl,(Option.some.inj a).symm⟩
  .simp [AHeap.push,AHeap.an,z] at a
 have c2:∀ b,o.block=some b->dD M0 H σ b:=λb hb=>.inr ⟨q,k,o,hg,hk,T,hb⟩;have E:∀ b,dD M1 (AHeap.an.push 0 k) σ0 b->dD M0 H σ b:=by
  rintro b (hb|⟨i,C,o1,x,hf,n,hb⟩)
  .rw [y] at hb;exact hb.1
  grind
 have b9:∀ {es:Xa1},D.V es=true->D.N es.flatten=true:=λ {es} hc=>sO λd K=>by
  obtain ⟨c,b7,a8⟩:=eR.1 K;exact gM (lV hc c b7) d a8
 have c1:Rel M1 (AHeap.an.push 0 k) σ0 w:=by
  refine ⟨λi a=>?_,λi a=>?_,λi C x=>?_,λi j oi oj b a U hbi hbj=>?_,λi oi b a hbi=>?_,λb hb=>?_⟩
  .have z:i≠0:=λe=>a (.inl e);exact ⟨by rw [Y];simp [z],by simp [AHeap.push,AHeap.an,z]⟩
  .rcases a with a|a
   .subst a;simp [AHeap.push,AHeap.an]
   .exact a.elim
  .obtain ⟨z,N⟩:=g0 i C x;subst z;subst N;exact ⟨o,s0,l.ai,l.ty,l.Z,l.J,xs,a1,a9,dR (λb hb hb'=>hb (E b hb')) a2 (b9 b8)⟩
  .rw [(R i oi a).1,(R j oj U).1]
  .obtain ⟨_,rfl⟩:=R i oi a;exact ⟨(hR.lt q oi b T hbi).1,λhb=>by rw [y] at hb;exact hb.2 hbi⟩
  .rw [y] at hb;exact sR hR b hb.1
 have c0:RepL (dD M1 (AHeap.an.push 0 k) σ0) σ0 (AHeap.an.push 0 k).H w vals args:=by
  refine ⟨by simpa using ha.len,λj u d F K=>?_⟩;have U:=ha.ad j u (Yh q d) F (by rw [aP,K];rfl);rcases L d (aM K) with hc|rfl
  .have a3:Yh q d=d:=by cases d<;>first|rfl|(simp [D.W] at hc)
   rw [a3] at U;exact U.be (λad u hm F=>⟨λhm'=>hm (E _ hm'),F⟩) hc
  .rw [Wr] at U;cases U
   rename_i N hN hv;exact .own u _ _ (.inl rfl) (by first|exact N|exact hN) λo1 n=>by
    obtain ⟨_,rfl⟩:=R 0 o1 n;exact hv o1 T
 refine (h.2 M1 σ0 w vals c1 c0).mono λe w' ⟨v,d,H',σ',he,M,hv,p,b3,hr,a4,b0,J⟩=>?_;obtain ⟨B,I,W⟩:=M.ak 0 S J;obtain ⟨a7,G,Z,t⟩:=W.row;obtain ⟨o2,a5,b2⟩:=b3.own 0 B (.inl rfl) I;rw [s0] at a5;cases a5
 have b5:w.grownBy w' o.block:=⟨p.os,p.tape,p.output,p.size,λb hb hne=>p.bo b hb λi o1 a=>by
  obtain ⟨_,rfl⟩:=R i o1 a;exact λhb'=>hne (by first|simpa using hb'|exact hb'.symm|exact hb')⟩
 have a6:∀ b,B.block=some b->o.block=some b\/w.heap.size<=b:=λb hb=>by
  rcases p.new 0 B b I hb with N|⟨j1,o1,N,h2⟩
  .exact .inr N
  .obtain ⟨_,rfl⟩:=R j1 o1 N;exact .inl h2
 obtain ⟨p1,p2,p3⟩:=Rel.put hR hg hk T S B b5 a6 b2 W.ai W.ty W.Z W.J a7 G Z
  ⟨t.len,λj u d F K=>AU (t.ad j u d F K) (b6 d (aM K))⟩
 have a0:=vC M hv (Bz d) λi a=>a;rw [hr] at a0;obtain ⟨_,_,_,f4⟩:=fW (Bz d) M;refine ⟨v,r,_,_,he,p1,a0.be (λad u hm F=>⟨λhm'=>hm ?_,F⟩) a4,p2,p3,hQ⟩;rcases hm' with z|⟨i,C,o1,x,hf,n,hb⟩
 .left
  rw [y];exact ⟨.inl z,λhb=>(hR.lt q o _ T hb).2 z⟩
 .by_cases a:i=q
  .simp only [a,if_true,aZ] at n;subst n
   right
   obtain ⟨O,c3⟩:=f4 0;rw [J] at O;cases hq:(fJ (Bz d) H').get 0 with
   | none=>rw [hq] at O;cases O
   | some kq =>
    refine ⟨0,kq,B,hq,?_,I,hb⟩;rw [Cu _ _ 0 b0,J] at hq;cases hq
    exact b4
  .simp only [a,if_false] at n;simp only [AHeap.put,a,if_false] at x
   left
   rw [y];exact ⟨.inr ⟨i,C,o1,x,hf,n,hb⟩,λhb'=>a (hR.inj i q o1 o _ n T hb hb')⟩
end
section
variable {P:Program} {M0:Nat→Prop} {H:AHeap} {σ:Nat→Option Ow} {w:World}
def LN (P:Program)(f:FuncId)(args:Xa2)(b1 b2:Blk)(tl:Xa2):Prop :=
 Wa P f/\D.N tl=true/\b1.fz=false/\b2.fz=false/\∀ (M:Nat->Prop) (w:World) (vals:List Value),(∀ b,M b->b<w.heap.size)->RepL M g8 sD w vals args ->
  Calls P f vals.toArray w λe w'=>∃ v1 v2 xs1 xs2 us,e=.returned (.tuple (Value.agg #[v1,v2] :: us).toArray)/\RepL (λb=>M b\/v1.ownBlock=some b\/v2.ownBlock=some b) g8 sD w' us tl/\Made (λb=>M b\/v1.ownBlock=some b\/v2.ownBlock=some b) w w' v1 b1 xs1/\Made (λb=>M b\/v1.ownBlock=some b\/v2.ownBlock=some b) w w' v2 b2 xs2 /\
   (∀ b,v1.ownBlock=some b->v2.ownBlock≠some b)/\RowKit.Below w.heap.size w w'
theorem HT {f:FuncId}{args:Xa2}{b1 b2:Blk}{tl:Xa2}(htl:D.N tl=true)(hf1:b1.fz=false)(hf2:b2.fz=false)(hcl1:D.V b1.T=true)(hcl2:D.V b2.T=true)
  (h:ACalls P f args .an λd H'=>∃ i j,i≠j/\d=.tup (.agg [.own i b1.T.length,.own j b2.T.length] :: tl)/\H'.get i=some b1/\H'.get j=some b2):LN P f args b1 b2 tl:=by
 refine ⟨h.1,htl,hf1,hf2,λM w vals hM ha=>(h.2 M g8 w vals (Bg M w hM) (by rw [Bi];exact ha)).mono λe w' ⟨v,d,H',σ',he,hR,hv,hst,hk,i,j,hij,hd,hg1,hg2⟩=>?_⟩
 subst hd
 cases hv
 rename_i vt hlt hrt
 obtain ⟨v0,us,rfl⟩:∃ v0 us,vt=v0 :: us:=by
  match vt,hlt with
  | a :: l,_=>exact ⟨a,l,rfl⟩
 have hv0:=hrt 0 v0 _ rfl rfl
 cases hv0
 rename_i vs hv1 hl hr
 obtain ⟨v1,v2,rfl⟩:∃ v1 v2,vs=[v1,v2]:=by
  match vs,hl with
  | [a,b],_=>exact ⟨a,b,rfl⟩
 have r1:=hr 0 v1 _ rfl rfl
 have r2:=hr 1 v2 _ rfl rfl
 obtain ⟨o1,ho1,l1⟩:=hR.ak i b1 hg1
 obtain ⟨o2,ho2,l2⟩:=hR.ak j b2 hg2
 obtain ⟨xs1,row1,x1,p1⟩:=l1.row
 obtain ⟨xs2,row2,x2,p2⟩:=l2.row
 have e1:v1=o1.val:=by
  cases r1
  rename_i _ _ hval
  rcases hval o1 ho1 with hlt|⟨_,h⟩
  .have:=l1.ai;omega
  .exact h
 have e2:v2=o2.val:=by
  cases r2
  rename_i _ _ hval
  rcases hval o2 ho2 with hlt|⟨_,h⟩
  .have:=l2.ai;omega
  .exact h
 subst e1 e2
 have hM':∀ b,¬ (M b\/o1.val.ownBlock=some b\/o2.val.ownBlock=some b)↔¬ M b/\¬ o1.val.ownBlock=some b/\¬ o2.val.ownBlock=some b:=λb=>by simp only [not_or]
 have hmu:∀ b,¬ dD M H' σ' b->¬ (M b\/o1.val.ownBlock=some b\/o2.val.ownBlock=some b):=λb hm hh=>by
  rcases hh with hh|hh|hh
  .exact hm (.inl hh)
  .exact hm (.inr ⟨i,b1,o1,hg1,hf1,ho1,hh⟩)
  .exact hm (.inr ⟨j,b2,o2,hg2,hf2,ho2,hh⟩)
 have hflat:∀ {es:Xa1},D.V es=true->D.N es.flatten=true:=λ {es} hc=>sO λd hd=>by
  obtain ⟨c,hcm,hxm⟩:=eR.1 hd
  exact gM (lV hc c hcm) d hxm
 have hrow:∀ {o:Ow} {b:Blk} {q:Nat} {xs:List Value},σ' q=some o->w'.ownsRow 0 b.ty o.J o.val b.T.length xs->o.J=b.Z->w'.ownsRow w.heap.size b.ty b.Z o.val b.T.length xs:=λ {o b q xs} ho hrow hs=>by
  rw [<- hs]
  refine ⟨hrow.1,?_⟩
  rcases hrow.2 with hn|⟨g,cap,cur,h1,_,h3⟩
  .exact .inl hn
  .refine .inr ⟨g,cap,cur,h1,?_,h3⟩
   rcases hst.new q o g ho (by simp [Ow.block,h1,Value.ownBlock]) with h|⟨_,o',h,_⟩
   .exact h
   .simp [g8] at h
 refine ⟨o1.val,o2.val,xs1,xs2,us,he,dR hmu ⟨by simpa using hlt,λj u d hu hd=>hrt (j+1) u d (eL hu) (eL hd)⟩ htl,⟨hrow ho1 row1 l1.Z,x1,dR hmu p1 (hflat hcl1),hcl1,λc hc=>(l1.J c hc).trans l1.Z⟩,⟨hrow ho2 row2 l2.Z,x2,dR hmu p2 (hflat hcl2),hcl2,λc hc=>(l2.J c hc).trans l2.Z⟩,λb hb hb'=>?_,tQ hst⟩
 exact hij (hR.inj i j o1 o2 b ho1 ho2 hb hb')
theorem UA {f:FuncId}{args:Xa2}{b1 b2:Blk}{tl:Xa2}(htl:D.N tl=true)(hf1:b1.fz=false:=by rfl)(hf2:b2.fz=false:=by rfl)(hcl1:D.V b1.T=true)(hcl2:D.V b2.T=true)
  (h:∀ Q:D->AHeap->Prop,(∀ i j n m H',i≠j->n=b1.T.length->m=b2.T.length->H'.get i=some b1->H'.get j=some b2->Q (.tup (.agg [.own i n,.own j m] :: tl)) H')->ACalls P f args .an Q):LN P f args b1 b2 tl :=
 HT htl hf1 hf2 hcl1 hcl2 (h _ λi j n m H' hij hn hm h1 h2=>⟨i,j,hij,by rw [hn,hm],h1,h2⟩)
theorem Kk {f:FuncId}{args:Xa2}{b a:Blk}{F:Xa2}{Q:D->AHeap->Prop}(N:LN P f args b a F)(R:D.N args=true)(i j:Nat)(v:i≠j)(hi:¬ H.H i)(hj:¬ H.H j)
  (hQ:Q (.tup (.agg [.own i b.T.length,.own j a.T.length] :: F)) ((H.push i b).push j a)):ACalls P f args H Q:=by
 refine ⟨N.1,λI σ w y U ha=>(N.2.2.2.2 (dD I H σ) w y (sR U) (dR (λ_ h=>h) ha R)).mono λe w' ⟨p,n,K,J,T,he,M,s,r,B,C⟩=>?_⟩;have l:∀ {es:Xa1},D.V es=true->D.N es.flatten=true:=λ {es} hc=>sO λd m=>by
  obtain ⟨c,O,L⟩:=eR.1 m;exact gM (lV hc c O) d L
 have S:∀ E,¬ (dD I H σ E\/p.ownBlock=some E\/n.ownBlock=some E)->¬ dD I ((H.push i b).push j a) (λq=>if q=j then some (Ow.mk a.T.length n a.Z a.ty) else if q=i then some (Ow.mk b.T.length p b.Z b.ty) else σ q) E:=by
  intro E G h;rcases h with h|⟨q,Z,Y,A,hf,g,x⟩
  .exact G (.inl (.inl h))
  .by_cases e2:q=j
   .simp only [e2,if_true,aZ] at g;subst g;exact G (.inr (.inr x))
   .by_cases e1:q=i
    .simp only [e1,v,if_false,if_true,aZ] at g;subst g;exact G (.inr (.inl x))
    .simp only [e1,e2,if_false] at g;simp only [AHeap.push,e1,e2,if_false] at A;exact G (.inl (.inr ⟨q,Z,Y,A,hf,g,x⟩))
 obtain ⟨X,W,V⟩:=LM U i j v hi hj (w':=w') C.os C.tape C.output C.size C.block b a ⟨b.T.length,p,b.Z,b.ty⟩ ⟨a.T.length,n,a.Z,a.ty⟩
  (y0 s) (y0 r) B rfl rfl rfl rfl rfl rfl s.Z r.Z K J (Bk s) (Bk r) s.one r.one ⟨dR S s.ad (l s.W),dR S r.ad (l r.W)⟩
 refine ⟨_,_,_,_,he,X,?_,W,V,hQ⟩;have t:RepL (dD I ((H.push i b).push j a) (λq=>if q=j then some (Ow.mk a.T.length n a.Z a.ty) else if q=i then some (Ow.mk b.T.length p b.Z b.ty) else σ q)) (λq=>if q=j then some (Ow.mk a.T.length n a.Z a.ty) else if q=i then some (Ow.mk b.T.length p b.Z b.ty) else σ q) ((H.push i b).push j a).H w' T F:=dR S M N.2.1;refine .tup (Value.agg #[p,n] :: T) (.agg [.own i b.T.length,.own j a.T.length] :: F) (eL t.len) λq u d k m=>?_;match q with
 | q+1=>exact t.ad q u d (eL k) (eL m)
 | 0 =>
 simp only [eE,aZ] at k m;subst k m;refine .agg [p,n] [.own i b.T.length,.own j a.T.length] rfl (λu k=>?_) λq u d k m=>?_
 .simp only [aS,eC,or_false] at k;rcases k with rfl|rfl
  .exact sF s
  .exact sF r
 .match q with
  | 0 =>
   simp only [eE,aZ] at k m;subst k m;exact .own p _ _ (.inr (.inl rfl)) (sF s) (λo z=>by simp [v] at z;subst z;exact .inr ⟨rfl,rfl⟩)
  | 1 =>
   simp only [p6,eE,aZ] at k m;subst k m;exact .own n _ _ (.inl rfl) (sF r) (λo z=>by simp at z;subst z;exact .inr ⟨rfl,rfl⟩)
  | q+2=>simp at k
end
theorem F3 {P:Program}{md:Nat->Bool}{ops:Array Oper}{a:List Oper}{e:d7}{c:Option Tmp}{K:d7->AHeap->Prop}{f:FuncId}{args:Xa2}{H:AHeap}{i g:Blk}{j:Xa2}(k:LN P f args i g j)(d:D.N args=true)(b:¬ H.H H.next/\¬ H.H (H.next+1))
  (h:oO P md ops a (pE e c (.tup (.agg [.own H.next i.T.length,.own (H.next+1) g.T.length] :: j))) ((H.push H.next i).push (H.next+1) g) K):e8 P md ops a e c K f args H:=by
 unfold e8;exact Kk k d _ _ bZ b.1 b.2 h
section
variable {P:Program} {md:Nat→Bool} {ops:Array Oper} {sp:List (Nat × Nat)} {n0 i:Nat} {rest:List Oper} {acc:List (Nat × List Nat)} {e:d7} {dst:Option Tmp} {K:d7→AHeap→Prop} {f:FuncId} {args args':Xa2} {H:AHeap}
theorem FW {k b:Blk}{r:D}(id:Nat)(h:ACalls P f args (AHeap.an.push 0 k) λd H'=>qF H' d=r/\r.W=true/\0∉Bz d/\H'.get 0=some b)
  (a:∀ d∈args,d.W=true\/d=.own 0 k.T.length) (o:k.fz=false) (g:b.fz=false) (l:D.V k.T=true) (j:∀ d∈b.T.flatten,d.az=true) (q:H.get id=some k) (t:args.map (Yh id)=args') (c:CJ md dst=true)
  (s:BH sp i [id] acc) (u:j5 P md ops sp n0 (i+1) rest ((i,[id]) :: acc) (pE e dst r) (H.put id b) K):mR P md ops sp n0 i rest acc e dst K f args' H:=by
 unfold mR;subst t;exact Or.inr ⟨c,r,[id],[(id,b)],[],λp n=>(by
   have:p=(id,b):=by simpa using n
   subst this;simp),(λ_ h=>by cases h),
  λH' m _=>P0 h a o g l j ((m id eG).trans q) ⟨rfl,rfl⟩,by simpa using s,by simpa [AHeap.U,AHeap.af] using u⟩
end
theorem Kl {P:Program}{f:FuncId}{args:Xa2}{H H':AHeap}{Q:D->AHeap->Prop}(hg:Ghosts H H')(h:ACalls P f args H' Q):ACalls P f args H Q :=
 ⟨h.1,λM0 σ w vals hR ha=>by
  obtain ⟨σ1,g1,g2,g3⟩:=y6 hg hR;exact (h.2 M0 σ1 w vals g1 (ha.u g3)).mono λe w' ⟨v,d,H1,σ2,he,h1,hv,hs,hk,hq⟩=>⟨v,d,H1,σ2,he,h1,hv,g2.trans hs,g3.trans hk,hq⟩⟩
theorem tK {P:Program}{md:Nat->Bool}{ops:Array Oper}{a:List Oper}{e:d7}{b:Option Tmp}{K:d7->AHeap->Prop}{f:FuncId}{args:Xa2}{H H':AHeap}(c:Ghosts H H')(h:e8 P md ops a e b K f args H'):e8 P md ops a e b K f args H:=by grind [e8, Kl]
theorem Nv {P:Program}{f:FuncId}{args:Xa2}{H:AHeap}{Q Q':D->AHeap->Prop}(hQ:∀ d H',Q' d H'->∃ x tl,d=.tup (x :: tl)/\Q (.tup (x :: tl.map (iS H'))) (fJ (tl.flatMap dQ) H'))(h:ACalls P f args H Q'):ACalls P f args H Q :=
 ⟨h.1,λM0 σ w vals hR ha=>(h.2 M0 σ w vals hR ha).mono λe w' ⟨v,d,H',σ',he,hR',hv,hst,hk,hq⟩=>by
  obtain ⟨x,tl,rfl,hq'⟩:=hQ d H' hq;obtain ⟨f1,f2,_,_⟩:=fW (tl.flatMap dQ) hR';cases hv
  rename_i vs hl hr;obtain ⟨v0,us,rfl⟩:∃ v0 us,vs=v0 :: us:=by
   match vs,hl with
   | a :: l,_=>exact ⟨a,l,rfl⟩
  have ht:=Am hR' (vals:=us) (args:=tl) ⟨by simpa using hl,λj u d hu hd=>hr (j+1) u d (eL hu) (eL hd)⟩ (tl.flatMap dQ) λ_ h=>h;refine ⟨_,_,_,σ',he,f1,.tup (v0 :: us) (x :: tl.map (iS H')) (eL hl) λj u d hu hd=>?_,hst,hk.trans f2,hq'⟩;match j with
  | 0 =>
   simp only [eE,aZ] at hu hd;subst hu hd;exact (hr 0 v0 x rfl rfl).u f2
  | j+1=>exact ht.ad j u d (eL hu) (eL hd)⟩
end Go.Abs
end
