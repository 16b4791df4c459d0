/- The abstraction layer, part W: the rows that walk a region w -/
import Derived.Test.YtpdanmkcpjdmjaaGreatZkAE
import Derived.Test.YtpdanmkcpjdmjaaGreatZkAA
import Derived.Sort.OwnSortedInts
set_option linter.unusedVariables false
set_option linter.unusedSimpArgs false
section
namespace Go.Abs
def rA (P:Program)(md:Nat->Bool)(ops:Array Oper)(sp:List (Nat × Nat))(n0 i:Nat)(rest:List Oper)(acc:List (Nat × List Nat))(e:eF)(dst:Option Tmp)(K:eF->AHeap->Prop)(f:FuncId)(args:UN)(H:AHeap):Prop :=
 (∃ r S,(∀ H',f8 S H' H->ACalls P f args H' λv H1=>v=r/\H1=H')/\chk sp i S acc/\j9 P md ops sp n0 (i+1) rest ((i,S) :: acc) (pG e dst r) H K) \/
 (Et md dst=true/\∃ r S u q,(∀ p∈u,p.1∈S)/\(∀ p∈q,p.1<n0/\¬ H.F p.1)/\(∀ H',f8 S H' H->(∀ p∈q,p.1<H'.next/\¬ H'.F p.1)->ACalls P f args H' λv H1=>v=r/\H1=(H'.ag u).ac q) /\
  chk sp i (S++q.map (·.1)) acc/\j9 P md ops sp n0 (i+1) rest ((i,S++q.map (·.1)) :: acc) (pG e dst r) ((H.ag u).ac q) K)
def vO (P:Program)(md:Nat->Bool)(ops:Array Oper)(sp:List (Nat × Nat))(n0 i:Nat)(rest:List Oper)(acc:List (Nat × List Nat))(e:eF)(dst:Option Tmp)(K:eF->AHeap->Prop)(t:Bool)(f:FuncId)(args:UN)(H:AHeap):Prop :=
 ∃ r S,(t=true->∀ H',f8 S H' H->ACalls P f args H' λv H1=>v=r/\H1=H')/\chk sp i S acc/\j9 P md ops sp n0 (i+1) rest ((i,S) :: acc) (pG e dst (.opt t r)) H K
def LG (nid:Nat)(e:eF)(o:Oper):List Nat:=foot nid (match o.guard with|none=>e|some _=>gE e o.op) o.op
def uD (P:Program)(md:Nat->Bool)(ops:Array Oper)(sp:List (Nat × Nat))(n0 i:Nat)(rest:List Oper)(acc:List (Nat × List Nat))(e:eF)(dst:Option Tmp)(H:AHeap)(K:eF->AHeap->Prop)(F:List Nat):SOut->Prop
 | .op o=>o.cond/\chk sp i F acc/\j9 P md ops sp n0 (i+1) rest ((i,F) :: acc) (pG e dst o.val) o.heap K
 | .call f args=>rA P md ops sp n0 i rest acc e dst K f args H
 | .gop t g o=>(t=true->g=true)/\(t=true->o.cond/\o.heap=H)/\chk sp i F acc/\j9 P md ops sp n0 (i+1) rest ((i,F) :: acc) (pG e dst (.opt t o.val)) H K
 | .gcall t g f args=>(t=true->g=true)/\vO P md ops sp n0 i rest acc e dst K t f args H
 | .bad=>False
theorem R2 (P:Program)(md:Nat->Bool)(ops:Array Oper)(q:List (Nat × Nat))(n i:Nat)(o:Oper)(k:List Oper)(m:List (Nat × List Nat))(e:eF)(H:AHeap)(K:eF->AHeap->Prop) :
  j9 P md ops q n i (o :: k) m e H K=uD P md ops q n i k m e o.dst H K (LG (n+i) e o) (nP P md (n+i) ops e o H):=by
 obtain ⟨dst,op,type,pos,after,guard⟩:=o;cases guard with
 | none =>
  simp only [j9,qF,nP,LG];cases s:gZ e { dst:=dst,op:=op,type:=type,pos:=pos,after:=after,guard:=none } with
  | none=>simp [Mj,uD]
  | some p=>simp [Mj,uD,rA]
 | some p =>
  obtain ⟨j,b⟩:=p;simp only [j9,qF,nP,LG];cases u:gD ops e j with
  | none=>simp [JS,uD]
  | some gc =>
   obtain ⟨t,v⟩:=gc;cases s:gZ (gE e op) { dst:=dst,op:=op,type:=type,pos:=pos,after:=after,guard:=some (j,b) } with
   | none=>simp [JS,uD]
   | some p=>simp [JS,uD,vO]
@[go_sem] theorem Zm (P:Program)(md:Nat->Bool)(ops:Array Oper)(sp:List (Nat × Nat))(n0 i:Nat)(acc:List (Nat × List Nat))(e:eF)(H:AHeap)(K:eF->AHeap->Prop):j9 P md ops sp n0 i [] acc e H K=K e H:=rfl
section
variable (P:Program) (md:Nat→Bool) (ops:Array Oper) (sp:List (Nat × Nat)) (n0 i:Nat) (rest:List Oper) (acc:List (Nat × List Nat)) (e:eF) (dst:Option Tmp) (H H':AHeap) (K:eF→AHeap→Prop) (F:List Nat) (c f:Prop) (v:D) (t g:Bool) (fn:FuncId) (args:UN)
@[go_sem] theorem Z5:uD P md ops sp n0 i rest acc e dst H K F (.op ⟨c,f,v,H'⟩)=(c/\chk sp i F acc/\j9 P md ops sp n0 (i+1) rest ((i,F) :: acc) (pG e dst v) H' K):=rfl
@[go_sem] theorem X2:uD P md ops sp n0 i rest acc e dst H K F (.call fn args)=rA P md ops sp n0 i rest acc e dst K fn args H:=rfl
@[go_sem] theorem Za:uD P md ops sp n0 i rest acc e dst H K F (.gop t g ⟨c,f,v,H'⟩) =
 ((t=true->g=true)/\(t=true->c/\H'=H)/\chk sp i F acc/\j9 P md ops sp n0 (i+1) rest ((i,F) :: acc) (pG e dst (.opt t v)) H K):=rfl
@[go_sem] theorem Xs:uD P md ops sp n0 i rest acc e dst H K F (.gcall t g fn args)=((t=true->g=true)/\vO P md ops sp n0 i rest acc e dst K t fn args H):=rfl
@[go_sem] theorem X8 (d:Option Tmp)(op:Op)(ty:TypeId)(p:String)(af:Array Edge)(gu:Option (Nat × Bool)) :
 j9 P md ops sp n0 i (⟨d,op,ty,p,af,gu⟩ :: rest) acc e H K=uD P md ops sp n0 i rest acc e d H K (LG (n0+i) e ⟨d,op,ty,p,af,gu⟩) (nP P md (n0+i) ops e ⟨d,op,ty,p,af,gu⟩ H):=R2 P md ops sp n0 i _ rest acc e H K
@[go_sem] theorem aeG:chk [] i F acc=True:=rfl
end
@[go_sem] theorem acJ (p:Nat × Nat)(sp:List (Nat × Nat))(i:Nat)(F:List Nat)(acc:List (Nat × List Nat)):chk (p :: sp) i F acc = ∀ q∈acc,(q.1,i)∈(p :: sp)->∀ x∈q.2,x∉F:=rfl
@[go_sem] theorem Y3 (nid:Nat)(e:eF)(d:Option Tmp)(op:Op)(ty:TypeId)(p:String)(af:Array Edge):LG nid e ⟨d,op,ty,p,af,none⟩=foot nid e op:=rfl
@[go_sem] theorem Y2 (nid:Nat)(e:eF)(d:Option Tmp)(op:Op)(ty:TypeId)(p:String)(af:Array Edge)(g:Nat × Bool):LG nid e ⟨d,op,ty,p,af,some g⟩=foot nid (gE e op) op:=rfl
attribute [go_sem] foot In sD Op.operands Call.operands
@[go_sem] theorem YS (k:IntKind)(n:Int):eJ (.int k n)=[]:=rfl
@[go_sem] theorem X0 (b:Bool):eJ (.bool b)=[]:=rfl
@[go_sem] theorem YN (b:ByteArray):eJ (.str b)=[]:=rfl
@[go_sem] theorem YR:eJ .nil=[]:=rfl
@[go_sem] theorem XY (es:UE):eJ (.list es)=[]:=rfl
@[go_sem] theorem YU (es:UN):eJ (.adr es)=[]:=rfl
@[go_sem] theorem XW:eJ .nilp=[]:=rfl
@[go_sem] theorem XX:eJ .nilf=[]:=rfl
@[go_sem] theorem ZU (f:FuncId)(l:UN):eJ (.fn f l)=[]:=rfl
@[go_sem] theorem YP (id n:Nat):eJ (.own id n)=[id]:=rfl
@[go_sem] theorem YL (id n lo hi:Nat):eJ (.win id n lo hi)=[id]:=rfl
@[go_sem] theorem YO (id v i o:Nat):eJ (.ptr id v i o)=[id]:=rfl
@[go_sem] theorem YT (l:UN):eJ (.agg l)=l.flatMap lQ:=rfl
@[go_sem] theorem YQ (t:Bool)(d:D):eJ (.opt t d)=[]:=rfl
@[go_sem] theorem XZ:eJ .junk=[]:=rfl
@[go_sem] theorem YM (l:UN):eJ (.tup l)=[]:=rfl
/-! ### guards -/
def gV:D->Option (Bool × Bool)
 | .bool c=>some (true,c)
 | .opt g (.bool c)=>some (g,c)
 | _=>none
def gT (e:eF):Option Tmp->Option (Bool × Bool)
 | some t=>gV (e t)
 | none=>none
@[go_sem] theorem aeB (e:eF)(t:Nat):gT e (some t)=gV (e t):=rfl
@[go_sem] theorem aeA (c:Bool):gV (.bool c)=some (true,c):=rfl
@[go_sem] theorem afB (g c:Bool):gV (.opt g (.bool c))=some (g,c):=rfl
section
variable (P:Program) (md:Nat→Bool) (nid:Nat) (ops:Array Oper) (e:eF) (d:Option Tmp) (op:Op) (ty:TypeId) (p:String) (af:Array Edge) (H:AHeap) (j:Nat) (b:Bool)
@[go_sem] theorem Yn:nP P md nid ops e ⟨d,op,ty,p,af,some (j,b)⟩ H =
 JS (gD ops e j) b (UP e (gO op)) (gZ (gE e op) ⟨d,op,ty,p,af,none⟩) (GD P nid md (gE e op) ⟨d,op,ty,p,af,none⟩ H):=rfl
@[go_sem] theorem afC (l:List Oper):gD l.toArray e j=gT e ((l[j]?).bind (·.dst)):=by grind [gD, gT, gV]
end
@[go_sem] theorem Zw (t c b g:Bool)(f:FuncId)(args:UN)(o:AOut):JS (some (t,c)) b g (some (f,args)) o=.gcall (t&&(c==b)) g f args:=rfl
@[go_sem] theorem ac6 (t c b g:Bool)(o:AOut):JS (some (t,c)) b g none o=.gop (t&&(c==b)) g o:=rfl
attribute [go_sem] gE gO Operand.tmp.injEq UP og gZ GD Option.bind_some l5 JI gW Bool.and_true beq_false beq_true beq_self_eq_true
 dS Bool.and_self JJ Bool.not_false
@[go_sem] theorem Zt (e:eF)(d:Option Tmp)(v:D)(t:Nat):Fh (pG e d v) t=match pG e d v t with | .opt _ d=>d|d=>d:=rfl
@[go_sem] theorem Yl (l:UN)(t:Nat):Fh (DG l) t=match DG l t with | .opt _ d=>d|d=>d:=rfl
section
variable {P:Program} {md:Nat→Bool} {ops:Array Oper} {sp:List (Nat × Nat)} {n0 i:Nat} {rest:List Oper} {acc:List (Nat × List Nat)} {e:eF} {dst:Option Tmp} {K:eF→AHeap→Prop} {f:FuncId} {args args':UN} {H:AHeap} {r:D}
theorem LQ:chk sp i [] acc:=by
 unfold chk;grind
theorem aI (hp:Pure P f args r)(hcl:D.L args=true)(h:j9 P md ops sp n0 (i+1) rest ((i,[]) :: acc) (pG e dst r) H K):rA P md ops sp n0 i rest acc e dst K f args H :=
 .inl ⟨r,[],λH' _=>tC hp hcl ⟨rfl,rfl⟩,LQ,h⟩
theorem dO {t:Bool}(hp:t=true->Pure P f args r)(hcl:t=true->D.L args=true)(h:j9 P md ops sp n0 (i+1) rest ((i,[]) :: acc) (pG e dst (.opt t r)) H K):vO P md ops sp n0 i rest acc e dst K t f args H :=
 ⟨r,[],λht H' _=>tC (hp ht) (hcl ht) ⟨rfl,rfl⟩,LQ,h⟩
theorem aK {t:Bool}(b:t=true->Pure P f args r)(a:t=true->D.L args=true)(h:nX P md ops rest (pG e dst (.opt t r)) H K):AD P md ops rest e dst K t f args H:=by
 unfold AD;exact .inl ⟨r,[],λht H' _=>tC (b ht) (a ht) ⟨rfl,rfl⟩,h⟩
theorem yE {S:List Nat}{H':AHeap}(c:f8 S H' H){d:D}(b:∀ x∈lQ d,x∈S):fI H' d=fI H d:=by
 cases d<;>try rfl
 .rename_i a n;have:=c a (b a (by simp [lQ]));simp only [fI,this]
 .rename_i a n e f;have:=c a (b a (by simp [lQ]));simp only [fI,this]
theorem HD {S:List Nat}{H':AHeap}(b:f8 S H' H){d:D}(a:∀ x∈dW d,x∈S):iU H' d=iU H d:=by
 cases d<;>try rfl
 case own id n=>exact yE (d:=.own id n) b a
 case win id n lo hi=>exact yE (d:=.win id n lo hi) b a
 case agg l =>
  simp only [iU];congr 1;exact bJ λx e=>yE b λy c=>a y (by simp only [dW,bK];exact ⟨x,e,c⟩)
theorem Cv {S:List Nat}{H':AHeap}(ha:f8 S H' H){l:UN}(hd:∀ x∈l.flatMap dW,x∈S):l.map (iU H')=l.map (iU H) :=
 bJ λd hm=>HD ha λx hx=>hd x (bK.2 ⟨d,hm,hx⟩)
theorem Kn {t:Bool}(c:t=true->Pure P f args' r)(j:args.map (iU H)=args')(a:t=true->D.L args'=true)(d:t=true->r.aD=true){S:List Nat}(k:args.flatMap dW=S)(g:chk sp i S acc)
  (h:j9 P md ops sp n0 (i+1) rest ((i,S) :: acc) (pG e dst (.opt t r)) H K):vO P md ops sp n0 i rest acc e dst K t f args H:=by
 subst j k;refine ⟨r,_,λht H' hag=>?_,g,h⟩;have b:=Cv hag λx hx=>hx;exact y3 (by rw [b];exact c ht) (by rw [b];exact a ht) (d ht) ⟨rfl,rfl⟩
theorem Nc {t:Bool}(c:t=true->Pure P f args' r)(g:args.map (iU H)=args')(a:t=true->D.L args'=true)(d:t=true->r.aD=true)
  (h:nX P md ops rest (pG e dst (.opt t r)) H K):AD P md ops rest e dst K t f args H:=by
 subst g;unfold AD;refine .inl ⟨r,args.flatMap dW,λht H' hag=>?_,h⟩;have b:=Cv hag λx hx=>hx;exact y3 (by rw [b];exact c ht) (by rw [b];exact a ht) (d ht) ⟨rfl,rfl⟩
end
/-! ### calls of function values -/
def S0:D->UN->Option (FuncId × UN)
 | .fn g caps,az=>some (g,az++caps)
 | _,_=>none
@[go_sem] theorem acK (g:FuncId)(caps az:UN):S0 (.fn g caps) az=some (g,az++caps):=rfl
theorem RU (e:eF)(d:Option Tmp)(f:Operand)(args:Array Operand)(ts:Array TypeId)(ty:TypeId)(p:String)(a:Array Edge)(g:Option (Nat × Bool)) :
  gZ e ⟨d,.call ⟨.value f,args,ts⟩,ty,p,a,g⟩=S0 (fC e f) (args.toList.map (fC e)):=by grind [gZ, S0]
@[go_sem] theorem adA (P:Program)(md:Nat->Bool)(nid:Nat)(ops:Array Oper)(e:eF)(d:Option Tmp)(ty:TypeId)(p:String)(a:Array Edge)(H:AHeap)(t:Nat)(args:Array Operand)(ts:Array TypeId) :
  nP P md nid ops e ⟨d,.call ⟨.value (.tmp t),args,ts⟩,ty,p,a,none⟩ H=Mj (S0 (e t) (args.toList.map (fC e))) (.bad H):=by
 simp only [nP,RU];rfl
attribute [go_sem] decide_eq_true_eq dF dE
attribute [irreducible] rA vO
end Go.Abs
end
section
namespace Go.Abs
attribute [go_sem] D.cell D.P D.L D.O D.aD D.bH tQ sQ uP List.take_zero List.drop_succ_cons List.drop_zero mF List.replicate_zero e8 List.flatten_nil
def dI (n:Int):D:=.int .i64 n
def cI (n:Int):UN:=[.int .i64 n]
def cS (s:ByteArray):UN:=[.str s]
def dLI (xs:W3):D:=.list (xs.map cI)
def sK (xs:List ByteArray):D:=.list (xs.map cS)
structure Attr where
 name:ByteArray
 aw:Int
 ax:Int
 ad:List ByteArray
def Attr.c (a:Attr):UN:=[.str a.name,dI a.aw,dI a.ax,sK a.ad]
structure NodeTy where
 name:ByteArray
 D:Int
 ce:Bool
 r:List Attr
def NodeTy.c (n:NodeTy):UN:=[.str n.name,dI n.D,.bool n.ce,.list (n.r.map Attr.c)]
structure EdgeTy where
 name:ByteArray
 w:Int
 M:Int
 bx:Int
 bi:Int
 bW:Int
 bz:Int
def EdgeTy.c (x:EdgeTy):UN:=[.str x.name,dI x.w,dI x.M,dI x.bx,dI x.bi,dI x.bW,dI x.bz]
structure Types where
 h:List NodeTy
 i:List EdgeTy
def Types.c (t:Types):UN:=[.list (t.h.map NodeTy.c),.list (t.i.map EdgeTy.c)]
def Types.d (t:Types):D:=.agg t.c
structure Edge where
 type:Int
 w:Int
 M:Int
def Edge.c (x:Edge):UN:=[dI x.type,dI x.w,dI x.M]
structure Graph where
 h:W3
 i:List Edge
def Graph.c (g:Graph):UN:=[dLI g.h,.list (g.i.map Edge.c)]
def Graph.d (g:Graph):D:=.agg g.c
/-! ### closed -/
theorem dN {α:Type}(f:α->UN)(h:∀ a,D.L (f a)=true)(l:List α):D.O (l.map f)=true:=by
 induction l with
 | nil=>rfl
 | cons a l ih=>simp [D.O,h,ih]
@[go_sem] theorem qA (l:W3):(dLI l).P=true:=by simp only [dLI,D.P];exact dN _ (λ_=>rfl) l
@[go_sem] theorem V9 (l:List ByteArray):(sK l).P=true:=by simp only [sK,D.P];exact dN _ (λ_=>rfl) l
@[go_sem] theorem Attr.P (a:Attr):D.L a.c=true:=by simp [Attr.c,D.L,D.P,dI,V9]
@[go_sem] theorem NodeTy.P (n:NodeTy):D.L n.c=true:=by simp [NodeTy.c,D.L,D.P,dI,dN _ Attr.P]
@[go_sem] theorem EdgeTy.P (x:EdgeTy):D.L x.c=true:=by simp [EdgeTy.c,D.L,D.P,dI]
@[go_sem] theorem Types.P (t:Types):t.d.P=true:=by simp [Types.d,Types.c,D.L,D.P,dN _ NodeTy.P,dN _ EdgeTy.P]
@[go_sem] theorem Edge.P (x:Edge):D.L x.c=true:=by simp [Edge.c,D.L,D.P,dI]
@[go_sem] theorem Graph.P (g:Graph):g.d.P=true:=by simp [Graph.d,Graph.c,D.L,D.P,qA,dN _ Edge.P]
@[go_sem] theorem aaI (a b:D)(l:UN):Hb (a :: b :: l)=.tup (a :: b :: l):=rfl
end Go.Abs
end
section
namespace Go.Abs
structure Term where
 N:Int
 add:Int
def Term.c (x:Term):UN:=[dI x.N,dI x.add]
structure Slot where
 node:Int
 J:Int
 x:Term
def Slot.c (x:Slot):UN:=[dI x.node,dI x.J,dI x.x.N,dI x.x.add]
structure Test where
 E:Int
 left:Term
 right:Term
def Test.c (x:Test):UN:=[dI x.E,dI x.left.N,dI x.left.add,dI x.right.N,dI x.right.add]
structure Pattern where
 j:Graph
 l:List Slot
 vars:Int
 G:List Test
def Pattern.c (p:Pattern):UN:=[dLI p.j.h,.list (p.j.i.map Edge.c),.list (p.l.map Slot.c),dI p.vars,.list (p.G.map Test.c)]
def Pattern.d (p:Pattern):D:=.agg p.c
structure Part where
 h:W3
 i:W3
def Part.c (p:Part):UN:=[dLI p.h,dLI p.i]
def Part.d (p:Part):D:=.agg p.c
inductive Cond where
 | mk (kind:Int) (kids:List Cond) (map:Part) (pattern:Pattern)
def Cond.E:Cond->Int | .mk k _ _ _=>k
def Cond.s:Cond->List Cond | .mk _ l _ _=>l
def Cond.map:Cond->Part | .mk _ _ m _=>m
def Cond.o:Cond->Pattern | .mk _ _ _ p=>p
mutual
def Cond.c:Cond->UN
 | .mk k l m p=>[dI k,.list (Cond.cs l),dLI m.h,dLI m.i,dLI p.j.h,.list (p.j.i.map Edge.c),.list (p.l.map Slot.c),dI p.vars,.list (p.G.map Test.c)]
def Cond.cs:List Cond->UE
 | []=>[]
 | c :: l=>c.c :: Cond.cs l
end
theorem Cond.bs (l:List Cond):Cond.cs l=l.map Cond.c:=by
 induction l with
 | nil=>simp [Cond.cs]
 | cons a l ih=>simp [Cond.cs,ih]
theorem Cond.A (x:Cond):x.c=[dI x.E,.list (x.s.map Cond.c),dLI x.map.h,dLI x.map.i,dLI x.o.j.h,.list (x.o.j.i.map Edge.c),.list (x.o.l.map Slot.c),dI x.o.vars,.list (x.o.G.map Test.c)]:=by
 cases x;simp [Cond.c,Cond.E,Cond.s,Cond.map,Cond.o,Cond.bs]
structure Rule where
 name:ByteArray
 left:Pattern
 right:Pattern
 q:Part
 u:Part
 inj:Bool
 cond:Cond
def Rule.c (r:Rule):UN:=[.str r.name,dLI r.left.j.h,.list (r.left.j.i.map Edge.c),.list (r.left.l.map Slot.c),dI r.left.vars,.list (r.left.G.map Test.c),
 dLI r.right.j.h,.list (r.right.j.i.map Edge.c),.list (r.right.l.map Slot.c),dI r.right.vars,.list (r.right.G.map Test.c),
 dLI r.q.h,dLI r.q.i,dLI r.u.h,dLI r.u.i,.bool r.inj,
 dI r.cond.E,.list (r.cond.s.map Cond.c),dLI r.cond.map.h,dLI r.cond.map.i,dLI r.cond.o.j.h,.list (r.cond.o.j.i.map Edge.c),.list (r.cond.o.l.map Slot.c),dI r.cond.o.vars,.list (r.cond.o.G.map Test.c)]
def Rule.d (r:Rule):D:=.agg r.c
structure Stage where
 dj:W3
 dn:W3
def Stage.c (s:Stage):UN:=[dLI s.dj,dLI s.dn]
@[go_sem] theorem Slot.P (x:Slot):D.L x.c=true:=rfl
@[go_sem] theorem Test.P (x:Test):D.L x.c=true:=rfl
@[go_sem] theorem Hp (l:List Slot):D.O (l.map Slot.c)=true:=dN _ Slot.P l
@[go_sem] theorem N2 (l:List Test):D.O (l.map Test.c)=true:=dN _ Test.P l
@[go_sem] theorem Stage.P (x:Stage):D.L x.c=true:=by simp [Stage.c,D.L,qA]
@[go_sem] theorem Zu (l:List Stage):D.O (l.map Stage.c)=true:=dN _ Stage.P l
theorem xM (l:List Edge):D.O (l.map Edge.c)=true:=dN _ Edge.P l
mutual
theorem Cond.P:∀ x:Cond,D.L x.c=true
 | .mk k l m p=>by
  have:=Cond.cd l;simp [Cond.c,D.L,D.P,dI,qA,this,xM,Hp,N2]
theorem Cond.cd:∀ l:List Cond,D.O (Cond.cs l)=true
 | []=>by simp [Cond.cs,D.O]
 | c :: l=>by simp [Cond.cs,D.O,Cond.P c,Cond.cd l]
end
attribute [go_sem] Cond.P
@[go_sem] theorem Wa (l:List Cond):D.O (l.map Cond.c)=true:=by rw [<- Cond.bs];exact Cond.cd l
@[go_sem] theorem Rule.P (r:Rule):D.L r.c=true:=by
 simp [Rule.c,D.L,D.P,dI,qA,xM,Hp,N2,Wa]
@[go_sem] theorem aaN (l:List Rule):D.O (l.map Rule.c)=true:=dN _ Rule.P l
end Go.Abs
end
section
namespace Go.Abs
def Gi (H:AHeap)(d:D):D :=
 match d with
 | .ptr id ver i off=>match fP H (.ptr id ver i off) with
  | some (c :: cs)=>.adr (c :: cs)
  | _=>.ptr id ver i off
 | d=>fI H d
def Xm:D->List Nat
 | .ptr id _ _ _=>[id]
 | d=>lQ d
def J0 (H:AHeap)(d:D):D :=
 match d with
 | .fn g caps=>.fn g (caps.map (Gi H))
 | .ptr id ver i off=>Gi H (.ptr id ver i off)
 | d=>iU H d
def VU:D->List Nat
 | .fn _ caps=>caps.flatMap Xm
 | .ptr id _ _ _=>[id]
 | d=>dW d
section
variable {P:Program} {M0:Nat→Prop} {H:AHeap} {σ:Nat→Option Ow} {w:World}
theorem DQ {H H':AHeap}(h:∀ i,(H'.get i).map (·.U)=(H.get i).map (·.U))(d:D):fP H' d=fP H d:=by
 cases d<;>try rfl
 rename_i c a i b;simp only [fP];grind
theorem Ae {v:Value}{d:D}(s:Rel M0 H σ w)(m:RepV (dJ M0 H σ) σ H.F w v d)(G:∀ i∈Xm d,∀ k,H.get i=some k->k.fz=true) :
  RepV (dJ M0 H σ) σ H.F w v (Gi H d):=by
 cases d<;>try exact nA s m G
 rename_i g ver i t;simp only [Gi];cases B:fP H (.ptr g ver i t) with
 | none=>exact m
 | some I =>
  cases I with
  | nil=>exact m
  | cons c I =>
   obtain ⟨J,K,M,a,Q,e⟩:=rQ s m B dB;subst M;have A:¬ dJ M0 H σ J.block:=by
    cases q:H.get g with
    | none=>simp [fP,q] at B
    | some k =>
     obtain ⟨o,z,l⟩:=s.ah g k q;have F:k.U.length=ver:=by
      simp only [fP,q] at B;grind
     cases m
     rename_i S P h;rcases h o z with T|⟨_,b,n,x⟩
     .have:=l.af;omega
     .cases x
      rintro (N|⟨E,R,L,p,r,y,C⟩)
      .exact (s.lt g o b z n).2 N
      .have O:=s.inj E g L o b y z C n;subst O;rw [q] at p;cases p
       rw [G E (by simp [Xm]) k q] at r;cases r
   exact .adr J K _ a.len Q (λj u hu=>⟨A,e j u hu⟩) a.Z
theorem Oh {v:Value}{d:D}(p:Rel M0 H σ w)(e:RepV (dJ M0 H σ) σ H.F w v d)(a:List Nat)(h:∀ i∈VU d,i∈a) :
  RepV (dJ M0 (fN a H) σ) σ (fN a H).F w v (J0 H d):=by
 obtain ⟨q,B,C,n⟩:=fY a p;have c:=e.q B;have f:∀ i∈a,∀ k,(fN a H).get i=some k->k.fz=true:=λi h k hk=>by
  have m:=(n i).1;rw [hk] at m;cases l:H.get i with
  | none=>rw [l] at m;cases m
  | some k0 =>
   grind
 have b:∀ d,Gi (fN a H) d=Gi H d:=λd=>by
  have z:=qT (λi=>(n i).1) d;cases d with
  | ptr id ver i off=>simp only [Gi,DQ (λi=>(n i).1)]
  | _=>exact z
 cases d with
 | fn g caps =>
  cases c
  rename_i r A t;refine .fn g r _ (eQ A) λj u x hu e=>?_;rw [aM,bV] at e;obtain ⟨y,s,rfl⟩:=e;rw [<- b y];refine Ae q (t j u y hu s) λi hii k hk=>f i (h i ?_) k hk;simp only [VU,bK];grind
 | ptr id ver i off =>
  simp only [J0];rw [<- b];exact Ae q c λi hii k hk=>f i (h i hii) k hk
 | _=>exact mZ p e a h
theorem TG {vals:List Value}{args:UN}(hR:Rel M0 H σ w)(ha:RepL (dJ M0 H σ) σ H.F w vals args)(ids:List Nat)(hi:∀ i∈args.flatMap VU,i∈ids) :
  RepL (dJ M0 (fN ids H) σ) σ (fN ids H).F w vals (args.map (J0 H)) :=
 ⟨by simpa using ha.len,λj u d hu hd=>by
  rw [aM,bV] at hd;obtain ⟨y,hy,rfl⟩:=hd;exact Oh hR (ha.Z j u y hu hy) ids λi hii=>hi i (bK.2 ⟨y,aL hy,hii⟩)⟩
theorem NG {f:FuncId}{args:UN}{r:D}{Q:D->AHeap->Prop}(c:Pure P f (args.map (J0 H)) r)(b:D.L (args.map (J0 H))=true)(g:r.aD=true)(k:Q r H):ACalls P f args H Q:=by
 refine ⟨c.1,λM0 σ w vals hR ha=>?_⟩;obtain ⟨o,s,q,p⟩:=fY (args.flatMap VU) hR;refine (c.2 (dJ M0 (fN (args.flatMap VU) H) σ) w vals (v8 o) (g5 (λ_ h=>h) (TG hR ha _ λi h=>h) b)).mono λe w' ⟨v,j,d,a⟩=>?_;obtain ⟨n,m,l⟩:=hR.grow a.os a.tape a.output a.size a.block;exact ⟨v,r,H,σ,j,n,AF d g,m,l,k⟩
theorem vS {md:Nat->Bool}{ops:Array Oper}{a:List Oper}{e:eF}{b:Option Tmp}{K:eF->AHeap->Prop}{f:FuncId}{args args':UN}{r:D}(d:Pure P f args' r)(i:args.map (J0 H)=args')(c:D.L args'=true)(g:r.aD=true)
 (h:nX P md ops a (pG e b r) H K):fE P md ops a e b K f args H:=by grind [fE, NG]
end
theorem Own.pure {P:Program}{f:FuncId}{args:UN}{ty:TypeId}{sz:Nat}{es:UE}(h:Own P f args ty sz es):Pure P f args (.list es):=by
 refine ⟨h.1,λM w vals hM ha=>(h.2 M w vals hM ha).mono λe w' ⟨v,z,C,k,F,m,x,s,E⟩=>⟨v,C,?_,E⟩⟩;have o:D.L es.flatten=true:=D2 λd hd=>by
  obtain ⟨c,l,q⟩:=jE.1 hd;exact jN (rJ x c l) d q
 have a:RepL M iP sO w' z es.flatten:=g5 (λb h h'=>h (.inl h')) m o;rcases k.2 with ⟨n,G⟩|⟨g,y,H,i,I,p,t,l,B,r⟩
 .rw [n,bT G];exact .listN
 .rw [i];refine .list ⟨g,0,none⟩ y sz z es t l s a.len F (λj u hu=>⟨λhm=>?_,k.cells (g:=g) (by simp [i,Value.ownBlock]) j u hu⟩) a.Z;grind
end Go.Abs
end
section
namespace Go.Abs
def T1:D->D
 | .nil=>.list []
 | d=>d
def Vx:D->D
 | .agg cs=>.agg (cs.map T1)
 | d=>T1 d
def UQ:D->D
 | .tup vs=>.tup (vs.map Vx)
 | d=>Vx d
@[go_sem] theorem adY (k:IntKind)(n:Int):T1 (.int k n)=.int k n:=rfl
@[go_sem] theorem abO (b:Bool):T1 (.bool b)=.bool b:=rfl
@[go_sem] theorem adW (b:ByteArray):T1 (.str b)=.str b:=rfl
@[go_sem] theorem abN (l:UE):T1 (.list l)=.list l:=rfl
@[go_sem] theorem adX:T1 .nil=.list []:=rfl
@[go_sem] theorem adU (k:IntKind)(n:Int):Vx (.int k n)=.int k n:=rfl
@[go_sem] theorem abM (b:Bool):Vx (.bool b)=.bool b:=rfl
@[go_sem] theorem adS (b:ByteArray):Vx (.str b)=.str b:=rfl
@[go_sem] theorem abL (l:UE):Vx (.list l)=.list l:=rfl
@[go_sem] theorem adT:Vx .nil=.list []:=rfl
@[go_sem] theorem adV (l:UN):Vx (.agg l)=.agg (l.map T1):=rfl
@[go_sem] theorem adQ (k:IntKind)(n:Int):UQ (.int k n)=.int k n:=rfl
@[go_sem] theorem abK (b:Bool):UQ (.bool b)=.bool b:=rfl
@[go_sem] theorem adO (b:ByteArray):UQ (.str b)=.str b:=rfl
@[go_sem] theorem abJ (l:UE):UQ (.list l)=.list l:=rfl
@[go_sem] theorem adP:UQ .nil=.list []:=rfl
@[go_sem] theorem adR (l:UN):UQ (.agg l)=.agg (l.map T1):=rfl
@[go_sem] theorem adN (l:UN):UQ (.tup l)=.tup (l.map Vx):=rfl
theorem MM {M:Nat->Prop}{σ:Nat->Option Ow}{N:Nat->Prop}{w:World}{v:Value}{d:D}(h:RepV M σ N w v d):RepV M σ N w v (T1 d):=by
 cases d<;>try exact h
 cases h
 exact .listN
theorem ML {M:Nat->Prop}{σ:Nat->Option Ow}{N:Nat->Prop}{w:World}{v:Value}{d:D}(h:RepV M σ N w v d):RepV M σ N w v (Vx d):=by
 cases d<;>try exact MM h
 cases h
 rename_i a f e c;refine .agg a _ (eQ e) f λj u d hu hd=>?_;rw [aM,bV] at hd;obtain ⟨y,b,rfl⟩:=hd;exact MM (c j u y hu b)
theorem W9 {M:Nat->Prop}{σ:Nat->Option Ow}{N:Nat->Prop}{w:World}{v:Value}{d:D}(h:RepV M σ N w v d):RepV M σ N w v (UQ d):=by
 cases d<;>try exact ML h
 cases h
 rename_i a e c;refine .tup a _ (eQ e) λj u d hu hd=>?_;rw [aM,bV] at hd;obtain ⟨y,b,rfl⟩:=hd;exact ML (c j u y hu b)
section
variable {P:Program} {c:Cfg}
theorem Sk {f:FuncId}{args:UN}{r:D}(g:r.P=true)(h:∀ Q:D->AHeap->Prop,(∀ d H',(rZ H' d=r\/UQ (rZ H' d)=r)->Q d H')->ACalls P f args .an Q):Pure P f args r:=by
 have h:=h (λd H'=>rZ H' d=r\/UQ (rZ H' d)=r) λ_ _ h=>h;refine ⟨h.1,λM w vals hM ha=>(h.2 M iP w vals (GO M w hM) (by rw [GS];exact ha)).mono λe w' ⟨v,d,H',σ',k,m,j,c,o,b⟩=>⟨v,k,?_,AT c⟩⟩;have n:RepV (dJ M (fN (Ep d) H') σ') σ' (fN (Ep d) H').F w' v r:=by
  have a:=u0 m j (Ep d) λi hi=>hi;rcases b with b|b
  .rw [b] at a;exact a
  .have a:=W9 a;rw [b] at a;exact a
 exact n.aQ (λad u hm l=>⟨λh=>hm (.inl h),l⟩) g
theorem aeZ {f:FuncId}{args:UN}{ty:TypeId}{sz:Nat}{es:UE}(hcl:D.O es=true)
  (h:∀ Q:D->AHeap->Prop,(∀ id n H',n=es.length->H'.get id=some ⟨ty,sz,es,false⟩->Q (.own id n) H')->ACalls P f args .an Q):Own P f args ty sz es :=
 C7 (h _ λid n H' hn hg=>⟨id,_,by rw [hn],hg,rfl,rfl,rfl,rfl,hcl⟩)
def FG (I:Nat->eF->AHeap->Prop)(m:Nat->Nat)(x:Nat)(e:eF)(H:AHeap):Prop:=∃ H',Ghosts H H'/\∃ x',m x'<m x/\I x' e H'
theorem mI {I:Nat->eF->AHeap->Prop}{m:Nat->Nat}{x:Nat}{e:eF}{H:AHeap}(x':Nat)(hm:m x'<m x)(hI:I x' e H):FG I m x e H:=⟨H,.refl H,x',hm,hI⟩
theorem Ik {I:Nat->eF->AHeap->Prop}{m:Nat->Nat}{x:Nat}{e:eF}{H H':AHeap}(hg:Ghosts H H')(x':Nat)(hm:m x'<m x)(hI:I x' e H'):FG I m x e H:=⟨H',hg,x',hm,hI⟩
theorem FJ {b:Code}{Q:Exit->eF->AHeap->Prop}{e:eF}{H:AHeap}(I:Nat->eF->AHeap->Prop)(μ:Nat->Nat)(x0:Nat)(h0:I x0 e H)
 (hs:∀ x e H,I x e H->pD P c b (uU (FG I μ x) Q) e H):BH P c b Q e H:=Dl (.refl H) I μ x0 h0 hs
theorem YG {b:Code}{Q:Exit->eF->AHeap->Prop}{e:eF}{H H':AHeap}(hg:Ghosts H H')(I:Nat->eF->AHeap->Prop)(μ:Nat->Nat)(x0:Nat)(h0:I x0 e H')
 (hs:∀ x e H,I x e H->pD P c b (uU (FG I μ x) Q) e H):BH P c b Q e H:=Dl hg I μ x0 h0 hs
end
@[go_sem] theorem Z0 (H:AHeap)(id i off:Nat)(ty sz:Nat):IM H id i off ty sz=match H.get id with
 | some k=>(H.put id { k with U:=k.U.set i ((k.U[i]?.getD []).set off (.own H.next 0)) }).push H.next ⟨ty,sz,[],false⟩
 | none=>H:=rfl
@[go_sem] theorem YZ (H:AHeap)(id i off q hi:Nat):Cf H id i off q hi=match H.get id,H.get q with
 | some k,some kq=>(((H.drop q).push H.next ⟨kq.ty,kq.Y,kq.U.take hi,false⟩).put id { k with U:=k.U.set i ((k.U[i]?.getD []).set off (.own H.next hi)) })
 | _,_=>H:=rfl
attribute [go_sem] wP Fc
attribute [irreducible] FG
theorem iD {p:Prop}(h:p:=by (first|assumption|(intros;first|assumption|omega|exact dL aD aD|(and_intros<;>first|assumption|omega|exact dL aD aD))|(simp_all<;>omega))):p:=h
theorem gX {p:Prop}(h:p:=by (first|assumption|(intros;first|assumption|omega|exact dL aD aD|(and_intros<;>first|assumption|omega|exact dL aD aD))|(simp;done)|(simp;omega))):p:=h
end Go.Abs
end
section
namespace Go.Abs
section
variable {P:Program} {M0:Nat→Prop} {H:AHeap} {σ:Nat→Option Ow} {w:World}
theorem A2 (zs:W3):(zs.map cI).flatten=zs.map (D.int .i64):=by
 induction zs with
 | nil=>rfl
 | cons a l b=>simp only [iH,e8,b,cI];rfl
theorem AW {M:Nat->Prop}{N:Nat->Prop}(zs:W3):RepL M σ N w (zs.map (Value.int .i64)) (zs.map cI).flatten:=by
 rw [A2];refine ⟨by simp,λj u d hu hd=>?_⟩;rw [aM,bV] at hu hd;obtain ⟨x,b,rfl⟩:=hu;obtain ⟨y,a,rfl⟩:=hd;rw [b] at a;cases a
 exact .int _ _
def GG (w:World)(ty:TypeId)(v:Value)(xs:W3):Prop:=w.ownsRow 0 ty 1 v xs.length (xs.map (Value.int .i64))
theorem Si (x:Rel M0 H σ w){d:Nat}{ty:TypeId}{xs:W3}(t:H.get d=some ⟨ty,1,xs.map cI,false⟩){v:Value}(m:RepV (dJ M0 H σ) σ H.F w v (.own d xs.length)) :
  ∃ o,σ d=some o/\v=o.val/\o.af=xs.length/\o.ty=ty/\o.H=1/\GG w ty v xs:=by
 obtain ⟨o,i,l⟩:=x.ah d _ t;have c:o.af=xs.length:=by have:=l.af;simpa using this
 cases m
 rename_i A B h;rcases h o i with C|⟨_,rfl⟩
 .omega
 .obtain ⟨b,g,p,a⟩:=l.row;have n:b=xs.map (Value.int .i64):=by
   simp only [A2] at a;apply fL;intro j;have s:=a.len;simp only [aT] at s;by_cases e:j<xs.length
   .have y:=a.Z j b[j] (D.int .i64 xs[j]) (aA aD) (by simp [e]);generalize b[j]=u at y;have f:b[j]?=some b[j]:=aA aD;have k:=a.Z j b[j] (D.int .i64 xs[j]) f (by simp [e]);generalize z:b[j]=q at f k;rw [f];cases k
    simp [e]
   grind
  refine ⟨o,i,rfl,c,l.ty,l.Y,?_⟩;unfold GG;have r:o.H=1:=l.Y;grind
theorem Oq {w':World}(n:Rel M0 H σ w){a:Nat}{ty:TypeId}{xs zs:W3}(g:Bool)(m:H.get a=some ⟨ty,1,xs.map cI,false⟩){o:Ow}(k:σ a=some o)(e:o.af=xs.length)(h:o.ty=ty)(d:o.H=1)
  (l:zs.length=xs.length) (j:w.grownBy w' o.block) (f:GG w' ty o.val zs) :
  Rel M0 (H.put a ⟨ty,1,zs.map cI,g⟩) (λi=>if i=a then some o else σ i) w'/\Stp σ w (λi=>if i=a then some o else σ i) w' /\
   Keeps (dJ M0 H σ) σ H.F w (dJ M0 (H.put a ⟨ty,1,zs.map cI,g⟩) (λi=>if i=a then some o else σ i)) (λi=>if i=a then some o else σ i) (H.put a ⟨ty,1,zs.map cI,g⟩).F w':=by
 refine Rel.put n m rfl k ⟨ty,1,zs.map cI,g⟩ o j (λb hb=>.inl hb) (.inl rfl) (by simp [e,l]) h d (λc hc=>?_) (zs.map (Value.int .i64)) ?_ (λu hu=>?_) (AW zs)
 .obtain ⟨x,_,rfl⟩:=aW.1 hc;rw [d];rfl
 .rw [d];simpa [GG] using f
 .obtain ⟨x,_,rfl⟩:=aW.1 hu;rfl
theorem Qk {f:FuncId}{i:Nat}{ty:TypeId}{xs zs:W3}{Q:D->AHeap->Prop}(h:Yc P f)(n:H.get i=some ⟨ty,1,xs.map cI,false⟩)(r:zs.length=xs.length)
  (t:∀ (w:World) (v:Value),GG w ty v xs->Calls P f #[v] w λe w'=>e=.returned (.tuple #[])/\w.grownBy w' v.ownBlock/\GG w' ty v zs)
  (x:Q (.tup []) (H.put i ⟨ty,1,zs.map cI,false⟩)):ACalls P f [.own i xs.length] H Q:=by
 refine ⟨h,λM0 σ w vals hR ha=>?_⟩;obtain ⟨g,p⟩:=ha;match vals,g with
 | [v],_ =>
  obtain ⟨o,q,rfl,b,k,l,c⟩:=Si hR n (p 0 v _ rfl rfl);refine (t w _ c).mono λe w' ⟨s,m,a⟩=>?_;obtain ⟨A,z,y⟩:=Oq hR false n q b k l r m a;exact ⟨_,.tup [],_,_,s,A,.tup [] [] rfl (λj u d hu=>by simp at hu),z,y,x⟩
theorem Nx {f:FuncId}{b:Nat}{ty:TypeId}{xs zs:W3}{m:Nat}{Q:D->AHeap->Prop}(A:Yc P f)(X:H.get b=some ⟨ty,1,xs.map cI,false⟩)(hl:zs.length=xs.length)(hm:m<=xs.length)
  (T:∀ (w:World) (v:Value),GG w ty v xs->Calls P f #[v] w λe w'=>(∃ r,e=.returned r/\((v=.slice none 0 0/\r=v)\/∃ g n cap,v=.slice (some g) n cap/\r=.slice (some g) m cap))/\w.grownBy w' v.ownBlock/\GG w' ty v zs)
  (hQ:Q (.list ((zs.take m).map cI)) (H.put b ⟨ty,1,zs.map cI,true⟩)):ACalls P f [.own b xs.length] H Q:=by
 refine ⟨A,λM0 σ w vals hR ha=>?_⟩;obtain ⟨y,hr⟩:=ha;match vals,y with
 | [v],_ =>
  obtain ⟨o,I,rfl,q,E,F,d⟩:=Si hR X (hr 0 v _ rfl rfl);refine (T w _ d).mono λe w' ⟨⟨r,he,G⟩,O,a⟩=>?_;obtain ⟨h1,h2,h3⟩:=Oq hR true X I q E F hl O a;refine ⟨r,.list ((zs.take m).map cI),_,_,he,h1,?_,h2,h3,hQ⟩;rcases G with ⟨h,rfl⟩|⟨g,n,cap,h,rfl⟩
  .have hz:zs=[]:=by
    rcases d.2 with ⟨_,h0⟩|⟨B,C,V,s,_⟩
    .exact bT aD
    grind
   subst hz;rw [h];simpa using RepV.listN
  .rcases a.2 with ⟨W,_⟩|⟨B,C,V,s,a3,Y,a1,S,a2,a0⟩
   .rw [h] at W;cases W
   .have p:=s;rw [h] at p;cases p
    have K:(zs.take m).length=m:=by simp;omega
    have R:=A2 (zs.take m);have k:=RepV.list (M:=dJ M0 (H.put b ⟨ty,1,zs.map cI,true⟩) (λi=>if i=b then some o else σ i)) (σ:=λi=>if i=b then some o else σ i) (N:=(H.put b ⟨ty,1,zs.map cI,true⟩).F) (w:=w')
     ⟨B,0,none⟩ cap 1 ((zs.take m).map (Value.int .i64)) ((zs.take m).map cI) (by simp;omega) S (λc T=>(by obtain ⟨x,_,rfl⟩:=aW.1 T;rfl)) (by rw [R];simp)
     (λu hu=>(by obtain ⟨x,_,rfl⟩:=aW.1 hu;rfl))
     (λj u hu=>by
      refine ⟨?_,?_⟩
      .rintro (J|⟨i,k',Z,z,hf,t,U⟩)
       .exact (hR.lt b o B I (by simp [Ow.block,h,Value.ownBlock])).2 J
       .by_cases L:i=b
        .simp only [AHeap.put,L,if_true,bH] at z;subst z;cases hf
        .simp only [L,if_false] at t;exact L (hR.inj i b Z o B t I U (by simp [Ow.block,h,Value.ownBlock]))
      .have:=a.cells (g:=B) (by simp [h,Value.ownBlock]) j u (by
        rw [aM] at hu ⊢;rw [cF] at hu;split at hu
        .exact hu
        .simp at hu)
       exact this)
     (AW (zs.take m)).Z
    simp only [aT,K] at k;exact k
end
end Go.Abs
end
section
namespace Go.Abs
section
variable {P:Program} {M0:Nat→Prop} {H:AHeap} {σ:Nat→Option Ow} {w:World}
structure Made (M:Nat->Prop) (w w':World) (v:Value) (b:Blk) (xs:List Value):Prop where
 row:w'.ownsRow w.heap.size b.ty b.Y v b.U.length xs
 one:∀ u∈xs,u.oneCell'=true
 Z:RepL M iP sO w' xs b.U.flatten
 P:D.O b.U=true
 Y:∀ c∈b.U,c.length=b.Y
theorem Qp {f:FuncId}{args:UN}{ty:TypeId}{sz:Nat}{es:UE}{Q:D->AHeap->Prop}(N:Own P f args ty sz es)(J:D.L args=true)(q:Nat)(V:¬ H.F q)
  (Y:Q (.own q es.length) (H.push q ⟨ty,sz,es,false⟩)):ACalls P f args H Q:=by
 refine ⟨N.1,λM0 σ w vals hR ha=>(N.2 (dJ M0 H σ) w vals (v8 hR) (g5 (λ_ h=>h) ha J)).mono λe w' ⟨v,M,X,k,L,t,y,F,A⟩=>?_⟩;have m:w'.ownsRow 0 ty sz v es.length M:=⟨k.1,k.2.imp (λx=>x) λ⟨g,r,p,a,b,c⟩=>⟨g,r,p,a,eB _,c⟩⟩;have K:∀ b,v.ownBlock=some b->w.heap.size<=b:=λb j=>by
  rcases k.2 with B|⟨g,r,p,L,h2,h3⟩
  .rw [B.1] at j;simp [Value.ownBlock] at j
  .rw [L] at j;simp only [Value.ownBlock,bH] at j;omega
 have Z:∀ C,¬ (dJ M0 H σ C\/v.ownBlock=some C)->¬ dJ M0 (H.push q ⟨ty,sz,es,false⟩) (λi=>if i=q then some ⟨es.length,v,sz,ty⟩ else σ i) C:=by
  intro C G h;rcases h with h|⟨i,U,T,u,W,l,j⟩
  .exact G (.inl (.inl h))
  .by_cases n:i=q
   .simp only [n,if_true,bH] at l;subst l;exact G (.inr j)
   .simp only [n,if_false] at l;simp only [AHeap.push,n,if_false] at u;exact G (.inl (.inr ⟨i,U,T,u,W,l,j⟩))
 have z:D.L es.flatten=true:=D2 λd hd=>by
  obtain ⟨c,I,E⟩:=jE.1 hd;exact jN (rJ y c I) d E
 obtain ⟨S,R,O⟩:=Rel.b7 hR q V (w':=w') A.os A.tape A.output A.size A.block ⟨ty,sz,es,false⟩ ⟨es.length,v,sz,ty⟩
  K rfl rfl rfl F M m L (λhk=>g5 Z t z)
 exact ⟨v,_,_,_,X,S,.own v _ _ (.inl rfl) (by rcases k.2 with ⟨B,_⟩|⟨g,r,p,B,_⟩<;>simp [B,Value.oneCell']) (λo ho=>by simp at ho;subst ho;exact .inr ⟨rfl,rfl⟩),R,O,Y⟩
theorem ACalls.b3 {f:FuncId}{args:UN}{Q:D->AHeap->Prop}(k:Nat)(h:ACalls P f args ⟨H.next+k,H.F,H.get⟩ Q):ACalls P f args H Q :=
 ⟨h.1,λM0 σ w vals hR ha=>h.2 M0 σ w vals (hR.b3 (m:=H.next+k) aD) ha⟩
theorem ACalls.aP {f:FuncId}{args:UN}{Q:D->AHeap->Prop}(h:ACalls P f (args.map (iU H)) (fN (args.flatMap dW) H) Q):ACalls P f args H Q:=by
 refine ⟨h.1,λM0 σ w vals hR ha=>?_⟩;obtain ⟨m,l,p,o⟩:=fY (args.flatMap dW) hR;refine (h.2 M0 σ w vals m (CS hR ha _ λi h=>h)).mono λe w' ⟨v,d,n,σ',j,k,a,b,g,c⟩=>?_;exact ⟨v,d,n,σ',j,k,a,b,l.trans g,c⟩
end
section
variable {P:Program} {md:Nat→Bool} {ops:Array Oper} {sp:List (Nat × Nat)} {n0 i:Nat} {rest:List Oper} {acc:List (Nat × List Nat)} {e:eF} {dst:Option Tmp} {K:eF→AHeap→Prop} {f:FuncId} {args args':UN} {H H':AHeap}
theorem LS (b:args.map (iU H)=args')(a:fN (args.flatMap dW) H=H')(h:fE P md ops rest e dst K f args' H'):fE P md ops rest e dst K f args H:=by grind [fE, ACalls.aP]
theorem FU {ty:TypeId}{sz:Nat}{es:UE}(q:Nat)(a:Own P f args ty sz es)(c:D.L args=true)(b:Et md dst=true)(g:q<n0)(d:¬ H.F q)(j:chk sp i [q] acc)
  (h:j9 P md ops sp n0 (i+1) rest ((i,[q]) :: acc) (pG e dst (.own q es.length)) (H.push q ⟨ty,sz,es,false⟩) K):rA P md ops sp n0 i rest acc e dst K f args H:=by
 unfold rA;exact Or.inr ⟨b,.own q es.length,[],[],[(q,⟨ty,sz,es,false⟩)],(λ_ h=>by cases h),λp a=>(by
   have:p=(q,⟨ty,sz,es,false⟩):=by simpa using a
   subst this;exact ⟨g,d⟩),
  λH' _ hn=>Qp a c q (hn (q,⟨ty,sz,es,false⟩) dB).2 ⟨rfl,rfl⟩,j,h⟩
end
theorem JA (i:Nat):AHeap.an.F i↔False:=Iff.rfl
theorem qE (H:AHeap)(i j:Nat)(k:Blk):(H.push i k).F j↔j=i\/H.F j:=Iff.rfl
theorem uL (H:AHeap)(i j:Nat)(k:Blk):(H.put i k).F j↔H.F j:=Iff.rfl
theorem L0 (n:Nat)(al:Nat->Prop)(g:Nat->Option Blk)(j:Nat):(AHeap.mk n al g).F j↔al j:=Iff.rfl
end Go.Abs
end
section
namespace Go.Abs
def ren (id:Nat):D->D
 | .own 0 n=>.own id n
 | d=>d
section
variable {P:Program} {M0:Nat→Prop} {H:AHeap} {σ:Nat→Option Ow} {w:World}
theorem WZ (id n:Nat):ren id (.own 0 n)=.own id n:=rfl
theorem TW (k:Blk):(AHeap.an.push 0 k).get 0=some k:=rfl
theorem Yd {f:FuncId}{args:UN}{k S:Blk}{r:D}{q:Nat}{Q:D->AHeap->Prop}
  (h:ACalls P f args (AHeap.an.push 0 k) λd H'=>rZ H' d=r/\r.P=true/\0∉Ep d/\H'.get 0=some S)
  (L:∀ d∈args,d.P=true\/d=.own 0 k.U.length) (hk:k.fz=false) (b4:S.fz=false) (b8:D.O k.U=true) (b6:∀ d∈S.U.flatten,d.aD=true) (hg:H.get q=some k) (hQ:Q r (H.put q S)) :
  ACalls P f (args.map (ren q)) H Q:=by
 refine ⟨h.1,λM0 σ w vals hR ha=>?_⟩;obtain ⟨o,T,l⟩:=hR.ah q k hg;obtain ⟨xs,a1,a9,a2⟩:=l.row;obtain ⟨σ0,Y⟩:∃ s:Nat->Option Ow,s=λi=>if i=0 then some o else none:=⟨_,rfl⟩
 obtain ⟨M1,y⟩:∃ m:Nat->Prop,m=λb=>dJ M0 H σ b/\o.block≠some b:=⟨_,rfl⟩;have s0:σ0 0=some o:=by rw [Y];rfl
 have R:∀ i B,σ0 i=some B->i=0/\B=o:=λi B a=>by
  grind
 have g0:∀ i C,(AHeap.an.push 0 k).get i=some C->i=0/\C=k:=λi C a=>by
  by_cases z:i=0
  .subst z;rw [TW] at a;exact ⟨rfl,(Option.some.inj a).symm⟩
  .simp [AHeap.push,AHeap.an,z] at a
 have c2:∀ b,o.block=some b->dJ M0 H σ b:=λb hb=>.inr ⟨q,k,o,hg,hk,T,hb⟩;have E:∀ b,dJ M1 (AHeap.an.push 0 k) σ0 b->dJ M0 H σ b:=by
  rintro b (hb|⟨i,C,o1,x,hf,n,hb⟩)
  .rw [y] at hb;exact hb.1
  grind
 have b9:∀ {es:UE},D.O es=true->D.L es.flatten=true:=λ {es} hc=>D2 λd K=>by
  obtain ⟨c,b7,a8⟩:=jE.1 K;exact jN (rJ hc c b7) d a8
 have c1:Rel M1 (AHeap.an.push 0 k) σ0 w:=by
  refine ⟨λi a=>?_,λi a=>?_,λi C x=>?_,λi j oi oj b a U hbi hbj=>?_,λi oi b a hbi=>?_,λb hb=>?_⟩
  .have z:i≠0:=λe=>a (.inl e);exact ⟨by rw [Y];simp [z],by simp [AHeap.push,AHeap.an,z]⟩
  .rcases a with a|a
   .subst a;simp [AHeap.push,AHeap.an]
   .exact a.elim
  .obtain ⟨z,N⟩:=g0 i C x;subst z;subst N;exact ⟨o,s0,l.af,l.ty,l.Y,l.H,xs,a1,a9,g5 (λb hb hb'=>hb (E b hb')) a2 (b9 b8)⟩
  .rw [(R i oi a).1,(R j oj U).1]
  .obtain ⟨_,rfl⟩:=R i oi a;exact ⟨(hR.lt q oi b T hbi).1,λhb=>by rw [y] at hb;exact hb.2 hbi⟩
  .rw [y] at hb;exact v8 hR b hb.1
 have c0:RepL (dJ M1 (AHeap.an.push 0 k) σ0) σ0 (AHeap.an.push 0 k).F w vals args:=by
  refine ⟨by simpa using ha.len,λj u d F K=>?_⟩;have U:=ha.Z j u (ren q d) F (by rw [aM,K];rfl);rcases L d (aL K) with hc|rfl
  .have a3:ren q d=d:=by cases d<;>first|rfl|(simp [D.P] at hc)
   rw [a3] at U;exact U.aQ (λad u hm F=>⟨λhm'=>hm (E _ hm'),F⟩) hc
  .rw [WZ] at U;cases U
   rename_i N hN hv;exact .own u _ _ (.inl rfl) (by first|exact N|exact hN) λo1 n=>by
    obtain ⟨_,rfl⟩:=R 0 o1 n;exact hv o1 T
 refine (h.2 M1 σ0 w vals c1 c0).mono λe w' ⟨v,d,H',σ',he,M,hv,p,b3,hr,a4,b0,J⟩=>?_;obtain ⟨B,I,W⟩:=M.ah 0 S J;obtain ⟨a7,G,Z,t⟩:=W.row;obtain ⟨o2,a5,b2⟩:=b3.own 0 B (.inl rfl) I;rw [s0] at a5;cases a5
 have b5:w.grownBy w' o.block:=⟨p.os,p.tape,p.output,p.size,λb hb hne=>p.aX b hb λi o1 a=>by
  obtain ⟨_,rfl⟩:=R i o1 a;exact λhb'=>hne (by first|simpa using hb'|exact hb'.symm|exact hb')⟩
 have a6:∀ b,B.block=some b->o.block=some b\/w.heap.size<=b:=λb hb=>by
  rcases p.new 0 B b I hb with N|⟨j1,o1,N,h2⟩
  .exact .inr N
  .obtain ⟨_,rfl⟩:=R j1 o1 N;exact .inl h2
 obtain ⟨p1,p2,p3⟩:=Rel.put hR hg hk T S B b5 a6 b2 W.af W.ty W.Y W.H a7 G Z
  ⟨t.len,λj u d F K=>AF (t.Z j u d F K) (b6 d (aL K))⟩
 have a0:=u0 M hv (Ep d) λi a=>a;rw [hr] at a0;obtain ⟨_,_,_,f4⟩:=fY (Ep d) M;refine ⟨v,r,_,_,he,p1,a0.aQ (λad u hm F=>⟨λhm'=>hm ?_,F⟩) a4,p2,p3,hQ⟩;rcases hm' with z|⟨i,C,o1,x,hf,n,hb⟩
 .left
  rw [y];exact ⟨.inl z,λhb=>(hR.lt q o _ T hb).2 z⟩
 .by_cases a:i=q
  .simp only [a,if_true,bH] at n;subst n
   right
   obtain ⟨O,c3⟩:=f4 0;rw [J] at O;cases hq:(fN (Ep d) H').get 0 with
   | none=>rw [hq] at O;cases O
   | some kq =>
    refine ⟨0,kq,B,hq,?_,I,hb⟩;rw [Cg _ _ 0 b0,J] at hq;cases hq
    exact b4
  .simp only [a,if_false] at n;simp only [AHeap.put,a,if_false] at x
   left
   rw [y];exact ⟨.inr ⟨i,C,o1,x,hf,n,hb⟩,λhb'=>a (hR.inj i q o1 o _ n T hb hb')⟩
end
section
variable {P:Program} {M0:Nat→Prop} {H:AHeap} {σ:Nat→Option Ow} {w:World}
end
section
variable {P:Program} {md:Nat→Bool} {ops:Array Oper} {sp:List (Nat × Nat)} {n0 i:Nat} {rest:List Oper} {acc:List (Nat × List Nat)} {e:eF} {dst:Option Tmp} {K:eF→AHeap→Prop} {f:FuncId} {args args':UN} {H:AHeap}
end
theorem KF {P:Program}{f:FuncId}{args:UN}{H H':AHeap}{Q:D->AHeap->Prop}(hg:Ghosts H H')(h:ACalls P f args H' Q):ACalls P f args H Q :=
 ⟨h.1,λM0 σ w vals hR ha=>by
  obtain ⟨σ1,g1,g2,g3⟩:=yS hg hR;exact (h.2 M0 σ1 w vals g1 (ha.q g3)).mono λe w' ⟨v,d,H1,σ2,he,h1,hv,hs,hk,hq⟩=>⟨v,d,H1,σ2,he,h1,hv,g2.trans hs,g3.trans hk,hq⟩⟩
theorem yX {P:Program}{md:Nat->Bool}{ops:Array Oper}{a:List Oper}{e:eF}{b:Option Tmp}{K:eF->AHeap->Prop}{f:FuncId}{args:UN}{H H':AHeap}(c:Ghosts H H')(h:fE P md ops a e b K f args H'):fE P md ops a e b K f args H:=by grind [fE, KF]
end Go.Abs
end
section
namespace Go.Abs
mutual
def mC:D->D
 | .nil=>.list []
 | .agg cs=>.agg (iI cs)
 | .tup cs=>.tup (iI cs)
 | .list es=>.list (eE es)
 | d=>d
def iI:UN->UN
 | []=>[]
 | d :: l=>mC d :: iI l
def eE:UE->UE
 | []=>[]
 | c :: l=>iI c :: eE l
end
theorem Df (l:UN):iI l=l.map mC:=by
 induction l with
 | nil=>rfl
 | cons a l ih=>simp [iI,ih]
theorem w9 (l:UE):eE l=l.map iI:=by
 induction l with
 | nil=>rfl
 | cons a l ih=>simp [eE,ih]
theorem Ih (l:UE):(eE l).flatten=l.flatten.map mC:=by
 induction l with
 | nil=>rfl
 | cons a l b=>simp only [eE,e8,b,List.map_append,Df]
theorem Sx {M:Nat->Prop}{σ:Nat->Option Ow}{N:Nat->Prop}{w:World}{v:Value}{d:D}(h:RepV M σ N w v d):RepV M σ N w v (mC d):=by
 have b:∀ {vs:List Value} {ds:UN},(∀ (j:Nat) (u:Value) (d:D),vs[j]?=some u->ds[j]?=some d->RepV M σ N w u (mC d)) ->
   ∀ (j:Nat) (u:Value) (d:D),vs[j]?=some u->(ds.map mC)[j]?=some d->RepV M σ N w u d:=by
  grind
 induction h with
 | int=>simp only [mC];exact .int _ _
 | bool=>simp only [mC];exact .bool _
 | str=>simp only [mC];exact .str _
 | agg vs ds hl h1 _ ih =>
  simp only [mC,Df];exact .agg vs _ (by simp [hl]) h1 (b ih)
 | tup vs ds hl _ ih =>
  simp only [mC,Df];exact .tup vs _ (by simp [hl]) (b ih)
 | nil=>simp only [mC];exact .listN
 | listN=>simp only [mC,eE];exact .listN
 | list ad cap sz xs es hc hm' hsz hl h1 hcell _ ih =>
  have a:(eE es).length=es.length:=by rw [w9,aT]
  have:=RepV.list (M:=M) (σ:=σ) (N:=N) (w:=w) ad cap sz xs (eE es) (by rw [a];exact hc) hm' (λc hc'=>by
   rw [w9,aW] at hc';obtain ⟨y,e,rfl⟩:=hc';rw [Df,aT];exact hsz y e) (by rw [Ih,aT];exact hl) h1 hcell (by rw [Ih];exact b ih)
  rwa [a] at this
 | adr ad xs ds hl h1 hcell hr ih=>simp only [mC];exact .adr ad xs ds hl h1 hcell hr
 | ne ad cap b=>simp only [mC];exact .ne ad cap b
 | nilp=>simp only [mC];exact .nilp
 | ptr v id ver i off hN h1 h=>simp only [mC];exact .ptr v id ver i off hN h1 h
 | own v id n hN h1 h=>simp only [mC];exact .own v id n hN h1 h
 | win v id ver lo hi hN h1 hlh h=>simp only [mC];exact .win v id ver lo hi hN h1 hlh h
 | fn f vs ds hl hr ih=>simp only [mC];exact .fn f vs ds hl hr
 | nilf=>simp only [mC];exact .nilf
 | opt v g d hf h ih=>simp only [mC];exact .opt v g d hf h
 | cst v=>simp only [mC];exact .cst v
 | junk v=>simp only [mC];exact .junk v
theorem pS {P:Program}{f:FuncId}{args:UN}{r:D}(b:r.P=true)(h:∀ Q:D->AHeap->Prop,(∀ d H',mC (rZ H' d)=r->Q d H')->ACalls P f args .an Q):Pure P f args r:=by
 have h:=h (λd H'=>mC (rZ H' d)=r) λ_ _ h=>h;refine ⟨h.1,λM w vals hM ha=>(h.2 M iP w vals (GO M w hM) (by rw [GS];exact ha)).mono λe w' ⟨v,d,H',σ',g,k,c,a,n,m⟩=>⟨v,g,?_,AT a⟩⟩;have l:RepV (dJ M (fN (Ep d) H') σ') σ' (fN (Ep d) H').F w' v r:=by
  have o:=Sx (u0 k c (Ep d) λi hi=>hi);grind
 exact l.aQ (λad u hm j=>⟨λh=>hm (.inl h),j⟩) b
attribute [go_sem] mC iI eE
end Go.Abs
end
section
namespace Go.Abs
def CP (H:AHeap)(d:D):D :=
 match d with
 | .ptr id ver i off=>match fP H (.ptr id ver i off) with
  | some (c :: cs)=>.adr ((c :: cs).map (fI H))
  | _=>.ptr id ver i off
 | d=>iU H d
def Dx (H:AHeap)(d:D):List Nat :=
 match d with
 | .ptr id ver i off=>id :: (match fP H (.ptr id ver i off) with|some cs=>cs.flatMap lQ|none=>[])
 | d=>dW d
section
variable {P:Program} {M0:Nat→Prop} {H:AHeap} {σ:Nat→Option Ow} {w:World}
theorem Og {v:Value}{d:D}(G:Rel M0 H σ w)(g:RepV (dJ M0 H σ) σ H.F w v d)(a:List Nat)(m:∀ i∈Dx H d,i∈a) :
  RepV (dJ M0 (fN a H) σ) σ (fN a H).F w v (CP H d):=by
 obtain ⟨A,J,N,z⟩:=fY a G;have b:=g.q J;have h:∀ i∈a,∀ k,(fN a H).get i=some k->k.fz=true:=λi m k hk=>by
  have s:=(z i).1;rw [hk] at s;cases o:H.get i with
  | none=>rw [o] at s;cases s
  | some k0 =>
   grind
 cases d with
 | ptr id ver i off =>
  have n:=DQ (λi=>(z i).1) (.ptr id ver i off);simp only [CP];cases F:fP H (.ptr id ver i off) with
  | none=>exact b
  | some B =>
   cases B with
   | nil=>exact b
   | cons c B =>
    rw [F] at n;have p:∀ y∈c :: B,∀ q∈lQ y,q∈a:=λy l q e=>m q (by simp only [Dx,F,aV,bK];exact .inr ⟨y,aV.1 l,e⟩);have r:id∈a:=m id (by simp only [Dx];exact fO ..);obtain ⟨O,L,M,C,E,t⟩:=rQ A b n dB;have I:=Ae A b λq e k hk=>h q (by simp only [Xm,bG] at e;subst e;exact r) k hk;simp only [Gi,n] at I;cases I with
    | adr ad' xs' ds hl' hone' hcell' hrep' =>
     refine .adr ad' xs' _ (eQ hl') hone' hcell' λj u x hu g=>?_;rw [aM,bV] at g;obtain ⟨y,l,rfl⟩:=g;rw [<- qT (λi=>(z i).1) y];exact nA A (hrep' j u y hu l) λq e k hk=>h q (p y (aL l) q e) k hk
 | _=>exact mZ G g a m
theorem TF {vals:List Value}{args:UN}(hR:Rel M0 H σ w)(ha:RepL (dJ M0 H σ) σ H.F w vals args)(ids:List Nat)(hi:∀ i∈args.flatMap (Dx H),i∈ids) :
  RepL (dJ M0 (fN ids H) σ) σ (fN ids H).F w vals (args.map (CP H)) :=
 ⟨by simpa using ha.len,λj u d hu hd=>by
  rw [aM,bV] at hd;obtain ⟨y,hy,rfl⟩:=hd;exact Og hR (ha.Z j u y hu hy) ids λi hii=>hi i (bK.2 ⟨y,aL hy,hii⟩)⟩
theorem D3 {f:FuncId}{args:UN}{r:D}{Q:D->AHeap->Prop}(c:Pure P f (args.map (CP H)) r)(b:D.L (args.map (CP H))=true)(g:r.aD=true)(k:Q r H):ACalls P f args H Q:=by
 refine ⟨c.1,λM0 σ w vals hR ha=>?_⟩;obtain ⟨o,s,q,p⟩:=fY (args.flatMap (Dx H)) hR;refine (c.2 (dJ M0 (fN (args.flatMap (Dx H)) H) σ) w vals (v8 o) (g5 (λ_ h=>h) (TF hR ha _ λi h=>h) b)).mono λe w' ⟨v,j,d,a⟩=>?_;obtain ⟨n,m,l⟩:=hR.grow a.os a.tape a.output a.size a.block;exact ⟨v,r,H,σ,j,n,AF d g,m,l,k⟩
theorem FW {md:Nat->Bool}{ops:Array Oper}{a:List Oper}{e:eF}{b:Option Tmp}{K:eF->AHeap->Prop}{f:FuncId}{args args':UN}{r:D}(d:Pure P f args' r)(i:args.map (CP H)=args')(c:D.L args'=true)(g:r.aD=true)
 (h:nX P md ops a (pG e b r) H K):fE P md ops a e b K f args H:=by grind [fE, D3]
theorem Se {H:AHeap}{d:D}(h:∀ a b c e,d≠.ptr a b c e):CP H d=iU H d:=by cases d<;>first|rfl|exact absurd rfl (h _ _ _ _)
theorem Xl {H:AHeap}{d:D}(h:∀ a b c e,d≠.ptr a b c e):Dx H d=dW d:=by cases d<;>first|rfl|exact absurd rfl (h _ _ _ _)
theorem QT {S:List Nat}{H H':AHeap}{d:D}(l:f8 S H' H)(j:∀ x∈Dx H d,x∈S):CP H' d=CP H d:=by
 by_cases k:∀ a b c e,d≠.ptr a b c e
 .rw [Se k,Se k];rw [Xl k] at j;exact HD l j
 .obtain ⟨h,f,i,g,rfl⟩:∃ a b c e,d=.ptr a b c e:=by
   grind
  have r:=l h (j h (by simp only [Dx];exact fO ..));have p:fP H' (.ptr h f i g)=fP H (.ptr h f i g):=by simp only [fP,r]
  simp only [CP,p];cases q:fP H (.ptr h f i g) with
  | none=>rfl
  | some n =>
   cases n with
   | nil=>rfl
   | cons c n =>
    simp only;congr 1;exact bJ λy hy=>yE l λx o=>j x (by simp only [Dx,q,aV,bK];exact .inr ⟨y,aV.1 hy,o⟩)
theorem wG {md:Nat->Bool}{ops:Array Oper}{g:List (Nat × Nat)}{k i:Nat}{a:List Oper}{b:List (Nat × List Nat)}{e:eF}{c:Option Tmp}{K:eF->AHeap->Prop}{f:FuncId}{args args':UN}{H:AHeap}{r:D}{t:Bool}
  (n:t=true->Pure P f args' r) (s:args.map (CP H)=args') (j:t=true->D.L args'=true) (p:t=true->r.aD=true) {S:List Nat} (u:args.flatMap (Dx H)=S) (q:chk g i S b)
  (h:j9 P md ops g k (i+1) a ((i,S) :: b) (pG e c (.opt t r)) H K):vO P md ops g k i a b e c K t f args H:=by
 subst s u;unfold vO;refine ⟨r,_,λht H' hag=>?_,q,h⟩;have l:args.map (CP H')=args.map (CP H):=bJ λd o=>QT hag λx m=>bK.2 ⟨d,o,m⟩;exact D3 (by rw [l];exact n ht) (by rw [l];exact j ht) (p ht) ⟨rfl,rfl⟩
end
attribute [go_sem] Dx
end Go.Abs
end
section
namespace Go.Abs
def qK (H:AHeap)(d:D):D :=
 match d with
 | .own id n=>match H.get id with
  | some k=>if k.U.length=n then .list (k.U.map (·.map (fI H))) else .own id n
  | none=>.own id n
 | d=>fI H d
def M5 (H:AHeap)(d:D):List Nat :=
 match d with
 | .own id n=>id :: (match H.get id with|some k=>k.U.flatten.flatMap lQ|none=>[])
 | d=>lQ d
def j7 (H:AHeap):D->D
 | .agg cs=>.agg (cs.map (qK H))
 | d=>qK H d
def IJ (H:AHeap):D->List Nat
 | .agg cs=>cs.flatMap (M5 H)
 | d=>M5 H d
def iZ (H:AHeap):D->D
 | .tup vs=>.tup (vs.map (j7 H))
 | d=>j7 H d
def BI (H:AHeap):D->List Nat
 | .tup vs=>vs.flatMap (IJ H)
 | d=>IJ H d
section
variable {P:Program} {M0:Nat→Prop} {H:AHeap} {σ:Nat→Option Ow} {w:World}
theorem RepV.cu {M:Nat->Prop}{N:Nat->Prop}{v:Value}{es:UE}{f:D->D}(h:RepV M σ N w v (.list es))(e:∀ y∈es.flatten,∀ u,RepV M σ N w u y->RepV M σ N w u (f y)) :
  RepV M σ N w v (.list (es.map (·.map f))):=by
 have a:(es.map (·.map f)).flatten=es.flatten.map f:=List.map_flatten.symm;cases h with
 | listN=>exact .listN
 | list ad cap sz xs es hc hm hsz hl h1 hcell hr =>
  have:=RepV.list (M:=M) (σ:=σ) (N:=N) (w:=w) ad cap sz xs (es.map (·.map f)) (eQ hc) hm (λc hc'=>by
   rw [aW] at hc';obtain ⟨y,b,rfl⟩:=hc';rw [aT];exact hsz y b) (by rw [a,aT];exact hl) h1 hcell (λj u d hu hd=>by
   rw [a,aM,bV] at hd;obtain ⟨y,b,rfl⟩:=hd;exact e y (aL b) u (hr j u y hu b))
  grind
theorem WV {d:D}(h:∀ a b,d≠.own a b):qK H d=fI H d:=by cases d<;>first|rfl|exact absurd rfl (h _ _)
theorem Xk {d:D}(h:∀ a b,d≠.own a b):M5 H d=lQ d:=by cases d<;>first|rfl|exact absurd rfl (h _ _)
theorem Fn {v:Value}{d:D}(B:Rel M0 H σ w)(z:RepV (dJ M0 H σ) σ H.F w v d)(c:List Nat)(m:∀ i∈M5 H d,i∈c) :
  RepV (dJ M0 (fN c H) σ) σ (fN c H).F w v (qK H d):=by
 obtain ⟨r,C,E,o⟩:=fY c B;have l:=z.q C;have h:∀ i∈c,∀ k,(fN c H).get i=some k->k.fz=true:=λi m k f=>by
  have q:=(o i).1;rw [f] at q;cases p:H.get i with
  | none=>rw [p] at q;cases q
  | some k0 =>
   grind
 by_cases s:∀ a b,d≠.own a b
 .rw [WV s,<- qT (λi=>(o i).1) d];rw [Xk s] at m;exact nA r l λi e k f=>h i (m i e) k f
 .obtain ⟨t,n,rfl⟩:∃ a b,d=.own a b:=by
   grind
  have g:=nA r l λi e k f=>h i (m i (by
   simp only [lQ,bG] at e;subst e;simp only [M5];exact fO ..)) k f
  rw [qT (λi=>(o i).1)] at g;simp only [qK,fI] at g ⊢;cases f:H.get t with
  | none=>rw [f] at g;exact g
  | some k =>
   rw [f] at g;simp only at g ⊢;split
   .rename_i A;rw [if_pos A] at g;refine g.cu λy x u hu=>?_;rw [<- qT (λi=>(o i).1) y];exact nA r hu λi e k' hk'=>h i (m i (by
     simp only [M5,f,aV,bK];exact .inr ⟨y,x,e⟩)) k' hk'
   grind
theorem CO {v:Value}{d:D}(c:Rel M0 H σ w)(f:RepV (dJ M0 H σ) σ H.F w v d)(a:List Nat)(g:∀ i∈IJ H d,i∈a) :
  RepV (dJ M0 (fN a H) σ) σ (fN a H).F w v (j7 H d):=by
 cases d with
 | agg cs =>
  obtain ⟨h,m,l,k⟩:=fY a c;cases f with
  | agg vs ds hl h hr =>
   refine .agg vs _ (eQ hl) h λj u x hu hd=>?_;rw [aM,bV] at hd;obtain ⟨y,e,rfl⟩:=hd;exact Fn c (hr j u y hu e) a λi b=>g i (by simp only [IJ,bK];exact ⟨y,aL e,b⟩)
 | _=>exact Fn c f a g
theorem Mt {v:Value}{d:D}(g:Rel M0 H σ w)(e:RepV (dJ M0 H σ) σ H.F w v d)(a:List Nat)(f:∀ i∈BI H d,i∈a) :
  RepV (dJ M0 (fN a H) σ) σ (fN a H).F w v (iZ H d):=by
 cases d with
 | tup cs =>
  cases e with
  | tup vs ds hl hr =>
   refine .tup vs _ (eQ hl) λj u x hu hd=>?_;rw [aM,bV] at hd;obtain ⟨y,c,rfl⟩:=hd;exact CO g (hr j u y hu c) a λi b=>f i (by simp only [BI,bK];exact ⟨y,aL c,b⟩)
 | _=>exact CO g e a f
theorem ACalls.bO {f:FuncId}{args:UN}{Q:D->AHeap->Prop}(h:ACalls P f args H λd H'=>Q (iZ H' d) (fN (BI H' d) H')):ACalls P f args H Q :=
 ⟨h.1,λM0 σ w vals hR ha=>(h.2 M0 σ w vals hR ha).mono λe w' ⟨v,d,H',σ',he,hR',hv,hst,hk,hq⟩=>by
  obtain ⟨f1,f2,_,_⟩:=fY (BI H' d) hR';exact ⟨v,_,_,σ',he,f1,Mt hR' hv _ λ_ h=>h,hst,hk.trans f2,hq⟩⟩
end
end Go.Abs
end
section
namespace Go.Abs
theorem wa {a b:Prop}(x:a)(y:b):a/\b:=⟨x,y⟩
section
variable {P:Program} {c:Cfg} {a b:Code} {Q:Exit→eF→AHeap→Prop} {e:eF} {H:AHeap}
theorem wq {t:Bool}{A B:Prop}(h1:A->pD P c a Q e H)(h2:B->pD P c b Q e H)
 (k1:t=true->A:=by (intro h;first|(simp [go_sem] at h;exact h)|exact h)) (k2:t=false->B:=by (intro h;first|(simp [go_sem] at h;exact h)|exact h)) :
 zH P c a b Q e H (.bool t):=bC (λh=>h1 (k1 h)) (λh=>h2 (k2 h))
theorem aY (I:Nat->eF->AHeap->Prop)(μ:Nat->Nat)(x0:Nat)(h0:I x0 e H)
  (hs:∀ J:Nat->eF->AHeap->Prop,(∀ x e H,J x e H↔I x e H)->∀ x e H,I x e H->pD P c b (uU (FG J μ x) Q) e H):BH P c b Q e H :=
 FJ I μ x0 h0 (hs I λ_ _ _=>Iff.rfl)
theorem lB {H':AHeap}(hg:Ghosts H H')(I:Nat->eF->AHeap->Prop)(μ:Nat->Nat)(x0:Nat)(h0:I x0 e H')
  (hs:∀ J:Nat->eF->AHeap->Prop,(∀ x e H,J x e H↔I x e H)->∀ x e H,I x e H->pD P c b (uU (FG J μ x) Q) e H):BH P c b Q e H :=
 YG hg I μ x0 h0 (hs I λ_ _ _=>Iff.rfl)
end
section
variable {p q:Prop}
structure Wh (q:Prop):Prop where
 h:q
theorem wv (k:q->p:=by (intro h;first|(simp [go_sem,seval,Y];exact h)|exact h))(h:q):p:=k h
theorem lS (k:q->p:=by (intro h;first|(simp -implicitDefEqProofs [go_sem,seval,Y];exact h)|exact h))(h:q):p:=k h
theorem wo (k:Wh q->p:=by (intro h;(try simp [go_sem,seval,Y]);(repeat first|intro _|refine ⟨iD,?_⟩);exact h.1))(h:q):p:=k ⟨h⟩
theorem wp (k:Wh q->p:=by (intro h;(try simp [go_sem,seval,Y]);(repeat first|intro _|refine ⟨gX,?_⟩);exact h.1))(h:q):p:=k ⟨h⟩
theorem Yf (k:Wh q->p:=by (intro h;(try simp -implicitDefEqProofs [go_sem,seval,Y]);(repeat first|intro _|refine ⟨iD,?_⟩);exact h.1))(h:q):p:=k ⟨h⟩
theorem oL (k:Wh q->p:=by (intro h;(try simp -implicitDefEqProofs [go_sem,seval,Y]);(repeat first|intro _|refine ⟨gX,?_⟩);exact h.1))(h:q):p:=k ⟨h⟩
theorem wl (h:p:=by first|rfl|(simp [go_sem,<- List.map_take,<- List.map_drop,Y];done)):p:=h
theorem wr (h:p:=by simp [J0,Gi,fP,go_sem,<- List.map_take,<- List.map_drop,Y]):p:=h
theorem wrq (h:p:=by simp [J0,Gi,CP,Dx,fP,go_sem,<- List.map_take,<- List.map_drop,Y]):p:=h
theorem wrd (h:p:=by simp [go_sem,Y]):p:=h
theorem wdq (h:p:=by simp [go_sem,Dx,fP,Y]):p:=h
theorem wz (h:p:=by (simp [go_sem,Y])<;>rfl):p:=h
theorem wn (h:p:=by first|omega|(simp [go_sem,seval,Y]<;>omega)):p:=h
theorem wg (h:p:=by and_intros<;>first|omega|(simp [go_sem,seval,Y]<;>omega)):p:=h
theorem wi (h:p:=by first|assumption|omega|(simp [go_sem,Y];done)|(simp_all;done)):p:=h
theorem wj (h:p:=by first|assumption|omega|(simp [go_sem,Y];done)|(simp_all<;>omega)):p:=h
theorem wy (h:p:=by simp [go_sem,Y]<;>first|omega|(rw [aS];simp<;>omega)|(simp_all<;>omega)):p:=h
end
section
variable {P:Program} {c:Cfg} {a b:Code} {Q:Exit→eF→AHeap→Prop} {e:eF} {H:AHeap} {p:Prop}
theorem dK {t:Bool}{A B:Prop}(h1:A->pD P c a Q e H)(h2:B->pD P c b Q e H)(k:zH P c a b Q e H (.bool t)->p:=by (intro h;first|(simp [go_sem,seval,Y];exact h)|exact h))
 (k1:t=true->A:=by (intro h;first|(simp [go_sem] at h;exact h)|exact h)) (k2:t=false->B:=by (intro h;first|(simp [go_sem] at h;exact h)|exact h)):p:=k (bC (λh=>h1 (k1 h)) (λh=>h2 (k2 h)))
theorem d8 {t:Bool}{A B:Prop}(h1:A->pD P c a Q e H)(h2:B->pD P c b Q e H)(k:Wh (zH P c a b Q e H (.bool t))->p:=by (intro h;(try simp [go_sem,seval,Y]);(repeat first|intro _|refine ⟨iD,?_⟩);exact h.1))
 (k1:t=true->A:=by (intro h;first|(simp [go_sem] at h;exact h)|exact h)) (k2:t=false->B:=by (intro h;first|(simp [go_sem] at h;exact h)|exact h)):p:=k ⟨bC (λh=>h1 (k1 h)) (λh=>h2 (k2 h))⟩
theorem i7 {t:Bool}{A B:Prop}(h1:A->pD P c a Q e H)(h2:B->pD P c b Q e H)(k:Wh (zH P c a b Q e H (.bool t))->p:=by (intro h;(try simp [go_sem,seval,Y]);(repeat first|intro _|refine ⟨gX,?_⟩);exact h.1))
 (k1:t=true->A:=by (intro h;first|(simp [go_sem] at h;exact h)|exact h)) (k2:t=false->B:=by (intro h;first|(simp [go_sem] at h;exact h)|exact h)):p:=k ⟨bC (λh=>h1 (k1 h)) (λh=>h2 (k2 h))⟩
theorem wx {I J:Nat->eF->AHeap->Prop}{m:Nat->Nat}{x:Nat}(hJ:∀ x e H,J x e H↔I x e H)(x':Nat)(hI:I x' e H)(hm:m x'<m x:=by omega):FG J m x e H:=mI x' hm ((hJ _ _ _).2 hI)
end
end Go.Abs
end
