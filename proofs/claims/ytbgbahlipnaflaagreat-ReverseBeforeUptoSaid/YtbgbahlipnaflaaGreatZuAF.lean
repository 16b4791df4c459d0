/- The abstraction layer, part U: the rows that walk a body. ·  -/
import Derived.Test.YtbgbahlipnaflaaGreatZuAE
import Derived.Sort.OwnSortedInts
set_option linter.unusedVariables false
set_option linter.unusedSimpArgs false
section
namespace Go.Abs
inductive SOut where
 | op (o:AOut)
 | call (f:FuncId) (args:UN)
 | gop (t:Bool) (g:Bool) (o:AOut)
 | gcall (t:Bool) (g:Bool) (f:FuncId) (args:UN)
 | bad
def LH (c:Option (FuncId × UN))(o:AOut):SOut :=
 match c with
 | some (f,args)=>.call f args
 | none=>.op o
def Jc (gc:Option (Bool × Bool))(b:Bool)(g:Bool)(c:Option (FuncId × UN))(o:AOut):SOut :=
 match gc with
 | some (t,c')=>match c with
  | some (f,args)=>.gcall (t&&(c'==b)) g f args
  | none=>.gop (t&&(c'==b)) g o
 | none=>.bad
def oD (P:Program)(md:Nat->Bool)(nid:Nat)(ops:Array Oper)(e:eB)(o:Oper)(H:AHeap):SOut :=
 match o.guard with
 | none=>LH (iL e o) (Gc P nid md e o H)
 | some (j,b)=>Jc (gD ops e j) b (TY e (gO o.op)) (iL (gE e o.op) o) (Gc P nid md (gE e o.op) o H)
def f7 (P:Program)(md:Nat->Bool)(ops:Array Oper)(rest:List Oper)(e:eB)(dst:Option Tmp)(K:eB->AHeap->Prop)(f:FuncId)(args:UN)(H:AHeap):Prop :=
 ACalls P f args H λv H1=>oI P md ops rest (oO e dst v) H1 K
def As (P:Program)(md:Nat->Bool)(ops:Array Oper)(rest:List Oper)(e:eB)(dst:Option Tmp)(K:eB->AHeap->Prop)(t:Bool)(f:FuncId)(args:UN)(H:AHeap):Prop :=
 (∃ r S,(t=true->∀ H',gM S H' H->ACalls P f args H' λv H1=>v=r/\H1=H')/\oI P md ops rest (oO e dst (.opt t r)) H K) \/
  ((t=true->ACalls P f args H λv H1=>oI P md ops rest (oO e dst (.opt true v)) H1 K)/\(t=false->∃ r,oI P md ops rest (oO e dst (.opt false r)) H K))
def Ax (P:Program)(md:Nat->Bool)(ops:Array Oper)(rest:List Oper)(e:eB)(dst:Option Tmp)(H:AHeap)(K:eB->AHeap->Prop):SOut->Prop
 | .op o=>o.cond/\(o.X->oI P md ops rest (oO e dst o.val) o.heap K)
 | .call f args=>f7 P md ops rest e dst K f args H
 | .gop t g o=>(t=true->g=true)/\(t=true->o.cond/\o.heap=H)/\((t=true->o.X)->oI P md ops rest (oO e dst (.opt t o.val)) H K)
 | .gcall t g f args=>(t=true->g=true)/\As P md ops rest e dst K t f args H
 | .bad=>False
theorem TV (P:Program)(md:Nat->Bool)(ops:Array Oper)(o:Oper)(i:List Oper)(e:eB)(H:AHeap)(K:eB->AHeap->Prop) :
  oI P md ops (o :: i) e H K=Ax P md ops i e o.dst H K (oD P md H.next ops e o H):=by
 obtain ⟨dst,op,type,pos,after,guard⟩:=o;cases guard with
 | none =>
  simp only [oI,qT,oD];cases m:iL e { dst:=dst,op:=op,type:=type,pos:=pos,after:=after,guard:=none } with
  | none=>simp [LH,Ax]
  | some p=>simp [LH,Ax,f7]
 | some p =>
  obtain ⟨j,b⟩:=p;simp only [oI,qT,oD];cases n:gD ops e j with
  | none=>simp [Jc,Ax]
  | some gc =>
   obtain ⟨t,q⟩:=gc;cases m:iL (gE e op) { dst:=dst,op:=op,type:=type,pos:=pos,after:=after,guard:=some (j,b) } with
   | none=>simp [Jc,Ax]
   | some p=>simp [Jc,Ax,As]
@[go_sem] theorem Zq (P:Program)(md:Nat->Bool)(ops:Array Oper)(e:eB)(H:AHeap)(K:eB->AHeap->Prop):oI P md ops [] e H K=K e H:=rfl
@[go_sem] theorem abN (P:Program)(md:Nat->Bool)(ops:Array Oper)(rest:List Oper)(e:eB)(dst:Option Tmp)(H H':AHeap)(K:eB->AHeap->Prop)(c f:Prop)(v:D) :
 Ax P md ops rest e dst H K (.op ⟨c,f,v,H'⟩)=(c/\(f->oI P md ops rest (oO e dst v) H' K)):=rfl
@[go_sem] theorem Yo (P:Program)(md:Nat->Bool)(ops:Array Oper)(rest:List Oper)(e:eB)(dst:Option Tmp)(H:AHeap)(K:eB->AHeap->Prop)(f:FuncId)(args:UN) :
 Ax P md ops rest e dst H K (.call f args)=f7 P md ops rest e dst K f args H:=rfl
@[go_sem] theorem Zl (P:Program)(md:Nat->Bool)(ops:Array Oper)(rest:List Oper)(e:eB)(dst:Option Tmp)(H H':AHeap)(K:eB->AHeap->Prop)(c f:Prop)(v:D)(t g:Bool) :
 Ax P md ops rest e dst H K (.gop t g ⟨c,f,v,H'⟩)=((t=true->g=true)/\(t=true->c/\H'=H)/\((t=true->f)->oI P md ops rest (oO e dst (.opt t v)) H K)):=rfl
@[go_sem] theorem Xa (P:Program)(md:Nat->Bool)(ops:Array Oper)(rest:List Oper)(e:eB)(dst:Option Tmp)(H:AHeap)(K:eB->AHeap->Prop)(f:FuncId)(args:UN)(t g:Bool) :
 Ax P md ops rest e dst H K (.gcall t g f args)=((t=true->g=true)/\As P md ops rest e dst K t f args H):=rfl
@[go_sem] theorem YL (f:FuncId)(args:UN)(o:AOut):LH (some (f,args)) o=.call f args:=rfl
@[go_sem] theorem YM (o:AOut):LH none o=.op o:=rfl
@[go_sem] theorem Zv (e:eB)(d t:Nat)(v:D):oO e (some d) v t=if t=d then v else e t:=rfl
@[go_sem] theorem Zw (e:eB)(v:D):oO e none v=e:=rfl
def WA:List (Nat × D)->eB
 | []=>λ_=>.junk
 | (t,d) :: l=>λt'=>if t'=t then d else WA l t'
@[go_sem] theorem abK (t:Nat):WA [] t=.junk:=rfl
@[go_sem] theorem Zi (t:Nat)(d:D)(l:List (Nat × D))(t':Nat):WA ((t,d) :: l) t'=if t'=t then d else WA l t':=rfl
@[go_sem] theorem abJ (t:Nat):Dl [] t=.junk:=by simp [Dl]
@[go_sem] theorem Zg (d:D)(l:UN):Dl (d :: l) 0=d:=rfl
@[go_sem] theorem Zh (d:D)(l:UN)(t:Nat):Dl (d :: l) (t+1)=Dl l t:=by simp [Dl]
@[go_sem] theorem adJ (e:eB)(t:Nat):fP e (.tmp t)=e t:=rfl
@[go_sem] theorem abH (e:eB)(f:FuncId):fP e (.func f)=.fn f []:=rfl
@[go_sem] theorem adM (e:eB)(k:IntKind)(n:Int):fP e (.const (.int k n))=.int k n:=rfl
@[go_sem] theorem abI (e:eB)(b:Bool):fP e (.const (.bool b))=.bool b:=rfl
@[go_sem] theorem adK (e:eB)(b:ByteArray):fP e (.const (.string b))=.str b:=rfl
@[go_sem] theorem adL (e:eB):fP e (.const (.slice none 0 0))=.nil:=rfl
@[go_sem] theorem abF (e:eB):fP e (.const (.pointer none))=.nilp:=rfl
@[go_sem] theorem abG (e:eB):fP e (.const .nilFunc)=.nilf:=rfl
@[go_sem] theorem XV:jW (.const (.slice none 0 0))=true:=rfl
@[go_sem] theorem XT (t:Nat):jW (.tmp t)=false:=rfl
@[go_sem] theorem XW (k:IntKind)(n:Int):jW (.const (.int k n))=false:=rfl
@[go_sem] theorem W1 (b:Bool):jW (.const (.bool b))=false:=rfl
@[go_sem] theorem XU (b:ByteArray):jW (.const (.string b))=false:=rfl
@[go_sem] theorem WY:jW (.const (.pointer none))=false:=rfl
@[go_sem] theorem WZ:jW (.const .nilFunc)=false:=rfl
@[go_sem] theorem W0 (f:FuncId):jW (.func f)=false:=rfl
@[go_sem] theorem aaS (md:Nat->Bool)(t:Nat):Ec md (some t)=md t:=rfl
@[go_sem] theorem aaT (md:Nat->Bool):Ec md none=false:=rfl
section
variable (P:Program) (md:Nat→Bool) (nid:Nat) (ops:Array Oper) (e:eB) (d:Option Tmp) (ty:TypeId) (p:String) (af:Array Edge) (H:AHeap)
@[go_sem] theorem ad1 (x:Operand):oD P md nid ops e ⟨d,.move x,ty,p,af,none⟩ H=.op (if jW x then EB P nid (Ec md d) ty H else ⟨True,True,fP e x,H⟩):=rfl
@[go_sem] theorem ZC (x:Operand):oD P md nid ops e ⟨d,.assign x,ty,p,af,none⟩ H=.op (if jW x then EB P nid (Ec md d) ty H else ⟨True,True,fP e x,H⟩):=rfl
@[go_sem] theorem ad0 (c a b:Operand):oD P md nid ops e ⟨d,.pick c a b,ty,p,af,none⟩ H=.op (AE (fP e c) (fP e a) (fP e b) H):=rfl
@[go_sem] theorem acJ (t:TypeId):oD P md nid ops e ⟨d,.alloc t,ty,p,af,none⟩ H=.op (yT P nid (Ec md d) t H):=rfl
@[go_sem] theorem afD (t:TypeId)(x:Operand):oD P md nid ops e ⟨d,.box t x,ty,p,af,none⟩ H=.op (M3 P nid (Ec md d) t (fP e x) H):=rfl
@[go_sem] theorem acH (t:TypeId)(ps:Array (Nat × Operand)):oD P md nid ops e ⟨d,.build t ps,ty,p,af,none⟩ H=.op (uM P t (ps.toList.map λp=>(p.1,fP e p.2)) H):=rfl
@[go_sem] theorem adP (md:Nat->Bool)(H:AHeap)(d:D):Sn md H d=if md 1000001 then d else jG H d:=rfl
@[go_sem] theorem adO (md:Nat->Bool)(d:D):MG md d=if md 1000001 then [] else eG d:=rfl
@[go_sem] theorem V0 (t:TypeId)(n:Nat)(b:Array (Nat × Operand)):oD P md nid ops e ⟨d,.buildSlice t n b,ty,p,af,none⟩ H =
  .op (if md 1000001 then jI P nid (Ec md d) t n (b.toList.map λp=>(p.1,fP e p.2)) H else jI P nid (Ec md d) t n (b.toList.map λp=>(p.1,jG H (fP e p.2))) (f5 (b.toList.flatMap λp=>eG (fP e p.2)) H)):=by
 show SOut.op (jI P nid (Ec md d) t n (b.toList.map λp=>(p.1,Sn md H (fP e p.2))) (f5 (b.toList.flatMap λp=>MG md (fP e p.2)) H))=_;cases h:md 1000001
 .simp [Sn,MG,h]
 .simp only [Sn,MG,h,if_true];rw [show (b.toList.flatMap λ_=>([]:List Nat))=[] by induction b.toList with|nil=>rfl|cons a l ih=>simp];rfl
@[go_sem] theorem ad2 (t:TypeId)(x:Operand):oD P md nid ops e ⟨d,.load t x,ty,p,af,none⟩ H=.op (o8 P t (fP e x) H):=rfl
@[go_sem] theorem acD (t:TypeId)(x y:Operand):oD P md nid ops e ⟨d,.store t x y,ty,p,af,none⟩ H =
 .op (if md 1000000 then nC P t (fP e x) (jG H (fP e y)) (f5 (eG (fP e y)) H) else nC P t (fP e x) (fP e y) H):=rfl
@[go_sem] theorem Xv (x:Operand):oD P md nid ops e ⟨d,.nilCheck x,ty,p,af,none⟩ H=.op (kD (fP e x) H):=rfl
@[go_sem] theorem acI (b:BinOp)(t t':TypeId)(x y:Operand):oD P md nid ops e ⟨d,.binOp b t x y t',ty,p,af,none⟩ H=.op (tB (md 2000000) P t b (fP e x) (fP e y) H):=rfl
@[go_sem] theorem ab8 (w:Bool)(P:Program)(t:TypeId)(x y:D)(H:AHeap):tB w P t .add x y H=IO P t .add x y H:=by cases w<;>rfl
@[go_sem] theorem ab1 (w:Bool)(P:Program)(t:TypeId)(x y:D)(H:AHeap):tB w P t .mul x y H=IO P t .mul x y H:=by cases w<;>rfl
@[go_sem] theorem abY (w:Bool)(P:Program)(t:TypeId)(x y:D)(H:AHeap):tB w P t .quo x y H=IO P t .quo x y H:=by cases w<;>rfl
@[go_sem] theorem abX (w:Bool)(P:Program)(t:TypeId)(x y:D)(H:AHeap):tB w P t .rem x y H=IO P t .rem x y H:=by cases w<;>rfl
@[go_sem] theorem ab6 (w:Bool)(P:Program)(t:TypeId)(x y:D)(H:AHeap):tB w P t .eql x y H=IO P t .eql x y H:=by cases w<;>rfl
@[go_sem] theorem ab0 (w:Bool)(P:Program)(t:TypeId)(x y:D)(H:AHeap):tB w P t .neq x y H=IO P t .neq x y H:=by cases w<;>rfl
@[go_sem] theorem ab2 (w:Bool)(P:Program)(t:TypeId)(x y:D)(H:AHeap):tB w P t .lss x y H=IO P t .lss x y H:=by cases w<;>rfl
@[go_sem] theorem ab3 (w:Bool)(P:Program)(t:TypeId)(x y:D)(H:AHeap):tB w P t .leq x y H=IO P t .leq x y H:=by cases w<;>rfl
@[go_sem] theorem ab4 (w:Bool)(P:Program)(t:TypeId)(x y:D)(H:AHeap):tB w P t .gtr x y H=IO P t .gtr x y H:=by cases w<;>rfl
@[go_sem] theorem ab5 (w:Bool)(P:Program)(t:TypeId)(x y:D)(H:AHeap):tB w P t .geq x y H=IO P t .geq x y H:=by cases w<;>rfl
@[go_sem] theorem ab7 (w:Bool)(P:Program)(t:TypeId)(x y:D)(H:AHeap):tB w P t .and x y H=IO P t .and x y H:=by cases w<;>rfl
@[go_sem] theorem abW (w:Bool)(P:Program)(t:TypeId)(x y:D)(H:AHeap):tB w P t .shr x y H=IO P t .shr x y H:=by cases w<;>rfl
@[go_sem] theorem abZ (P:Program)(t:TypeId)(a:BinOp)(x y:D)(H:AHeap):tB false P t a x y H=IO P t a x y H:=by cases a<;>cases x<;>cases y<;>rfl
@[go_sem] theorem abV (P:Program)(t:TypeId)(k k':IntKind)(a b:Int)(H:AHeap):tB true P t .sub (.int k a) (.int k' b) H=⟨k=k',True,.int k (k.wrap (a - b)),H⟩:=rfl
@[go_sem] theorem adZ (u:UnOp)(t:TypeId)(x:Operand):oD P md nid ops e ⟨d,.unOp u t x,ty,p,af,none⟩ H=.op (VA u (fP e x) H):=rfl
@[go_sem] theorem YO (s t:TypeId)(x:Operand):oD P md nid ops e ⟨d,.convert s t x,ty,p,af,none⟩ H=.op (oA P s t (fP e x) H):=rfl
@[go_sem] theorem Xw (f:FuncId)(caps:Array Operand):oD P md nid ops e ⟨d,.makeFunc (.func f) #[] caps,ty,p,af,none⟩ H=.op ⟨True,True,.fn f (caps.toList.map (fP e)),H⟩:=rfl
@[go_sem] theorem WO (t:TypeId)(l c:Operand):oD P md nid ops e ⟨d,.makeSlice t l c,ty,p,af,none⟩ H=.op (DJ P nid t (fP e l) (fP e c) H):=rfl
@[go_sem] theorem acE (t:TypeId)(x:Operand)(lo hi:Option Operand):oD P md nid ops e ⟨d,.slice t x lo hi none,ty,p,af,none⟩ H=.op (rR P t (fP e x) (lo.map (fP e)) (hi.map (fP e)) H):=rfl
@[go_sem] theorem WQ (t:TypeId)(x:Operand)(f:Nat):oD P md nid ops e ⟨d,.fieldAddr t x f,ty,p,af,none⟩ H=.op (jA P t (fP e x) f H):=rfl
@[go_sem] theorem WP (t:TypeId)(x i:Operand):oD P md nid ops e ⟨d,.indexAddr t x i,ty,p,af,none⟩ H=.op (i9 P t (fP e x) (fP e i) H):=rfl
@[go_sem] theorem acF (t:TypeId)(x i:Operand):oD P md nid ops e ⟨d,.index t x i,ty,p,af,none⟩ H=.op (uL P t (fP e x) (fP e i) H):=rfl
@[go_sem] theorem YN (x:Operand)(i:Nat):oD P md nid ops e ⟨d,.extract x i,ty,p,af,none⟩ H=.op (n9 (fP e x) i H):=rfl
@[go_sem] theorem YP (b:Builtin)(args:Array Operand)(ts:Array TypeId):oD P md nid ops e ⟨d,.call ⟨.builtin b,args,ts⟩,ty,p,af,none⟩ H=.op (xP P nid b (args.toList.map (fP e)) ts.toList H):=rfl
@[go_sem] theorem ad3 (f:FuncId)(args:Array Operand)(ts:Array TypeId):oD P md nid ops e ⟨d,.call ⟨.value (.func f),args,ts⟩,ty,p,af,none⟩ H=.call f (args.toList.map (fP e)):=by
 simp [oD,iL,fP,LH]
end
@[go_sem] theorem Yz (P:Program)(md:Nat->Bool)(ops:Array Oper)(rest:List Oper)(e:eB)(H:AHeap)(K:eB->AHeap->Prop)(d:Option Tmp)(op:Op)(ty:TypeId)(p:String)(af:Array Edge)(g:Option (Nat × Bool)) :
 oI P md ops (⟨d,op,ty,p,af,g⟩ :: rest) e H K=Ax P md ops rest e d H K (oD P md H.next ops e ⟨d,op,ty,p,af,g⟩ H):=TV P md ops _ rest e H K
/-! ### code -/
section
variable (P:Program) (c:Cfg) (Q:Exit→eB→AHeap→Prop) (e:eB) (H:AHeap)
def y4 (P:Program)(c:Cfg)(a b:Code)(Q:Exit->eB->AHeap->Prop)(e:eB)(H:AHeap):D->Prop
 | .bool t=>(t=true->pI P c a Q e H)/\(t=false->pI P c b Q e H)
 | _=>False
def Al (P:Program)(c:Cfg)(b:Code)(Q:Exit->eB->AHeap->Prop)(e:eB)(H:AHeap):Prop:=pI P c (.loop b) Q e H
@[go_sem] theorem adS:pI P c .skip Q e H=Q .normal e H:=rfl
@[go_sem] theorem Zt (a:Nat)(l:List Oper):pI P c (.region a l.toArray false) Q e H=oI P c.own l.toArray l e H (Q .normal):=by
 simp [pI]
@[go_sem] theorem adV (a:Nat)(l:List Oper):pI P c (.region a l.toArray true) Q e H=kW P c.own l.toArray (c.sp a) H.next 0 l [] e ⟨H.next+l.length,H.D,H.get⟩ (Q .normal):=by
 simp [pI]
@[go_sem] theorem ae9 (a b:Code):pI P c (.seq a b) Q e H=pI P c a (tS (pI P c b Q) Q) e H:=rfl
@[go_sem] theorem adW (x:Operand)(a b:Code):pI P c (.cond x a b) Q e H=y4 P c a b Q e H (fP e x):=rfl
@[go_sem] theorem acA (id:Nat)(b:Code):pI P c (.block id b) Q e H=pI P c b (Ch id Q) e H:=rfl
@[go_sem] theorem adT (b:Code):pI P c (.loop b) Q e H=Al P c b Q e H:=rfl
@[go_sem] theorem adU (id:Nat):pI P c (.exit id) Q e H=Q (.exit id) e H:=rfl
@[go_sem] theorem afA:pI P c .ret Q e H=Q .ret e H:=rfl
@[go_sem] theorem Yq (a b:Code):y4 P c a b Q e H (.bool true)=pI P c a Q e H:=by simp [y4]
@[go_sem] theorem Xb (a b:Code):y4 P c a b Q e H (.bool false)=pI P c b Q e H:=by simp [y4]
@[go_sem] theorem VX (n:eB->AHeap->Prop):tS n Q .normal e H=n e H:=rfl
@[go_sem] theorem YF (n:eB->AHeap->Prop):tS n Q .ret e H=Q .ret e H:=rfl
@[go_sem] theorem Xo (n:eB->AHeap->Prop)(i:Nat):tS n Q (.exit i) e H=Q (.exit i) e H:=rfl
@[go_sem] theorem VN (i:Nat):Ch i Q .normal e H=Q .normal e H:=rfl
@[go_sem] theorem Yv (i:Nat):Ch i Q .ret e H=Q .ret e H:=rfl
@[go_sem] theorem PD (i j:Nat):Ch i Q (.exit j) e H=if j=i then Q .normal e H else Q (.exit j) e H:=rfl
@[go_sem] theorem Z3 (rs:List ResultVar)(R:D->AHeap->Prop):SO P rs R .ret e H=DH P rs e H λl=>R (GI l) H:=rfl
@[go_sem] theorem WR (rs:List ResultVar)(R:D->AHeap->Prop):SO P rs R .normal e H=DH P rs e H λl=>R (GI l) H:=rfl
@[go_sem] theorem abU (K:UN->Prop):DH P [] e H K=K []:=rfl
@[go_sem] theorem abT (t:Tmp)(r:List ResultVar)(K:UN->Prop):DH P (.tmp t :: r) e H K=DH P r e H λl=>K (e t :: l):=rfl
@[go_sem] theorem Zp (a:Tmp)(t:TypeId)(r:List ResultVar)(K:UN->Prop):DH P (.cell a t :: r) e H K=((o8 P t (e a) H).cond/\DH P r e H λl=>K ((o8 P t (e a) H).val :: l)):=rfl
@[go_sem] theorem Zy (d:D):GI [d]=d:=rfl
end
attribute [go_sem] if_true if_false fL Bool.true_eq_false eq_self true_and and_true forall_const true_implies false_implies jY iX List.toList_toArray eD Option.map_none
 JU oV dL dP jQ eQ implies_true
attribute [go_sem] JS IO o8 nC e8 jA i9 Ge lP qU DJ M3 yT uM jI rR uL oA AE wE DI kD VA n9 EB xP wF uJ f5 AOut.bad
 o9 gA D.cells BA BK.c5 VJ ite_self
@[go_sem] theorem adG (id:Nat):AHeap.as.get id=none:=rfl
@[go_sem] theorem aaR:AHeap.as.next=0:=rfl
@[go_sem] theorem abB (H:AHeap)(i j:Nat)(k:Blk):(H.push i k).get j=if j=i then some k else H.get j:=rfl
@[go_sem] theorem adE (H:AHeap)(i j:Nat)(k:Blk):(H.put i k).get j=if j=i then some k else H.get j:=rfl
@[go_sem] theorem Y6 (H:AHeap)(i:Nat)(k:Blk):(H.push i k).next=if i<H.next then H.next else i+1:=rfl
@[go_sem] theorem aaP (H:AHeap)(i:Nat)(k:Blk):(H.put i k).next=H.next:=rfl
@[go_sem] theorem abC (n:Nat)(al:Nat->Prop)(g:Nat->Option Blk)(j:Nat):(AHeap.mk n al g).get j=g j:=rfl
@[go_sem] theorem Y7 (n:Nat)(al:Nat->Prop)(g:Nat->Option Blk):(AHeap.mk n al g).next=n:=rfl
section
variable (H:AHeap)
@[go_sem] theorem ZZ (k:IntKind)(n:Int):fW H (.int k n)=.int k n:=rfl
@[go_sem] theorem Y1 (b:Bool):fW H (.bool b)=.bool b:=rfl
@[go_sem] theorem ZW (b:ByteArray):fW H (.str b)=.str b:=rfl
@[go_sem] theorem ZY:fW H .nil=.nil:=rfl
@[go_sem] theorem Y0 (es:UE):fW H (.list es)=.list es:=rfl
@[go_sem] theorem Z0 (es:UN):fW H (.adr es)=.adr es:=rfl
@[go_sem] theorem YY:fW H .nilp=.nilp:=rfl
@[go_sem] theorem YZ:fW H .nilf=.nilf:=rfl
@[go_sem] theorem acM (f:FuncId)(l:UN):fW H (.fn f l)=.fn f l:=rfl
@[go_sem] theorem ZX (id n:Nat):fW H (.own id n)=match H.get id with|some k=>if k.P.length=n then .list k.P else .own id n|none=>.own id n:=rfl
@[go_sem] theorem ZV (id n lo hi:Nat):fW H (.win id n lo hi)=match H.get id with|some k=>if k.P.length=n then .list ((k.P.take hi).drop lo) else .win id n lo hi|none=>.win id n lo hi:=rfl
@[go_sem] theorem ZN (id n lo hi:Nat):jG H (.win id n lo hi)=fW H (.win id n lo hi):=rfl
@[go_sem] theorem ZF (id n lo hi:Nat):oX H (.win id n lo hi)=fW H (.win id n lo hi):=rfl
@[go_sem] theorem ZS (k:IntKind)(n:Int):jG H (.int k n)=.int k n:=rfl
@[go_sem] theorem YX (b:Bool):jG H (.bool b)=.bool b:=rfl
@[go_sem] theorem ZO (b:ByteArray):jG H (.str b)=.str b:=rfl
@[go_sem] theorem ZR:jG H .nil=.nil:=rfl
@[go_sem] theorem YW (es:UE):jG H (.list es)=.list es:=rfl
@[go_sem] theorem ZU (es:UN):jG H (.adr es)=.adr es:=rfl
@[go_sem] theorem YU:jG H .nilp=.nilp:=rfl
@[go_sem] theorem YV:jG H .nilf=.nilf:=rfl
@[go_sem] theorem acL (f:FuncId)(l:UN):jG H (.fn f l)=.fn f l:=rfl
@[go_sem] theorem ZT (l:UN):jG H (.agg l)=.agg (l.map (fW H)):=rfl
@[go_sem] theorem ZQ (id n:Nat):jG H (.own id n)=fW H (.own id n):=rfl
@[go_sem] theorem ZG (l:UN):oX H (.tup l)=.tup (l.map (jG H)):=rfl
@[go_sem] theorem ZK (k:IntKind)(n:Int):oX H (.int k n)=.int k n:=rfl
@[go_sem] theorem YT (b:Bool):oX H (.bool b)=.bool b:=rfl
@[go_sem] theorem ZH (b:ByteArray):oX H (.str b)=.str b:=rfl
@[go_sem] theorem ZJ:oX H .nil=.nil:=rfl
@[go_sem] theorem YS (es:UE):oX H (.list es)=.list es:=rfl
@[go_sem] theorem ZM (es:UN):oX H (.adr es)=.adr es:=rfl
@[go_sem] theorem YQ:oX H .nilp=.nilp:=rfl
@[go_sem] theorem YR:oX H .nilf=.nilf:=rfl
@[go_sem] theorem acK (f:FuncId)(l:UN):oX H (.fn f l)=.fn f l:=rfl
@[go_sem] theorem ZL (l:UN):oX H (.agg l)=.agg (l.map (fW H)):=rfl
@[go_sem] theorem ZI (id n:Nat):oX H (.own id n)=fW H (.own id n):=rfl
end
@[go_sem] theorem aa6 (k:IntKind)(n:Int):l9 (.int k n)=[]:=rfl
@[go_sem] theorem Zc (b:Bool):l9 (.bool b)=[]:=rfl
@[go_sem] theorem aa3 (b:ByteArray):l9 (.str b)=[]:=rfl
@[go_sem] theorem aa5:l9 .nil=[]:=rfl
@[go_sem] theorem Zb (es:UE):l9 (.list es)=[]:=rfl
@[go_sem] theorem aa7 (es:UN):l9 (.adr es)=[]:=rfl
@[go_sem] theorem Y9:l9 .nilp=[]:=rfl
@[go_sem] theorem Za:l9 .nilf=[]:=rfl
@[go_sem] theorem ac7 (f:FuncId)(l:UN):l9 (.fn f l)=[]:=rfl
@[go_sem] theorem aa2 (id n lo hi:Nat):l9 (.win id n lo hi)=[id]:=rfl
@[go_sem] theorem XB (id n lo hi:Nat):eG (.win id n lo hi)=[id]:=rfl
@[go_sem] theorem aa4 (id n:Nat):l9 (.own id n)=[id]:=rfl
@[go_sem] theorem XG (k:IntKind)(n:Int):eG (.int k n)=[]:=rfl
@[go_sem] theorem WV (b:Bool):eG (.bool b)=[]:=rfl
@[go_sem] theorem XC (b:ByteArray):eG (.str b)=[]:=rfl
@[go_sem] theorem XF:eG .nil=[]:=rfl
@[go_sem] theorem WU (es:UE):eG (.list es)=[]:=rfl
@[go_sem] theorem XI (es:UN):eG (.adr es)=[]:=rfl
@[go_sem] theorem WS:eG .nilp=[]:=rfl
@[go_sem] theorem WT:eG .nilf=[]:=rfl
@[go_sem] theorem Y4 (f:FuncId)(l:UN):eG (.fn f l)=[]:=rfl
@[go_sem] theorem XE (id n:Nat):eG (.own id n)=[id]:=rfl
@[go_sem] theorem XH (l:UN):eG (.agg l)=l.flatMap l9:=rfl
@[go_sem] theorem abD (H:AHeap)(id:Nat):H.frz id=match H.get id with|some k=>H.put id { k with fz:=true } | none=>H:=rfl
@[go_sem] theorem Z5 (H:AHeap)(a:Nat)(k b:Blk):(H.push a k).put a b=H.push a b:=by
 unfold AHeap.push AHeap.put;grind
@[go_sem] theorem acO (H:AHeap)(a:Nat)(k b:Blk):(H.put a k).put a b=H.put a b:=by
 unfold AHeap.put;grind
section
variable {P:Program} {c:Cfg} {Q:Exit→eB→AHeap→Prop} {e:eB} {H:AHeap} {a b:Code}
theorem bA {t:Bool}(h1:t=true->pI P c a Q e H)(h2:t=false->pI P c b Q e H):y4 P c a b Q e H (.bool t):=⟨h1,h2⟩
theorem gP {p:Prop}[Decidable p](h1:p->pI P c a Q e H)(h2:¬ p->pI P c b Q e H):y4 P c a b Q e H (.bool (decide p)):=⟨λh=>h1 (of_decide_eq_true h),λh=>h2 (of_decide_eq_false h)⟩
end
attribute [irreducible] y4 f7 As Al
end Go.Abs
end
section
namespace Go.Abs
section
variable {P:Program} {c:Cfg} {md:Nat→Bool}
theorem IM {t:Option Nat}{nid:Nat}{ops:Array Oper}{e:eB}{o:Oper}{H:AHeap}{K K':D->AHeap->List Nat->Prop}(d:∀ v H F,K v H F->K' v H F)(h:qT P md t nid ops e o H K):qT P md t nid ops e o H K':=by
 unfold qT at h ⊢;cases x:o.guard with
 | none =>
  simp only [x] at h ⊢;cases k:iL e o with
  | none=>simp only [k] at h ⊢;exact ⟨h.1,λhf=>d _ _ _ (h.2 hf)⟩
  | some p =>
   obtain ⟨f,s⟩:=p;simp only [k] at h ⊢;cases t with
   | none=>exact h.mono λ_ _ h=>d _ _ _ h
   | some m =>
    rcases h with ⟨r,S,y,c⟩|⟨z,r,S,u,q,A,hq,y,c⟩
    .exact .inl ⟨r,S,y,d _ _ _ c⟩
    grind
 | some p =>
  obtain ⟨j,b⟩:=p;simp only [x] at h ⊢;cases i:gD ops e j with
  | none=>simp only [i] at h
  | some gc =>
   obtain ⟨g,B⟩:=gc;simp only [i] at h ⊢;refine ⟨h.1,?_⟩;have c:=h.2;cases k:iL (gE e o.op) o with
   | none=>simp only [k] at c ⊢;exact ⟨c.1,λhf=>d _ _ _ (c.2 hf)⟩
   | some p =>
    obtain ⟨f,s⟩:=p;simp only [k] at c ⊢;cases t with
    | some _=>obtain ⟨r,S,n,l⟩:=c;exact ⟨r,S,n,d _ _ _ l⟩
    | none =>
     rcases c with ⟨r,S,n,l⟩|⟨n,l⟩
     .exact .inl ⟨r,S,n,d _ _ _ l⟩
     .exact .inr ⟨λhq=>(n hq).mono λ_ _ h=>d _ _ _ h,λhq=>(l hq).imp λ_ h=>d _ _ _ h⟩
theorem Lp {ops:Array Oper}{K K':eB->AHeap->Prop}(hk:∀ e H,K e H->K' e H):∀ (l:List Oper) (e:eB) (H:AHeap),oI P md ops l e H K->oI P md ops l e H K'
 | [],e,H,h=>hk _ _ h
 | o :: l,e,H,h=>by
  unfold oI at h ⊢;exact IM (λv H' _ h=>Lp hk l _ _ h) h
theorem IP {ops:Array Oper}{sp:List (Nat × Nat)}{n0:Nat}{K K':eB->AHeap->Prop}(hk:∀ e H,K e H->K' e H):∀ (l:List Oper) (i:Nat) (acc:List (Nat × List Nat)) (e:eB) (H:AHeap),
  kW P md ops sp n0 i l acc e H K->kW P md ops sp n0 i l acc e H K'
 | [],i,acc,e,H,h=>by unfold kW at h ⊢;exact hk _ _ h
 | o :: l,i,acc,e,H,h=>by
  unfold kW at h ⊢;exact IM (λv H' _ h=>⟨h.1,IP hk l _ _ _ _ h.2⟩) h
theorem xR {n a:eB->AHeap->Prop}{Q b:Exit->eB->AHeap->Prop}(d:∀ e H,n e H->a e H)(c:∀ x e H,Q x e H->b x e H):∀ x e H,tS n Q x e H->tS a b x e H:=by
 intro x e H h;cases x<;>first|exact d _ _ h|exact c _ _ _ h
theorem PC {i:Nat}{Q a:Exit->eB->AHeap->Prop}(b:∀ x e H,Q x e H->a x e H):∀ x e H,Ch i Q x e H->Ch i a x e H:=by
 intro x e H h;cases x<;>first|exact b _ _ _ h|skip
 rename_i j;rw [PD] at h ⊢;grind
theorem sI:∀ (x:Code) {Q Q':Exit->eB->AHeap->Prop} (hq:∀ x e H,Q x e H->Q' x e H) (e:eB) (H:AHeap),pI P c x Q e H->pI P c x Q' e H
 | .skip,Q,Q',hq,e,H,h=>hq _ _ _ h
 | .region id ops dr,Q,Q',hq,e,H,h=>by
  unfold pI at h ⊢;cases dr with
  | false=>simp only [fL,if_false] at h ⊢;exact Lp (λe H h=>hq _ _ _ h) _ _ _ h
  | true=>simp only [if_true] at h ⊢;exact IP (λe H h=>hq _ _ _ h) _ _ _ _ _ h
 | .seq a b,Q,Q',hq,e,H,h=>by
  unfold pI at h ⊢;exact sI a (xR (λe H h=>sI b hq e H h) hq) e H h
 | .cond x a b,Q,Q',hq,e,H,h=>by
  unfold pI at h ⊢;cases hv:fP e x<;>simp only [hv] at h ⊢<;>try (exact h.elim)
  exact ⟨λht=>sI a hq e H (h.1 ht),λht=>sI b hq e H (h.2 ht)⟩
 | .block id b,Q,Q',hq,e,H,h=>by
  unfold pI at h ⊢;exact sI b (PC hq) e H h
 | .loop b,Q,Q',hq,e,H,h=>by
  unfold pI at h ⊢;obtain ⟨I,h0,hI⟩:=h;exact ⟨I,h0,λk e' H' hi=>sI b (xR (λ_ _ h=>h) hq) _ _ (hI k e' H' hi)⟩
 | .exit id,Q,Q',hq,e,H,h=>hq _ _ _ h
 | .ret,Q,Q',hq,e,H,h=>hq _ _ _ h
 | .rangeFunc ..,Q,Q',hq,e,H,h=>h.elim
 | .scope ..,Q,Q',hq,e,H,h=>h.elim
 | .label ..,Q,Q',hq,e,H,h=>h.elim
 | .goto ..,Q,Q',hq,e,H,h=>h.elim
 | .refuse ..,Q,Q',hq,e,H,h=>h.elim
theorem gF {b:Code}{Q:Exit->eB->AHeap->Prop}{e:eB}{H:AHeap}{ι:Type}(I:ι->eB->AHeap->Prop)(μ:ι->Nat)(i:ι)(n:I i e H)
  (l:∀ x e H,I x e H->pI P c b (tS (λe' H'=>∃ x',μ x'<μ x/\I x' e' H') Q) e H):Al P c b Q e H:=by
 unfold Al pI;refine ⟨λk e H=>∃ x,μ x=k/\I x e H,⟨e,H,.gh (.refl H),_,i,rfl,n⟩,λk e' H' ⟨x,m,j⟩=>sI b (xR (λf g ⟨x',d,a⟩=>⟨f,g,.gh (.refl _),_,m ▸ d,x',rfl,a⟩) λ_ _ _ h=>h) _ _ (l x e' H' j)⟩
theorem yF {b:Code}{Q:Exit->eB->AHeap->Prop}{e g:eB}{H H':AHeap}(n:GhE e H g H'){ι:Type}(I:ι->eB->AHeap->Prop)(μ:ι->Nat)(i:ι)(o:I i g H')
  (l:∀ x e H,I x e H->pI P c b (tS (λe' H'=>∃ e3 H3,GhE e' H' e3 H3/\∃ x',μ x'<μ x/\I x' e3 H3) Q) e H):Al P c b Q e H:=by
 unfold Al pI;refine ⟨λk e H=>∃ x,μ x=k/\I x e H,⟨g,H',n,_,i,rfl,o⟩,λk e' H' ⟨x,m,j⟩=>sI b (xR (λp q ⟨e3,H3,f,x',d,a⟩=>⟨e3,H3,f,_,m ▸ d,x',rfl,a⟩) λ_ _ _ h=>h) _ _ (l x e' H' j)⟩
theorem aB {ops:Array Oper}{a:List Oper}{e:eB}{b:Option Tmp}{K:eB->AHeap->Prop}{f:FuncId}{args:UN}{H:AHeap}{r:D}(d:Pure P f args r)(c:D.J args=true)
 (h:oI P md ops a (oO e b r) H K):f7 P md ops a e b K f args H:=by grind [f7, tC]
theorem eH {ops:Array Oper}{a:List Oper}{e:eB}{b:Option Tmp}{K:eB->AHeap->Prop}{f:FuncId}{args args':UN}{H:AHeap}{r:D}(d:Pure P f args' r)(i:args.map (jG H)=args')(c:D.J args'=true)(g:r.bd=true)
 (h:oI P md ops a (oO e b r) H K):f7 P md ops a e b K f args H:=by grind [f7, yU]
theorem Px {ops:Array Oper}{a:List Oper}{e:eB}{b:Option Tmp}{K:eB->AHeap->Prop}{f:FuncId}{args args':UN}{H H':AHeap}{r:D}(g:Pure P f args' r)(i:args.map (jG H)=args')(c:D.J args'=true)
 (d:f5 (args.flatMap eG) H=H') (h:oI P md ops a (oO e b r) H' K):f7 P md ops a e b K f args H:=by grind [f7, Na]
theorem lU {ops:Array Oper}{a:List Oper}{e:eB}{b:Option Tmp}{K:eB->AHeap->Prop}{f:FuncId}{args:UN}{H:AHeap}{ty:TypeId}{sz:Nat}{es:UE}(d:Own P f args ty sz es)(c:D.J args=true)
 (h:oI P md ops a (oO e b (.own H.next es.length)) (H.push H.next ⟨ty,sz,es,false⟩) K):f7 P md ops a e b K f args H:=by grind [f7, FC]
end
end Go.Abs
end
section
namespace Go.Abs
def rL (P:Program)(md:Nat->Bool)(ops:Array Oper)(sp:List (Nat × Nat))(n0 i:Nat)(rest:List Oper)(acc:List (Nat × List Nat))(e:eB)(dst:Option Tmp)(K:eB->AHeap->Prop)(f:FuncId)(args:UN)(H:AHeap):Prop :=
 (∃ r S,(∀ H',gM S H' H->ACalls P f args H' λv H1=>v=r/\H1=H')/\o6 sp i S acc/\kW P md ops sp n0 (i+1) rest ((i,S) :: acc) (oO e dst r) H K) \/
 (Ec md dst=true/\∃ r S u q,(∀ p∈u,p.1∈S)/\(∀ p∈q,p.1<n0/\¬ H.D p.1)/\(∀ H',gM S H' H->(∀ p∈q,p.1<H'.next/\¬ H'.D p.1)->ACalls P f args H' λv H1=>v=r/\H1=(H'.ai u).ad q) /\
  o6 sp i (S++q.map (·.1)) acc/\kW P md ops sp n0 (i+1) rest ((i,S++q.map (·.1)) :: acc) (oO e dst r) ((H.ai u).ad q) K)
def vM (P:Program)(md:Nat->Bool)(ops:Array Oper)(sp:List (Nat × Nat))(n0 i:Nat)(rest:List Oper)(acc:List (Nat × List Nat))(e:eB)(dst:Option Tmp)(K:eB->AHeap->Prop)(t:Bool)(f:FuncId)(args:UN)(H:AHeap):Prop :=
 ∃ r S,(t=true->∀ H',gM S H' H->ACalls P f args H' λv H1=>v=r/\H1=H')/\o6 sp i S acc/\kW P md ops sp n0 (i+1) rest ((i,S) :: acc) (oO e dst (.opt t r)) H K
def KR (nid:Nat)(e:eB)(o:Oper):List Nat:=foot nid (match o.guard with|none=>e|some _=>gE e o.op) o.op
def uC (P:Program)(md:Nat->Bool)(ops:Array Oper)(sp:List (Nat × Nat))(n0 i:Nat)(rest:List Oper)(acc:List (Nat × List Nat))(e:eB)(dst:Option Tmp)(H:AHeap)(K:eB->AHeap->Prop)(F:List Nat):SOut->Prop
 | .op o=>o.cond/\o6 sp i F acc/\kW P md ops sp n0 (i+1) rest ((i,F) :: acc) (oO e dst o.val) o.heap K
 | .call f args=>rL P md ops sp n0 i rest acc e dst K f args H
 | .gop t g o=>(t=true->g=true)/\(t=true->o.cond/\o.heap=H)/\o6 sp i F acc/\kW P md ops sp n0 (i+1) rest ((i,F) :: acc) (oO e dst (.opt t o.val)) H K
 | .gcall t g f args=>(t=true->g=true)/\vM P md ops sp n0 i rest acc e dst K t f args H
 | .bad=>False
theorem Ro (P:Program)(md:Nat->Bool)(ops:Array Oper)(q:List (Nat × Nat))(n i:Nat)(o:Oper)(k:List Oper)(m:List (Nat × List Nat))(e:eB)(H:AHeap)(K:eB->AHeap->Prop) :
  kW P md ops q n i (o :: k) m e H K=uC P md ops q n i k m e o.dst H K (KR (n+i) e o) (oD P md (n+i) ops e o H):=by
 obtain ⟨dst,op,type,pos,after,guard⟩:=o;cases guard with
 | none =>
  simp only [kW,qT,oD,KR];cases s:iL e { dst:=dst,op:=op,type:=type,pos:=pos,after:=after,guard:=none } with
  | none=>simp [LH,uC]
  | some p=>simp [LH,uC,rL]
 | some p =>
  obtain ⟨j,b⟩:=p;simp only [kW,qT,oD,KR];cases u:gD ops e j with
  | none=>simp [Jc,uC]
  | some gc =>
   obtain ⟨t,v⟩:=gc;cases s:iL (gE e op) { dst:=dst,op:=op,type:=type,pos:=pos,after:=after,guard:=some (j,b) } with
   | none=>simp [Jc,uC]
   | some p=>simp [Jc,uC,vM]
@[go_sem] theorem YA (P:Program)(md:Nat->Bool)(ops:Array Oper)(sp:List (Nat × Nat))(n0 i:Nat)(acc:List (Nat × List Nat))(e:eB)(H:AHeap)(K:eB->AHeap->Prop):kW P md ops sp n0 i [] acc e H K=K e H:=rfl
section
variable (P:Program) (md:Nat→Bool) (ops:Array Oper) (sp:List (Nat × Nat)) (n0 i:Nat) (rest:List Oper) (acc:List (Nat × List Nat)) (e:eB) (dst:Option Tmp) (H H':AHeap) (K:eB→AHeap→Prop) (F:List Nat) (c f:Prop) (v:D) (t g:Bool) (fn:FuncId) (args:UN)
@[go_sem] theorem Zk:uC P md ops sp n0 i rest acc e dst H K F (.op ⟨c,f,v,H'⟩)=(c/\o6 sp i F acc/\kW P md ops sp n0 (i+1) rest ((i,F) :: acc) (oO e dst v) H' K):=rfl
@[go_sem] theorem W9:uC P md ops sp n0 i rest acc e dst H K F (.call fn args)=rL P md ops sp n0 i rest acc e dst K fn args H:=rfl
@[go_sem] theorem Yn:uC P md ops sp n0 i rest acc e dst H K F (.gop t g ⟨c,f,v,H'⟩) =
 ((t=true->g=true)/\(t=true->c/\H'=H)/\o6 sp i F acc/\kW P md ops sp n0 (i+1) rest ((i,F) :: acc) (oO e dst (.opt t v)) H K):=rfl
@[go_sem] theorem WC:uC P md ops sp n0 i rest acc e dst H K F (.gcall t g fn args)=((t=true->g=true)/\vM P md ops sp n0 i rest acc e dst K t fn args H):=rfl
@[go_sem] theorem Xg (d:Option Tmp)(op:Op)(ty:TypeId)(p:String)(af:Array Edge)(gu:Option (Nat × Bool)) :
 kW P md ops sp n0 i (⟨d,op,ty,p,af,gu⟩ :: rest) acc e H K=uC P md ops sp n0 i rest acc e d H K (KR (n0+i) e ⟨d,op,ty,p,af,gu⟩) (oD P md (n0+i) ops e ⟨d,op,ty,p,af,gu⟩ H):=Ro P md ops sp n0 i _ rest acc e H K
@[go_sem] theorem adN:o6 [] i F acc=True:=rfl
end
@[go_sem] theorem abQ (p:Nat × Nat)(sp:List (Nat × Nat))(i:Nat)(F:List Nat)(acc:List (Nat × List Nat)):o6 (p :: sp) i F acc = ∀ q∈acc,(q.1,i)∈(p :: sp)->∀ x∈q.2,x∉F:=rfl
@[go_sem] theorem Yh (nid:Nat)(e:eB)(d:Option Tmp)(op:Op)(ty:TypeId)(p:String)(af:Array Edge):KR nid e ⟨d,op,ty,p,af,none⟩=foot nid e op:=rfl
@[go_sem] theorem Yg (nid:Nat)(e:eB)(d:Option Tmp)(op:Op)(ty:TypeId)(p:String)(af:Array Edge)(g:Nat × Bool):KR nid e ⟨d,op,ty,p,af,some g⟩=foot nid (gE e op) op:=rfl
attribute [go_sem] foot HK sD Op.operands Call.operands
@[go_sem] theorem X6 (k:IntKind)(n:Int):eO (.int k n)=[]:=rfl
@[go_sem] theorem W7 (b:Bool):eO (.bool b)=[]:=rfl
@[go_sem] theorem X1 (b:ByteArray):eO (.str b)=[]:=rfl
@[go_sem] theorem X5:eO .nil=[]:=rfl
@[go_sem] theorem W5 (es:UE):eO (.list es)=[]:=rfl
@[go_sem] theorem X8 (es:UN):eO (.adr es)=[]:=rfl
@[go_sem] theorem W2:eO .nilp=[]:=rfl
@[go_sem] theorem W4:eO .nilf=[]:=rfl
@[go_sem] theorem Y8 (f:FuncId)(l:UN):eO (.fn f l)=[]:=rfl
@[go_sem] theorem X3 (id n:Nat):eO (.own id n)=[id]:=rfl
@[go_sem] theorem XZ (id n lo hi:Nat):eO (.win id n lo hi)=[id]:=rfl
@[go_sem] theorem X2 (id v i o:Nat):eO (.ptr id v i o)=[id]:=rfl
@[go_sem] theorem X7 (l:UN):eO (.agg l)=l.flatMap l9:=rfl
@[go_sem] theorem X4 (t:Bool)(d:D):eO (.opt t d)=[]:=rfl
@[go_sem] theorem W6:eO .junk=[]:=rfl
@[go_sem] theorem X0 (l:UN):eO (.tup l)=[]:=rfl
/-! ### guards -/
def gV:D->Option (Bool × Bool)
 | .bool c=>some (true,c)
 | .opt g (.bool c)=>some (g,c)
 | _=>none
def gT (e:eB):Option Tmp->Option (Bool × Bool)
 | some t=>gV (e t)
 | none=>none
@[go_sem] theorem adI (e:eB)(t:Nat):gT e (some t)=gV (e t):=rfl
@[go_sem] theorem adH (c:Bool):gV (.bool c)=some (true,c):=rfl
@[go_sem] theorem ae2 (g c:Bool):gV (.opt g (.bool c))=some (g,c):=rfl
section
variable (P:Program) (md:Nat→Bool) (nid:Nat) (ops:Array Oper) (e:eB) (d:Option Tmp) (op:Op) (ty:TypeId) (p:String) (af:Array Edge) (H:AHeap) (j:Nat) (b:Bool)
@[go_sem] theorem Xu:oD P md nid ops e ⟨d,op,ty,p,af,some (j,b)⟩ H =
 Jc (gD ops e j) b (TY e (gO op)) (iL (gE e op) ⟨d,op,ty,p,af,none⟩) (Gc P nid md (gE e op) ⟨d,op,ty,p,af,none⟩ H):=rfl
@[go_sem] theorem ae3 (l:List Oper):gD l.toArray e j=gT e ((l[j]?).bind (·.dst)):=by grind [gD, gT, gV]
end
@[go_sem] theorem YK (t c b g:Bool)(f:FuncId)(args:UN)(o:AOut):Jc (some (t,c)) b g (some (f,args)) o=.gcall (t&&(c==b)) g f args:=rfl
@[go_sem] theorem acC (t c b g:Bool)(o:AOut):Jc (some (t,c)) b g none o=.gop (t&&(c==b)) g o:=rfl
attribute [go_sem] gE gO Operand.tmp.injEq TY og iL Gc Option.bind_some mK IT iH Bool.and_true beq_false beq_true beq_self_eq_true
 dL Bool.and_self IW Bool.not_false
@[go_sem] theorem YH (e:eB)(d:Option Tmp)(v:D)(t:Nat):EI (oO e d v) t=match oO e d v t with | .opt _ d=>d|d=>d:=rfl
@[go_sem] theorem Xr (l:UN)(t:Nat):EI (Dl l) t=match Dl l t with | .opt _ d=>d|d=>d:=rfl
section
variable {P:Program} {md:Nat→Bool} {ops:Array Oper} {sp:List (Nat × Nat)} {n0 i:Nat} {rest:List Oper} {acc:List (Nat × List Nat)} {e:eB} {dst:Option Tmp} {K:eB→AHeap→Prop} {f:FuncId} {args args':UN} {H:AHeap} {r:D}
theorem Ld:o6 sp i [] acc:=by
 unfold o6;grind
theorem aI (hp:Pure P f args r)(hcl:D.J args=true)(h:kW P md ops sp n0 (i+1) rest ((i,[]) :: acc) (oO e dst r) H K):rL P md ops sp n0 i rest acc e dst K f args H :=
 .inl ⟨r,[],λH' _=>tC hp hcl ⟨rfl,rfl⟩,Ld,h⟩
theorem dJ {t:Bool}(hp:t=true->Pure P f args r)(hcl:t=true->D.J args=true)(h:kW P md ops sp n0 (i+1) rest ((i,[]) :: acc) (oO e dst (.opt t r)) H K):vM P md ops sp n0 i rest acc e dst K t f args H :=
 ⟨r,[],λht H' _=>tC (hp ht) (hcl ht) ⟨rfl,rfl⟩,Ld,h⟩
theorem aH {t:Bool}(b:t=true->Pure P f args r)(a:t=true->D.J args=true)(h:oI P md ops rest (oO e dst (.opt t r)) H K):As P md ops rest e dst K t f args H:=by
 unfold As;exact .inl ⟨r,[],λht H' _=>tC (b ht) (a ht) ⟨rfl,rfl⟩,h⟩
theorem xY {S:List Nat}{H':AHeap}(c:gM S H' H){d:D}(b:∀ x∈l9 d,x∈S):fW H' d=fW H d:=by
 cases d<;>try rfl
 .rename_i a n;have:=c a (b a (by simp [l9]));simp only [fW,this]
 .rename_i a n e f;have:=c a (b a (by simp [l9]));simp only [fW,this]
theorem G8 {S:List Nat}{H':AHeap}(b:gM S H' H){d:D}(a:∀ x∈eG d,x∈S):jG H' d=jG H d:=by
 cases d<;>try rfl
 case own id n=>exact xY (d:=.own id n) b a
 case win id n lo hi=>exact xY (d:=.win id n lo hi) b a
 case agg l =>
  simp only [jG];congr 1;exact cH λx e=>xY b λy c=>a y (by simp only [eG,bT];exact ⟨x,e,c⟩)
theorem Ck {S:List Nat}{H':AHeap}(ha:gM S H' H){l:UN}(hd:∀ x∈l.flatMap eG,x∈S):l.map (jG H')=l.map (jG H) :=
 cH λd hm=>G8 ha λx hx=>hd x (bT.2 ⟨d,hm,hx⟩)
theorem JG {t:Bool}(c:t=true->Pure P f args' r)(j:args.map (jG H)=args')(a:t=true->D.J args'=true)(d:t=true->r.bd=true){S:List Nat}(k:args.flatMap eG=S)(g:o6 sp i S acc)
  (h:kW P md ops sp n0 (i+1) rest ((i,S) :: acc) (oO e dst (.opt t r)) H K):vM P md ops sp n0 i rest acc e dst K t f args H:=by
 subst j k;refine ⟨r,_,λht H' hag=>?_,g,h⟩;have b:=Ck hag λx hx=>hx;exact yU (by rw [b];exact c ht) (by rw [b];exact a ht) (d ht) ⟨rfl,rfl⟩
theorem Mx {t:Bool}(c:t=true->Pure P f args' r)(g:args.map (jG H)=args')(a:t=true->D.J args'=true)(d:t=true->r.bd=true)
  (h:oI P md ops rest (oO e dst (.opt t r)) H K):As P md ops rest e dst K t f args H:=by
 subst g;unfold As;refine .inl ⟨r,args.flatMap eG,λht H' hag=>?_,h⟩;have b:=Ck hag λx hx=>hx;exact yU (by rw [b];exact c ht) (by rw [b];exact a ht) (d ht) ⟨rfl,rfl⟩
end
/-! ### calls of function values -/
def Sk:D->UN->Option (FuncId × UN)
 | .fn g caps,az=>some (g,az++caps)
 | _,_=>none
@[go_sem] theorem abR (g:FuncId)(caps az:UN):Sk (.fn g caps) az=some (g,az++caps):=rfl
theorem Re (e:eB)(d:Option Tmp)(f:Operand)(args:Array Operand)(ts:Array TypeId)(ty:TypeId)(p:String)(a:Array Edge)(g:Option (Nat × Bool)) :
  iL e ⟨d,.call ⟨.value f,args,ts⟩,ty,p,a,g⟩=Sk (fP e f) (args.toList.map (fP e)):=by grind [iL, Sk]
@[go_sem] theorem acG (P:Program)(md:Nat->Bool)(nid:Nat)(ops:Array Oper)(e:eB)(d:Option Tmp)(ty:TypeId)(p:String)(a:Array Edge)(H:AHeap)(t:Nat)(args:Array Operand)(ts:Array TypeId) :
  oD P md nid ops e ⟨d,.call ⟨.value (.tmp t),args,ts⟩,ty,p,a,none⟩ H=LH (Sk (e t) (args.toList.map (fP e))) (.bad H):=by
 simp only [oD,Re];rfl
attribute [go_sem] decide_eq_true_eq dP dN
attribute [irreducible] rL vM
end Go.Abs
end
section
namespace Go.Abs
attribute [go_sem] D.cell D.Q D.J D.R D.bd D.cC tU sR uO List.take_zero List.drop_succ_cons List.drop_zero pV List.replicate_zero fH List.flatten_nil
def dI (n:Int):D:=.int .i64 n
def cI (n:Int):UN:=[.int .i64 n]
def cS (s:ByteArray):UN:=[.str s]
def dLI (xs:V2):D:=.list (xs.map cI)
def uS (xs:List ByteArray):D:=.list (xs.map cS)
structure Attr where
 name:ByteArray
 ap:Int
 a8:Int
 af:List ByteArray
def Attr.c (a:Attr):UN:=[.str a.name,dI a.ap,dI a.a8,uS a.af]
structure NodeTy where
 name:ByteArray
 C:Int
 e7:Bool
 r:List Attr
def NodeTy.c (n:NodeTy):UN:=[.str n.name,dI n.C,.bool n.e7,.list (n.r.map Attr.c)]
structure EdgeTy where
 name:ByteArray
 w:Int
 M:Int
 cn:Int
 b7:Int
 dc:Int
 cp:Int
def EdgeTy.c (x:EdgeTy):UN:=[.str x.name,dI x.w,dI x.M,dI x.cn,dI x.b7,dI x.dc,dI x.cp]
structure Types where
 h:List NodeTy
 j:List EdgeTy
def Types.c (t:Types):UN:=[.list (t.h.map NodeTy.c),.list (t.j.map EdgeTy.c)]
def Types.d (t:Types):D:=.agg t.c
structure Edge where
 type:Int
 w:Int
 M:Int
def Edge.c (x:Edge):UN:=[dI x.type,dI x.w,dI x.M]
structure Graph where
 h:V2
 j:List Edge
def Graph.c (g:Graph):UN:=[dLI g.h,.list (g.j.map Edge.c)]
def Graph.d (g:Graph):D:=.agg g.c
/-! ### closed -/
theorem dY {α:Type}(f:α->UN)(h:∀ a,D.J (f a)=true)(l:List α):D.R (l.map f)=true:=by
 induction l with
 | nil=>rfl
 | cons a l ih=>simp [D.R,h,ih]
@[go_sem] theorem qO (l:V2):(dLI l).Q=true:=by simp only [dLI,D.Q];exact dY _ (λ_=>rfl) l
@[go_sem] theorem Vg (l:List ByteArray):(uS l).Q=true:=by simp only [uS,D.Q];exact dY _ (λ_=>rfl) l
@[go_sem] theorem Attr.Q (a:Attr):D.J a.c=true:=by simp [Attr.c,D.J,D.Q,dI,Vg]
@[go_sem] theorem NodeTy.Q (n:NodeTy):D.J n.c=true:=by simp [NodeTy.c,D.J,D.Q,dI,dY _ Attr.Q]
@[go_sem] theorem EdgeTy.Q (x:EdgeTy):D.J x.c=true:=by simp [EdgeTy.c,D.J,D.Q,dI]
@[go_sem] theorem Types.Q (t:Types):t.d.Q=true:=by simp [Types.d,Types.c,D.J,D.Q,dY _ NodeTy.Q,dY _ EdgeTy.Q]
@[go_sem] theorem Edge.Q (x:Edge):D.J x.c=true:=by simp [Edge.c,D.J,D.Q,dI]
@[go_sem] theorem Graph.Q (g:Graph):g.d.Q=true:=by simp [Graph.d,Graph.c,D.J,D.Q,qO,dY _ Edge.Q]
@[go_sem] theorem Zx (a b:D)(l:UN):GI (a :: b :: l)=.tup (a :: b :: l):=rfl
end Go.Abs
end
section
namespace Go.Abs
structure Term where
 O:Int
 add:Int
def Term.c (x:Term):UN:=[dI x.O,dI x.add]
structure Slot where
 node:Int
 H:Int
 y:Term
def Slot.c (x:Slot):UN:=[dI x.node,dI x.H,dI x.y.O,dI x.y.add]
structure Test where
 B:Int
 left:Term
 right:Term
def Test.c (x:Test):UN:=[dI x.B,dI x.left.O,dI x.left.add,dI x.right.O,dI x.right.add]
structure Pattern where
 i:Graph
 o:List Slot
 vars:Int
 E:List Test
def Pattern.c (p:Pattern):UN:=[dLI p.i.h,.list (p.i.j.map Edge.c),.list (p.o.map Slot.c),dI p.vars,.list (p.E.map Test.c)]
def Pattern.d (p:Pattern):D:=.agg p.c
structure Part where
 h:V2
 j:V2
def Part.c (p:Part):UN:=[dLI p.h,dLI p.j]
def Part.d (p:Part):D:=.agg p.c
inductive Cond where
 | mk (kind:Int) (kids:List Cond) (map:Part) (pattern:Pattern)
def Cond.B:Cond->Int | .mk k _ _ _=>k
def Cond.u:Cond->List Cond | .mk _ l _ _=>l
def Cond.map:Cond->Part | .mk _ _ m _=>m
def Cond.l:Cond->Pattern | .mk _ _ _ p=>p
mutual
def Cond.c:Cond->UN
 | .mk k l m p=>[dI k,.list (Cond.cs l),dLI m.h,dLI m.j,dLI p.i.h,.list (p.i.j.map Edge.c),.list (p.o.map Slot.c),dI p.vars,.list (p.E.map Test.c)]
def Cond.cs:List Cond->UE
 | []=>[]
 | c :: l=>c.c :: Cond.cs l
end
theorem Cond.b6 (l:List Cond):Cond.cs l=l.map Cond.c:=by
 induction l with
 | nil=>simp [Cond.cs]
 | cons a l ih=>simp [Cond.cs,ih]
theorem Cond.x (x:Cond):x.c=[dI x.B,.list (x.u.map Cond.c),dLI x.map.h,dLI x.map.j,dLI x.l.i.h,.list (x.l.i.j.map Edge.c),.list (x.l.o.map Slot.c),dI x.l.vars,.list (x.l.E.map Test.c)]:=by
 cases x;simp [Cond.c,Cond.B,Cond.u,Cond.map,Cond.l,Cond.b6]
structure Rule where
 name:ByteArray
 left:Pattern
 right:Pattern
 q:Part
 s:Part
 inj:Bool
 cond:Cond
def Rule.c (r:Rule):UN:=[.str r.name,dLI r.left.i.h,.list (r.left.i.j.map Edge.c),.list (r.left.o.map Slot.c),dI r.left.vars,.list (r.left.E.map Test.c),
 dLI r.right.i.h,.list (r.right.i.j.map Edge.c),.list (r.right.o.map Slot.c),dI r.right.vars,.list (r.right.E.map Test.c),
 dLI r.q.h,dLI r.q.j,dLI r.s.h,dLI r.s.j,.bool r.inj,
 dI r.cond.B,.list (r.cond.u.map Cond.c),dLI r.cond.map.h,dLI r.cond.map.j,dLI r.cond.l.i.h,.list (r.cond.l.i.j.map Edge.c),.list (r.cond.l.o.map Slot.c),dI r.cond.l.vars,.list (r.cond.l.E.map Test.c)]
def Rule.d (r:Rule):D:=.agg r.c
structure Stage where
 gv:V2
 gz:V2
def Stage.c (s:Stage):UN:=[dLI s.gv,dLI s.gz]
@[go_sem] theorem Slot.Q (x:Slot):D.J x.c=true:=rfl
@[go_sem] theorem Test.Q (x:Test):D.J x.c=true:=rfl
@[go_sem] theorem GT (l:List Slot):D.R (l.map Slot.c)=true:=dY _ Slot.Q l
@[go_sem] theorem Nw (l:List Test):D.R (l.map Test.c)=true:=dY _ Test.Q l
@[go_sem] theorem Stage.Q (x:Stage):D.J x.c=true:=by simp [Stage.c,D.J,qO]
@[go_sem] theorem YI (l:List Stage):D.R (l.map Stage.c)=true:=dY _ Stage.Q l
theorem xD (l:List Edge):D.R (l.map Edge.c)=true:=dY _ Edge.Q l
mutual
theorem Cond.Q:∀ x:Cond,D.J x.c=true
 | .mk k l m p=>by
  have:=Cond.dz l;simp [Cond.c,D.J,D.Q,dI,qO,this,xD,GT,Nw]
theorem Cond.dz:∀ l:List Cond,D.R (Cond.cs l)=true
 | []=>by simp [Cond.cs,D.R]
 | c :: l=>by simp [Cond.cs,D.R,Cond.Q c,Cond.dz l]
end
attribute [go_sem] Cond.Q
@[go_sem] theorem Vh (l:List Cond):D.R (l.map Cond.c)=true:=by rw [<- Cond.b6];exact Cond.dz l
@[go_sem] theorem Rule.Q (r:Rule):D.J r.c=true:=by
 simp [Rule.c,D.J,D.Q,dI,qO,xD,GT,Nw,Vh]
@[go_sem] theorem ZE (l:List Rule):D.R (l.map Rule.c)=true:=dY _ Rule.Q l
end Go.Abs
end
section
namespace Go.Abs
def FL (H:AHeap)(d:D):D :=
 match d with
 | .ptr id ver i off=>match gA H (.ptr id ver i off) with
  | some (c :: cs)=>.adr (c :: cs)
  | _=>.ptr id ver i off
 | d=>fW H d
def Ww:D->List Nat
 | .ptr id _ _ _=>[id]
 | d=>l9 d
def Jj (H:AHeap)(d:D):D :=
 match d with
 | .fn g caps=>.fn g (caps.map (FL H))
 | .ptr id ver i off=>FL H (.ptr id ver i off)
 | d=>jG H d
def U2:D->List Nat
 | .fn _ caps=>caps.flatMap Ww
 | .ptr id _ _ _=>[id]
 | d=>eG d
section
variable {P:Program} {M0:Nat→Prop} {H:AHeap} {σ:Nat→Option Ow} {w:World}
theorem Dx {H H':AHeap}(h:∀ i,(H'.get i).map (·.P)=(H.get i).map (·.P))(d:D):gA H' d=gA H d:=by
 cases d<;>try rfl
 rename_i c a i b;simp only [gA];grind
theorem zW {v:Value}{d:D}(s:Rel M0 H σ w)(m:RepV (dQ M0 H σ) σ H.D w v d)(G:∀ i∈Ww d,∀ k,H.get i=some k->k.fz=true) :
  RepV (dQ M0 H σ) σ H.D w v (FL H d):=by
 cases d<;>try exact nS s m G
 rename_i g ver i t;simp only [FL];cases B:gA H (.ptr g ver i t) with
 | none=>exact m
 | some I =>
  cases I with
  | nil=>exact m
  | cons c I =>
   obtain ⟨J,K,M,a,Q,e⟩:=rY s m B aE;subst M;have A:¬ dQ M0 H σ J.block:=by
    cases q:H.get g with
    | none=>simp [gA,q] at B
    | some k =>
     obtain ⟨o,z,l⟩:=s.aj g k q;have F:k.P.length=ver:=by
      simp only [gA,q] at B;grind
     cases m
     rename_i S P h;rcases h o z with T|⟨_,b,n,x⟩
     .have:=l.ah;omega
     .cases x
      rintro (N|⟨E,R,L,p,r,y,C⟩)
      .exact (s.lt g o b z n).2 N
      .have O:=s.inj E g L o b y z C n;subst O;rw [q] at p;cases p
       rw [G E (by simp [Ww]) k q] at r;cases r
   exact .adr J K _ a.len Q (λj u hu=>⟨A,e j u hu⟩) a.Z
theorem NK {v:Value}{d:D}(p:Rel M0 H σ w)(e:RepV (dQ M0 H σ) σ H.D w v d)(a:List Nat)(h:∀ i∈U2 d,i∈a) :
  RepV (dQ M0 (f5 a H) σ) σ (f5 a H).D w v (Jj H d):=by
 obtain ⟨q,B,C,n⟩:=gJ a p;have c:=e.q B;have f:∀ i∈a,∀ k,(f5 a H).get i=some k->k.fz=true:=λi h k hk=>by
  have m:=(n i).1;rw [hk] at m;cases l:H.get i with
  | none=>rw [l] at m;cases m
  | some k0 =>
   grind
 have b:∀ d,FL (f5 a H) d=FL H d:=λd=>by
  have z:=q8 (λi=>(n i).1) d;cases d with
  | ptr id ver i off=>simp only [FL,Dx (λi=>(n i).1)]
  | _=>exact z
 cases d with
 | fn g caps =>
  cases c
  rename_i r A t;refine .fn g r _ (bZ A) λj u x hu e=>?_;rw [aM,bU] at e;obtain ⟨y,s,rfl⟩:=e;rw [<- b y];refine zW q (t j u y hu s) λi hii k hk=>f i (h i ?_) k hk;simp only [U2,bT];grind
 | ptr id ver i off =>
  simp only [Jj];rw [<- b];exact zW q c λi hii k hk=>f i (h i hii) k hk
 | _=>exact nQ p e a h
theorem SS {vals:List Value}{args:UN}(hR:Rel M0 H σ w)(ha:RepL (dQ M0 H σ) σ H.D w vals args)(ids:List Nat)(hi:∀ i∈args.flatMap U2,i∈ids) :
  RepL (dQ M0 (f5 ids H) σ) σ (f5 ids H).D w vals (args.map (Jj H)) :=
 ⟨by simpa using ha.len,λj u d hu hd=>by
  rw [aM,bU] at hd;obtain ⟨y,hy,rfl⟩:=hd;exact NK hR (ha.Z j u y hu hy) ids λi hii=>hi i (bT.2 ⟨y,aK hy,hii⟩)⟩
theorem Nb {f:FuncId}{args:UN}{r:D}{Q:D->AHeap->Prop}(c:Pure P f (args.map (Jj H)) r)(b:D.J (args.map (Jj H))=true)(g:r.bd=true)(k:Q r H):ACalls P f args H Q:=by
 refine ⟨c.1,λM0 σ w vals hR ha=>?_⟩;obtain ⟨o,s,q,p⟩:=gJ (args.flatMap U2) hR;refine (c.2 (dQ M0 (f5 (args.flatMap U2) H) σ) w vals (v6 o) (iO (λ_ h=>h) (SS hR ha _ λi h=>h) b)).mono λe w' ⟨v,j,d,a⟩=>?_;obtain ⟨n,m,l⟩:=hR.grow a.os a.tape a.output a.size a.block;exact ⟨v,r,H,σ,j,n,Au d g,m,l,k⟩
theorem vQ {md:Nat->Bool}{ops:Array Oper}{a:List Oper}{e:eB}{b:Option Tmp}{K:eB->AHeap->Prop}{f:FuncId}{args args':UN}{r:D}(d:Pure P f args' r)(i:args.map (Jj H)=args')(c:D.J args'=true)(g:r.bd=true)
 (h:oI P md ops a (oO e b r) H K):f7 P md ops a e b K f args H:=by grind [f7, Nb]
end
theorem Own.pure {P:Program}{f:FuncId}{args:UN}{ty:TypeId}{sz:Nat}{es:UE}(h:Own P f args ty sz es):Pure P f args (.list es):=by
 refine ⟨h.1,λM w vals hM ha=>(h.2 M w vals hM ha).mono λe w' ⟨v,z,C,k,F,m,x,s,E⟩=>⟨v,C,?_,E⟩⟩;have o:D.J es.flatten=true:=DL λd hd=>by
  obtain ⟨c,l,q⟩:=jX.1 hd;exact kF (rS x c l) d q
 have a:RepL M jL t6 w' z es.flatten:=iO (λb h h'=>h (.inl h')) m o;rcases k.2 with ⟨n,G⟩|⟨g,y,H,i,I,p,t,l,B,r⟩
 .rw [n,bJ G];exact .listN
 .rw [i];refine .list ⟨g,0,none⟩ y sz z es t l s a.len F (λj u hu=>⟨λhm=>?_,k.cells (g:=g) (by simp [i,Value.ownBlock]) j u hu⟩) a.Z;grind
end Go.Abs
end
section
namespace Go.Abs
def Te:D->D
 | .nil=>.list []
 | d=>d
def TZ:D->D
 | .agg cs=>.agg (cs.map Te)
 | d=>Te d
def Nf:D->D
 | .tup vs=>.tup (vs.map TZ)
 | d=>TZ d
@[go_sem] theorem ac3 (k:IntKind)(n:Int):Te (.int k n)=.int k n:=rfl
@[go_sem] theorem aaM (b:Bool):Te (.bool b)=.bool b:=rfl
@[go_sem] theorem ac1 (b:ByteArray):Te (.str b)=.str b:=rfl
@[go_sem] theorem aaL (l:UE):Te (.list l)=.list l:=rfl
@[go_sem] theorem ac2:Te .nil=.list []:=rfl
@[go_sem] theorem acZ (k:IntKind)(n:Int):TZ (.int k n)=.int k n:=rfl
@[go_sem] theorem aaK (b:Bool):TZ (.bool b)=.bool b:=rfl
@[go_sem] theorem acX (b:ByteArray):TZ (.str b)=.str b:=rfl
@[go_sem] theorem aaJ (l:UE):TZ (.list l)=.list l:=rfl
@[go_sem] theorem acY:TZ .nil=.list []:=rfl
@[go_sem] theorem ac0 (l:UN):TZ (.agg l)=.agg (l.map Te):=rfl
@[go_sem] theorem acV (k:IntKind)(n:Int):Nf (.int k n)=.int k n:=rfl
@[go_sem] theorem aaI (b:Bool):Nf (.bool b)=.bool b:=rfl
@[go_sem] theorem acT (b:ByteArray):Nf (.str b)=.str b:=rfl
@[go_sem] theorem aaH (l:UE):Nf (.list l)=.list l:=rfl
@[go_sem] theorem acU:Nf .nil=.list []:=rfl
@[go_sem] theorem acW (l:UN):Nf (.agg l)=.agg (l.map Te):=rfl
@[go_sem] theorem acS (l:UN):Nf (.tup l)=.tup (l.map TZ):=rfl
theorem Me {M:Nat->Prop}{σ:Nat->Option Ow}{N:Nat->Prop}{w:World}{v:Value}{d:D}(h:RepV M σ N w v d):RepV M σ N w v (Te d):=by
 cases d<;>try exact h
 cases h
 exact .listN
theorem Md {M:Nat->Prop}{σ:Nat->Option Ow}{N:Nat->Prop}{w:World}{v:Value}{d:D}(h:RepV M σ N w v d):RepV M σ N w v (TZ d):=by
 cases d<;>try exact Me h
 cases h
 rename_i a f e c;refine .agg a _ (bZ e) f λj u d hu hd=>?_;rw [aM,bU] at hd;obtain ⟨y,b,rfl⟩:=hd;exact Me (c j u y hu b)
theorem Wg {M:Nat->Prop}{σ:Nat->Option Ow}{N:Nat->Prop}{w:World}{v:Value}{d:D}(h:RepV M σ N w v d):RepV M σ N w v (Nf d):=by
 cases d<;>try exact Md h
 cases h
 rename_i a e c;refine .tup a _ (bZ e) λj u d hu hd=>?_;rw [aM,bU] at hd;obtain ⟨y,b,rfl⟩:=hd;exact Md (c j u y hu b)
section
variable {P:Program} {c:Cfg}
theorem Kp {f:FuncId}{args:UN}{r:D}(g:r.Q=true)(h:∀ Q:D->AHeap->Prop,(∀ d H',(oX H' d=r\/Nf (oX H' d)=r)->Q d H')->ACalls P f args .as Q):Pure P f args r:=by
 have h:=h (λd H'=>oX H' d=r\/Nf (oX H' d)=r) λ_ _ h=>h;refine ⟨h.1,λM w vals hM ha=>(h.2 M jL w vals (Gj M w hM) (by rw [Gn];exact ha)).mono λe w' ⟨v,d,H',σ',k,m,j,c,o,b⟩=>⟨v,k,?_,AG c⟩⟩;have n:RepV (dQ M (f5 (D9 d) H') σ') σ' (f5 (D9 d) H').D w' v r:=by
  have a:=u3 m j (D9 d) λi hi=>hi;rcases b with b|b
  .rw [b] at a;exact a
  .have a:=Wg a;rw [b] at a;exact a
 exact n.br (λad u hm l=>⟨λh=>hm (.inl h),l⟩) g
theorem aeC {f:FuncId}{args:UN}{ty:TypeId}{sz:Nat}{es:UE}(hcl:D.R es=true)
  (h:∀ Q:D->AHeap->Prop,(∀ id n H',n=es.length->H'.get id=some ⟨ty,sz,es,false⟩->Q (.own id n) H')->ACalls P f args .as Q):Own P f args ty sz es :=
 CT (h _ λid n H' hn hg=>⟨id,_,by rw [hn],hg,rfl,rfl,rfl,rfl,hcl⟩)
def Bw (I:Nat->eB->AHeap->Prop)(m:Nat->Nat)(x:Nat)(e:eB)(H:AHeap):Prop:=∃ e' H',GhE e H e' H'/\∃ x',m x'<m x/\I x' e' H'
theorem iW {I:Nat->eB->AHeap->Prop}{m:Nat->Nat}{x:Nat}{e:eB}{H:AHeap}(x':Nat)(hm:m x'<m x)(hI:I x' e H):Bw I m x e H:=⟨e,H,.gh (.refl H),x',hm,hI⟩
theorem HF {I:Nat->eB->AHeap->Prop}{m:Nat->Nat}{x:Nat}{e:eB}{H H':AHeap}(hg:Ghosts H H')(x':Nat)(hm:m x'<m x)(hI:I x' e H'):Bw I m x e H:=⟨e,H',.gh hg,x',hm,hI⟩
theorem HG {I:Nat->eB->AHeap->Prop}{m:Nat->Nat}{x:Nat}{e:eB}{H:AHeap}(t id n:Nat)(k:Blk)(he:e t=.own id n)(hk:H.get id=some k)(hn:k.P.length=n)(x':Nat)(hm:m x'<m x)(hI:I x' (oO e (some t) (.list k.P)) (H.frz id)):Bw I m x e H:=⟨_,_,.frz (.gh (.refl H)) t id n k he hk hn,x',hm,hI⟩
theorem yY {b:Code}{Q:Exit->eB->AHeap->Prop}{e:eB}{H:AHeap}(I:Nat->eB->AHeap->Prop)(μ:Nat->Nat)(x0:Nat)(h0:I x0 e H)
 (hs:∀ x e H,I x e H->pI P c b (tS (Bw I μ x) Q) e H):Al P c b Q e H:=yF (.gh (.refl H)) I μ x0 h0 hs
theorem XR {b:Code}{Q:Exit->eB->AHeap->Prop}{e:eB}{H H':AHeap}(hg:Ghosts H H')(I:Nat->eB->AHeap->Prop)(μ:Nat->Nat)(x0:Nat)(h0:I x0 e H')
 (hs:∀ x e H,I x e H->pI P c b (tS (Bw I μ x) Q) e H):Al P c b Q e H:=yF (.gh hg) I μ x0 h0 hs
theorem UO {b:Code}{Q:Exit->eB->AHeap->Prop}{e:eB}{H:AHeap}(t id n:Nat)(k:Blk)(he:e t=.own id n)(hk:H.get id=some k)(hn:k.P.length=n)(I:Nat->eB->AHeap->Prop)(μ:Nat->Nat)(x0:Nat)(h0:I x0 (oO e (some t) (.list k.P)) (H.frz id))
 (hs:∀ x e H,I x e H->pI P c b (tS (Bw I μ x) Q) e H):Al P c b Q e H:=yF (.frz (.gh (.refl H)) t id n k he hk hn) I μ x0 h0 hs
end
@[go_sem] theorem Ze (H:AHeap)(id i off:Nat)(ty sz:Nat):H9 H id i off ty sz=match H.get id with
 | some k=>(H.put id { k with P:=k.P.set i ((k.P[i]?.getD []).set off (.own H.next 0)) }).push H.next ⟨ty,sz,[],false⟩
 | none=>H:=rfl
@[go_sem] theorem Yd (H:AHeap)(id i off q hi:Nat):BX H id i off q hi=match H.get id,H.get q with
 | some k,some kq=>(((H.drop q).push H.next ⟨kq.ty,kq.Y,kq.P.take hi,false⟩).put id { k with P:=k.P.set i ((k.P[i]?.getD []).set off (.own H.next hi)) })
 | _,_=>H:=rfl
attribute [go_sem] wH EE
attribute [irreducible] Bw
theorem iI {p:Prop}(h:p:=by (first|assumption|(intros;first|assumption|omega|exact dU aD aD|(and_intros<;>first|assumption|omega|exact dU aD aD))|(simp_all<;>omega))):p:=h
theorem fS {p:Prop}(h:p:=by (first|assumption|(intros;first|assumption|omega|exact dU aD aD|(and_intros<;>first|assumption|omega|exact dU aD aD))|(simp;done)|(simp;omega))):p:=h
end Go.Abs
end
section
namespace Go.Abs
section
variable {P:Program} {M0:Nat→Prop} {H:AHeap} {σ:Nat→Option Ow} {w:World}
theorem AU (zs:V2):(zs.map cI).flatten=zs.map (D.int .i64):=by
 induction zs with
 | nil=>rfl
 | cons a l b=>simp only [iX,fH,b,cI];rfl
theorem AK {M:Nat->Prop}{N:Nat->Prop}(zs:V2):RepL M σ N w (zs.map (Value.int .i64)) (zs.map cI).flatten:=by
 rw [AU];refine ⟨by simp,λj u d hu hd=>?_⟩;rw [aM,bU] at hu hd;obtain ⟨x,b,rfl⟩:=hu;obtain ⟨y,a,rfl⟩:=hd;rw [b] at a;cases a
 exact .int _ _
def Gf (w:World)(ty:TypeId)(v:Value)(xs:V2):Prop:=w.ownsRow 0 ty 1 v xs.length (xs.map (Value.int .i64))
theorem RD (x:Rel M0 H σ w){d:Nat}{ty:TypeId}{xs:V2}(t:H.get d=some ⟨ty,1,xs.map cI,false⟩){v:Value}(m:RepV (dQ M0 H σ) σ H.D w v (.own d xs.length)) :
  ∃ o,σ d=some o/\v=o.val/\o.ah=xs.length/\o.ty=ty/\o.F=1/\Gf w ty v xs:=by
 obtain ⟨o,i,l⟩:=x.aj d _ t;have c:o.ah=xs.length:=by have:=l.ah;simpa using this
 cases m
 rename_i A B h;rcases h o i with C|⟨_,rfl⟩
 .omega
 .obtain ⟨b,g,p,a⟩:=l.row;have n:b=xs.map (Value.int .i64):=by
   simp only [AU] at a;apply iF;intro j;have s:=a.len;simp only [aR] at s;by_cases e:j<xs.length
   .have y:=a.Z j b[j] (D.int .i64 xs[j]) (aA aD) (by simp [e]);generalize b[j]=u at y;have f:b[j]?=some b[j]:=aA aD;have k:=a.Z j b[j] (D.int .i64 xs[j]) f (by simp [e]);generalize z:b[j]=q at f k;rw [f];cases k
    simp [e]
   grind
  refine ⟨o,i,rfl,c,l.ty,l.Y,?_⟩;unfold Gf;have r:o.F=1:=l.Y;grind
theorem NQ {w':World}(n:Rel M0 H σ w){a:Nat}{ty:TypeId}{xs zs:V2}(g:Bool)(m:H.get a=some ⟨ty,1,xs.map cI,false⟩){o:Ow}(k:σ a=some o)(e:o.ah=xs.length)(h:o.ty=ty)(d:o.F=1)
  (l:zs.length=xs.length) (j:w.grownBy w' o.block) (f:Gf w' ty o.val zs) :
  Rel M0 (H.put a ⟨ty,1,zs.map cI,g⟩) (λi=>if i=a then some o else σ i) w'/\Stp σ w (λi=>if i=a then some o else σ i) w' /\
   Keeps (dQ M0 H σ) σ H.D w (dQ M0 (H.put a ⟨ty,1,zs.map cI,g⟩) (λi=>if i=a then some o else σ i)) (λi=>if i=a then some o else σ i) (H.put a ⟨ty,1,zs.map cI,g⟩).D w':=by
 refine Rel.put n m rfl k ⟨ty,1,zs.map cI,g⟩ o j (λb hb=>.inl hb) (.inl rfl) (by simp [e,l]) h d (λc hc=>?_) (zs.map (Value.int .i64)) ?_ (λu hu=>?_) (AK zs)
 .obtain ⟨x,_,rfl⟩:=aX.1 hc;rw [d];rfl
 .rw [d];simpa [Gf] using f
 .obtain ⟨x,_,rfl⟩:=aX.1 hu;rfl
theorem PM {f:FuncId}{i:Nat}{ty:TypeId}{xs zs:V2}{Q:D->AHeap->Prop}(h:Xj P f)(n:H.get i=some ⟨ty,1,xs.map cI,false⟩)(r:zs.length=xs.length)
  (t:∀ (w:World) (v:Value),Gf w ty v xs->Calls P f #[v] w λe w'=>e=.returned (.tuple #[])/\w.grownBy w' v.ownBlock/\Gf w' ty v zs)
  (x:Q (.tup []) (H.put i ⟨ty,1,zs.map cI,false⟩)):ACalls P f [.own i xs.length] H Q:=by
 refine ⟨h,λM0 σ w vals hR ha=>?_⟩;obtain ⟨g,p⟩:=ha;match vals,g with
 | [v],_ =>
  obtain ⟨o,q,rfl,b,k,l,c⟩:=RD hR n (p 0 v _ rfl rfl);refine (t w _ c).mono λe w' ⟨s,m,a⟩=>?_;obtain ⟨A,z,y⟩:=NQ hR false n q b k l r m a;exact ⟨_,.tup [],_,_,s,A,.tup [] [] rfl (λj u d hu=>by simp at hu),z,y,x⟩
theorem MX {f:FuncId}{b:Nat}{ty:TypeId}{xs zs:V2}{m:Nat}{Q:D->AHeap->Prop}(A:Xj P f)(X:H.get b=some ⟨ty,1,xs.map cI,false⟩)(hl:zs.length=xs.length)(hm:m<=xs.length)
  (T:∀ (w:World) (v:Value),Gf w ty v xs->Calls P f #[v] w λe w'=>(∃ r,e=.returned r/\((v=.slice none 0 0/\r=v)\/∃ g n cap,v=.slice (some g) n cap/\r=.slice (some g) m cap))/\w.grownBy w' v.ownBlock/\Gf w' ty v zs)
  (hQ:Q (.list ((zs.take m).map cI)) (H.put b ⟨ty,1,zs.map cI,true⟩)):ACalls P f [.own b xs.length] H Q:=by
 refine ⟨A,λM0 σ w vals hR ha=>?_⟩;obtain ⟨y,hr⟩:=ha;match vals,y with
 | [v],_ =>
  obtain ⟨o,I,rfl,q,E,F,d⟩:=RD hR X (hr 0 v _ rfl rfl);refine (T w _ d).mono λe w' ⟨⟨r,he,G⟩,O,a⟩=>?_;obtain ⟨h1,h2,h3⟩:=NQ hR true X I q E F hl O a;refine ⟨r,.list ((zs.take m).map cI),_,_,he,h1,?_,h2,h3,hQ⟩;rcases G with ⟨h,rfl⟩|⟨g,n,cap,h,rfl⟩
  .have hz:zs=[]:=by
    rcases d.2 with ⟨_,h0⟩|⟨B,C,V,s,_⟩
    .exact bJ aD
    grind
   subst hz;rw [h];simpa using RepV.listN
  .rcases a.2 with ⟨W,_⟩|⟨B,C,V,s,a3,Y,a1,S,a2,a0⟩
   .rw [h] at W;cases W
   .have p:=s;rw [h] at p;cases p
    have K:(zs.take m).length=m:=by simp;omega
    have R:=AU (zs.take m);have k:=RepV.list (M:=dQ M0 (H.put b ⟨ty,1,zs.map cI,true⟩) (λi=>if i=b then some o else σ i)) (σ:=λi=>if i=b then some o else σ i) (N:=(H.put b ⟨ty,1,zs.map cI,true⟩).D) (w:=w')
     ⟨B,0,none⟩ cap 1 ((zs.take m).map (Value.int .i64)) ((zs.take m).map cI) (by simp;omega) S (λc T=>(by obtain ⟨x,_,rfl⟩:=aX.1 T;rfl)) (by rw [R];simp)
     (λu hu=>(by obtain ⟨x,_,rfl⟩:=aX.1 hu;rfl))
     (λj u hu=>by
      refine ⟨?_,?_⟩
      .rintro (J|⟨i,k',Z,z,hf,t,U⟩)
       .exact (hR.lt b o B I (by simp [Ow.block,h,Value.ownBlock])).2 J
       .by_cases L:i=b
        .simp only [AHeap.put,L,if_true,bH] at z;subst z;cases hf
        .simp only [L,if_false] at t;exact L (hR.inj i b Z o B t I U (by simp [Ow.block,h,Value.ownBlock]))
      .have:=a.cells (g:=B) (by simp [h,Value.ownBlock]) j u (by
        rw [aM] at hu ⊢;rw [b8] at hu;split at hu
        .exact hu
        .simp at hu)
       exact this)
     (AK (zs.take m)).Z
    simp only [aR,K] at k;exact k
end
end Go.Abs
end
section
namespace Go.Abs
section
variable {P:Program} {M0:Nat→Prop} {H:AHeap} {σ:Nat→Option Ow} {w:World}
structure Made (M:Nat->Prop) (w w':World) (v:Value) (b:Blk) (xs:List Value):Prop where
 row:w'.ownsRow w.heap.size b.ty b.Y v b.P.length xs
 one:∀ u∈xs,u.oneCell'=true
 Z:RepL M jL t6 w' xs b.P.flatten
 Q:D.R b.P=true
 Y:∀ c∈b.P,c.length=b.Y
theorem PR {f:FuncId}{args:UN}{ty:TypeId}{sz:Nat}{es:UE}{Q:D->AHeap->Prop}(N:Own P f args ty sz es)(J:D.J args=true)(q:Nat)(V:¬ H.D q)
  (Y:Q (.own q es.length) (H.push q ⟨ty,sz,es,false⟩)):ACalls P f args H Q:=by
 refine ⟨N.1,λM0 σ w vals hR ha=>(N.2 (dQ M0 H σ) w vals (v6 hR) (iO (λ_ h=>h) ha J)).mono λe w' ⟨v,M,X,k,L,t,y,F,A⟩=>?_⟩;have m:w'.ownsRow 0 ty sz v es.length M:=⟨k.1,k.2.imp (λx=>x) λ⟨g,r,p,a,b,c⟩=>⟨g,r,p,a,eP _,c⟩⟩;have K:∀ b,v.ownBlock=some b->w.heap.size<=b:=λb j=>by
  rcases k.2 with B|⟨g,r,p,L,h2,h3⟩
  .rw [B.1] at j;simp [Value.ownBlock] at j
  .rw [L] at j;simp only [Value.ownBlock,bH] at j;omega
 have Z:∀ C,¬ (dQ M0 H σ C\/v.ownBlock=some C)->¬ dQ M0 (H.push q ⟨ty,sz,es,false⟩) (λi=>if i=q then some ⟨es.length,v,sz,ty⟩ else σ i) C:=by
  intro C G h;rcases h with h|⟨i,U,T,u,W,l,j⟩
  .exact G (.inl (.inl h))
  .by_cases n:i=q
   .simp only [n,if_true,bH] at l;subst l;exact G (.inr j)
   .simp only [n,if_false] at l;simp only [AHeap.push,n,if_false] at u;exact G (.inl (.inr ⟨i,U,T,u,W,l,j⟩))
 have z:D.J es.flatten=true:=DL λd hd=>by
  obtain ⟨c,I,E⟩:=jX.1 hd;exact kF (rS y c I) d E
 obtain ⟨S,R,O⟩:=Rel.dt hR q V (w':=w') A.os A.tape A.output A.size A.block ⟨ty,sz,es,false⟩ ⟨es.length,v,sz,ty⟩
  K rfl rfl rfl F M m L (λhk=>iO Z t z)
 exact ⟨v,_,_,_,X,S,.own v _ _ (.inl rfl) (by rcases k.2 with ⟨B,_⟩|⟨g,r,p,B,_⟩<;>simp [B,Value.oneCell']) (λo ho=>by simp at ho;subst ho;exact .inr ⟨rfl,rfl⟩),R,O,Y⟩
theorem ACalls.cE {f:FuncId}{args:UN}{Q:D->AHeap->Prop}(k:Nat)(h:ACalls P f args ⟨H.next+k,H.D,H.get⟩ Q):ACalls P f args H Q :=
 ⟨h.1,λM0 σ w vals hR ha=>h.2 M0 σ w vals (hR.cE (m:=H.next+k) aD) ha⟩
theorem ACalls.frz {f:FuncId}{args:UN}{Q:D->AHeap->Prop}(h:ACalls P f (args.map (jG H)) (f5 (args.flatMap eG) H) Q):ACalls P f args H Q:=by
 refine ⟨h.1,λM0 σ w vals hR ha=>?_⟩;obtain ⟨m,l,p,o⟩:=gJ (args.flatMap eG) hR;refine (h.2 M0 σ w vals m (CG hR ha _ λi h=>h)).mono λe w' ⟨v,d,n,σ',j,k,a,b,g,c⟩=>?_;exact ⟨v,d,n,σ',j,k,a,b,l.trans g,c⟩
end
section
variable {P:Program} {md:Nat→Bool} {ops:Array Oper} {sp:List (Nat × Nat)} {n0 i:Nat} {rest:List Oper} {acc:List (Nat × List Nat)} {e:eB} {dst:Option Tmp} {K:eB→AHeap→Prop} {f:FuncId} {args args':UN} {H H':AHeap}
theorem Lf (b:args.map (jG H)=args')(a:f5 (args.flatMap eG) H=H')(h:f7 P md ops rest e dst K f args' H'):f7 P md ops rest e dst K f args H:=by grind [f7, ACalls.frz]
theorem mQ {ty:TypeId}{sz:Nat}{es:UE}(q:Nat)(a:Own P f args ty sz es)(c:D.J args=true)(b:Ec md dst=true)(g:q<n0)(d:¬ H.D q)(j:o6 sp i [q] acc)
  (h:kW P md ops sp n0 (i+1) rest ((i,[q]) :: acc) (oO e dst (.own q es.length)) (H.push q ⟨ty,sz,es,false⟩) K):rL P md ops sp n0 i rest acc e dst K f args H:=by
 unfold rL;exact Or.inr ⟨b,.own q es.length,[],[],[(q,⟨ty,sz,es,false⟩)],(λ_ h=>by cases h),λp a=>(by
   have:p=(q,⟨ty,sz,es,false⟩):=by simpa using a
   subst this;exact ⟨g,d⟩),
  λH' _ hn=>PR a c q (hn (q,⟨ty,sz,es,false⟩) aE).2 ⟨rfl,rfl⟩,j,h⟩
end
theorem uK (i:Nat):AHeap.as.D i↔False:=Iff.rfl
theorem lO (H:AHeap)(i j:Nat)(k:Blk):(H.push i k).D j↔j=i\/H.D j:=Iff.rfl
theorem n8 (H:AHeap)(i j:Nat)(k:Blk):(H.put i k).D j↔H.D j:=Iff.rfl
theorem y9 (n:Nat)(al:Nat->Prop)(g:Nat->Option Blk)(j:Nat):(AHeap.mk n al g).D j↔al j:=Iff.rfl
end Go.Abs
end
