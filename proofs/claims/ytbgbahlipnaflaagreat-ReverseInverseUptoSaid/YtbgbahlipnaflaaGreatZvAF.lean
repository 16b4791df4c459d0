/- The abstraction layer, part U: the rows that walk a body. ·  -/
import Derived.Test.YtbgbahlipnaflaaGreatZvAE
import Derived.Sort.OwnSortedInts
set_option linter.unusedVariables false
set_option linter.unusedSimpArgs false
section
namespace Go.Abs
inductive SOut where
 | op (o:AOut)
 | call (f:FuncId) (args:UN)
 | gop (t:Bool) (g:Bool) (o:AOut)
 | gcall (t:Bool) (g:Bool) (f:FuncId) (args:UN)
 | bad
def NP (c:Option (FuncId × UN))(o:AOut):SOut :=
 match c with
 | some (f,args)=>.call f args
 | none=>.op o
def K9 (gc:Option (Bool × Bool))(b:Bool)(g:Bool)(c:Option (FuncId × UN))(o:AOut):SOut :=
 match gc with
 | some (t,c')=>match c with
  | some (f,args)=>.gcall (t&&(c'==b)) g f args
  | none=>.gop (t&&(c'==b)) g o
 | none=>.bad
def oN (P:Program)(md:Nat->Bool)(nid:Nat)(ops:Array Oper)(e:eF)(o:Oper)(H:AHeap):SOut :=
 match o.guard with
 | none=>NP (iR e o) (Hr P nid md e o H)
 | some (j,b)=>K9 (gD ops e j) b (WX e (gO o.op)) (iR (gE e o.op) o) (Hr P nid md (gE e o.op) o H)
def fT (P:Program)(md:Nat->Bool)(ops:Array Oper)(rest:List Oper)(e:eF)(dst:Option Tmp)(K:eF->AHeap->Prop)(f:FuncId)(args:UN)(H:AHeap):Prop :=
 ACalls P f args H λv H1=>oU P md ops rest (oV e dst v) H1 K
def Bb (P:Program)(md:Nat->Bool)(ops:Array Oper)(rest:List Oper)(e:eF)(dst:Option Tmp)(K:eF->AHeap->Prop)(t:Bool)(f:FuncId)(args:UN)(H:AHeap):Prop :=
 (∃ r S,(t=true->∀ H',gU S H' H->ACalls P f args H' λv H1=>v=r/\H1=H')/\oU P md ops rest (oV e dst (.opt t r)) H K) \/
  ((t=true->ACalls P f args H λv H1=>oU P md ops rest (oV e dst (.opt true v)) H1 K)/\(t=false->∃ r,oU P md ops rest (oV e dst (.opt false r)) H K))
def Bg (P:Program)(md:Nat->Bool)(ops:Array Oper)(rest:List Oper)(e:eF)(dst:Option Tmp)(H:AHeap)(K:eF->AHeap->Prop):SOut->Prop
 | .op o=>o.cond/\(o.X->oU P md ops rest (oV e dst o.val) o.heap K)
 | .call f args=>fT P md ops rest e dst K f args H
 | .gop t g o=>(t=true->g=true)/\(t=true->o.cond/\o.heap=H)/\((t=true->o.X)->oU P md ops rest (oV e dst (.opt t o.val)) H K)
 | .gcall t g f args=>(t=true->g=true)/\Bb P md ops rest e dst K t f args H
 | .bad=>False
theorem WU (P:Program)(md:Nat->Bool)(ops:Array Oper)(o:Oper)(i:List Oper)(e:eF)(H:AHeap)(K:eF->AHeap->Prop) :
  oU P md ops (o :: i) e H K=Bg P md ops i e o.dst H K (oN P md H.next ops e o H):=by
 obtain ⟨dst,op,type,pos,after,guard⟩:=o;cases guard with
 | none =>
  simp only [oU,rF,oN];cases m:iR e { dst:=dst,op:=op,type:=type,pos:=pos,after:=after,guard:=none } with
  | none=>simp [NP,Bg]
  | some p=>simp [NP,Bg,fT]
 | some p =>
  obtain ⟨j,b⟩:=p;simp only [oU,rF,oN];cases n:gD ops e j with
  | none=>simp [K9,Bg]
  | some gc =>
   obtain ⟨t,q⟩:=gc;cases m:iR (gE e op) { dst:=dst,op:=op,type:=type,pos:=pos,after:=after,guard:=some (j,b) } with
   | none=>simp [K9,Bg]
   | some p=>simp [K9,Bg,Bb]
@[go_sem] theorem aeK (P:Program)(md:Nat->Bool)(ops:Array Oper)(e:eF)(H:AHeap)(K:eF->AHeap->Prop):oU P md ops [] e H K=K e H:=rfl
@[go_sem] theorem agR (P:Program)(md:Nat->Bool)(ops:Array Oper)(rest:List Oper)(e:eF)(dst:Option Tmp)(H H':AHeap)(K:eF->AHeap->Prop)(c f:Prop)(v:D) :
 Bg P md ops rest e dst H K (.op ⟨c,f,v,H'⟩)=(c/\(f->oU P md ops rest (oV e dst v) H' K)):=rfl
@[go_sem] theorem acT (P:Program)(md:Nat->Bool)(ops:Array Oper)(rest:List Oper)(e:eF)(dst:Option Tmp)(H:AHeap)(K:eF->AHeap->Prop)(f:FuncId)(args:UN) :
 Bg P md ops rest e dst H K (.call f args)=fT P md ops rest e dst K f args H:=rfl
@[go_sem] theorem aeF (P:Program)(md:Nat->Bool)(ops:Array Oper)(rest:List Oper)(e:eF)(dst:Option Tmp)(H H':AHeap)(K:eF->AHeap->Prop)(c f:Prop)(v:D)(t g:Bool) :
 Bg P md ops rest e dst H K (.gop t g ⟨c,f,v,H'⟩)=((t=true->g=true)/\(t=true->c/\H'=H)/\((t=true->f)->oU P md ops rest (oV e dst (.opt t v)) H K)):=rfl
@[go_sem] theorem aaU (P:Program)(md:Nat->Bool)(ops:Array Oper)(rest:List Oper)(e:eF)(dst:Option Tmp)(H:AHeap)(K:eF->AHeap->Prop)(f:FuncId)(args:UN)(t g:Bool) :
 Bg P md ops rest e dst H K (.gcall t g f args)=((t=true->g=true)/\Bb P md ops rest e dst K t f args H):=rfl
@[go_sem] theorem adG (f:FuncId)(args:UN)(o:AOut):NP (some (f,args)) o=.call f args:=rfl
@[go_sem] theorem adH (o:AOut):NP none o=.op o:=rfl
@[go_sem] theorem aeO (e:eF)(d t:Nat)(v:D):oV e (some d) v t=if t=d then v else e t:=rfl
@[go_sem] theorem aeP (e:eF)(v:D):oV e none v=e:=rfl
def ZN:List (Nat × D)->eF
 | []=>λ_=>.junk
 | (t,d) :: l=>λt'=>if t'=t then d else ZN l t'
@[go_sem] theorem agO (t:Nat):ZN [] t=.junk:=rfl
@[go_sem] theorem aeC (t:Nat)(d:D)(l:List (Nat × D))(t':Nat):ZN ((t,d) :: l) t'=if t'=t then d else ZN l t':=rfl
@[go_sem] theorem agN (t:Nat):El [] t=.junk:=by simp [El]
@[go_sem] theorem aeA (d:D)(l:UN):El (d :: l) 0=d:=rfl
@[go_sem] theorem aeB (d:D)(l:UN)(t:Nat):El (d :: l) (t+1)=El l t:=by simp [El]
@[go_sem] theorem aiO (e:eF)(t:Nat):fS e (.tmp t)=e t:=rfl
@[go_sem] theorem agL (e:eF)(f:FuncId):fS e (.func f)=.fn f []:=rfl
@[go_sem] theorem aiR (e:eF)(k:IntKind)(n:Int):fS e (.const (.int k n))=.int k n:=rfl
@[go_sem] theorem agM (e:eF)(b:Bool):fS e (.const (.bool b))=.bool b:=rfl
@[go_sem] theorem aiP (e:eF)(b:ByteArray):fS e (.const (.string b))=.str b:=rfl
@[go_sem] theorem aiQ (e:eF):fS e (.const (.slice none 0 0))=.nil:=rfl
@[go_sem] theorem agJ (e:eF):fS e (.const (.pointer none))=.nilp:=rfl
@[go_sem] theorem agK (e:eF):fS e (.const .nilFunc)=.nilf:=rfl
@[go_sem] theorem ab3:j5 (.const (.slice none 0 0))=true:=rfl
@[go_sem] theorem ab1 (t:Nat):j5 (.tmp t)=false:=rfl
@[go_sem] theorem ab4 (k:IntKind)(n:Int):j5 (.const (.int k n))=false:=rfl
@[go_sem] theorem aaK (b:Bool):j5 (.const (.bool b))=false:=rfl
@[go_sem] theorem ab2 (b:ByteArray):j5 (.const (.string b))=false:=rfl
@[go_sem] theorem aaH:j5 (.const (.pointer none))=false:=rfl
@[go_sem] theorem aaI:j5 (.const .nilFunc)=false:=rfl
@[go_sem] theorem aaJ (f:FuncId):j5 (.func f)=false:=rfl
@[go_sem] theorem af2 (md:Nat->Bool)(t:Nat):Fk md (some t)=md t:=rfl
@[go_sem] theorem af3 (md:Nat->Bool):Fk md none=false:=rfl
section
variable (P:Program) (md:Nat→Bool) (nid:Nat) (ops:Array Oper) (e:eF) (d:Option Tmp) (ty:TypeId) (p:String) (af:Array Edge) (H:AHeap)
@[go_sem] theorem ai4 (x:Operand):oN P md nid ops e ⟨d,.move x,ty,p,af,none⟩ H=.op (if j5 x then FU P nid (Fk md d) ty H else ⟨True,True,fS e x,H⟩):=rfl
@[go_sem] theorem aeU (x:Operand):oN P md nid ops e ⟨d,.assign x,ty,p,af,none⟩ H=.op (if j5 x then FU P nid (Fk md d) ty H else ⟨True,True,fS e x,H⟩):=rfl
@[go_sem] theorem ai3 (c a b:Operand):oN P md nid ops e ⟨d,.pick c a b,ty,p,af,none⟩ H=.op (Bp (fS e c) (fS e a) (fS e b) H):=rfl
@[go_sem] theorem ahO (t:TypeId):oN P md nid ops e ⟨d,.alloc t,ty,p,af,none⟩ H=.op (zU P nid (Fk md d) t H):=rfl
@[go_sem] theorem ajX (t:TypeId)(x:Operand):oN P md nid ops e ⟨d,.box t x,ty,p,af,none⟩ H=.op (O9 P nid (Fk md d) t (fS e x) H):=rfl
@[go_sem] theorem ahM (t:TypeId)(ps:Array (Nat × Operand)):oN P md nid ops e ⟨d,.build t ps,ty,p,af,none⟩ H=.op (vI P t (ps.toList.map λp=>(p.1,fS e p.2)) H):=rfl
@[go_sem] theorem aiU (md:Nat->Bool)(H:AHeap)(d:D):U6 md H d=if md 1000001 then d else jN H d:=rfl
@[go_sem] theorem aiT (md:Nat->Bool)(d:D):OW md d=if md 1000001 then [] else eJ d:=rfl
@[go_sem] theorem Ze (t:TypeId)(n:Nat)(b:Array (Nat × Operand)):oN P md nid ops e ⟨d,.buildSlice t n b,ty,p,af,none⟩ H =
  .op (if md 1000001 then jP P nid (Fk md d) t n (b.toList.map λp=>(p.1,fS e p.2)) H else jP P nid (Fk md d) t n (b.toList.map λp=>(p.1,jN H (fS e p.2))) (gC (b.toList.flatMap λp=>eJ (fS e p.2)) H)):=by
 show SOut.op (jP P nid (Fk md d) t n (b.toList.map λp=>(p.1,U6 md H (fS e p.2))) (gC (b.toList.flatMap λp=>OW md (fS e p.2)) H))=_;cases h:md 1000001
 .simp [U6,OW,h]
 .simp only [U6,OW,h,if_true];rw [show (b.toList.flatMap λ_=>([]:List Nat))=[] by induction b.toList with|nil=>rfl|cons a l ih=>simp];rfl
@[go_sem] theorem ai5 (t:TypeId)(x:Operand):oN P md nid ops e ⟨d,.load t x,ty,p,af,none⟩ H=.op (pL P t (fS e x) H):=rfl
@[go_sem] theorem ahI (t:TypeId)(x y:Operand):oN P md nid ops e ⟨d,.store t x y,ty,p,af,none⟩ H =
 .op (if md 1000000 then nO P t (fS e x) (jN H (fS e y)) (gC (eJ (fS e y)) H) else nO P t (fS e x) (fS e y) H):=rfl
@[go_sem] theorem abG (x:Operand):oN P md nid ops e ⟨d,.nilCheck x,ty,p,af,none⟩ H=.op (kJ (fS e x) H):=rfl
@[go_sem] theorem ahN (b:BinOp)(t t':TypeId)(x y:Operand):oN P md nid ops e ⟨d,.binOp b t x y t',ty,p,af,none⟩ H=.op (t6 (md 2000000) P t b (fS e x) (fS e y) H):=rfl
@[go_sem] theorem ahD (w:Bool)(P:Program)(t:TypeId)(x y:D)(H:AHeap):t6 w P t .add x y H=KJ P t .add x y H:=by cases w<;>rfl
@[go_sem] theorem ag6 (w:Bool)(P:Program)(t:TypeId)(x y:D)(H:AHeap):t6 w P t .mul x y H=KJ P t .mul x y H:=by cases w<;>rfl
@[go_sem] theorem ag3 (w:Bool)(P:Program)(t:TypeId)(x y:D)(H:AHeap):t6 w P t .quo x y H=KJ P t .quo x y H:=by cases w<;>rfl
@[go_sem] theorem ag2 (w:Bool)(P:Program)(t:TypeId)(x y:D)(H:AHeap):t6 w P t .rem x y H=KJ P t .rem x y H:=by cases w<;>rfl
@[go_sem] theorem ahB (w:Bool)(P:Program)(t:TypeId)(x y:D)(H:AHeap):t6 w P t .eql x y H=KJ P t .eql x y H:=by cases w<;>rfl
@[go_sem] theorem ag5 (w:Bool)(P:Program)(t:TypeId)(x y:D)(H:AHeap):t6 w P t .neq x y H=KJ P t .neq x y H:=by cases w<;>rfl
@[go_sem] theorem ag7 (w:Bool)(P:Program)(t:TypeId)(x y:D)(H:AHeap):t6 w P t .lss x y H=KJ P t .lss x y H:=by cases w<;>rfl
@[go_sem] theorem ag8 (w:Bool)(P:Program)(t:TypeId)(x y:D)(H:AHeap):t6 w P t .leq x y H=KJ P t .leq x y H:=by cases w<;>rfl
@[go_sem] theorem ag9 (w:Bool)(P:Program)(t:TypeId)(x y:D)(H:AHeap):t6 w P t .gtr x y H=KJ P t .gtr x y H:=by cases w<;>rfl
@[go_sem] theorem ahA (w:Bool)(P:Program)(t:TypeId)(x y:D)(H:AHeap):t6 w P t .geq x y H=KJ P t .geq x y H:=by cases w<;>rfl
@[go_sem] theorem ahC (w:Bool)(P:Program)(t:TypeId)(x y:D)(H:AHeap):t6 w P t .and x y H=KJ P t .and x y H:=by cases w<;>rfl
@[go_sem] theorem ag1 (w:Bool)(P:Program)(t:TypeId)(x y:D)(H:AHeap):t6 w P t .shr x y H=KJ P t .shr x y H:=by cases w<;>rfl
@[go_sem] theorem ag4 (P:Program)(t:TypeId)(a:BinOp)(x y:D)(H:AHeap):t6 false P t a x y H=KJ P t a x y H:=by cases a<;>cases x<;>cases y<;>rfl
@[go_sem] theorem ag0 (P:Program)(t:TypeId)(k k':IntKind)(a b:Int)(H:AHeap):t6 true P t .sub (.int k a) (.int k' b) H=⟨k=k',True,.int k (k.wrap (a - b)),H⟩:=rfl
@[go_sem] theorem ai2 (u:UnOp)(t:TypeId)(x:Operand):oN P md nid ops e ⟨d,.unOp u t x,ty,p,af,none⟩ H=.op (YO u (fS e x) H):=rfl
@[go_sem] theorem adJ (s t:TypeId)(x:Operand):oN P md nid ops e ⟨d,.convert s t x,ty,p,af,none⟩ H=.op (oJ P s t (fS e x) H):=rfl
@[go_sem] theorem abH (f:FuncId)(caps:Array Operand):oN P md nid ops e ⟨d,.makeFunc (.func f) #[] caps,ty,p,af,none⟩ H=.op ⟨True,True,.fn f (caps.toList.map (fS e)),H⟩:=rfl
@[go_sem] theorem Z8 (t:TypeId)(l c:Operand):oN P md nid ops e ⟨d,.makeSlice t l c,ty,p,af,none⟩ H=.op (EM P nid t (fS e l) (fS e c) H):=rfl
@[go_sem] theorem ahJ (t:TypeId)(x:Operand)(lo hi:Option Operand):oN P md nid ops e ⟨d,.slice t x lo hi none,ty,p,af,none⟩ H=.op (sC P t (fS e x) (lo.map (fS e)) (hi.map (fS e)) H):=rfl
@[go_sem] theorem aaA (t:TypeId)(x:Operand)(f:Nat):oN P md nid ops e ⟨d,.fieldAddr t x f,ty,p,af,none⟩ H=.op (jE P t (fS e x) f H):=rfl
@[go_sem] theorem Z9 (t:TypeId)(x i:Operand):oN P md nid ops e ⟨d,.indexAddr t x i,ty,p,af,none⟩ H=.op (jD P t (fS e x) (fS e i) H):=rfl
@[go_sem] theorem ahK (t:TypeId)(x i:Operand):oN P md nid ops e ⟨d,.index t x i,ty,p,af,none⟩ H=.op (vH P t (fS e x) (fS e i) H):=rfl
@[go_sem] theorem adI (x:Operand)(i:Nat):oN P md nid ops e ⟨d,.extract x i,ty,p,af,none⟩ H=.op (oI (fS e x) i H):=rfl
@[go_sem] theorem adK (b:Builtin)(args:Array Operand)(ts:Array TypeId):oN P md nid ops e ⟨d,.call ⟨.builtin b,args,ts⟩,ty,p,af,none⟩ H=.op (yV P nid b (args.toList.map (fS e)) ts.toList H):=rfl
@[go_sem] theorem ai6 (f:FuncId)(args:Array Operand)(ts:Array TypeId):oN P md nid ops e ⟨d,.call ⟨.value (.func f),args,ts⟩,ty,p,af,none⟩ H=.call f (args.toList.map (fS e)):=by
 simp [oN,iR,fS,NP]
end
@[go_sem] theorem ac5 (P:Program)(md:Nat->Bool)(ops:Array Oper)(rest:List Oper)(e:eF)(H:AHeap)(K:eF->AHeap->Prop)(d:Option Tmp)(op:Op)(ty:TypeId)(p:String)(af:Array Edge)(g:Option (Nat × Bool)) :
 oU P md ops (⟨d,op,ty,p,af,g⟩ :: rest) e H K=Bg P md ops rest e d H K (oN P md H.next ops e ⟨d,op,ty,p,af,g⟩ H):=WU P md ops _ rest e H K
/-! ### code -/
section
variable (P:Program) (c:Cfg) (Q:Exit→eF→AHeap→Prop) (e:eF) (H:AHeap)
def Ae (P:Program)(c:Cfg)(a b:Code)(Q:Exit->eF->AHeap->Prop)(e:eF)(H:AHeap):D->Prop
 | .bool t=>(t=true->pP P c a Q e H)/\(t=false->pP P c b Q e H)
 | _=>False
def z8 (P:Program)(c:Cfg)(b:Code)(Q:Exit->eF->AHeap->Prop)(e:eF)(H:AHeap):Prop:=pP P c (.loop b) Q e H
@[go_sem] theorem aiX:pP P c .skip Q e H=Q .normal e H:=rfl
@[go_sem] theorem aeN (a:Nat)(l:List Oper):pP P c (.region a l.toArray false) Q e H=oU P c.own l.toArray l e H (Q .normal):=by
 simp [pP]
@[go_sem] theorem ai0 (a:Nat)(l:List Oper):pP P c (.region a l.toArray true) Q e H=lG P c.own l.toArray (c.sp a) H.next 0 l [] e ⟨H.next+l.length,H.F,H.get⟩ (Q .normal):=by
 simp [pP]
@[go_sem] theorem ajR (a b:Code):pP P c (.seq a b) Q e H=pP P c a (tJ (pP P c b Q) Q) e H:=rfl
@[go_sem] theorem ai1 (x:Operand)(a b:Code):pP P c (.cond x a b) Q e H=Ae P c a b Q e H (fS e x):=rfl
@[go_sem] theorem ahF (id:Nat)(b:Code):pP P c (.block id b) Q e H=pP P c b (Da id Q) e H:=rfl
@[go_sem] theorem aiY (b:Code):pP P c (.loop b) Q e H=z8 P c b Q e H:=rfl
@[go_sem] theorem aiZ (id:Nat):pP P c (.exit id) Q e H=Q (.exit id) e H:=rfl
@[go_sem] theorem ajS:pP P c .ret Q e H=Q .ret e H:=rfl
@[go_sem] theorem acV (a b:Code):Ae P c a b Q e H (.bool true)=pP P c a Q e H:=by simp [Ae]
@[go_sem] theorem aaV (a b:Code):Ae P c a b Q e H (.bool false)=pP P c b Q e H:=by simp [Ae]
@[go_sem] theorem Y9 (n:eF->AHeap->Prop):tJ n Q .normal e H=n e H:=rfl
@[go_sem] theorem adA (n:eF->AHeap->Prop):tJ n Q .ret e H=Q .ret e H:=rfl
@[go_sem] theorem aa7 (n:eF->AHeap->Prop)(i:Nat):tJ n Q (.exit i) e H=Q (.exit i) e H:=rfl
@[go_sem] theorem YZ (i:Nat):Da i Q .normal e H=Q .normal e H:=rfl
@[go_sem] theorem ac1 (i:Nat):Da i Q .ret e H=Q .ret e H:=rfl
@[go_sem] theorem RW (i j:Nat):Da i Q (.exit j) e H=if j=i then Q .normal e H else Q (.exit j) e H:=rfl
@[go_sem] theorem afK (rs:List ResultVar)(R:D->AHeap->Prop):VC P rs R .ret e H=EK P rs e H λl=>R (H8 l) H:=rfl
@[go_sem] theorem aaB (rs:List ResultVar)(R:D->AHeap->Prop):VC P rs R .normal e H=EK P rs e H λl=>R (H8 l) H:=rfl
@[go_sem] theorem agZ (K:UN->Prop):EK P [] e H K=K []:=rfl
@[go_sem] theorem agY (t:Tmp)(r:List ResultVar)(K:UN->Prop):EK P (.tmp t :: r) e H K=EK P r e H λl=>K (e t :: l):=rfl
@[go_sem] theorem aeJ (a:Tmp)(t:TypeId)(r:List ResultVar)(K:UN->Prop):EK P (.cell a t :: r) e H K=((pL P t (e a) H).cond/\EK P r e H λl=>K ((pL P t (e a) H).val :: l)):=rfl
@[go_sem] theorem aeS (d:D):H8 [d]=d:=rfl
end
attribute [go_sem] if_true if_false fP Bool.true_eq_false eq_self true_and and_true forall_const true_implies false_implies j7 i5 List.toList_toArray d7 Option.map_none
 LW pE dU dS jW eO implies_true
attribute [go_sem] LU KJ pL nO fC jE jD Hu lZ rG EM O9 zU vI jP sC vH oJ Bp xE EL kJ YO oI FU yV xF vF gC AOut.bad
 pM gI D.cells Ct BK.dk YV ite_self
@[go_sem] theorem aiL (id:Nat):AHeap.as.get id=none:=rfl
@[go_sem] theorem af1:AHeap.as.next=0:=rfl
@[go_sem] theorem agF (H:AHeap)(i j:Nat)(k:Blk):(H.push i k).get j=if j=i then some k else H.get j:=rfl
@[go_sem] theorem aiJ (H:AHeap)(i j:Nat)(k:Blk):(H.put i k).get j=if j=i then some k else H.get j:=rfl
@[go_sem] theorem ad1 (H:AHeap)(i:Nat)(k:Blk):(H.push i k).next=if i<H.next then H.next else i+1:=rfl
@[go_sem] theorem afZ (H:AHeap)(i:Nat)(k:Blk):(H.put i k).next=H.next:=rfl
@[go_sem] theorem agG (n:Nat)(al:Nat->Prop)(g:Nat->Option Blk)(j:Nat):(AHeap.mk n al g).get j=g j:=rfl
@[go_sem] theorem ad2 (n:Nat)(al:Nat->Prop)(g:Nat->Option Blk):(AHeap.mk n al g).next=n:=rfl
section
variable (H:AHeap)
@[go_sem] theorem afH (k:IntKind)(n:Int):f5 H (.int k n)=.int k n:=rfl
@[go_sem] theorem adW (b:Bool):f5 H (.bool b)=.bool b:=rfl
@[go_sem] theorem afE (b:ByteArray):f5 H (.str b)=.str b:=rfl
@[go_sem] theorem afG:f5 H .nil=.nil:=rfl
@[go_sem] theorem adV (es:UE):f5 H (.list es)=.list es:=rfl
@[go_sem] theorem afI (es:UN):f5 H (.adr es)=.adr es:=rfl
@[go_sem] theorem adT:f5 H .nilp=.nilp:=rfl
@[go_sem] theorem adU:f5 H .nilf=.nilf:=rfl
@[go_sem] theorem ahR (f:FuncId)(l:UN):f5 H (.fn f l)=.fn f l:=rfl
@[go_sem] theorem afF (id n:Nat):f5 H (.own id n)=match H.get id with|some k=>if k.P.length=n then .list k.P else .own id n|none=>.own id n:=rfl
@[go_sem] theorem afD (id n lo hi:Nat):f5 H (.win id n lo hi)=match H.get id with|some k=>if k.P.length=n then .list ((k.P.take hi).drop lo) else .win id n lo hi|none=>.win id n lo hi:=rfl
@[go_sem] theorem ae5 (id n lo hi:Nat):jN H (.win id n lo hi)=f5 H (.win id n lo hi):=rfl
@[go_sem] theorem aeX (id n lo hi:Nat):pF H (.win id n lo hi)=f5 H (.win id n lo hi):=rfl
@[go_sem] theorem afA (k:IntKind)(n:Int):jN H (.int k n)=.int k n:=rfl
@[go_sem] theorem adS (b:Bool):jN H (.bool b)=.bool b:=rfl
@[go_sem] theorem ae6 (b:ByteArray):jN H (.str b)=.str b:=rfl
@[go_sem] theorem ae9:jN H .nil=.nil:=rfl
@[go_sem] theorem adR (es:UE):jN H (.list es)=.list es:=rfl
@[go_sem] theorem afC (es:UN):jN H (.adr es)=.adr es:=rfl
@[go_sem] theorem adP:jN H .nilp=.nilp:=rfl
@[go_sem] theorem adQ:jN H .nilf=.nilf:=rfl
@[go_sem] theorem ahQ (f:FuncId)(l:UN):jN H (.fn f l)=.fn f l:=rfl
@[go_sem] theorem afB (l:UN):jN H (.agg l)=.agg (l.map (f5 H)):=rfl
@[go_sem] theorem ae8 (id n:Nat):jN H (.own id n)=f5 H (.own id n):=rfl
@[go_sem] theorem aeY (l:UN):pF H (.tup l)=.tup (l.map (jN H)):=rfl
@[go_sem] theorem ae2 (k:IntKind)(n:Int):pF H (.int k n)=.int k n:=rfl
@[go_sem] theorem adO (b:Bool):pF H (.bool b)=.bool b:=rfl
@[go_sem] theorem aeZ (b:ByteArray):pF H (.str b)=.str b:=rfl
@[go_sem] theorem ae1:pF H .nil=.nil:=rfl
@[go_sem] theorem adN (es:UE):pF H (.list es)=.list es:=rfl
@[go_sem] theorem ae4 (es:UN):pF H (.adr es)=.adr es:=rfl
@[go_sem] theorem adL:pF H .nilp=.nilp:=rfl
@[go_sem] theorem adM:pF H .nilf=.nilf:=rfl
@[go_sem] theorem ahP (f:FuncId)(l:UN):pF H (.fn f l)=.fn f l:=rfl
@[go_sem] theorem ae3 (l:UN):pF H (.agg l)=.agg (l.map (f5 H)):=rfl
@[go_sem] theorem ae0 (id n:Nat):pF H (.own id n)=f5 H (.own id n):=rfl
end
@[go_sem] theorem agA (k:IntKind)(n:Int):mM (.int k n)=[]:=rfl
@[go_sem] theorem ad7 (b:Bool):mM (.bool b)=[]:=rfl
@[go_sem] theorem af7 (b:ByteArray):mM (.str b)=[]:=rfl
@[go_sem] theorem af9:mM .nil=[]:=rfl
@[go_sem] theorem ad6 (es:UE):mM (.list es)=[]:=rfl
@[go_sem] theorem agB (es:UN):mM (.adr es)=[]:=rfl
@[go_sem] theorem ad4:mM .nilp=[]:=rfl
@[go_sem] theorem ad5:mM .nilf=[]:=rfl
@[go_sem] theorem aiC (f:FuncId)(l:UN):mM (.fn f l)=[]:=rfl
@[go_sem] theorem af6 (id n lo hi:Nat):mM (.win id n lo hi)=[id]:=rfl
@[go_sem] theorem abM (id n lo hi:Nat):eJ (.win id n lo hi)=[id]:=rfl
@[go_sem] theorem af8 (id n:Nat):mM (.own id n)=[id]:=rfl
@[go_sem] theorem abR (k:IntKind)(n:Int):eJ (.int k n)=[]:=rfl
@[go_sem] theorem aaG (b:Bool):eJ (.bool b)=[]:=rfl
@[go_sem] theorem abN (b:ByteArray):eJ (.str b)=[]:=rfl
@[go_sem] theorem abQ:eJ .nil=[]:=rfl
@[go_sem] theorem aaF (es:UE):eJ (.list es)=[]:=rfl
@[go_sem] theorem abT (es:UN):eJ (.adr es)=[]:=rfl
@[go_sem] theorem aaD:eJ .nilp=[]:=rfl
@[go_sem] theorem aaE:eJ .nilf=[]:=rfl
@[go_sem] theorem adZ (f:FuncId)(l:UN):eJ (.fn f l)=[]:=rfl
@[go_sem] theorem abP (id n:Nat):eJ (.own id n)=[id]:=rfl
@[go_sem] theorem abS (l:UN):eJ (.agg l)=l.flatMap mM:=rfl
@[go_sem] theorem agH (H:AHeap)(id:Nat):H.frz id=match H.get id with|some k=>H.put id { k with fz:=true } | none=>H:=rfl
@[go_sem] theorem afL (H:AHeap)(a:Nat)(k b:Blk):(H.push a k).put a b=H.push a b:=by
 unfold AHeap.push AHeap.put;grind
@[go_sem] theorem ahU (H:AHeap)(a:Nat)(k b:Blk):(H.put a k).put a b=H.put a b:=by
 unfold AHeap.put;grind
section
variable {P:Program} {c:Cfg} {Q:Exit→eF→AHeap→Prop} {e:eF} {H:AHeap} {a b:Code}
theorem bB {t:Bool}(h1:t=true->pP P c a Q e H)(h2:t=false->pP P c b Q e H):Ae P c a b Q e H (.bool t):=⟨h1,h2⟩
theorem gK {p:Prop}[Decidable p](h1:p->pP P c a Q e H)(h2:¬ p->pP P c b Q e H):Ae P c a b Q e H (.bool (decide p)):=⟨λh=>h1 (of_decide_eq_true h),λh=>h2 (of_decide_eq_false h)⟩
end
attribute [irreducible] Ae fT Bb z8
end Go.Abs
end
section
namespace Go.Abs
section
variable {P:Program} {c:Cfg} {md:Nat→Bool}
theorem KH {t:Option Nat}{nid:Nat}{ops:Array Oper}{e:eF}{o:Oper}{H:AHeap}{K K':D->AHeap->List Nat->Prop}(d:∀ v H F,K v H F->K' v H F)(h:rF P md t nid ops e o H K):rF P md t nid ops e o H K':=by
 unfold rF at h ⊢;cases x:o.guard with
 | none =>
  simp only [x] at h ⊢;cases k:iR e o with
  | none=>simp only [k] at h ⊢;exact ⟨h.1,λhf=>d _ _ _ (h.2 hf)⟩
  | some p =>
   obtain ⟨f,s⟩:=p;simp only [k] at h ⊢;cases t with
   | none=>exact h.mono λ_ _ h=>d _ _ _ h
   | some m =>
    rcases h with ⟨r,S,y,c⟩|⟨z,r,S,u,q,A,hq,y,c⟩
    .exact .inl ⟨r,S,y,d _ _ _ c⟩
    grind
 | some p =>
  obtain ⟨j,b⟩:=p;simp only [x] at h ⊢;cases i:gD ops e j with
  | none=>simp only [i] at h
  | some gc =>
   obtain ⟨g,B⟩:=gc;simp only [i] at h ⊢;refine ⟨h.1,?_⟩;have c:=h.2;cases k:iR (gE e o.op) o with
   | none=>simp only [k] at c ⊢;exact ⟨c.1,λhf=>d _ _ _ (c.2 hf)⟩
   | some p =>
    obtain ⟨f,s⟩:=p;simp only [k] at c ⊢;cases t with
    | some _=>obtain ⟨r,S,n,l⟩:=c;exact ⟨r,S,n,d _ _ _ l⟩
    | none =>
     rcases c with ⟨r,S,n,l⟩|⟨n,l⟩
     .exact .inl ⟨r,S,n,d _ _ _ l⟩
     .exact .inr ⟨λhq=>(n hq).mono λ_ _ h=>d _ _ _ h,λhq=>(l hq).imp λ_ h=>d _ _ _ h⟩
theorem Ny {ops:Array Oper}{K K':eF->AHeap->Prop}(hk:∀ e H,K e H->K' e H):∀ (l:List Oper) (e:eF) (H:AHeap),oU P md ops l e H K->oU P md ops l e H K'
 | [],e,H,h=>hk _ _ h
 | o :: l,e,H,h=>by
  unfold oU at h ⊢;exact KH (λv H' _ h=>Ny hk l _ _ h) h
theorem KK {ops:Array Oper}{sp:List (Nat × Nat)}{n0:Nat}{K K':eF->AHeap->Prop}(hk:∀ e H,K e H->K' e H):∀ (l:List Oper) (i:Nat) (acc:List (Nat × List Nat)) (e:eF) (H:AHeap),
  lG P md ops sp n0 i l acc e H K->lG P md ops sp n0 i l acc e H K'
 | [],i,acc,e,H,h=>by unfold lG at h ⊢;exact hk _ _ h
 | o :: l,i,acc,e,H,h=>by
  unfold lG at h ⊢;exact KH (λv H' _ h=>⟨h.1,KK hk l _ _ _ _ h.2⟩) h
theorem yX {n a:eF->AHeap->Prop}{Q b:Exit->eF->AHeap->Prop}(d:∀ e H,n e H->a e H)(c:∀ x e H,Q x e H->b x e H):∀ x e H,tJ n Q x e H->tJ a b x e H:=by
 intro x e H h;cases x<;>first|exact d _ _ h|exact c _ _ _ h
theorem RV {i:Nat}{Q a:Exit->eF->AHeap->Prop}(b:∀ x e H,Q x e H->a x e H):∀ x e H,Da i Q x e H->Da i a x e H:=by
 intro x e H h;cases x<;>first|exact b _ _ _ h|skip
 rename_i j;rw [RW] at h ⊢;grind
theorem s6:∀ (x:Code) {Q Q':Exit->eF->AHeap->Prop} (hq:∀ x e H,Q x e H->Q' x e H) (e:eF) (H:AHeap),pP P c x Q e H->pP P c x Q' e H
 | .skip,Q,Q',hq,e,H,h=>hq _ _ _ h
 | .region id ops dr,Q,Q',hq,e,H,h=>by
  unfold pP at h ⊢;cases dr with
  | false=>simp only [fP,if_false] at h ⊢;exact Ny (λe H h=>hq _ _ _ h) _ _ _ h
  | true=>simp only [if_true] at h ⊢;exact KK (λe H h=>hq _ _ _ h) _ _ _ _ _ h
 | .seq a b,Q,Q',hq,e,H,h=>by
  unfold pP at h ⊢;exact s6 a (yX (λe H h=>s6 b hq e H h) hq) e H h
 | .cond x a b,Q,Q',hq,e,H,h=>by
  unfold pP at h ⊢;cases hv:fS e x<;>simp only [hv] at h ⊢<;>try (exact h.elim)
  exact ⟨λht=>s6 a hq e H (h.1 ht),λht=>s6 b hq e H (h.2 ht)⟩
 | .block id b,Q,Q',hq,e,H,h=>by
  unfold pP at h ⊢;exact s6 b (RV hq) e H h
 | .loop b,Q,Q',hq,e,H,h=>by
  unfold pP at h ⊢;obtain ⟨I,h0,hI⟩:=h;exact ⟨I,h0,λk e' H' hi=>s6 b (yX (λ_ _ h=>h) hq) _ _ (hI k e' H' hi)⟩
 | .exit id,Q,Q',hq,e,H,h=>hq _ _ _ h
 | .ret,Q,Q',hq,e,H,h=>hq _ _ _ h
 | .rangeFunc ..,Q,Q',hq,e,H,h=>h.elim
 | .scope ..,Q,Q',hq,e,H,h=>h.elim
 | .label ..,Q,Q',hq,e,H,h=>h.elim
 | .goto ..,Q,Q',hq,e,H,h=>h.elim
 | .refuse ..,Q,Q',hq,e,H,h=>h.elim
theorem gH {b:Code}{Q:Exit->eF->AHeap->Prop}{e:eF}{H:AHeap}{ι:Type}(I:ι->eF->AHeap->Prop)(μ:ι->Nat)(i:ι)(n:I i e H)
  (l:∀ x e H,I x e H->pP P c b (tJ (λe' H'=>∃ x',μ x'<μ x/\I x' e' H') Q) e H):z8 P c b Q e H:=by
 unfold z8 pP;refine ⟨λk e H=>∃ x,μ x=k/\I x e H,⟨e,H,.gh (.refl H),_,i,rfl,n⟩,λk e' H' ⟨x,m,j⟩=>s6 b (yX (λf g ⟨x',d,a⟩=>⟨f,g,.gh (.refl _),_,m ▸ d,x',rfl,a⟩) λ_ _ _ h=>h) _ _ (l x e' H' j)⟩
theorem zH {b:Code}{Q:Exit->eF->AHeap->Prop}{e g:eF}{H H':AHeap}(n:GhE e H g H'){ι:Type}(I:ι->eF->AHeap->Prop)(μ:ι->Nat)(i:ι)(o:I i g H')
  (l:∀ x e H,I x e H->pP P c b (tJ (λe' H'=>∃ e3 H3,GhE e' H' e3 H3/\∃ x',μ x'<μ x/\I x' e3 H3) Q) e H):z8 P c b Q e H:=by
 unfold z8 pP;refine ⟨λk e H=>∃ x,μ x=k/\I x e H,⟨g,H',n,_,i,rfl,o⟩,λk e' H' ⟨x,m,j⟩=>s6 b (yX (λp q ⟨e3,H3,f,x',d,a⟩=>⟨e3,H3,f,_,m ▸ d,x',rfl,a⟩) λ_ _ _ h=>h) _ _ (l x e' H' j)⟩
theorem aB {ops:Array Oper}{a:List Oper}{e:eF}{b:Option Tmp}{K:eF->AHeap->Prop}{f:FuncId}{args:UN}{H:AHeap}{r:D}(d:Pure P f args r)(c:D.L args=true)
 (h:oU P md ops a (oV e b r) H K):fT P md ops a e b K f args H:=by grind [fT, t7]
theorem eK {ops:Array Oper}{a:List Oper}{e:eF}{b:Option Tmp}{K:eF->AHeap->Prop}{f:FuncId}{args args':UN}{H:AHeap}{r:D}(d:Pure P f args' r)(i:args.map (jN H)=args')(c:D.L args'=true)(g:r.bf=true)
 (h:oU P md ops a (oV e b r) H K):fT P md ops a e b K f args H:=by grind [fT, zV]
theorem Bj {ops:Array Oper}{a:List Oper}{e:eF}{b:Option Tmp}{K:eF->AHeap->Prop}{f:FuncId}{args args':UN}{H H':AHeap}{r:D}(g:Pure P f args' r)(i:args.map (jN H)=args')(c:D.L args'=true)
 (d:gC (args.flatMap eJ) H=H') (h:oU P md ops a (oV e b r) H' K):fT P md ops a e b K f args H:=by grind [fT, Pe]
theorem kU {ops:Array Oper}{a:List Oper}{e:eF}{b:Option Tmp}{K:eF->AHeap->Prop}{f:FuncId}{args:UN}{H:AHeap}{ty:TypeId}{sz:Nat}{es:UE}(d:Own P f args ty sz es)(c:D.L args=true)
 (h:oU P md ops a (oV e b (.own H.next es.length)) (H.push H.next ⟨ty,sz,es,false⟩) K):fT P md ops a e b K f args H:=by grind [fT, GV]
end
end Go.Abs
end
section
namespace Go.Abs
def r6 (P:Program)(md:Nat->Bool)(ops:Array Oper)(sp:List (Nat × Nat))(n0 i:Nat)(rest:List Oper)(acc:List (Nat × List Nat))(e:eF)(dst:Option Tmp)(K:eF->AHeap->Prop)(f:FuncId)(args:UN)(H:AHeap):Prop :=
 (∃ r S,(∀ H',gU S H' H->ACalls P f args H' λv H1=>v=r/\H1=H')/\chk sp i S acc/\lG P md ops sp n0 (i+1) rest ((i,S) :: acc) (oV e dst r) H K) \/
 (Fk md dst=true/\∃ r S u q,(∀ p∈u,p.1∈S)/\(∀ p∈q,p.1<n0/\¬ H.F p.1)/\(∀ H',gU S H' H->(∀ p∈q,p.1<H'.next/\¬ H'.F p.1)->ACalls P f args H' λv H1=>v=r/\H1=(H'.ai u).ac q) /\
  chk sp i (S++q.map (·.1)) acc/\lG P md ops sp n0 (i+1) rest ((i,S++q.map (·.1)) :: acc) (oV e dst r) ((H.ai u).ac q) K)
def wP (P:Program)(md:Nat->Bool)(ops:Array Oper)(sp:List (Nat × Nat))(n0 i:Nat)(rest:List Oper)(acc:List (Nat × List Nat))(e:eF)(dst:Option Tmp)(K:eF->AHeap->Prop)(t:Bool)(f:FuncId)(args:UN)(H:AHeap):Prop :=
 ∃ r S,(t=true->∀ H',gU S H' H->ACalls P f args H' λv H1=>v=r/\H1=H')/\chk sp i S acc/\lG P md ops sp n0 (i+1) rest ((i,S) :: acc) (oV e dst (.opt t r)) H K
def M4 (nid:Nat)(e:eF)(o:Oper):List Nat:=foot nid (match o.guard with|none=>e|some _=>gE e o.op) o.op
def u7 (P:Program)(md:Nat->Bool)(ops:Array Oper)(sp:List (Nat × Nat))(n0 i:Nat)(rest:List Oper)(acc:List (Nat × List Nat))(e:eF)(dst:Option Tmp)(H:AHeap)(K:eF->AHeap->Prop)(F:List Nat):SOut->Prop
 | .op o=>o.cond/\chk sp i F acc/\lG P md ops sp n0 (i+1) rest ((i,F) :: acc) (oV e dst o.val) o.heap K
 | .call f args=>r6 P md ops sp n0 i rest acc e dst K f args H
 | .gop t g o=>(t=true->g=true)/\(t=true->o.cond/\o.heap=H)/\chk sp i F acc/\lG P md ops sp n0 (i+1) rest ((i,F) :: acc) (oV e dst (.opt t o.val)) H K
 | .gcall t g f args=>(t=true->g=true)/\wP P md ops sp n0 i rest acc e dst K t f args H
 | .bad=>False
theorem T3 (P:Program)(md:Nat->Bool)(ops:Array Oper)(q:List (Nat × Nat))(n i:Nat)(o:Oper)(k:List Oper)(m:List (Nat × List Nat))(e:eF)(H:AHeap)(K:eF->AHeap->Prop) :
  lG P md ops q n i (o :: k) m e H K=u7 P md ops q n i k m e o.dst H K (M4 (n+i) e o) (oN P md (n+i) ops e o H):=by
 obtain ⟨dst,op,type,pos,after,guard⟩:=o;cases guard with
 | none =>
  simp only [lG,rF,oN,M4];cases s:iR e { dst:=dst,op:=op,type:=type,pos:=pos,after:=after,guard:=none } with
  | none=>simp [NP,u7]
  | some p=>simp [NP,u7,r6]
 | some p =>
  obtain ⟨j,b⟩:=p;simp only [lG,rF,oN,M4];cases u:gD ops e j with
  | none=>simp [K9,u7]
  | some gc =>
   obtain ⟨t,v⟩:=gc;cases s:iR (gE e op) { dst:=dst,op:=op,type:=type,pos:=pos,after:=after,guard:=some (j,b) } with
   | none=>simp [K9,u7]
   | some p=>simp [K9,u7,wP]
@[go_sem] theorem ac6 (P:Program)(md:Nat->Bool)(ops:Array Oper)(sp:List (Nat × Nat))(n0 i:Nat)(acc:List (Nat × List Nat))(e:eF)(H:AHeap)(K:eF->AHeap->Prop):lG P md ops sp n0 i [] acc e H K=K e H:=rfl
section
variable (P:Program) (md:Nat→Bool) (ops:Array Oper) (sp:List (Nat × Nat)) (n0 i:Nat) (rest:List Oper) (acc:List (Nat × List Nat)) (e:eF) (dst:Option Tmp) (H H':AHeap) (K:eF→AHeap→Prop) (F:List Nat) (c f:Prop) (v:D) (t g:Bool) (fn:FuncId) (args:UN)
@[go_sem] theorem aeE:u7 P md ops sp n0 i rest acc e dst H K F (.op ⟨c,f,v,H'⟩)=(c/\chk sp i F acc/\lG P md ops sp n0 (i+1) rest ((i,F) :: acc) (oV e dst v) H' K):=rfl
@[go_sem] theorem aaT:u7 P md ops sp n0 i rest acc e dst H K F (.call fn args)=r6 P md ops sp n0 i rest acc e dst K fn args H:=rfl
@[go_sem] theorem acS:u7 P md ops sp n0 i rest acc e dst H K F (.gop t g ⟨c,f,v,H'⟩) =
 ((t=true->g=true)/\(t=true->c/\H'=H)/\chk sp i F acc/\lG P md ops sp n0 (i+1) rest ((i,F) :: acc) (oV e dst (.opt t v)) H K):=rfl
@[go_sem] theorem ZP:u7 P md ops sp n0 i rest acc e dst H K F (.gcall t g fn args)=((t=true->g=true)/\wP P md ops sp n0 i rest acc e dst K t fn args H):=rfl
@[go_sem] theorem aaZ (d:Option Tmp)(op:Op)(ty:TypeId)(p:String)(af:Array Edge)(gu:Option (Nat × Bool)) :
 lG P md ops sp n0 i (⟨d,op,ty,p,af,gu⟩ :: rest) acc e H K=u7 P md ops sp n0 i rest acc e d H K (M4 (n0+i) e ⟨d,op,ty,p,af,gu⟩) (oN P md (n0+i) ops e ⟨d,op,ty,p,af,gu⟩ H):=T3 P md ops sp n0 i _ rest acc e H K
@[go_sem] theorem aiS:chk [] i F acc=True:=rfl
end
@[go_sem] theorem agU (p:Nat × Nat)(sp:List (Nat × Nat))(i:Nat)(F:List Nat)(acc:List (Nat × List Nat)):chk (p :: sp) i F acc = ∀ q∈acc,(q.1,i)∈(p :: sp)->∀ x∈q.2,x∉F:=rfl
@[go_sem] theorem acN (nid:Nat)(e:eF)(d:Option Tmp)(op:Op)(ty:TypeId)(p:String)(af:Array Edge):M4 nid e ⟨d,op,ty,p,af,none⟩=foot nid e op:=rfl
@[go_sem] theorem acM (nid:Nat)(e:eF)(d:Option Tmp)(op:Op)(ty:TypeId)(p:String)(af:Array Edge)(g:Nat × Bool):M4 nid e ⟨d,op,ty,p,af,some g⟩=foot nid (gE e op) op:=rfl
attribute [go_sem] foot Js sV Op.operands Call.operands
@[go_sem] theorem acD (k:IntKind)(n:Int):eY (.int k n)=[]:=rfl
@[go_sem] theorem aaP (b:Bool):eY (.bool b)=[]:=rfl
@[go_sem] theorem ab8 (b:ByteArray):eY (.str b)=[]:=rfl
@[go_sem] theorem acC:eY .nil=[]:=rfl
@[go_sem] theorem aaN (es:UE):eY (.list es)=[]:=rfl
@[go_sem] theorem acF (es:UN):eY (.adr es)=[]:=rfl
@[go_sem] theorem aaL:eY .nilp=[]:=rfl
@[go_sem] theorem aaM:eY .nilf=[]:=rfl
@[go_sem] theorem ad3 (f:FuncId)(l:UN):eY (.fn f l)=[]:=rfl
@[go_sem] theorem acA (id n:Nat):eY (.own id n)=[id]:=rfl
@[go_sem] theorem ab6 (id n lo hi:Nat):eY (.win id n lo hi)=[id]:=rfl
@[go_sem] theorem ab9 (id v i o:Nat):eY (.ptr id v i o)=[id]:=rfl
@[go_sem] theorem acE (l:UN):eY (.agg l)=l.flatMap mM:=rfl
@[go_sem] theorem acB (t:Bool)(d:D):eY (.opt t d)=[]:=rfl
@[go_sem] theorem aaO:eY .junk=[]:=rfl
@[go_sem] theorem ab7 (l:UN):eY (.tup l)=[]:=rfl
/-! ### guards -/
def gV:D->Option (Bool × Bool)
 | .bool c=>some (true,c)
 | .opt g (.bool c)=>some (g,c)
 | _=>none
def gT (e:eF):Option Tmp->Option (Bool × Bool)
 | some t=>gV (e t)
 | none=>none
@[go_sem] theorem aiN (e:eF)(t:Nat):gT e (some t)=gV (e t):=rfl
@[go_sem] theorem aiM (c:Bool):gV (.bool c)=some (true,c):=rfl
@[go_sem] theorem ajO (g c:Bool):gV (.opt g (.bool c))=some (g,c):=rfl
section
variable (P:Program) (md:Nat→Bool) (nid:Nat) (ops:Array Oper) (e:eF) (d:Option Tmp) (op:Op) (ty:TypeId) (p:String) (af:Array Edge) (H:AHeap) (j:Nat) (b:Bool)
@[go_sem] theorem abF:oN P md nid ops e ⟨d,op,ty,p,af,some (j,b)⟩ H =
 K9 (gD ops e j) b (WX e (gO op)) (iR (gE e op) ⟨d,op,ty,p,af,none⟩) (Hr P nid md (gE e op) ⟨d,op,ty,p,af,none⟩ H):=rfl
@[go_sem] theorem ajP (l:List Oper):gD l.toArray e j=gT e ((l[j]?).bind (·.dst)):=by grind [gD, gT, gV]
end
@[go_sem] theorem adF (t c b g:Bool)(f:FuncId)(args:UN)(o:AOut):K9 (some (t,c)) b g (some (f,args)) o=.gcall (t&&(c==b)) g f args:=rfl
@[go_sem] theorem ahH (t c b g:Bool)(o:AOut):K9 (some (t,c)) b g none o=.gop (t&&(c==b)) g o:=rfl
attribute [go_sem] gE gO Operand.tmp.injEq WX og iR Hr Option.bind_some mV KQ gW Bool.and_true beq_false beq_true beq_self_eq_true
 dU Bool.and_self KT Bool.not_false
@[go_sem] theorem adC (e:eF)(d:Option Tmp)(v:D)(t:Nat):F5 (oV e d v) t=match oV e d v t with | .opt _ d=>d|d=>d:=rfl
@[go_sem] theorem abB (l:UN)(t:Nat):F5 (El l) t=match El l t with | .opt _ d=>d|d=>d:=rfl
section
variable {P:Program} {md:Nat→Bool} {ops:Array Oper} {sp:List (Nat × Nat)} {n0 i:Nat} {rest:List Oper} {acc:List (Nat × List Nat)} {e:eF} {dst:Option Tmp} {K:eF→AHeap→Prop} {f:FuncId} {args args':UN} {H:AHeap} {r:D}
theorem Nk:chk sp i [] acc:=by
 unfold chk;grind
theorem aH (hp:Pure P f args r)(hcl:D.L args=true)(h:lG P md ops sp n0 (i+1) rest ((i,[]) :: acc) (oV e dst r) H K):r6 P md ops sp n0 i rest acc e dst K f args H :=
 .inl ⟨r,[],λH' _=>t7 hp hcl ⟨rfl,rfl⟩,Nk,h⟩
theorem dM {t:Bool}(hp:t=true->Pure P f args r)(hcl:t=true->D.L args=true)(h:lG P md ops sp n0 (i+1) rest ((i,[]) :: acc) (oV e dst (.opt t r)) H K):wP P md ops sp n0 i rest acc e dst K t f args H :=
 ⟨r,[],λht H' _=>t7 (hp ht) (hcl ht) ⟨rfl,rfl⟩,Nk,h⟩
theorem aK {t:Bool}(b:t=true->Pure P f args r)(a:t=true->D.L args=true)(h:oU P md ops rest (oV e dst (.opt t r)) H K):Bb P md ops rest e dst K t f args H:=by
 unfold Bb;exact .inl ⟨r,[],λht H' _=>t7 (b ht) (a ht) ⟨rfl,rfl⟩,h⟩
theorem y5 {S:List Nat}{H':AHeap}(c:gU S H' H){d:D}(b:∀ x∈mM d,x∈S):f5 H' d=f5 H d:=by
 cases d<;>try rfl
 .rename_i a n;have:=c a (b a (by simp [mM]));simp only [f5,this]
 .rename_i a n e f;have:=c a (b a (by simp [mM]));simp only [f5,this]
theorem ID {S:List Nat}{H':AHeap}(b:gU S H' H){d:D}(a:∀ x∈eJ d,x∈S):jN H' d=jN H d:=by
 cases d<;>try rfl
 case own id n=>exact y5 (d:=.own id n) b a
 case win id n lo hi=>exact y5 (d:=.win id n lo hi) b a
 case agg l =>
  simp only [jN];congr 1;exact b8 λx e=>y5 b λy c=>a y (by simp only [eJ,bQ];exact ⟨x,e,c⟩)
theorem Dd {S:List Nat}{H':AHeap}(ha:gU S H' H){l:UN}(hd:∀ x∈l.flatMap eJ,x∈S):l.map (jN H')=l.map (jN H) :=
 b8 λd hm=>ID ha λx hx=>hd x (bQ.2 ⟨d,hm,hx⟩)
theorem LH {t:Bool}(c:t=true->Pure P f args' r)(j:args.map (jN H)=args')(a:t=true->D.L args'=true)(d:t=true->r.bf=true){S:List Nat}(k:args.flatMap eJ=S)(g:chk sp i S acc)
  (h:lG P md ops sp n0 (i+1) rest ((i,S) :: acc) (oV e dst (.opt t r)) H K):wP P md ops sp n0 i rest acc e dst K t f args H:=by
 subst j k;refine ⟨r,_,λht H' hag=>?_,g,h⟩;have b:=Dd hag λx hx=>hx;exact zV (by rw [b];exact c ht) (by rw [b];exact a ht) (d ht) ⟨rfl,rfl⟩
theorem ON {t:Bool}(c:t=true->Pure P f args' r)(g:args.map (jN H)=args')(a:t=true->D.L args'=true)(d:t=true->r.bf=true)
  (h:oU P md ops rest (oV e dst (.opt t r)) H K):Bb P md ops rest e dst K t f args H:=by
 subst g;unfold Bb;refine .inl ⟨r,args.flatMap eJ,λht H' hag=>?_,h⟩;have b:=Dd hag λx hx=>hx;exact zV (by rw [b];exact c ht) (by rw [b];exact a ht) (d ht) ⟨rfl,rfl⟩
end
/-! ### calls of function values -/
def U4:D->UN->Option (FuncId × UN)
 | .fn g caps,az=>some (g,az++caps)
 | _,_=>none
@[go_sem] theorem agV (g:FuncId)(caps az:UN):U4 (.fn g caps) az=some (g,az++caps):=rfl
theorem TT (e:eF)(d:Option Tmp)(f:Operand)(args:Array Operand)(ts:Array TypeId)(ty:TypeId)(p:String)(a:Array Edge)(g:Option (Nat × Bool)) :
  iR e ⟨d,.call ⟨.value f,args,ts⟩,ty,p,a,g⟩=U4 (fS e f) (args.toList.map (fS e)):=by grind [iR, U4]
@[go_sem] theorem ahL (P:Program)(md:Nat->Bool)(nid:Nat)(ops:Array Oper)(e:eF)(d:Option Tmp)(ty:TypeId)(p:String)(a:Array Edge)(H:AHeap)(t:Nat)(args:Array Operand)(ts:Array TypeId) :
  oN P md nid ops e ⟨d,.call ⟨.value (.tmp t),args,ts⟩,ty,p,a,none⟩ H=NP (U4 (e t) (args.toList.map (fS e))) (.bad H):=by
 simp only [oN,TT];rfl
attribute [go_sem] decide_eq_true_eq dS dP
attribute [irreducible] r6 wP
end Go.Abs
end
section
namespace Go.Abs
attribute [go_sem] D.cell D.Q D.L D.R D.bf D.cR uQ tF vL GR List.drop_succ_cons List.drop_zero nE List.replicate_zero fJ List.flatten_nil
def dI (n:Int):D:=.int .i64 n
def cI (n:Int):UN:=[.int .i64 n]
def cS (s:ByteArray):UN:=[.str s]
def dLI (xs:V2):D:=.list (xs.map cI)
def s7 (xs:List ByteArray):D:=.list (xs.map cS)
structure Attr where
 name:ByteArray
 ao:Int
 az:Int
 af:List ByteArray
def Attr.c (a:Attr):UN:=[.str a.name,dI a.ao,dI a.az,s7 a.af]
structure NodeTy where
 name:ByteArray
 E:Int
 eb:Bool
 r:List Attr
def NodeTy.c (n:NodeTy):UN:=[.str n.name,dI n.E,.bool n.eb,.list (n.r.map Attr.c)]
structure EdgeTy where
 name:ByteArray
 w:Int
 M:Int
 cx:Int
 ch:Int
 dm:Int
 cy:Int
def EdgeTy.c (x:EdgeTy):UN:=[.str x.name,dI x.w,dI x.M,dI x.cx,dI x.ch,dI x.dm,dI x.cy]
structure Types where
 h:List NodeTy
 i:List EdgeTy
def Types.c (t:Types):UN:=[.list (t.h.map NodeTy.c),.list (t.i.map EdgeTy.c)]
def Types.d (t:Types):D:=.agg t.c
structure Edge where
 type:Int
 w:Int
 M:Int
def Edge.c (x:Edge):UN:=[dI x.type,dI x.w,dI x.M]
structure Graph where
 h:V2
 i:List Edge
def Graph.c (g:Graph):UN:=[dLI g.h,.list (g.i.map Edge.c)]
def Graph.d (g:Graph):D:=.agg g.c
/-! ### closed -/
theorem d9 {α:Type}(f:α->UN)(h:∀ a,D.L (f a)=true)(l:List α):D.R (l.map f)=true:=by
 induction l with
 | nil=>rfl
 | cons a l ih=>simp [D.R,h,ih]
@[go_sem] theorem rA (l:V2):(dLI l).Q=true:=by simp only [dLI,D.Q];exact d9 _ (λ_=>rfl) l
@[go_sem] theorem Yq (l:List ByteArray):(s7 l).Q=true:=by simp only [s7,D.Q];exact d9 _ (λ_=>rfl) l
@[go_sem] theorem Attr.Q (a:Attr):D.L a.c=true:=by simp [Attr.c,D.L,D.Q,dI,Yq]
@[go_sem] theorem NodeTy.Q (n:NodeTy):D.L n.c=true:=by simp [NodeTy.c,D.L,D.Q,dI,d9 _ Attr.Q]
@[go_sem] theorem EdgeTy.Q (x:EdgeTy):D.L x.c=true:=by simp [EdgeTy.c,D.L,D.Q,dI]
@[go_sem] theorem Types.Q (t:Types):t.d.Q=true:=by simp [Types.d,Types.c,D.L,D.Q,d9 _ NodeTy.Q,d9 _ EdgeTy.Q]
@[go_sem] theorem Edge.Q (x:Edge):D.L x.c=true:=by simp [Edge.c,D.L,D.Q,dI]
@[go_sem] theorem Graph.Q (g:Graph):g.d.Q=true:=by simp [Graph.d,Graph.c,D.L,D.Q,rA,d9 _ Edge.Q]
@[go_sem] theorem aeR (a b:D)(l:UN):H8 (a :: b :: l)=.tup (a :: b :: l):=rfl
end Go.Abs
end
section
namespace Go.Abs
structure Term where
 O:Int
 add:Int
def Term.c (x:Term):UN:=[dI x.O,dI x.add]
structure Slot where
 node:Int
 J:Int
 y:Term
def Slot.c (x:Slot):UN:=[dI x.node,dI x.J,dI x.y.O,dI x.y.add]
structure Test where
 D:Int
 left:Term
 right:Term
def Test.c (x:Test):UN:=[dI x.D,dI x.left.O,dI x.left.add,dI x.right.O,dI x.right.add]
structure Pattern where
 j:Graph
 l:List Slot
 vars:Int
 G:List Test
def Pattern.c (p:Pattern):UN:=[dLI p.j.h,.list (p.j.i.map Edge.c),.list (p.l.map Slot.c),dI p.vars,.list (p.G.map Test.c)]
def Pattern.d (p:Pattern):Abs.D:=.agg p.c
structure Part where
 h:V2
 i:V2
def Part.c (p:Part):UN:=[dLI p.h,dLI p.i]
def Part.d (p:Part):D:=.agg p.c
inductive Cond where
 | mk (kind:Int) (kids:List Cond) (map:Part) (pattern:Pattern)
def Cond.D:Cond->Int | .mk k _ _ _=>k
def Cond.u:Cond->List Cond | .mk _ l _ _=>l
def Cond.map:Cond->Part | .mk _ _ m _=>m
def Cond.o:Cond->Pattern | .mk _ _ _ p=>p
mutual
def Cond.c:Cond->UN
 | .mk k l m p=>[dI k,.list (Cond.cs l),dLI m.h,dLI m.i,dLI p.j.h,.list (p.j.i.map Edge.c),.list (p.l.map Slot.c),dI p.vars,.list (p.G.map Test.c)]
def Cond.cs:List Cond->UE
 | []=>[]
 | c :: l=>c.c :: Cond.cs l
end
theorem Cond.cq (l:List Cond):Cond.cs l=l.map Cond.c:=by
 induction l with
 | nil=>simp [Cond.cs]
 | cons a l ih=>simp [Cond.cs,ih]
theorem Cond.A (x:Cond):x.c=[dI x.D,.list (x.u.map Cond.c),dLI x.map.h,dLI x.map.i,dLI x.o.j.h,.list (x.o.j.i.map Edge.c),.list (x.o.l.map Slot.c),dI x.o.vars,.list (x.o.G.map Test.c)]:=by
 cases x;simp [Cond.c,Cond.D,Cond.u,Cond.map,Cond.o,Cond.cq]
structure Rule where
 name:ByteArray
 left:Pattern
 right:Pattern
 q:Part
 s:Part
 inj:Bool
 cond:Cond
def Rule.c (r:Rule):UN:=[.str r.name,dLI r.left.j.h,.list (r.left.j.i.map Edge.c),.list (r.left.l.map Slot.c),dI r.left.vars,.list (r.left.G.map Test.c),
 dLI r.right.j.h,.list (r.right.j.i.map Edge.c),.list (r.right.l.map Slot.c),dI r.right.vars,.list (r.right.G.map Test.c),
 dLI r.q.h,dLI r.q.i,dLI r.s.h,dLI r.s.i,.bool r.inj,
 dI r.cond.D,.list (r.cond.u.map Cond.c),dLI r.cond.map.h,dLI r.cond.map.i,dLI r.cond.o.j.h,.list (r.cond.o.j.i.map Edge.c),.list (r.cond.o.l.map Slot.c),dI r.cond.o.vars,.list (r.cond.o.G.map Test.c)]
def Rule.d (r:Rule):D:=.agg r.c
structure Stage where
 gx:V2
 g0:V2
def Stage.c (s:Stage):UN:=[dLI s.gx,dLI s.g0]
@[go_sem] theorem Slot.Q (x:Slot):D.L x.c=true:=rfl
@[go_sem] theorem Test.Q (x:Test):D.L x.c=true:=rfl
@[go_sem] theorem Im (l:List Slot):D.R (l.map Slot.c)=true:=d9 _ Slot.Q l
@[go_sem] theorem Pz (l:List Test):D.R (l.map Test.c)=true:=d9 _ Test.Q l
@[go_sem] theorem Stage.Q (x:Stage):D.L x.c=true:=by simp [Stage.c,D.L,rA]
@[go_sem] theorem adD (l:List Stage):D.R (l.map Stage.c)=true:=d9 _ Stage.Q l
theorem yJ (l:List Edge):D.R (l.map Edge.c)=true:=d9 _ Edge.Q l
mutual
theorem Cond.Q:∀ x:Cond,Abs.D.L x.c=true
 | .mk k l m p=>by
  have:=Cond.ea l;simp [Cond.c,Abs.D.L,Abs.D.Q,dI,rA,this,yJ,Im,Pz]
theorem Cond.ea:∀ l:List Cond,Abs.D.R (Cond.cs l)=true
 | []=>by simp [Cond.cs,Abs.D.R]
 | c :: l=>by simp [Cond.cs,Abs.D.R,Cond.Q c,Cond.ea l]
end
attribute [go_sem] Cond.Q
@[go_sem] theorem Yr (l:List Cond):D.R (l.map Cond.c)=true:=by rw [<- Cond.cq];exact Cond.ea l
@[go_sem] theorem Rule.Q (r:Rule):D.L r.c=true:=by
 simp [Rule.c,D.L,D.Q,dI,rA,yJ,Im,Pz,Yr]
@[go_sem] theorem aeW (l:List Rule):D.R (l.map Rule.c)=true:=d9 _ Rule.Q l
end Go.Abs
end
section
namespace Go.Abs
def G4 (H:AHeap)(d:D):D :=
 match d with
 | .ptr id ver i off=>match gI H (.ptr id ver i off) with
  | some (c :: cs)=>.adr (c :: cs)
  | _=>.ptr id ver i off
 | d=>f5 H d
def ZI:D->List Nat
 | .ptr id _ _ _=>[id]
 | d=>mM d
def Lg (H:AHeap)(d:D):D :=
 match d with
 | .fn g caps=>.fn g (caps.map (G4 H))
 | .ptr id ver i off=>G4 H (.ptr id ver i off)
 | d=>jN H d
def X9:D->List Nat
 | .fn _ caps=>caps.flatMap ZI
 | .ptr id _ _ _=>[id]
 | d=>eJ d
section
variable {P:Program} {M0:Nat→Prop} {H:AHeap} {σ:Nat→Option Ow} {w:World}
theorem Ez {H H':AHeap}(h:∀ i,(H'.get i).map (·.P)=(H.get i).map (·.P))(d:D):gI H' d=gI H d:=by
 cases d<;>try rfl
 rename_i c a i b;simp only [gI];grind
theorem AI {v:Value}{d:D}(s:Rel M0 H σ w)(m:RepV (dV M0 H σ) σ H.F w v d)(G:∀ i∈ZI d,∀ k,H.get i=some k->k.fz=true) :
  RepV (dV M0 H σ) σ H.F w v (G4 H d):=by
 cases d<;>try exact n6 s m G
 rename_i g ver i t;simp only [G4];cases B:gI H (.ptr g ver i t) with
 | none=>exact m
 | some I =>
  cases I with
  | nil=>exact m
  | cons c I =>
   obtain ⟨J,K,M,a,Q,e⟩:=sI s m B aE;subst M;have A:¬ dV M0 H σ J.block:=by
    cases q:H.get g with
    | none=>simp [gI,q] at B
    | some k =>
     obtain ⟨o,z,l⟩:=s.am g k q;have F:k.P.length=ver:=by
      simp only [gI,q] at B;grind
     cases m
     rename_i S P h;rcases h o z with T|⟨_,b,n,x⟩
     .have:=l.ah;omega
     .cases x
      rintro (N|⟨E,R,L,p,r,y,C⟩)
      .exact (s.lt g o b z n).2 N
      .have O:=s.inj E g L o b y z C n;subst O;rw [q] at p;cases p
       rw [G E (by simp [ZI]) k q] at r;cases r
   exact .adr J K _ a.len Q (λj u hu=>⟨A,e j u hu⟩) a.Z
theorem PT {v:Value}{d:D}(p:Rel M0 H σ w)(e:RepV (dV M0 H σ) σ H.F w v d)(a:List Nat)(h:∀ i∈X9 d,i∈a) :
  RepV (dV M0 (gC a H) σ) σ (gC a H).F w v (Lg H d):=by
 obtain ⟨q,B,C,n⟩:=gP a p;have c:=e.q B;have f:∀ i∈a,∀ k,(gC a H).get i=some k->k.fz=true:=λi h k hk=>by
  have m:=(n i).1;rw [hk] at m;cases l:H.get i with
  | none=>rw [l] at m;cases m
  | some k0 =>
   grind
 have b:∀ d,G4 (gC a H) d=G4 H d:=λd=>by
  have z:=rQ (λi=>(n i).1) d;cases d with
  | ptr id ver i off=>simp only [G4,Ez (λi=>(n i).1)]
  | _=>exact z
 cases d with
 | fn g caps =>
  cases c
  rename_i r A t;refine .fn g r _ (bY A) λj u x hu e=>?_;rw [aN,bV] at e;obtain ⟨y,s,rfl⟩:=e;rw [<- b y];refine AI q (t j u y hu s) λi hii k hk=>f i (h i ?_) k hk;simp only [X9,bQ];grind
 | ptr id ver i off =>
  simp only [Lg];rw [<- b];exact AI q c λi hii k hk=>f i (h i hii) k hk
 | _=>exact n5 p e a h
theorem VG {vals:List Value}{args:UN}(hR:Rel M0 H σ w)(ha:RepL (dV M0 H σ) σ H.F w vals args)(ids:List Nat)(hi:∀ i∈args.flatMap X9,i∈ids) :
  RepL (dV M0 (gC ids H) σ) σ (gC ids H).F w vals (args.map (Lg H)) :=
 ⟨by simpa using ha.len,λj u d hu hd=>by
  rw [aN,bV] at hd;obtain ⟨y,hy,rfl⟩:=hd;exact PT hR (ha.Z j u y hu hy) ids λi hii=>hi i (bQ.2 ⟨y,aL hy,hii⟩)⟩
theorem Pf {f:FuncId}{args:UN}{r:D}{Q:D->AHeap->Prop}(c:Pure P f (args.map (Lg H)) r)(b:D.L (args.map (Lg H))=true)(g:r.bf=true)(k:Q r H):ACalls P f args H Q:=by
 refine ⟨c.1,λM0 σ w vals hR ha=>?_⟩;obtain ⟨o,s,q,p⟩:=gP (args.flatMap X9) hR;refine (c.2 (dV M0 (gC (args.flatMap X9) H) σ) w vals (w4 o) (iU (λ_ h=>h) (VG hR ha _ λi h=>h) b)).mono λe w' ⟨v,j,d,a⟩=>?_;obtain ⟨n,m,l⟩:=hR.grow a.os a.tape a.output a.size a.block;exact ⟨v,r,H,σ,j,n,Bc d g,m,l,k⟩
theorem s4 {md:Nat->Bool}{ops:Array Oper}{a:List Oper}{e:eF}{b:Option Tmp}{K:eF->AHeap->Prop}{f:FuncId}{args args':UN}{r:D}(d:Pure P f args' r)(i:args.map (Lg H)=args')(c:D.L args'=true)(g:r.bf=true)
 (h:oU P md ops a (oV e b r) H K):fT P md ops a e b K f args H:=by grind [fT, Pf]
end
theorem Own.pure {P:Program}{f:FuncId}{args:UN}{ty:TypeId}{sz:Nat}{es:UE}(h:Own P f args ty sz es):Pure P f args (.list es):=by
 refine ⟨h.1,λM w vals hM ha=>(h.2 M w vals hM ha).mono λe w' ⟨v,z,C,k,F,m,x,s,E⟩=>⟨v,C,?_,E⟩⟩;have o:D.L es.flatten=true:=EO λd hd=>by
  obtain ⟨c,l,q⟩:=j6.1 hd;exact kK (sD x c l) d q
 have a:RepL M jG tB w' z es.flatten:=iU (λb h h'=>h (.inl h')) m o;rcases k.2 with ⟨n,G⟩|⟨g,y,H,i,I,p,t,l,B,r⟩
 .rw [n,bM G];exact .listN
 .rw [i];refine .list ⟨g,0,none⟩ y sz z es t l s a.len F (λj u hu=>⟨λhm=>?_,k.cells (g:=g) (by simp [i,Value.ownBlock]) j u hu⟩) a.Z;grind
end Go.Abs
end
section
namespace Go.Abs
def V4:D->D
 | .nil=>.list []
 | d=>d
def WY:D->D
 | .agg cs=>.agg (cs.map V4)
 | d=>V4 d
def Pg:D->D
 | .tup vs=>.tup (vs.map WY)
 | d=>WY d
@[go_sem] theorem ah9 (k:IntKind)(n:Int):V4 (.int k n)=.int k n:=rfl
@[go_sem] theorem afW (b:Bool):V4 (.bool b)=.bool b:=rfl
@[go_sem] theorem ah7 (b:ByteArray):V4 (.str b)=.str b:=rfl
@[go_sem] theorem afV (l:UE):V4 (.list l)=.list l:=rfl
@[go_sem] theorem ah8:V4 .nil=.list []:=rfl
@[go_sem] theorem ah5 (k:IntKind)(n:Int):WY (.int k n)=.int k n:=rfl
@[go_sem] theorem afU (b:Bool):WY (.bool b)=.bool b:=rfl
@[go_sem] theorem ah3 (b:ByteArray):WY (.str b)=.str b:=rfl
@[go_sem] theorem afT (l:UE):WY (.list l)=.list l:=rfl
@[go_sem] theorem ah4:WY .nil=.list []:=rfl
@[go_sem] theorem ah6 (l:UN):WY (.agg l)=.agg (l.map V4):=rfl
@[go_sem] theorem ah1 (k:IntKind)(n:Int):Pg (.int k n)=.int k n:=rfl
@[go_sem] theorem afS (b:Bool):Pg (.bool b)=.bool b:=rfl
@[go_sem] theorem ahZ (b:ByteArray):Pg (.str b)=.str b:=rfl
@[go_sem] theorem afR (l:UE):Pg (.list l)=.list l:=rfl
@[go_sem] theorem ah0:Pg .nil=.list []:=rfl
@[go_sem] theorem ah2 (l:UN):Pg (.agg l)=.agg (l.map V4):=rfl
@[go_sem] theorem ahY (l:UN):Pg (.tup l)=.tup (l.map WY):=rfl
theorem Oo {M:Nat->Prop}{σ:Nat->Option Ow}{N:Nat->Prop}{w:World}{v:Value}{d:D}(h:RepV M σ N w v d):RepV M σ N w v (V4 d):=by
 cases d<;>try exact h
 cases h
 exact .listN
theorem On {M:Nat->Prop}{σ:Nat->Option Ow}{N:Nat->Prop}{w:World}{v:Value}{d:D}(h:RepV M σ N w v d):RepV M σ N w v (WY d):=by
 cases d<;>try exact Oo h
 cases h
 rename_i a f e c;refine .agg a _ (bY e) f λj u d hu hd=>?_;rw [aN,bV] at hd;obtain ⟨y,b,rfl⟩:=hd;exact Oo (c j u y hu b)
theorem Zw {M:Nat->Prop}{σ:Nat->Option Ow}{N:Nat->Prop}{w:World}{v:Value}{d:D}(h:RepV M σ N w v d):RepV M σ N w v (Pg d):=by
 cases d<;>try exact On h
 cases h
 rename_i a e c;refine .tup a _ (bY e) λj u d hu hd=>?_;rw [aN,bV] at hd;obtain ⟨y,b,rfl⟩:=hd;exact On (c j u y hu b)
section
variable {P:Program} {c:Cfg}
theorem Mu {f:FuncId}{args:UN}{r:D}(g:r.Q=true)(h:∀ Q:D->AHeap->Prop,(∀ d H',(pF H' d=r\/Pg (pF H' d)=r)->Q d H')->ACalls P f args .as Q):Pure P f args r:=by
 have h:=h (λd H'=>pF H' d=r\/Pg (pF H' d)=r) λ_ _ h=>h;refine ⟨h.1,λM w vals hM ha=>(h.2 M jG w vals (HB M w hM) (by rw [HF];exact ha)).mono λe w' ⟨v,d,H',σ',k,m,j,c,o,b⟩=>⟨v,k,?_,Bs c⟩⟩;have n:RepV (dV M (gC (Fh d) H') σ') σ' (gC (Fh d) H').F w' v r:=by
  have a:=vW m j (Fh d) λi hi=>hi;rcases b with b|b
  .rw [b] at a;exact a
  .have a:=Zw a;rw [b] at a;exact a
 exact n.bt (λad u hm l=>⟨λh=>hm (.inl h),l⟩) g
theorem ajB {f:FuncId}{args:UN}{ty:TypeId}{sz:Nat}{es:UE}(hcl:D.R es=true)
  (h:∀ Q:D->AHeap->Prop,(∀ id n H',n=es.length->H'.get id=some ⟨ty,sz,es,false⟩->Q (.own id n) H')->ACalls P f args .as Q):Own P f args ty sz es :=
 DO (h _ λid n H' hn hg=>⟨id,_,by rw [hn],hg,rfl,rfl,rfl,rfl,hcl⟩)
def AV (I:Nat->eF->AHeap->Prop)(m:Nat->Nat)(x:Nat)(e:eF)(H:AHeap):Prop:=∃ e' H',GhE e H e' H'/\∃ x',m x'<m x/\I x' e' H'
theorem iO {I:Nat->eF->AHeap->Prop}{m:Nat->Nat}{x:Nat}{e:eF}{H:AHeap}(x':Nat)(hm:m x'<m x)(hI:I x' e H):AV I m x e H:=⟨e,H,.gh (.refl H),x',hm,hI⟩
theorem Jo {I:Nat->eF->AHeap->Prop}{m:Nat->Nat}{x:Nat}{e:eF}{H H':AHeap}(hg:Ghosts H H')(x':Nat)(hm:m x'<m x)(hI:I x' e H'):AV I m x e H:=⟨e,H',.gh hg,x',hm,hI⟩
theorem Jp {I:Nat->eF->AHeap->Prop}{m:Nat->Nat}{x:Nat}{e:eF}{H:AHeap}(t id n:Nat)(k:Blk)(he:e t=.own id n)(hk:H.get id=some k)(hn:k.P.length=n)(x':Nat)(hm:m x'<m x)(hI:I x' (oV e (some t) (.list k.P)) (H.frz id)):AV I m x e H:=⟨_,_,.frz (.gh (.refl H)) t id n k he hk hn,x',hm,hI⟩
theorem Aa {b:Code}{Q:Exit->eF->AHeap->Prop}{e:eF}{H:AHeap}(I:Nat->eF->AHeap->Prop)(μ:Nat->Nat)(x0:Nat)(h0:I x0 e H)
 (hs:∀ x e H,I x e H->pP P c b (tJ (AV I μ x) Q) e H):z8 P c b Q e H:=zH (.gh (.refl H)) I μ x0 h0 hs
theorem ab0 {b:Code}{Q:Exit->eF->AHeap->Prop}{e:eF}{H H':AHeap}(hg:Ghosts H H')(I:Nat->eF->AHeap->Prop)(μ:Nat->Nat)(x0:Nat)(h0:I x0 e H')
 (hs:∀ x e H,I x e H->pP P c b (tJ (AV I μ x) Q) e H):z8 P c b Q e H:=zH (.gh hg) I μ x0 h0 hs
theorem XV {b:Code}{Q:Exit->eF->AHeap->Prop}{e:eF}{H:AHeap}(t id n:Nat)(k:Blk)(he:e t=.own id n)(hk:H.get id=some k)(hn:k.P.length=n)(I:Nat->eF->AHeap->Prop)(μ:Nat->Nat)(x0:Nat)(h0:I x0 (oV e (some t) (.list k.P)) (H.frz id))
 (hs:∀ x e H,I x e H->pP P c b (tJ (AV I μ x) Q) e H):z8 P c b Q e H:=zH (.frz (.gh (.refl H)) t id n k he hk hn) I μ x0 h0 hs
end
@[go_sem] theorem ad9 (H:AHeap)(id i off:Nat)(ty sz:Nat):JX H id i off ty sz=match H.get id with
 | some k=>(H.put id { k with P:=k.P.set i ((k.P[i]?.getD []).set off (.own H.next 0)) }).push H.next ⟨ty,sz,[],false⟩
 | none=>H:=rfl
@[go_sem] theorem acJ (H:AHeap)(id i off q hi:Nat):CT H id i off q hi=match H.get id,H.get q with
 | some k,some kq=>(((H.drop q).push H.next ⟨kq.ty,kq.Y,kq.P.take hi,false⟩).put id { k with P:=k.P.set i ((k.P[i]?.getD []).set off (.own H.next hi)) })
 | _,_=>H:=rfl
attribute [go_sem] xH FX
attribute [irreducible] AV
theorem iS {p:Prop}(h:p:=by (first|assumption|(intros;first|assumption|omega|exact dW aD aD|(and_intros<;>first|assumption|omega|exact dW aD aD))|(simp_all<;>omega))):p:=h
theorem fK {p:Prop}(h:p:=by (first|assumption|(intros;first|assumption|omega|exact dW aD aD|(and_intros<;>first|assumption|omega|exact dW aD aD))|(simp;done)|(simp;omega))):p:=h
end Go.Abs
end
section
namespace Go.Abs
section
variable {P:Program} {M0:Nat→Prop} {H:AHeap} {σ:Nat→Option Ow} {w:World}
theorem BG (zs:V2):(zs.map cI).flatten=zs.map (D.int .i64):=by
 induction zs with
 | nil=>rfl
 | cons a l b=>simp only [i5,fJ,b,cI];rfl
theorem Bw {M:Nat->Prop}{N:Nat->Prop}(zs:V2):RepL M σ N w (zs.map (Value.int .i64)) (zs.map cI).flatten:=by
 rw [BG];refine ⟨by simp,λj u d hu hd=>?_⟩;rw [aN,bV] at hu hd;obtain ⟨x,b,rfl⟩:=hu;obtain ⟨y,a,rfl⟩:=hd;rw [b] at a;cases a
 exact .int _ _
def Hv (w:World)(ty:TypeId)(v:Value)(xs:V2):Prop:=w.ownsRow 0 ty 1 v xs.length (xs.map (Value.int .i64))
theorem Uj (x:Rel M0 H σ w){d:Nat}{ty:TypeId}{xs:V2}(t:H.get d=some ⟨ty,1,xs.map cI,false⟩){v:Value}(m:RepV (dV M0 H σ) σ H.F w v (.own d xs.length)) :
  ∃ o,σ d=some o/\v=o.val/\o.ah=xs.length/\o.ty=ty/\o.H=1/\Hv w ty v xs:=by
 obtain ⟨o,i,l⟩:=x.am d _ t;have c:o.ah=xs.length:=by have:=l.ah;simpa using this
 cases m
 rename_i A B h;rcases h o i with C|⟨_,rfl⟩
 .omega
 .obtain ⟨b,g,p,a⟩:=l.row;have n:b=xs.map (Value.int .i64):=by
   simp only [BG] at a;apply gA;intro j;have s:=a.len;simp only [aR] at s;by_cases e:j<xs.length
   .have y:=a.Z j b[j] (D.int .i64 xs[j]) (aA aD) (iw e);generalize b[j]=u at y;have f:b[j]?=some b[j]:=aA aD;have k:=a.Z j b[j] (D.int .i64 xs[j]) f (iw e);generalize z:b[j]=q at f k;rw [f];cases k
    simp [e]
   grind
  refine ⟨o,i,rfl,c,l.ty,l.Y,?_⟩;unfold Hv;have r:o.H=1:=l.Y;grind
theorem P1 {w':World}(n:Rel M0 H σ w){a:Nat}{ty:TypeId}{xs zs:V2}(g:Bool)(m:H.get a=some ⟨ty,1,xs.map cI,false⟩){o:Ow}(k:σ a=some o)(e:o.ah=xs.length)(h:o.ty=ty)(d:o.H=1)
  (l:zs.length=xs.length) (j:w.grownBy w' o.block) (f:Hv w' ty o.val zs) :
  Rel M0 (H.put a ⟨ty,1,zs.map cI,g⟩) (λi=>if i=a then some o else σ i) w'/\Stp σ w (λi=>if i=a then some o else σ i) w' /\
   Keeps (dV M0 H σ) σ H.F w (dV M0 (H.put a ⟨ty,1,zs.map cI,g⟩) (λi=>if i=a then some o else σ i)) (λi=>if i=a then some o else σ i) (H.put a ⟨ty,1,zs.map cI,g⟩).F w':=by
 refine Rel.put n m rfl k ⟨ty,1,zs.map cI,g⟩ o j (λb hb=>.inl hb) (.inl rfl) (by simp [e,l]) h d (λc hc=>?_) (zs.map (Value.int .i64)) ?_ (λu hu=>?_) (Bw zs)
 .obtain ⟨x,_,rfl⟩:=aT.1 hc;rw [d];rfl
 .rw [d];simpa [Hv] using f
 .obtain ⟨x,_,rfl⟩:=aT.1 hu;rfl
theorem Sa {f:FuncId}{i:Nat}{ty:TypeId}{xs zs:V2}{Q:D->AHeap->Prop}(h:Ent P f)(n:H.get i=some ⟨ty,1,xs.map cI,false⟩)(r:zs.length=xs.length)
  (t:∀ (w:World) (v:Value),Hv w ty v xs->Calls P f #[v] w λe w'=>e=.returned (.tuple #[])/\w.grownBy w' v.ownBlock/\Hv w' ty v zs)
  (x:Q (.tup []) (H.put i ⟨ty,1,zs.map cI,false⟩)):ACalls P f [.own i xs.length] H Q:=by
 refine ⟨h,λM0 σ w vals hR ha=>?_⟩;obtain ⟨g,p⟩:=ha;match vals,g with
 | [v],_ =>
  obtain ⟨o,q,rfl,b,k,l,c⟩:=Uj hR n (p 0 v _ rfl rfl);refine (t w _ c).mono λe w' ⟨s,m,a⟩=>?_;obtain ⟨A,z,y⟩:=P1 hR false n q b k l r m a;exact ⟨_,.tup [],_,_,s,A,.tup [] [] rfl (λj u d hu=>by simp at hu),z,y,x⟩
theorem O6 {f:FuncId}{b:Nat}{ty:TypeId}{xs zs:V2}{m:Nat}{Q:D->AHeap->Prop}(A:Ent P f)(X:H.get b=some ⟨ty,1,xs.map cI,false⟩)(hl:zs.length=xs.length)(hm:m<=xs.length)
  (T:∀ (w:World) (v:Value),Hv w ty v xs->Calls P f #[v] w λe w'=>(∃ r,e=.returned r/\((v=.slice none 0 0/\r=v)\/∃ g n cap,v=.slice (some g) n cap/\r=.slice (some g) m cap))/\w.grownBy w' v.ownBlock/\Hv w' ty v zs)
  (hQ:Q (.list ((zs.take m).map cI)) (H.put b ⟨ty,1,zs.map cI,true⟩)):ACalls P f [.own b xs.length] H Q:=by
 refine ⟨A,λM0 σ w vals hR ha=>?_⟩;obtain ⟨y,hr⟩:=ha;match vals,y with
 | [v],_ =>
  obtain ⟨o,I,rfl,q,E,F,d⟩:=Uj hR X (hr 0 v _ rfl rfl);refine (T w _ d).mono λe w' ⟨⟨r,he,G⟩,O,a⟩=>?_;obtain ⟨h1,h2,h3⟩:=P1 hR true X I q E F hl O a;refine ⟨r,.list ((zs.take m).map cI),_,_,he,h1,?_,h2,h3,hQ⟩;rcases G with ⟨h,rfl⟩|⟨g,n,cap,h,rfl⟩
  .have hz:zs=[]:=by
    rcases d.2 with ⟨_,h0⟩|⟨B,C,V,s,_⟩
    .exact bM aD
    grind
   subst hz;rw [h];simpa using RepV.listN
  .rcases a.2 with ⟨W,_⟩|⟨B,C,V,s,a3,Y,a1,S,a2,a0⟩
   .rw [h] at W;cases W
   .have p:=s;rw [h] at p;cases p
    have K:(zs.take m).length=m:=by simp;omega
    have R:=BG (zs.take m);have k:=RepV.list (M:=dV M0 (H.put b ⟨ty,1,zs.map cI,true⟩) (λi=>if i=b then some o else σ i)) (σ:=λi=>if i=b then some o else σ i) (N:=(H.put b ⟨ty,1,zs.map cI,true⟩).F) (w:=w')
     ⟨B,0,none⟩ cap 1 ((zs.take m).map (Value.int .i64)) ((zs.take m).map cI) ie S (λc T=>(by obtain ⟨x,_,rfl⟩:=aT.1 T;rfl)) (by rw [R];simp)
     (λu hu=>(by obtain ⟨x,_,rfl⟩:=aT.1 hu;rfl))
     (λj u hu=>by
      refine ⟨?_,?_⟩
      .rintro (J|⟨i,k',Z,z,hf,t,U⟩)
       .exact (hR.lt b o B I (by simp [Ow.block,h,Value.ownBlock])).2 J
       .by_cases L:i=b
        .simp only [AHeap.put,L,if_true,bI] at z;subst z;cases hf
        .simp only [L,if_false] at t;exact L (hR.inj i b Z o B t I U (by simp [Ow.block,h,Value.ownBlock]))
      .have:=a.cells (g:=B) (by simp [h,Value.ownBlock]) j u (by
        rw [aN] at hu ⊢;rw [cO] at hu;split at hu
        .exact hu
        .simp at hu)
       exact this)
     (Bw (zs.take m)).Z
    simp only [aR,K] at k;exact k
end
end Go.Abs
end
section
namespace Go.Abs
section
variable {P:Program} {M0:Nat→Prop} {H:AHeap} {σ:Nat→Option Ow} {w:World}
structure Made (M:Nat->Prop) (w w':World) (v:Value) (b:Blk) (xs:List Value):Prop where
 row:w'.ownsRow w.heap.size b.ty b.Y v b.P.length xs
 one:∀ u∈xs,u.oneCell'=true
 Z:RepL M jG tB w' xs b.P.flatten
 Q:D.R b.P=true
 Y:∀ c∈b.P,c.length=b.Y
theorem Sh {f:FuncId}{args:UN}{ty:TypeId}{sz:Nat}{es:UE}{Q:D->AHeap->Prop}(N:Own P f args ty sz es)(J:D.L args=true)(q:Nat)(V:¬ H.F q)
  (Y:Q (.own q es.length) (H.push q ⟨ty,sz,es,false⟩)):ACalls P f args H Q:=by
 refine ⟨N.1,λM0 σ w vals hR ha=>(N.2 (dV M0 H σ) w vals (w4 hR) (iU (λ_ h=>h) ha J)).mono λe w' ⟨v,M,X,k,L,t,y,F,A⟩=>?_⟩;have m:w'.ownsRow 0 ty sz v es.length M:=⟨k.1,k.2.imp (λx=>x) λ⟨g,r,p,a,b,c⟩=>⟨g,r,p,a,eL _,c⟩⟩;have K:∀ b,v.ownBlock=some b->w.heap.size<=b:=λb j=>by
  rcases k.2 with B|⟨g,r,p,L,h2,h3⟩
  .rw [B.1] at j;simp [Value.ownBlock] at j
  .rw [L] at j;simp only [Value.ownBlock,bI] at j;omega
 have Z:∀ C,¬ (dV M0 H σ C\/v.ownBlock=some C)->¬ dV M0 (H.push q ⟨ty,sz,es,false⟩) (λi=>if i=q then some ⟨es.length,v,sz,ty⟩ else σ i) C:=by
  intro C G h;rcases h with h|⟨i,U,T,u,W,l,j⟩
  .exact G (.inl (.inl h))
  .by_cases n:i=q
   .simp only [n,if_true,bI] at l;subst l;exact G (.inr j)
   .simp only [n,if_false] at l;simp only [AHeap.push,n,if_false] at u;exact G (.inl (.inr ⟨i,U,T,u,W,l,j⟩))
 have z:D.L es.flatten=true:=EO λd hd=>by
  obtain ⟨c,I,E⟩:=j6.1 hd;exact kK (sD y c I) d E
 obtain ⟨S,R,O⟩:=Rel.d2 hR q V (w':=w') A.os A.tape A.output A.size A.block ⟨ty,sz,es,false⟩ ⟨es.length,v,sz,ty⟩
  K rfl rfl rfl F M m L (λhk=>iU Z t z)
 exact ⟨v,_,_,_,X,S,.own v _ _ (.inl rfl) (by rcases k.2 with ⟨B,_⟩|⟨g,r,p,B,_⟩<;>simp [B,Value.oneCell']) (λo ho=>by simp at ho;subst ho;exact .inr ⟨rfl,rfl⟩),R,O,Y⟩
theorem ACalls.c5 {f:FuncId}{args:UN}{Q:D->AHeap->Prop}(k:Nat)(h:ACalls P f args ⟨H.next+k,H.F,H.get⟩ Q):ACalls P f args H Q :=
 ⟨h.1,λM0 σ w vals hR ha=>h.2 M0 σ w vals (hR.c5 (m:=H.next+k) aD) ha⟩
theorem ACalls.frz {f:FuncId}{args:UN}{Q:D->AHeap->Prop}(h:ACalls P f (args.map (jN H)) (gC (args.flatMap eJ) H) Q):ACalls P f args H Q:=by
 refine ⟨h.1,λM0 σ w vals hR ha=>?_⟩;obtain ⟨m,l,p,o⟩:=gP (args.flatMap eJ) hR;refine (h.2 M0 σ w vals m (Dz hR ha _ λi h=>h)).mono λe w' ⟨v,d,n,σ',j,k,a,b,g,c⟩=>?_;exact ⟨v,d,n,σ',j,k,a,b,l.trans g,c⟩
end
section
variable {P:Program} {md:Nat→Bool} {ops:Array Oper} {sp:List (Nat × Nat)} {n0 i:Nat} {rest:List Oper} {acc:List (Nat × List Nat)} {e:eF} {dst:Option Tmp} {K:eF→AHeap→Prop} {f:FuncId} {args args':UN} {H H':AHeap}
theorem Nm (b:args.map (jN H)=args')(a:gC (args.flatMap eJ) H=H')(h:fT P md ops rest e dst K f args' H'):fT P md ops rest e dst K f args H:=by grind [fT, ACalls.frz]
theorem nB {ty:TypeId}{sz:Nat}{es:UE}(q:Nat)(a:Own P f args ty sz es)(c:D.L args=true)(b:Fk md dst=true)(g:q<n0)(d:¬ H.F q)(j:chk sp i [q] acc)
  (h:lG P md ops sp n0 (i+1) rest ((i,[q]) :: acc) (oV e dst (.own q es.length)) (H.push q ⟨ty,sz,es,false⟩) K):r6 P md ops sp n0 i rest acc e dst K f args H:=by
 unfold r6;exact Or.inr ⟨b,.own q es.length,[],[],[(q,⟨ty,sz,es,false⟩)],(λ_ h=>by cases h),λp a=>(by
   have:p=(q,⟨ty,sz,es,false⟩):=by simpa using a
   subst this;exact ⟨g,d⟩),
  λH' _ hn=>Sh a c q (hn (q,⟨ty,sz,es,false⟩) aE).2 ⟨rfl,rfl⟩,j,h⟩
end
theorem vG (i:Nat):AHeap.as.F i↔False:=Iff.rfl
theorem lY (H:AHeap)(i j:Nat)(k:Blk):(H.push i k).F j↔j=i\/H.F j:=Iff.rfl
theorem oG (H:AHeap)(i j:Nat)(k:Blk):(H.put i k).F j↔H.F j:=Iff.rfl
theorem Aj (n:Nat)(al:Nat->Prop)(g:Nat->Option Blk)(j:Nat):(AHeap.mk n al g).F j↔al j:=Iff.rfl
end Go.Abs
end
