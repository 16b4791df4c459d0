/- The abstraction layer, part U: the rows that walk a body. ·  -/
import Derived.Test.YtiklfilfhnfagaaGreatZfE
import Derived.Sort.OwnSortedInts
set_option linter.unusedVariables false
set_option linter.unusedSimpArgs false
section
namespace Go.Abs
inductive SOut where
 | op (o:AOut)
 | call (f:FuncId) (args:List D)
 | gop (t:Bool) (g:Bool) (o:AOut)
 | gcall (t:Bool) (g:Bool) (f:FuncId) (args:List D)
 | bad
def Ig (c:Option (FuncId × List D))(o:AOut):SOut :=
 match c with
 | some (f,args)=>.call f args
 | none=>.op o
def Gj (gc:Option (Bool × Bool))(b:Bool)(g:Bool)(c:Option (FuncId × List D))(o:AOut):SOut :=
 match gc with
 | some (t,c')=>match c with
  | some (f,args)=>.gcall (t&&(c'==b)) g f args
  | none=>.gop (t&&(c'==b)) g o
 | none=>.bad
def lV (P:Program)(md:Nat→Bool)(nid:Nat)(ops:Array Oper)(e:c7)(o:Oper)(H:AHeap):SOut :=
 match o.guard with
 | none=>Ig (f7 e o) (Dv P nid md e o H)
 | some (j,b)=>Gj (gD ops e j) b (P0 e (gO o.op)) (f7 (gE e o.op) o) (Dv P nid md (gE e o.op) o H)
def dO (P:Program)(md:Nat→Bool)(ops:Array Oper)(rest:List Oper)(e:c7)(dst:Option Tmp)(K:c7→AHeap→Prop)(f:FuncId)(args:List D)(H:AHeap):Prop :=
 ACalls P f args H fun v H1=>lQ P md ops rest (kY e dst v) H1 K
def xJ (P:Program)(md:Nat→Bool)(ops:Array Oper)(rest:List Oper)(e:c7)(dst:Option Tmp)(K:c7→AHeap→Prop)(t:Bool)(f:FuncId)(args:List D)(H:AHeap):Prop :=
 (∃ r S,(t=true→∀ H',fD S H' H→ACalls P f args H' fun v H1=>v=r∧H1=H')∧lQ P md ops rest (kY e dst (.opt t r)) H K) ∨
  ((t=true→ACalls P f args H fun v H1=>lQ P md ops rest (kY e dst (.opt true v)) H1 K)∧(t=false→∃ r,lQ P md ops rest (kY e dst (.opt false r)) H K))
def xK (P:Program)(md:Nat→Bool)(ops:Array Oper)(rest:List Oper)(e:c7)(dst:Option Tmp)(H:AHeap)(K:c7→AHeap→Prop):SOut→Prop
 | .op o=>o.cond∧(o.fact→lQ P md ops rest (kY e dst o.val) o.heap K)
 | .call f args=>dO P md ops rest e dst K f args H
 | .gop t g o=>(t=true→g=true)∧(t=true→o.cond∧o.heap=H)∧((t=true→o.fact)→lQ P md ops rest (kY e dst (.opt t o.val)) H K)
 | .gcall t g f args=>(t=true→g=true)∧xJ P md ops rest e dst K t f args H
 | .bad=>False
theorem PZ (P : Program) (md : Nat → Bool) (ops : Array Oper) (o : Oper) (rest : List Oper) (e : c7) (H : AHeap) (K : c7 → AHeap → Prop) :
    lQ P md ops (o :: rest) e H K = xK P md ops rest e o.dst H K (lV P md H.next ops e o H) := by
  obtain ⟨dst, op, type, pos, after, guard⟩ := o
  cases guard with
  | none =>
    simp only [lQ, oB, lV]
    cases hc : f7 e { dst := dst, op := op, type := type, pos := pos, after := after, guard := none } with
    | none => simp [Ig, xK]
    | some p => simp [Ig, xK, dO]
  | some p =>
    obtain ⟨j, b⟩ := p
    simp only [lQ, oB, lV]
    cases hg : gD ops e j with
    | none => simp [Gj, xK]
    | some gc =>
      obtain ⟨t, c'⟩ := gc
      simp only
      cases hc : f7 (gE e op) { dst := dst, op := op, type := type, pos := pos, after := after, guard := some (j, b) } with
      | none => simp [Gj, xK]
      | some p => simp [Gj, xK, xJ]
@[go_sem] theorem VZ (P:Program)(md:Nat→Bool)(ops:Array Oper)(e:c7)(H:AHeap)(K:c7→AHeap→Prop):lQ P md ops [] e H K=K e H:=rfl
@[go_sem] theorem Xp (P:Program)(md:Nat→Bool)(ops:Array Oper)(rest:List Oper)(e:c7)(dst:Option Tmp)(H H':AHeap)(K:c7→AHeap→Prop)(c f:Prop)(v:D) :
  xK P md ops rest e dst H K (.op ⟨c,f,v,H'⟩)=(c∧(f→lQ P md ops rest (kY e dst v) H' K)):=rfl
@[go_sem] theorem US (P:Program)(md:Nat→Bool)(ops:Array Oper)(rest:List Oper)(e:c7)(dst:Option Tmp)(H:AHeap)(K:c7→AHeap→Prop)(f:FuncId)(args:List D) :
  xK P md ops rest e dst H K (.call f args)=dO P md ops rest e dst K f args H:=rfl
@[go_sem] theorem VU (P:Program)(md:Nat→Bool)(ops:Array Oper)(rest:List Oper)(e:c7)(dst:Option Tmp)(H H':AHeap)(K:c7→AHeap→Prop)(c f:Prop)(v:D)(t g:Bool) :
  xK P md ops rest e dst H K (.gop t g ⟨c,f,v,H'⟩)=((t=true→g=true)∧(t=true→c∧H'=H)∧((t=true→f)→lQ P md ops rest (kY e dst (.opt t v)) H K)):=rfl
@[go_sem] theorem Tw (P:Program)(md:Nat→Bool)(ops:Array Oper)(rest:List Oper)(e:c7)(dst:Option Tmp)(H:AHeap)(K:c7→AHeap→Prop)(f:FuncId)(args:List D)(t g:Bool) :
  xK P md ops rest e dst H K (.gcall t g f args)=((t=true→g=true)∧xJ P md ops rest e dst K t f args H):=rfl
@[go_sem] theorem Vh (f:FuncId)(args:List D)(o:AOut):Ig (some (f,args)) o=.call f args:=rfl
@[go_sem] theorem Vi (o:AOut):Ig none o=.op o:=rfl
@[go_sem] theorem V5 (e:c7)(d t:Nat)(v:D):kY e (some d) v t=if t=d then v else e t:=rfl
@[go_sem] theorem V6 (e:c7)(v:D):kY e none v=e:=rfl
def SJ:List (Nat × D)→c7
 | []=>fun _=>.junk
 | (t,d) :: l=>fun t'=>if t'=t then d else SJ l t'
@[go_sem] theorem Xl (t:Nat):SJ [] t=.junk:=rfl
@[go_sem] theorem VR (t:Nat)(d:D)(l:List (Nat × D))(t':Nat):SJ ((t,d) :: l) t'=if t'=t then d else SJ l t':=rfl
@[go_sem] theorem Xk (t:Nat):A7 [] t=.junk:=by simp [A7]
@[go_sem] theorem VP (d:D)(l:List D):A7 (d :: l) 0=d:=rfl
@[go_sem] theorem VQ (d:D)(l:List D)(t:Nat):A7 (d :: l) (t+1)=A7 l t:=by simp [A7]
@[go_sem] theorem Yu (e:c7)(t:Nat):eK e (.tmp t)=e t:=rfl
@[go_sem] theorem Xi (e:c7)(f:FuncId):eK e (.func f)=.fn f []:=rfl
@[go_sem] theorem Yx (e:c7)(k:IntKind)(n:Int):eK e (.const (.int k n))=.int k n:=rfl
@[go_sem] theorem Xj (e:c7)(b:Bool):eK e (.const (.bool b))=.bool b:=rfl
@[go_sem] theorem Yv (e:c7)(b:ByteArray):eK e (.const (.string b))=.str b:=rfl
@[go_sem] theorem Yw (e:c7):eK e (.const (.slice none 0 0))=.nil:=rfl
@[go_sem] theorem Xg (e:c7):eK e (.const (.pointer none))=.nilp:=rfl
@[go_sem] theorem Xh (e:c7):eK e (.const .nilFunc)=.nilf:=rfl
@[go_sem] theorem Uj:iN (.const (.slice none 0 0))=true:=rfl
@[go_sem] theorem Uh (t:Nat):iN (.tmp t)=false:=rfl
@[go_sem] theorem Uk (k:IntKind)(n:Int):iN (.const (.int k n))=false:=rfl
@[go_sem] theorem Tm (b:Bool):iN (.const (.bool b))=false:=rfl
@[go_sem] theorem Ui (b:ByteArray):iN (.const (.string b))=false:=rfl
@[go_sem] theorem Tj:iN (.const (.pointer none))=false:=rfl
@[go_sem] theorem Tk:iN (.const .nilFunc)=false:=rfl
@[go_sem] theorem Tl (f:FuncId):iN (.func f)=false:=rfl
@[go_sem] theorem WU (md:Nat→Bool)(t:Nat):CR md (some t)=md t:=rfl
@[go_sem] theorem WV (md:Nat→Bool):CR md none=false:=rfl
section
variable (P:Program) (md:Nat→Bool) (nid:Nat) (ops:Array Oper) (e:c7) (d:Option Tmp) (ty:TypeId) (p:String) (af:Array Edge) (H:AHeap)
@[go_sem] theorem YL (x:Operand):lV P md nid ops e ⟨d,.move x,ty,p,af,none⟩ H=.op (if iN x then Cy P nid (CR md d) ty H else ⟨True,True,eK e x,H⟩):=rfl
@[go_sem] theorem Wc (x:Operand):lV P md nid ops e ⟨d,.assign x,ty,p,af,none⟩ H=.op (if iN x then Cy P nid (CR md d) ty H else ⟨True,True,eK e x,H⟩):=rfl
@[go_sem] theorem YK (c a b:Operand):lV P md nid ops e ⟨d,.pick c a b,ty,p,af,none⟩ H=.op (xY (eK e c) (eK e a) (eK e b) H):=rfl
@[go_sem] theorem XV (t:TypeId):lV P md nid ops e ⟨d,.alloc t,ty,p,af,none⟩ H=.op (vB P nid (CR md d) t H):=rfl
@[go_sem] theorem Zt (t:TypeId)(x:Operand):lV P md nid ops e ⟨d,.box t x,ty,p,af,none⟩ H=.op (Jj P nid (CR md d) t (eK e x) H):=rfl
@[go_sem] theorem XT (t:TypeId)(ps:Array (Nat × Operand)):lV P md nid ops e ⟨d,.build t ps,ty,p,af,none⟩ H=.op (rK P t (ps.toList.map fun p=>(p.1,eK e p.2)) H):=rfl
@[go_sem] theorem YB (md:Nat→Bool)(H:AHeap)(d:D):NZ md H d=if md 1000001 then d else iE H d:=rfl
@[go_sem] theorem YA (md:Nat→Bool)(d:D):I7 md d=if md 1000001 then [] else dC d:=rfl
@[go_sem] theorem R8 (t:TypeId)(n:Nat)(ps:Array (Nat × Operand)):lV P md nid ops e ⟨d,.buildSlice t n ps,ty,p,af,none⟩ H =
  .op (if md 1000001 then iD P nid (CR md d) t n (ps.toList.map fun p=>(p.1,eK e p.2)) H else iD P nid (CR md d) t n (ps.toList.map fun p=>(p.1,iE H (eK e p.2))) (eT (ps.toList.flatMap fun p=>dC (eK e p.2)) H)):=by
 show SOut.op (iD P nid (CR md d) t n (ps.toList.map fun p=>(p.1,NZ md H (eK e p.2))) (eT (ps.toList.flatMap fun p=>I7 md (eK e p.2)) H))=_
 congr 1
 cases h:md 1000001
 ·simp [NZ,I7,h]
 ·simp only [NZ,I7,h,if_true]
  rw [show (ps.toList.flatMap fun _=>([]:List Nat))=[] by induction ps.toList with|nil=>rfl|cons a l ih=>simp];rfl
@[go_sem] theorem YM (t:TypeId)(x:Operand):lV P md nid ops e ⟨d,.load t x,ty,p,af,none⟩ H=.op (mO P t (eK e x) H):=rfl
@[go_sem] theorem XO (t:TypeId)(x y:Operand):lV P md nid ops e ⟨d,.store t x y,ty,p,af,none⟩ H =
  .op (if md 1000000 then kP P t (eK e x) (iE H (eK e y)) (eT (dC (eK e y)) H) else kP P t (eK e x) (eK e y) H):=rfl
@[go_sem] theorem TT (x:Operand):lV P md nid ops e ⟨d,.nilCheck x,ty,p,af,none⟩ H=.op (iQ (eK e x) H):=rfl
@[go_sem] theorem XU (b:BinOp)(t t':TypeId)(x y:Operand):lV P md nid ops e ⟨d,.binOp b t x y t',ty,p,af,none⟩ H=.op (qA (md 2000000) P t b (eK e x) (eK e y) H):=rfl
@[go_sem] theorem XJ (w:Bool)(P:Program)(t:TypeId)(x y:D)(H:AHeap):qA w P t .add x y H=F5 P t .add x y H:=by cases w<;>rfl
@[go_sem] theorem XB (w:Bool)(P:Program)(t:TypeId)(x y:D)(H:AHeap):qA w P t .mul x y H=F5 P t .mul x y H:=by cases w<;>rfl
@[go_sem] theorem Xy (w:Bool)(P:Program)(t:TypeId)(x y:D)(H:AHeap):qA w P t .quo x y H=F5 P t .quo x y H:=by cases w<;>rfl
@[go_sem] theorem Xx (w:Bool)(P:Program)(t:TypeId)(x y:D)(H:AHeap):qA w P t .rem x y H=F5 P t .rem x y H:=by cases w<;>rfl
@[go_sem] theorem XH (w:Bool)(P:Program)(t:TypeId)(x y:D)(H:AHeap):qA w P t .eql x y H=F5 P t .eql x y H:=by cases w<;>rfl
@[go_sem] theorem XA (w:Bool)(P:Program)(t:TypeId)(x y:D)(H:AHeap):qA w P t .neq x y H=F5 P t .neq x y H:=by cases w<;>rfl
@[go_sem] theorem XC (w:Bool)(P:Program)(t:TypeId)(x y:D)(H:AHeap):qA w P t .lss x y H=F5 P t .lss x y H:=by cases w<;>rfl
@[go_sem] theorem XD (w:Bool)(P:Program)(t:TypeId)(x y:D)(H:AHeap):qA w P t .leq x y H=F5 P t .leq x y H:=by cases w<;>rfl
@[go_sem] theorem XE (w:Bool)(P:Program)(t:TypeId)(x y:D)(H:AHeap):qA w P t .gtr x y H=F5 P t .gtr x y H:=by cases w<;>rfl
@[go_sem] theorem XF (w:Bool)(P:Program)(t:TypeId)(x y:D)(H:AHeap):qA w P t .geq x y H=F5 P t .geq x y H:=by cases w<;>rfl
@[go_sem] theorem XI (w:Bool)(P:Program)(t:TypeId)(x y:D)(H:AHeap):qA w P t .and x y H=F5 P t .and x y H:=by cases w<;>rfl
@[go_sem] theorem Xw (w:Bool)(P:Program)(t:TypeId)(x y:D)(H:AHeap):qA w P t .shr x y H=F5 P t .shr x y H:=by cases w<;>rfl
@[go_sem] theorem Xz (P:Program)(t:TypeId)(op:BinOp)(x y:D)(H:AHeap):qA false P t op x y H=F5 P t op x y H:=by cases op<;>cases x<;>cases y<;>rfl
@[go_sem] theorem Xv (P:Program)(t:TypeId)(k k':IntKind)(a b:Int)(H:AHeap):qA true P t .sub (.int k a) (.int k' b) H=⟨k=k',True,.int k (k.wrap (a - b)),H⟩:=rfl
@[go_sem] theorem YJ (u:UnOp)(t:TypeId)(x:Operand):lV P md nid ops e ⟨d,.unOp u t x,ty,p,af,none⟩ H=.op (RB u (eK e x) H):=rfl
@[go_sem] theorem Vk (s t:TypeId)(x:Operand):lV P md nid ops e ⟨d,.convert s t x,ty,p,af,none⟩ H=.op (lS P s t (eK e x) H):=rfl
@[go_sem] theorem TU (f:FuncId)(caps:Array Operand):lV P md nid ops e ⟨d,.makeFunc (.func f) #[] caps,ty,p,af,none⟩ H=.op ⟨True,True,.fn f (caps.toList.map (eK e)),H⟩:=rfl
@[go_sem] theorem S9 (t:TypeId)(l c:Operand):lV P md nid ops e ⟨d,.makeSlice t l c,ty,p,af,none⟩ H=.op (Bv P nid t (eK e l) (eK e c) H):=rfl
@[go_sem] theorem XP (t:TypeId)(x:Operand)(lo hi:Option Operand):lV P md nid ops e ⟨d,.slice t x lo hi none,ty,p,af,none⟩ H=.op (oU P t (eK e x) (lo.map (eK e)) (hi.map (eK e)) H):=rfl
@[go_sem] theorem Tb (t:TypeId)(x:Operand)(f:Nat):lV P md nid ops e ⟨d,.fieldAddr t x f,ty,p,af,none⟩ H=.op (gS P t (eK e x) f H):=rfl
@[go_sem] theorem Ta (t:TypeId)(x i:Operand):lV P md nid ops e ⟨d,.indexAddr t x i,ty,p,af,none⟩ H=.op (gQ P t (eK e x) (eK e i) H):=rfl
@[go_sem] theorem XQ (t:TypeId)(x i:Operand):lV P md nid ops e ⟨d,.index t x i,ty,p,af,none⟩ H=.op (rJ P t (eK e x) (eK e i) H):=rfl
@[go_sem] theorem Vj (x:Operand)(i:Nat):lV P md nid ops e ⟨d,.extract x i,ty,p,af,none⟩ H=.op (lR (eK e x) i H):=rfl
@[go_sem] theorem Vl (b:Builtin)(args:Array Operand)(ts:Array TypeId):lV P md nid ops e ⟨d,.call ⟨.builtin b,args,ts⟩,ty,p,af,none⟩ H=.op (uC P nid b (args.toList.map (eK e)) ts.toList H):=rfl
@[go_sem] theorem YN (f:FuncId)(args:Array Operand)(ts:Array TypeId):lV P md nid ops e ⟨d,.call ⟨.value (.func f),args,ts⟩,ty,p,af,none⟩ H=.call f (args.toList.map (eK e)):=by
 simp [lV,f7,eK,Ig]
end
@[go_sem] theorem U5 (P:Program)(md:Nat→Bool)(ops:Array Oper)(rest:List Oper)(e:c7)(H:AHeap)(K:c7→AHeap→Prop)(d:Option Tmp)(op:Op)(ty:TypeId)(p:String)(af:Array Edge)(g:Option (Nat × Bool)) :
  lQ P md ops (⟨d,op,ty,p,af,g⟩ :: rest) e H K=xK P md ops rest e d H K (lV P md H.next ops e ⟨d,op,ty,p,af,g⟩ H):=PZ P md ops _ rest e H K
/-! ### code -/
section
variable (P:Program) (c:Cfg) (Q:Exit→c7→AHeap→Prop) (e:c7) (H:AHeap)
def vK (P:Program)(c:Cfg)(a b:Code)(Q:Exit→c7→AHeap→Prop)(e:c7)(H:AHeap):D→Prop
 | .bool t=>(t=true→mZ P c a Q e H)∧(t=false→mZ P c b Q e H)
 | _=>False
def w4 (P:Program)(c:Cfg)(b:Code)(Q:Exit→c7→AHeap→Prop)(e:c7)(H:AHeap):Prop:=mZ P c (.loop b) Q e H
@[go_sem] theorem YD:mZ P c .skip Q e H=Q .normal e H:=rfl
@[go_sem] theorem V3 (id:Nat)(l:List Oper):mZ P c (.region id l.toArray false) Q e H=lQ P c.own l.toArray l e H (Q .normal):=by
 simp [mZ]
@[go_sem] theorem YG (id:Nat)(l:List Oper):mZ P c (.region id l.toArray true) Q e H=jL P c.own l.toArray (c.sp id) H.next 0 l [] e ⟨H.next+l.length,H.al,H.get⟩ (Q .normal):=by
 simp [mZ]
@[go_sem] theorem Zo (a b:Code):mZ P c (.seq a b) Q e H=mZ P c a (qL (mZ P c b Q) Q) e H:=rfl
@[go_sem] theorem YH (x:Operand)(a b:Code):mZ P c (.cond x a b) Q e H=vK P c a b Q e H (eK e x):=rfl
@[go_sem] theorem XL (id:Nat)(b:Code):mZ P c (.block id b) Q e H=mZ P c b (Ak id Q) e H:=rfl
@[go_sem] theorem YE (b:Code):mZ P c (.loop b) Q e H=w4 P c b Q e H:=rfl
@[go_sem] theorem YF (id:Nat):mZ P c (.exit id) Q e H=Q (.exit id) e H:=rfl
@[go_sem] theorem Zp:mZ P c .ret Q e H=Q .ret e H:=rfl
@[go_sem] theorem UU (a b:Code):vK P c a b Q e H (.bool true)=mZ P c a Q e H:=by simp [vK]
@[go_sem] theorem Tx (a b:Code):vK P c a b Q e H (.bool false)=mZ P c b Q e H:=by simp [vK]
@[go_sem] theorem RY (n:c7→AHeap→Prop):qL n Q .normal e H=n e H:=rfl
@[go_sem] theorem Vb (n:c7→AHeap→Prop):qL n Q .ret e H=Q .ret e H:=rfl
@[go_sem] theorem TN (n:c7→AHeap→Prop)(i:Nat):qL n Q (.exit i) e H=Q (.exit i) e H:=rfl
@[go_sem] theorem RN (i:Nat):Ak i Q .normal e H=Q .normal e H:=rfl
@[go_sem] theorem UZ (i:Nat):Ak i Q .ret e H=Q .ret e H:=rfl
@[go_sem] theorem Lg (i j:Nat):Ak i Q (.exit j) e H=if j=i then Q .normal e H else Q (.exit j) e H:=rfl
@[go_sem] theorem WF (rs:List ResultVar)(R:D→AHeap→Prop):OJ P rs R .ret e H=Bt P rs e H fun l=>R (D0 l) H:=rfl
@[go_sem] theorem Tc (rs:List ResultVar)(R:D→AHeap→Prop):OJ P rs R .normal e H=Bt P rs e H fun l=>R (D0 l) H:=rfl
@[go_sem] theorem Xu (K:List D→Prop):Bt P [] e H K=K []:=rfl
@[go_sem] theorem Xt (t:Tmp)(r:List ResultVar)(K:List D→Prop):Bt P (.tmp t :: r) e H K=Bt P r e H fun l=>K (e t :: l):=rfl
@[go_sem] theorem VY (a:Tmp)(t:TypeId)(r:List ResultVar)(K:List D→Prop):Bt P (.cell a t :: r) e H K=((mO P t (e a) H).cond∧Bt P r e H fun l=>K ((mO P t (e a) H).val :: l)):=rfl
@[go_sem] theorem V8 (d:D):D0 [d]=d:=rfl
end
attribute [go_sem] if_true if_false dV Bool.true_eq_false eq_self true_and and_true forall_const true_implies false_implies rS i6 List.toList_toArray dK Option.map_none
 List.flatMap_nil vU gJ eX mH bW implies_true
attribute [go_sem] GN F5 mO kP dS gS gQ Dx jM oC Bv Jj vB rK iD oU rJ lS xY sV Bu iQ RB lR Cy uC sW rH eT AOut.bad
 mR fU D.cells zI BK.place RI ite_self
@[go_sem] theorem Yr (id:Nat):AHeap.emp.get id=none:=rfl
@[go_sem] theorem WT:AHeap.emp.next=0:=rfl
@[go_sem] theorem Xb (H:AHeap)(i j:Nat)(k:Blk):(H.push i k).get j=if j=i then some k else H.get j:=rfl
@[go_sem] theorem Yp (H:AHeap)(i j:Nat)(k:Blk):(H.put i k).get j=if j=i then some k else H.get j:=rfl
@[go_sem] theorem VE (H:AHeap)(i:Nat)(k:Blk):(H.push i k).next=if i<H.next then H.next else i+1:=rfl
@[go_sem] theorem WR (H:AHeap)(i:Nat)(k:Blk):(H.put i k).next=H.next:=rfl
@[go_sem] theorem pE (n:Nat)(al:Nat→Prop)(g:Nat→Option Blk)(j:Nat):(AHeap.mk n al g).get j=g j:=rfl
@[go_sem] theorem VF (n:Nat)(al:Nat→Prop)(g:Nat→Option Blk):(AHeap.mk n al g).next=n:=rfl
section
variable (H:AHeap)
@[go_sem] theorem WB (k:IntKind)(n:Int):eQ H (.int k n)=.int k n:=rfl
@[go_sem] theorem Vx (b:Bool):eQ H (.bool b)=.bool b:=rfl
@[go_sem] theorem Wy (b:ByteArray):eQ H (.str b)=.str b:=rfl
@[go_sem] theorem WA:eQ H .nil=.nil:=rfl
@[go_sem] theorem Vw (es:List (List D)):eQ H (.list es)=.list es:=rfl
@[go_sem] theorem WC (es:List D):eQ H (.adr es)=.adr es:=rfl
@[go_sem] theorem Vu:eQ H .nilp=.nilp:=rfl
@[go_sem] theorem Vv:eQ H .nilf=.nilf:=rfl
@[go_sem] theorem XY (f:FuncId)(l:List D):eQ H (.fn f l)=.fn f l:=rfl
@[go_sem] theorem Wz (id n:Nat):eQ H (.own id n)=match H.get id with|some k=>if k.es.length=n then .list k.es else .own id n|none=>.own id n:=rfl
@[go_sem] theorem Wx (id n lo hi:Nat):eQ H (.win id n lo hi)=match H.get id with|some k=>if k.es.length=n then .list ((k.es.take hi).drop lo) else .win id n lo hi|none=>.win id n lo hi:=rfl
@[go_sem] theorem Wp (id n lo hi:Nat):iE H (.win id n lo hi)=eQ H (.win id n lo hi):=rfl
@[go_sem] theorem Wg (id n lo hi:Nat):o9 H (.win id n lo hi)=eQ H (.win id n lo hi):=rfl
@[go_sem] theorem Wu (k:IntKind)(n:Int):iE H (.int k n)=.int k n:=rfl
@[go_sem] theorem Vt (b:Bool):iE H (.bool b)=.bool b:=rfl
@[go_sem] theorem Wq (b:ByteArray):iE H (.str b)=.str b:=rfl
@[go_sem] theorem Wt:iE H .nil=.nil:=rfl
@[go_sem] theorem Vs (es:List (List D)):iE H (.list es)=.list es:=rfl
@[go_sem] theorem Ww (es:List D):iE H (.adr es)=.adr es:=rfl
@[go_sem] theorem Vq:iE H .nilp=.nilp:=rfl
@[go_sem] theorem Vr:iE H .nilf=.nilf:=rfl
@[go_sem] theorem XX (f:FuncId)(l:List D):iE H (.fn f l)=.fn f l:=rfl
@[go_sem] theorem Wv (l:List D):iE H (.agg l)=.agg (l.map (eQ H)):=rfl
@[go_sem] theorem Ws (id n:Nat):iE H (.own id n)=eQ H (.own id n):=rfl
@[go_sem] theorem Wi (l:List D):o9 H (.tup l)=.tup (l.map (iE H)):=rfl
@[go_sem] theorem Wm (k:IntKind)(n:Int):o9 H (.int k n)=.int k n:=rfl
@[go_sem] theorem Vp (b:Bool):o9 H (.bool b)=.bool b:=rfl
@[go_sem] theorem Wj (b:ByteArray):o9 H (.str b)=.str b:=rfl
@[go_sem] theorem Wl:o9 H .nil=.nil:=rfl
@[go_sem] theorem Vo (es:List (List D)):o9 H (.list es)=.list es:=rfl
@[go_sem] theorem Wo (es:List D):o9 H (.adr es)=.adr es:=rfl
@[go_sem] theorem Vm:o9 H .nilp=.nilp:=rfl
@[go_sem] theorem Vn:o9 H .nilf=.nilf:=rfl
@[go_sem] theorem XW (f:FuncId)(l:List D):o9 H (.fn f l)=.fn f l:=rfl
@[go_sem] theorem Wn (l:List D):o9 H (.agg l)=.agg (l.map (eQ H)):=rfl
@[go_sem] theorem Wk (id n:Nat):o9 H (.own id n)=eQ H (.own id n):=rfl
end
@[go_sem] theorem W5 (k:IntKind)(n:Int):jZ (.int k n)=[]:=rfl
@[go_sem] theorem VL (b:Bool):jZ (.bool b)=[]:=rfl
@[go_sem] theorem W1 (b:ByteArray):jZ (.str b)=[]:=rfl
@[go_sem] theorem W4:jZ .nil=[]:=rfl
@[go_sem] theorem VK (es:List (List D)):jZ (.list es)=[]:=rfl
@[go_sem] theorem W6 (es:List D):jZ (.adr es)=[]:=rfl
@[go_sem] theorem VI:jZ .nilp=[]:=rfl
@[go_sem] theorem VJ:jZ .nilf=[]:=rfl
@[go_sem] theorem Yi (f:FuncId)(l:List D):jZ (.fn f l)=[]:=rfl
@[go_sem] theorem W0 (id n lo hi:Nat):jZ (.win id n lo hi)=[id]:=rfl
@[go_sem] theorem T1 (id n lo hi:Nat):dC (.win id n lo hi)=[id]:=rfl
@[go_sem] theorem W2 (id n:Nat):jZ (.own id n)=[id]:=rfl
@[go_sem] theorem T7 (k:IntKind)(n:Int):dC (.int k n)=[]:=rfl
@[go_sem] theorem Tg (b:Bool):dC (.bool b)=[]:=rfl
@[go_sem] theorem T2 (b:ByteArray):dC (.str b)=[]:=rfl
@[go_sem] theorem T6:dC .nil=[]:=rfl
@[go_sem] theorem Tf (es:List (List D)):dC (.list es)=[]:=rfl
@[go_sem] theorem T9 (es:List D):dC (.adr es)=[]:=rfl
@[go_sem] theorem Td:dC .nilp=[]:=rfl
@[go_sem] theorem Te:dC .nilf=[]:=rfl
@[go_sem] theorem VB (f:FuncId)(l:List D):dC (.fn f l)=[]:=rfl
@[go_sem] theorem T5 (id n:Nat):dC (.own id n)=[id]:=rfl
@[go_sem] theorem T8 (l:List D):dC (.agg l)=l.flatMap jZ:=rfl
@[go_sem] theorem Xc (H:AHeap)(id:Nat):H.frz id=match H.get id with|some k=>H.put id { k with fz:=true } | none=>H:=rfl
@[go_sem] theorem WH (H:AHeap)(id:Nat)(k k':Blk):(H.push id k).put id k'=H.push id k':=by
 unfold AHeap.push AHeap.put
 congr 1
 funext i
 by_cases h:i=id<;>simp [h]
@[go_sem] theorem X0 (H:AHeap)(id:Nat)(k k':Blk):(H.put id k).put id k'=H.put id k':=by
 unfold AHeap.put
 congr 1
 funext i
 by_cases h:i=id<;>simp [h]
section
variable {P:Program} {c:Cfg} {Q:Exit→c7→AHeap→Prop} {e:c7} {H:AHeap} {a b:Code}
theorem aP {t:Bool}(h1:t=true→mZ P c a Q e H)(h2:t=false→mZ P c b Q e H):vK P c a b Q e H (.bool t):=⟨h1,h2⟩
theorem gB {p:Prop}[Decidable p](h1:p→mZ P c a Q e H)(h2:¬ p→mZ P c b Q e H):vK P c a b Q e H (.bool (decide p)):=⟨fun h=>h1 (of_decide_eq_true h),fun h=>h2 (of_decide_eq_false h)⟩
end
attribute [irreducible] vK dO xJ w4
end Go.Abs
end
section
namespace Go.Abs
section
variable {P:Program} {c:Cfg} {md:Nat→Bool}
theorem F1 {dr : Option Nat} {nid : Nat} {ops : Array Oper} {e : c7} {o : Oper} {H : AHeap} {K K' : D → AHeap → List Nat → Prop} (hk : ∀ v H F, K v H F → K' v H F) (h : oB P md dr nid ops e o H K) : oB P md dr nid ops e o H K' := by
  unfold oB at h ⊢
  cases hg : o.guard with
  | none =>
    simp only [hg] at h ⊢
    cases hc : f7 e o with
    | none => simp only [hc] at h ⊢; exact ⟨h.1, fun hf => hk _ _ _ (h.2 hf)⟩
    | some p =>
      obtain ⟨f, args⟩ := p
      simp only [hc] at h ⊢
      cases dr with
      | none => exact h.mono fun _ _ h => hk _ _ _ h
      | some m =>
        rcases h with ⟨r, S, h1, h2⟩ | ⟨hmd, r, S, u, q, hu, hq, h1, h2⟩
        · exact .inl ⟨r, S, h1, hk _ _ _ h2⟩
        · exact .inr ⟨hmd, r, S, u, q, hu, hq, h1, hk _ _ _ h2⟩
  | some p =>
    obtain ⟨j, b⟩ := p
    simp only [hg] at h ⊢
    cases hgd : gD ops e j with
    | none => simp only [hgd] at h
    | some gc =>
      obtain ⟨g, c'⟩ := gc
      simp only [hgd] at h ⊢
      refine ⟨h.1, ?_⟩
      have h2 := h.2
      cases hc : f7 (gE e o.op) o with
      | none => simp only [hc] at h2 ⊢; exact ⟨h2.1, fun hf => hk _ _ _ (h2.2 hf)⟩
      | some p =>
        obtain ⟨f, args⟩ := p
        simp only [hc] at h2 ⊢
        cases dr with
        | some _ => obtain ⟨r, S, h3, h4⟩ := h2; exact ⟨r, S, h3, hk _ _ _ h4⟩
        | none =>
          rcases h2 with ⟨r, S, h3, h4⟩ | ⟨h3, h4⟩
          · exact .inl ⟨r, S, h3, hk _ _ _ h4⟩
          · exact .inr ⟨fun hq => (h3 hq).mono fun _ _ h => hk _ _ _ h, fun hq => (h4 hq).imp fun _ h => hk _ _ _ h⟩
theorem HW {ops:Array Oper}{K K':c7→AHeap→Prop}(hk:∀ e H,K e H→K' e H):∀ (l:List Oper) (e:c7) (H:AHeap),lQ P md ops l e H K→lQ P md ops l e H K'
 | [],e,H,h=>hk _ _ h
 | o :: l,e,H,h=>by
  unfold lQ at h ⊢
  exact F1 (fun v H' _ h=>HW hk l _ _ h) h
theorem F7 {ops:Array Oper}{sp:List (Nat × Nat)}{n0:Nat}{K K':c7→AHeap→Prop}(hk:∀ e H,K e H→K' e H):∀ (l:List Oper) (i:Nat) (acc:List (Nat × List Nat)) (e:c7) (H:AHeap),
  jL P md ops sp n0 i l acc e H K→jL P md ops sp n0 i l acc e H K'
 | [],i,acc,e,H,h=>by unfold jL at h ⊢;exact hk _ _ h
 | o :: l,i,acc,e,H,h=>by
  unfold jL at h ⊢
  exact F1 (fun v H' _ h=>⟨h.1,F7 hk l _ _ _ _ h.2⟩) h
theorem uH {n n':c7→AHeap→Prop}{Q Q':Exit→c7→AHeap→Prop}(hn:∀ e H,n e H→n' e H)(hq:∀ x e H,Q x e H→Q' x e H):∀ x e H,qL n Q x e H→qL n' Q' x e H:=by
 intro x e H h
 cases x<;>first|exact hn _ _ h|exact hq _ _ _ h
theorem Lf {i:Nat}{Q Q':Exit→c7→AHeap→Prop}(hq:∀ x e H,Q x e H→Q' x e H):∀ x e H,Ak i Q x e H→Ak i Q' x e H:=by
 intro x e H h
 cases x<;>first|exact hq _ _ _ h|skip
 rename_i j
 rw [Lg] at h ⊢
 split at h
 ·rename_i hj;rw [if_pos hj];exact hq _ _ _ h
 ·rename_i hj;rw [if_neg hj];exact hq _ _ _ h
theorem pL:∀ (x:Code) {Q Q':Exit→c7→AHeap→Prop} (hq:∀ x e H,Q x e H→Q' x e H) (e:c7) (H:AHeap),mZ P c x Q e H→mZ P c x Q' e H
 | .skip,Q,Q',hq,e,H,h=>hq _ _ _ h
 | .region id ops dr,Q,Q',hq,e,H,h=>by
  unfold mZ at h ⊢
  cases dr with
  | false=>simp only [dV,if_false] at h ⊢;exact HW (fun e H h=>hq _ _ _ h) _ _ _ h
  | true=>simp only [if_true] at h ⊢;exact F7 (fun e H h=>hq _ _ _ h) _ _ _ _ _ h
 | .seq a b,Q,Q',hq,e,H,h=>by
  unfold mZ at h ⊢
  exact pL a (uH (fun e H h=>pL b hq e H h) hq) e H h
 | .cond x a b,Q,Q',hq,e,H,h=>by
  unfold mZ at h ⊢
  cases hv:eK e x<;>simp only [hv] at h ⊢<;>try (exact h.elim)
  exact ⟨fun ht=>pL a hq e H (h.1 ht),fun ht=>pL b hq e H (h.2 ht)⟩
 | .block id b,Q,Q',hq,e,H,h=>by
  unfold mZ at h ⊢
  exact pL b (Lf hq) e H h
 | .loop b,Q,Q',hq,e,H,h=>by
  unfold mZ at h ⊢
  obtain ⟨I,h0,hI⟩:=h
  exact ⟨I,h0,fun k e' H' hi=>pL b (uH (fun _ _ h=>h) hq) _ _ (hI k e' H' hi)⟩
 | .exit id,Q,Q',hq,e,H,h=>hq _ _ _ h
 | .ret,Q,Q',hq,e,H,h=>hq _ _ _ h
 | .rangeFunc ..,Q,Q',hq,e,H,h=>h.elim
 | .scope ..,Q,Q',hq,e,H,h=>h.elim
 | .label ..,Q,Q',hq,e,H,h=>h.elim
 | .goto ..,Q,Q',hq,e,H,h=>h.elim
 | .refuse ..,Q,Q',hq,e,H,h=>h.elim
theorem f9 {b:Code}{Q:Exit→c7→AHeap→Prop}{e:c7}{H:AHeap}{ι:Type}(I:ι→c7→AHeap→Prop)(μ:ι→Nat)(x0:ι)(h0:I x0 e H)
  (hs:∀ x e H,I x e H→mZ P c b (qL (fun e' H'=>∃ x',μ x'<μ x∧I x' e' H') Q) e H):w4 P c b Q e H:=by
 unfold w4 mZ
 refine ⟨fun k e H=>∃ x,μ x=k∧I x e H,⟨e,H,.gh (.refl H),_,x0,rfl,h0⟩,fun k e' H' ⟨x,hk,hx⟩=>pL b (uH (fun e'' H'' ⟨x',hlt,hx'⟩=>⟨e'',H'',.gh (.refl _),_,hk ▸ hlt,x',rfl,hx'⟩) fun _ _ _ h=>h) _ _ (hs x e' H' hx)⟩
theorem uQ {b:Code}{Q:Exit→c7→AHeap→Prop}{e e0:c7}{H H':AHeap}(hg:GhE e H e0 H'){ι:Type}(I:ι→c7→AHeap→Prop)(μ:ι→Nat)(x0:ι)(h0:I x0 e0 H')
  (hs:∀ x e H,I x e H→mZ P c b (qL (fun e' H'=>∃ e3 H3,GhE e' H' e3 H3∧∃ x',μ x'<μ x∧I x' e3 H3) Q) e H):w4 P c b Q e H:=by
 unfold w4 mZ
 refine ⟨fun k e H=>∃ x,μ x=k∧I x e H,⟨e0,H',hg,_,x0,rfl,h0⟩,fun k e' H' ⟨x,hk,hx⟩=>pL b (uH (fun e'' H'' ⟨e3,H3,hg3,x',hlt,hx'⟩=>⟨e3,H3,hg3,_,hk ▸ hlt,x',rfl,hx'⟩) fun _ _ _ h=>h) _ _ (hs x e' H' hx)⟩
theorem aB {ops:Array Oper}{rest:List Oper}{e:c7}{dst:Option Tmp}{K:c7→AHeap→Prop}{f:FuncId}{args:List D}{H:AHeap}{r:D}(hp:Pure P f args r)(hcl:D.clL args=true)
  (h:lQ P md ops rest (kY e dst r) H K):dO P md ops rest e dst K f args H:=by unfold dO;exact qB hp hcl h
theorem iC {ops:Array Oper}{rest:List Oper}{e:c7}{dst:Option Tmp}{K:c7→AHeap→Prop}{f:FuncId}{args args':List D}{H:AHeap}{r:D}(hp:Pure P f args' r)(ha:args.map (iE H)=args')(hcl:D.clL args'=true)(hf:r.flat=true)
  (h:lQ P md ops rest (kY e dst r) H K):dO P md ops rest e dst K f args H:=by subst ha;unfold dO;exact vC hp hcl hf h
theorem pI {ops:Array Oper}{rest:List Oper}{e:c7}{dst:Option Tmp}{K:c7→AHeap→Prop}{f:FuncId}{args args':List D}{H H':AHeap}{r:D}(hp:Pure P f args' r)(ha:args.map (iE H)=args')(hcl:D.clL args'=true)
  (hz:eT (args.flatMap dC) H=H') (h:lQ P md ops rest (kY e dst r) H' K):dO P md ops rest e dst K f args H:=by subst ha;subst hz;unfold dO;exact Jo hp hcl h
theorem kC {ops:Array Oper}{rest:List Oper}{e:c7}{dst:Option Tmp}{K:c7→AHeap→Prop}{f:FuncId}{args:List D}{H:AHeap}{ty:TypeId}{sz:Nat}{es:List (List D)}(hp:Own P f args ty sz es)(hcl:D.clL args=true)
  (h:lQ P md ops rest (kY e dst (.own H.next es.length)) (H.push H.next ⟨ty,sz,es,false⟩) K):dO P md ops rest e dst K f args H:=by unfold dO;exact Ly hp hcl h
end
end Go.Abs
end
section
namespace Go.Abs
def rC (P:Program)(md:Nat→Bool)(ops:Array Oper)(sp:List (Nat × Nat))(n0 i:Nat)(rest:List Oper)(acc:List (Nat × List Nat))(e:c7)(dst:Option Tmp)(K:c7→AHeap→Prop)(f:FuncId)(args:List D)(H:AHeap):Prop :=
 (∃ r S,(∀ H',fD S H' H→ACalls P f args H' fun v H1=>v=r∧H1=H')∧Dr sp i S acc∧jL P md ops sp n0 (i+1) rest ((i,S) :: acc) (kY e dst r) H K) ∨
 (CR md dst=true∧∃ r S u q,(∀ p∈u,p.1∈S)∧(∀ p∈q,p.1<n0∧¬ H.al p.1)∧(∀ H',fD S H' H→(∀ p∈q,p.1<H'.next∧¬ H'.al p.1)→ACalls P f args H' fun v H1=>v=r∧H1=(H'.puts u).pushs q) ∧
  Dr sp i (S++q.map (·.1)) acc∧jL P md ops sp n0 (i+1) rest ((i,S++q.map (·.1)) :: acc) (kY e dst r) ((H.puts u).pushs q) K)
def sH (P:Program)(md:Nat→Bool)(ops:Array Oper)(sp:List (Nat × Nat))(n0 i:Nat)(rest:List Oper)(acc:List (Nat × List Nat))(e:c7)(dst:Option Tmp)(K:c7→AHeap→Prop)(t:Bool)(f:FuncId)(args:List D)(H:AHeap):Prop :=
 ∃ r S,(t=true→∀ H',fD S H' H→ACalls P f args H' fun v H1=>v=r∧H1=H')∧Dr sp i S acc∧jL P md ops sp n0 (i+1) rest ((i,S) :: acc) (kY e dst (.opt t r)) H K
def Hx (nid:Nat)(e:c7)(o:Oper):List Nat:=foot nid (match o.guard with|none=>e|some _=>gE e o.op) o.op
def rB (P:Program)(md:Nat→Bool)(ops:Array Oper)(sp:List (Nat × Nat))(n0 i:Nat)(rest:List Oper)(acc:List (Nat × List Nat))(e:c7)(dst:Option Tmp)(H:AHeap)(K:c7→AHeap→Prop)(F:List Nat):SOut→Prop
 | .op o=>o.cond∧Dr sp i F acc∧jL P md ops sp n0 (i+1) rest ((i,F) :: acc) (kY e dst o.val) o.heap K
 | .call f args=>rC P md ops sp n0 i rest acc e dst K f args H
 | .gop t g o=>(t=true→g=true)∧(t=true→o.cond∧o.heap=H)∧Dr sp i F acc∧jL P md ops sp n0 (i+1) rest ((i,F) :: acc) (kY e dst (.opt t o.val)) H K
 | .gcall t g f args=>(t=true→g=true)∧sH P md ops sp n0 i rest acc e dst K t f args H
 | .bad=>False
theorem M6 (P : Program) (md : Nat → Bool) (ops : Array Oper) (sp : List (Nat × Nat)) (n0 i : Nat) (o : Oper) (rest : List Oper) (acc : List (Nat × List Nat)) (e : c7) (H : AHeap) (K : c7 → AHeap → Prop) :
    jL P md ops sp n0 i (o :: rest) acc e H K = rB P md ops sp n0 i rest acc e o.dst H K (Hx (n0 + i) e o) (lV P md (n0 + i) ops e o H) := by
  obtain ⟨dst, op, type, pos, after, guard⟩ := o
  cases guard with
  | none =>
    simp only [jL, oB, lV, Hx]
    cases hc : f7 e { dst := dst, op := op, type := type, pos := pos, after := after, guard := none } with
    | none => simp [Ig, rB]
    | some p => simp [Ig, rB, rC]
  | some p =>
    obtain ⟨j, b⟩ := p
    simp only [jL, oB, lV, Hx]
    cases hg : gD ops e j with
    | none => simp [Gj, rB]
    | some gc =>
      obtain ⟨t, c'⟩ := gc
      simp only
      cases hc : f7 (gE e op) { dst := dst, op := op, type := type, pos := pos, after := after, guard := some (j, b) } with
      | none => simp [Gj, rB]
      | some p => simp [Gj, rB, sH]
@[go_sem] theorem U6 (P:Program)(md:Nat→Bool)(ops:Array Oper)(sp:List (Nat × Nat))(n0 i:Nat)(acc:List (Nat × List Nat))(e:c7)(H:AHeap)(K:c7→AHeap→Prop):jL P md ops sp n0 i [] acc e H K=K e H:=rfl
section
variable (P:Program) (md:Nat→Bool) (ops:Array Oper) (sp:List (Nat × Nat)) (n0 i:Nat) (rest:List Oper) (acc:List (Nat × List Nat)) (e:c7) (dst:Option Tmp) (H H':AHeap) (K:c7→AHeap→Prop) (F:List Nat) (c f:Prop) (v:D) (t g:Bool) (fn:FuncId) (args:List D)
@[go_sem] theorem VT:rB P md ops sp n0 i rest acc e dst H K F (.op ⟨c,f,v,H'⟩)=(c∧Dr sp i F acc∧jL P md ops sp n0 (i+1) rest ((i,F) :: acc) (kY e dst v) H' K):=rfl
@[go_sem] theorem Tv:rB P md ops sp n0 i rest acc e dst H K F (.call fn args)=rC P md ops sp n0 i rest acc e dst K fn args H:=rfl
@[go_sem] theorem UR:rB P md ops sp n0 i rest acc e dst H K F (.gop t g ⟨c,f,v,H'⟩) =
  ((t=true→g=true)∧(t=true→c∧H'=H)∧Dr sp i F acc∧jL P md ops sp n0 (i+1) rest ((i,F) :: acc) (kY e dst (.opt t v)) H K):=rfl
@[go_sem] theorem SM:rB P md ops sp n0 i rest acc e dst H K F (.gcall t g fn args)=((t=true→g=true)∧sH P md ops sp n0 i rest acc e dst K t fn args H):=rfl
@[go_sem] theorem TG (d:Option Tmp)(op:Op)(ty:TypeId)(p:String)(af:Array Edge)(gu:Option (Nat × Bool)) :
  jL P md ops sp n0 i (⟨d,op,ty,p,af,gu⟩ :: rest) acc e H K=rB P md ops sp n0 i rest acc e d H K (Hx (n0+i) e ⟨d,op,ty,p,af,gu⟩) (lV P md (n0+i) ops e ⟨d,op,ty,p,af,gu⟩ H):=M6 P md ops sp n0 i _ rest acc e H K
@[go_sem] theorem Yy:Dr [] i F acc=True:=rfl
end
@[go_sem] theorem Xq (p:Nat × Nat)(sp:List (Nat × Nat))(i:Nat)(F:List Nat)(acc:List (Nat × List Nat)):Dr (p :: sp) i F acc = ∀ q∈acc,(q.1,i)∈(p :: sp)→∀ x∈q.2,x∉F:=rfl
@[go_sem] theorem UI (nid:Nat)(e:c7)(d:Option Tmp)(op:Op)(ty:TypeId)(p:String)(af:Array Edge):Hx nid e ⟨d,op,ty,p,af,none⟩=foot nid e op:=rfl
@[go_sem] theorem UH (nid:Nat)(e:c7)(d:Option Tmp)(op:Op)(ty:TypeId)(p:String)(af:Array Edge)(g:Nat × Bool):Hx nid e ⟨d,op,ty,p,af,some g⟩=foot nid (gE e op) op:=rfl
attribute [go_sem] foot ET pD Op.operands Call.operands
@[go_sem] theorem Uw (k:IntKind)(n:Int):dH (.int k n)=[]:=rfl
@[go_sem] theorem Tr (b:Bool):dH (.bool b)=[]:=rfl
@[go_sem] theorem Ur (b:ByteArray):dH (.str b)=[]:=rfl
@[go_sem] theorem Uv:dH .nil=[]:=rfl
@[go_sem] theorem Tp (es:List (List D)):dH (.list es)=[]:=rfl
@[go_sem] theorem Uy (es:List D):dH (.adr es)=[]:=rfl
@[go_sem] theorem Tn:dH .nilp=[]:=rfl
@[go_sem] theorem To:dH .nilf=[]:=rfl
@[go_sem] theorem VH (f:FuncId)(l:List D):dH (.fn f l)=[]:=rfl
@[go_sem] theorem Ut (id n:Nat):dH (.own id n)=[id]:=rfl
@[go_sem] theorem Up (id n lo hi:Nat):dH (.win id n lo hi)=[id]:=rfl
@[go_sem] theorem Us (id v i o:Nat):dH (.ptr id v i o)=[id]:=rfl
@[go_sem] theorem Ux (l:List D):dH (.agg l)=l.flatMap jZ:=rfl
@[go_sem] theorem Uu (t:Bool)(d:D):dH (.opt t d)=[]:=rfl
@[go_sem] theorem Tq:dH .junk=[]:=rfl
@[go_sem] theorem Uq (l:List D):dH (.tup l)=[]:=rfl
/-! ### guards -/
def gV:D→Option (Bool × Bool)
 | .bool c=>some (true,c)
 | .opt g (.bool c)=>some (g,c)
 | _=>none
def gT (e:c7):Option Tmp→Option (Bool × Bool)
 | some t=>gV (e t)
 | none=>none
@[go_sem] theorem Yt (e:c7)(t:Nat):gT e (some t)=gV (e t):=rfl
@[go_sem] theorem Ys (c:Bool):gV (.bool c)=some (true,c):=rfl
@[go_sem] theorem Za (g c:Bool):gV (.opt g (.bool c))=some (g,c):=rfl
section
variable (P:Program) (md:Nat→Bool) (nid:Nat) (ops:Array Oper) (e:c7) (d:Option Tmp) (op:Op) (ty:TypeId) (p:String) (af:Array Edge) (H:AHeap) (j:Nat) (b:Bool)
@[go_sem] theorem TS:lV P md nid ops e ⟨d,op,ty,p,af,some (j,b)⟩ H =
  Gj (gD ops e j) b (P0 e (gO op)) (f7 (gE e op) ⟨d,op,ty,p,af,none⟩) (Dv P nid md (gE e op) ⟨d,op,ty,p,af,none⟩ H):=rfl
@[go_sem] theorem Zb (l:List Oper):gD l.toArray e j=gT e ((l[j]?).bind (·.dst)):=by
 unfold gD gT
 rw [List.getElem?_toArray]
 cases (l[j]?).bind (·.dst) with
 | none=>rfl
 | some t=>simp only [gV];rfl
end
@[go_sem] theorem Vg (t c b g:Bool)(f:FuncId)(args:List D)(o:AOut):Gj (some (t,c)) b g (some (f,args)) o=.gcall (t&&(c==b)) g f args:=rfl
@[go_sem] theorem XN (t c b g:Bool)(o:AOut):Gj (some (t,c)) b g none o=.gop (t&&(c==b)) g o:=rfl
attribute [go_sem] gE gO Operand.tmp.injEq P0 og f7 Dv Option.bind_some jX F9 gL Bool.and_true beq_false beq_true beq_self_eq_true
 gJ Bool.and_self Bool.not_true Bool.not_false
@[go_sem] theorem Vd (e:c7)(d:Option Tmp)(v:D)(t:Nat):CE (kY e d v) t=match kY e d v t with | .opt _ d=>d|d=>d:=rfl
@[go_sem] theorem TQ (l:List D)(t:Nat):CE (A7 l) t=match A7 l t with | .opt _ d=>d|d=>d:=rfl
section
variable {P:Program} {md:Nat→Bool} {ops:Array Oper} {sp:List (Nat × Nat)} {n0 i:Nat} {rest:List Oper} {acc:List (Nat × List Nat)} {e:c7} {dst:Option Tmp} {K:c7→AHeap→Prop} {f:FuncId} {args args':List D} {H:AHeap} {r:D}
theorem HL:Dr sp i [] acc:=by
 unfold Dr
 cases sp with
 | nil=>trivial
 | cons=>intro p hp _ x _;simp
theorem bB (hp:Pure P f args r)(hcl:D.clL args=true)(h:jL P md ops sp n0 (i+1) rest ((i,[]) :: acc) (kY e dst r) H K):rC P md ops sp n0 i rest acc e dst K f args H :=
 .inl ⟨r,[],fun H' _=>qB hp hcl ⟨rfl,rfl⟩,HL,h⟩
theorem gW {t:Bool}(hp:t=true→Pure P f args r)(hcl:t=true→D.clL args=true)(h:jL P md ops sp n0 (i+1) rest ((i,[]) :: acc) (kY e dst (.opt t r)) H K):sH P md ops sp n0 i rest acc e dst K t f args H :=
 ⟨r,[],fun ht H' _=>qB (hp ht) (hcl ht) ⟨rfl,rfl⟩,HL,h⟩
theorem bD {t:Bool}(hp:t=true→Pure P f args r)(hcl:t=true→D.clL args=true)(h:lQ P md ops rest (kY e dst (.opt t r)) H K):xJ P md ops rest e dst K t f args H:=by
 unfold xJ
 exact .inl ⟨r,[],fun ht H' _=>qB (hp ht) (hcl ht) ⟨rfl,rfl⟩,h⟩
theorem zT {S:List Nat}{H':AHeap}(ha:fD S H' H){d:D}(hd:∀ x∈jZ d,x∈S):eQ H' d=eQ H d:=by
 cases d<;>try rfl
 ·rename_i id n
  have:=ha id (hd id (by simp [jZ]))
  simp only [eQ,this]
 ·rename_i id n lo hi
  have:=ha id (hd id (by simp [jZ]))
  simp only [eQ,this]
theorem L3 {S:List Nat}{H':AHeap}(ha:fD S H' H){d:D}(hd:∀ x∈dC d,x∈S):iE H' d=iE H d:=by
 cases d<;>try rfl
 case own id n=>exact zT (d:=.own id n) ha hd
 case win id n lo hi=>exact zT (d:=.win id n lo hi) ha hd
 case agg l =>
  simp only [iE]
  congr 1
  exact bP fun x hx=>zT ha fun y hy=>hd y (by simp only [dC,bK];exact ⟨x,hx,hy⟩)
theorem u7 {S:List Nat}{H':AHeap}(ha:fD S H' H){l:List D}(hd:∀ x∈l.flatMap dC,x∈S):l.map (iE H')=l.map (iE H) :=
 bP fun d hm=>L3 ha fun x hx=>hd x (bK.2 ⟨d,hm,hx⟩)
theorem Gz {t:Bool}(hp:t=true→Pure P f args' r)(ha:args.map (iE H)=args')(hcl:t=true→D.clL args'=true)(hf:t=true→r.flat=true){S:List Nat}(hS:args.flatMap dC=S)(hc:Dr sp i S acc)
  (h:jL P md ops sp n0 (i+1) rest ((i,S) :: acc) (kY e dst (.opt t r)) H K):sH P md ops sp n0 i rest acc e dst K t f args H:=by
 subst ha hS
 refine ⟨r,_,fun ht H' hag=>?_,hc,h⟩
 have he:=u7 hag fun x hx=>hx
 exact vC (by rw [he];exact hp ht) (by rw [he];exact hcl ht) (hf ht) ⟨rfl,rfl⟩
theorem IO {t:Bool}(hp:t=true→Pure P f args' r)(ha:args.map (iE H)=args')(hcl:t=true→D.clL args'=true)(hf:t=true→r.flat=true)
  (h:lQ P md ops rest (kY e dst (.opt t r)) H K):xJ P md ops rest e dst K t f args H:=by
 subst ha
 unfold xJ
 refine .inl ⟨r,args.flatMap dC,fun ht H' hag=>?_,h⟩
 have he:=u7 hag fun x hx=>hx
 exact vC (by rw [he];exact hp ht) (by rw [he];exact hcl ht) (hf ht) ⟨rfl,rfl⟩
end
/-! ### calls of function values -/
def NX:D→List D→Option (FuncId × List D)
 | .fn g caps,az=>some (g,az++caps)
 | _,_=>none
@[go_sem] theorem Xr (g:FuncId)(caps az:List D):NX (.fn g caps) az=some (g,az++caps):=rfl
theorem MW (e:c7)(d:Option Tmp)(f:Operand)(args:Array Operand)(ts:Array TypeId)(ty:TypeId)(p:String)(af:Array Edge)(g:Option (Nat × Bool)) :
  f7 e ⟨d,.call ⟨.value f,args,ts⟩,ty,p,af,g⟩=NX (eK e f) (args.toList.map (eK e)):=by
 simp only [f7,NX]
 cases eK e f<;>rfl
@[go_sem] theorem XR (P:Program)(md:Nat→Bool)(nid:Nat)(ops:Array Oper)(e:c7)(d:Option Tmp)(ty:TypeId)(p:String)(af:Array Edge)(H:AHeap)(t:Nat)(args:Array Operand)(ts:Array TypeId) :
  lV P md nid ops e ⟨d,.call ⟨.value (.tmp t),args,ts⟩,ty,p,af,none⟩ H=Ig (NX (e t) (args.toList.map (eK e))) (.bad H):=by
 simp only [lV,MW]
 rfl
attribute [go_sem] decide_eq_true_eq eX eY
attribute [irreducible] rC sH
end Go.Abs
end
section
namespace Go.Abs
attribute [go_sem] D.cell D.cl D.clL D.clLL D.flat D.flat1 qO pP nG List.take_zero List.drop_succ_cons List.drop_zero nH List.replicate_zero dZ List.flatten_nil
def dI (n:Int):D:=.int .i64 n
def cI (n:Int):List D:=[.int .i64 n]
def cS (s:ByteArray):List D:=[.str s]
def dLI (xs:List Int):D:=.list (xs.map cI)
def yV (xs:List ByteArray):D:=.list (xs.map cS)
structure Attr where
 name:ByteArray
 low:Int
 high:Int
 names:List ByteArray
def Attr.c (a:Attr):List D:=[.str a.name,dI a.low,dI a.high,yV a.names]
structure NodeTy where
 name:ByteArray
 parent:Int
 abs:Bool
 attrs:List Attr
def NodeTy.c (n:NodeTy):List D:=[.str n.name,dI n.parent,.bool n.abs,.list (n.attrs.map Attr.c)]
structure EdgeTy where
 name:ByteArray
 from_:Int
 to_:Int
 outLow:Int
 outHigh:Int
 inLow:Int
 inHigh:Int
def EdgeTy.c (x:EdgeTy):List D:=[.str x.name,dI x.from_,dI x.to_,dI x.outLow,dI x.outHigh,dI x.inLow,dI x.inHigh]
structure Types where
 nodes:List NodeTy
 edges:List EdgeTy
def Types.c (t:Types):List D:=[.list (t.nodes.map NodeTy.c),.list (t.edges.map EdgeTy.c)]
def Types.d (t:Types):D:=.agg t.c
structure Edge where
 type:Int
 from_:Int
 to_:Int
def Edge.c (x:Edge):List D:=[dI x.type,dI x.from_,dI x.to_]
structure Graph where
 nodes:List Int
 edges:List Edge
def Graph.c (g:Graph):List D:=[dLI g.nodes,.list (g.edges.map Edge.c)]
def Graph.d (g:Graph):D:=.agg g.c
/-! ### closed -/
theorem cE {α:Type}(f:α→List D)(h:∀ a,D.clL (f a)=true)(l:List α):D.clLL (l.map f)=true:=by
 induction l with
 | nil=>rfl
 | cons a l ih=>simp [D.clLL,h,ih]
@[go_sem] theorem mC (l:List Int):(dLI l).cl=true:=by simp only [dLI,D.cl];exact cE _ (fun _=>rfl) l
@[go_sem] theorem Rc (l:List ByteArray):(yV l).cl=true:=by simp only [yV,D.cl];exact cE _ (fun _=>rfl) l
@[go_sem] theorem Attr.cl (a:Attr):D.clL a.c=true:=by simp [Attr.c,D.clL,D.cl,dI,Rc]
@[go_sem] theorem NodeTy.cl (n:NodeTy):D.clL n.c=true:=by simp [NodeTy.c,D.clL,D.cl,dI,cE _ Attr.cl]
@[go_sem] theorem EdgeTy.cl (x:EdgeTy):D.clL x.c=true:=by simp [EdgeTy.c,D.clL,D.cl,dI]
@[go_sem] theorem Types.cl (t:Types):t.d.cl=true:=by simp [Types.d,Types.c,D.clL,D.cl,cE _ NodeTy.cl,cE _ EdgeTy.cl]
@[go_sem] theorem Edge.cl (x:Edge):D.clL x.c=true:=by simp [Edge.c,D.clL,D.cl,dI]
@[go_sem] theorem Graph.cl (g:Graph):g.d.cl=true:=by simp [Graph.d,Graph.c,D.clL,D.cl,mC,cE _ Edge.cl]
@[go_sem] theorem V7 (a b:D)(l:List D):D0 (a :: b :: l)=.tup (a :: b :: l):=rfl
end Go.Abs
end
section
namespace Go.Abs
structure Term where
 var:Int
 add:Int
def Term.c (x:Term):List D:=[dI x.var,dI x.add]
structure Slot where
 node:Int
 attr:Int
 term:Term
def Slot.c (x:Slot):List D:=[dI x.node,dI x.attr,dI x.term.var,dI x.term.add]
structure Test where
 kind:Int
 left:Term
 right:Term
def Test.c (x:Test):List D:=[dI x.kind,dI x.left.var,dI x.left.add,dI x.right.var,dI x.right.add]
structure Pattern where
 graph:Graph
 slots:List Slot
 vars:Int
 tests:List Test
def Pattern.c (p:Pattern):List D:=[dLI p.graph.nodes,.list (p.graph.edges.map Edge.c),.list (p.slots.map Slot.c),dI p.vars,.list (p.tests.map Test.c)]
def Pattern.d (p:Pattern):D:=.agg p.c
structure Part where
 nodes:List Int
 edges:List Int
def Part.c (p:Part):List D:=[dLI p.nodes,dLI p.edges]
def Part.d (p:Part):D:=.agg p.c
inductive Cond where
 | mk (kind:Int) (kids:List Cond) (map:Part) (pattern:Pattern)
def Cond.kind:Cond→Int | .mk k _ _ _=>k
def Cond.kids:Cond→List Cond | .mk _ l _ _=>l
def Cond.map:Cond→Part | .mk _ _ m _=>m
def Cond.pattern:Cond→Pattern | .mk _ _ _ p=>p
mutual
def Cond.c:Cond→List D
 | .mk k l m p=>[dI k,.list (Cond.cs l),dLI m.nodes,dLI m.edges,dLI p.graph.nodes,.list (p.graph.edges.map Edge.c),.list (p.slots.map Slot.c),dI p.vars,.list (p.tests.map Test.c)]
def Cond.cs:List Cond→List (List D)
 | []=>[]
 | c :: l=>c.c :: Cond.cs l
end
theorem Cond.cs_eq (l:List Cond):Cond.cs l=l.map Cond.c:=by
 induction l with
 | nil=>simp [Cond.cs]
 | cons a l ih=>simp [Cond.cs,ih]
theorem Cond.c_eq (x:Cond):x.c=[dI x.kind,.list (x.kids.map Cond.c),dLI x.map.nodes,dLI x.map.edges,dLI x.pattern.graph.nodes,.list (x.pattern.graph.edges.map Edge.c),.list (x.pattern.slots.map Slot.c),dI x.pattern.vars,.list (x.pattern.tests.map Test.c)]:=by
 cases x;simp [Cond.c,Cond.kind,Cond.kids,Cond.map,Cond.pattern,Cond.cs_eq]
structure Rule where
 name:ByteArray
 left:Pattern
 right:Pattern
 keep:Part
 into:Part
 inj:Bool
 cond:Cond
def Rule.c (r:Rule):List D:=[.str r.name,dLI r.left.graph.nodes,.list (r.left.graph.edges.map Edge.c),.list (r.left.slots.map Slot.c),dI r.left.vars,.list (r.left.tests.map Test.c),
 dLI r.right.graph.nodes,.list (r.right.graph.edges.map Edge.c),.list (r.right.slots.map Slot.c),dI r.right.vars,.list (r.right.tests.map Test.c),
 dLI r.keep.nodes,dLI r.keep.edges,dLI r.into.nodes,dLI r.into.edges,.bool r.inj,
 dI r.cond.kind,.list (r.cond.kids.map Cond.c),dLI r.cond.map.nodes,dLI r.cond.map.edges,dLI r.cond.pattern.graph.nodes,.list (r.cond.pattern.graph.edges.map Edge.c),.list (r.cond.pattern.slots.map Slot.c),dI r.cond.pattern.vars,.list (r.cond.pattern.tests.map Test.c)]
def Rule.d (r:Rule):D:=.agg r.c
structure Stage where
 weights:List Int
 removed:List Int
def Stage.c (s:Stage):List D:=[dLI s.weights,dLI s.removed]
@[go_sem] theorem Slot.cl (x:Slot):D.clL x.c=true:=rfl
@[go_sem] theorem Test.cl (x:Test):D.clL x.c=true:=rfl
@[go_sem] theorem Ed (l:List Slot):D.clLL (l.map Slot.c)=true:=cE _ Slot.cl l
@[go_sem] theorem JE (l:List Test):D.clLL (l.map Test.c)=true:=cE _ Test.cl l
@[go_sem] theorem Stage.cl (x:Stage):D.clL x.c=true:=by simp [Stage.c,D.clL,mC]
@[go_sem] theorem Ve (l:List Stage):D.clLL (l.map Stage.c)=true:=cE _ Stage.cl l
theorem tW (l:List Edge):D.clLL (l.map Edge.c)=true:=cE _ Edge.cl l
mutual
theorem Cond.cl:∀ x:Cond,D.clL x.c=true
 | .mk k l m p=>by
  have:=Cond.cls l
  simp [Cond.c,D.clL,D.cl,dI,mC,this,tW,Ed,JE]
theorem Cond.cls:∀ l:List Cond,D.clLL (Cond.cs l)=true
 | []=>by simp [Cond.cs,D.clLL]
 | c :: l=>by simp [Cond.cs,D.clLL,Cond.cl c,Cond.cls l]
end
attribute [go_sem] Cond.cl
@[go_sem] theorem Rd (l:List Cond):D.clLL (l.map Cond.c)=true:=by rw [← Cond.cs_eq];exact Cond.cls l
@[go_sem] theorem Rule.cl (r:Rule):D.clL r.c=true:=by
 simp [Rule.c,D.clL,D.cl,dI,mC,tW,Ed,JE,Rd]
@[go_sem] theorem We (l:List Rule):D.clLL (l.map Rule.c)=true:=cE _ Rule.cl l
end Go.Abs
end
section
namespace Go.Abs
def BQ (H:AHeap)(d:D):D :=
 match d with
 | .ptr id ver i off=>match fU H (.ptr id ver i off) with
  | some (c :: cs)=>.adr (c :: cs)
  | _=>.ptr id ver i off
 | d=>eQ H d
def QY:D→List Nat
 | .ptr id _ _ _=>[id]
 | d=>jZ d
def Dg (H:AHeap)(d:D):D :=
 match d with
 | .fn g caps=>.fn g (caps.map (BQ H))
 | .ptr id ver i off=>BQ H (.ptr id ver i off)
 | d=>iE H d
def Mp:D→List Nat
 | .fn _ caps=>caps.flatMap QY
 | .ptr id _ _ _=>[id]
 | d=>dC d
section
variable {P:Program} {M0:Nat→Prop} {H:AHeap} {σ:Nat→Option Ow} {w:World}
theorem Bh {H H':AHeap}(h:∀ i,(H'.get i).map (·.es)=(H.get i).map (·.es))(d:D):fU H' d=fU H d:=by
 cases d<;>try rfl
 rename_i id ver i off
 have:=h id
 simp only [fU]
 cases h1:H.get id<;>cases h2:H'.get id<;>rw [h1,h2] at this<;>simp at this
 ·simp only [this]
theorem wM {v : Value} {d : D} (hR : Rel M0 H σ w) (hx : RepV (cF M0 H σ) σ H.al w v d) (hf : ∀ i ∈ QY d, ∀ k, H.get i = some k → k.fz = true) :
    RepV (cF M0 H σ) σ H.al w v (BQ H d) := by
  cases d <;> try exact lF hR hx hf
  rename_i id ver i off
  simp only [BQ]
  cases hc : fU H (.ptr id ver i off) with
  | none => exact hx
  | some cs =>
    cases cs with
    | nil => exact hx
    | cons c cs =>
      obtain ⟨ad, xs, hv, hrep, h1, hcell⟩ := oY hR hx hc (by simp)
      subst hv
      have hnm : ¬ cF M0 H σ ad.block := by
        cases hk : H.get id with
        | none => simp [fU, hk] at hc
        | some k =>
          obtain ⟨o, ho, l⟩ := hR.lies id k hk
          have hver : k.es.length = ver := by
            simp only [fU, hk] at hc
            split at hc
            · assumption
            · cases hc
          cases hx
          rename_i hN h1' h
          rcases h o ho with h' | ⟨_, b, hob, hvb⟩
          · have := l.ver; omega
          · cases hvb
            rintro (hm | ⟨i', k', o', hk', hf', ho', hb'⟩)
            · exact (hR.lt id o b ho hob).2 hm
            · have hi := hR.inj i' id o' o b ho' ho hb' hob
              subst hi
              rw [hk] at hk'; cases hk'
              rw [hf i' (by simp [QY]) k hk] at hf'; cases hf'
      exact .adr ad xs _ hrep.len h1 (fun j u hu => ⟨hnm, hcell j u hu⟩) hrep.rep
theorem CK {v : Value} {d : D} (hR : Rel M0 H σ w) (hx : RepV (cF M0 H σ) σ H.al w v d) (ids : List Nat) (hi : ∀ i ∈ Mp d, i ∈ ids) :
    RepV (cF M0 (eT ids H) σ) σ (eT ids H).al w v (Dg H d) := by
  obtain ⟨h1, h2, h3, h4⟩ := eP ids hR
  have hx' := hx.keep h2
  have hfr : ∀ i ∈ ids, ∀ k, (eT ids H).get i = some k → k.fz = true := fun i hi k hk => by
    have he := (h4 i).1
    rw [hk] at he
    cases hk0 : H.get i with
    | none => rw [hk0] at he; cases he
    | some k0 =>
      obtain ⟨k', a1, a2, a3⟩ := (h4 i).2 k0 hk0 (.inr hi)
      rw [hk] at a1; cases a1; exact a2
  have hsame : ∀ d, BQ (eT ids H) d = BQ H d := fun d => by
    have hq := oL (fun i => (h4 i).1) d
    cases d with
    | ptr id ver i off => simp only [BQ, Bh (fun i => (h4 i).1)]
    | _ => exact hq
  cases d with
  | fn g caps =>
    cases hx'
    rename_i vs hl hr
    refine .fn g vs _ (by simpa using hl) fun j u x hu hx => ?_
    rw [aN, bC] at hx
    obtain ⟨y, hy, rfl⟩ := hx
    rw [← hsame y]
    refine wM h1 (hr j u y hu hy) fun i hii k hk => hfr i (hi i ?_) k hk
    simp only [Mp, bK]
    exact ⟨y, aJ hy, hii⟩
  | ptr id ver i off =>
    simp only [Dg]
    rw [← hsame]
    exact wM h1 hx' fun i hii k hk => hfr i (hi i hii) k hk
  | _ => exact lE hR hx ids hi
theorem OO {vals:List Value}{args:List D}(hR:Rel M0 H σ w)(ha:RepL (cF M0 H σ) σ H.al w vals args)(ids:List Nat)(hi:∀ i∈args.flatMap Mp,i∈ids) :
  RepL (cF M0 (eT ids H) σ) σ (eT ids H).al w vals (args.map (Dg H)) :=
 ⟨by simpa using ha.len,fun j u d hu hd=>by
  rw [aN,bC] at hd
  obtain ⟨y,hy,rfl⟩:=hd
  exact CK hR (ha.rep j u y hu hy) ids fun i hii=>hi i (bK.2 ⟨y,aJ hy,hii⟩)⟩
theorem Jq {f:FuncId}{args:List D}{r:D}{Q:D→AHeap→Prop}(hp:Pure P f (args.map (Dg H)) r)(hcl:D.clL (args.map (Dg H))=true)(hf:r.flat=true)(hQ:Q r H):ACalls P f args H Q:=by
 refine ⟨hp.1,fun M0 σ w vals hR ha=>?_⟩
 obtain ⟨f1,f2,f3,f4⟩:=eP (args.flatMap Mp) hR
 refine (hp.2 (cF M0 (eT (args.flatMap Mp) H) σ) w vals (oO f1) (fM (fun _ h=>h) (OO hR ha _ fun i h=>h) hcl)).mono fun e w' ⟨v,he,hv,hb⟩=>?_
 obtain ⟨h1,h2,h3⟩:=hR.grow hb.os hb.tape hb.output hb.size hb.block
 exact ⟨v,r,H,σ,he,h1,tS hv hf,h2,h3,hQ⟩
theorem lO {md:Nat→Bool}{ops:Array Oper}{rest:List Oper}{e:c7}{dst:Option Tmp}{K:c7→AHeap→Prop}{f:FuncId}{args args':List D}{r:D}(hp:Pure P f args' r)(ha:args.map (Dg H)=args')(hcl:D.clL args'=true)(hf:r.flat=true)
  (h:lQ P md ops rest (kY e dst r) H K):dO P md ops rest e dst K f args H:=by subst ha;unfold dO;exact Jq hp hcl hf h
end
theorem Own.pure {P:Program}{f:FuncId}{args:List D}{ty:TypeId}{sz:Nat}{es:List (List D)}(h:Own P f args ty sz es):Pure P f args (.list es):=by
 refine ⟨h.1,fun M w vals hM ha=>(h.2 M w vals hM ha).mono fun e w' ⟨v,xs,he,hrow,h1,hrep,hcl,hsz,hb⟩=>⟨v,he,?_,hb⟩⟩
 have hclF:D.clL es.flatten=true:=Bw fun d hd=>by
  obtain ⟨c,hcm,hxm⟩:=fQ.1 hd
  exact gF (mY hcl c hcm) d hxm
 have hrep':RepL M fG mV w' xs es.flatten:=fM (fun b h h'=>h (.inl h')) hrep hclF
 rcases hrow.2 with ⟨hnil,h0⟩|⟨g,cap,cur,hval,hg,hcells,hnc,hcm,hsz',htake⟩
 ·rw [hnil,aV h0];exact .listN
 ·rw [hval]
  refine .list ⟨g,0,none⟩ cap sz xs es hnc hcm hsz hrep'.len h1 (fun j u hu=>⟨fun hm=>?_,hrow.cells (g:=g) (by simp [hval,Value.ownBlock]) j u hu⟩) hrep'.rep
  have:=hM g hm
  omega
end Go.Abs
end
section
namespace Go.Abs
def RM:D→D
 | .nil=>.list []
 | d=>d
def RL:D→D
 | .agg cs=>.agg (cs.map RM)
 | d=>RM d
def P1:D→D
 | .tup vs=>.tup (vs.map RL)
 | d=>RL d
@[go_sem] theorem Yg (k:IntKind)(n:Int):RM (.int k n)=.int k n:=rfl
@[go_sem] theorem WP (b:Bool):RM (.bool b)=.bool b:=rfl
@[go_sem] theorem Ye (b:ByteArray):RM (.str b)=.str b:=rfl
@[go_sem] theorem WO (l:List (List D)):RM (.list l)=.list l:=rfl
@[go_sem] theorem Yf:RM .nil=.list []:=rfl
@[go_sem] theorem Yc (k:IntKind)(n:Int):RL (.int k n)=.int k n:=rfl
@[go_sem] theorem WN (b:Bool):RL (.bool b)=.bool b:=rfl
@[go_sem] theorem X9 (b:ByteArray):RL (.str b)=.str b:=rfl
@[go_sem] theorem WM (l:List (List D)):RL (.list l)=.list l:=rfl
@[go_sem] theorem Ya:RL .nil=.list []:=rfl
@[go_sem] theorem Yd (l:List D):RL (.agg l)=.agg (l.map RM):=rfl
@[go_sem] theorem X7 (k:IntKind)(n:Int):P1 (.int k n)=.int k n:=rfl
@[go_sem] theorem WL (b:Bool):P1 (.bool b)=.bool b:=rfl
@[go_sem] theorem X5 (b:ByteArray):P1 (.str b)=.str b:=rfl
@[go_sem] theorem WK (l:List (List D)):P1 (.list l)=.list l:=rfl
@[go_sem] theorem X6:P1 .nil=.list []:=rfl
@[go_sem] theorem X8 (l:List D):P1 (.agg l)=.agg (l.map RM):=rfl
@[go_sem] theorem X4 (l:List D):P1 (.tup l)=.tup (l.map RL):=rfl
theorem NC {M:Nat→Prop}{σ:Nat→Option Ow}{N:Nat→Prop}{w:World}{v:Value}{d:D}(h:RepV M σ N w v d):RepV M σ N w v (RM d):=by
 cases d<;>try exact h
 cases h
 exact .listN
theorem NB {M:Nat→Prop}{σ:Nat→Option Ow}{N:Nat→Prop}{w:World}{v:Value}{d:D}(h:RepV M σ N w v d):RepV M σ N w v (RL d):=by
 cases d<;>try exact NC h
 cases h
 rename_i vs h1 hl hr
 refine .agg vs _ (by simpa using hl) h1 fun j u d hu hd=>?_
 rw [aN,bC] at hd
 obtain ⟨y,hy,rfl⟩:=hd
 exact NC (hr j u y hu hy)
theorem Sl {M:Nat→Prop}{σ:Nat→Option Ow}{N:Nat→Prop}{w:World}{v:Value}{d:D}(h:RepV M σ N w v d):RepV M σ N w v (P1 d):=by
 cases d<;>try exact NB h
 cases h
 rename_i vs hl hr
 refine .tup vs _ (by simpa using hl) fun j u d hu hd=>?_
 rw [aN,bC] at hd
 obtain ⟨y,hy,rfl⟩:=hd
 exact NB (hr j u y hu hy)
section
variable {P:Program} {c:Cfg}
theorem Qs {f:FuncId}{args:List D}{r:D}(hcl:r.cl=true)(h:∀ Q:D→AHeap→Prop,(∀ d H',(o9 H' d=r∨P1 (o9 H' d)=r)→Q d H')→ACalls P f args .emp Q):Pure P f args r:=by
 have h:=h (fun d H'=>o9 H' d=r∨P1 (o9 H' d)=r) fun _ _ h=>h
 refine ⟨h.1,fun M w vals hM ha=>(h.2 M fG w vals (DB M w hM) (by rw [DE];exact ha)).mono fun e w' ⟨v,d,H',σ',he,hR,hv,hst,hk,hr⟩=>⟨v,he,?_,x9 hst⟩⟩
 have h1:RepV (cF M (eT (BW d) H') σ') σ' (eT (BW d) H').al w' v r:=by
  have h0:=rX hR hv (BW d) fun i hi=>hi
  rcases hr with hr|hr
  ·rw [hr] at h0;exact h0
  ·have h0:=Sl h0;rw [hr] at h0;exact h0
 exact h1.closed (fun ad u hm hc=>⟨fun h=>hm (.inl h),hc⟩) hcl
theorem YW {f:FuncId}{args:List D}{ty:TypeId}{sz:Nat}{es:List (List D)}(hcl:D.clLL es=true)
  (h:∀ Q:D→AHeap→Prop,(∀ id n H',n=es.length→H'.get id=some ⟨ty,sz,es,false⟩→Q (.own id n) H')→ACalls P f args .emp Q):Own P f args ty sz es :=
 AP (h _ fun id n H' hn hg=>⟨id,_,by rw [hn],hg,rfl,rfl,rfl,rfl,hcl⟩)
def AT (I:Nat→c7→AHeap→Prop)(m:Nat→Nat)(x:Nat)(e:c7)(H:AHeap):Prop:=∃ e' H',GhE e H e' H'∧∃ x',m x'<m x∧I x' e' H'
theorem fN {I:Nat→c7→AHeap→Prop}{m:Nat→Nat}{x:Nat}{e:c7}{H:AHeap}(x':Nat)(hm:m x'<m x)(hI:I x' e H):AT I m x e H:=⟨e,H,.gh (.refl H),x',hm,hI⟩
theorem EQ {I:Nat→c7→AHeap→Prop}{m:Nat→Nat}{x:Nat}{e:c7}{H H':AHeap}(hg:Ghosts H H')(x':Nat)(hm:m x'<m x)(hI:I x' e H'):AT I m x e H:=⟨e,H',.gh hg,x',hm,hI⟩
theorem qV {b:Code}{Q:Exit→c7→AHeap→Prop}{e:c7}{H:AHeap}(I:Nat→c7→AHeap→Prop)(μ:Nat→Nat)(x0:Nat)(h0:I x0 e H)
  (hs:∀ x e H,I x e H→mZ P c b (qL (AT I μ x) Q) e H):w4 P c b Q e H:=uQ (.gh (.refl H)) I μ x0 h0 hs
theorem Ue {b:Code}{Q:Exit→c7→AHeap→Prop}{e:c7}{H H':AHeap}(hg:Ghosts H H')(I:Nat→c7→AHeap→Prop)(μ:Nat→Nat)(x0:Nat)(h0:I x0 e H')
  (hs:∀ x e H,I x e H→mZ P c b (qL (AT I μ x) Q) e H):w4 P c b Q e H:=uQ (.gh hg) I μ x0 h0 hs
theorem Ud {b:Code}{Q:Exit→c7→AHeap→Prop}{e:c7}{H:AHeap}(t q hi:Nat)(k:Blk)(he:e t=.win q k.es.length 0 hi)(hk:H.get q=some k)(hf:k.fz=false)(I:Nat→c7→AHeap→Prop)(μ:Nat→Nat)(x0:Nat)(h0:I x0 (kY e (some t) (.own H.next hi)) ((H.drop q).push H.next ⟨k.ty,k.sz,k.es.take hi,false⟩))
  (hs:∀ x e H,I x e H→mZ P c b (qL (AT I μ x) Q) e H):w4 P c b Q e H:=uQ (.trv (.gh (.refl H)) t q hi k he hk hf) I μ x0 h0 hs
end
@[go_sem] theorem VN (H:AHeap)(id i off:Nat)(ty sz:Nat):nD H id i off ty sz=match H.get id with
 | some k=>(H.put id { k with es:=k.es.set i ((k.es[i]?.getD []).set off (.own H.next 0)) }).push H.next ⟨ty,sz,[],false⟩
 | none=>H:=rfl
@[go_sem] theorem UE (H:AHeap)(id i off q hi:Nat):z8 H id i off q hi=match H.get id,H.get q with
 | some k,some kq=>(((H.drop q).push H.next ⟨kq.ty,kq.sz,kq.es.take hi,false⟩).put id { k with es:=k.es.set i ((k.es[i]?.getD []).set off (.own H.next hi)) })
 | _,_=>H:=rfl
attribute [go_sem] kX sZ
attribute [irreducible] AT
theorem oW {p:Prop}(h:p:=by (first|assumption|(intros;first|assumption|omega|exact eO (by omega) (by omega)|(and_intros<;>first|assumption|omega|exact eO (by omega) (by omega)))|(simp_all<;>omega))):p:=h
theorem fT {p:Prop}(h:p:=by (first|assumption|(intros;first|assumption|omega|exact eO (by omega) (by omega)|(and_intros<;>first|assumption|omega|exact eO (by omega) (by omega)))|(simp;done)|(simp;omega))):p:=h
end Go.Abs
end
section
namespace Go.Abs
section
variable {P:Program} {M0:Nat→Prop} {H:AHeap} {σ:Nat→Option Ow} {w:World}
theorem yL (zs:List Int):(zs.map cI).flatten=zs.map (D.int .i64):=by
 induction zs with
 | nil=>rfl
 | cons a l ih=>simp only [i6,dZ,ih,cI,dI];rfl
theorem yC {M:Nat→Prop}{N:Nat→Prop}(zs:List Int):RepL M σ N w (zs.map (Value.int .i64)) (zs.map cI).flatten:=by
 rw [yL]
 refine ⟨by simp,fun j u d hu hd=>?_⟩
 rw [aN,bC] at hu hd
 obtain ⟨x,hx,rfl⟩:=hu
 obtain ⟨y,hy,rfl⟩:=hd
 rw [hx] at hy;cases hy
 exact .int _ _
def Dy (w:World)(ty:TypeId)(v:Value)(xs:List Int):Prop:=w.ownsRow 0 ty 1 v xs.length (xs.map (Value.int .i64))
theorem Nq (hR:Rel M0 H σ w){id:Nat}{ty:TypeId}{xs:List Int}(hg:H.get id=some ⟨ty,1,xs.map cI,false⟩){v:Value}(hv:RepV (cF M0 H σ) σ H.al w v (.own id xs.length)) :
  ∃ o,σ id=some o∧v=o.val∧o.ver=xs.length∧o.ty=ty∧o.esz=1∧Dy w ty v xs:=by
 obtain ⟨o,ho,l⟩:=hR.lies id _ hg
 have hver:o.ver=xs.length:=by have:=l.ver;simpa using this
 cases hv
 rename_i hN h1 h
 rcases h o ho with h'|⟨_,rfl⟩
 ·omega
 ·obtain ⟨us,hrow,hu1,hrep⟩:=l.row
  have hus:us=xs.map (Value.int .i64):=by
   simp only [yL] at hrep
   apply eD
   intro j
   have hl:=hrep.len
   simp only [bM] at hl
   by_cases hj:j<xs.length
   ·have h2:=hrep.rep j us[j] (D.int .i64 xs[j]) (aA (by omega)) (by simp [hj])
    generalize us[j]=u at h2
    have h3:us[j]?=some us[j]:=aA (by omega)
    have h4:=hrep.rep j us[j] (D.int .i64 xs[j]) h3 (by simp [hj])
    generalize hq:us[j]=q at h3 h4
    rw [h3]
    cases h4
    simp [hj]
   ·rw [bA (by omega),bA (by simp;omega)]
  refine ⟨o,ho,rfl,hver,l.ty,l.sz,?_⟩
  unfold Dy
  have hsz:o.esz=1:=l.sz
  rw [hsz,hus] at hrow
  simpa using hrow
theorem JZ {w':World}(hR:Rel M0 H σ w){id:Nat}{ty:TypeId}{xs zs:List Int}(fz:Bool)(hg:H.get id=some ⟨ty,1,xs.map cI,false⟩){o:Ow}(ho:σ id=some o)(hver:o.ver=xs.length)(hty:o.ty=ty)(hsz:o.esz=1)
  (hl:zs.length=xs.length) (hgr:w.grownBy w' o.block) (hrow:Dy w' ty o.val zs) :
  Rel M0 (H.put id ⟨ty,1,zs.map cI,fz⟩) (fun i=>if i=id then some o else σ i) w'∧Stp σ w (fun i=>if i=id then some o else σ i) w' ∧
   Keeps (cF M0 H σ) σ H.al w (cF M0 (H.put id ⟨ty,1,zs.map cI,fz⟩) (fun i=>if i=id then some o else σ i)) (fun i=>if i=id then some o else σ i) (H.put id ⟨ty,1,zs.map cI,fz⟩).al w':=by
 refine Rel.put hR hg rfl ho ⟨ty,1,zs.map cI,fz⟩ o hgr (fun b hb=>.inl hb) (.inl rfl) (by simp [hver,hl]) hty hsz (fun c hc=>?_) (zs.map (Value.int .i64)) ?_ (fun u hu=>?_) (yC zs)
 ·obtain ⟨x,_,rfl⟩:=aS.1 hc;rw [hsz];rfl
 ·rw [hsz];simpa [Dy] using hrow
 ·obtain ⟨x,_,rfl⟩:=aS.1 hu;rfl
theorem Lr {f:FuncId}{id:Nat}{ty:TypeId}{xs zs:List Int}{Q:D→AHeap→Prop}(hent:RQ P f)(hg:H.get id=some ⟨ty,1,xs.map cI,false⟩)(hl:zs.length=xs.length)
  (hc:∀ (w:World) (v:Value),Dy w ty v xs→Calls P f #[v] w fun e w'=>e=.returned (.tuple #[])∧w.grownBy w' v.ownBlock∧Dy w' ty v zs)
  (hQ:Q (.tup []) (H.put id ⟨ty,1,zs.map cI,false⟩)):ACalls P f [.own id xs.length] H Q:=by
 refine ⟨hent,fun M0 σ w vals hR ha=>?_⟩
 obtain ⟨hlen,hr⟩:=ha
 match vals,hlen with
 | [v],_ =>
  obtain ⟨o,ho,rfl,hver,hty,hsz,hrow⟩:=Nq hR hg (hr 0 v _ rfl rfl)
  refine (hc w _ hrow).mono fun e w' ⟨he,hgr,hrow'⟩=>?_
  obtain ⟨h1,h2,h3⟩:=JZ hR false hg ho hver hty hsz hl hgr hrow'
  exact ⟨_,.tup [],_,_,he,h1,.tup [] [] rfl (fun j u d hu=>by simp at hu),h2,h3,hQ⟩
theorem Jg {f:FuncId}{id:Nat}{ty:TypeId}{xs zs:List Int}{m:Nat}{Q:D→AHeap→Prop}(hent:RQ P f)(hg:H.get id=some ⟨ty,1,xs.map cI,false⟩)(hl:zs.length=xs.length)(hm:m≤xs.length)
  (hc:∀ (w:World) (v:Value),Dy w ty v xs→Calls P f #[v] w fun e w'=>(∃ r,e=.returned r∧((v=.slice none 0 0∧r=v)∨∃ g n cap,v=.slice (some g) n cap∧r=.slice (some g) m cap))∧w.grownBy w' v.ownBlock∧Dy w' ty v zs)
  (hQ:Q (.list ((zs.take m).map cI)) (H.put id ⟨ty,1,zs.map cI,true⟩)):ACalls P f [.own id xs.length] H Q:=by
 refine ⟨hent,fun M0 σ w vals hR ha=>?_⟩
 obtain ⟨hlen,hr⟩:=ha
 match vals,hlen with
 | [v],_ =>
  obtain ⟨o,ho,rfl,hver,hty,hsz,hrow⟩:=Nq hR hg (hr 0 v _ rfl rfl)
  refine (hc w _ hrow).mono fun e w' ⟨⟨r,he,hr'⟩,hgr,hrow'⟩=>?_
  obtain ⟨h1,h2,h3⟩:=JZ hR true hg ho hver hty hsz hl hgr hrow'
  refine ⟨r,.list ((zs.take m).map cI),_,_,he,h1,?_,h2,h3,hQ⟩
  rcases hr' with ⟨hv,rfl⟩|⟨g,n,cap,hv,rfl⟩
  ·have hz:zs=[]:=by
    rcases hrow.2 with ⟨_,h0⟩|⟨g',cap',cur,hv',_⟩
    ·exact aV (by omega)
    ·rw [hv] at hv';cases hv'
   subst hz
   rw [hv];simpa using RepV.listN
  ·rcases hrow'.2 with ⟨hn,_⟩|⟨g',cap',cur,hv',hb0,hblk,hcz,hcm,hcs,htk⟩
   ·rw [hv] at hn;cases hn
   ·have hvv:=hv'
    rw [hv] at hvv
    cases hvv
    have hlt:(zs.take m).length=m:=by simp;omega
    have hfl:=yL (zs.take m)
    have key:=RepV.list (M:=cF M0 (H.put id ⟨ty,1,zs.map cI,true⟩) (fun i=>if i=id then some o else σ i)) (σ:=fun i=>if i=id then some o else σ i) (N:=(H.put id ⟨ty,1,zs.map cI,true⟩).al) (w:=w')
     ⟨g',0,none⟩ cap 1 ((zs.take m).map (Value.int .i64)) ((zs.take m).map cI) (by simp;omega) hcm (fun c hc=>(by obtain ⟨x,_,rfl⟩:=aS.1 hc;rfl)) (by rw [hfl];simp)
     (fun u hu=>(by obtain ⟨x,_,rfl⟩:=aS.1 hu;rfl))
     (fun j u hu=>by
      refine ⟨?_,?_⟩
      ·rintro (hm0|⟨i,k',o',hk',hf,ho',hb'⟩)
       ·exact (hR.lt id o g' ho (by simp [Ow.block,hv,Value.ownBlock])).2 hm0
       ·by_cases hi:i=id
        ·simp only [AHeap.put,hi,if_true,aY] at hk'
         subst hk';cases hf
        ·simp only [hi,if_false] at ho'
         exact hi (hR.inj i id o' o g' ho' ho hb' (by simp [Ow.block,hv,Value.ownBlock]))
      ·have:=hrow'.cells (g:=g') (by simp [hv,Value.ownBlock]) j u (by
        rw [aN] at hu ⊢
        rw [bI] at hu
        split at hu
        ·exact hu
        ·simp at hu)
       exact this)
     (yC (zs.take m)).rep
    simp only [bM,hlt] at key
    exact key
end
end Go.Abs
end
section
namespace Go.Abs
section
variable {P:Program} {M0:Nat→Prop} {H:AHeap} {σ:Nat→Option Ow} {w:World}
structure Made (M:Nat→Prop) (w w':World) (v:Value) (b:Blk) (xs:List Value):Prop where
 row:w'.ownsRow w.heap.size b.ty b.sz v b.es.length xs
 one:∀ u∈xs,u.oneCell'=true
 rep:RepL M fG mV w' xs b.es.flatten
 cl:D.clLL b.es=true
 sz:∀ c∈b.es,c.length=b.sz
theorem Lx {f:FuncId}{args:List D}{ty:TypeId}{sz:Nat}{es:List (List D)}{Q:D→AHeap→Prop}(hp:Own P f args ty sz es)(hcl:D.clL args=true)(q:Nat)(hq:¬ H.al q)
  (hQ:Q (.own q es.length) (H.push q ⟨ty,sz,es,false⟩)):ACalls P f args H Q:=by
 refine ⟨hp.1,fun M0 σ w vals hR ha=>(hp.2 (cF M0 H σ) w vals (oO hR) (fM (fun _ h=>h) ha hcl)).mono fun e w' ⟨v,xs,he,hrow,h1,hrep,hcll,hsz,hb⟩=>?_⟩
 have hrow0:w'.ownsRow 0 ty sz v es.length xs:=⟨hrow.1,hrow.2.imp (fun x=>x) fun ⟨g,cap,cur,a,b,c⟩=>⟨g,cap,cur,a,dE _,c⟩⟩
 have hbk:∀ b,v.ownBlock=some b→w.heap.size≤b:=fun b hb'=>by
  rcases hrow.2 with hn|⟨g,cap,cur,h1,h2,h3⟩
  ·rw [hn.1] at hb';simp [Value.ownBlock] at hb'
  ·rw [h1] at hb';simp only [Value.ownBlock,aY] at hb';omega
 have hG:∀ ad,¬ (cF M0 H σ ad∨v.ownBlock=some ad)→¬ cF M0 (H.push q ⟨ty,sz,es,false⟩) (fun i=>if i=q then some ⟨es.length,v,sz,ty⟩ else σ i) ad:=by
  intro ad hm h
  rcases h with h|⟨i,k',o',hk',hf,ho',hb'⟩
  ·exact hm (.inl (.inl h))
  ·by_cases hii:i=q
   ·simp only [hii,if_true,aY] at ho'
    subst ho'
    exact hm (.inr hb')
   ·simp only [hii,if_false] at ho'
    simp only [AHeap.push,hii,if_false] at hk'
    exact hm (.inl (.inr ⟨i,k',o',hk',hf,ho',hb'⟩))
 have hclF:D.clL es.flatten=true:=Bw fun d hd=>by
  obtain ⟨c,hcm,hxm⟩:=fQ.1 hd
  exact gF (mY hcll c hcm) d hxm
 obtain ⟨p1,p2,p3⟩:=Rel.pushG hR q hq (w':=w') hb.os hb.tape hb.output hb.size hb.block ⟨ty,sz,es,false⟩ ⟨es.length,v,sz,ty⟩
  hbk rfl rfl rfl hsz xs hrow0 h1 (fun hk=>fM hG hrep hclF)
 exact ⟨v,_,_,_,he,p1,.own v _ _ (.inl rfl) (by rcases hrow.2 with ⟨hn,_⟩|⟨g,cap,cur,hn,_⟩<;>simp [hn,Value.oneCell']) (fun o ho=>by simp at ho;subst ho;exact .inr ⟨rfl,rfl⟩),p2,p3,hQ⟩
theorem ACalls.bump {f:FuncId}{args:List D}{Q:D→AHeap→Prop}(k:Nat)(h:ACalls P f args ⟨H.next+k,H.al,H.get⟩ Q):ACalls P f args H Q :=
 ⟨h.1,fun M0 σ w vals hR ha=>h.2 M0 σ w vals (hR.bump (m:=H.next+k) (by omega)) ha⟩
theorem ACalls.frz {f:FuncId}{args:List D}{Q:D→AHeap→Prop}(h:ACalls P f (args.map (iE H)) (eT (args.flatMap dC) H) Q):ACalls P f args H Q:=by
 refine ⟨h.1,fun M0 σ w vals hR ha=>?_⟩
 obtain ⟨f1,f2,f3,f4⟩:=eP (args.flatMap dC) hR
 refine (h.2 M0 σ w vals f1 (AI hR ha _ fun i h=>h)).mono fun e w' ⟨v,d,H',σ',he,h1,hv,hs,hk,hq⟩=>?_
 exact ⟨v,d,H',σ',he,h1,hv,hs,f2.trans hk,hq⟩
end
section
variable {P:Program} {md:Nat→Bool} {ops:Array Oper} {sp:List (Nat × Nat)} {n0 i:Nat} {rest:List Oper} {acc:List (Nat × List Nat)} {e:c7} {dst:Option Tmp} {K:c7→AHeap→Prop} {f:FuncId} {args args':List D} {H H':AHeap}
theorem pH {ty:TypeId}{sz:Nat}{es:List (List D)}(q:Nat)(hp:Own P f args ty sz es)(hcl:D.clL args=true)(hmd:CR md dst=true)(hq:q<n0)(hal:¬ H.al q)(hc:Dr sp i [q] acc)
  (h:jL P md ops sp n0 (i+1) rest ((i,[q]) :: acc) (kY e dst (.own q es.length)) (H.push q ⟨ty,sz,es,false⟩) K):rC P md ops sp n0 i rest acc e dst K f args H:=by
 unfold rC
 exact Or.inr ⟨hmd,.own q es.length,[],[],[(q,⟨ty,sz,es,false⟩)],(fun _ h=>by cases h),fun p hp=>(by
   have:p=(q,⟨ty,sz,es,false⟩):=by simpa using hp
   subst this;exact ⟨hq,hal⟩),
  fun H' _ hn=>Lx hp hcl q (hn (q,⟨ty,sz,es,false⟩) (by simp)).2 ⟨rfl,rfl⟩,hc,h⟩
end
theorem FY (i:Nat):AHeap.emp.al i↔False:=Iff.rfl
theorem f8 (H:AHeap)(i j:Nat)(k:Blk):(H.push i k).al j↔j=i∨H.al j:=Iff.rfl
theorem iU (H:AHeap)(i j:Nat)(k:Blk):(H.put i k).al j↔H.al j:=Iff.rfl
theorem oG (n:Nat)(al:Nat→Prop)(g:Nat→Option Blk)(j:Nat):(AHeap.mk n al g).al j↔al j:=Iff.rfl
end Go.Abs
end
