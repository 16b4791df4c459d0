/- The abstraction layer, part U: the rows that walk a body. ·  -/
import Derived.Test.YtmaibfgcngmjhaaGreatZeAE
import Derived.Sort.OwnSortedInts
set_option linter.unusedVariables false
set_option linter.unusedSimpArgs false
section
namespace Go.Abs
inductive SOut where
 | op (o:AOut)
 | call (f:FuncId) (args:Xa2)
 | gop (t:Bool) (g:Bool) (o:AOut)
 | gcall (t:Bool) (g:Bool) (f:FuncId) (args:Xa2)
 | bad
def M7 (c:Option (FuncId × Xa2))(o:AOut):SOut :=
 match c with
 | some (f,args)=>.call f args
 | none=>.op o
def Kn (gc:Option (Bool × Bool))(b:Bool)(g:Bool)(c:Option (FuncId × Xa2))(o:AOut):SOut :=
 match gc with
 | some (t,c')=>match c with
  | some (f,args)=>.gcall (t&&(c'==b)) g f args
  | none=>.gop (t&&(c'==b)) g o
 | none=>.bad
def oQ (P:Program)(md:Nat->Bool)(nid:Nat)(ops:Array Oper)(e:dO)(o:Oper)(H:AHeap):SOut :=
 match o.guard with
 | none=>M7 (iQ e o) (Hh P nid md e o H)
 | some (j,b)=>Kn (gD ops e j) b (VU e (gO o.op)) (iQ (gE e o.op) o) (Hh P nid md (gE e o.op) o H)
def dQ (P:Program)(md:Nat->Bool)(ops:Array Oper)(rest:List Oper)(e:dO)(dst:Option Tmp)(K:dO->AHeap->Prop)(f:FuncId)(args:Xa2)(H:AHeap):Prop :=
 ACalls P f args H λv H1=>oM P md ops rest (nB e dst v) H1 K
def Bp (P:Program)(md:Nat->Bool)(ops:Array Oper)(rest:List Oper)(e:dO)(dst:Option Tmp)(K:dO->AHeap->Prop)(t:Bool)(f:FuncId)(args:Xa2)(H:AHeap):Prop :=
 (∃ r S,(t=true->∀ H',gQ S H' H->ACalls P f args H' λv H1=>v=r/\H1=H')/\oM P md ops rest (nB e dst (.opt t r)) H K) \/
  ((t=true->ACalls P f args H λv H1=>oM P md ops rest (nB e dst (.opt true v)) H1 K)/\(t=false->∃ r,oM P md ops rest (nB e dst (.opt false r)) H K))
def Bv (P:Program)(md:Nat->Bool)(ops:Array Oper)(rest:List Oper)(e:dO)(dst:Option Tmp)(H:AHeap)(K:dO->AHeap->Prop):SOut->Prop
 | .op o=>o.cond/\(o.aa->oM P md ops rest (nB e dst o.val) o.heap K)
 | .call f args=>dQ P md ops rest e dst K f args H
 | .gop t g o=>(t=true->g=true)/\(t=true->o.cond/\o.heap=H)/\((t=true->o.aa)->oM P md ops rest (nB e dst (.opt t o.val)) H K)
 | .gcall t g f args=>(t=true->g=true)/\Bp P md ops rest e dst K t f args H
 | .bad=>False
theorem VT (P:Program)(md:Nat->Bool)(ops:Array Oper)(o:Oper)(i:List Oper)(e:dO)(H:AHeap)(K:dO->AHeap->Prop) :
  oM P md ops (o :: i) e H K=Bv P md ops i e o.dst H K (oQ P md H.next ops e o H):=by
 obtain ⟨dst,op,type,pos,after,guard⟩:=o;cases guard with
 | none =>
  simp only [oM,rD,oQ];cases m:iQ e { dst:=dst,op:=op,type:=type,pos:=pos,after:=after,guard:=none } with
  | none=>simp [M7,Bv]
  | some p=>simp [M7,Bv,dQ]
 | some p =>
  obtain ⟨j,b⟩:=p;simp only [oM,rD,oQ];cases n:gD ops e j with
  | none=>simp [Kn,Bv]
  | some gc =>
   obtain ⟨t,q⟩:=gc;cases m:iQ (gE e op) { dst:=dst,op:=op,type:=type,pos:=pos,after:=after,guard:=some (j,b) } with
   | none=>simp [Kn,Bv]
   | some p=>simp [Kn,Bv,Bp]
@[go_sem] theorem ac9 (P:Program)(md:Nat->Bool)(ops:Array Oper)(e:dO)(H:AHeap)(K:dO->AHeap->Prop):oM P md ops [] e H K=K e H:=rfl
@[go_sem] theorem afP (P:Program)(md:Nat->Bool)(ops:Array Oper)(rest:List Oper)(e:dO)(dst:Option Tmp)(H H':AHeap)(K:dO->AHeap->Prop)(c f:Prop)(v:D) :
 Bv P md ops rest e dst H K (.op ⟨c,f,v,H'⟩)=(c/\(f->oM P md ops rest (nB e dst v) H' K)):=rfl
@[go_sem] theorem abK (P:Program)(md:Nat->Bool)(ops:Array Oper)(rest:List Oper)(e:dO)(dst:Option Tmp)(H:AHeap)(K:dO->AHeap->Prop)(f:FuncId)(args:Xa2) :
 Bv P md ops rest e dst H K (.call f args)=dQ P md ops rest e dst K f args H:=rfl
@[go_sem] theorem ac4 (P:Program)(md:Nat->Bool)(ops:Array Oper)(rest:List Oper)(e:dO)(dst:Option Tmp)(H H':AHeap)(K:dO->AHeap->Prop)(c f:Prop)(v:D)(t g:Bool) :
 Bv P md ops rest e dst H K (.gop t g ⟨c,f,v,H'⟩)=((t=true->g=true)/\(t=true->c/\H'=H)/\((t=true->f)->oM P md ops rest (nB e dst (.opt t v)) H K)):=rfl
@[go_sem] theorem ZC (P:Program)(md:Nat->Bool)(ops:Array Oper)(rest:List Oper)(e:dO)(dst:Option Tmp)(H:AHeap)(K:dO->AHeap->Prop)(f:FuncId)(args:Xa2)(t g:Bool) :
 Bv P md ops rest e dst H K (.gcall t g f args)=((t=true->g=true)/\Bp P md ops rest e dst K t f args H):=rfl
@[go_sem] theorem ab6 (f:FuncId)(args:Xa2)(o:AOut):M7 (some (f,args)) o=.call f args:=rfl
@[go_sem] theorem ab7 (o:AOut):M7 none o=.op o:=rfl
@[go_sem] theorem adE (e:dO)(d t:Nat)(v:D):nB e (some d) v t=if t=d then v else e t:=rfl
@[go_sem] theorem adF (e:dO)(v:D):nB e none v=e:=rfl
def YS:List (Nat × D)->dO
 | []=>λ_=>.junk
 | (t,d) :: l=>λt'=>if t'=t then d else YS l t'
@[go_sem] theorem afN (t:Nat):YS [] t=.junk:=rfl
@[go_sem] theorem ac1 (t:Nat)(d:D)(l:List (Nat × D))(t':Nat):YS ((t,d) :: l) t'=if t'=t then d else YS l t':=rfl
@[go_sem] theorem afM (t:Nat):D7 [] t=.junk:=by simp [D7]
@[go_sem] theorem acZ (d:D)(l:Xa2):D7 (d :: l) 0=d:=rfl
@[go_sem] theorem ac0 (d:D)(l:Xa2)(t:Nat):D7 (d :: l) (t+1)=D7 l t:=by simp [D7]
@[go_sem] theorem ahJ (e:dO)(t:Nat):fI e (.tmp t)=e t:=rfl
@[go_sem] theorem afK (e:dO)(f:FuncId):fI e (.func f)=.fn f []:=rfl
@[go_sem] theorem ahM (e:dO)(k:IntKind)(n:Int):fI e (.const (.int k n))=.int k n:=rfl
@[go_sem] theorem afL (e:dO)(b:Bool):fI e (.const (.bool b))=.bool b:=rfl
@[go_sem] theorem ahK (e:dO)(b:ByteArray):fI e (.const (.string b))=.str b:=rfl
@[go_sem] theorem ahL (e:dO):fI e (.const (.slice none 0 0))=.nil:=rfl
@[go_sem] theorem afI (e:dO):fI e (.const (.pointer none))=.nilp:=rfl
@[go_sem] theorem afJ (e:dO):fI e (.const .nilFunc)=.nilf:=rfl
@[go_sem] theorem aaN:kF (.const (.slice none 0 0))=true:=rfl
@[go_sem] theorem aaL (t:Nat):kF (.tmp t)=false:=rfl
@[go_sem] theorem aaO (k:IntKind)(n:Int):kF (.const (.int k n))=false:=rfl
@[go_sem] theorem Zu (b:Bool):kF (.const (.bool b))=false:=rfl
@[go_sem] theorem aaM (b:ByteArray):kF (.const (.string b))=false:=rfl
@[go_sem] theorem Zr:kF (.const (.pointer none))=false:=rfl
@[go_sem] theorem Zs:kF (.const .nilFunc)=false:=rfl
@[go_sem] theorem Zt (f:FuncId):kF (.func f)=false:=rfl
@[go_sem] theorem ae1 (md:Nat->Bool)(t:Nat):EI md (some t)=md t:=rfl
@[go_sem] theorem ae2 (md:Nat->Bool):EI md none=false:=rfl
section
variable (P:Program) (md:Nat→Bool) (nid:Nat) (ops:Array Oper) (e:dO) (d:Option Tmp) (ty:TypeId) (p:String) (af:Array Edge) (H:AHeap)
@[go_sem] theorem ahZ (x:Operand):oQ P md nid ops e ⟨d,.move x,ty,p,af,none⟩ H=.op (if kF x then FV P nid (EI md d) ty H else ⟨True,True,fI e x,H⟩):=rfl
@[go_sem] theorem adL (x:Operand):oQ P md nid ops e ⟨d,.assign x,ty,p,af,none⟩ H=.op (if kF x then FV P nid (EI md d) ty H else ⟨True,True,fI e x,H⟩):=rfl
@[go_sem] theorem ahY (c a b:Operand):oQ P md nid ops e ⟨d,.pick c a b,ty,p,af,none⟩ H=.op (BG (fI e c) (fI e a) (fI e b) H):=rfl
@[go_sem] theorem agL (t:TypeId):oQ P md nid ops e ⟨d,.alloc t,ty,p,af,none⟩ H=.op (Af P nid (EI md d) t H):=rfl
@[go_sem] theorem ajG (t:TypeId)(x:Operand):oQ P md nid ops e ⟨d,.box t x,ty,p,af,none⟩ H=.op (Ok P nid (EI md d) t (fI e x) H):=rfl
@[go_sem] theorem agJ (t:TypeId)(ps:Array (Nat × Operand)):oQ P md nid ops e ⟨d,.build t ps,ty,p,af,none⟩ H=.op (vO P t (ps.toList.map λp=>(p.1,fI e p.2)) H):=rfl
@[go_sem] theorem ahP (md:Nat->Bool)(H:AHeap)(d:D):Ud md H d=if md 1000001 then d else jN H d:=rfl
@[go_sem] theorem ahO (md:Nat->Bool)(d:D):N7 md d=if md 1000001 then [] else eE d:=rfl
@[go_sem] theorem Yh (t:TypeId)(n:Nat)(b:Array (Nat × Operand)):oQ P md nid ops e ⟨d,.buildSlice t n b,ty,p,af,none⟩ H =
  .op (if md 1000001 then jR P nid (EI md d) t n (b.toList.map λp=>(p.1,fI e p.2)) H else jR P nid (EI md d) t n (b.toList.map λp=>(p.1,jN H (fI e p.2))) (fH (b.toList.flatMap λp=>eE (fI e p.2)) H)):=by
 show SOut.op (jR P nid (EI md d) t n (b.toList.map λp=>(p.1,Ud md H (fI e p.2))) (fH (b.toList.flatMap λp=>N7 md (fI e p.2)) H))=_;cases h:md 1000001
 .simp [Ud,N7,h]
 .simp only [Ud,N7,h,if_true];rw [show (b.toList.flatMap λ_=>([]:List Nat))=[] by induction b.toList with|nil=>rfl|cons a l ih=>simp];rfl
@[go_sem] theorem ah0 (t:TypeId)(x:Operand):oQ P md nid ops e ⟨d,.load t x,ty,p,af,none⟩ H=.op (pL P t (fI e x) H):=rfl
@[go_sem] theorem agF (t:TypeId)(x y:Operand):oQ P md nid ops e ⟨d,.store t x y,ty,p,af,none⟩ H =
 .op (if md 1000000 then nJ P t (fI e x) (jN H (fI e y)) (fH (eE (fI e y)) H) else nJ P t (fI e x) (fI e y) H):=rfl
@[go_sem] theorem ZZ (x:Operand):oQ P md nid ops e ⟨d,.nilCheck x,ty,p,af,none⟩ H=.op (kK (fI e x) H):=rfl
@[go_sem] theorem agK (b:BinOp)(t t':TypeId)(x y:Operand):oQ P md nid ops e ⟨d,.binOp b t x y t',ty,p,af,none⟩ H=.op (tX (md 2000000) P t b (fI e x) (fI e y) H):=rfl
@[go_sem] theorem agA (w:Bool)(P:Program)(t:TypeId)(x y:D)(H:AHeap):tX w P t .add x y H=J4 P t .add x y H:=by cases w<;>rfl
@[go_sem] theorem af3 (w:Bool)(P:Program)(t:TypeId)(x y:D)(H:AHeap):tX w P t .mul x y H=J4 P t .mul x y H:=by cases w<;>rfl
@[go_sem] theorem af0 (w:Bool)(P:Program)(t:TypeId)(x y:D)(H:AHeap):tX w P t .quo x y H=J4 P t .quo x y H:=by cases w<;>rfl
@[go_sem] theorem afZ (w:Bool)(P:Program)(t:TypeId)(x y:D)(H:AHeap):tX w P t .rem x y H=J4 P t .rem x y H:=by cases w<;>rfl
@[go_sem] theorem af8 (w:Bool)(P:Program)(t:TypeId)(x y:D)(H:AHeap):tX w P t .eql x y H=J4 P t .eql x y H:=by cases w<;>rfl
@[go_sem] theorem af2 (w:Bool)(P:Program)(t:TypeId)(x y:D)(H:AHeap):tX w P t .neq x y H=J4 P t .neq x y H:=by cases w<;>rfl
@[go_sem] theorem af4 (w:Bool)(P:Program)(t:TypeId)(x y:D)(H:AHeap):tX w P t .lss x y H=J4 P t .lss x y H:=by cases w<;>rfl
@[go_sem] theorem af5 (w:Bool)(P:Program)(t:TypeId)(x y:D)(H:AHeap):tX w P t .leq x y H=J4 P t .leq x y H:=by cases w<;>rfl
@[go_sem] theorem af6 (w:Bool)(P:Program)(t:TypeId)(x y:D)(H:AHeap):tX w P t .gtr x y H=J4 P t .gtr x y H:=by cases w<;>rfl
@[go_sem] theorem af7 (w:Bool)(P:Program)(t:TypeId)(x y:D)(H:AHeap):tX w P t .geq x y H=J4 P t .geq x y H:=by cases w<;>rfl
@[go_sem] theorem af9 (w:Bool)(P:Program)(t:TypeId)(x y:D)(H:AHeap):tX w P t .and x y H=J4 P t .and x y H:=by cases w<;>rfl
@[go_sem] theorem afY (w:Bool)(P:Program)(t:TypeId)(x y:D)(H:AHeap):tX w P t .shr x y H=J4 P t .shr x y H:=by cases w<;>rfl
@[go_sem] theorem af1 (P:Program)(t:TypeId)(a:BinOp)(x y:D)(H:AHeap):tX false P t a x y H=J4 P t a x y H:=by cases a<;>cases x<;>cases y<;>rfl
@[go_sem] theorem afX (P:Program)(t:TypeId)(k k':IntKind)(a b:Int)(H:AHeap):tX true P t .sub (.int k a) (.int k' b) H=⟨k=k',True,.int k (k.wrap (a - b)),H⟩:=rfl
@[go_sem] theorem ahX (u:UnOp)(t:TypeId)(x:Operand):oQ P md nid ops e ⟨d,.unOp u t x,ty,p,af,none⟩ H=.op (XJ u (fI e x) H):=rfl
@[go_sem] theorem ab9 (s t:TypeId)(x:Operand):oQ P md nid ops e ⟨d,.convert s t x,ty,p,af,none⟩ H=.op (oO P s t (fI e x) H):=rfl
@[go_sem] theorem Z0 (f:FuncId)(caps:Array Operand):oQ P md nid ops e ⟨d,.makeFunc (.func f) #[] caps,ty,p,af,none⟩ H=.op ⟨True,True,.fn f (caps.toList.map (fI e)),H⟩:=rfl
@[go_sem] theorem Ze (t:TypeId)(l c:Operand):oQ P md nid ops e ⟨d,.makeSlice t l c,ty,p,af,none⟩ H=.op (ED P nid t (fI e l) (fI e c) H):=rfl
@[go_sem] theorem agG (t:TypeId)(x:Operand)(lo hi:Option Operand):oQ P md nid ops e ⟨d,.slice t x lo hi none,ty,p,af,none⟩ H=.op (r9 P t (fI e x) (lo.map (fI e)) (hi.map (fI e)) H):=rfl
@[go_sem] theorem Zh (t:TypeId)(x:Operand)(f:Nat):oQ P md nid ops e ⟨d,.fieldAddr t x f,ty,p,af,none⟩ H=.op (jF P t (fI e x) f H):=rfl
@[go_sem] theorem Zg (t:TypeId)(x i:Operand):oQ P md nid ops e ⟨d,.indexAddr t x i,ty,p,af,none⟩ H=.op (jE P t (fI e x) (fI e i) H):=rfl
@[go_sem] theorem agH (t:TypeId)(x i:Operand):oQ P md nid ops e ⟨d,.index t x i,ty,p,af,none⟩ H=.op (vM P t (fI e x) (fI e i) H):=rfl
@[go_sem] theorem ab8 (x:Operand)(i:Nat):oQ P md nid ops e ⟨d,.extract x i,ty,p,af,none⟩ H=.op (oN (fI e x) i H):=rfl
@[go_sem] theorem acA (b:Builtin)(args:Array Operand)(ts:Array TypeId):oQ P md nid ops e ⟨d,.call ⟨.builtin b,args,ts⟩,ty,p,af,none⟩ H=.op (zB P nid b (args.toList.map (fI e)) ts.toList H):=rfl
@[go_sem] theorem ah1 (f:FuncId)(args:Array Operand)(ts:Array TypeId):oQ P md nid ops e ⟨d,.call ⟨.value (.func f),args,ts⟩,ty,p,af,none⟩ H=.call f (args.toList.map (fI e)):=by
 simp [oQ,iQ,fI,M7]
end
@[go_sem] theorem abU (P:Program)(md:Nat->Bool)(ops:Array Oper)(rest:List Oper)(e:dO)(H:AHeap)(K:dO->AHeap->Prop)(d:Option Tmp)(op:Op)(ty:TypeId)(p:String)(af:Array Edge)(g:Option (Nat × Bool)) :
 oM P md ops (⟨d,op,ty,p,af,g⟩ :: rest) e H K=Bv P md ops rest e d H K (oQ P md H.next ops e ⟨d,op,ty,p,af,g⟩ H):=VT P md ops _ rest e H K
/-! ### code -/
section
variable (P:Program) (c:Cfg) (Q:Exit→dO→AHeap→Prop) (e:dO) (H:AHeap)
def Ao (P:Program)(c:Cfg)(a b:Code)(Q:Exit->dO->AHeap->Prop)(e:dO)(H:AHeap):D->Prop
 | .bool t=>(t=true->pM P c a Q e H)/\(t=false->pM P c b Q e H)
 | _=>False
def yN (P:Program)(c:Cfg)(b:Code)(Q:Exit->dO->AHeap->Prop)(e:dO)(H:AHeap):Prop:=pM P c (.loop b) Q e H
@[go_sem] theorem ahR:pM P c .skip Q e H=Q .normal e H:=rfl
@[go_sem] theorem adD (a:Nat)(l:List Oper):pM P c (.region a l.toArray false) Q e H=oM P c.own l.toArray l e H (Q .normal):=by
 simp [pM]
@[go_sem] theorem ahU (a:Nat)(l:List Oper):pM P c (.region a l.toArray true) Q e H=kQ P c.own l.toArray (c.sp a) H.next 0 l [] e ⟨H.next+l.length,H.J,H.get⟩ (Q .normal):=by
 simp [pM]
@[go_sem] theorem ajA (a b:Code):pM P c (.seq a b) Q e H=pM P c a (sK (pM P c b Q) Q) e H:=rfl
@[go_sem] theorem ahV (x:Operand)(a b:Code):pM P c (.cond x a b) Q e H=Ao P c a b Q e H (fI e x):=rfl
@[go_sem] theorem agC (id:Nat)(b:Code):pM P c (.block id b) Q e H=pM P c b (Db id Q) e H:=rfl
@[go_sem] theorem ahS (b:Code):pM P c (.loop b) Q e H=yN P c b Q e H:=rfl
@[go_sem] theorem ahT (id:Nat):pM P c (.exit id) Q e H=Q (.exit id) e H:=rfl
@[go_sem] theorem ajB:pM P c .ret Q e H=Q .ret e H:=rfl
@[go_sem] theorem abM (a b:Code):Ao P c a b Q e H (.bool true)=pM P c a Q e H:=by simp [Ao]
@[go_sem] theorem ZD (a b:Code):Ao P c a b Q e H (.bool false)=pM P c b Q e H:=by simp [Ao]
@[go_sem] theorem X7 (n:dO->AHeap->Prop):sK n Q .normal e H=n e H:=rfl
@[go_sem] theorem ab0 (n:dO->AHeap->Prop):sK n Q .ret e H=Q .ret e H:=rfl
@[go_sem] theorem ZQ (n:dO->AHeap->Prop)(i:Nat):sK n Q (.exit i) e H=Q (.exit i) e H:=rfl
@[go_sem] theorem XW (i:Nat):Db i Q .normal e H=Q .normal e H:=rfl
@[go_sem] theorem abQ (i:Nat):Db i Q .ret e H=Q .ret e H:=rfl
@[go_sem] theorem QQ (i j:Nat):Db i Q (.exit j) e H=if j=i then Q .normal e H else Q (.exit j) e H:=rfl
@[go_sem] theorem aeC (rs:List ResultVar)(R:D->AHeap->Prop):UD P rs R .ret e H=EB P rs e H λl=>R (HP l) H:=rfl
@[go_sem] theorem Zi (rs:List ResultVar)(R:D->AHeap->Prop):UD P rs R .normal e H=EB P rs e H λl=>R (HP l) H:=rfl
@[go_sem] theorem afW (K:Xa2->Prop):EB P [] e H K=K []:=rfl
@[go_sem] theorem afV (t:Tmp)(r:List ResultVar)(K:Xa2->Prop):EB P (.tmp t :: r) e H K=EB P r e H λl=>K (e t :: l):=rfl
@[go_sem] theorem ac8 (a:Tmp)(t:TypeId)(r:List ResultVar)(K:Xa2->Prop):EB P (.cell a t :: r) e H K=((pL P t (e a) H).cond/\EB P r e H λl=>K ((pL P t (e a) H).val :: l)):=rfl
@[go_sem] theorem adH (d:D):HP [d]=d:=rfl
end
attribute [go_sem] if_true if_false eW Bool.true_eq_false eq_self true_and and_true forall_const true_implies false_implies kG gA List.toList_toArray fS Option.map_none
 vS iO dG fT i6 cD implies_true
attribute [go_sem] K8 J4 pL nJ eT jF jE Hj lT rE ED Ok Af vO jR r9 vM oO BG xP EC kK XJ oN FV zB xQ vJ fH AOut.bad
 pN fW D.cells Cy BK.place XR ite_self
@[go_sem] theorem ahG (id:Nat):AHeap.ak.get id=none:=rfl
@[go_sem] theorem ae0:AHeap.ak.next=0:=rfl
@[go_sem] theorem afG (H:AHeap)(i j:Nat)(k:Blk):(H.push i k).get j=if j=i then some k else H.get j:=rfl
@[go_sem] theorem ahE (H:AHeap)(i j:Nat)(k:Blk):(H.put i k).get j=if j=i then some k else H.get j:=rfl
@[go_sem] theorem acQ (H:AHeap)(i:Nat)(k:Blk):(H.push i k).next=if i<H.next then H.next else i+1:=rfl
@[go_sem] theorem aeY (H:AHeap)(i:Nat)(k:Blk):(H.put i k).next=H.next:=rfl
@[go_sem] theorem sY (n:Nat)(al:Nat->Prop)(g:Nat->Option Blk)(j:Nat):(AHeap.mk n al g).get j=g j:=rfl
@[go_sem] theorem acR (n:Nat)(al:Nat->Prop)(g:Nat->Option Blk):(AHeap.mk n al g).next=n:=rfl
section
variable (H:AHeap)
@[go_sem] theorem ad8 (k:IntKind)(n:Int):fM H (.int k n)=.int k n:=rfl
@[go_sem] theorem acM (b:Bool):fM H (.bool b)=.bool b:=rfl
@[go_sem] theorem ad5 (b:ByteArray):fM H (.str b)=.str b:=rfl
@[go_sem] theorem ad7:fM H .nil=.nil:=rfl
@[go_sem] theorem acL (es:Xa1):fM H (.list es)=.list es:=rfl
@[go_sem] theorem ad9 (es:Xa2):fM H (.adr es)=.adr es:=rfl
@[go_sem] theorem acJ:fM H .nilp=.nilp:=rfl
@[go_sem] theorem acK:fM H .nilf=.nilf:=rfl
@[go_sem] theorem agO (f:FuncId)(l:Xa2):fM H (.fn f l)=.fn f l:=rfl
@[go_sem] theorem ad6 (id n:Nat):fM H (.own id n)=match H.get id with|some k=>if k.es.length=n then .list k.es else .own id n|none=>.own id n:=rfl
@[go_sem] theorem ad4 (id n lo hi:Nat):fM H (.win id n lo hi)=match H.get id with|some k=>if k.es.length=n then .list ((k.es.take hi).drop lo) else .win id n lo hi|none=>.win id n lo hi:=rfl
@[go_sem] theorem adW (id n lo hi:Nat):jN H (.win id n lo hi)=fM H (.win id n lo hi):=rfl
@[go_sem] theorem adO (id n lo hi:Nat):sL H (.win id n lo hi)=fM H (.win id n lo hi):=rfl
@[go_sem] theorem ad1 (k:IntKind)(n:Int):jN H (.int k n)=.int k n:=rfl
@[go_sem] theorem acI (b:Bool):jN H (.bool b)=.bool b:=rfl
@[go_sem] theorem adX (b:ByteArray):jN H (.str b)=.str b:=rfl
@[go_sem] theorem ad0:jN H .nil=.nil:=rfl
@[go_sem] theorem acH (es:Xa1):jN H (.list es)=.list es:=rfl
@[go_sem] theorem ad3 (es:Xa2):jN H (.adr es)=.adr es:=rfl
@[go_sem] theorem acF:jN H .nilp=.nilp:=rfl
@[go_sem] theorem acG:jN H .nilf=.nilf:=rfl
@[go_sem] theorem agN (f:FuncId)(l:Xa2):jN H (.fn f l)=.fn f l:=rfl
@[go_sem] theorem ad2 (l:Xa2):jN H (.agg l)=.agg (l.map (fM H)):=rfl
@[go_sem] theorem adZ (id n:Nat):jN H (.own id n)=fM H (.own id n):=rfl
@[go_sem] theorem adP (l:Xa2):sL H (.tup l)=.tup (l.map (jN H)):=rfl
@[go_sem] theorem adT (k:IntKind)(n:Int):sL H (.int k n)=.int k n:=rfl
@[go_sem] theorem acE (b:Bool):sL H (.bool b)=.bool b:=rfl
@[go_sem] theorem adQ (b:ByteArray):sL H (.str b)=.str b:=rfl
@[go_sem] theorem adS:sL H .nil=.nil:=rfl
@[go_sem] theorem acD (es:Xa1):sL H (.list es)=.list es:=rfl
@[go_sem] theorem adV (es:Xa2):sL H (.adr es)=.adr es:=rfl
@[go_sem] theorem acB:sL H .nilp=.nilp:=rfl
@[go_sem] theorem acC:sL H .nilf=.nilf:=rfl
@[go_sem] theorem agM (f:FuncId)(l:Xa2):sL H (.fn f l)=.fn f l:=rfl
@[go_sem] theorem adU (l:Xa2):sL H (.agg l)=.agg (l.map (fM H)):=rfl
@[go_sem] theorem adR (id n:Nat):sL H (.own id n)=fM H (.own id n):=rfl
end
@[go_sem] theorem afB (k:IntKind)(n:Int):mC (.int k n)=[]:=rfl
@[go_sem] theorem acW (b:Bool):mC (.bool b)=[]:=rfl
@[go_sem] theorem ae8 (b:ByteArray):mC (.str b)=[]:=rfl
@[go_sem] theorem afA:mC .nil=[]:=rfl
@[go_sem] theorem acV (es:Xa1):mC (.list es)=[]:=rfl
@[go_sem] theorem afC (es:Xa2):mC (.adr es)=[]:=rfl
@[go_sem] theorem acT:mC .nilp=[]:=rfl
@[go_sem] theorem acU:mC .nilf=[]:=rfl
@[go_sem] theorem ag7 (f:FuncId)(l:Xa2):mC (.fn f l)=[]:=rfl
@[go_sem] theorem ae7 (id n lo hi:Nat):mC (.win id n lo hi)=[id]:=rfl
@[go_sem] theorem Z6 (id n lo hi:Nat):eE (.win id n lo hi)=[id]:=rfl
@[go_sem] theorem ae9 (id n:Nat):mC (.own id n)=[id]:=rfl
@[go_sem] theorem aaB (k:IntKind)(n:Int):eE (.int k n)=[]:=rfl
@[go_sem] theorem Zn (b:Bool):eE (.bool b)=[]:=rfl
@[go_sem] theorem Z7 (b:ByteArray):eE (.str b)=[]:=rfl
@[go_sem] theorem aaA:eE .nil=[]:=rfl
@[go_sem] theorem Zm (es:Xa1):eE (.list es)=[]:=rfl
@[go_sem] theorem aaD (es:Xa2):eE (.adr es)=[]:=rfl
@[go_sem] theorem Zk:eE .nilp=[]:=rfl
@[go_sem] theorem Zl:eE .nilf=[]:=rfl
@[go_sem] theorem acP (f:FuncId)(l:Xa2):eE (.fn f l)=[]:=rfl
@[go_sem] theorem Z9 (id n:Nat):eE (.own id n)=[id]:=rfl
@[go_sem] theorem aaC (l:Xa2):eE (.agg l)=l.flatMap mC:=rfl
@[go_sem] theorem afH (H:AHeap)(id:Nat):H.frz id=match H.get id with|some k=>H.put id { k with fz:=true } | none=>H:=rfl
@[go_sem] theorem aeE (H:AHeap)(a:Nat)(k b:Blk):(H.push a k).put a b=H.push a b:=by
 unfold AHeap.push AHeap.put;grind
@[go_sem] theorem agQ (H:AHeap)(a:Nat)(k b:Blk):(H.put a k).put a b=H.put a b:=by
 unfold AHeap.put;grind
section
variable {P:Program} {c:Cfg} {Q:Exit→dO→AHeap→Prop} {e:dO} {H:AHeap} {a b:Code}
theorem aU {t:Bool}(h1:t=true->pM P c a Q e H)(h2:t=false->pM P c b Q e H):Ao P c a b Q e H (.bool t):=⟨h1,h2⟩
theorem f7 {p:Prop}[Decidable p](h1:p->pM P c a Q e H)(h2:¬ p->pM P c b Q e H):Ao P c a b Q e H (.bool (decide p)):=⟨λh=>h1 (of_decide_eq_true h),λh=>h2 (of_decide_eq_false h)⟩
end
attribute [irreducible] Ao dQ Bp yN
end Go.Abs
end
section
namespace Go.Abs
section
variable {P:Program} {c:Cfg} {md:Nat→Bool}
theorem J2 {t:Option Nat}{nid:Nat}{ops:Array Oper}{e:dO}{o:Oper}{H:AHeap}{K K':D->AHeap->List Nat->Prop}(d:∀ v H F,K v H F->K' v H F)(h:rD P md t nid ops e o H K):rD P md t nid ops e o H K':=by
 unfold rD at h ⊢;cases x:o.guard with
 | none =>
  simp only [x] at h ⊢;cases k:iQ e o with
  | none=>simp only [k] at h ⊢;exact ⟨h.1,λhf=>d _ _ _ (h.2 hf)⟩
  | some p =>
   obtain ⟨f,s⟩:=p;simp only [k] at h ⊢;cases t with
   | none=>exact h.mono λ_ _ h=>d _ _ _ h
   | some m =>
    rcases h with ⟨r,S,y,c⟩|⟨z,r,S,u,q,A,hq,y,c⟩
    .exact .inl ⟨r,S,y,d _ _ _ c⟩
    grind
 | some p =>
  obtain ⟨j,b⟩:=p;simp only [x] at h ⊢;cases i:gD ops e j with
  | none=>simp only [i] at h
  | some gc =>
   obtain ⟨g,B⟩:=gc;simp only [i] at h ⊢;refine ⟨h.1,?_⟩;have c:=h.2;cases k:iQ (gE e o.op) o with
   | none=>simp only [k] at c ⊢;exact ⟨c.1,λhf=>d _ _ _ (c.2 hf)⟩
   | some p =>
    obtain ⟨f,s⟩:=p;simp only [k] at c ⊢;cases t with
    | some _=>obtain ⟨r,S,n,l⟩:=c;exact ⟨r,S,n,d _ _ _ l⟩
    | none =>
     rcases c with ⟨r,S,n,l⟩|⟨n,l⟩
     .exact .inl ⟨r,S,n,d _ _ _ l⟩
     .exact .inr ⟨λhq=>(n hq).mono λ_ _ h=>d _ _ _ h,λhq=>(l hq).imp λ_ h=>d _ _ _ h⟩
theorem ML {ops:Array Oper}{K K':dO->AHeap->Prop}(hk:∀ e H,K e H->K' e H):∀ (l:List Oper) (e:dO) (H:AHeap),oM P md ops l e H K->oM P md ops l e H K'
 | [],e,H,h=>hk _ _ h
 | o :: l,e,H,h=>by
  unfold oM at h ⊢;exact J2 (λv H' _ h=>ML hk l _ _ h) h
theorem J5 {ops:Array Oper}{sp:List (Nat × Nat)}{n0:Nat}{K K':dO->AHeap->Prop}(hk:∀ e H,K e H->K' e H):∀ (l:List Oper) (i:Nat) (acc:List (Nat × List Nat)) (e:dO) (H:AHeap),
  kQ P md ops sp n0 i l acc e H K->kQ P md ops sp n0 i l acc e H K'
 | [],i,acc,e,H,h=>by unfold kQ at h ⊢;exact hk _ _ h
 | o :: l,i,acc,e,H,h=>by
  unfold kQ at h ⊢;exact J2 (λv H' _ h=>⟨h.1,J5 hk l _ _ _ _ h.2⟩) h
theorem zD {n a:dO->AHeap->Prop}{Q b:Exit->dO->AHeap->Prop}(d:∀ e H,n e H->a e H)(c:∀ x e H,Q x e H->b x e H):∀ x e H,sK n Q x e H->sK a b x e H:=by
 intro x e H h;cases x<;>first|exact d _ _ h|exact c _ _ _ h
theorem QP {i:Nat}{Q a:Exit->dO->AHeap->Prop}(b:∀ x e H,Q x e H->a x e H):∀ x e H,Db i Q x e H->Db i a x e H:=by
 intro x e H h;cases x<;>first|exact b _ _ _ h|skip
 rename_i j;rw [QQ] at h ⊢;grind
theorem s6:∀ (x:Code) {Q Q':Exit->dO->AHeap->Prop} (hq:∀ x e H,Q x e H->Q' x e H) (e:dO) (H:AHeap),pM P c x Q e H->pM P c x Q' e H
 | .skip,Q,Q',hq,e,H,h=>hq _ _ _ h
 | .region id ops dr,Q,Q',hq,e,H,h=>by
  unfold pM at h ⊢;cases dr with
  | false=>simp only [eW,if_false] at h ⊢;exact ML (λe H h=>hq _ _ _ h) _ _ _ h
  | true=>simp only [if_true] at h ⊢;exact J5 (λe H h=>hq _ _ _ h) _ _ _ _ _ h
 | .seq a b,Q,Q',hq,e,H,h=>by
  unfold pM at h ⊢;exact s6 a (zD (λe H h=>s6 b hq e H h) hq) e H h
 | .cond x a b,Q,Q',hq,e,H,h=>by
  unfold pM at h ⊢;cases hv:fI e x<;>simp only [hv] at h ⊢<;>try (exact h.elim)
  exact ⟨λht=>s6 a hq e H (h.1 ht),λht=>s6 b hq e H (h.2 ht)⟩
 | .block id b,Q,Q',hq,e,H,h=>by
  unfold pM at h ⊢;exact s6 b (QP hq) e H h
 | .loop b,Q,Q',hq,e,H,h=>by
  unfold pM at h ⊢;obtain ⟨I,h0,hI⟩:=h;exact ⟨I,h0,λk e' H' hi=>s6 b (zD (λ_ _ h=>h) hq) _ _ (hI k e' H' hi)⟩
 | .exit id,Q,Q',hq,e,H,h=>hq _ _ _ h
 | .ret,Q,Q',hq,e,H,h=>hq _ _ _ h
 | .rangeFunc ..,Q,Q',hq,e,H,h=>h.elim
 | .scope ..,Q,Q',hq,e,H,h=>h.elim
 | .label ..,Q,Q',hq,e,H,h=>h.elim
 | .goto ..,Q,Q',hq,e,H,h=>h.elim
 | .refuse ..,Q,Q',hq,e,H,h=>h.elim
theorem fO {b:Code}{Q:Exit->dO->AHeap->Prop}{e:dO}{H:AHeap}{ι:Type}(I:ι->dO->AHeap->Prop)(μ:ι->Nat)(i:ι)(n:I i e H)
  (l:∀ x e H,I x e H->pM P c b (sK (λe' H'=>∃ x',μ x'<μ x/\I x' e' H') Q) e H):yN P c b Q e H:=by
 unfold yN pM;refine ⟨λk e H=>∃ x,μ x=k/\I x e H,⟨e,H,.gh (.refl H),_,i,rfl,n⟩,λk e' H' ⟨x,m,j⟩=>s6 b (zD (λf g ⟨x',d,a⟩=>⟨f,g,.gh (.refl _),_,m ▸ d,x',rfl,a⟩) λ_ _ _ h=>h) _ _ (l x e' H' j)⟩
theorem tS {b:Code}{Q:Exit->dO->AHeap->Prop}{e g:dO}{H H':AHeap}(n:GhE e H g H'){ι:Type}(I:ι->dO->AHeap->Prop)(μ:ι->Nat)(i:ι)(o:I i g H')
  (l:∀ x e H,I x e H->pM P c b (sK (λe' H'=>∃ e3 H3,GhE e' H' e3 H3/\∃ x',μ x'<μ x/\I x' e3 H3) Q) e H):yN P c b Q e H:=by
 unfold yN pM;refine ⟨λk e H=>∃ x,μ x=k/\I x e H,⟨g,H',n,_,i,rfl,o⟩,λk e' H' ⟨x,m,j⟩=>s6 b (zD (λp q ⟨e3,H3,f,x',d,a⟩=>⟨e3,H3,f,_,m ▸ d,x',rfl,a⟩) λ_ _ _ h=>h) _ _ (l x e' H' j)⟩
theorem aB {ops:Array Oper}{a:List Oper}{e:dO}{b:Option Tmp}{K:dO->AHeap->Prop}{f:FuncId}{args:Xa2}{H:AHeap}{r:D}(d:Pure P f args r)(c:D.N args=true)
 (h:oM P md ops a (nB e b r) H K):dQ P md ops a e b K f args H:=by grind [dQ, tY]
theorem eF {ops:Array Oper}{a:List Oper}{e:dO}{b:Option Tmp}{K:dO->AHeap->Prop}{f:FuncId}{args args':Xa2}{H:AHeap}{r:D}(d:Pure P f args' r)(i:args.map (jN H)=args')(c:D.N args'=true)(g:r.flat=true)
 (h:oM P md ops a (nB e b r) H K):dQ P md ops a e b K f args H:=by grind [dQ, Ag]
theorem QK {ops:Array Oper}{a:List Oper}{e:dO}{b:Option Tmp}{K:dO->AHeap->Prop}{f:FuncId}{args args':Xa2}{H H':AHeap}{r:D}(g:Pure P f args' r)(i:args.map (jN H)=args')(c:D.N args'=true)
 (d:fH (args.flatMap eE) H=H') (h:oM P md ops a (nB e b r) H' K):dQ P md ops a e b K f args H:=by grind [dQ, Ot]
theorem mT {ops:Array Oper}{a:List Oper}{e:dO}{b:Option Tmp}{K:dO->AHeap->Prop}{f:FuncId}{args:Xa2}{H:AHeap}{ty:TypeId}{sz:Nat}{es:Xa1}(d:Own P f args ty sz es)(c:D.N args=true)
 (h:oM P md ops a (nB e b (.own H.next es.length)) (H.push H.next ⟨ty,sz,es,false⟩) K):dQ P md ops a e b K f args H:=by grind [dQ, Q5]
end
end Go.Abs
end
section
namespace Go.Abs
def pZ (P:Program)(md:Nat->Bool)(ops:Array Oper)(sp:List (Nat × Nat))(n0 i:Nat)(rest:List Oper)(acc:List (Nat × List Nat))(e:dO)(dst:Option Tmp)(K:dO->AHeap->Prop)(f:FuncId)(args:Xa2)(H:AHeap):Prop :=
 (∃ r S,(∀ H',gQ S H' H->ACalls P f args H' λv H1=>v=r/\H1=H')/\chk sp i S acc/\kQ P md ops sp n0 (i+1) rest ((i,S) :: acc) (nB e dst r) H K) \/
 (EI md dst=true/\∃ r S u q,(∀ p∈u,p.1∈S)/\(∀ p∈q,p.1<n0/\¬ H.J p.1)/\(∀ H',gQ S H' H->(∀ p∈q,p.1<H'.next/\¬ H'.J p.1)->ACalls P f args H' λv H1=>v=r/\H1=(H'.ai u).ad q) /\
  chk sp i (S++q.map (·.1)) acc/\kQ P md ops sp n0 (i+1) rest ((i,S++q.map (·.1)) :: acc) (nB e dst r) ((H.ai u).ad q) K)
def wU (P:Program)(md:Nat->Bool)(ops:Array Oper)(sp:List (Nat × Nat))(n0 i:Nat)(rest:List Oper)(acc:List (Nat × List Nat))(e:dO)(dst:Option Tmp)(K:dO->AHeap->Prop)(t:Bool)(f:FuncId)(args:Xa2)(H:AHeap):Prop :=
 ∃ r S,(t=true->∀ H',gQ S H' H->ACalls P f args H' λv H1=>v=r/\H1=H')/\chk sp i S acc/\kQ P md ops sp n0 (i+1) rest ((i,S) :: acc) (nB e dst (.opt t r)) H K
def Me (nid:Nat)(e:dO)(o:Oper):List Nat:=foot nid (match o.guard with|none=>e|some _=>gE e o.op) o.op
def u7 (P:Program)(md:Nat->Bool)(ops:Array Oper)(sp:List (Nat × Nat))(n0 i:Nat)(rest:List Oper)(acc:List (Nat × List Nat))(e:dO)(dst:Option Tmp)(H:AHeap)(K:dO->AHeap->Prop)(F:List Nat):SOut->Prop
 | .op o=>o.cond/\chk sp i F acc/\kQ P md ops sp n0 (i+1) rest ((i,F) :: acc) (nB e dst o.val) o.heap K
 | .call f args=>pZ P md ops sp n0 i rest acc e dst K f args H
 | .gop t g o=>(t=true->g=true)/\(t=true->o.cond/\o.heap=H)/\chk sp i F acc/\kQ P md ops sp n0 (i+1) rest ((i,F) :: acc) (nB e dst (.opt t o.val)) H K
 | .gcall t g f args=>(t=true->g=true)/\wU P md ops sp n0 i rest acc e dst K t f args H
 | .bad=>False
theorem S7 (P:Program)(md:Nat->Bool)(ops:Array Oper)(q:List (Nat × Nat))(n i:Nat)(o:Oper)(k:List Oper)(m:List (Nat × List Nat))(e:dO)(H:AHeap)(K:dO->AHeap->Prop) :
  kQ P md ops q n i (o :: k) m e H K=u7 P md ops q n i k m e o.dst H K (Me (n+i) e o) (oQ P md (n+i) ops e o H):=by
 obtain ⟨dst,op,type,pos,after,guard⟩:=o;cases guard with
 | none =>
  simp only [kQ,rD,oQ,Me];cases s:iQ e { dst:=dst,op:=op,type:=type,pos:=pos,after:=after,guard:=none } with
  | none=>simp [M7,u7]
  | some p=>simp [M7,u7,pZ]
 | some p =>
  obtain ⟨j,b⟩:=p;simp only [kQ,rD,oQ,Me];cases u:gD ops e j with
  | none=>simp [Kn,u7]
  | some gc =>
   obtain ⟨t,v⟩:=gc;cases s:iQ (gE e op) { dst:=dst,op:=op,type:=type,pos:=pos,after:=after,guard:=some (j,b) } with
   | none=>simp [Kn,u7]
   | some p=>simp [Kn,u7,wU]
@[go_sem] theorem abV (P:Program)(md:Nat->Bool)(ops:Array Oper)(sp:List (Nat × Nat))(n0 i:Nat)(acc:List (Nat × List Nat))(e:dO)(H:AHeap)(K:dO->AHeap->Prop):kQ P md ops sp n0 i [] acc e H K=K e H:=rfl
section
variable (P:Program) (md:Nat→Bool) (ops:Array Oper) (sp:List (Nat × Nat)) (n0 i:Nat) (rest:List Oper) (acc:List (Nat × List Nat)) (e:dO) (dst:Option Tmp) (H H':AHeap) (K:dO→AHeap→Prop) (F:List Nat) (c f:Prop) (v:D) (t g:Bool) (fn:FuncId) (args:Xa2)
@[go_sem] theorem ac3:u7 P md ops sp n0 i rest acc e dst H K F (.op ⟨c,f,v,H'⟩)=(c/\chk sp i F acc/\kQ P md ops sp n0 (i+1) rest ((i,F) :: acc) (nB e dst v) H' K):=rfl
@[go_sem] theorem ZB:u7 P md ops sp n0 i rest acc e dst H K F (.call fn args)=pZ P md ops sp n0 i rest acc e dst K fn args H:=rfl
@[go_sem] theorem abJ:u7 P md ops sp n0 i rest acc e dst H K F (.gop t g ⟨c,f,v,H'⟩) =
 ((t=true->g=true)/\(t=true->c/\H'=H)/\chk sp i F acc/\kQ P md ops sp n0 (i+1) rest ((i,F) :: acc) (nB e dst (.opt t v)) H K):=rfl
@[go_sem] theorem YV:u7 P md ops sp n0 i rest acc e dst H K F (.gcall t g fn args)=((t=true->g=true)/\wU P md ops sp n0 i rest acc e dst K t fn args H):=rfl
@[go_sem] theorem ZK (d:Option Tmp)(op:Op)(ty:TypeId)(p:String)(af:Array Edge)(gu:Option (Nat × Bool)) :
 kQ P md ops sp n0 i (⟨d,op,ty,p,af,gu⟩ :: rest) acc e H K=u7 P md ops sp n0 i rest acc e d H K (Me (n0+i) e ⟨d,op,ty,p,af,gu⟩) (oQ P md (n0+i) ops e ⟨d,op,ty,p,af,gu⟩ H):=S7 P md ops sp n0 i _ rest acc e H K
@[go_sem] theorem ahN:chk [] i F acc=True:=rfl
end
@[go_sem] theorem afR (p:Nat × Nat)(sp:List (Nat × Nat))(i:Nat)(F:List Nat)(acc:List (Nat × List Nat)):chk (p :: sp) i F acc = ∀ q∈acc,(q.1,i)∈(p :: sp)->∀ x∈q.2,x∉F:=rfl
@[go_sem] theorem abA (nid:Nat)(e:dO)(d:Option Tmp)(op:Op)(ty:TypeId)(p:String)(af:Array Edge):Me nid e ⟨d,op,ty,p,af,none⟩=foot nid e op:=rfl
@[go_sem] theorem aa9 (nid:Nat)(e:dO)(d:Option Tmp)(op:Op)(ty:TypeId)(p:String)(af:Array Edge)(g:Nat × Bool):Me nid e ⟨d,op,ty,p,af,some g⟩=foot nid (gE e op) op:=rfl
attribute [go_sem] foot IV sV Op.operands Call.operands
@[go_sem] theorem aaY (k:IntKind)(n:Int):eK (.int k n)=[]:=rfl
@[go_sem] theorem Zz (b:Bool):eK (.bool b)=[]:=rfl
@[go_sem] theorem aaT (b:ByteArray):eK (.str b)=[]:=rfl
@[go_sem] theorem aaX:eK .nil=[]:=rfl
@[go_sem] theorem Zx (es:Xa1):eK (.list es)=[]:=rfl
@[go_sem] theorem aa0 (es:Xa2):eK (.adr es)=[]:=rfl
@[go_sem] theorem Zv:eK .nilp=[]:=rfl
@[go_sem] theorem Zw:eK .nilf=[]:=rfl
@[go_sem] theorem acS (f:FuncId)(l:Xa2):eK (.fn f l)=[]:=rfl
@[go_sem] theorem aaV (id n:Nat):eK (.own id n)=[id]:=rfl
@[go_sem] theorem aaR (id n lo hi:Nat):eK (.win id n lo hi)=[id]:=rfl
@[go_sem] theorem aaU (id v i o:Nat):eK (.ptr id v i o)=[id]:=rfl
@[go_sem] theorem aaZ (l:Xa2):eK (.agg l)=l.flatMap mC:=rfl
@[go_sem] theorem aaW (t:Bool)(d:D):eK (.opt t d)=[]:=rfl
@[go_sem] theorem Zy:eK .junk=[]:=rfl
@[go_sem] theorem aaS (l:Xa2):eK (.tup l)=[]:=rfl
/-! ### guards -/
def gV:D->Option (Bool × Bool)
 | .bool c=>some (true,c)
 | .opt g (.bool c)=>some (g,c)
 | _=>none
def gT (e:dO):Option Tmp->Option (Bool × Bool)
 | some t=>gV (e t)
 | none=>none
@[go_sem] theorem ahI (e:dO)(t:Nat):gT e (some t)=gV (e t):=rfl
@[go_sem] theorem ahH (c:Bool):gV (.bool c)=some (true,c):=rfl
@[go_sem] theorem aiZ (g c:Bool):gV (.opt g (.bool c))=some (g,c):=rfl
section
variable (P:Program) (md:Nat→Bool) (nid:Nat) (ops:Array Oper) (e:dO) (d:Option Tmp) (op:Op) (ty:TypeId) (p:String) (af:Array Edge) (H:AHeap) (j:Nat) (b:Bool)
@[go_sem] theorem ZV:oQ P md nid ops e ⟨d,op,ty,p,af,some (j,b)⟩ H =
 Kn (gD ops e j) b (VU e (gO op)) (iQ (gE e op) ⟨d,op,ty,p,af,none⟩) (Hh P nid md (gE e op) ⟨d,op,ty,p,af,none⟩ H):=rfl
@[go_sem] theorem ai0 (l:List Oper):gD l.toArray e j=gT e ((l[j]?).bind (·.dst)):=by grind [gD, gT, gV]
end
@[go_sem] theorem ab5 (t c b g:Bool)(f:FuncId)(args:Xa2)(o:AOut):Kn (some (t,c)) b g (some (f,args)) o=.gcall (t&&(c==b)) g f args:=rfl
@[go_sem] theorem agE (t c b g:Bool)(o:AOut):Kn (some (t,c)) b g none o=.gop (t&&(c==b)) g o:=rfl
attribute [go_sem] gE gO Operand.tmp.injEq VU og iQ Hh Option.bind_some mH Kb fP CG beq_false beq_true beq_self_eq_true
 dG Bool.and_self CF GR
@[go_sem] theorem ab2 (e:dO)(d:Option Tmp)(v:D)(t:Nat):F3 (nB e d v) t=match nB e d v t with | .opt _ d=>d|d=>d:=rfl
@[go_sem] theorem ZT (l:Xa2)(t:Nat):F3 (D7 l) t=match D7 l t with | .opt _ d=>d|d=>d:=rfl
section
variable {P:Program} {md:Nat→Bool} {ops:Array Oper} {sp:List (Nat × Nat)} {n0 i:Nat} {rest:List Oper} {acc:List (Nat × List Nat)} {e:dO} {dst:Option Tmp} {K:dO→AHeap→Prop} {f:FuncId} {args args':Xa2} {H:AHeap} {r:D}
theorem Mw:chk sp i [] acc:=by
 unfold chk;grind
theorem aJ (hp:Pure P f args r)(hcl:D.N args=true)(h:kQ P md ops sp n0 (i+1) rest ((i,[]) :: acc) (nB e dst r) H K):pZ P md ops sp n0 i rest acc e dst K f args H :=
 .inl ⟨r,[],λH' _=>tY hp hcl ⟨rfl,rfl⟩,Mw,h⟩
theorem b9 {t:Bool}(hp:t=true->Pure P f args r)(hcl:t=true->D.N args=true)(h:kQ P md ops sp n0 (i+1) rest ((i,[]) :: acc) (nB e dst (.opt t r)) H K):wU P md ops sp n0 i rest acc e dst K t f args H :=
 ⟨r,[],λht H' _=>tY (hp ht) (hcl ht) ⟨rfl,rfl⟩,Mw,h⟩
theorem aN {t:Bool}(b:t=true->Pure P f args r)(a:t=true->D.N args=true)(h:oM P md ops rest (nB e dst (.opt t r)) H K):Bp P md ops rest e dst K t f args H:=by
 unfold Bp;exact .inl ⟨r,[],λht H' _=>tY (b ht) (a ht) ⟨rfl,rfl⟩,h⟩
theorem zN {S:List Nat}{H':AHeap}(c:gQ S H' H){d:D}(b:∀ x∈mC d,x∈S):fM H' d=fM H d:=by
 cases d<;>try rfl
 .rename_i a n;have:=c a (b a (by simp [mC]));simp only [fM,this]
 .rename_i a n e f;have:=c a (b a (by simp [mC]));simp only [fM,this]
theorem Ik {S:List Nat}{H':AHeap}(b:gQ S H' H){d:D}(a:∀ x∈eE d,x∈S):jN H' d=jN H d:=by
 cases d<;>try rfl
 case own id n=>exact zN (d:=.own id n) b a
 case win id n lo hi=>exact zN (d:=.win id n lo hi) b a
 case agg l =>
  simp only [jN];congr 1;exact bY λx e=>zN b λy c=>a y (by simp only [eE,bM];exact ⟨x,e,c⟩)
theorem Dd {S:List Nat}{H':AHeap}(ha:gQ S H' H){l:Xa2}(hd:∀ x∈l.flatMap eE,x∈S):l.map (jN H')=l.map (jN H) :=
 bY λd hm=>Ik ha λx hx=>hd x (bM.2 ⟨d,hm,hx⟩)
theorem KQ {t:Bool}(c:t=true->Pure P f args' r)(j:args.map (jN H)=args')(a:t=true->D.N args'=true)(d:t=true->r.flat=true){S:List Nat}(k:args.flatMap eE=S)(g:chk sp i S acc)
  (h:kQ P md ops sp n0 (i+1) rest ((i,S) :: acc) (nB e dst (.opt t r)) H K):wU P md ops sp n0 i rest acc e dst K t f args H:=by
 subst j k;refine ⟨r,_,λht H' hag=>?_,g,h⟩;have b:=Dd hag λx hx=>hx;exact Ag (by rw [b];exact c ht) (by rw [b];exact a ht) (d ht) ⟨rfl,rfl⟩
theorem NU {t:Bool}(c:t=true->Pure P f args' r)(g:args.map (jN H)=args')(a:t=true->D.N args'=true)(d:t=true->r.flat=true)
  (h:oM P md ops rest (nB e dst (.opt t r)) H K):Bp P md ops rest e dst K t f args H:=by
 subst g;unfold Bp;refine .inl ⟨r,args.flatMap eE,λht H' hag=>?_,h⟩;have b:=Dd hag λx hx=>hx;exact Ag (by rw [b];exact c ht) (by rw [b];exact a ht) (d ht) ⟨rfl,rfl⟩
end
/-! ### calls of function values -/
def Ub:D->Xa2->Option (FuncId × Xa2)
 | .fn g caps,az=>some (g,az++caps)
 | _,_=>none
@[go_sem] theorem afS (g:FuncId)(caps az:Xa2):Ub (.fn g caps) az=some (g,az++caps):=rfl
theorem SW (e:dO)(d:Option Tmp)(f:Operand)(args:Array Operand)(ts:Array TypeId)(ty:TypeId)(p:String)(a:Array Edge)(g:Option (Nat × Bool)) :
  iQ e ⟨d,.call ⟨.value f,args,ts⟩,ty,p,a,g⟩=Ub (fI e f) (args.toList.map (fI e)):=by grind [iQ, Ub]
@[go_sem] theorem agI (P:Program)(md:Nat->Bool)(nid:Nat)(ops:Array Oper)(e:dO)(d:Option Tmp)(ty:TypeId)(p:String)(a:Array Edge)(H:AHeap)(t:Nat)(args:Array Operand)(ts:Array TypeId) :
  oQ P md nid ops e ⟨d,.call ⟨.value (.tmp t),args,ts⟩,ty,p,a,none⟩ H=M7 (Ub (e t) (args.toList.map (fI e))) (.bad H):=by
 simp only [oQ,SW];rfl
attribute [go_sem] decide_eq_true_eq fT eV
attribute [irreducible] pZ wU
end Go.Abs
end
section
namespace Go.Abs
attribute [go_sem] D.cell D.U D.N D.T D.flat D.bu uN tB kV List.take_zero List.drop_succ_cons List.drop_zero mU List.replicate_zero fB List.flatten_nil
def dI (n:Int):D:=.int .i64 n
def cI (n:Int):Xa2:=[.int .i64 n]
def cS (s:ByteArray):Xa2:=[.str s]
def dLI (xs:Xa0):D:=.list (xs.map cI)
def wV (xs:List ByteArray):D:=.list (xs.map cS)
structure Attr where
 name:ByteArray
 am:Int
 aw:Int
 ae:List ByteArray
def Attr.c (a:Attr):Xa2:=[.str a.name,dI a.am,dI a.aw,wV a.ae]
structure NodeTy where
 name:ByteArray
 I:Int
 cO:Bool
 w:List Attr
def NodeTy.c (n:NodeTy):Xa2:=[.str n.name,dI n.I,.bool n.cO,.list (n.w.map Attr.c)]
structure EdgeTy where
 name:ByteArray
 from_:Int
 L:Int
 bo:Int
 bg:Int
 b4:Int
 bp:Int
def EdgeTy.c (x:EdgeTy):Xa2:=[.str x.name,dI x.from_,dI x.L,dI x.bo,dI x.bg,dI x.b4,dI x.bp]
structure Types where
 i:List NodeTy
 j:List EdgeTy
def Types.c (t:Types):Xa2:=[.list (t.i.map NodeTy.c),.list (t.j.map EdgeTy.c)]
def Types.d (t:Types):D:=.agg t.c
structure Edge where
 type:Int
 from_:Int
 L:Int
def Edge.c (x:Edge):Xa2:=[dI x.type,dI x.from_,dI x.L]
structure Graph where
 i:Xa0
 j:List Edge
def Graph.c (g:Graph):Xa2:=[dLI g.i,.list (g.j.map Edge.c)]
def Graph.d (g:Graph):D:=.agg g.c
/-! ### closed -/
theorem dL {α:Type}(f:α->Xa2)(h:∀ a,D.N (f a)=true)(l:List α):D.T (l.map f)=true:=by
 induction l with
 | nil=>rfl
 | cons a l ih=>simp [D.T,h,ih]
@[go_sem] theorem pA (l:Xa0):(dLI l).U=true:=by simp only [dLI,D.U];exact dL _ (λ_=>rfl) l
@[go_sem] theorem Xl (l:List ByteArray):(wV l).U=true:=by simp only [wV,D.U];exact dL _ (λ_=>rfl) l
@[go_sem] theorem Attr.U (a:Attr):D.N a.c=true:=by simp [Attr.c,D.N,D.U,dI,Xl]
@[go_sem] theorem NodeTy.U (n:NodeTy):D.N n.c=true:=by simp [NodeTy.c,D.N,D.U,dI,dL _ Attr.U]
@[go_sem] theorem EdgeTy.U (x:EdgeTy):D.N x.c=true:=by simp [EdgeTy.c,D.N,D.U,dI]
@[go_sem] theorem Types.U (t:Types):t.d.U=true:=by simp [Types.d,Types.c,D.N,D.U,dL _ NodeTy.U,dL _ EdgeTy.U]
@[go_sem] theorem Edge.U (x:Edge):D.N x.c=true:=by simp [Edge.c,D.N,D.U,dI]
@[go_sem] theorem Graph.U (g:Graph):g.d.U=true:=by simp [Graph.d,Graph.c,D.N,D.U,pA,dL _ Edge.U]
@[go_sem] theorem adG (a b:D)(l:Xa2):HP (a :: b :: l)=.tup (a :: b :: l):=rfl
end Go.Abs
end
section
namespace Go.Abs
structure Term where
 var:Int
 add:Int
def Term.c (x:Term):Xa2:=[dI x.var,dI x.add]
structure Slot where
 node:Int
 Q:Int
 E:Term
def Slot.c (x:Slot):Xa2:=[dI x.node,dI x.Q,dI x.E.var,dI x.E.add]
structure Test where
 kind:Int
 left:Term
 right:Term
def Test.c (x:Test):Xa2:=[dI x.kind,dI x.left.var,dI x.left.add,dI x.right.var,dI x.right.add]
structure Pattern where
 o:Graph
 q:List Slot
 vars:Int
 R:List Test
def Pattern.c (p:Pattern):Xa2:=[dLI p.o.i,.list (p.o.j.map Edge.c),.list (p.q.map Slot.c),dI p.vars,.list (p.R.map Test.c)]
def Pattern.d (p:Pattern):D:=.agg p.c
structure Part where
 i:Xa0
 j:Xa0
def Part.c (p:Part):Xa2:=[dLI p.i,dLI p.j]
def Part.d (p:Part):D:=.agg p.c
inductive Cond where
 | mk (kind:Int) (kids:List Cond) (map:Part) (pattern:Pattern)
def Cond.kind:Cond->Int | .mk k _ _ _=>k
def Cond.y:Cond->List Cond | .mk _ l _ _=>l
def Cond.map:Cond->Part | .mk _ _ m _=>m
def Cond.u:Cond->Pattern | .mk _ _ _ p=>p
mutual
def Cond.c:Cond->Xa2
 | .mk k l m p=>[dI k,.list (Cond.cs l),dLI m.i,dLI m.j,dLI p.o.i,.list (p.o.j.map Edge.c),.list (p.q.map Slot.c),dI p.vars,.list (p.R.map Test.c)]
def Cond.cs:List Cond->Xa1
 | []=>[]
 | c :: l=>c.c :: Cond.cs l
end
theorem Cond.be (l:List Cond):Cond.cs l=l.map Cond.c:=by
 induction l with
 | nil=>simp [Cond.cs]
 | cons a l ih=>simp [Cond.cs,ih]
theorem Cond.F (x:Cond):x.c=[dI x.kind,.list (x.y.map Cond.c),dLI x.map.i,dLI x.map.j,dLI x.u.o.i,.list (x.u.o.j.map Edge.c),.list (x.u.q.map Slot.c),dI x.u.vars,.list (x.u.R.map Test.c)]:=by
 cases x;simp [Cond.c,Cond.kind,Cond.y,Cond.map,Cond.u,Cond.be]
structure Rule where
 name:ByteArray
 left:Pattern
 right:Pattern
 G:Part
 O:Part
 inj:Bool
 cond:Cond
def Rule.c (r:Rule):Xa2:=[.str r.name,dLI r.left.o.i,.list (r.left.o.j.map Edge.c),.list (r.left.q.map Slot.c),dI r.left.vars,.list (r.left.R.map Test.c),
 dLI r.right.o.i,.list (r.right.o.j.map Edge.c),.list (r.right.q.map Slot.c),dI r.right.vars,.list (r.right.R.map Test.c),
 dLI r.G.i,dLI r.G.j,dLI r.O.i,dLI r.O.j,.bool r.inj,
 dI r.cond.kind,.list (r.cond.y.map Cond.c),dLI r.cond.map.i,dLI r.cond.map.j,dLI r.cond.u.o.i,.list (r.cond.u.o.j.map Edge.c),.list (r.cond.u.q.map Slot.c),dI r.cond.u.vars,.list (r.cond.u.R.map Test.c)]
def Rule.d (r:Rule):D:=.agg r.c
structure Stage where
 dj:Xa0
 dl:Xa0
def Stage.c (s:Stage):Xa2:=[dLI s.dj,dLI s.dl]
@[go_sem] theorem Slot.U (x:Slot):D.N x.c=true:=rfl
@[go_sem] theorem Test.U (x:Test):D.N x.c=true:=rfl
@[go_sem] theorem H8 (l:List Slot):D.T (l.map Slot.c)=true:=dL _ Slot.U l
@[go_sem] theorem OO (l:List Test):D.T (l.map Test.c)=true:=dL _ Test.U l
@[go_sem] theorem Stage.U (x:Stage):D.N x.c=true:=by simp [Stage.c,D.N,pA]
@[go_sem] theorem ab3 (l:List Stage):D.T (l.map Stage.c)=true:=dL _ Stage.U l
theorem yY (l:List Edge):D.T (l.map Edge.c)=true:=dL _ Edge.U l
mutual
theorem Cond.U:∀ x:Cond,D.N x.c=true
 | .mk k l m p=>by
  have:=Cond.cj l;simp [Cond.c,D.N,D.U,dI,pA,this,yY,H8,OO]
theorem Cond.cj:∀ l:List Cond,D.T (Cond.cs l)=true
 | []=>by simp [Cond.cs,D.T]
 | c :: l=>by simp [Cond.cs,D.T,Cond.U c,Cond.cj l]
end
attribute [go_sem] Cond.U
@[go_sem] theorem Xm (l:List Cond):D.T (l.map Cond.c)=true:=by rw [<- Cond.be];exact Cond.cj l
@[go_sem] theorem Rule.U (r:Rule):D.N r.c=true:=by
 simp [Rule.c,D.N,D.U,dI,pA,yY,H8,OO,Xm]
@[go_sem] theorem adN (l:List Rule):D.T (l.map Rule.c)=true:=dL _ Rule.U l
end Go.Abs
end
section
namespace Go.Abs
def Fa (H:AHeap)(d:D):D :=
 match d with
 | .ptr id ver i off=>match fW H (.ptr id ver i off) with
  | some (c :: cs)=>.adr (c :: cs)
  | _=>.ptr id ver i off
 | d=>fM H d
def W4:D->List Nat
 | .ptr id _ _ _=>[id]
 | d=>mC d
def G0 (H:AHeap)(d:D):D :=
 match d with
 | .fn g caps=>.fn g (caps.map (Fa H))
 | .ptr id ver i off=>Fa H (.ptr id ver i off)
 | d=>jN H d
def Sk:D->List Nat
 | .fn _ caps=>caps.flatMap W4
 | .ptr id _ _ _=>[id]
 | d=>eE d
section
variable {P:Program} {M0:Nat→Prop} {H:AHeap} {σ:Nat→Option Ow} {w:World}
theorem Ek {H H':AHeap}(h:∀ i,(H'.get i).map (·.es)=(H.get i).map (·.es))(d:D):fW H' d=fW H d:=by
 cases d<;>try rfl
 rename_i c a i b;simp only [fW];grind
theorem AY {v:Value}{d:D}(s:Rel M0 H σ w)(m:RepV (dK M0 H σ) σ H.J w v d)(G:∀ i∈W4 d,∀ k,H.get i=some k->k.fz=true) :
  RepV (dK M0 H σ) σ H.J w v (Fa H d):=by
 cases d<;>try exact oC s m G
 rename_i g ver i t;simp only [Fa];cases B:fW H (.ptr g ver i t) with
 | none=>exact m
 | some I =>
  cases I with
  | nil=>exact m
  | cons c I =>
   obtain ⟨J,K,M,a,Q,e⟩:=sE s m B bS;subst M;have A:¬ dK M0 H σ J.block:=by
    cases q:H.get g with
    | none=>simp [fW,q] at B
    | some k =>
     obtain ⟨o,z,l⟩:=s.ah g k q;have F:k.es.length=ver:=by
      simp only [fW,q] at B;grind
     cases m
     rename_i S P h;rcases h o z with T|⟨_,b,n,x⟩
     .have:=l.af;omega
     .cases x
      rintro (N|⟨E,R,L,p,r,y,C⟩)
      .exact (s.lt g o b z n).2 N
      .have O:=s.inj E g L o b y z C n;subst O;rw [q] at p;cases p
       rw [G E (by simp [W4]) k q] at r;cases r
   exact .adr J K _ a.len Q (λj u hu=>⟨A,e j u hu⟩) a.Y
theorem Gb {v:Value}{d:D}(p:Rel M0 H σ w)(e:RepV (dK M0 H σ) σ H.J w v d)(a:List Nat)(h:∀ i∈Sk d,i∈a) :
  RepV (dK M0 (fH a H) σ) σ (fH a H).J w v (G0 H d):=by
 obtain ⟨q,B,C,n⟩:=fQ a p;have c:=e.G B;have f:∀ i∈a,∀ k,(fH a H).get i=some k->k.fz=true:=λi h k hk=>by
  have m:=(n i).1;rw [hk] at m;cases l:H.get i with
  | none=>rw [l] at m;cases m
  | some k0 =>
   grind
 have b:∀ d,Fa (fH a H) d=Fa H d:=λd=>by
  have z:=rN (λi=>(n i).1) d;cases d with
  | ptr id ver i off=>simp only [Fa,Ek (λi=>(n i).1)]
  | _=>exact z
 cases d with
 | fn g caps =>
  cases c
  rename_i r A t;refine .fn g r _ (cG A) λj u x hu e=>?_;rw [aW,bQ] at e;obtain ⟨y,s,rfl⟩:=e;rw [<- b y];refine AY q (t j u y hu s) λi hii k hk=>f i (h i ?_) k hk;simp only [Sk,bM];grind
 | ptr id ver i off =>
  simp only [G0];rw [<- b];exact AY q c λi hii k hk=>f i (h i hii) k hk
 | _=>exact oB p e a h
theorem UI {vals:List Value}{args:Xa2}(hR:Rel M0 H σ w)(ha:RepL (dK M0 H σ) σ H.J w vals args)(ids:List Nat)(hi:∀ i∈args.flatMap Sk,i∈ids) :
  RepL (dK M0 (fH ids H) σ) σ (fH ids H).J w vals (args.map (G0 H)) :=
 ⟨by simpa using ha.len,λj u d hu hd=>by
  rw [aW,bQ] at hd;obtain ⟨y,hy,rfl⟩:=hd;exact Gb hR (ha.Y j u y hu hy) ids λi hii=>hi i (bM.2 ⟨y,aK hy,hii⟩)⟩
theorem Ou {f:FuncId}{args:Xa2}{r:D}{Q:D->AHeap->Prop}(c:Pure P f (args.map (G0 H)) r)(b:D.N (args.map (G0 H))=true)(g:r.flat=true)(k:Q r H):ACalls P f args H Q:=by
 refine ⟨c.1,λM0 σ w vals hR ha=>?_⟩;obtain ⟨o,s,q,p⟩:=fQ (args.flatMap Sk) hR;refine (c.2 (dK M0 (fH (args.flatMap Sk) H) σ) w vals (rS o) (iE (λ_ h=>h) (UI hR ha _ λi h=>h) b)).mono λe w' ⟨v,j,d,a⟩=>?_;obtain ⟨n,m,l⟩:=hR.grow a.os a.tape a.output a.size a.block;exact ⟨v,r,H,σ,j,n,yT d g,m,l,k⟩
theorem mP {md:Nat->Bool}{ops:Array Oper}{a:List Oper}{e:dO}{b:Option Tmp}{K:dO->AHeap->Prop}{f:FuncId}{args args':Xa2}{r:D}(d:Pure P f args' r)(i:args.map (G0 H)=args')(c:D.N args'=true)(g:r.flat=true)
 (h:oM P md ops a (nB e b r) H K):dQ P md ops a e b K f args H:=by grind [dQ, Ou]
end
theorem Own.pure {P:Program}{f:FuncId}{args:Xa2}{ty:TypeId}{sz:Nat}{es:Xa1}(h:Own P f args ty sz es):Pure P f args (.list es):=by
 refine ⟨h.1,λM w vals hM ha=>(h.2 M w vals hM ha).mono λe w' ⟨v,z,C,k,F,m,x,s,E⟩=>⟨v,C,?_,E⟩⟩;have o:D.N es.flatten=true:=EE λd hd=>by
  obtain ⟨c,l,q⟩:=iI.1 hd;exact iR (p8 x c l) d q
 have a:RepL M g9 pT w' z es.flatten:=iE (λb h h'=>h (.inl h')) m o;rcases k.2 with ⟨n,G⟩|⟨g,y,H,i,I,p,t,l,B,r⟩
 .rw [n,bI G];exact .listN
 .rw [i];refine .list ⟨g,0,none⟩ y sz z es t l s a.len F (λj u hu=>⟨λhm=>?_,k.cells (g:=g) (by simp [i,Value.ownBlock]) j u hu⟩) a.Y;grind
end Go.Abs
end
section
namespace Go.Abs
def U7:D->D
 | .nil=>.list []
 | d=>d
def XT:D->D
 | .agg cs=>.agg (cs.map U7)
 | d=>U7 d
def VV:D->D
 | .tup vs=>.tup (vs.map XT)
 | d=>XT d
@[go_sem] theorem ag5 (k:IntKind)(n:Int):U7 (.int k n)=.int k n:=rfl
@[go_sem] theorem aeV (b:Bool):U7 (.bool b)=.bool b:=rfl
@[go_sem] theorem ag3 (b:ByteArray):U7 (.str b)=.str b:=rfl
@[go_sem] theorem aeU (l:Xa1):U7 (.list l)=.list l:=rfl
@[go_sem] theorem ag4:U7 .nil=.list []:=rfl
@[go_sem] theorem ag1 (k:IntKind)(n:Int):XT (.int k n)=.int k n:=rfl
@[go_sem] theorem aeT (b:Bool):XT (.bool b)=.bool b:=rfl
@[go_sem] theorem agZ (b:ByteArray):XT (.str b)=.str b:=rfl
@[go_sem] theorem aeS (l:Xa1):XT (.list l)=.list l:=rfl
@[go_sem] theorem ag0:XT .nil=.list []:=rfl
@[go_sem] theorem ag2 (l:Xa2):XT (.agg l)=.agg (l.map U7):=rfl
@[go_sem] theorem agX (k:IntKind)(n:Int):VV (.int k n)=.int k n:=rfl
@[go_sem] theorem aeR (b:Bool):VV (.bool b)=.bool b:=rfl
@[go_sem] theorem agV (b:ByteArray):VV (.str b)=.str b:=rfl
@[go_sem] theorem aeQ (l:Xa1):VV (.list l)=.list l:=rfl
@[go_sem] theorem agW:VV .nil=.list []:=rfl
@[go_sem] theorem agY (l:Xa2):VV (.agg l)=.agg (l.map U7):=rfl
@[go_sem] theorem agU (l:Xa2):VV (.tup l)=.tup (l.map XT):=rfl
theorem NB {M:Nat->Prop}{σ:Nat->Option Ow}{N:Nat->Prop}{w:World}{v:Value}{d:D}(h:RepV M σ N w v d):RepV M σ N w v (U7 d):=by
 cases d<;>try exact h
 cases h
 exact .listN
theorem TC {M:Nat->Prop}{σ:Nat->Option Ow}{N:Nat->Prop}{w:World}{v:Value}{d:D}(h:RepV M σ N w v d):RepV M σ N w v (XT d):=by
 cases d<;>try exact NB h
 cases h
 rename_i a f e c;refine .agg a _ (cG e) f λj u d hu hd=>?_;rw [aW,bQ] at hd;obtain ⟨y,b,rfl⟩:=hd;exact NB (c j u y hu b)
theorem Yv {M:Nat->Prop}{σ:Nat->Option Ow}{N:Nat->Prop}{w:World}{v:Value}{d:D}(h:RepV M σ N w v d):RepV M σ N w v (VV d):=by
 cases d<;>try exact TC h
 cases h
 rename_i a e c;refine .tup a _ (cG e) λj u d hu hd=>?_;rw [aW,bQ] at hd;obtain ⟨y,b,rfl⟩:=hd;exact TC (c j u y hu b)
section
variable {P:Program} {c:Cfg}
theorem Tp {f:FuncId}{args:Xa2}{r:D}(g:r.U=true)(h:∀ Q:D->AHeap->Prop,(∀ d H',(sL H' d=r\/VV (sL H' d)=r)->Q d H')->ACalls P f args .ak Q):Pure P f args r:=by
 have h:=h (λd H'=>sL H' d=r\/VV (sL H' d)=r) λ_ _ h=>h;refine ⟨h.1,λM w vals hM ha=>(h.2 M g9 w vals (Ho M w hM) (by rw [Hu];exact ha)).mono λe w' ⟨v,d,H',σ',k,m,j,c,o,b⟩=>⟨v,k,?_,BJ c⟩⟩;have n:RepV (dK M (fH (Fk d) H') σ') σ' (fH (Fk d) H').J w' v r:=by
  have a:=v8 m j (Fk d) λi hi=>hi;rcases b with b|b
  .rw [b] at a;exact a
  .have a:=Yv a;rw [b] at a;exact a
 exact n.closed (λad u hm l=>⟨λh=>hm (.inl h),l⟩) g
theorem aiA {f:FuncId}{args:Xa2}{ty:TypeId}{sz:Nat}{es:Xa1}(hcl:D.T es=true)
  (h:∀ Q:D->AHeap->Prop,(∀ id n H',n=es.length->H'.get id=some ⟨ty,sz,es,false⟩->Q (.own id n) H')->ACalls P f args .ak Q):Own P f args ty sz es :=
 DL (h _ λid n H' hn hg=>⟨id,_,by rw [hn],hg,rfl,rfl,rfl,rfl,hcl⟩)
def Aj (I:Nat->dO->AHeap->Prop)(m:Nat->Nat)(x:Nat)(e:dO)(H:AHeap):Prop:=∃ e' H',GhE e H e' H'/\∃ x',m x'<m x/\I x' e' H'
theorem gU {I:Nat->dO->AHeap->Prop}{m:Nat->Nat}{x:Nat}{e:dO}{H:AHeap}(x':Nat)(hm:m x'<m x)(hI:I x' e H):Aj I m x e H:=⟨e,H,.gh (.refl H),x',hm,hI⟩
theorem IT {I:Nat->dO->AHeap->Prop}{m:Nat->Nat}{x:Nat}{e:dO}{H H':AHeap}(hg:Ghosts H H')(x':Nat)(hm:m x'<m x)(hI:I x' e H'):Aj I m x e H:=⟨e,H',.gh hg,x',hm,hI⟩
theorem DP {I:Nat->dO->AHeap->Prop}{m:Nat->Nat}{x:Nat}{e:dO}{H:AHeap}(t id n:Nat)(k:Blk)(he:e t=.own id n)(hk:H.get id=some k)(hn:k.es.length=n)(x':Nat)(hm:m x'<m x)(hI:I x' (nB e (some t) (.list k.es)) (H.frz id)):Aj I m x e H:=⟨_,_,.frz (.gh (.refl H)) t id n k he hk hn,x',hm,hI⟩
theorem tI {b:Code}{Q:Exit->dO->AHeap->Prop}{e:dO}{H:AHeap}(I:Nat->dO->AHeap->Prop)(μ:Nat->Nat)(x0:Nat)(h0:I x0 e H)
 (hs:∀ x e H,I x e H->pM P c b (sK (Aj I μ x) Q) e H):yN P c b Q e H:=tS (.gh (.refl H)) I μ x0 h0 hs
theorem aaI {b:Code}{Q:Exit->dO->AHeap->Prop}{e:dO}{H H':AHeap}(hg:Ghosts H H')(I:Nat->dO->AHeap->Prop)(μ:Nat->Nat)(x0:Nat)(h0:I x0 e H')
 (hs:∀ x e H,I x e H->pM P c b (sK (Aj I μ x) Q) e H):yN P c b Q e H:=tS (.gh hg) I μ x0 h0 hs
theorem aaJ {b:Code}{Q:Exit->dO->AHeap->Prop}{e:dO}{H:AHeap}(t id n:Nat)(k:Blk)(he:e t=.own id n)(hk:H.get id=some k)(hn:k.es.length=n)(I:Nat->dO->AHeap->Prop)(μ:Nat->Nat)(x0:Nat)(h0:I x0 (nB e (some t) (.list k.es)) (H.frz id))
 (hs:∀ x e H,I x e H->pM P c b (sK (Aj I μ x) Q) e H):yN P c b Q e H:=tS (.frz (.gh (.refl H)) t id n k he hk hn) I μ x0 h0 hs
theorem aaH {b:Code}{Q:Exit->dO->AHeap->Prop}{e:dO}{H:AHeap}(t q hi:Nat)(k:Blk)(he:e t=.win q k.es.length 0 hi)(hk:H.get q=some k)(hf:k.fz=false)(I:Nat->dO->AHeap->Prop)(μ:Nat->Nat)(x0:Nat)(h0:I x0 (nB e (some t) (.own H.next hi)) ((H.drop q).push H.next ⟨k.ty,k.sz,k.es.take hi,false⟩))
 (hs:∀ x e H,I x e H->pM P c b (sK (Aj I μ x) Q) e H):yN P c b Q e H:=tS (.trv (.gh (.refl H)) t q hi k he hk hf) I μ x0 h0 hs
end
@[go_sem] theorem acY (H:AHeap)(id i off:Nat)(ty sz:Nat):qE H id i off ty sz=match H.get id with
 | some k=>(H.put id { k with es:=k.es.set i ((k.es[i]?.getD []).set off (.own H.next 0)) }).push H.next ⟨ty,sz,[],false⟩
 | none=>H:=rfl
@[go_sem] theorem aa6 (H:AHeap)(id i off q hi:Nat):C0 H id i off q hi=match H.get id,H.get q with
 | some k,some kq=>(((H.drop q).push H.next ⟨kq.ty,kq.sz,kq.es.take hi,false⟩).put id { k with es:=k.es.set i ((k.es[i]?.getD []).set off (.own H.next hi)) })
 | _,_=>H:=rfl
attribute [go_sem] nW xT
attribute [irreducible] Aj
theorem iV {p:Prop}(h:p:=by (first|assumption|(intros;first|assumption|omega|exact dE bL bL|(and_intros<;>first|assumption|omega|exact dE bL bL))|(simp_all<;>omega))):p:=h
theorem fY {p:Prop}(h:p:=by (first|assumption|(intros;first|assumption|omega|exact dE bL bL|(and_intros<;>first|assumption|omega|exact dE bL bL))|(simp;done)|(simp;omega))):p:=h
end Go.Abs
end
section
namespace Go.Abs
section
variable {P:Program} {M0:Nat→Prop} {H:AHeap} {σ:Nat→Option Ow} {w:World}
theorem BV (zs:Xa0):(zs.map cI).flatten=zs.map (D.int .i64):=by
 induction zs with
 | nil=>rfl
 | cons a l b=>simp only [gA,fB,b,cI];rfl
theorem BM {M:Nat->Prop}{N:Nat->Prop}(zs:Xa0):RepL M σ N w (zs.map (Value.int .i64)) (zs.map cI).flatten:=by
 rw [BV];refine ⟨by simp,λj u d hu hd=>?_⟩;rw [aW,bQ] at hu hd;obtain ⟨x,b,rfl⟩:=hu;obtain ⟨y,a,rfl⟩:=hd;rw [b] at a;cases a
 exact .int _ _
def Hk (w:World)(ty:TypeId)(v:Value)(xs:Xa0):Prop:=w.ownsRow 0 ty 1 v xs.length (xs.map (Value.int .i64))
theorem Tn (x:Rel M0 H σ w){d:Nat}{ty:TypeId}{xs:Xa0}(t:H.get d=some ⟨ty,1,xs.map cI,false⟩){v:Value}(m:RepV (dK M0 H σ) σ H.J w v (.own d xs.length)) :
  ∃ o,σ d=some o/\v=o.val/\o.af=xs.length/\o.ty=ty/\o.K=1/\Hk w ty v xs:=by
 obtain ⟨o,i,l⟩:=x.ah d _ t;have c:o.af=xs.length:=by have:=l.af;simpa using this
 cases m
 rename_i A B h;rcases h o i with C|⟨_,rfl⟩
 .omega
 .obtain ⟨b,g,p,a⟩:=l.row;have n:b=xs.map (Value.int .i64):=by
   simp only [BV] at a;apply fC;intro j;have s:=a.len;simp only [bR] at s;by_cases e:j<xs.length
   .have y:=a.Y j b[j] (D.int .i64 xs[j]) (aA bL) (fg e);generalize b[j]=u at y;have f:b[j]?=some b[j]:=aA bL;have k:=a.Y j b[j] (D.int .i64 xs[j]) f (fg e);generalize z:b[j]=q at f k;rw [f];cases k
    simp [e]
   grind
  refine ⟨o,i,rfl,c,l.ty,l.sz,?_⟩;unfold Hk;have r:o.K=1:=l.sz;grind
theorem O9 {w':World}(n:Rel M0 H σ w){a:Nat}{ty:TypeId}{xs zs:Xa0}(g:Bool)(m:H.get a=some ⟨ty,1,xs.map cI,false⟩){o:Ow}(k:σ a=some o)(e:o.af=xs.length)(h:o.ty=ty)(d:o.K=1)
  (l:zs.length=xs.length) (j:w.grownBy w' o.block) (f:Hk w' ty o.val zs) :
  Rel M0 (H.put a ⟨ty,1,zs.map cI,g⟩) (λi=>if i=a then some o else σ i) w'/\Stp σ w (λi=>if i=a then some o else σ i) w' /\
   Keeps (dK M0 H σ) σ H.J w (dK M0 (H.put a ⟨ty,1,zs.map cI,g⟩) (λi=>if i=a then some o else σ i)) (λi=>if i=a then some o else σ i) (H.put a ⟨ty,1,zs.map cI,g⟩).J w':=by
 refine Rel.put n m rfl k ⟨ty,1,zs.map cI,g⟩ o j (λb hb=>.inl hb) (.inl rfl) (by simp [e,l]) h d (λc hc=>?_) (zs.map (Value.int .i64)) ?_ (λu hu=>?_) (BM zs)
 .obtain ⟨x,_,rfl⟩:=aS.1 hc;rw [d];rfl
 .rw [d];simpa [Hk] using f
 .obtain ⟨x,_,rfl⟩:=aS.1 hu;rfl
theorem QZ {f:FuncId}{i:Nat}{ty:TypeId}{xs zs:Xa0}{Q:D->AHeap->Prop}(h:XZ P f)(n:H.get i=some ⟨ty,1,xs.map cI,false⟩)(r:zs.length=xs.length)
  (t:∀ (w:World) (v:Value),Hk w ty v xs->Calls P f #[v] w λe w'=>e=.returned (.tuple #[])/\w.grownBy w' v.ownBlock/\Hk w' ty v zs)
  (x:Q (.tup []) (H.put i ⟨ty,1,zs.map cI,false⟩)):ACalls P f [.own i xs.length] H Q:=by
 refine ⟨h,λM0 σ w vals hR ha=>?_⟩;obtain ⟨g,p⟩:=ha;match vals,g with
 | [v],_ =>
  obtain ⟨o,q,rfl,b,k,l,c⟩:=Tn hR n (p 0 v _ rfl rfl);refine (t w _ c).mono λe w' ⟨s,m,a⟩=>?_;obtain ⟨A,z,y⟩:=O9 hR false n q b k l r m a;exact ⟨_,.tup [],_,_,s,A,.tup [] [] rfl (λj u d hu=>by simp at hu),z,y,x⟩
theorem Oh {f:FuncId}{b:Nat}{ty:TypeId}{xs zs:Xa0}{m:Nat}{Q:D->AHeap->Prop}(A:XZ P f)(X:H.get b=some ⟨ty,1,xs.map cI,false⟩)(hl:zs.length=xs.length)(hm:m<=xs.length)
  (T:∀ (w:World) (v:Value),Hk w ty v xs->Calls P f #[v] w λe w'=>(∃ r,e=.returned r/\((v=.slice none 0 0/\r=v)\/∃ g n cap,v=.slice (some g) n cap/\r=.slice (some g) m cap))/\w.grownBy w' v.ownBlock/\Hk w' ty v zs)
  (hQ:Q (.list ((zs.take m).map cI)) (H.put b ⟨ty,1,zs.map cI,true⟩)):ACalls P f [.own b xs.length] H Q:=by
 refine ⟨A,λM0 σ w vals hR ha=>?_⟩;obtain ⟨y,hr⟩:=ha;match vals,y with
 | [v],_ =>
  obtain ⟨o,I,rfl,q,E,F,d⟩:=Tn hR X (hr 0 v _ rfl rfl);refine (T w _ d).mono λe w' ⟨⟨r,he,G⟩,O,a⟩=>?_;obtain ⟨h1,h2,h3⟩:=O9 hR true X I q E F hl O a;refine ⟨r,.list ((zs.take m).map cI),_,_,he,h1,?_,h2,h3,hQ⟩;rcases G with ⟨h,rfl⟩|⟨g,n,cap,h,rfl⟩
  .have hz:zs=[]:=by
    rcases d.2 with ⟨_,h0⟩|⟨B,C,V,s,_⟩
    .exact bI bL
    grind
   subst hz;rw [h];simpa using RepV.listN
  .rcases a.2 with ⟨W,_⟩|⟨B,C,V,s,a3,Y,a1,S,a2,a0⟩
   .rw [h] at W;cases W
   .have p:=s;rw [h] at p;cases p
    have K:(zs.take m).length=m:=by simp;omega
    have R:=BV (zs.take m);have k:=RepV.list (M:=dK M0 (H.put b ⟨ty,1,zs.map cI,true⟩) (λi=>if i=b then some o else σ i)) (σ:=λi=>if i=b then some o else σ i) (N:=(H.put b ⟨ty,1,zs.map cI,true⟩).J) (w:=w')
     ⟨B,0,none⟩ cap 1 ((zs.take m).map (Value.int .i64)) ((zs.take m).map cI) et S (λc T=>(by obtain ⟨x,_,rfl⟩:=aS.1 T;rfl)) (by rw [R];simp)
     (λu hu=>(by obtain ⟨x,_,rfl⟩:=aS.1 hu;rfl))
     (λj u hu=>by
      refine ⟨?_,?_⟩
      .rintro (J|⟨i,k',Z,z,hf,t,U⟩)
       .exact (hR.lt b o B I (by simp [Ow.block,h,Value.ownBlock])).2 J
       .by_cases L:i=b
        .simp only [AHeap.put,L,if_true,bG] at z;subst z;cases hf
        .simp only [L,if_false] at t;exact L (hR.inj i b Z o B t I U (by simp [Ow.block,h,Value.ownBlock]))
      .have:=a.cells (g:=B) (by simp [h,Value.ownBlock]) j u (by
        rw [aW] at hu ⊢;rw [bX] at hu;split at hu
        .exact hu
        .simp at hu)
       exact this)
     (BM (zs.take m)).Y
    simp only [bR,K] at k;exact k
end
end Go.Abs
end
section
namespace Go.Abs
section
variable {P:Program} {M0:Nat→Prop} {H:AHeap} {σ:Nat→Option Ow} {w:World}
structure Made (M:Nat->Prop) (w w':World) (v:Value) (b:Blk) (xs:List Value):Prop where
 row:w'.ownsRow w.heap.size b.ty b.sz v b.es.length xs
 one:∀ u∈xs,u.oneCell'=true
 Y:RepL M g9 pT w' xs b.es.flatten
 U:D.T b.es=true
 sz:∀ c∈b.es,c.length=b.sz
theorem Q4 {f:FuncId}{args:Xa2}{ty:TypeId}{sz:Nat}{es:Xa1}{Q:D->AHeap->Prop}(N:Own P f args ty sz es)(J:D.N args=true)(q:Nat)(V:¬ H.J q)
  (Y:Q (.own q es.length) (H.push q ⟨ty,sz,es,false⟩)):ACalls P f args H Q:=by
 refine ⟨N.1,λM0 σ w vals hR ha=>(N.2 (dK M0 H σ) w vals (rS hR) (iE (λ_ h=>h) ha J)).mono λe w' ⟨v,M,X,k,L,t,y,F,A⟩=>?_⟩;have m:w'.ownsRow 0 ty sz v es.length M:=⟨k.1,k.2.imp (λx=>x) λ⟨g,r,p,a,b,c⟩=>⟨g,r,p,a,dN _,c⟩⟩;have K:∀ b,v.ownBlock=some b->w.heap.size<=b:=λb j=>by
  rcases k.2 with B|⟨g,r,p,L,h2,h3⟩
  .rw [B.1] at j;simp [Value.ownBlock] at j
  .rw [L] at j;simp only [Value.ownBlock,bG] at j;omega
 have Z:∀ C,¬ (dK M0 H σ C\/v.ownBlock=some C)->¬ dK M0 (H.push q ⟨ty,sz,es,false⟩) (λi=>if i=q then some ⟨es.length,v,sz,ty⟩ else σ i) C:=by
  intro C G h;rcases h with h|⟨i,U,T,u,W,l,j⟩
  .exact G (.inl (.inl h))
  .by_cases n:i=q
   .simp only [n,if_true,bG] at l;subst l;exact G (.inr j)
   .simp only [n,if_false] at l;simp only [AHeap.push,n,if_false] at u;exact G (.inl (.inr ⟨i,U,T,u,W,l,j⟩))
 have z:D.N es.flatten=true:=EE λd hd=>by
  obtain ⟨c,I,E⟩:=iI.1 hd;exact iR (p8 y c I) d E
 obtain ⟨S,R,O⟩:=Rel.ce hR q V (w':=w') A.os A.tape A.output A.size A.block ⟨ty,sz,es,false⟩ ⟨es.length,v,sz,ty⟩
  K rfl rfl rfl F M m L (λhk=>iE Z t z)
 exact ⟨v,_,_,_,X,S,.own v _ _ (.inl rfl) (by rcases k.2 with ⟨B,_⟩|⟨g,r,p,B,_⟩<;>simp [B,Value.oneCell']) (λo ho=>by simp at ho;subst ho;exact .inr ⟨rfl,rfl⟩),R,O,Y⟩
theorem ACalls.b0 {f:FuncId}{args:Xa2}{Q:D->AHeap->Prop}(k:Nat)(h:ACalls P f args ⟨H.next+k,H.J,H.get⟩ Q):ACalls P f args H Q :=
 ⟨h.1,λM0 σ w vals hR ha=>h.2 M0 σ w vals (hR.b0 (m:=H.next+k) bL) ha⟩
theorem ACalls.frz {f:FuncId}{args:Xa2}{Q:D->AHeap->Prop}(h:ACalls P f (args.map (jN H)) (fH (args.flatMap eE) H) Q):ACalls P f args H Q:=by
 refine ⟨h.1,λM0 σ w vals hR ha=>?_⟩;obtain ⟨m,l,p,o⟩:=fQ (args.flatMap eE) hR;refine (h.2 M0 σ w vals m (Dz hR ha _ λi h=>h)).mono λe w' ⟨v,d,n,σ',j,k,a,b,g,c⟩=>?_;exact ⟨v,d,n,σ',j,k,a,b,l.trans g,c⟩
end
section
variable {P:Program} {md:Nat→Bool} {ops:Array Oper} {sp:List (Nat × Nat)} {n0 i:Nat} {rest:List Oper} {acc:List (Nat × List Nat)} {e:dO} {dst:Option Tmp} {K:dO→AHeap→Prop} {f:FuncId} {args args':Xa2} {H H':AHeap}
theorem MA (b:args.map (jN H)=args')(a:fH (args.flatMap eE) H=H')(h:dQ P md ops rest e dst K f args' H'):dQ P md ops rest e dst K f args H:=by grind [dQ, ACalls.frz]
theorem s4 {ty:TypeId}{sz:Nat}{es:Xa1}(q:Nat)(a:Own P f args ty sz es)(c:D.N args=true)(b:EI md dst=true)(g:q<n0)(d:¬ H.J q)(j:chk sp i [q] acc)
  (h:kQ P md ops sp n0 (i+1) rest ((i,[q]) :: acc) (nB e dst (.own q es.length)) (H.push q ⟨ty,sz,es,false⟩) K):pZ P md ops sp n0 i rest acc e dst K f args H:=by
 unfold pZ;exact Or.inr ⟨b,.own q es.length,[],[],[(q,⟨ty,sz,es,false⟩)],(λ_ h=>by cases h),λp a=>(by
   have:p=(q,⟨ty,sz,es,false⟩):=by simpa using a
   subst this;exact ⟨g,d⟩),
  λH' _ hn=>Q4 a c q (hn (q,⟨ty,sz,es,false⟩) bS).2 ⟨rfl,rfl⟩,j,h⟩
end
theorem BD (i:Nat):AHeap.ak.J i↔False:=Iff.rfl
theorem gP (H:AHeap)(i j:Nat)(k:Blk):(H.push i k).J j↔j=i\/H.J j:=Iff.rfl
theorem jQ (H:AHeap)(i j:Nat)(k:Blk):(H.put i k).J j↔H.J j:=Iff.rfl
theorem pJ (n:Nat)(al:Nat->Prop)(g:Nat->Option Blk)(j:Nat):(AHeap.mk n al g).J j↔al j:=Iff.rfl
end Go.Abs
end
