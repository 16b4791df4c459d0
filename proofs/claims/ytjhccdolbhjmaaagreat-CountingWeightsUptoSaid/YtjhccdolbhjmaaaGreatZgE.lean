/- The abstraction layer, part U: the rows that walk a body. ·  -/
import Derived.Test.YtjhccdolbhjmaaaGreatZgD
set_option linter.unusedVariables false
set_option linter.unusedSimpArgs false
section
namespace Go.Abs
inductive SOut where
  | op (o : AOut)
  | call (f : FuncId) (args : List D)
  | gop (t : Bool) (g : Bool) (o : AOut)
  | gcall (t : Bool) (g : Bool) (f : FuncId) (args : List D)
  | bad
def semC (c : Option (FuncId × List D)) (o : AOut) : SOut :=
  match c with
  | some (f, args) => .call f args
  | none => .op o
def semG (gc : Option (Bool × Bool)) (b : Bool) (g : Bool) (c : Option (FuncId × List D)) (o : AOut) : SOut :=
  match gc with
  | some (t, c') => match c with
    | some (f, args) => .gcall (t && (c' == b)) g f args
    | none => .gop (t && (c' == b)) g o
  | none => .bad
def sem1 (P : Program) (md : Nat → Bool) (nid : Nat) (ops : Array Oper) (e : Env) (o : Oper) (H : AHeap) : SOut :=
  match o.guard with
  | none => semC (callOf e o) (aOp P nid md e o H)
  | some (j, b) => semG (gD ops e j) b (ogs e (gO o.op)) (callOf (gE e o.op) o) (aOp P nid md (gE e o.op) o H)
def callQ (P : Program) (md : Nat → Bool) (ops : Array Oper) (rest : List Oper) (e : Env) (dst : Option Tmp) (K : Env → AHeap → Prop) (f : FuncId) (args : List D) (H : AHeap) : Prop :=
  ACalls P f args H fun v H1 => aOps P md ops rest (upd e dst v) H1 K
def gcallQ (P : Program) (md : Nat → Bool) (ops : Array Oper) (rest : List Oper) (e : Env) (dst : Option Tmp) (K : Env → AHeap → Prop) (t : Bool) (f : FuncId) (args : List D) (H : AHeap) : Prop :=
  (∃ r S, (t = true → ∀ H', Agree S H' H → ACalls P f args H' fun v H1 => v = r ∧ H1 = H') ∧ aOps P md ops rest (upd e dst (.opt t r)) H K) ∨
    ((t = true → ACalls P f args H fun v H1 => aOps P md ops rest (upd e dst (.opt true v)) H1 K) ∧ (t = false → ∃ r, aOps P md ops rest (upd e dst (.opt false r)) H K))
def contQ (P : Program) (md : Nat → Bool) (ops : Array Oper) (rest : List Oper) (e : Env) (dst : Option Tmp) (H : AHeap) (K : Env → AHeap → Prop) : SOut → Prop
  | .op o => o.cond ∧ (o.fact → aOps P md ops rest (upd e dst o.val) o.heap K)
  | .call f args => callQ P md ops rest e dst K f args H
  | .gop t g o => (t = true → g = true) ∧ (t = true → o.cond ∧ o.heap = H) ∧ ((t = true → o.fact) → aOps P md ops rest (upd e dst (.opt t o.val)) H K)
  | .gcall t g f args => (t = true → g = true) ∧ gcallQ P md ops rest e dst K t f args H
  | .bad => False
theorem aOps_cons (P : Program) (md : Nat → Bool) (ops : Array Oper) (o : Oper) (rest : List Oper) (e : Env) (H : AHeap) (K : Env → AHeap → Prop) :
    aOps P md ops (o :: rest) e H K = contQ P md ops rest e o.dst H K (sem1 P md H.next ops e o H) := by
  obtain ⟨dst, op, type, pos, after, guard⟩ := o
  cases guard with
  | none =>
    simp only [aOps, aStep, sem1]
    cases hc : callOf e { dst := dst, op := op, type := type, pos := pos, after := after, guard := none } with
    | none => simp [semC, contQ]
    | some p => simp [semC, contQ, callQ]
  | some p =>
    obtain ⟨j, b⟩ := p
    simp only [aOps, aStep, sem1]
    cases hg : gD ops e j with
    | none => simp [semG, contQ]
    | some gc =>
      obtain ⟨t, c'⟩ := gc
      simp only
      cases hc : callOf (gE e op) { dst := dst, op := op, type := type, pos := pos, after := after, guard := some (j, b) } with
      | none => simp [semG, contQ]
      | some p => simp [semG, contQ, gcallQ]
@[go_sem] theorem aOps_nil' (P : Program) (md : Nat → Bool) (ops : Array Oper) (e : Env) (H : AHeap) (K : Env → AHeap → Prop) : aOps P md ops [] e H K = K e H := rfl
@[go_sem] theorem contQ_op (P : Program) (md : Nat → Bool) (ops : Array Oper) (rest : List Oper) (e : Env) (dst : Option Tmp) (H H' : AHeap) (K : Env → AHeap → Prop) (c f : Prop) (v : D) :
    contQ P md ops rest e dst H K (.op ⟨c, f, v, H'⟩) = (c ∧ (f → aOps P md ops rest (upd e dst v) H' K)) := rfl
@[go_sem] theorem contQ_call (P : Program) (md : Nat → Bool) (ops : Array Oper) (rest : List Oper) (e : Env) (dst : Option Tmp) (H : AHeap) (K : Env → AHeap → Prop) (f : FuncId) (args : List D) :
    contQ P md ops rest e dst H K (.call f args) = callQ P md ops rest e dst K f args H := rfl
@[go_sem] theorem contQ_gop (P : Program) (md : Nat → Bool) (ops : Array Oper) (rest : List Oper) (e : Env) (dst : Option Tmp) (H H' : AHeap) (K : Env → AHeap → Prop) (c f : Prop) (v : D) (t g : Bool) :
    contQ P md ops rest e dst H K (.gop t g ⟨c, f, v, H'⟩) = ((t = true → g = true) ∧ (t = true → c ∧ H' = H) ∧ ((t = true → f) → aOps P md ops rest (upd e dst (.opt t v)) H K)) := rfl
@[go_sem] theorem contQ_gcall (P : Program) (md : Nat → Bool) (ops : Array Oper) (rest : List Oper) (e : Env) (dst : Option Tmp) (H : AHeap) (K : Env → AHeap → Prop) (f : FuncId) (args : List D) (t g : Bool) :
    contQ P md ops rest e dst H K (.gcall t g f args) = ((t = true → g = true) ∧ gcallQ P md ops rest e dst K t f args H) := rfl
@[go_sem] theorem semC_some (f : FuncId) (args : List D) (o : AOut) : semC (some (f, args)) o = .call f args := rfl
@[go_sem] theorem semC_none (o : AOut) : semC none o = .op o := rfl
@[go_sem] theorem upd_some (e : Env) (d t : Nat) (v : D) : upd e (some d) v t = if t = d then v else e t := rfl
@[go_sem] theorem upd_none (e : Env) (v : D) : upd e none v = e := rfl
def envL : List (Nat × D) → Env
  | [] => fun _ => .junk
  | (t, d) :: l => fun t' => if t' = t then d else envL l t'
@[go_sem] theorem envL_nil (t : Nat) : envL [] t = .junk := rfl
@[go_sem] theorem envL_cons (t : Nat) (d : D) (l : List (Nat × D)) (t' : Nat) : envL ((t, d) :: l) t' = if t' = t then d else envL l t' := rfl
@[go_sem] theorem envP_nil (t : Nat) : envP [] t = .junk := by simp [envP]
@[go_sem] theorem envP_zero (d : D) (l : List D) : envP (d :: l) 0 = d := rfl
@[go_sem] theorem envP_succ (d : D) (l : List D) (t : Nat) : envP (d :: l) (t + 1) = envP l t := by simp [envP]
@[go_sem] theorem evD_tmp (e : Env) (t : Nat) : evD e (.tmp t) = e t := rfl
@[go_sem] theorem evD_func (e : Env) (f : FuncId) : evD e (.func f) = .fn f [] := rfl
@[go_sem] theorem evD_int (e : Env) (k : IntKind) (n : Int) : evD e (.const (.int k n)) = .int k n := rfl
@[go_sem] theorem evD_bool (e : Env) (b : Bool) : evD e (.const (.bool b)) = .bool b := rfl
@[go_sem] theorem evD_str (e : Env) (b : ByteArray) : evD e (.const (.string b)) = .str b := rfl
@[go_sem] theorem evD_nil (e : Env) : evD e (.const (.slice none 0 0)) = .nil := rfl
@[go_sem] theorem evD_nilp (e : Env) : evD e (.const (.pointer none)) = .nilp := rfl
@[go_sem] theorem evD_nilf (e : Env) : evD e (.const .nilFunc) = .nilf := rfl
@[go_sem] theorem isNilC_nil : isNilC (.const (.slice none 0 0)) = true := rfl
@[go_sem] theorem isNilC_tmp (t : Nat) : isNilC (.tmp t) = false := rfl
@[go_sem] theorem isNilC_int (k : IntKind) (n : Int) : isNilC (.const (.int k n)) = false := rfl
@[go_sem] theorem isNilC_bool (b : Bool) : isNilC (.const (.bool b)) = false := rfl
@[go_sem] theorem isNilC_str (b : ByteArray) : isNilC (.const (.string b)) = false := rfl
@[go_sem] theorem isNilC_nilp : isNilC (.const (.pointer none)) = false := rfl
@[go_sem] theorem isNilC_nilf : isNilC (.const .nilFunc) = false := rfl
@[go_sem] theorem isNilC_func (f : FuncId) : isNilC (.func f) = false := rfl
@[go_sem] theorem mdd_some (md : Nat → Bool) (t : Nat) : mdd md (some t) = md t := rfl
@[go_sem] theorem mdd_none (md : Nat → Bool) : mdd md none = false := rfl
section
variable (P : Program) (md : Nat → Bool) (nid : Nat) (ops : Array Oper) (e : Env) (d : Option Tmp) (ty : TypeId) (p : String) (af : Array Edge) (H : AHeap)
@[go_sem] theorem s_move (x : Operand) : sem1 P md nid ops e ⟨d, .move x, ty, p, af, none⟩ H = .op (if isNilC x then aNil P nid (mdd md d) ty H else ⟨True, True, evD e x, H⟩) := rfl
@[go_sem] theorem s_assign (x : Operand) : sem1 P md nid ops e ⟨d, .assign x, ty, p, af, none⟩ H = .op (if isNilC x then aNil P nid (mdd md d) ty H else ⟨True, True, evD e x, H⟩) := rfl
@[go_sem] theorem s_pick (c a b : Operand) : sem1 P md nid ops e ⟨d, .pick c a b, ty, p, af, none⟩ H = .op (aPick (evD e c) (evD e a) (evD e b) H) := rfl
@[go_sem] theorem s_alloc (t : TypeId) : sem1 P md nid ops e ⟨d, .alloc t, ty, p, af, none⟩ H = .op (aAlloc P nid (mdd md d) t H) := rfl
@[go_sem] theorem s_box (t : TypeId) (x : Operand) : sem1 P md nid ops e ⟨d, .box t x, ty, p, af, none⟩ H = .op (aBox P nid (mdd md d) t (evD e x) H) := rfl
@[go_sem] theorem s_build (t : TypeId) (ps : Array (Nat × Operand)) : sem1 P md nid ops e ⟨d, .build t ps, ty, p, af, none⟩ H = .op (aBuild P t (ps.toList.map fun p => (p.1, evD e p.2)) H) := rfl
@[go_sem] theorem s_buildSlice (t : TypeId) (n : Nat) (ps : Array (Nat × Operand)) : sem1 P md nid ops e ⟨d, .buildSlice t n ps, ty, p, af, none⟩ H =
    .op (aBuildSlice P nid (mdd md d) t n (ps.toList.map fun p => (p.1, rsvD H (evD e p.2))) (frzs (ps.toList.flatMap fun p => ownIds (evD e p.2)) H)) := rfl
@[go_sem] theorem s_load (t : TypeId) (x : Operand) : sem1 P md nid ops e ⟨d, .load t x, ty, p, af, none⟩ H = .op (aLoad P t (evD e x) H) := rfl
@[go_sem] theorem s_store (t : TypeId) (x y : Operand) : sem1 P md nid ops e ⟨d, .store t x y, ty, p, af, none⟩ H =
    .op (if md 1000000 then aStore P t (evD e x) (rsvD H (evD e y)) (frzs (ownIds (evD e y)) H) else aStore P t (evD e x) (evD e y) H) := rfl
@[go_sem] theorem s_nilCheck (x : Operand) : sem1 P md nid ops e ⟨d, .nilCheck x, ty, p, af, none⟩ H = .op (aNilCheck (evD e x) H) := rfl
@[go_sem] theorem s_binOp (b : BinOp) (t t' : TypeId) (x y : Operand) : sem1 P md nid ops e ⟨d, .binOp b t x y t', ty, p, af, none⟩ H = .op (aEq P t b (evD e x) (evD e y) H) := rfl
@[go_sem] theorem s_unOp (u : UnOp) (t : TypeId) (x : Operand) : sem1 P md nid ops e ⟨d, .unOp u t x, ty, p, af, none⟩ H = .op (aUn u (evD e x) H) := rfl
@[go_sem] theorem s_convert (s t : TypeId) (x : Operand) : sem1 P md nid ops e ⟨d, .convert s t x, ty, p, af, none⟩ H = .op (aConvert P s t (evD e x) H) := rfl
@[go_sem] theorem s_makeFunc (f : FuncId) (caps : Array Operand) : sem1 P md nid ops e ⟨d, .makeFunc (.func f) #[] caps, ty, p, af, none⟩ H = .op ⟨True, True, .fn f (caps.toList.map (evD e)), H⟩ := rfl
@[go_sem] theorem s_makeSlice (t : TypeId) (l c : Operand) : sem1 P md nid ops e ⟨d, .makeSlice t l c, ty, p, af, none⟩ H = .op (aMake P nid t (evD e l) (evD e c) H) := rfl
@[go_sem] theorem s_slice (t : TypeId) (x : Operand) (lo hi : Option Operand) : sem1 P md nid ops e ⟨d, .slice t x lo hi none, ty, p, af, none⟩ H = .op (aSlice P t (evD e x) (lo.map (evD e)) (hi.map (evD e)) H) := rfl
@[go_sem] theorem s_fieldAddr (t : TypeId) (x : Operand) (f : Nat) : sem1 P md nid ops e ⟨d, .fieldAddr t x f, ty, p, af, none⟩ H = .op (aFieldAddr P t (evD e x) f H) := rfl
@[go_sem] theorem s_indexAddr (t : TypeId) (x i : Operand) : sem1 P md nid ops e ⟨d, .indexAddr t x i, ty, p, af, none⟩ H = .op (aIndexAddr P t (evD e x) (evD e i) H) := rfl
@[go_sem] theorem s_index (t : TypeId) (x i : Operand) : sem1 P md nid ops e ⟨d, .index t x i, ty, p, af, none⟩ H = .op (aIndex P t (evD e x) (evD e i) H) := rfl
@[go_sem] theorem s_extract (x : Operand) (i : Nat) : sem1 P md nid ops e ⟨d, .extract x i, ty, p, af, none⟩ H = .op (aExtract (evD e x) i H) := rfl
@[go_sem] theorem s_builtin (b : Builtin) (args : Array Operand) (ts : Array TypeId) : sem1 P md nid ops e ⟨d, .call ⟨.builtin b, args, ts⟩, ty, p, af, none⟩ H = .op (aBuiltin P nid b (args.toList.map (evD e)) ts.toList H) := rfl
@[go_sem] theorem s_call (f : FuncId) (args : Array Operand) (ts : Array TypeId) : sem1 P md nid ops e ⟨d, .call ⟨.value (.func f), args, ts⟩, ty, p, af, none⟩ H = .call f (args.toList.map (evD e)) := by
  simp [sem1, callOf, evD, semC]
end
@[go_sem] theorem aOps_cons' (P : Program) (md : Nat → Bool) (ops : Array Oper) (rest : List Oper) (e : Env) (H : AHeap) (K : Env → AHeap → Prop) (d : Option Tmp) (op : Op) (ty : TypeId) (p : String) (af : Array Edge) (g : Option (Nat × Bool)) :
    aOps P md ops (⟨d, op, ty, p, af, g⟩ :: rest) e H K = contQ P md ops rest e d H K (sem1 P md H.next ops e ⟨d, op, ty, p, af, g⟩ H) := aOps_cons P md ops _ rest e H K
/-! ### code -/
section
variable (P : Program) (c : Cfg) (Q : Exit → Env → AHeap → Prop) (e : Env) (H : AHeap)
def condQ (P : Program) (c : Cfg) (a b : Code) (Q : Exit → Env → AHeap → Prop) (e : Env) (H : AHeap) : D → Prop
  | .bool t => (t = true → AWp P c a Q e H) ∧ (t = false → AWp P c b Q e H)
  | _ => False
def loopQ (P : Program) (c : Cfg) (b : Code) (Q : Exit → Env → AHeap → Prop) (e : Env) (H : AHeap) : Prop := AWp P c (.loop b) Q e H
@[go_sem] theorem w_skip : AWp P c .skip Q e H = Q .normal e H := rfl
@[go_sem] theorem w_region (id : Nat) (l : List Oper) : AWp P c (.region id l.toArray false) Q e H = aOps P c.own l.toArray l e H (Q .normal) := by
  simp [AWp]
@[go_sem] theorem w_draw (id : Nat) (l : List Oper) : AWp P c (.region id l.toArray true) Q e H = aDraw P c.own l.toArray (c.sp id) H.next 0 l [] e ⟨H.next + l.length, H.al, H.get⟩ (Q .normal) := by
  simp [AWp]
@[go_sem] theorem w_seq (a b : Code) : AWp P c (.seq a b) Q e H = AWp P c a (thenQ (AWp P c b Q) Q) e H := rfl
@[go_sem] theorem w_cond (x : Operand) (a b : Code) : AWp P c (.cond x a b) Q e H = condQ P c a b Q e H (evD e x) := rfl
@[go_sem] theorem w_block (id : Nat) (b : Code) : AWp P c (.block id b) Q e H = AWp P c b (blockQ id Q) e H := rfl
@[go_sem] theorem w_loop (b : Code) : AWp P c (.loop b) Q e H = loopQ P c b Q e H := rfl
@[go_sem] theorem w_exit (id : Nat) : AWp P c (.exit id) Q e H = Q (.exit id) e H := rfl
@[go_sem] theorem w_ret : AWp P c .ret Q e H = Q .ret e H := rfl
@[go_sem] theorem condQ_true (a b : Code) : condQ P c a b Q e H (.bool true) = AWp P c a Q e H := by simp [condQ]
@[go_sem] theorem condQ_false (a b : Code) : condQ P c a b Q e H (.bool false) = AWp P c b Q e H := by simp [condQ]
@[go_sem] theorem thenQ_normal (n : Env → AHeap → Prop) : thenQ n Q .normal e H = n e H := rfl
@[go_sem] theorem thenQ_ret (n : Env → AHeap → Prop) : thenQ n Q .ret e H = Q .ret e H := rfl
@[go_sem] theorem thenQ_exit (n : Env → AHeap → Prop) (i : Nat) : thenQ n Q (.exit i) e H = Q (.exit i) e H := rfl
@[go_sem] theorem blockQ_normal (i : Nat) : blockQ i Q .normal e H = Q .normal e H := rfl
@[go_sem] theorem blockQ_ret (i : Nat) : blockQ i Q .ret e H = Q .ret e H := rfl
@[go_sem] theorem blockQ_exit (i j : Nat) : blockQ i Q (.exit j) e H = if j = i then Q .normal e H else Q (.exit j) e H := rfl
@[go_sem] theorem retQ_ret (rs : List ResultVar) (R : D → AHeap → Prop) : retQ P rs R .ret e H = aRes P rs e H fun l => R (tupD l) H := rfl
@[go_sem] theorem retQ_normal (rs : List ResultVar) (R : D → AHeap → Prop) : retQ P rs R .normal e H = aRes P rs e H fun l => R (tupD l) H := rfl
@[go_sem] theorem aRes_nil (K : List D → Prop) : aRes P [] e H K = K [] := rfl
@[go_sem] theorem aRes_tmp (t : Tmp) (r : List ResultVar) (K : List D → Prop) : aRes P (.tmp t :: r) e H K = aRes P r e H fun l => K (e t :: l) := rfl
@[go_sem] theorem aRes_cell (a : Tmp) (t : TypeId) (r : List ResultVar) (K : List D → Prop) : aRes P (.cell a t :: r) e H K = ((aLoad P t (e a) H).cond ∧ aRes P r e H fun l => K ((aLoad P t (e a) H).val :: l)) := rfl
@[go_sem] theorem tupD_one (d : D) : tupD [d] = d := rfl
end
attribute [go_sem] if_true if_false Bool.false_eq_true Bool.true_eq_false eq_self true_and and_true forall_const true_implies false_implies List.map_nil List.map_cons List.toList_toArray Option.map_some Option.map_none
  List.flatMap_nil List.flatMap_cons List.append_nil List.nil_append List.length_nil List.length_cons implies_true
attribute [go_sem] aBin aEq aLoad aStore addrAdd aFieldAddr aIndexAddr aLen aAppend aMake aBox aAlloc aBuild aBuildSlice aSlice aIndex aConvert aPick aPick2 aMin aNilCheck aUn aExtract aNil aBuiltin frzs AOut.bad
  elemsOf cellsAt D.cells fillD BK.place unI ite_self
@[go_sem] theorem get_emp (id : Nat) : AHeap.emp.get id = none := rfl
@[go_sem] theorem next_emp : AHeap.emp.next = 0 := rfl
@[go_sem] theorem get_push (H : AHeap) (i j : Nat) (k : Blk) : (H.push i k).get j = if j = i then some k else H.get j := rfl
@[go_sem] theorem get_put (H : AHeap) (i j : Nat) (k : Blk) : (H.put i k).get j = if j = i then some k else H.get j := rfl
@[go_sem] theorem next_push (H : AHeap) (i : Nat) (k : Blk) : (H.push i k).next = if i < H.next then H.next else i + 1 := rfl
@[go_sem] theorem next_put (H : AHeap) (i : Nat) (k : Blk) : (H.put i k).next = H.next := rfl
@[go_sem] theorem get_bump (n : Nat) (al : Nat → Prop) (g : Nat → Option Blk) (j : Nat) : (AHeap.mk n al g).get j = g j := rfl
@[go_sem] theorem next_bump (n : Nat) (al : Nat → Prop) (g : Nat → Option Blk) : (AHeap.mk n al g).next = n := rfl
section
variable (H : AHeap)
@[go_sem] theorem rsv1_int (k : IntKind) (n : Int) : rsv1 H (.int k n) = .int k n := rfl
@[go_sem] theorem rsv1_bool (b : Bool) : rsv1 H (.bool b) = .bool b := rfl
@[go_sem] theorem rsv1_str (b : ByteArray) : rsv1 H (.str b) = .str b := rfl
@[go_sem] theorem rsv1_nil : rsv1 H .nil = .nil := rfl
@[go_sem] theorem rsv1_list (es : List (List D)) : rsv1 H (.list es) = .list es := rfl
@[go_sem] theorem rsv1_adr (es : List D) : rsv1 H (.adr es) = .adr es := rfl
@[go_sem] theorem rsv1_nilp : rsv1 H .nilp = .nilp := rfl
@[go_sem] theorem rsv1_nilf : rsv1 H .nilf = .nilf := rfl
@[go_sem] theorem rsv1_fn (f : FuncId) (l : List D) : rsv1 H (.fn f l) = .fn f l := rfl
@[go_sem] theorem rsv1_own (id n : Nat) : rsv1 H (.own id n) = match H.get id with | some k => if k.es.length = n then .list k.es else .own id n | none => .own id n := rfl
@[go_sem] theorem rsvD_int (k : IntKind) (n : Int) : rsvD H (.int k n) = .int k n := rfl
@[go_sem] theorem rsvD_bool (b : Bool) : rsvD H (.bool b) = .bool b := rfl
@[go_sem] theorem rsvD_str (b : ByteArray) : rsvD H (.str b) = .str b := rfl
@[go_sem] theorem rsvD_nil : rsvD H .nil = .nil := rfl
@[go_sem] theorem rsvD_list (es : List (List D)) : rsvD H (.list es) = .list es := rfl
@[go_sem] theorem rsvD_adr (es : List D) : rsvD H (.adr es) = .adr es := rfl
@[go_sem] theorem rsvD_nilp : rsvD H .nilp = .nilp := rfl
@[go_sem] theorem rsvD_nilf : rsvD H .nilf = .nilf := rfl
@[go_sem] theorem rsvD_fn (f : FuncId) (l : List D) : rsvD H (.fn f l) = .fn f l := rfl
@[go_sem] theorem rsvD_agg (l : List D) : rsvD H (.agg l) = .agg (l.map (rsv1 H)) := rfl
@[go_sem] theorem rsvD_own (id n : Nat) : rsvD H (.own id n) = rsv1 H (.own id n) := rfl
@[go_sem] theorem rsvT_tup (l : List D) : rsvT H (.tup l) = .tup (l.map (rsvD H)) := rfl
@[go_sem] theorem rsvT_int (k : IntKind) (n : Int) : rsvT H (.int k n) = .int k n := rfl
@[go_sem] theorem rsvT_bool (b : Bool) : rsvT H (.bool b) = .bool b := rfl
@[go_sem] theorem rsvT_str (b : ByteArray) : rsvT H (.str b) = .str b := rfl
@[go_sem] theorem rsvT_nil : rsvT H .nil = .nil := rfl
@[go_sem] theorem rsvT_list (es : List (List D)) : rsvT H (.list es) = .list es := rfl
@[go_sem] theorem rsvT_adr (es : List D) : rsvT H (.adr es) = .adr es := rfl
@[go_sem] theorem rsvT_nilp : rsvT H .nilp = .nilp := rfl
@[go_sem] theorem rsvT_nilf : rsvT H .nilf = .nilf := rfl
@[go_sem] theorem rsvT_fn (f : FuncId) (l : List D) : rsvT H (.fn f l) = .fn f l := rfl
@[go_sem] theorem rsvT_agg (l : List D) : rsvT H (.agg l) = .agg (l.map (rsv1 H)) := rfl
@[go_sem] theorem rsvT_own (id n : Nat) : rsvT H (.own id n) = rsv1 H (.own id n) := rfl
end
@[go_sem] theorem ids1_int (k : IntKind) (n : Int) : ids1 (.int k n) = [] := rfl
@[go_sem] theorem ids1_bool (b : Bool) : ids1 (.bool b) = [] := rfl
@[go_sem] theorem ids1_str (b : ByteArray) : ids1 (.str b) = [] := rfl
@[go_sem] theorem ids1_nil : ids1 .nil = [] := rfl
@[go_sem] theorem ids1_list (es : List (List D)) : ids1 (.list es) = [] := rfl
@[go_sem] theorem ids1_adr (es : List D) : ids1 (.adr es) = [] := rfl
@[go_sem] theorem ids1_nilp : ids1 .nilp = [] := rfl
@[go_sem] theorem ids1_nilf : ids1 .nilf = [] := rfl
@[go_sem] theorem ids1_fn (f : FuncId) (l : List D) : ids1 (.fn f l) = [] := rfl
@[go_sem] theorem ids1_own (id n : Nat) : ids1 (.own id n) = [id] := rfl
@[go_sem] theorem ownIds_int (k : IntKind) (n : Int) : ownIds (.int k n) = [] := rfl
@[go_sem] theorem ownIds_bool (b : Bool) : ownIds (.bool b) = [] := rfl
@[go_sem] theorem ownIds_str (b : ByteArray) : ownIds (.str b) = [] := rfl
@[go_sem] theorem ownIds_nil : ownIds .nil = [] := rfl
@[go_sem] theorem ownIds_list (es : List (List D)) : ownIds (.list es) = [] := rfl
@[go_sem] theorem ownIds_adr (es : List D) : ownIds (.adr es) = [] := rfl
@[go_sem] theorem ownIds_nilp : ownIds .nilp = [] := rfl
@[go_sem] theorem ownIds_nilf : ownIds .nilf = [] := rfl
@[go_sem] theorem ownIds_fn (f : FuncId) (l : List D) : ownIds (.fn f l) = [] := rfl
@[go_sem] theorem ownIds_own (id n : Nat) : ownIds (.own id n) = [id] := rfl
@[go_sem] theorem ownIds_agg (l : List D) : ownIds (.agg l) = l.flatMap ids1 := rfl
@[go_sem] theorem frz_some (H : AHeap) (id : Nat) : H.frz id = match H.get id with | some k => H.put id { k with fz := true } | none => H := rfl
@[go_sem] theorem put_push (H : AHeap) (id : Nat) (k k' : Blk) : (H.push id k).put id k' = H.push id k' := by
  unfold AHeap.push AHeap.put
  congr 1
  funext i
  by_cases h : i = id <;> simp [h]
@[go_sem] theorem put_put (H : AHeap) (id : Nat) (k k' : Blk) : (H.put id k).put id k' = H.put id k' := by
  unfold AHeap.put
  congr 1
  funext i
  by_cases h : i = id <;> simp [h]
section
variable {P : Program} {c : Cfg} {Q : Exit → Env → AHeap → Prop} {e : Env} {H : AHeap} {a b : Code}
theorem condQ_mk {t : Bool} (h1 : t = true → AWp P c a Q e H) (h2 : t = false → AWp P c b Q e H) : condQ P c a b Q e H (.bool t) := ⟨h1, h2⟩
theorem condQ_dec {p : Prop} [Decidable p] (h1 : p → AWp P c a Q e H) (h2 : ¬ p → AWp P c b Q e H) : condQ P c a b Q e H (.bool (decide p)) := ⟨fun h => h1 (of_decide_eq_true h), fun h => h2 (of_decide_eq_false h)⟩
end
attribute [irreducible] condQ callQ gcallQ loopQ
end Go.Abs
end
section
namespace Go.Abs
section
variable {P : Program} {c : Cfg} {md : Nat → Bool}
theorem aStep_mono {dr : Bool} {nid : Nat} {ops : Array Oper} {e : Env} {o : Oper} {H : AHeap} {K K' : D → AHeap → List Nat → Prop} (hk : ∀ v H F, K v H F → K' v H F) (h : aStep P md dr nid ops e o H K) : aStep P md dr nid ops e o H K' := by
  unfold aStep at h ⊢
  cases hg : o.guard with
  | none =>
    simp only [hg] at h ⊢
    cases hc : callOf e o with
    | none => simp only [hc] at h ⊢; exact ⟨h.1, fun hf => hk _ _ _ (h.2 hf)⟩
    | some p =>
      obtain ⟨f, args⟩ := p
      simp only [hc] at h ⊢
      cases dr with
      | false => simp only [Bool.false_eq_true, if_false] at h ⊢; exact h.mono fun _ _ h => hk _ _ _ h
      | true => simp only [if_true] at h ⊢; obtain ⟨r, S, h1, h2⟩ := h; exact ⟨r, S, h1, hk _ _ _ h2⟩
  | some p =>
    obtain ⟨j, b⟩ := p
    simp only [hg] at h ⊢
    cases hgd : gD ops e j with
    | none => simp only [hgd] at h
    | some gc =>
      obtain ⟨g, c'⟩ := gc
      simp only [hgd] at h ⊢
      refine ⟨h.1, ?_⟩
      have h2 := h.2
      cases hc : callOf (gE e o.op) o with
      | none => simp only [hc] at h2 ⊢; exact ⟨h2.1, fun hf => hk _ _ _ (h2.2 hf)⟩
      | some p =>
        obtain ⟨f, args⟩ := p
        simp only [hc] at h2 ⊢
        cases dr with
        | true => obtain ⟨r, S, h3, h4⟩ := h2; exact ⟨r, S, h3, hk _ _ _ h4⟩
        | false =>
          rcases h2 with ⟨r, S, h3, h4⟩ | ⟨h3, h4⟩
          · exact .inl ⟨r, S, h3, hk _ _ _ h4⟩
          · exact .inr ⟨fun hq => (h3 hq).mono fun _ _ h => hk _ _ _ h, fun hq => (h4 hq).imp fun _ h => hk _ _ _ h⟩
theorem aOps_mono {ops : Array Oper} {K K' : Env → AHeap → Prop} (hk : ∀ e H, K e H → K' e H) : ∀ (l : List Oper) (e : Env) (H : AHeap), aOps P md ops l e H K → aOps P md ops l e H K'
  | [], e, H, h => hk _ _ h
  | o :: l, e, H, h => by
    unfold aOps at h ⊢
    exact aStep_mono (fun v H' _ h => aOps_mono hk l _ _ h) h
theorem aDraw_mono {ops : Array Oper} {sp : List (Nat × Nat)} {n0 : Nat} {K K' : Env → AHeap → Prop} (hk : ∀ e H, K e H → K' e H) : ∀ (l : List Oper) (i : Nat) (acc : List (Nat × List Nat)) (e : Env) (H : AHeap),
    aDraw P md ops sp n0 i l acc e H K → aDraw P md ops sp n0 i l acc e H K'
  | [], i, acc, e, H, h => by unfold aDraw at h ⊢; exact hk _ _ h
  | o :: l, i, acc, e, H, h => by
    unfold aDraw at h ⊢
    exact aStep_mono (fun v H' _ h => ⟨h.1, aDraw_mono hk l _ _ _ _ h.2⟩) h
theorem thenQ_mono {n n' : Env → AHeap → Prop} {Q Q' : Exit → Env → AHeap → Prop} (hn : ∀ e H, n e H → n' e H) (hq : ∀ x e H, Q x e H → Q' x e H) : ∀ x e H, thenQ n Q x e H → thenQ n' Q' x e H := by
  intro x e H h
  cases x <;> first | exact hn _ _ h | exact hq _ _ _ h
theorem blockQ_mono {i : Nat} {Q Q' : Exit → Env → AHeap → Prop} (hq : ∀ x e H, Q x e H → Q' x e H) : ∀ x e H, blockQ i Q x e H → blockQ i Q' x e H := by
  intro x e H h
  cases x <;> first | exact hq _ _ _ h | skip
  rename_i j
  rw [blockQ_exit] at h ⊢
  split at h
  · rename_i hj; rw [if_pos hj]; exact hq _ _ _ h
  · rename_i hj; rw [if_neg hj]; exact hq _ _ _ h
theorem AWp_mono : ∀ (x : Code) {Q Q' : Exit → Env → AHeap → Prop} (hq : ∀ x e H, Q x e H → Q' x e H) (e : Env) (H : AHeap), AWp P c x Q e H → AWp P c x Q' e H
  | .skip, Q, Q', hq, e, H, h => hq _ _ _ h
  | .region id ops dr, Q, Q', hq, e, H, h => by
    unfold AWp at h ⊢
    cases dr with
    | false => simp only [Bool.false_eq_true, if_false] at h ⊢; exact aOps_mono (fun e H h => hq _ _ _ h) _ _ _ h
    | true => simp only [if_true] at h ⊢; exact aDraw_mono (fun e H h => hq _ _ _ h) _ _ _ _ _ h
  | .seq a b, Q, Q', hq, e, H, h => by
    unfold AWp at h ⊢
    exact AWp_mono a (thenQ_mono (fun e H h => AWp_mono b hq e H h) hq) e H h
  | .cond x a b, Q, Q', hq, e, H, h => by
    unfold AWp at h ⊢
    cases hv : evD e x <;> simp only [hv] at h ⊢ <;> try (exact h.elim)
    exact ⟨fun ht => AWp_mono a hq e H (h.1 ht), fun ht => AWp_mono b hq e H (h.2 ht)⟩
  | .block id b, Q, Q', hq, e, H, h => by
    unfold AWp at h ⊢
    exact AWp_mono b (blockQ_mono hq) e H h
  | .loop b, Q, Q', hq, e, H, h => by
    unfold AWp at h ⊢
    obtain ⟨I, h0, hI⟩ := h
    exact ⟨I, h0, fun k e' H' hi => AWp_mono b (thenQ_mono (fun _ _ h => h) hq) _ _ (hI k e' H' hi)⟩
  | .exit id, Q, Q', hq, e, H, h => hq _ _ _ h
  | .ret, Q, Q', hq, e, H, h => hq _ _ _ h
  | .rangeFunc .., Q, Q', hq, e, H, h => h.elim
  | .scope .., Q, Q', hq, e, H, h => h.elim
  | .label .., Q, Q', hq, e, H, h => h.elim
  | .goto .., Q, Q', hq, e, H, h => h.elim
  | .refuse .., Q, Q', hq, e, H, h => h.elim
theorem loop_rule {b : Code} {Q : Exit → Env → AHeap → Prop} {e : Env} {H : AHeap} {ι : Type} (I : ι → Env → AHeap → Prop) (μ : ι → Nat) (x0 : ι) (h0 : I x0 e H)
    (hs : ∀ x e H, I x e H → AWp P c b (thenQ (fun e' H' => ∃ x', μ x' < μ x ∧ I x' e' H') Q) e H) : loopQ P c b Q e H := by
  unfold loopQ AWp
  refine ⟨fun k e H => ∃ x, μ x = k ∧ I x e H, ⟨H, .refl H, _, x0, rfl, h0⟩, fun k e' H' ⟨x, hk, hx⟩ => AWp_mono b (thenQ_mono (fun e'' H'' ⟨x', hlt, hx'⟩ => ⟨_, hk ▸ hlt, x', rfl, hx'⟩) fun _ _ _ h => h) _ _ (hs x e' H' hx)⟩
theorem loop_ghosts {b : Code} {Q : Exit → Env → AHeap → Prop} {e : Env} {H H' : AHeap} (hg : Ghosts H H') {ι : Type} (I : ι → Env → AHeap → Prop) (μ : ι → Nat) (x0 : ι) (h0 : I x0 e H')
    (hs : ∀ x e H, I x e H → AWp P c b (thenQ (fun e' H' => ∃ x', μ x' < μ x ∧ I x' e' H') Q) e H) : loopQ P c b Q e H := by
  unfold loopQ AWp
  refine ⟨fun k e H => ∃ x, μ x = k ∧ I x e H, ⟨H', hg, _, x0, rfl, h0⟩, fun k e' H' ⟨x, hk, hx⟩ => AWp_mono b (thenQ_mono (fun e'' H'' ⟨x', hlt, hx'⟩ => ⟨_, hk ▸ hlt, x', rfl, hx'⟩) fun _ _ _ h => h) _ _ (hs x e' H' hx)⟩
theorem callQ_pure0 {ops : Array Oper} {rest : List Oper} {e : Env} {dst : Option Tmp} {K : Env → AHeap → Prop} {f : FuncId} {args : List D} {H : AHeap} {r : D} (hp : Pure P f args r) (hcl : D.clL args = true)
    (h : aOps P md ops rest (upd e dst r) H K) : callQ P md ops rest e dst K f args H := by unfold callQ; exact ACalls.pure0 hp hcl h
theorem callQ_pureF {ops : Array Oper} {rest : List Oper} {e : Env} {dst : Option Tmp} {K : Env → AHeap → Prop} {f : FuncId} {args args' : List D} {H : AHeap} {r : D} (hp : Pure P f args' r) (ha : args.map (rsvD H) = args') (hcl : D.clL args' = true) (hf : r.flat = true)
    (h : aOps P md ops rest (upd e dst r) H K) : callQ P md ops rest e dst K f args H := by subst ha; unfold callQ; exact ACalls.pureF hp hcl hf h
theorem callQ_pureZ {ops : Array Oper} {rest : List Oper} {e : Env} {dst : Option Tmp} {K : Env → AHeap → Prop} {f : FuncId} {args args' : List D} {H H' : AHeap} {r : D} (hp : Pure P f args' r) (ha : args.map (rsvD H) = args') (hcl : D.clL args' = true)
    (hz : frzs (args.flatMap ownIds) H = H') (h : aOps P md ops rest (upd e dst r) H' K) : callQ P md ops rest e dst K f args H := by subst ha; subst hz; unfold callQ; exact ACalls.pureZ hp hcl h
theorem callQ_own0 {ops : Array Oper} {rest : List Oper} {e : Env} {dst : Option Tmp} {K : Env → AHeap → Prop} {f : FuncId} {args : List D} {H : AHeap} {ty : TypeId} {sz : Nat} {es : List (List D)} (hp : Own P f args ty sz es) (hcl : D.clL args = true)
    (h : aOps P md ops rest (upd e dst (.own H.next es.length)) (H.push H.next ⟨ty, sz, es, false⟩) K) : callQ P md ops rest e dst K f args H := by unfold callQ; exact ACalls.own0 hp hcl h
end
end Go.Abs
end
section
namespace Go.Abs
def dcallQ (P : Program) (md : Nat → Bool) (ops : Array Oper) (sp : List (Nat × Nat)) (n0 i : Nat) (rest : List Oper) (acc : List (Nat × List Nat)) (e : Env) (dst : Option Tmp) (K : Env → AHeap → Prop) (f : FuncId) (args : List D) (H : AHeap) : Prop :=
  ∃ r S, (∀ H', Agree S H' H → ACalls P f args H' fun v H1 => v = r ∧ H1 = H') ∧ chk sp i S acc ∧ aDraw P md ops sp n0 (i + 1) rest ((i, S) :: acc) (upd e dst r) H K
def dgcallQ (P : Program) (md : Nat → Bool) (ops : Array Oper) (sp : List (Nat × Nat)) (n0 i : Nat) (rest : List Oper) (acc : List (Nat × List Nat)) (e : Env) (dst : Option Tmp) (K : Env → AHeap → Prop) (t : Bool) (f : FuncId) (args : List D) (H : AHeap) : Prop :=
  ∃ r S, (t = true → ∀ H', Agree S H' H → ACalls P f args H' fun v H1 => v = r ∧ H1 = H') ∧ chk sp i S acc ∧ aDraw P md ops sp n0 (i + 1) rest ((i, S) :: acc) (upd e dst (.opt t r)) H K
def footO (nid : Nat) (e : Env) (o : Oper) : List Nat := foot nid (match o.guard with | none => e | some _ => gE e o.op) o.op
def dcontQ (P : Program) (md : Nat → Bool) (ops : Array Oper) (sp : List (Nat × Nat)) (n0 i : Nat) (rest : List Oper) (acc : List (Nat × List Nat)) (e : Env) (dst : Option Tmp) (H : AHeap) (K : Env → AHeap → Prop) (F : List Nat) : SOut → Prop
  | .op o => o.cond ∧ chk sp i F acc ∧ aDraw P md ops sp n0 (i + 1) rest ((i, F) :: acc) (upd e dst o.val) o.heap K
  | .call f args => dcallQ P md ops sp n0 i rest acc e dst K f args H
  | .gop t g o => (t = true → g = true) ∧ (t = true → o.cond ∧ o.heap = H) ∧ chk sp i F acc ∧ aDraw P md ops sp n0 (i + 1) rest ((i, F) :: acc) (upd e dst (.opt t o.val)) H K
  | .gcall t g f args => (t = true → g = true) ∧ dgcallQ P md ops sp n0 i rest acc e dst K t f args H
  | .bad => False
theorem aDraw_cons (P : Program) (md : Nat → Bool) (ops : Array Oper) (sp : List (Nat × Nat)) (n0 i : Nat) (o : Oper) (rest : List Oper) (acc : List (Nat × List Nat)) (e : Env) (H : AHeap) (K : Env → AHeap → Prop) :
    aDraw P md ops sp n0 i (o :: rest) acc e H K = dcontQ P md ops sp n0 i rest acc e o.dst H K (footO (n0 + i) e o) (sem1 P md (n0 + i) ops e o H) := by
  obtain ⟨dst, op, type, pos, after, guard⟩ := o
  cases guard with
  | none =>
    simp only [aDraw, aStep, sem1, footO]
    cases hc : callOf e { dst := dst, op := op, type := type, pos := pos, after := after, guard := none } with
    | none => simp [semC, dcontQ]
    | some p => simp [semC, dcontQ, dcallQ]
  | some p =>
    obtain ⟨j, b⟩ := p
    simp only [aDraw, aStep, sem1, footO]
    cases hg : gD ops e j with
    | none => simp [semG, dcontQ]
    | some gc =>
      obtain ⟨t, c'⟩ := gc
      simp only
      cases hc : callOf (gE e op) { dst := dst, op := op, type := type, pos := pos, after := after, guard := some (j, b) } with
      | none => simp [semG, dcontQ]
      | some p => simp [semG, dcontQ, dgcallQ]
@[go_sem] theorem aDraw_nil' (P : Program) (md : Nat → Bool) (ops : Array Oper) (sp : List (Nat × Nat)) (n0 i : Nat) (acc : List (Nat × List Nat)) (e : Env) (H : AHeap) (K : Env → AHeap → Prop) : aDraw P md ops sp n0 i [] acc e H K = K e H := rfl
section
variable (P : Program) (md : Nat → Bool) (ops : Array Oper) (sp : List (Nat × Nat)) (n0 i : Nat) (rest : List Oper) (acc : List (Nat × List Nat)) (e : Env) (dst : Option Tmp) (H H' : AHeap) (K : Env → AHeap → Prop) (F : List Nat) (c f : Prop) (v : D) (t g : Bool) (fn : FuncId) (args : List D)
@[go_sem] theorem dcontQ_op : dcontQ P md ops sp n0 i rest acc e dst H K F (.op ⟨c, f, v, H'⟩) = (c ∧ chk sp i F acc ∧ aDraw P md ops sp n0 (i + 1) rest ((i, F) :: acc) (upd e dst v) H' K) := rfl
@[go_sem] theorem dcontQ_call : dcontQ P md ops sp n0 i rest acc e dst H K F (.call fn args) = dcallQ P md ops sp n0 i rest acc e dst K fn args H := rfl
@[go_sem] theorem dcontQ_gop : dcontQ P md ops sp n0 i rest acc e dst H K F (.gop t g ⟨c, f, v, H'⟩) =
    ((t = true → g = true) ∧ (t = true → c ∧ H' = H) ∧ chk sp i F acc ∧ aDraw P md ops sp n0 (i + 1) rest ((i, F) :: acc) (upd e dst (.opt t v)) H K) := rfl
@[go_sem] theorem dcontQ_gcall : dcontQ P md ops sp n0 i rest acc e dst H K F (.gcall t g fn args) = ((t = true → g = true) ∧ dgcallQ P md ops sp n0 i rest acc e dst K t fn args H) := rfl
@[go_sem] theorem aDraw_cons' (d : Option Tmp) (op : Op) (ty : TypeId) (p : String) (af : Array Edge) (gu : Option (Nat × Bool)) :
    aDraw P md ops sp n0 i (⟨d, op, ty, p, af, gu⟩ :: rest) acc e H K = dcontQ P md ops sp n0 i rest acc e d H K (footO (n0 + i) e ⟨d, op, ty, p, af, gu⟩) (sem1 P md (n0 + i) ops e ⟨d, op, ty, p, af, gu⟩ H) := aDraw_cons P md ops sp n0 i _ rest acc e H K
@[go_sem] theorem chk_nil : chk [] i F acc = True := rfl
end
@[go_sem] theorem chk_cons (p : Nat × Nat) (sp : List (Nat × Nat)) (i : Nat) (F : List Nat) (acc : List (Nat × List Nat)) : chk (p :: sp) i F acc = ∀ q ∈ acc, (q.1, i) ∈ (p :: sp) → ∀ x ∈ q.2, x ∉ F := rfl
@[go_sem] theorem footO_none (nid : Nat) (e : Env) (d : Option Tmp) (op : Op) (ty : TypeId) (p : String) (af : Array Edge) : footO nid e ⟨d, op, ty, p, af, none⟩ = foot nid e op := rfl
@[go_sem] theorem footO_some (nid : Nat) (e : Env) (d : Option Tmp) (op : Op) (ty : TypeId) (p : String) (af : Array Edge) (g : Nat × Bool) : footO nid e ⟨d, op, ty, p, af, some g⟩ = foot nid (gE e op) op := rfl
attribute [go_sem] foot makes heapy Op.operands Call.operands
@[go_sem] theorem idsAll_int (k : IntKind) (n : Int) : idsAll (.int k n) = [] := rfl
@[go_sem] theorem idsAll_bool (b : Bool) : idsAll (.bool b) = [] := rfl
@[go_sem] theorem idsAll_str (b : ByteArray) : idsAll (.str b) = [] := rfl
@[go_sem] theorem idsAll_nil : idsAll .nil = [] := rfl
@[go_sem] theorem idsAll_list (es : List (List D)) : idsAll (.list es) = [] := rfl
@[go_sem] theorem idsAll_adr (es : List D) : idsAll (.adr es) = [] := rfl
@[go_sem] theorem idsAll_nilp : idsAll .nilp = [] := rfl
@[go_sem] theorem idsAll_nilf : idsAll .nilf = [] := rfl
@[go_sem] theorem idsAll_fn (f : FuncId) (l : List D) : idsAll (.fn f l) = [] := rfl
@[go_sem] theorem idsAll_own (id n : Nat) : idsAll (.own id n) = [id] := rfl
@[go_sem] theorem idsAll_ptr (id v i o : Nat) : idsAll (.ptr id v i o) = [id] := rfl
@[go_sem] theorem idsAll_agg (l : List D) : idsAll (.agg l) = l.flatMap ids1 := rfl
@[go_sem] theorem idsAll_opt (t : Bool) (d : D) : idsAll (.opt t d) = [] := rfl
@[go_sem] theorem idsAll_junk : idsAll .junk = [] := rfl
@[go_sem] theorem idsAll_tup (l : List D) : idsAll (.tup l) = [] := rfl
/-! ### guards -/
def gV : D → Option (Bool × Bool)
  | .bool c => some (true, c)
  | .opt g (.bool c) => some (g, c)
  | _ => none
def gT (e : Env) : Option Tmp → Option (Bool × Bool)
  | some t => gV (e t)
  | none => none
@[go_sem] theorem gT_some (e : Env) (t : Nat) : gT e (some t) = gV (e t) := rfl
@[go_sem] theorem gV_bool (c : Bool) : gV (.bool c) = some (true, c) := rfl
@[go_sem] theorem gV_opt (g c : Bool) : gV (.opt g (.bool c)) = some (g, c) := rfl
section
variable (P : Program) (md : Nat → Bool) (nid : Nat) (ops : Array Oper) (e : Env) (d : Option Tmp) (op : Op) (ty : TypeId) (p : String) (af : Array Edge) (H : AHeap) (j : Nat) (b : Bool)
@[go_sem] theorem sem1_guard : sem1 P md nid ops e ⟨d, op, ty, p, af, some (j, b)⟩ H =
    semG (gD ops e j) b (ogs e (gO op)) (callOf (gE e op) ⟨d, op, ty, p, af, none⟩) (aOp P nid md (gE e op) ⟨d, op, ty, p, af, none⟩ H) := rfl
@[go_sem] theorem gD_row (l : List Oper) : gD l.toArray e j = gT e ((l[j]?).bind (·.dst)) := by
  unfold gD gT
  rw [List.getElem?_toArray]
  cases (l[j]?).bind (·.dst) with
  | none => rfl
  | some t => simp only [gV]; rfl
end
@[go_sem] theorem semG_call (t c b g : Bool) (f : FuncId) (args : List D) (o : AOut) : semG (some (t, c)) b g (some (f, args)) o = .gcall (t && (c == b)) g f args := rfl
@[go_sem] theorem semG_op (t c b g : Bool) (o : AOut) : semG (some (t, c)) b g none o = .gop (t && (c == b)) g o := rfl
attribute [go_sem] gE gO Operand.tmp.injEq ogs og callOf aOp Option.bind_some List.getElem?_cons_zero List.getElem?_cons_succ Bool.true_and Bool.and_true beq_false beq_true beq_self_eq_true
  List.append_nil Bool.and_self Bool.not_true Bool.not_false
@[go_sem] theorem strip_upd (e : Env) (d : Option Tmp) (v : D) (t : Nat) : strip (upd e d v) t = match upd e d v t with | .opt _ d => d | d => d := rfl
@[go_sem] theorem strip_envP (l : List D) (t : Nat) : strip (envP l) t = match envP l t with | .opt _ d => d | d => d := rfl
section
variable {P : Program} {md : Nat → Bool} {ops : Array Oper} {sp : List (Nat × Nat)} {n0 i : Nat} {rest : List Oper} {acc : List (Nat × List Nat)} {e : Env} {dst : Option Tmp} {K : Env → AHeap → Prop} {f : FuncId} {args args' : List D} {H : AHeap} {r : D}
theorem chk_empty : chk sp i [] acc := by
  unfold chk
  cases sp with
  | nil => trivial
  | cons => intro p hp _ x _; simp
theorem dcallQ_pure0 (hp : Pure P f args r) (hcl : D.clL args = true) (h : aDraw P md ops sp n0 (i + 1) rest ((i, []) :: acc) (upd e dst r) H K) : dcallQ P md ops sp n0 i rest acc e dst K f args H :=
  ⟨r, [], fun H' _ => ACalls.pure0 hp hcl ⟨rfl, rfl⟩, chk_empty, h⟩
theorem dgcallQ_pure0 {t : Bool} (hp : t = true → Pure P f args r) (hcl : t = true → D.clL args = true) (h : aDraw P md ops sp n0 (i + 1) rest ((i, []) :: acc) (upd e dst (.opt t r)) H K) : dgcallQ P md ops sp n0 i rest acc e dst K t f args H :=
  ⟨r, [], fun ht H' _ => ACalls.pure0 (hp ht) (hcl ht) ⟨rfl, rfl⟩, chk_empty, h⟩
theorem gcallQ_pure0 {t : Bool} (hp : t = true → Pure P f args r) (hcl : t = true → D.clL args = true) (h : aOps P md ops rest (upd e dst (.opt t r)) H K) : gcallQ P md ops rest e dst K t f args H := by
  unfold gcallQ
  exact .inl ⟨r, [], fun ht H' _ => ACalls.pure0 (hp ht) (hcl ht) ⟨rfl, rfl⟩, h⟩
theorem gcallQ_split {t : Bool} (h1 : t = true → ACalls P f args H fun v H1 => aOps P md ops rest (upd e dst (.opt true v)) H1 K) (h2 : t = false → ∃ r, aOps P md ops rest (upd e dst (.opt false r)) H K) : gcallQ P md ops rest e dst K t f args H := by
  unfold gcallQ
  exact .inr ⟨h1, h2⟩
theorem rsv1_agree {S : List Nat} {H' : AHeap} (ha : Agree S H' H) {d : D} (hd : ∀ x ∈ ids1 d, x ∈ S) : rsv1 H' d = rsv1 H d := by
  cases d <;> try rfl
  rename_i id n
  have := ha id (hd id (by simp [ids1]))
  simp only [rsv1, this]
theorem rsvD_agree {S : List Nat} {H' : AHeap} (ha : Agree S H' H) {d : D} (hd : ∀ x ∈ ownIds d, x ∈ S) : rsvD H' d = rsvD H d := by
  cases d <;> try rfl
  case own id n => exact rsv1_agree (d := .own id n) ha hd
  case agg l =>
    simp only [rsvD]
    congr 1
    exact List.map_congr_left fun x hx => rsv1_agree ha fun y hy => hd y (by simp only [ownIds, List.mem_flatMap]; exact ⟨x, hx, hy⟩)
theorem args_agree {S : List Nat} {H' : AHeap} (ha : Agree S H' H) {l : List D} (hd : ∀ x ∈ l.flatMap ownIds, x ∈ S) : l.map (rsvD H') = l.map (rsvD H) :=
  List.map_congr_left fun d hm => rsvD_agree ha fun x hx => hd x (List.mem_flatMap.2 ⟨d, hm, hx⟩)
theorem dcallQ_pureF (hp : Pure P f args' r) (ha : args.map (rsvD H) = args') (hcl : D.clL args' = true) (hf : r.flat = true) {S : List Nat} (hS : args.flatMap ownIds = S) (hc : chk sp i S acc)
    (h : aDraw P md ops sp n0 (i + 1) rest ((i, S) :: acc) (upd e dst r) H K) : dcallQ P md ops sp n0 i rest acc e dst K f args H := by
  subst ha hS
  refine ⟨r, _, fun H' hag => ?_, hc, h⟩
  have he := args_agree hag fun x hx => hx
  exact ACalls.pureF (by rw [he]; exact hp) (by rw [he]; exact hcl) hf ⟨rfl, rfl⟩
theorem gcallQ_pureF {t : Bool} (hp : t = true → Pure P f args' r) (ha : args.map (rsvD H) = args') (hcl : t = true → D.clL args' = true) (hf : t = true → r.flat = true)
    (h : aOps P md ops rest (upd e dst (.opt t r)) H K) : gcallQ P md ops rest e dst K t f args H := by
  subst ha
  unfold gcallQ
  refine .inl ⟨r, args.flatMap ownIds, fun ht H' hag => ?_, h⟩
  have he := args_agree hag fun x hx => hx
  exact ACalls.pureF (by rw [he]; exact hp ht) (by rw [he]; exact hcl ht) (hf ht) ⟨rfl, rfl⟩
end
/-! ### calls of function values -/
def callV : D → List D → Option (FuncId × List D)
  | .fn g caps, az => some (g, az ++ caps)
  | _, _ => none
@[go_sem] theorem callV_fn (g : FuncId) (caps az : List D) : callV (.fn g caps) az = some (g, az ++ caps) := rfl
theorem callOf_row (e : Env) (d : Option Tmp) (f : Operand) (args : Array Operand) (ts : Array TypeId) (ty : TypeId) (p : String) (af : Array Edge) (g : Option (Nat × Bool)) :
    callOf e ⟨d, .call ⟨.value f, args, ts⟩, ty, p, af, g⟩ = callV (evD e f) (args.toList.map (evD e)) := by
  simp only [callOf, callV]
  cases evD e f <;> rfl
@[go_sem] theorem s_callv (P : Program) (md : Nat → Bool) (nid : Nat) (ops : Array Oper) (e : Env) (d : Option Tmp) (ty : TypeId) (p : String) (af : Array Edge) (H : AHeap) (t : Nat) (args : Array Operand) (ts : Array TypeId) :
    sem1 P md nid ops e ⟨d, .call ⟨.value (.tmp t), args, ts⟩, ty, p, af, none⟩ H = semC (callV (e t) (args.toList.map (evD e))) (.bad H) := by
  simp only [sem1, callOf_row]
  rfl
attribute [go_sem] decide_eq_true_eq List.nil_append List.cons_append
attribute [irreducible] dcallQ dgcallQ
end Go.Abs
end
section
namespace Go.Abs
def rsvP (H : AHeap) (d : D) : D :=
  match d with
  | .ptr id ver i off => match cellsAt H (.ptr id ver i off) with
    | some (c :: cs) => .adr (c :: cs)
    | _ => .ptr id ver i off
  | d => rsv1 H d
def idsP : D → List Nat
  | .ptr id _ _ _ => [id]
  | d => ids1 d
def rsvC (H : AHeap) (d : D) : D :=
  match d with
  | .fn g caps => .fn g (caps.map (rsvP H))
  | .ptr id ver i off => rsvP H (.ptr id ver i off)
  | d => rsvD H d
def idsC : D → List Nat
  | .fn _ caps => caps.flatMap idsP
  | .ptr id _ _ _ => [id]
  | d => ownIds d
section
variable {P : Program} {M0 : Nat → Prop} {H : AHeap} {σ : Nat → Option Ow} {w : World}
theorem cellsAt_same {H H' : AHeap} (h : ∀ i, (H'.get i).map (·.es) = (H.get i).map (·.es)) (d : D) : cellsAt H' d = cellsAt H d := by
  cases d <;> try rfl
  rename_i id ver i off
  have := h id
  simp only [cellsAt]
  cases h1 : H.get id <;> cases h2 : H'.get id <;> rw [h1, h2] at this <;> simp at this
  · simp only [this]
theorem rsvP_frozen {v : Value} {d : D} (hR : Rel M0 H σ w) (hx : RepV (Mut M0 H σ) σ H.al w v d) (hf : ∀ i ∈ idsP d, ∀ k, H.get i = some k → k.fz = true) :
    RepV (Mut M0 H σ) σ H.al w v (rsvP H d) := by
  cases d <;> try exact rsv1_frozen hR hx hf
  rename_i id ver i off
  simp only [rsvP]
  cases hc : cellsAt H (.ptr id ver i off) with
  | none => exact hx
  | some cs =>
    cases cs with
    | nil => exact hx
    | cons c cs =>
      obtain ⟨ad, xs, hv, hrep, h1, hcell⟩ := cellsAt_sound hR hx hc (by simp)
      subst hv
      have hnm : ¬ Mut M0 H σ ad.block := by
        cases hk : H.get id with
        | none => simp [cellsAt, hk] at hc
        | some k =>
          obtain ⟨o, ho, l⟩ := hR.lies id k hk
          have hver : k.es.length = ver := by
            simp only [cellsAt, hk] at hc
            split at hc
            · assumption
            · cases hc
          cases hx
          rename_i hN h1' h
          rcases h o ho with h' | ⟨_, b, hob, hvb⟩
          · have := l.ver; omega
          · cases hvb
            rintro (hm | ⟨i', k', o', hk', hf', ho', hb'⟩)
            · exact (hR.lt id o b ho hob).2 hm
            · have hi := hR.inj i' id o' o b ho' ho hb' hob
              subst hi
              rw [hk] at hk'; cases hk'
              rw [hf i' (by simp [idsP]) k hk] at hf'; cases hf'
      exact .adr ad xs _ hrep.len h1 (fun j u hu => ⟨hnm, hcell j u hu⟩) hrep.rep
theorem rsvC_frozen {v : Value} {d : D} (hR : Rel M0 H σ w) (hx : RepV (Mut M0 H σ) σ H.al w v d) (ids : List Nat) (hi : ∀ i ∈ idsC d, i ∈ ids) :
    RepV (Mut M0 (frzs ids H) σ) σ (frzs ids H).al w v (rsvC H d) := by
  obtain ⟨h1, h2, h3, h4⟩ := frzs_sound ids hR
  have hx' := hx.keep h2
  have hfr : ∀ i ∈ ids, ∀ k, (frzs ids H).get i = some k → k.fz = true := fun i hi k hk => by
    have he := (h4 i).1
    rw [hk] at he
    cases hk0 : H.get i with
    | none => rw [hk0] at he; cases he
    | some k0 =>
      obtain ⟨k', a1, a2, a3⟩ := (h4 i).2 k0 hk0 (.inr hi)
      rw [hk] at a1; cases a1; exact a2
  have hsame : ∀ d, rsvP (frzs ids H) d = rsvP H d := fun d => by
    have hq := rsv1_same (fun i => (h4 i).1) d
    cases d with
    | ptr id ver i off => simp only [rsvP, cellsAt_same (fun i => (h4 i).1)]
    | _ => exact hq
  cases d with
  | fn g caps =>
    cases hx'
    rename_i vs hl hr
    refine .fn g vs _ (by simpa using hl) fun j u x hu hx => ?_
    rw [List.getElem?_map, Option.map_eq_some_iff] at hx
    obtain ⟨y, hy, rfl⟩ := hx
    rw [← hsame y]
    refine rsvP_frozen h1 (hr j u y hu hy) fun i hii k hk => hfr i (hi i ?_) k hk
    simp only [idsC, List.mem_flatMap]
    exact ⟨y, List.mem_of_getElem? hy, hii⟩
  | ptr id ver i off =>
    simp only [rsvC]
    rw [← hsame]
    exact rsvP_frozen h1 hx' fun i hii k hk => hfr i (hi i hii) k hk
  | _ => exact rsvD_frozen hR hx ids hi
theorem repL_rsvC {vals : List Value} {args : List D} (hR : Rel M0 H σ w) (ha : RepL (Mut M0 H σ) σ H.al w vals args) (ids : List Nat) (hi : ∀ i ∈ args.flatMap idsC, i ∈ ids) :
    RepL (Mut M0 (frzs ids H) σ) σ (frzs ids H).al w vals (args.map (rsvC H)) :=
  ⟨by simpa using ha.len, fun j u d hu hd => by
    rw [List.getElem?_map, Option.map_eq_some_iff] at hd
    obtain ⟨y, hy, rfl⟩ := hd
    exact rsvC_frozen hR (ha.rep j u y hu hy) ids fun i hii => hi i (List.mem_flatMap.2 ⟨y, List.mem_of_getElem? hy, hii⟩)⟩
theorem ACalls.pureC {f : FuncId} {args : List D} {r : D} {Q : D → AHeap → Prop} (hp : Pure P f (args.map (rsvC H)) r) (hcl : D.clL (args.map (rsvC H)) = true) (hf : r.flat = true) (hQ : Q r H) : ACalls P f args H Q := by
  refine ⟨hp.1, fun M0 σ w vals hR ha => ?_⟩
  obtain ⟨f1, f2, f3, f4⟩ := frzs_sound (args.flatMap idsC) hR
  refine (hp.2 (Mut M0 (frzs (args.flatMap idsC) H) σ) w vals (mut_lt f1) (repL_closed (fun _ h => h) (repL_rsvC hR ha _ fun i h => h) hcl)).mono fun e w' ⟨v, he, hv, hb⟩ => ?_
  obtain ⟨h1, h2, h3⟩ := hR.grow hb.os hb.tape hb.output hb.size hb.block
  exact ⟨v, r, H, σ, he, h1, flat_rep hv hf, h2, h3, hQ⟩
theorem callQ_pureC {md : Nat → Bool} {ops : Array Oper} {rest : List Oper} {e : Env} {dst : Option Tmp} {K : Env → AHeap → Prop} {f : FuncId} {args args' : List D} {r : D} (hp : Pure P f args' r) (ha : args.map (rsvC H) = args') (hcl : D.clL args' = true) (hf : r.flat = true)
    (h : aOps P md ops rest (upd e dst r) H K) : callQ P md ops rest e dst K f args H := by subst ha; unfold callQ; exact ACalls.pureC hp hcl hf h
end
theorem Own.pure {P : Program} {f : FuncId} {args : List D} {ty : TypeId} {sz : Nat} {es : List (List D)} (h : Own P f args ty sz es) : Pure P f args (.list es) := by
  refine ⟨h.1, fun M w vals hM ha => (h.2 M w vals hM ha).mono fun e w' ⟨v, xs, he, hrow, h1, hrep, hcl, hsz, hb⟩ => ⟨v, he, ?_, hb⟩⟩
  have hclF : D.clL es.flatten = true := D.clL_of fun d hd => by
    obtain ⟨c, hcm, hxm⟩ := List.mem_flatten.1 hd
    exact D.clL_mem (D.clLL_mem hcl c hcm) d hxm
  have hrep' : RepL M noRef noId w' xs es.flatten := repL_closed (fun b h h' => h (.inl h')) hrep hclF
  rcases hrow.2 with ⟨hnil, h0⟩ | ⟨g, cap, cur, hval, hg, hcells, hnc, hcm, hsz', htake⟩
  · rw [hnil, List.eq_nil_of_length_eq_zero h0]; exact .listN
  · rw [hval]
    refine .list ⟨g, 0, none⟩ cap sz xs es hnc hcm hsz hrep'.len h1 (fun j u hu => ⟨fun hm => ?_, hrow.cells (g := g) (by simp [hval, Value.ownBlock]) j u hu⟩) hrep'.rep
    have := hM g hm
    omega
end Go.Abs
end
section
namespace Go.Abs
variable {P : Program} {md : Nat → Bool} {ops : Array Oper} {sp : List (Nat × Nat)} {n0 i : Nat} {rest : List Oper} {acc : List (Nat × List Nat)} {e : Env} {dst : Option Tmp} {K : Env → AHeap → Prop} {f : FuncId} {args : List D} {H : AHeap} {r : D}
theorem cq0 (hp : Pure P f args r) (h : aOps P md ops rest (upd e dst r) H K) (hcl : D.clL args = true := by first | rfl | (simp [go_sem, ← List.map_take, ← List.map_drop]; done)) : callQ P md ops rest e dst K f args H := callQ_pure0 hp hcl h
theorem dcq0 (hp : Pure P f args r) (h : aDraw P md ops sp n0 (i + 1) rest ((i, []) :: acc) (upd e dst r) H K) (hcl : D.clL args = true := by first | rfl | (simp [go_sem, ← List.map_take, ← List.map_drop]; done)) : dcallQ P md ops sp n0 i rest acc e dst K f args H := dcallQ_pure0 hp hcl h
theorem gcq0 {t : Bool} (hp : t = true → Pure P f args r) (h : aOps P md ops rest (upd e dst (.opt t r)) H K) (hcl : t = true → D.clL args = true := by first | exact fun _ => rfl | (intro _; simp [go_sem, ← List.map_take, ← List.map_drop]; done)) : gcallQ P md ops rest e dst K t f args H := gcallQ_pure0 hp hcl h
theorem dgcq0 {t : Bool} (hp : t = true → Pure P f args r) (h : aDraw P md ops sp n0 (i + 1) rest ((i, []) :: acc) (upd e dst (.opt t r)) H K) (hcl : t = true → D.clL args = true := by first | exact fun _ => rfl | (intro _; simp [go_sem, ← List.map_take, ← List.map_drop]; done)) : dgcallQ P md ops sp n0 i rest acc e dst K t f args H := dgcallQ_pure0 hp hcl h
end Go.Abs
end
section
namespace Go.Abs
theorem frs {a n : Nat} (h : a < n) : (a = n) = False ∧ (∀ k, (a = n + k) = False) ∧ (∀ k l, (a = n + k + l) = False) ∧ (n = a) = False ∧ (∀ k, (n + k = a) = False) ∧ (∀ k l, (n + k + l = a) = False) ∧
    (∀ k l m, (a = n + k + l + m) = False) ∧ (∀ k l m, (n + k + l + m = a) = False) ∧ (∀ k l m p, (a = n + k + l + m + p) = False) ∧ (∀ k l m p, (n + k + l + m + p = a) = False) :=
  ⟨eq_false (by omega), fun _ => eq_false (by omega), fun _ _ => eq_false (by omega), eq_false (by omega), fun _ => eq_false (by omega), fun _ _ => eq_false (by omega),
    fun _ _ _ => eq_false (by omega), fun _ _ _ => eq_false (by omega), fun _ _ _ _ => eq_false (by omega), fun _ _ _ _ => eq_false (by omega)⟩
theorem nep {a b : Nat} (h : a ≠ b) : (a = b) = False ∧ (b = a) = False := ⟨eq_false h, eq_false (Ne.symm h)⟩
theorem nxs (n : Nat) : (∀ a, (n = n + a) = (a = 0)) ∧ (∀ a b, (n = n + a + b) = (a + b = 0)) ∧ (∀ a b c, (n = n + a + b + c) = (a + b + c = 0)) ∧ (∀ a b c d, (n = n + a + b + c + d) = (a + b + c + d = 0)) :=
  ⟨fun _ => propext (by omega), fun _ _ => propext (by omega), fun _ _ _ => propext (by omega), fun _ _ _ _ => propext (by omega)⟩
end Go.Abs
end
section
namespace Go.Abs
attribute [go_sem] D.cell D.cl D.clL D.clLL D.flat D.flat1 splice chunks List.take_succ_cons List.take_zero List.drop_succ_cons List.drop_zero List.replicate_succ List.replicate_zero List.flatten_cons List.flatten_nil
def dI (n : Int) : D := .int .i64 n
def dE (n : Int) : D := .int .i64 n
def cI (n : Int) : List D := [.int .i64 n]
def cS (s : ByteArray) : List D := [.str s]
def dLI (xs : List Int) : D := .list (xs.map cI)
def dLS (xs : List ByteArray) : D := .list (xs.map cS)
structure Attr where
  name : ByteArray
  low : Int
  high : Int
  names : List ByteArray
def Attr.c (a : Attr) : List D := [.str a.name, dI a.low, dI a.high, dLS a.names]
structure NodeTy where
  name : ByteArray
  parent : Int
  abs : Bool
  attrs : List Attr
def NodeTy.c (n : NodeTy) : List D := [.str n.name, dI n.parent, .bool n.abs, .list (n.attrs.map Attr.c)]
structure EdgeTy where
  name : ByteArray
  from_ : Int
  to_ : Int
  outLow : Int
  outHigh : Int
  inLow : Int
  inHigh : Int
def EdgeTy.c (x : EdgeTy) : List D := [.str x.name, dI x.from_, dI x.to_, dI x.outLow, dI x.outHigh, dI x.inLow, dI x.inHigh]
structure Types where
  nodes : List NodeTy
  edges : List EdgeTy
def Types.c (t : Types) : List D := [.list (t.nodes.map NodeTy.c), .list (t.edges.map EdgeTy.c)]
def Types.d (t : Types) : D := .agg t.c
structure Edge where
  type : Int
  from_ : Int
  to_ : Int
def Edge.c (x : Edge) : List D := [dI x.type, dI x.from_, dI x.to_]
structure Graph where
  nodes : List Int
  edges : List Edge
def Graph.c (g : Graph) : List D := [dLI g.nodes, .list (g.edges.map Edge.c)]
def Graph.d (g : Graph) : D := .agg g.c
/-! ### closed -/
theorem clLL_map {α : Type} (f : α → List D) (h : ∀ a, D.clL (f a) = true) (l : List α) : D.clLL (l.map f) = true := by
  induction l with
  | nil => rfl
  | cons a l ih => simp [D.clLL, h, ih]
@[go_sem] theorem dLI_cl (l : List Int) : (dLI l).cl = true := by simp only [dLI, D.cl]; exact clLL_map _ (fun _ => rfl) l
@[go_sem] theorem dLS_cl (l : List ByteArray) : (dLS l).cl = true := by simp only [dLS, D.cl]; exact clLL_map _ (fun _ => rfl) l
@[go_sem] theorem Attr.cl (a : Attr) : D.clL a.c = true := by simp [Attr.c, D.clL, D.cl, dI, dLS_cl]
@[go_sem] theorem NodeTy.cl (n : NodeTy) : D.clL n.c = true := by simp [NodeTy.c, D.clL, D.cl, dI, clLL_map _ Attr.cl]
@[go_sem] theorem EdgeTy.cl (x : EdgeTy) : D.clL x.c = true := by simp [EdgeTy.c, D.clL, D.cl, dI]
@[go_sem] theorem Types.cl (t : Types) : t.d.cl = true := by simp [Types.d, Types.c, D.clL, D.cl, clLL_map _ NodeTy.cl, clLL_map _ EdgeTy.cl]
@[go_sem] theorem Edge.cl (x : Edge) : D.clL x.c = true := by simp [Edge.c, D.clL, D.cl, dI]
@[go_sem] theorem Graph.cl (g : Graph) : g.d.cl = true := by simp [Graph.d, Graph.c, D.clL, D.cl, dLI_cl, clLL_map _ Edge.cl]
@[go_sem] theorem tupD_two (a b : D) (l : List D) : tupD (a :: b :: l) = .tup (a :: b :: l) := rfl
end Go.Abs
end
section
namespace Go.Abs
def nz1 : D → D
  | .nil => .list []
  | d => d
def nzD : D → D
  | .agg cs => .agg (cs.map nz1)
  | d => nz1 d
def nzT : D → D
  | .tup vs => .tup (vs.map nzD)
  | d => nzD d
@[go_sem] theorem nz1_int (k : IntKind) (n : Int) : nz1 (.int k n) = .int k n := rfl
@[go_sem] theorem nz1_bool (b : Bool) : nz1 (.bool b) = .bool b := rfl
@[go_sem] theorem nz1_str (b : ByteArray) : nz1 (.str b) = .str b := rfl
@[go_sem] theorem nz1_list (l : List (List D)) : nz1 (.list l) = .list l := rfl
@[go_sem] theorem nz1_nil : nz1 .nil = .list [] := rfl
@[go_sem] theorem nzD_int (k : IntKind) (n : Int) : nzD (.int k n) = .int k n := rfl
@[go_sem] theorem nzD_bool (b : Bool) : nzD (.bool b) = .bool b := rfl
@[go_sem] theorem nzD_str (b : ByteArray) : nzD (.str b) = .str b := rfl
@[go_sem] theorem nzD_list (l : List (List D)) : nzD (.list l) = .list l := rfl
@[go_sem] theorem nzD_nil : nzD .nil = .list [] := rfl
@[go_sem] theorem nzD_agg (l : List D) : nzD (.agg l) = .agg (l.map nz1) := rfl
@[go_sem] theorem nzT_int (k : IntKind) (n : Int) : nzT (.int k n) = .int k n := rfl
@[go_sem] theorem nzT_bool (b : Bool) : nzT (.bool b) = .bool b := rfl
@[go_sem] theorem nzT_str (b : ByteArray) : nzT (.str b) = .str b := rfl
@[go_sem] theorem nzT_list (l : List (List D)) : nzT (.list l) = .list l := rfl
@[go_sem] theorem nzT_nil : nzT .nil = .list [] := rfl
@[go_sem] theorem nzT_agg (l : List D) : nzT (.agg l) = .agg (l.map nz1) := rfl
@[go_sem] theorem nzT_tup (l : List D) : nzT (.tup l) = .tup (l.map nzD) := rfl
theorem nz1_rep {M : Nat → Prop} {σ : Nat → Option Ow} {N : Nat → Prop} {w : World} {v : Value} {d : D} (h : RepV M σ N w v d) : RepV M σ N w v (nz1 d) := by
  cases d <;> try exact h
  cases h
  exact .listN
theorem nzD_rep {M : Nat → Prop} {σ : Nat → Option Ow} {N : Nat → Prop} {w : World} {v : Value} {d : D} (h : RepV M σ N w v d) : RepV M σ N w v (nzD d) := by
  cases d <;> try exact nz1_rep h
  cases h
  rename_i vs h1 hl hr
  refine .agg vs _ (by simpa using hl) h1 fun j u d hu hd => ?_
  rw [List.getElem?_map, Option.map_eq_some_iff] at hd
  obtain ⟨y, hy, rfl⟩ := hd
  exact nz1_rep (hr j u y hu hy)
theorem nzT_rep {M : Nat → Prop} {σ : Nat → Option Ow} {N : Nat → Prop} {w : World} {v : Value} {d : D} (h : RepV M σ N w v d) : RepV M σ N w v (nzT d) := by
  cases d <;> try exact nzD_rep h
  cases h
  rename_i vs hl hr
  refine .tup vs _ (by simpa using hl) fun j u d hu hd => ?_
  rw [List.getElem?_map, Option.map_eq_some_iff] at hd
  obtain ⟨y, hy, rfl⟩ := hd
  exact nzD_rep (hr j u y hu hy)
section
variable {P : Program} {c : Cfg}
theorem pureK {f : FuncId} {args : List D} {r : D} (hcl : r.cl = true) (h : ∀ Q : D → AHeap → Prop, (∀ d H', (rsvT H' d = r ∨ nzT (rsvT H' d) = r) → Q d H') → ACalls P f args .emp Q) : Pure P f args r := by
  have h := h (fun d H' => rsvT H' d = r ∨ nzT (rsvT H' d) = r) fun _ _ h => h
  refine ⟨h.1, fun M w vals hM ha => (h.2 M noRef w vals (rel_emp M w hM) (by rw [mut_emp]; exact ha)).mono fun e w' ⟨v, d, H', σ', he, hR, hv, hst, hk, hr⟩ => ⟨v, he, ?_, stp_below hst⟩⟩
  have h1 : RepV (Mut M (frzs (ownT d) H') σ') σ' (frzs (ownT d) H').al w' v r := by
    have h0 := rsvT_frozen hR hv (ownT d) fun i hi => hi
    rcases hr with hr | hr
    · rw [hr] at h0; exact h0
    · have h0 := nzT_rep h0; rw [hr] at h0; exact h0
  exact h1.closed (fun ad u hm hc => ⟨fun h => hm (.inl h), hc⟩) hcl
theorem ownK {f : FuncId} {args : List D} {ty : TypeId} {sz : Nat} {es : List (List D)} (hcl : D.clLL es = true)
    (h : ∀ Q : D → AHeap → Prop, (∀ id n H', n = es.length → H'.get id = some ⟨ty, sz, es, false⟩ → Q (.own id n) H') → ACalls P f args .emp Q) : Own P f args ty sz es :=
  own_of_calls (h _ fun id n H' hn hg => ⟨id, _, by rw [hn], hg, rfl, rfl, rfl, rfl, hcl⟩)
def nextQ (I : Nat → Env → AHeap → Prop) (m : Nat → Nat) (x : Nat) (e : Env) (H : AHeap) : Prop := ∃ x', m x' < m x ∧ I x' e H
theorem nextQ_mk {I : Nat → Env → AHeap → Prop} {m : Nat → Nat} {x : Nat} {e : Env} {H : AHeap} (x' : Nat) (hm : m x' < m x) (hI : I x' e H) : nextQ I m x e H := ⟨x', hm, hI⟩
theorem loopK {b : Code} {Q : Exit → Env → AHeap → Prop} {e : Env} {H : AHeap} (I : Nat → Env → AHeap → Prop) (μ : Nat → Nat) (x0 : Nat) (h0 : I x0 e H)
    (hs : ∀ x e H, I x e H → AWp P c b (thenQ (nextQ I μ x) Q) e H) : loopQ P c b Q e H := loop_rule I μ x0 h0 hs
theorem loopKG {b : Code} {Q : Exit → Env → AHeap → Prop} {e : Env} {H H' : AHeap} (hg : Ghosts H H') (I : Nat → Env → AHeap → Prop) (μ : Nat → Nat) (x0 : Nat) (h0 : I x0 e H')
    (hs : ∀ x e H, I x e H → AWp P c b (thenQ (nextQ I μ x) Q) e H) : loopQ P c b Q e H := loop_ghosts hg I μ x0 h0 hs
end
@[go_sem] theorem ghost_row (H : AHeap) (id i off : Nat) (ty sz : Nat) : ghost H id i off ty sz = match H.get id with
  | some k => (H.put id { k with es := k.es.set i ((k.es[i]?.getD []).set off (.own H.next 0)) }).push H.next ⟨ty, sz, [], false⟩
  | none => H := rfl
attribute [go_sem] List.set_cons_zero List.set_cons_succ
attribute [irreducible] nextQ
theorem obl {p : Prop} (h : p := by (first | assumption | (intros; first | assumption | omega | exact inR_i64 (by omega) (by omega) | (and_intros <;> first | assumption | omega | exact inR_i64 (by omega) (by omega))) | (simp_all <;> omega))) : p := h
theorem obs {p : Prop} (h : p := by (first | assumption | (intros; first | assumption | omega | exact inR_i64 (by omega) (by omega) | (and_intros <;> first | assumption | omega | exact inR_i64 (by omega) (by omega))) | (simp; done) | (simp; omega))) : p := h
end Go.Abs
end
