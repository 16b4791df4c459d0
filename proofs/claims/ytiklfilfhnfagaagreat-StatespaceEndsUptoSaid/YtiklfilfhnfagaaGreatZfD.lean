/- The abstraction layer, part L: calls, and one operation of a -/
import Derived.Test.YtiklfilfhnfagaaGreatZfC
set_option linter.unusedVariables false
set_option linter.unusedSimpArgs false
section
namespace Go.Abs
def RQ (P:Program)(f:FuncId):Prop:=∃ fn,P.funcs[f]?=some fn∧(fn.name=="runtime.NumGoroutine")=false∧fn.body.isSome=true
def ACalls (P:Program)(f:FuncId)(args:List D)(H:AHeap)(Q:D→AHeap→Prop):Prop :=
 RQ P f∧∀ (M0:Nat→Prop) (σ:Nat→Option Ow) (w:World) (vals:List Value),Rel M0 H σ w→RepL (cF M0 H σ) σ H.al w vals args →
  Calls P f vals.toArray w fun e w'=>∃ v d H' σ',e=.returned v∧Rel M0 H' σ' w'∧RepV (cF M0 H' σ') σ' H'.al w' v d∧Stp σ w σ' w' ∧
   Keeps (cF M0 H σ) σ H.al w (cF M0 H' σ') σ' H'.al w'∧Q d H'
theorem ACalls.mono {P:Program}{f:FuncId}{args:List D}{H:AHeap}{Q Q':D→AHeap→Prop}(h:ACalls P f args H Q)(hq:∀ d H',Q d H'→Q' d H'):ACalls P f args H Q' :=
 ⟨h.1,fun M0 σ w vals hR ha=>(h.2 M0 σ w vals hR ha).mono fun _ _ ⟨v,d,H',σ',a,b,c,s,k,q⟩=>⟨v,d,H',σ',a,b,c,s,k,hq _ _ q⟩⟩
def kY (e:Nat→D)(dst:Option Tmp)(v:D):Nat→D :=
 match dst with
 | some d=>fun t=>if t=d then v else e t
 | none=>e
structure St (n:Nat) (M0:Nat→Prop) (H:AHeap) (σ:Nat→Option Ow) (w:World) (e:Nat→D) (a:Act):Prop where
 rel:Rel M0 H σ w
 env:∀ t,RepV (cF M0 H σ) σ H.al w (a.tmps.getD t undef) (e t)
 defers:a.defers=[]
 size:a.tmps.size=n
section
variable {P:Program} {M0:Nat→Prop} {H:AHeap} {σ:Nat→Option Ow} {w:World} {n:Nat} {e:Nat→D} {a:Act}
theorem St.envR (h:St n M0 H σ w e a):EnvR (cF M0 H σ) σ H.al w a.eval e:=⟨h.env,fun _=>rfl,fun _=>rfl⟩
def pG (n:Nat):Option Tmp→Bool
 | some d=>decide (d<n)
 | none=>true
theorem St.put {H':AHeap}{σ':Nat→Option Ow}{w':World}(h:St n M0 H σ w e a)(hR:Rel M0 H' σ' w')(hk:Keeps (cF M0 H σ) σ H.al w (cF M0 H' σ') σ' H'.al w')
  {dst:Option Tmp} (hd:pG n dst=true) {v:Value} {d:D} (hv:RepV (cF M0 H' σ') σ' H'.al w' v d):St n M0 H' σ' w' (kY e dst d) (a.put dst v):=by
 cases dst with
 | none=>exact ⟨hR,fun t=>(h.env t).keep hk,h.defers,h.size⟩
 | some q =>
  have hq:q<a.tmps.size:=by rw [h.size];simpa [pG] using hd
  refine ⟨hR,fun t=>?_,h.defers,by simpa [Act.put] using h.size⟩
  by_cases ht:t=q
  ·subst ht
   simpa [kY,Act.put,hq] using hv
  ·have ht':¬ q=t:=fun e=>ht e.symm
   have:=(h.env t).keep hk
   simpa [kY,Act.put,ht,ht',Array.getElem?_setIfInBounds] using this
theorem Cx {nid:Nat}{md:Nat→Bool}{e e':Nat→D}{o:Oper}(h:∀ x∈o.op.operands,eK e x=eK e' x):Dv P nid md e o H=Dv P nid md e' o H:=by
 obtain ⟨dst,op,type,pos,after,guard⟩:=o
 have hmap:∀ (l:List (Nat × Operand)),(∀ p∈l,eK e p.2=eK e' p.2)→(l.map fun p=>(p.1,eK e p.2))=l.map fun p=>(p.1,eK e' p.2):=fun l hl =>
  bP fun p hp=>by rw [hl p hp]
 unfold Dv
 cases op<;>simp only [Op.operands] at h ⊢<;>first|rfl|skip
 case move x=>rw [h x (by simp)]
 case assign x=>rw [h x (by simp)]
 case pick c a b=>rw [h c (by simp),h a (by simp),h b (by simp)]
 case box t x=>rw [h x (by simp)]
 case build t ps =>
  rw [hmap ps.toList fun p hp=>h p.2 (by simpa using ⟨p.1,by simpa using hp⟩)]
 case buildSlice t n ps =>
  have hl:∀ p∈ps.toList,eK e p.2=eK e' p.2:=fun p hp=>h p.2 (by simpa using ⟨p.1,by simpa using hp⟩)
  have h1:(ps.toList.map fun p=>(p.1,NZ md H (eK e p.2)))=ps.toList.map fun p=>(p.1,NZ md H (eK e' p.2)):=bP fun p hp=>by rw [hl p hp]
  have h2:(ps.toList.flatMap fun p=>I7 md (eK e p.2))=ps.toList.flatMap fun p=>I7 md (eK e' p.2):=by
   rw [List.flatMap_def,List.flatMap_def,bP fun p hp=>by rw [hl p hp]]
  rw [h1,h2]
 case load t a=>rw [h a (by simp)]
 case store t a v=>rw [h a (by simp),h v (by simp)]
 case nilCheck x=>rw [h x (by simp)]
 case binOp op t x y t'=>rw [h x (by simp),h y (by simp)]
 case unOp op t x=>rw [h x (by simp)]
 case convert s d x=>rw [h x (by simp)]
 case makeFunc fn first caps =>
  cases fn<;>simp only
  have:caps.toList.map (eK e)=caps.toList.map (eK e'):=bP fun x hx=>h x (by simp;exact .inr (by simpa using hx))
  rw [this]
 case makeSlice t l c=>rw [h l (by simp),h c (by simp)]
 case slice t x lo hi mx =>
  cases mx<;>simp only
  rw [h x (by simp)]
  cases lo<;>cases hi<;>simp only [Option.map_none,dK]
  ·rename_i y;rw [h y (by simp)]
  ·rename_i y;rw [h y (by simp)]
  ·rename_i y z;rw [h y (by simp),h z (by simp)]
 case fieldAddr t x f=>rw [h x (by simp)]
 case indexAddr t x i=>rw [h x (by simp),h i (by simp)]
 case index t x i=>rw [h x (by simp),h i (by simp)]
 case extract t i=>rw [h t (by simp)]
 case call c =>
  obtain ⟨callee,args,ts⟩:=c
  cases callee<;>simp only
  have:args.toList.map (eK e)=args.toList.map (eK e'):=bP fun x hx=>h x (by simpa [Call.operands] using hx)
  rw [this]
theorem oA {e e':Nat→D}{o:Oper}(h:∀ x∈o.op.operands,eK e x=eK e' x):f7 e o=f7 e' o:=by
 obtain ⟨dst,op,type,pos,after,guard⟩:=o
 unfold f7
 cases op<;>simp only
 rename_i c
 obtain ⟨callee,args,ts⟩:=c
 cases callee<;>simp only
 rename_i f
 have hf:eK e f=eK e' f:=h f (by simp [Op.operands,Call.operands])
 have:args.toList.map (eK e)=args.toList.map (eK e'):=bP fun x hx=>h x (by simp [Op.operands,Call.operands];exact .inr (by simpa using hx))
 rw [hf,this]
/-! ### guards -/
def gD (ops:Array Oper)(e:Nat→D)(j:Nat):Option (Bool × Bool) :=
 match (ops[j]?).bind (·.dst) with
 | some t=>match e t with
  | .bool c=>some (true,c)
  | .opt g (.bool c)=>some (g,c)
  | _=>none
 | none=>none
def CE (e:Nat→D):Nat→D:=fun t=>match e t with | .opt _ d=>d|d=>d
def gE (e:Nat→D)(op:Op):Nat→D :=
 match op with
 | .pick (.tmp c) _ _=>fun t=>if t=c then CE e t else e t
 | .pick _ _ _=>e
 | _=>CE e
def gO (op:Op):List Operand :=
 match op with
 | .pick c _ _=>[c]
 | op=>op.operands.toList
theorem UF {op:Op}{x:Operand}(h:x∈gO op):x∈op.operands:=by
 cases op<;>simp only [gO] at h<;>first|(simpa using h)|(simp only [aR] at h;subst h;simp [Op.operands])
def og (e:Nat→D):Operand→Bool
 | .tmp t=>match e t with
  | .opt g _=>g
  | _=>true
 | _=>true
def P0 (e:Nat→D):List Operand→Bool
 | []=>true
 | x :: l=>og e x&&P0 e l
theorem Sk {l:List Operand}(h:P0 e l=true):∀ x∈l,og e x=true:=by
 induction l with
 | nil=>simp
 | cons a l ih =>
  simp only [P0,aQ] at h
  intro x hx
  cases hx with
  | head=>exact h.1
  | tail _ hm=>exact ih h.2 x hm
theorem H6 (hS : St n M0 H σ w e a) {ops : Array Oper} {o : Oper} {j : Nat} {b g c : Bool} (hg : o.guard = some (j, b)) (h : gD ops e j = some (g, c)) :
    Region.wanted o (yielded ops a.tmps) = (g && (c == b)) := by
  unfold gD at h
  cases ht : (ops[j]?).bind (·.dst) with
  | none => simp [ht] at h
  | some t =>
    simp only [ht] at h
    have hget : a.tmps.getD t undef = (a.tmps[t]?).getD undef := by simp
    have henv := hS.env t
    rw [hget] at henv
    have key : ∀ b' : Bool, (a.tmps[t]?).getD undef = .bool b' → yielded ops a.tmps j = some b' := by
      intro b' hb
      cases hx : a.tmps[t]? with
      | none => rw [hx] at hb; simp [undef] at hb
      | some x => rw [hx] at hb; simp at hb; subst hb; simp [yielded, ht, hx]
    simp only [Region.wanted, hg]
    split at h
    · rename_i c' hc
      cases h
      rw [hc] at henv
      have hb : (a.tmps[t]?).getD undef = .bool c := by generalize (a.tmps[t]?).getD undef = v at henv; cases henv; rfl
      rw [key c hb]
      cases c <;> cases b <;> rfl
    · rename_i g' c' hc
      cases h
      rw [hc] at henv
      generalize hv : (a.tmps[t]?).getD undef = v at henv
      cases henv
      rename_i hf ht'
      cases g with
      | true =>
        have := ht' rfl
        cases this
        rw [key c hv]
        cases c <;> cases b <;> rfl
      | false =>
        have hu := hf rfl
        have : yielded ops a.tmps j = none := by
          cases hx : a.tmps[t]? with
          | none => simp [yielded, ht, hx]
          | some x => rw [hx] at hv; simp at hv; rw [hu] at hv; subst hv; simp [yielded, ht, hx]
        rw [this]
        simp
    · cases h
/-! ### one operation -/
def fD (S:List Nat)(H' H:AHeap):Prop:=∀ i∈S,H'.get i=H.get i
def dH:D→List Nat
 | .own id _=>[id]
 | .win id _ _ _=>[id]
 | .ptr id _ _ _=>[id]
 | .agg cs=>cs.flatMap jZ
 | _=>[]
def ET:Op→Bool
 | .alloc _ | .box .. | .buildSlice .. | .makeSlice ..=>true
 | .call { callee:=.builtin .append,.. }=>true
 | .move x | .assign x=>iN x
 | _=>false
def pD:Op→Bool
 | .load .. | .store .. | .nilCheck _ | .fieldAddr .. | .indexAddr .. | .slice .. | .alloc _ | .box .. | .buildSlice .. | .makeSlice ..=>true
 | .call _=>true
 | .move x | .assign x=>iN x
 | _=>false
def foot (nid:Nat)(e:Nat→D)(o:Op):List Nat :=
 (if ET o then [nid] else [])++(if pD o then o.operands.toList.flatMap fun x=>dH (eK e x) else [])
def AHeap.pushs (H:AHeap):List (Nat × Blk)→AHeap
 | []=>H
 | p :: l=>AHeap.pushs (H.push p.1 p.2) l
def AHeap.puts (H:AHeap):List (Nat × Blk)→AHeap
 | []=>H
 | p :: l=>AHeap.puts (H.put p.1 p.2) l
def oB (P : Program) (md : Nat → Bool) (dr : Option Nat) (nid : Nat) (ops : Array Oper) (e : Nat → D) (o : Oper) (H : AHeap) (K : D → AHeap → List Nat → Prop) : Prop :=
  match o.guard with
  | none => match f7 e o with
    | some (f, args) =>
      match dr with
      | some m => (∃ r S, (∀ H', fD S H' H → ACalls P f args H' fun v H1 => v = r ∧ H1 = H') ∧ K r H S) ∨
          (CR md o.dst = true ∧ ∃ r S u q, (∀ p ∈ u, p.1 ∈ S) ∧ (∀ p ∈ q, p.1 < m ∧ ¬ H.al p.1) ∧
            (∀ H', fD S H' H → (∀ p ∈ q, p.1 < H'.next ∧ ¬ H'.al p.1) → ACalls P f args H' fun v H1 => v = r ∧ H1 = (H'.puts u).pushs q) ∧ K r ((H.puts u).pushs q) (S ++ q.map (·.1)))
      | none => ACalls P f args H fun v H1 => K v H1 []
    | none => (Dv P nid md e o H).cond ∧ ((dr = none → (Dv P nid md e o H).fact) → K (Dv P nid md e o H).val (Dv P nid md e o H).heap (foot nid e o.op))
  | some (j, b) => match gD ops e j with
    | some (g, c) => ((g && (c == b)) = true → P0 e (gO o.op) = true) ∧
      match f7 (gE e o.op) o with
      | some (f, args) =>
        match dr with
        | some _ => ∃ r S, ((g && (c == b)) = true → ∀ H', fD S H' H → ACalls P f args H' fun v H1 => v = r ∧ H1 = H') ∧ K (.opt (g && (c == b)) r) H S
        | none => (∃ r S, ((g && (c == b)) = true → ∀ H', fD S H' H → ACalls P f args H' fun v H1 => v = r ∧ H1 = H') ∧ K (.opt (g && (c == b)) r) H S) ∨
          (((g && (c == b)) = true → ACalls P f args H fun v H1 => K (.opt true v) H1 []) ∧ ((g && (c == b)) = false → ∃ r, K (.opt false r) H []))
      | none => ((g && (c == b)) = true → (Dv P nid md (gE e o.op) o H).cond ∧ (Dv P nid md (gE e o.op) o H).heap = H) ∧
          ((dr = none → (g && (c == b)) = true → (Dv P nid md (gE e o.op) o H).fact) → K (.opt (g && (c == b)) (Dv P nid md (gE e o.op) o H).val) H (foot nid (gE e o.op) o.op))
    | none => False
theorem Aj {o:Oper}{f:FuncId}{args:List D}{ρ:Operand→Value}{e:Nat→D}(hE:∀ x∈o.op.operands,RepV (cF M0 H σ) σ H.al w (ρ x) (eK e x))(hc:f7 e o=some (f,args))(he:RQ P f) :
  ∃ vals,(execOp ρ o).run P w=.ok (.enter f vals.toArray) w∧RepL (cF M0 H σ) σ H.al w vals args:=by
 obtain ⟨dst,op,type,pos,after,guard⟩:=o
 unfold f7 at hc
 cases op<;>simp only at hc<;>try (cases hc;done)
 rename_i c
 obtain ⟨callee,az,ts⟩:=c
 cases callee<;>simp only at hc<;>try (cases hc;done)
 rename_i fo
 split at hc
 ·rename_i g caps hg
  simp at hc
  obtain ⟨rfl,rfl⟩:=hc
  have hfo:=hE fo (by simp [Op.operands,Call.operands])
  rw [hg] at hfo
  generalize hv:ρ fo=v at hfo
  cases hfo
  rename_i vs hl hr
  obtain ⟨fn,hfn,hnm,hb⟩:=he
  refine ⟨az.toList.map ρ++vs,?_,⟨by simp [hl],fun j u d hu hd=>?_⟩⟩
  ·have hb':fn.body.isNone=false:=by cases hh:fn.body<;>simp [hh] at hb ⊢
   have hprog:Sem.run P program w=.ok P w:=rfl
   simp only [execOp,resolve,hv,Deferred.ofValue,invoke,callFunc,Sem.run_bind,Sem.run_pure,Result.andThen_ok,hprog,hfn,hnm,hb',dV,if_false]
   congr 2
   apply Array.ext'
   simp
  ·by_cases hj:j<az.size
   ·rw [aX (by simpa using hj)] at hu hd
    simp only [aN,bC] at hu hd
    obtain ⟨p,hp,rfl⟩:=hu
    obtain ⟨q,hq,rfl⟩:=hd
    rw [hp] at hq;cases hq
    exact hE p (by simp [Op.operands,Call.operands];exact .inr (by simpa using aJ hp))
   ·rw [bE (by simp;omega)] at hu hd
    simp only [bM,fL] at hu hd
    exact hr _ u d hu hd
 ·cases hc
def StepC (P:Program)(ops:Array Oper)(Q:Exit→Act→World→Prop)(o:Oper)(Kc:Act→World→Prop)(a:Act)(w:World):Prop :=
 if Region.wanted o (yielded ops a.tmps) then o.wp P a w Kc Q∨(o.asks P a w∧LetsOut Q) else Kc (a.put o.dst undef) w
theorem zO {o:Oper}{f:FuncId}{args:List D}{vals:List Value}{Kc:Act→World→Prop}{Q:Exit→Act→World→Prop}(hrun:(execOp a.eval o).run P w=.ok (.enter f vals.toArray) w)
  (h:Calls P f vals.toArray w fun e w'=>∃ v,e=.returned v∧Kc (a.put o.dst v) w'):o.wp P a w Kc Q:=by
 unfold Oper.wp
 rw [hrun,Oper.upon_enter]
 exact h.mono fun e w' ⟨v,he,hk⟩=>by subst he;exact hk
theorem xX {md : Nat → Bool} {dr : Option Nat} {nid : Nat} {ops : Array Oper} {o : Oper} {K : D → AHeap → List Nat → Prop} {Q : Exit → Act → World → Prop}
    (h : oB P md dr nid ops e o H K) (hS : St n M0 H σ w e a) (hn : ¬ H.al nid) (hd : pG n o.dst = true) (hm : ∀ m, dr = some m → m ≤ H.next := by intro _ h; cases h) :
    StepC P ops Q o (fun a' w' => ∃ v H' F σ', K v H' F ∧ St n M0 H' σ' w' (kY e o.dst v) a' ∧ Stp σ w σ' w' ∧ Keeps (cF M0 H σ) σ H.al w (cF M0 H' σ') σ' H'.al w') a w := by
  unfold oB at h
  unfold StepC
  cases hg : o.guard with
  | none =>
    simp only [hg] at h
    have hw : Region.wanted o (yielded ops a.tmps) = true := by simp [Region.wanted, hg]
    rw [if_pos hw]
    left
    cases hc : f7 e o with
    | none =>
      simp only [hc] at h
      obtain ⟨h1, v, w', σ', h2, h3, h4, h5, h6⟩ := EM (P := P) hn hS.rel hS.envR h.1
      unfold Oper.wp
      rcases h2 with h2 | ⟨h2, rfl⟩
      · rw [h2, Oper.upon_value]
        exact ⟨_, _, _, σ', h.2 (fun _ => h1), hS.put h3 h6 hd h4, h5, h6⟩
      · rw [h2, Oper.upon_skip]
        exact ⟨_, _, _, σ', h.2 (fun _ => h1), hS.put h3 h6 hd h4, h5, h6⟩
    | some fa =>
      obtain ⟨f, args⟩ := fa
      simp only [hc] at h
      have hgen : ∀ Q' : D → AHeap → Prop, ACalls P f args H Q' → (∀ v H', Q' v H' → ∃ F, K v H' F) →
          o.wp P a w (fun a' w' => ∃ v H' F σ', K v H' F ∧ St n M0 H' σ' w' (kY e o.dst v) a' ∧ Stp σ w σ' w' ∧ Keeps (cF M0 H σ) σ H.al w (cF M0 H' σ') σ' H'.al w') Q := by
        intro Q' hA hQ
        obtain ⟨vals, hrun, hrep⟩ := Aj (P := P) (fun x _ => hS.envR.ev x) hc hA.1
        refine zO (args := args) hrun ((hA.2 M0 σ w vals hS.rel hrep).mono fun e' w' ⟨v, d, H', σ', he, hR', hv, hst, hk, hq⟩ => ?_)
        obtain ⟨F, hF⟩ := hQ _ _ hq
        exact ⟨v, he, d, H', F, σ', hF, hS.put hR' hk hd hv, hst, hk⟩
      cases dr with
      | none => exact hgen _ h fun v H' hk => ⟨[], hk⟩
      | some m =>
        rcases h with ⟨r, S, h1, h2⟩ | ⟨_, r, S, u, q, hu, hq, h1, h2⟩
        · exact hgen _ (h1 H fun _ _ => rfl) fun v H' ⟨e1, e2⟩ => ⟨S, by rw [e1, e2]; exact h2⟩
        · exact hgen _ (h1 H (fun _ _ => rfl) fun p hp => ⟨b8 (hq p hp).1 (hm m rfl), (hq p hp).2⟩) fun v H' ⟨e1, e2⟩ => ⟨S ++ q.map (·.1), by rw [e1, e2]; exact h2⟩
  | some jb =>
    obtain ⟨j, b⟩ := jb
    simp only [hg] at h
    cases hgd : gD ops e j with
    | none => simp [hgd] at h
    | some gc =>
      obtain ⟨g, c⟩ := gc
      simp only [hgd] at h
      have hw := H6 (n := n) hS hg hgd
      rw [hw]
      generalize hq : (g && (c == b)) = q at h
      obtain ⟨hog, h⟩ := h
      cases q with
      | false =>
        simp only [dV, if_false]
        have hput : ∀ d, St n M0 H σ w (kY e o.dst (.opt false d)) (a.put o.dst undef) := fun d =>
          hS.put hS.rel (.refl _ _ _ _) hd (.opt _ _ _ (fun _ => rfl) (fun h => by cases h))
        cases hc : f7 (gE e o.op) o with
        | none =>
          simp only [hc] at h
          exact ⟨_, H, _, σ, h.2 (fun _ h => by cases h), hput _, .refl _ _, .refl _ _ _ _⟩
        | some fa =>
          obtain ⟨f, args⟩ := fa
          simp only [hc] at h
          have h' : ∃ r S, K (.opt false r) H S := by
            cases dr with
            | some _ => obtain ⟨r, S, h1, h2⟩ := h; exact ⟨r, S, h2⟩
            | none =>
              rcases h with ⟨r, S, h1, h2⟩ | ⟨h1, h2⟩
              · exact ⟨r, S, h2⟩
              · obtain ⟨r, h2⟩ := h2 trivial; exact ⟨r, [], h2⟩
          obtain ⟨r, S, h2⟩ := h'
          exact ⟨_, H, S, σ, h2, hput _, .refl _ _, .refl _ _ _ _⟩
      | true =>
        simp only [if_true]
        left
        have hogm := Sk (hog rfl)
        have hS1 : ∀ t, og e (.tmp t) = true → RepV (cF M0 H σ) σ H.al w (a.eval (.tmp t)) (CE e t) := by
          intro t h2
          have h1 := hS.envR.ev (.tmp t)
          simp only [eK] at h1
          simp only [og] at h2
          simp only [CE]
          split
          · rename_i g' d' hd'
            rw [hd'] at h1 h2
            generalize a.eval (.tmp t) = v at h1
            cases h1
            rename_i _ h1
            exact h1 h2
          · exact h1
        have hE : ∀ x ∈ o.op.operands, RepV (cF M0 H σ) σ H.al w (a.eval x) (eK (gE e o.op) x) := by
          intro x hx
          have h0 := hS.envR.ev x
          cases x with
          | tmp t =>
            simp only [eK] at h0 ⊢
            by_cases hpk : ∃ c' x' y', o.op = .pick c' x' y'
            · obtain ⟨c', x', y', hop⟩ := hpk
              rw [hop]
              have hc' := hogm c' (by simp [gO, hop])
              cases c' with
              | tmp c' =>
                simp only [gE]
                split
                · rename_i hct; subst hct; exact hS1 _ hc'
                · exact h0
              | _ => exact h0
            · have h3 : gE e o.op = CE e ∧ gO o.op = o.op.operands.toList := by
                cases hop : o.op <;> first | exact ⟨rfl, rfl⟩ | exact absurd ⟨_, _, _, hop⟩ hpk
              rw [h3.1]
              exact hS1 t (hogm _ (by rw [h3.2]; simpa using hx))
          | _ => exact h0
        classical
        let e2 : Nat → D := fun t => if (Operand.tmp t) ∈ o.op.operands then gE e o.op t else .junk
        have hcong : ∀ x ∈ o.op.operands, eK (gE e o.op) x = eK e2 x := by
          intro x hx
          cases x with
          | tmp t => simp [eK, e2, hx]
          | _ => rfl
        have hS2 : EnvR (cF M0 H σ) σ H.al w a.eval e2 := by
          refine ⟨fun t => ?_, fun _ => rfl, fun _ => rfl⟩
          by_cases ht : (Operand.tmp t) ∈ o.op.operands
          · have := hE _ ht
            simp only [e2, if_pos ht]
            exact this
          · simp only [e2, if_neg ht]; exact .junk _
        cases hc : f7 (gE e o.op) o with
        | none =>
          simp only [hc] at h
          obtain ⟨h1, h2⟩ := h
          obtain ⟨hcond, hheap⟩ := h1 trivial
          rw [Cx hcong] at hcond hheap h2
          obtain ⟨h1, v, w', σ', hr, h3, h4, h5, h6⟩ := EM (P := P) hn hS.rel hS2 hcond
          rw [hheap] at h3 h4 h6
          unfold Oper.wp
          rcases hr with hr | ⟨hr, rfl⟩
          · rw [hr, Oper.upon_value]
            exact ⟨_, _, _, σ', h2 fun _ _ => h1, hS.put h3 h6 hd (.opt _ _ _ (fun h => by cases h) fun _ => h4), h5, h6⟩
          · rw [hr, Oper.upon_skip]
            exact ⟨_, _, _, σ', h2 fun _ _ => h1, hS.put h3 h6 hd (.opt _ _ _ (fun h => by cases h) fun _ => h4), h5, h6⟩
        | some fa =>
          obtain ⟨f, args⟩ := fa
          simp only [hc] at h
          have h' : ACalls P f args H fun v H1 => ∃ S, K (.opt true v) H1 S := by
            have hl : (∃ r S, ((true : Bool) = true → ∀ H', fD S H' H → ACalls P f args H' fun v H1 => v = r ∧ H1 = H') ∧ K (.opt true r) H S) → ACalls P f args H fun v H1 => ∃ S, K (.opt true v) H1 S := by
              rintro ⟨r, S, h1, h2⟩
              exact (h1 rfl H fun _ _ => rfl).mono fun v H1 ⟨e1, e2⟩ => ⟨S, by rw [e1, e2]; exact h2⟩
            cases dr with
            | some _ => exact hl (by simpa using h)
            | none =>
              rcases h with h | ⟨h1, h2⟩
              · exact hl (by simpa using h)
              · exact ACalls.mono (by simpa using h1) fun v H1 hk => ⟨[], hk⟩
          obtain ⟨vals, hrun, hrep⟩ := Aj (P := P) hE hc h'.1
          refine zO (args := args) hrun ((h'.2 M0 σ w vals hS.rel hrep).mono fun e' w' ⟨v, d, H', σ', he, hR', hv, hst, hk, S, h2⟩ => ?_)
          exact ⟨v, he, _, _, S, σ', h2, hS.put hR' hk hd (.opt _ _ _ (fun h => by cases h) fun _ => hv), hst, hk⟩
end
end Go.Abs
end
section
namespace Go.Abs
def Dr (sp:List (Nat × Nat))(i:Nat)(F:List Nat)(acc:List (Nat × List Nat)):Prop :=
 match sp with
 | []=>True
 | _=>∀ p∈acc,(p.1,i)∈sp→∀ x∈p.2,x∉F
def jL (P:Program)(md:Nat→Bool)(ops:Array Oper)(sp:List (Nat × Nat))(n0:Nat):Nat→List Oper→List (Nat × List Nat)→(Nat→D)→AHeap→((Nat→D)→AHeap→Prop)→Prop
 | _,[],_,e,H,K=>K e H
 | i,o :: rest,acc,e,H,K=>oB P md (some n0) (n0+i) ops e o H fun v H' F=>Dr sp i F acc∧jL P md ops sp n0 (i+1) rest ((i,F) :: acc) (kY e o.dst v) H' K
/-! ### which operations come ahead of which -/
def Lh:List Oper→List Nat→List Nat
 | [],acc=>acc
 | o :: rest,acc=>Lh rest (acc++[o.after.toList.foldl (fun s e=>if Region.binds .any e then s ||| 2 ^ e.on ||| acc.getD e.on 0 else s) 0])
def uD:Op→Bool
 | .store .. | .alloc _ | .box .. | .buildSlice .. | .makeSlice ..=>true
 | .call { callee:=.builtin .append,.. } | .call { callee:=.builtin .clear,.. }=>true
 | .move x | .assign x=>iN x
 | _=>false
def DC (md:Nat→Bool)(o:Oper):Bool:=match o.op with
 | .call { callee:=.value _,.. }=>CR md o.dst
 | _=>false
def lU (md:Nat→Bool)(o:Oper):Bool:=uD o.op||DC md o
def IZ (ops:Array Oper)(x y:Oper):Bool:=!(x.apart ops y)
def FL (md:Nat→Bool)(x y:Oper):Bool:=pD x.op&&pD y.op&&(lU md x||lU md y)
def uJ (md : Nat → Bool) (ops : Array Oper) (sp : List (Nat × Nat)) : Bool :=
  let b := Lh ops.toList []
  (List.range ops.size).all fun j => match ops[j]? with
    | none => true
    | some y => (y.after.toList.all fun e => !Region.binds .any e || decide (e.on < j)) &&
      (match y.guard with | none => true | some (g, _) => decide (g < ops.size)) &&
      (List.range j).all fun i => match ops[i]? with
        | none => true
        | some x => (b.getD j 0).testBit i || (!IZ ops x y && (!FL md x y || sp.contains (i, j)))
def Jm (ops:Array Oper)(S:Nat→Bool):Prop:=∀ j o,ops[j]?=some o→S j=true→∀ e∈o.after.toList,Region.binds .any e=true→S e.on=true
theorem Hz (S:Nat→Bool)(acc:List Nat)(hacc:∀ k i,S k=true→(acc.getD k 0).testBit i=true→S i=true) :
  ∀ (es:List Edge) (s:Nat),(∀ e∈es,Region.binds .any e=true→S e.on=true)→(∀ i,s.testBit i=true→S i=true) →
   ∀ i,(es.foldl (fun s e=>if Region.binds .any e then s ||| 2 ^ e.on ||| acc.getD e.on 0 else s) s).testBit i=true→S i=true
 | [],s,_,hs,i,h=>hs i h
 | e :: es,s,he,hs,i,h=>by
  simp only [c8] at h
  refine Hz S acc hacc es _ (fun e' h'=>he e' (by simp [h'])) (fun i hi=>?_) i h
  split at hi
  ·rename_i hb
   have hSe:=he e (by simp) hb
   rw [Nat.testBit_or,Nat.testBit_or,cK,cK] at hi
   rcases hi with (hi|hi)|hi
   ·exact hs i hi
   ·rw [Nat.testBit_two_pow] at hi
    have:e.on=i:=by simpa using hi
    rw [← this];exact hSe
   ·exact hacc e.on i hSe hi
  ·exact hs i hi
theorem HO {ops : Array Oper} {S : Nat → Bool} (hD : Jm ops S) : ∀ j i, S j = true → ((Lh ops.toList []).getD j 0).testBit i = true → S i = true := by
  have key : ∀ (l : List Oper) (acc : List Nat), (∀ (k : Nat), (ops.toList.drop acc.length)[k]? = l[k]?) → (∀ k i, S k = true → (acc.getD k 0).testBit i = true → S i = true) →
      ∀ j i, S j = true → ((Lh l acc).getD j 0).testBit i = true → S i = true := by
    intro l
    induction l with
    | nil => intro acc _ hacc j i hj hb; exact hacc j i hj hb
    | cons o l ih =>
      intro acc hl hacc j i hj hb
      simp only [Lh] at hb
      refine ih _ (fun k => ?_) (fun k i hk hi => ?_) j i hj hb
      · have := hl (k + 1)
        simp only [bG, F9, aT, bW, mH] at this ⊢
        rw [← this]; congr 1; omega
      · rw [List.getD_eq_getElem?_getD] at hi
        by_cases hlt : k < acc.length
        · rw [aX hlt, ← List.getD_eq_getElem?_getD] at hi
          exact hacc k i hk hi
        · by_cases heq : k = acc.length
          · subst heq
            rw [bE (aL _), rR] at hi
            simp only [jX, aF] at hi
            have ho := hl 0
            simp only [bG, o4, jX] at ho
            have ho' : ops[acc.length]? = some o := by simpa using ho
            exact Hz S acc hacc o.after.toList 0 (fun e he hb => hD _ o ho' hk e he hb) (fun i h => by simp at h) i hi
          · rw [bE (by omega), bA (by simp; omega)] at hi
            simp at hi
  exact fun j i hj hb => key ops.toList [] (fun k => by simp) (fun k i hk hi => by simp at hi) j i hj hb
def fV (p:Nat→Bool):Nat→Option Nat
 | 0=>none
 | n+1=>if p n then some n else fV p n
theorem jE {p q:Nat→Bool}:∀ (n:Nat),(∀ k,k<n→p k=q k)→fV p n=fV q n
 | 0,_=>rfl
 | n+1,h=>by simp only [fV,h n (by omega),jE n (fun k hk=>h k (by omega))]
theorem z6 {p:Nat→Bool}(m:Nat):∀ (n:Nat),m≤n→(∀ k,m≤k→k<n→p k=false)→fV p n=fV p m
 | 0,h,_=>by rw [Nat.le_zero.1 h]
 | n+1,h,hp=>by
  by_cases hm:m=n+1
  ·rw [hm]
  ·simp only [fV,hp n (by omega) (by omega),dV,if_false]
   exact z6 m n (by omega) fun k h1 h2=>hp k h1 (by omega)
end Go.Abs
end
section
namespace Go.Abs
def AOut.on (r:AOut)(H:AHeap):AOut:=⟨r.cond,r.fact,r.val,H⟩
def jU (H' H1:AHeap)(F:List Nat)(nid:Nat):AHeap:=⟨H'.next,fun i=>H'.al i∨(i=nid∧H1.al nid),fun i=>if i∈F then H1.get i else H'.get i⟩
section
variable {P:Program} {H H':AHeap} {F:List Nat} {nid:Nat}
theorem gU (hF:fD F H' H)(hn:¬ H.al nid):jU H' H F nid=H':=by
 obtain ⟨n,al,g⟩:=H'
 simp only [jU,AHeap.mk.injEq,true_and]
 refine ⟨?_,?_⟩
 ·funext i;exact propext ⟨fun h=>h.elim id fun h=>absurd h.2 hn,.inl⟩
 ·funext i
  by_cases hi:i∈F
  ·rw [if_pos hi];exact (hF i hi).symm
  ·rw [if_neg hi]
theorem lW (hF:fD F H' H)(hlt:nid<H'.next)(hnF:nid∈F)(b:Blk):H'.push nid b=jU H' (H.push nid b) F nid:=by
 obtain ⟨n,al,g⟩:=H'
 have hlt':nid<n:=hlt
 simp only [AHeap.push,jU,AHeap.mk.injEq,hlt',if_true,true_and]
 refine ⟨?_,?_⟩
 ·funext i;exact propext ⟨fun h=>h.elim (fun e=>.inr ⟨e,.inl trivial⟩) .inl,fun h=>h.elim .inr fun h=>.inl h.1⟩
 ·funext i
  by_cases hi:i∈F
  ·rw [if_pos hi]
   by_cases he:i=nid
   ·rw [if_pos he,if_pos he]
   ·rw [if_neg he,if_neg he];exact hF i hi
  ·have he:i≠nid:=fun e=>hi (e ▸ hnF)
   rw [if_neg hi,if_neg he]
theorem r4 (hF:fD F H' H)(hn:¬ H.al nid){id:Nat}(hid:id∈F)(b:Blk):H'.put id b=jU H' (H.put id b) F nid:=by
 obtain ⟨n,al,g⟩:=H'
 simp only [AHeap.put,jU,AHeap.mk.injEq,true_and]
 refine ⟨?_,?_⟩
 ·funext i;exact propext ⟨.inl,fun h=>h.elim (fun h=>h) fun h=>absurd h.2 hn⟩
 ·funext i
  by_cases hi:i∈F
  ·rw [if_pos hi]
   by_cases he:i=id
   ·rw [if_pos he,if_pos he]
   ·rw [if_neg he,if_neg he];exact hF i hi
  ·have he:i≠id:=fun e=>hi (e ▸ hid)
   rw [if_neg hi,if_neg he]
theorem OR (hF:fD F H' H)(id:Nat)(b:Blk):fD F (H'.put id b) (H.put id b):=by
 intro i hi
 simp only [AHeap.put]
 by_cases he:i=id
 ·rw [if_pos he,if_pos he]
 ·rw [if_neg he,if_neg he];exact hF i hi
theorem My (H:AHeap)(id:Nat):(H.frz id).al=H.al∧(H.frz id).next=H.next:=by unfold AHeap.frz;cases H.get id<;>exact ⟨rfl,rfl⟩
theorem yJ (ids:List Nat):∀ H:AHeap,(eT ids H).al=H.al∧(eT ids H).next=H.next:=by
 induction ids with
 | nil=>intro H;exact ⟨rfl,rfl⟩
 | cons i l ih=>intro H;exact ⟨(ih _).1.trans (My H i).1,(ih _).2.trans (My H i).2⟩
theorem Hw (H:AHeap)(id i:Nat)(h:i≠id):(H.frz id).get i=H.get i:=by
 unfold AHeap.frz
 cases H.get id with
 | none=>rfl
 | some k=>simp [AHeap.put,h]
theorem Fj (ids:List Nat):∀ (H:AHeap) (i:Nat),i∉ids→(eT ids H).get i=H.get i:=by
 induction ids with
 | nil=>intro H i _;rfl
 | cons a l ih =>
  intro H i hi
  simp only [eT]
  rw [ih _ i (fun h=>hi (by simp [h])),Hw H a i (fun e=>hi (by simp [e]))]
theorem Fk (ids:List Nat)(hs:∀ i∈ids,i∈F):∀ {H H':AHeap},fD F H' H→fD F (eT ids H') (eT ids H):=by
 induction ids with
 | nil=>intro H H' h;exact h
 | cons a l ih =>
  intro H H' h
  simp only [eT]
  refine ih (fun i hi=>hs i (by simp [hi])) ?_
  have ha:=h a (hs a (by simp))
  unfold AHeap.frz
  rw [ha]
  cases H.get a with
  | none=>exact h
  | some k=>exact OR h a _
theorem AQ (ids:List Nat)(hs:∀ i∈ids,i∈F)(H1:AHeap):jU (eT ids H') H1 F nid=jU H' H1 F nid:=by
 simp only [jU,AHeap.mk.injEq]
 refine ⟨(yJ ids H').2,by rw [(yJ ids H').1],?_⟩
 funext i
 by_cases hi:i∈F
 ·rw [if_pos hi,if_pos hi]
 ·rw [if_neg hi,if_neg hi,Fj ids H' i (fun h=>hi (hs i h))]
theorem Nz (d:D):∀ i∈dC d,i∈dH d:=by
 cases d<;>intro i hi<;>first|exact hi|(simp [dC,jZ] at hi;done)|(simp only [dC,jZ,dH] at hi ⊢;exact hi)
theorem Ep {d:D}(h:fD (jZ d) H' H):eQ H' d=eQ H d:=by
 cases d<;>try rfl
 ·rename_i id n
  simp only [eQ,h id (by simp [jZ])]
 ·rename_i id n lo hi
  simp only [eQ,h id (by simp [jZ])]
theorem Eo {d:D}(h:fD (dC d) H' H):iE H' d=iE H d:=by
 cases d with
 | agg cs =>
  simp only [iE]
  congr 1
  exact bP fun x hx=>Ep fun i hi=>h i (bK.2 ⟨x,hx,hi⟩)
 | _ =>
  have h':=h
  simp only [dC] at h'
  simp only [iE]
  exact Ep h'
theorem GE {x:D}(h:fD (dH x) H' H):fU H' x=fU H x:=by
 cases x<;>try rfl
 rename_i id ver i off
 simp only [fU,h id (by simp [dH])]
theorem Ls {t:TypeId}{x:D}(h:fD (dH x) H' H):mO P t x H'=(mO P t x H).on H':=by
 unfold mO
 rw [GE h]
 cases fU H x with
 | none=>rfl
 | some cs=>cases tk P t<;>rfl
theorem zM {x:D}{n:Nat}(h:fD (dH x) H' H):dS x n H'=(dS x n H).on H':=by
 cases x<;>try rfl
 rename_i id ver i off
 simp only [dS,h id (by simp [dH])]
 cases H.get id<;>rfl
theorem Bq {x:D}{n:Nat}:(dS x n H).heap=H:=by
 unfold dS
 split
 ·rfl
 ·split<;>rfl
 ·rfl
theorem vR {t:TypeId}{x:D}{f:Nat}:(gS P t x f H).heap=H:=by
 unfold gS
 split
 ·split
  ·exact Bq
  ·rfl
 ·rfl
theorem vQ {t:TypeId}{x i:D}:(gQ P t x i H).heap=H:=by
 unfold gQ
 split
 ·split
  ·split<;>rfl
  ·split<;>rfl
  ·split
   ·exact Bq
   ·rfl
 ·rfl
theorem Dw {x:D}(h:fD (dH x) H' H):iQ x H'=(iQ x H).on H':=by
 cases x<;>try rfl
 rename_i id ver i off
 simp only [iQ,h id (by simp [dH])]
 cases H.get id<;>rfl
theorem CA {t : TypeId} {x : D} {f : Nat} (h : fD (dH x) H' H) : gS P t x f H' = (gS P t x f H).on H' := by
  unfold gS
  cases bk P t with
  | none => rfl
  | some b => cases b with
    | ar sz => rfl
    | st l =>
      simp only
      cases l[f]? with
      | none => rfl
      | some q => simp only [zM h]; rfl
theorem Cz {t:TypeId}{x i:D}(h:fD (dH x) H' H):gQ P t x i H'=(gQ P t x i H).on H':=by
 cases i<;>try rfl
 rename_i k n
 unfold gQ
 cases x<;>simp only<;>first
  | (cases sl P t<;>rfl)
  | (simp only [zM h];cases Rx P t<;>rfl)
  | skip
 rename_i id m
 simp only [h id (by simp [dH])]
 cases sl P t<;>cases H.get id<;>rfl
theorem Jh {t:TypeId}{x:D}{lo hi:Option D}(h:fD (dH x) H' H):oU P t x lo hi H'=(oU P t x lo hi H).on H':=by
 unfold oU
 cases x<;>try rfl
 ·simp only;split<;>rfl
 ·simp only;split<;>rfl
 ·rename_i id n
  simp only [h id (by simp [dH])]
  split<;>rfl
theorem C9 {t:TypeId}{x:D}{lo hi:Option D}:(oU P t x lo hi H).heap=H:=by
 unfold oU
 split
 ·split<;>rfl
 ·split<;>rfl
 ·split<;>rfl
 ·rfl
theorem M5 {t:TypeId}{x:D}(h:fD (dH x) H' H):Dx P t x H'=(Dx P t x H).on H':=by
 unfold Dx
 cases P.underlying t with
 | none=>rfl
 | some de =>
  cases de<;>try rfl
  ·cases x<;>rfl
  ·cases x<;>try rfl
   rename_i id n
   simp only [h id (by simp [dH])]
   cases H.get id<;>rfl
theorem Gy {x:D}(h:fD (dH x) H' H):mR H' x=mR H x:=by
 cases x<;>try rfl
 ·rename_i id n
  simp only [mR,h id (by simp [dH])]
 ·rename_i id n lo hi
  simp only [mR,h id (by simp [dH])]
structure Loc (r r':AOut) (H':AHeap) (F:List Nat) (nid:Nat):Prop where
 cond:r.cond→r'.cond
 fact:r'.fact=r.fact
 val:r'.val=r.val
 heap:r'.heap=jU H' r.heap F nid
theorem Loc.on {r r':AOut}(h:r'=r.on H')(hh:r.heap=H)(hF:fD F H' H)(hn:¬ H.al nid):Loc r r' H' F nid:=by
 subst h
 exact ⟨fun h=>h,rfl,rfl,by rw [hh,gU hF hn];rfl⟩
theorem Loc.bad (hF:fD F H' H)(hn:¬ H.al nid):Loc (AOut.bad H) (AOut.bad H') H' F nid:=⟨fun h=>h,rfl,rfl,(gU hF hn).symm⟩
theorem Bs {t : TypeId} {x v : D} (hF : fD F H' H) (hx : ∀ i ∈ dH x, i ∈ F) (hn : ¬ H.al nid) : Loc (kP P t x v H) (kP P t x v H') H' F nid := by
  unfold kP
  cases x <;> try (exact Loc.bad hF hn)
  rename_i id ver i off
  have hid : id ∈ F := hx id (by simp [dH])
  simp only
  rw [hF id hid]
  cases hk : H.get id with
  | none => (simp only [hk]; exact Loc.bad hF hn)
  | some k =>
    simp only [hk]
    cases hi : k.es[i]? with
    | none => (simp only [hi]; exact Loc.bad hF hn)
    | some c =>
      simp only [hi]
      exact ⟨fun h => h, rfl, rfl, r4 hF hn hid _⟩
theorem Ji {t : TypeId} {x : D} (hF : fD F H' H) (hx : ∀ i ∈ dH x, i ∈ F) (hn : ¬ H.al nid) : Loc (sW P t x H) (sW P t x H') H' F nid := by
  unfold sW
  cases x <;> try (exact Loc.bad hF hn)
  rename_i id ver lo hi
  have hid : id ∈ F := hx id (by simp [dH])
  simp only
  rw [hF id hid]
  cases hs : sl P t with
  | none => (simp only [hs]; exact Loc.bad hF hn)
  | some s =>
    cases hk : H.get id with
    | none => (simp only [hs, hk]; exact Loc.bad hF hn)
    | some k =>
      simp only [hs, hk]
      exact ⟨fun h => h, rfl, rfl, r4 hF hn hid _⟩
theorem GO {t t' : TypeId} {x y : D} (hF : fD F H' H) (hx : ∀ i ∈ dH x, i ∈ F) (hy : ∀ i ∈ dH y, i ∈ F) (hn : ¬ H.al nid) (hlt : nid < H'.next) (hnF : nid ∈ F) :
    Loc (jM P nid t t' x y H) (jM P nid t t' x y H') H' F nid := by
  unfold jM
  rw [Gy (H := H) (H' := H') fun i hi => hF i (hy i hi)]
  cases hs : sl P t with
  | none => (simp only [hs]; exact Loc.bad hF hn)
  | some s =>
    cases he : mR H y with
    | none =>
      simp only [hs, he]
      unfold oC
      cases y <;> try (exact Loc.bad hF hn)
      cases x <;> try (exact Loc.bad hF hn)
      rename_i id n
      cases hk' : Mn P t' with
      | none => (simp only [hk']; exact Loc.bad hF hn)
      | some kn =>
        simp only [hk']
        have hid : id ∈ F := hx id (by simp [dH])
        rw [hF id hid]
        cases hk : H.get id with
        | none => (simp only [hk]; exact Loc.bad hF hn)
        | some k =>
          simp only [hk]
          exact ⟨fun h => h, rfl, rfl, r4 hF hn hid _⟩
    | some ys =>
      simp only [hs, he]
      cases x <;> try (exact Loc.bad hF hn)
      · exact ⟨fun h => h, rfl, rfl, lW hF hlt hnF _⟩
      · rename_i id n
        have hid : id ∈ F := hx id (by simp [dH])
        simp only
        rw [hF id hid]
        cases hk : H.get id with
        | none => (simp only [hk]; exact Loc.bad hF hn)
        | some k =>
          simp only [hk]
          exact ⟨fun h => h, rfl, rfl, r4 hF hn hid _⟩
theorem Cw {md : Nat → Bool} {e : Nat → D} {o : Oper} (hF : fD (foot nid e o.op) H' H) (hn : ¬ H.al nid) (hlt : nid < H'.next) :
    Loc (Dv P nid md e o H) (Dv P nid md e o H') H' (foot nid e o.op) nid := by
  obtain ⟨dst, op, type, pos, after, guard⟩ := o
  have hopd : pD op = true → ∀ x ∈ op.operands, ∀ i ∈ dH (eK e x), i ∈ foot nid e op := fun hh x hx i hi => by
    simp only [foot, hh, if_true, aW, bK]
    exact .inr ⟨x, by simpa using hx, hi⟩
  have hmk : ET op = true → nid ∈ foot nid e op := fun h => by simp [foot, h]
  simp only at hF
  have sub : pD op = true → ∀ x ∈ op.operands, fD (dH (eK e x)) H' H := fun hh x hx i hi => hF i (hopd hh x hx i hi)
  unfold Dv
  simp only
  have nilcase : ∀ x : Operand, ET op = iN x →
      Loc (if iN x then Cy P nid (CR md dst) type H else ⟨True, True, eK e x, H⟩) (if iN x then Cy P nid (CR md dst) type H' else ⟨True, True, eK e x, H'⟩) H' (foot nid e op) nid := by
    intro x hm
    by_cases hx : iN x = true
    · rw [if_pos hx]
      rw [if_pos hx]
      unfold Cy
      generalize CR md dst = m
      cases m with
      | false => exact ⟨fun h => h, rfl, rfl, (gU hF hn).symm⟩
      | true =>
        simp only [if_true]
        cases hs : sl P type with
        | none => (simp only [hs]; exact Loc.bad hF hn)
        | some s => exact ⟨fun h => h, rfl, rfl, lW hF hlt (hmk (hm.trans hx)) _⟩
    · rw [if_neg hx]
      rw [if_neg hx]
      exact ⟨fun h => h, rfl, rfl, (gU hF hn).symm⟩
  cases op <;> try (exact Loc.bad hF hn)
  case move x => exact nilcase x rfl
  case assign x => exact nilcase x rfl
  case pick c a b =>
    refine Loc.on ?_ ?_ hF hn
    · simp only [xY]; split <;> first | rfl | (simp only [sV]; split <;> rfl)
    · simp only [xY]; split <;> first | rfl | (simp only [sV]; split <;> rfl)
  case alloc t =>
    simp only [vB]
    cases hz : zd P t with
    | none => (simp only [hz]; exact Loc.bad hF hn)
    | some z =>
      simp only [hz]
      generalize CR md dst = m
      cases m with
      | false => exact ⟨fun h => h, rfl, rfl, (gU hF hn).symm⟩
      | true => exact ⟨fun h => h, rfl, rfl, lW hF hlt (hmk rfl) _⟩
  case box t x =>
    simp only [Jj]
    generalize CR md dst = m
    cases m with
    | false => exact ⟨fun h => h, rfl, rfl, (gU hF hn).symm⟩
    | true => exact ⟨fun h => h, rfl, rfl, lW hF hlt (hmk rfl) _⟩
  case build t ps =>
    refine Loc.on ?_ ?_ hF hn
    · simp only [rK]; split
      · split <;> rfl
      · rfl
    · simp only [rK]; split
      · split <;> rfl
      · rfl
  case buildSlice t m ps =>
    have hids : ∀ i ∈ (ps.toList.flatMap fun p => I7 md (eK e p.2)), i ∈ foot nid e (.buildSlice t m ps) := fun i hi => by
      obtain ⟨p, hp, hi⟩ := bK.1 hi
      refine hopd rfl p.2 ?_ i (Nz _ i (SX hi))
      simp only [Op.operands]
      simpa using ⟨p.1, by simpa using hp⟩
    have hmap : (ps.toList.map fun p => (p.1, NZ md H' (eK e p.2))) = ps.toList.map fun p => (p.1, NZ md H (eK e p.2)) := bP fun p hp => by
      congr 1; unfold NZ; split
      · rfl
      · rename_i hb; exact Eo fun i hi => hF i (hids i (bK.2 ⟨p, hp, by unfold I7; rw [if_neg hb]; exact hi⟩))
    simp only
    rw [hmap]
    have hA := Fk _ hids hF
    have hov : ∀ H1 : AHeap, jU (eT (ps.toList.flatMap fun p => I7 md (eK e p.2)) H') H1 (foot nid e (.buildSlice t m ps)) nid = jU H' H1 (foot nid e (.buildSlice t m ps)) nid := fun H1 => AQ _ hids H1
    have hbad : Loc (AOut.bad (eT (ps.toList.flatMap fun p => I7 md (eK e p.2)) H)) (AOut.bad (eT (ps.toList.flatMap fun p => I7 md (eK e p.2)) H')) H' (foot nid e (.buildSlice t m ps)) nid :=
      ⟨fun h => h, rfl, rfl, by
        show eT _ H' = jU H' (eT _ H) _ nid
        rw [← hov, gU hA (by rw [(yJ _ H).1]; exact hn)]⟩
    simp only [iD]
    cases hs : sl P t with
    | none => (simp only [hs]; exact hbad)
    | some s =>
      simp only [hs]
      cases hfl : zI (fun i => some (i * s.sz, s.sz)) (List.replicate m s.z).flatten (ps.toList.map fun p => (p.1, NZ md H (eK e p.2))) with
      | none => (simp only [hfl]; exact hbad)
      | some cs =>
        simp only [hfl]
        generalize CR md dst = m'
        cases m' with
        | false =>
          refine ⟨fun h => h, rfl, rfl, ?_⟩
          simp only [dV, if_false]
          rw [← hov, gU hA (by rw [(yJ _ H).1]; exact hn)]
        | true =>
          refine ⟨fun h => h, rfl, rfl, ?_⟩
          simp only [if_true]
          rw [← hov]
          exact lW hA (by rw [(yJ _ H').2]; exact hlt) (hmk rfl) _
  case load t a => exact Loc.on (Ls (sub rfl a (by simp [Op.operands]))) (by simp only [mO]; split <;> (try split) <;> rfl) hF hn
  case store t a v =>
    have ha := hopd rfl a (by simp [Op.operands])
    have hv := hopd rfl v (by simp [Op.operands])
    simp only
    by_cases hm : md 1000000 = true
    · rw [if_pos hm]
      rw [if_pos hm]
      have hids : ∀ i ∈ dC (eK e v), i ∈ foot nid e (.store t a v) := fun i hi => hv i (Nz _ i hi)
      rw [Eo (H := H) (H' := H') fun i hi => hF i (hids i hi)]
      have hl := Bs (P := P) (t := t) (v := iE H (eK e v)) (nid := nid) (Fk _ hids hF) ha (by rw [(yJ _ H).1]; exact hn)
      exact ⟨hl.cond, hl.fact, hl.val, by rw [hl.heap, AQ _ hids]⟩
    · rw [if_neg hm]
      rw [if_neg hm]
      exact Bs hF ha hn
  case nilCheck x => exact Loc.on (Dw (sub rfl x (by simp [Op.operands]))) (by simp only [iQ]; split <;> (try split) <;> rfl) hF hn
  case binOp op t x y t' =>
    refine Loc.on ?_ ?_ hF hn
    · simp only [qA]; split <;> first | rfl | (simp only [F5]; split <;> first | rfl | (split <;> rfl) | (simp only [GN]; split <;> rfl))
    · simp only [qA]; split <;> first | rfl | (simp only [F5]; split <;> first | rfl | (split <;> rfl) | (simp only [GN]; split <;> rfl))
  case unOp op t x =>
    refine Loc.on ?_ ?_ hF hn
    · simp only [RB]; split <;> rfl
    · simp only [RB]; split <;> rfl
  case convert s d x =>
    refine Loc.on ?_ ?_ hF hn
    · simp only [lS]; split <;> (try split) <;> rfl
    · simp only [lS]; split <;> (try split) <;> rfl
  case makeFunc fn first caps =>
    cases fn <;> try (exact Loc.bad hF hn)
    simp only
    by_cases hf : first.isEmpty = true
    · rw [if_pos hf]
      rw [if_pos hf]
      exact ⟨fun h => h, rfl, rfl, (gU hF hn).symm⟩
    · rw [if_neg hf]; rw [if_neg hf]; exact Loc.bad hF hn
  case makeSlice t l c =>
    simp only [Bv]
    split
    · exact ⟨fun h => h, rfl, rfl, lW hF hlt (hmk rfl) _⟩
    · exact Loc.bad hF hn
  case slice t x lo hi mx =>
    cases mx <;> try (exact Loc.bad hF hn)
    exact Loc.on (Jh (sub rfl x (by simp [Op.operands]))) C9 hF hn
  case fieldAddr t x f => exact Loc.on (CA (sub rfl x (by simp [Op.operands]))) vR hF hn
  case indexAddr t x i => exact Loc.on (Cz (sub rfl x (by simp [Op.operands]))) vQ hF hn
  case index t x i =>
    refine Loc.on ?_ ?_ hF hn
    · simp only [rJ]; split <;> (try split) <;> (try split) <;> rfl
    · simp only [rJ]; split <;> (try split) <;> (try split) <;> rfl
  case extract t i =>
    refine Loc.on ?_ ?_ hF hn
    · simp only [lR]; split <;> rfl
    · simp only [lR]; split <;> rfl
  case call c =>
    obtain ⟨callee, args, ts⟩ := c
    cases callee <;> try (exact Loc.bad hF hn)
    rename_i b
    simp only
    have hargs : ∀ d ∈ args.toList.map (eK e), ∀ i ∈ dH d, i ∈ foot nid e (.call { callee := .builtin b, args := args, argTypes := ts }) := by
      intro d hd i hi
      obtain ⟨x, hx, rfl⟩ := aS.1 hd
      exact hopd rfl x (by simp only [Op.operands, Call.operands]; simpa using hx) i hi
    generalize args.toList.map (eK e) = az at hargs ⊢
    unfold uC
    split
    · exact Loc.on (M5 fun i hi => hF i (hargs _ (aR.2 rfl) i hi)) (by
        simp only [Dx]
        split
        · split <;> (try split) <;> rfl
        · split <;> rfl
        · rfl
        · rfl) hF hn
    · exact GO hF (hargs _ (dA ..)) (hargs _ (bH _ (aR.2 rfl))) hn hlt (by simp [foot, ET])
    · exact Ji hF (hargs _ (aR.2 rfl)) hn
    · refine Loc.on ?_ ?_ hF hn
      · simp only [Bu]; split <;> rfl
      · simp only [Bu]; split <;> rfl
    · refine Loc.on ?_ ?_ hF hn
      · simp only [Bu]; split <;> rfl
      · simp only [Bu]; split <;> rfl
    · exact Loc.bad hF hn
theorem RC {md:Nat→Bool}{e:Nat→D}{o:Oper}(hw:uD o.op=false):(Dv P nid md e o H).heap=H:=by
 obtain ⟨dst,op,type,pos,after,guard⟩:=o
 simp only at hw
 unfold Dv
 cases op<;>first|(simp [uD] at hw;done)|skip
 case move x =>
  simp only [uD] at hw
  simp [hw]
 case assign x =>
  simp only [uD] at hw
  simp [hw]
 case pick c a b=>simp only [xY];split<;>first|rfl|(simp only [sV];split<;>rfl)
 case build t ps =>
  simp only [rK]
  split
  ·split<;>rfl
  ·rfl
 case load t a=>simp only [mO];split<;>(try split)<;>rfl
 case nilCheck x=>simp only [iQ];split<;>(try split)<;>rfl
 case binOp op t x y t'=>simp only [qA];split<;>first|rfl|(simp only [F5];split<;>first|rfl|(split<;>rfl)|(simp only [GN];split<;>rfl))
 case unOp op t x=>simp only [RB];split<;>rfl
 case convert s d x=>simp only [lS];split<;>(try split)<;>rfl
 case makeFunc fn first caps =>
  cases fn<;>try rfl
  simp only
  split<;>rfl
 case slice t x lo hi mx =>
  cases mx<;>try rfl
  exact C9
 case fieldAddr t x f=>exact vR
 case indexAddr t x i=>exact vQ
 case index t x i=>simp only [rJ];split<;>(try split)<;>(try split)<;>rfl
 case extract t i=>simp only [lR];split<;>rfl
 case call c =>
  obtain ⟨callee,args,ts⟩:=c
  cases callee<;>try rfl
  rename_i b
  simp only
  generalize args.toList.map (eK e)=az
  unfold uC
  split
  ·simp only [Dx]
   split
   ·split<;>(try split)<;>rfl
   ·split<;>rfl
   ·rfl
   ·rfl
  ·simp [uD] at hw
  ·simp [uD] at hw
  ·simp only [Bu];split<;>rfl
  ·simp only [Bu];split<;>rfl
  ·rfl
 all_goals rfl
end
end Go.Abs
end
section
namespace Go.Abs
theorem EX {ops:Array Oper}{o:Oper}{t:Tmp}(h:Operand.tmp t∈o.op.operands):t∈o.looksAt ops:=by
 simp only [Oper.looksAt,aW,List.mem_filterMap]
 exact .inl ⟨.tmp t,by simpa using h,rfl⟩
theorem Kp {ops:Array Oper}{o:Oper}{j:Nat}{b:Bool}{t:Tmp}(hg:o.guard=some (j,b))(h:(ops[j]?).bind (·.dst)=some t):t∈o.looksAt ops:=by
 simp only [Oper.looksAt,aW,hg]
 exact .inr (by simp [h])
section
variable {P:Program} {md:Nat→Bool} {ops:Array Oper} {nid:Nat}
def tL (H' H1:AHeap)(F N:List Nat):AHeap:=⟨H'.next,fun i=>H'.al i∨(i∈N∧H1.al i),fun i=>if i∈F then H1.get i else H'.get i⟩
theorem Kb (H' H1:AHeap)(F:List Nat)(nid:Nat):jU H' H1 F nid=tL H' H1 F [nid]:=by
 simp only [jU,tL,AHeap.mk.injEq,true_and,and_true]
 funext i
 refine propext ⟨fun h=>h.imp (fun x=>x) fun ⟨h1,h2⟩=>⟨by simp [h1],h1 ▸ h2⟩,fun h=>h.imp (fun x=>x) fun ⟨h1,h2⟩=>?_⟩
 have:i=nid:=by simpa using h1
 exact ⟨this,this ▸ h2⟩
theorem Ha {H H':AHeap}{F N:List Nat}(hF:fD F H' H)(hn:∀ i∈N,¬ H.al i):tL H' H F N=H':=by
 obtain ⟨n,al,g⟩:=H'
 simp only [tL,AHeap.mk.injEq,true_and]
 refine ⟨?_,?_⟩
 ·funext i;exact propext ⟨fun h=>h.elim id fun h=>absurd h.2 (hn i h.1),.inl⟩
 ·funext i
  by_cases hi:i∈F
  ·rw [if_pos hi];exact (hF i hi).symm
  ·rw [if_neg hi]
theorem EH:∀ (q:List (Nat × Blk)) (H:AHeap),(∀ p∈q,p.1<H.next)→(H.pushs q).next=H.next
 | [],H,_=>rfl
 | p :: l,H,h=>by
  have h1:(H.push p.1 p.2).next=H.next:=by simp only [AHeap.push,if_pos (h p (by simp))]
  simp only [AHeap.pushs]
  rw [EH l _ (fun x hx=>by rw [h1];exact h x (by simp [hx])),h1]
theorem AN:∀ (q:List (Nat × Blk)) (H:AHeap) (i:Nat),(H.pushs q).al i↔H.al i∨i∈q.map (·.1)
 | [],H,i=>by simp [AHeap.pushs]
 | p :: l,H,i=>by
  simp only [AHeap.pushs]
  rw [AN l]
  simp only [AHeap.push,i6,aO]
  constructor
  ·rintro ((h|h)|h)
   ·exact .inr (.inl h)
   ·exact .inl h
   ·exact .inr (.inr h)
  ·rintro (h|h|h)
   ·exact .inl (.inr h)
   ·exact .inl (.inl h)
   ·exact .inr h
theorem G9:∀ (q:List (Nat × Blk)) (H H':AHeap) (i:Nat),(i∈q.map (·.1)∨H.get i=H'.get i)→(H.pushs q).get i=(H'.pushs q).get i
 | [],H,H',i,h=>by
  rcases h with h|h
  ·simp at h
  ·exact h
 | p :: l,H,H',i,h=>by
  simp only [AHeap.pushs]
  refine G9 l _ _ i ?_
  by_cases hl:i∈l.map (·.1)
  ·exact .inl hl
  ·right
   simp only [AHeap.push]
   by_cases hp:i=p.1
   ·simp [hp]
   ·simp only [hp,if_false]
    rcases h with h|h
    ·simp only [i6,aO] at h
     rcases h with h|h
     ·exact absurd h hp
     ·exact absurd h hl
    ·exact h
theorem CN:∀ (q:List (Nat × Blk)) (H:AHeap) (i:Nat),i∉q.map (·.1)→(H.pushs q).get i=H.get i
 | [],H,i,_=>rfl
 | p :: l,H,i,h=>by
  simp only [i6,aO,not_or] at h
  simp only [AHeap.pushs]
  rw [CN l _ i h.2]
  simp [AHeap.push,h.1]
theorem BS:∀ (u:List (Nat × Blk)) (H:AHeap),(H.puts u).next=H.next
 | [],_=>rfl
 | p :: l,H=>BS l (H.put p.1 p.2)
theorem Nr:∀ (u:List (Nat × Blk)) (H:AHeap) (i:Nat),(H.puts u).al i↔H.al i
 | [],_,_=>Iff.rfl
 | p :: l,H,i=>Nr l (H.put p.1 p.2) i
theorem J1:∀ (u:List (Nat × Blk)) (H H':AHeap) (i:Nat),H.get i=H'.get i→(H.puts u).get i=(H'.puts u).get i
 | [],_,_,_,h=>h
 | p :: l,H,H',i,h=>J1 l _ _ i (by simp only [AHeap.put];split<;>first|rfl|exact h)
theorem ED:∀ (u:List (Nat × Blk)) (H:AHeap) (i:Nat),(∀ p∈u,p.1≠i)→(H.puts u).get i=H.get i
 | [],H,i,_=>rfl
 | p :: l,H,i,h=>by
  simp only [AHeap.puts]
  rw [ED l _ i fun x hx=>h x (by simp [hx])]
  have:=(h p (by simp)).symm
  simp [AHeap.put,this]
theorem EG {H H':AHeap}{S:List Nat}{u q:List (Nat × Blk)}(hu:∀ p∈u,p.1∈S)(hF:fD (S++q.map (·.1)) H' H)(hlt:∀ p∈q,p.1<H'.next):(H'.puts u).pushs q=tL H' ((H.puts u).pushs q) (S++q.map (·.1)) (q.map (·.1)):=by
 have h1:=EH q (H'.puts u) (by rw [BS];exact hlt)
 have h2:=AN q (H'.puts u)
 have h3:=G9 q (H'.puts u) (H.puts u)
 have h4:=CN q (H'.puts u)
 have h5:=AN q (H.puts u)
 rw [BS] at h1
 simp only [Nr] at h2 h5
 generalize (H'.puts u).pushs q=X at h1 h2 h3 h4
 obtain ⟨n,al,g⟩:=X
 simp only [tL,AHeap.mk.injEq]
 refine ⟨h1,funext fun i=>propext ?_,funext fun i=>?_⟩
 ·rw [show al i↔_ from h2 i]
  exact ⟨fun h=>h.imp (fun x=>x) fun h=>⟨h,(h5 i).2 (.inr h)⟩,fun h=>h.imp (fun x=>x) fun h=>h.1⟩
 ·by_cases hi:i∈S++q.map (·.1)
  ·rw [if_pos hi]
   exact h3 i (.inr (J1 u _ _ i (hF i hi)))
  ·rw [if_neg hi]
   refine (h4 i fun h=>hi (by simp only [aW];exact .inr h)).trans (ED u _ i fun p hp he=>hi ?_)
   simp only [aW];exact .inl (he ▸ hu p hp)
structure Txt (P:Program) (md:Nat→Bool) (ops:Array Oper) (m nid:Nat) (o:Oper) (e:Nat→D) (H:AHeap) (v:D) (H1:AHeap) (F N:List Nat):Prop where
 self:H1=tL H H1 F N
 new:∀ id∈N,¬ H.al id∧(id=nid∨(id<m∧H1.al id))
 still:lU md o=false→H1=H
 foot:pD o.op=false→F=[]
 any:∀ e' H',(∀ t∈o.looksAt ops,e' t=e t)→fD F H' H→nid<H'.next→¬ H'.al nid→(∀ id∈N,id<H'.next∧¬ H'.al id) →
  oB P md (some m) nid ops e' o H' fun v' H2 _=>v'=v∧H2=tL H' H1 F N
theorem Kn {o:Op}(h:pD o=false):ET o=false:=by
 cases o<;>first|rfl|(simp [pD] at h;done)|(simp only [pD] at h;simp only [ET];exact h)
theorem KM {e:Nat→D}{o:Op}(h:pD o=false):foot nid e o=[]:=by simp [foot,h,Kn h]
theorem A6 {e e':Nat→D}{o:Oper}(h:∀ t∈o.looksAt ops,e' t=e t):∀ x∈o.op.operands,eK e' x=eK e x:=by
 intro x hx
 cases x with
 | tmp t=>exact h t (EX hx)
 | _=>rfl
theorem zP {e e':Nat→D}{o:Oper}(h:∀ t∈o.looksAt ops,e' t=e t):∀ x∈o.op.operands,eK (gE e' o.op) x=eK (gE e o.op) x:=by
 intro x hx
 cases x with
 | tmp t =>
  have ht:=h t (EX hx)
  simp only [eK]
  cases o.op<;>simp only [gE,CE,ht]
  rename_i c _ _
  cases c<;>simp only [ht]
 | _=>rfl
theorem Hc {e e':Nat→D}:∀ (l:List Operand),(∀ x∈l,og e' x=og e x)→P0 e' l=P0 e l
 | [],_=>rfl
 | x :: l,h=>by simp only [P0,h x (by simp),Hc l fun y hy=>h y (by simp [hy])]
theorem Loc.self {r:AOut}{H:AHeap}{F:List Nat}(h:Loc r r H F nid):r.heap=jU H r.heap F nid:=h.heap
theorem PY {m : Nat} {e : Nat → D} {o : Oper} {H : AHeap} {K : D → AHeap → List Nat → Prop} (h : oB P md (some m) nid ops e o H K) (hn : ¬ H.al nid) (hlt : nid < H.next) (hmn : m ≤ H.next) :
    ∃ v H1 F N, Txt P md ops m nid o e H v H1 F N ∧ K v H1 F := by
  unfold oB at h
  have hself : ∀ F : List Nat, H = tL H H F [nid] := fun F => (Ha (fun _ _ => rfl) (by simpa using hn)).symm
  have hone : ∀ id ∈ [nid], ¬ H.al id ∧ ∀ H1 : AHeap, (id = nid ∨ (id < m ∧ H1.al id)) := fun id hid => by
    have : id = nid := by simpa using hid
    subst this; exact ⟨hn, fun _ => .inl rfl⟩
  have hnid : ∀ {H' : AHeap}, fD [] H' H → ∀ {F : List Nat}, fD F H' H → tL H' H F [nid] = H' := fun _ _ hF => Ha hF (by simpa using hn)
  cases hg : o.guard with
  | none =>
    simp only [hg] at h
    cases hc : f7 e o with
    | some fa =>
      obtain ⟨f, args⟩ := fa
      simp only [hc] at h
      have hh : pD o.op = true ∧ DC md o = CR md o.dst := by
        unfold f7 at hc
        split at hc
        · rename_i hop; unfold DC; rw [hop]; exact ⟨rfl, rfl⟩
        · cases hc
      rcases h with ⟨r, S, h1, h2⟩ | ⟨hmd, r, S, u, q, hu, hq, h1, h2⟩
      · refine ⟨r, H, S, [nid], ⟨hself S, fun id hid => ⟨(hone id hid).1, (hone id hid).2 _⟩, fun _ => rfl, fun h => (by rw [hh.1] at h; cases h), fun e' H' he hF hlt' hn' hN => ?_⟩, h2⟩
        unfold oB
        simp only [hg]
        rw [oA (A6 he), hc]
        exact .inl ⟨r, S, fun H'' hF' => h1 H'' fun i hi => (hF' i hi).trans (hF i hi), rfl, (hnid (fun _ h => by cases h) hF).symm⟩
      · have hal := AN q (H.puts u)
        refine ⟨r, (H.puts u).pushs q, S ++ q.map (·.1), q.map (·.1), ⟨EG hu (fun _ _ => rfl) (fun p hp => b8 (hq p hp).1 hmn), fun id hid => ?_, fun hw => ?_, fun h => (by rw [hh.1] at h; cases h), fun e' H' he hF hlt' hn' hN => ?_⟩, h2⟩
        · obtain ⟨p, hp, rfl⟩ := aS.1 hid
          exact ⟨(hq p hp).2, .inr ⟨(hq p hp).1, (hal _).2 (.inr hid)⟩⟩
        · unfold lU at hw
          rw [hh.2, hmd] at hw
          simp at hw
        · unfold oB
          simp only [hg]
          rw [oA (A6 he), hc]
          refine .inr ⟨hmd, r, S, u, q, hu, fun p hp => ⟨(hq p hp).1, (hN p.1 (aS.2 ⟨p, hp, rfl⟩)).2⟩, fun H'' hF' hn'' => h1 H'' (fun i hi => (hF' i hi).trans (hF i (by simp [hi]))) hn'', rfl, ?_⟩
          exact EG hu hF fun p hp => (hN p.1 (aS.2 ⟨p, hp, rfl⟩)).1
    | none =>
      simp only [hc] at h
      obtain ⟨h1, h2⟩ := h
      have hl := Cw (P := P) (md := md) (e := e) (o := o) (H := H) (H' := H) (nid := nid) (fun _ _ => rfl) hn hlt
      refine ⟨_, _, _, [nid], ⟨(Kb _ _ _ _) ▸ hl.heap, fun id hid => ⟨(hone id hid).1, (hone id hid).2 _⟩, fun hw => RC (by unfold lU at hw; simp at hw; exact hw.1), fun hh => KM hh, fun e' H' he hF hlt' hn' hN => ?_⟩, h2 (fun h => by cases h)⟩
      unfold oB
      simp only [hg]
      rw [oA (A6 he), hc]
      simp only
      rw [Cx (A6 he)]
      have hl' := Cw (P := P) (md := md) (e := e) (o := o) (H := H) (H' := H') (nid := nid) hF hn hlt'
      exact ⟨hl'.cond h1, fun _ => ⟨hl'.val, (Kb _ _ _ _) ▸ hl'.heap⟩⟩
  | some jb =>
    obtain ⟨j, b⟩ := jb
    simp only [hg] at h
    cases hgd : gD ops e j with
    | none => simp [hgd] at h
    | some gc =>
      obtain ⟨g, c⟩ := gc
      simp only [hgd] at h
      obtain ⟨hog, h⟩ := h
      have hgd' : ∀ e', (∀ t ∈ o.looksAt ops, e' t = e t) → gD ops e' j = some (g, c) := by
        intro e' he
        rw [← hgd]
        unfold gD
        cases ht : (ops[j]?).bind (·.dst) with
        | none => rfl
        | some t => simp only [he t (Kp hg ht)]
      have hog' : ∀ e', (∀ t ∈ o.looksAt ops, e' t = e t) → P0 e' (gO o.op) = P0 e (gO o.op) := by
        intro e' he
        refine Hc _ fun x hx => ?_
        cases x with
        | tmp t => simp only [og, he t (EX (UF hx))]
        | _ => rfl
      cases hc : f7 (gE e o.op) o with
      | some fa =>
        obtain ⟨f, args⟩ := fa
        simp only [hc] at h
        obtain ⟨r, S, h1, h2⟩ := h
        have hh : pD o.op = true := by
          unfold f7 at hc
          split at hc
          · rename_i hop; rw [hop]; rfl
          · cases hc
        refine ⟨_, H, S, [nid], ⟨hself S, fun id hid => ⟨(hone id hid).1, (hone id hid).2 _⟩, fun _ => rfl, fun h => (by rw [hh] at h; cases h), fun e' H' he hF hlt' hn' hN => ?_⟩, h2⟩
        unfold oB
        simp only [hg, hgd' e' he, hog' e' he]
        rw [oA (zP he), hc]
        exact ⟨hog, r, S, fun hq H'' hF' => h1 hq H'' fun i hi => (hF' i hi).trans (hF i hi), rfl, (hnid (fun _ h => by cases h) hF).symm⟩
      | none =>
        simp only [hc] at h
        obtain ⟨h1, h2⟩ := h
        refine ⟨_, H, _, [nid], ⟨hself _, fun id hid => ⟨(hone id hid).1, (hone id hid).2 _⟩, fun hw => rfl, fun hh => KM hh, fun e' H' he hF hlt' hn' hN => ?_⟩, h2 (fun h => by cases h)⟩
        unfold oB
        simp only [hg, hgd' e' he, hog' e' he]
        rw [oA (zP he), hc]
        simp only
        rw [Cx (zP he)]
        have hl' := Cw (P := P) (md := md) (e := gE e o.op) (o := o) (H := H) (H' := H') (nid := nid) hF hn hlt'
        refine ⟨hog, fun hq => ⟨hl'.cond (h1 hq).1, ?_⟩, fun _ => ⟨by rw [hl'.val], (hnid (fun _ h => by cases h) hF).symm⟩⟩
        rw [hl'.heap, (h1 hq).2, gU hF hn]
end
structure Run (P:Program) (md:Nat→Bool) (ops:Array Oper) (sp:List (Nat × Nat)) (n0:Nat) (es:Nat→Nat→D) (Hs:Nat→AHeap) (vs:Nat→D) (Fs Ns:Nat→List Nat) (i0:Nat) (l:List Oper):Prop where
 step:∀ (j:Nat) (o:Oper),l[j]?=some o→es (i0+j+1)=kY (es (i0+j)) o.dst (vs (i0+j))∧Txt P md ops n0 (n0+(i0+j)) o (es (i0+j)) (Hs (i0+j)) (vs (i0+j)) (Hs (i0+j+1)) (Fs (i0+j)) (Ns (i0+j))
 apart:∀ (k j:Nat),k<j→j<l.length→(i0+k,i0+j)∈sp→∀ x∈Fs (i0+k),x∉Fs (i0+j)
theorem HY {P : Program} {md : Nat → Bool} {ops : Array Oper} {sp : List (Nat × Nat)} {n0 nn : Nat} : ∀ (l : List Oper) (i : Nat) (acc : List (Nat × List Nat)) (e : Nat → D) (H : AHeap) (K : (Nat → D) → AHeap → Prop),
    jL P md ops sp n0 i l acc e H K → (∀ id, H.al id → id < n0 + i) → H.next = nn → n0 + i + l.length ≤ nn →
    ∃ (es : Nat → Nat → D) (Hs : Nat → AHeap) (vs : Nat → D) (Fs Ns : Nat → List Nat), es i = e ∧ Hs i = H ∧ K (es (i + l.length)) (Hs (i + l.length)) ∧ Run P md ops sp n0 es Hs vs Fs Ns i l ∧
      (∀ (j : Nat), j < l.length → ∀ p ∈ acc, (p.1, i + j) ∈ sp → ∀ x ∈ p.2, x ∉ Fs (i + j))
  | [], i, acc, e, H, K, h, hal, hnn, hle => by
    refine ⟨fun _ => e, fun _ => H, fun _ => .junk, fun _ => [], fun _ => [], rfl, rfl, h, ⟨fun j o h => by simp at h, fun k j _ h => by simp at h⟩, fun j h => by simp at h⟩
  | o :: l, i, acc, e, H, K, h, hal, hnn, hle => by
    unfold jL at h
    simp only [bW] at hle
    have hn : ¬ H.al (n0 + i) := fun h => by have := hal _ h; omega
    have hlt : n0 + i < H.next := by omega
    obtain ⟨v, H1, F, N, hT, hchk, hrest⟩ := PY h hn hlt (by omega)
    have hal1 : ∀ id, H1.al id → id < n0 + (i + 1) := fun id hid => by
      rw [hT.self] at hid
      rcases hid with hid | ⟨hid, _⟩
      · have := hal id hid; omega
      · rcases (hT.new id hid).2 with h | ⟨h, _⟩ <;> omega
    have hnn1 : H1.next = nn := by rw [hT.self]; exact hnn
    obtain ⟨es, Hs, vs, Fs, Ns, he, hH, hK, hrun, hacc⟩ := HY l (i + 1) _ _ _ _ hrest hal1 hnn1 (by omega)
    refine ⟨fun k => if k = i then e else es k, fun k => if k = i then H else Hs k, fun k => if k = i then v else vs k, fun k => if k = i then F else Fs k, fun k => if k = i then N else Ns k, by simp, by simp, ?_, ⟨fun j o' ho' => ?_, fun k j hkj hj hsp => ?_⟩, fun j hj p hp hsp => ?_⟩
    · have : i + (o :: l).length ≠ i := by simp
      simp only [this, if_false]
      rw [show i + (o :: l).length = i + 1 + l.length by simp; omega]
      exact hK
    · cases j with
      | zero =>
        simp only [jX, aY] at ho'
        subst ho'
        have : i + 0 + 1 ≠ i := by omega
        simp only [this, if_false, o4, if_true]
        rw [show i + 1 = i + 1 from rfl, he, hH]
        exact ⟨rfl, hT⟩
      | succ j =>
        have h1 : i + (j + 1) ≠ i := by omega
        have h2 : i + (j + 1) + 1 ≠ i := by omega
        simp only [h1, h2, if_false]
        have := hrun.step j o' (by simpa using ho')
        rw [show i + 1 + j = i + (j + 1) by omega] at this
        exact this
    · have hj0 : i + j ≠ i := by omega
      simp only [hj0, if_false]
      cases j with
      | zero => omega
      | succ j =>
        simp only [bW] at hj
        by_cases hk : k = 0
        · subst hk
          simp only [o4, if_true] at hsp ⊢
          have := hacc j (by omega) (i, F) (by simp)
          rw [show i + 1 + j = i + (j + 1) by omega] at this
          exact this hsp
        · have hk0 : i + k ≠ i := by omega
          simp only [hk0, if_false]
          have := hrun.apart (k - 1) j (by omega) (by omega)
          rw [show i + 1 + (k - 1) = i + k by omega, show i + 1 + j = i + (j + 1) by omega] at this
          exact this hsp
    · cases j with
      | zero =>
        simp only [o4, if_true] at hsp ⊢
        unfold Dr at hchk
        cases sp with
        | nil => simp at hsp
        | cons a sp => exact hchk p hp hsp
      | succ j =>
        have h1 : i + (j + 1) ≠ i := by omega
        simp only [h1, if_false]
        simp only [bW] at hj
        have := hacc j (by omega) p (by simp [hp])
        rw [show i + 1 + j = i + (j + 1) by omega] at this
        exact this hsp
end Go.Abs
end
