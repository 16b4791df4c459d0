/- The abstraction layer, part L: calls, and one operation of a -/
import Derived.Test.YtbgbahlipnaflaaGreatZvAC
set_option linter.unusedVariables false
set_option linter.unusedSimpArgs false
section
namespace Go.Abs
def Ent (P:Program)(f:FuncId):Prop:=∃ fn,P.funcs[f]?=some fn/\(fn.name=="runtime.NumGoroutine")=false/\fn.body.isSome=true
def ACalls (P:Program)(f:FuncId)(args:UN)(H:AHeap)(Q:D->AHeap->Prop):Prop :=
 Ent P f/\∀ (M0:Nat->Prop) (σ:Nat->Option Ow) (w:World) (vals:List Value),Rel M0 H σ w->RepL (dV M0 H σ) σ H.F w vals args ->
  Calls P f vals.toArray w λe w'=>∃ v d H' σ',e=.returned v/\Rel M0 H' σ' w'/\RepV (dV M0 H' σ') σ' H'.F w' v d/\Stp σ w σ' w' /\
   Keeps (dV M0 H σ) σ H.F w (dV M0 H' σ') σ' H'.F w'/\Q d H'
theorem ACalls.mono {P:Program}{f:FuncId}{args:UN}{H:AHeap}{Q Q':D->AHeap->Prop}(h:ACalls P f args H Q)(hq:∀ d H',Q d H'->Q' d H'):ACalls P f args H Q' :=
 ⟨h.1,λM0 σ w vals hR ha=>(h.2 M0 σ w vals hR ha).mono λ_ _ ⟨v,d,H',σ',a,b,c,s,k,q⟩=>⟨v,d,H',σ',a,b,c,s,k,hq _ _ q⟩⟩
def oV (e:Nat->D)(dst:Option Tmp)(v:D):Nat->D :=
 match dst with
 | some d=>λt=>if t=d then v else e t
 | none=>e
structure St (n:Nat) (M0:Nat->Prop) (H:AHeap) (σ:Nat->Option Ow) (w:World) (e:Nat->D) (a:Act):Prop where
 b0:Rel M0 H σ w
 dw:∀ t,RepV (dV M0 H σ) σ H.F w (a.tmps.getD t undef) (e t)
 defers:a.defers=[]
 size:a.tmps.size=n
section
variable {P:Program} {M0:Nat→Prop} {H:AHeap} {σ:Nat→Option Ow} {w:World} {n:Nat} {e:Nat→D} {a:Act}
theorem St.cc (h:St n M0 H σ w e a):EnvR (dV M0 H σ) σ H.F w a.eval e:=⟨h.dw,λ_=>rfl,λ_=>rfl⟩
def sY (n:Nat):Option Tmp->Bool
 | some d=>decide (d<n)
 | none=>true
theorem St.put {H':AHeap}{σ':Nat->Option Ow}{w':World}(h:St n M0 H σ w e a)(i:Rel M0 H' σ' w')(g:Keeps (dV M0 H σ) σ H.F w (dV M0 H' σ') σ' H'.F w')
  {b:Option Tmp} (l:sY n b=true) {v:Value} {d:D} (j:RepV (dV M0 H' σ') σ' H'.F w' v d):St n M0 H' σ' w' (oV e b d) (a.put b v):=by
 cases b with
 | none=>exact ⟨i,λt=>(h.dw t).q g,h.defers,h.size⟩
 | some q =>
  have k:q<a.tmps.size:=by rw [h.size];simpa [sY] using l
  refine ⟨i,λt=>?_,h.defers,by simpa [Act.put] using h.size⟩;by_cases f:t=q
  .subst f;simpa [oV,Act.put,k] using j
  .have c:¬ q=t:=λe=>f e.symm;have:=(h.dw t).q g;simpa [oV,Act.put,f,c,Array.getElem?_setIfInBounds] using this
theorem FT {nid:Nat}{md:Nat->Bool}{e g:Nat->D}{o:Oper}(h:∀ x∈o.op.operands,fS e x=fS g x):Hr P nid md e o H=Hr P nid md g o H:=by
 obtain ⟨K,q,w,B,u,r⟩:=o;have A:∀ (l:List (Nat × Operand)),(∀ p∈l,fS e p.2=fS g p.2)->(l.map λp=>(p.1,fS e p.2))=l.map λp=>(p.1,fS g p.2):=λl m =>
  b8 λp hp=>by rw [m p hp]
 unfold Hr;cases q<;>simp only [Op.operands] at h ⊢<;>first|rfl|skip
 case move x=>rw [h x aE]
 case assign x=>rw [h x aE]
 case pick c a b=>rw [h c aE,h a aE,h b aE]
 case box t x=>rw [h x aE]
 case build t ps =>
  grind
 case buildSlice t n ps =>
  have m:∀ p∈ps.toList,fS e p.2=fS g p.2:=λp hp=>h p.2 (by simpa using ⟨p.1,by simpa using hp⟩);have I:(ps.toList.map λp=>(p.1,U6 md H (fS e p.2)))=ps.toList.map λp=>(p.1,U6 md H (fS g p.2)):=b8 λp hp=>by rw [m p hp]
  have G:(ps.toList.flatMap λp=>OW md (fS e p.2))=ps.toList.flatMap λp=>OW md (fS g p.2):=by
   rw [List.flatMap_def,List.flatMap_def,b8 λp hp=>by rw [m p hp]]
  rw [I,G]
 case load t a=>rw [h a aE]
 case store t a v=>rw [h a aE,h v aE]
 case nilCheck x=>rw [h x aE]
 case binOp q t x y t'=>rw [h x aE,h y aE]
 case unOp q t x=>rw [h x aE]
 case convert s d x=>rw [h x aE]
 case makeFunc J first caps =>
  cases J<;>simp only
  have:caps.toList.map (fS e)=caps.toList.map (fS g):=b8 λx hx=>h x (by simp;exact .inr (bY hx));rw [this]
 case makeSlice t l c=>rw [h l aE,h c aE]
 case slice t x E F C =>
  cases C<;>simp only
  rw [h x aE];cases E<;>cases F<;>simp only [Option.map_none,d7]
  .rename_i y;rw [h y aE]
  .rename_i y;rw [h y aE]
  .rename_i y z;rw [h y aE,h z aE]
 case fieldAddr t x f=>rw [h x aE]
 case indexAddr t x i=>rw [h x aE,h i aE]
 case index t x i=>rw [h x aE,h i aE]
 case extract t i=>rw [h t aE]
 case call c =>
  obtain ⟨j,k,L⟩:=c;cases j<;>simp only
  have:k.toList.map (fS e)=k.toList.map (fS g):=b8 λx hx=>h x (by simpa [Call.operands] using hx);rw [this]
theorem rC {e d:Nat->D}{o:Oper}(h:∀ x∈o.op.operands,fS e x=fS d x):iR e o=iR d o:=by
 obtain ⟨n,l,j,k,i,g⟩:=o;unfold iR;cases l<;>simp only
 rename_i c;obtain ⟨a,b,p⟩:=c;cases a<;>simp only
 rename_i f;have m:fS e f=fS d f:=h f (by simp [Op.operands,Call.operands]);have:b.toList.map (fS e)=b.toList.map (fS d):=b8 λx hx=>h x (by simp [Op.operands,Call.operands];exact .inr (bY hx));rw [m,this]
/-! ### guards -/
def gD (ops:Array Oper)(e:Nat->D)(j:Nat):Option (Bool × Bool) :=
 match (ops[j]?).bind (·.dst) with
 | some t=>match e t with
  | .bool c=>some (true,c)
  | .opt g (.bool c)=>some (g,c)
  | _=>none
 | none=>none
def F5 (e:Nat->D):Nat->D:=λt=>match e t with | .opt _ d=>d|d=>d
def gE (e:Nat->D)(op:Op):Nat->D :=
 match op with
 | .pick (.tmp c) _ _=>λt=>if t=c then F5 e t else e t
 | .pick _ _ _=>e
 | _=>F5 e
def gO (op:Op):List Operand :=
 match op with
 | .pick c _ _=>[c]
 | op=>op.operands.toList
theorem acL {a:Op}{x:Operand}(h:x∈gO a):x∈a.operands:=by
 cases a<;>simp only [gO] at h<;>first|(simpa using h)|(simp only [bD] at h;subst h;simp [Op.operands])
def og (e:Nat->D):Operand->Bool
 | .tmp t=>match e t with
  | .opt g _=>g
  | _=>true
 | _=>true
def WX (e:Nat->D):List Operand->Bool
 | []=>true
 | x :: l=>og e x&&WX e l
theorem Zs {l:List Operand}(h:WX e l=true):∀ x∈l,og e x=true:=by
 induction l with
 | nil=>simp
 | cons a l ih =>
  simp only [WX,aM] at h;grind
theorem NE (B:St n M0 H σ w e a){ops:Array Oper}{o:Oper}{j:Nat}{b g c:Bool}(z:o.guard=some (j,b))(h:gD ops e j=some (g,c)) :
  Region.wanted o (yielded ops a.tmps)=(g&&(c==b)):=by
 unfold gD at h;cases l:(ops[j]?).bind (·.dst) with
 | none=>simp [l] at h
 | some t =>
  simp only [l] at h;have m:a.tmps.getD t undef=(a.tmps[t]?).getD undef:=aE;have d:=B.dw t;rw [m] at d;have u:∀ s:Bool,(a.tmps[t]?).getD undef=.bool s->yielded ops a.tmps j=some s:=by
   intro s k;cases i:a.tmps[t]? with
   | none=>rw [i] at k;simp [undef] at k
   | some x=>rw [i] at k;simp at k;subst k;simp [yielded,l,i]
  simp only [Region.wanted,z];split at h
  .rename_i C r;cases h
   rw [r] at d;have k:(a.tmps[t]?).getD undef=.bool c:=by generalize (a.tmps[t]?).getD undef=v at d;cases d;rfl
   grind
  .rename_i D C r;cases h
   rw [r] at d;generalize p:(a.tmps[t]?).getD undef=v at d;cases d
   rename_i A q;cases g with
   | true =>
    have:=q rfl;cases this
    grind
   | false =>
    have y:=A rfl;have:yielded ops a.tmps j=none:=by
     cases i:a.tmps[t]? with
     | none=>simp [yielded,l,i]
     | some x=>rw [i] at p;simp at p;rw [y] at p;subst p;simp [yielded,l,i]
    grind
  .cases h
/-! ### one operation -/
def gU (S:List Nat)(H' H:AHeap):Prop:=∀ i∈S,H'.get i=H.get i
def eY:D->List Nat
 | .own id _=>[id]
 | .win id _ _ _=>[id]
 | .ptr id _ _ _=>[id]
 | .agg cs=>cs.flatMap mM
 | _=>[]
def Js:Op->Bool
 | .alloc _ | .box .. | .buildSlice .. | .makeSlice ..=>true
 | .call { callee:=.builtin .append,.. }=>true
 | .move x | .assign x=>j5 x
 | _=>false
def sV:Op->Bool
 | .load .. | .store .. | .nilCheck _ | .fieldAddr .. | .indexAddr .. | .slice .. | .alloc _ | .box .. | .buildSlice .. | .makeSlice ..=>true
 | .call _=>true
 | .move x | .assign x=>j5 x
 | _=>false
def foot (nid:Nat)(e:Nat->D)(o:Op):List Nat :=
 (if Js o then [nid] else [])++(if sV o then o.operands.toList.flatMap λx=>eY (fS e x) else [])
def AHeap.ac (H:AHeap):List (Nat × Blk)->AHeap
 | []=>H
 | p :: l=>AHeap.ac (H.push p.1 p.2) l
def AHeap.ai (H:AHeap):List (Nat × Blk)->AHeap
 | []=>H
 | p :: l=>AHeap.ai (H.put p.1 p.2) l
def rF (P:Program)(md:Nat->Bool)(dr:Option Nat)(nid:Nat)(ops:Array Oper)(e:Nat->D)(o:Oper)(H:AHeap)(K:D->AHeap->List Nat->Prop):Prop :=
  match o.guard with
  | none=>match iR e o with
    | some (f,args) =>
      match dr with
      | some m=>(∃ r S,(∀ H',gU S H' H->ACalls P f args H' λv H1=>v=r/\H1=H')/\K r H S) \/
          (Fk md o.dst=true/\∃ r S u q,(∀ p∈u,p.1∈S)/\(∀ p∈q,p.1<m/\¬ H.F p.1) /\
            (∀ H',gU S H' H->(∀ p∈q,p.1<H'.next/\¬ H'.F p.1)->ACalls P f args H' λv H1=>v=r/\H1=(H'.ai u).ac q)/\K r ((H.ai u).ac q) (S++q.map (·.1)))
      | none=>ACalls P f args H λv H1=>K v H1 []
    | none=>(Hr P nid md e o H).cond/\((dr=none->(Hr P nid md e o H).X)->K (Hr P nid md e o H).val (Hr P nid md e o H).heap (foot nid e o.op))
  | some (j,b)=>match gD ops e j with
    | some (g,c)=>((g&&(c==b))=true->WX e (gO o.op)=true) /\
      match iR (gE e o.op) o with
      | some (f,args) =>
        match dr with
        | some _=>∃ r S,((g&&(c==b))=true->∀ H',gU S H' H->ACalls P f args H' λv H1=>v=r/\H1=H')/\K (.opt (g&&(c==b)) r) H S
        | none=>(∃ r S,((g&&(c==b))=true->∀ H',gU S H' H->ACalls P f args H' λv H1=>v=r/\H1=H')/\K (.opt (g&&(c==b)) r) H S) \/
          (((g&&(c==b))=true->ACalls P f args H λv H1=>K (.opt true v) H1 [])/\((g&&(c==b))=false->∃ r,K (.opt false r) H []))
      | none=>((g&&(c==b))=true->(Hr P nid md (gE e o.op) o H).cond/\(Hr P nid md (gE e o.op) o H).heap=H) /\
          ((dr=none->(g&&(c==b))=true->(Hr P nid md (gE e o.op) o H).X)->K (.opt (g&&(c==b)) (Hr P nid md (gE e o.op) o H).val) H (foot nid (gE e o.op) o.op))
    | none=>False
theorem C9 {o:Oper}{f:FuncId}{args:UN}{ρ:Operand->Value}{e:Nat->D}(C:∀ x∈o.op.operands,RepV (dV M0 H σ) σ H.F w (ρ x) (fS e x))(a:iR e o=some (f,args))(T:Ent P f) :
  ∃ vals,(execOp ρ o).run P w=.ok (.enter f vals.toArray) w/\RepL (dV M0 H σ) σ H.F w vals args:=by
 obtain ⟨V,L,z,K,y,t⟩:=o;unfold iR at a;cases L<;>simp only at a<;>try (cases a;done)
 rename_i c;obtain ⟨b,I,W⟩:=c;cases b<;>simp only at a<;>try (cases a;done)
 rename_i E;split at a
 .rename_i g G S;simp at a;obtain ⟨rfl,rfl⟩:=a;have i:=C E (by simp [Op.operands,Call.operands]);rw [S] at i;generalize M:ρ E=v at i;cases i
  rename_i J O N;obtain ⟨F,r,n,U⟩:=T;refine ⟨I.toList.map ρ++J,?_,⟨by simp [O],λj u d hu hd=>?_⟩⟩
  .have s:F.body.isNone=false:=by cases R:F.body<;>simp [R] at U ⊢
   have h:Sem.run P program w=.ok P w:=rfl;simp only [execOp,resolve,M,Deferred.ofValue,invoke,callFunc,Sem.run_bind,Sem.run_pure,Result.andThen_ok,h,r,n,s,fP,if_false];simp_all
  .by_cases Q:j<I.size
   .rw [aS (bY Q)] at hu hd;simp only [aN,bV] at hu hd;obtain ⟨p,B,rfl⟩:=hu;obtain ⟨q,A,rfl⟩:=hd;rw [B] at A;cases A
    exact C p (by simp [Op.operands,Call.operands];exact .inr (by simpa using aL B))
   .rw [bG ie] at hu hd;simp only [aR,g8] at hu hd;exact N _ u d hu hd
 .cases a
def StepC (P:Program)(ops:Array Oper)(Q:Exit->Act->World->Prop)(o:Oper)(Kc:Act->World->Prop)(a:Act)(w:World):Prop :=
 if Region.wanted o (yielded ops a.tmps) then o.wp P a w Kc Q\/(o.asks P a w/\LetsOut Q) else Kc (a.put o.dst undef) w
theorem Cz {o:Oper}{f:FuncId}{args:UN}{vals:List Value}{c:Act->World->Prop}{Q:Exit->Act->World->Prop}(b:(execOp a.eval o).run P w=.ok (.enter f vals.toArray) w)
  (h:Calls P f vals.toArray w λe w'=>∃ v,e=.returned v/\c (a.put o.dst v) w'):o.wp P a w c Q:=by
 unfold Oper.wp;rw [b,Oper.upon_enter];exact h.mono λe w' ⟨v,g,d⟩=>by subst g;exact d
theorem Bo {md:Nat->Bool}{dr:Option Nat}{nid:Nat}{ops:Array Oper}{o:Oper}{K:D->AHeap->List Nat->Prop}{Q:Exit->Act->World->Prop}
  (h:rF P md dr nid ops e o H K) (s:St n M0 H σ w e a) (hn:¬ H.F nid) (V:sY n o.dst=true) (hm:∀ m,dr=some m->m<=H.next:=by intro _ h;cases h) :
  StepC P ops Q o (λa' w'=>∃ v H' F σ',K v H' F/\St n M0 H' σ' w' (oV e o.dst v) a'/\Stp σ w σ' w'/\Keeps (dV M0 H σ) σ H.F w (dV M0 H' σ') σ' H'.F w') a w:=by
 unfold rF at h;unfold StepC;cases hg:o.guard with
 | none =>
  simp only [hg] at h;have hw:Region.wanted o (yielded ops a.tmps)=true:=by simp [Region.wanted,hg]
  rw [if_pos hw]
  left
  cases I:iR e o with
  | none =>
   simp only [I] at h;obtain ⟨k,v,w',σ',i,N,Y,h5,J⟩:=Jh (P:=P) hn s.b0 s.cc h.1;unfold Oper.wp;rcases i with i|⟨i,rfl⟩
   .rw [i,Oper.upon_value];exact ⟨_,_,_,σ',h.2 (λ_=>k),s.put N J V Y,h5,J⟩
   .rw [i,Oper.upon_skip];exact ⟨_,_,_,σ',h.2 (λ_=>k),s.put N J V Y,h5,J⟩
  | some fa =>
   obtain ⟨f,args⟩:=fa;simp only [I] at h;have C:∀ Q':D->AHeap->Prop,ACalls P f args H Q'->(∀ v H',Q' v H'->∃ F,K v H' F) ->
     o.wp P a w (λa' w'=>∃ v H' F σ',K v H' F/\St n M0 H' σ' w' (oV e o.dst v) a'/\Stp σ w σ' w'/\Keeps (dV M0 H σ) σ H.F w (dV M0 H' σ') σ' H'.F w') Q:=by
    intro Q' hA hQ;obtain ⟨y,z,A⟩:=C9 (P:=P) (λx _=>s.cc.ev x) I hA.1;refine Cz (args:=args) z ((hA.2 M0 σ w y s.b0 A).mono λe' w' ⟨v,d,H',σ',he,X,hv,T,M,hq⟩=>?_);obtain ⟨F,hF⟩:=hQ _ _ hq;exact ⟨v,he,d,H',F,σ',hF,s.put X M V hv,T,M⟩
   cases dr with
   | none=>exact C _ h λv H' M=>⟨[],M⟩
   | some m =>
    rcases h with ⟨r,S,k,i⟩|⟨_,r,S,u,q,hu,hq,k,i⟩
    .exact C _ (k H λ_ _=>rfl) λv H' ⟨e1,G⟩=>⟨S,by rw [e1,G];exact i⟩
    .exact C _ (k H (λ_ _=>rfl) λp hp=>⟨dE (hq p hp).1 (hm m rfl),(hq p hp).2⟩) λv H' ⟨e1,G⟩=>⟨S++q.map (·.1),by rw [e1,G];exact i⟩
 | some jb =>
  obtain ⟨j,b⟩:=jb;simp only [hg] at h;cases U:gD ops e j with
  | none=>simp [U] at h
  | some gc =>
   obtain ⟨g,c⟩:=gc;simp only [U] at h;have hw:=NE (n:=n) s hg U;rw [hw];generalize hq:(g&&(c==b))=q at h;obtain ⟨a2,h⟩:=h;cases q with
   | false =>
    simp only [fP,if_false];have O:∀ d,St n M0 H σ w (oV e o.dst (.opt false d)) (a.put o.dst undef):=λd =>
     s.put s.b0 (.refl _ _ _ _) V (.opt _ _ _ (λ_=>rfl) (λh=>by cases h))
    cases I:iR (gE e o.op) o with
    | none =>
     simp only [I] at h;exact ⟨_,H,_,σ,h.2 (λ_ h=>by cases h),O _,.refl _ _,.refl _ _ _ _⟩
    | some fa =>
     obtain ⟨f,args⟩:=fa;simp only [I] at h;have h':∃ r S,K (.opt false r) H S:=by
      cases dr with
      | some _=>obtain ⟨r,S,k,i⟩:=h;exact ⟨r,S,i⟩
      | none =>
       rcases h with ⟨r,S,k,i⟩|⟨k,i⟩
       .exact ⟨r,S,i⟩
       .obtain ⟨r,i⟩:=i trivial;exact ⟨r,[],i⟩
     obtain ⟨r,S,i⟩:=h';exact ⟨_,H,S,σ,i,O _,.refl _ _,.refl _ _ _ _⟩
   | true =>
    simp only [if_true]
    left
    have R:=Zs (a2 rfl);have a1:∀ t,og e (.tmp t)=true->RepV (dV M0 H σ) σ H.F w (a.eval (.tmp t)) (F5 e t):=by
     intro t i;have k:=s.cc.ev (.tmp t);simp only [fS] at k;simp only [og] at i;simp only [F5];split
     .rename_i g' d' a3;rw [a3] at k i;generalize a.eval (.tmp t)=v at k;cases k
      rename_i _ k;exact k i
     .exact k
    have hE:∀ x∈o.op.operands,RepV (dV M0 H σ) σ H.F w (a.eval x) (fS (gE e o.op) x):=by
     intro x hx;have h0:=s.cc.ev x;cases x with
     | tmp t =>
      simp only [fS] at h0 ⊢;by_cases a0:∃ c' x' y',o.op=.pick c' x' y'
      .obtain ⟨c',x',y',L⟩:=a0;rw [L];have a5:=R c' (by simp [gO,L]);cases c' with
       | tmp c' =>
        simp only [gE];split
        .rename_i a4;subst a4;exact a1 _ a5
        .exact h0
       | _=>exact h0
      .have N:gE e o.op=F5 e/\gO o.op=o.op.operands.toList:=by
        cases L:o.op<;>first|exact ⟨rfl,rfl⟩|exact absurd ⟨_,_,_,L⟩ a0
       rw [N.1];exact a1 t (R _ (by rw [N.2];simpa using hx))
     | _=>exact h0
    classical
    let G:Nat->D:=λt=>if (Operand.tmp t)∈o.op.operands then gE e o.op t else .junk
    have W:∀ x∈o.op.operands,fS (gE e o.op) x=fS G x:=by
     intro x hx;cases x with
     | tmp t=>simp [fS,G,hx]
     | _=>rfl
    have a6:EnvR (dV M0 H σ) σ H.F w a.eval G:=by
     refine ⟨λt=>?_,λ_=>rfl,λ_=>rfl⟩;by_cases ht:(Operand.tmp t)∈o.op.operands
     .have:=hE _ ht;simp only [G,if_pos ht];exact this
     .simp only [G,if_neg ht];exact .junk _
    cases I:iR (gE e o.op) o with
    | none =>
     simp only [I] at h;obtain ⟨k,i⟩:=h;obtain ⟨E,B⟩:=k trivial;rw [FT W] at E B i;obtain ⟨k,v,w',σ',Z,N,Y,h5,J⟩:=Jh (P:=P) hn s.b0 a6 E;rw [B] at N Y J;unfold Oper.wp;rcases Z with Z|⟨Z,rfl⟩
     .rw [Z,Oper.upon_value];exact ⟨_,_,_,σ',i λ_ _=>k,s.put N J V (.opt _ _ _ (λh=>by cases h) λ_=>Y),h5,J⟩
     .rw [Z,Oper.upon_skip];exact ⟨_,_,_,σ',i λ_ _=>k,s.put N J V (.opt _ _ _ (λh=>by cases h) λ_=>Y),h5,J⟩
    | some fa =>
     obtain ⟨f,args⟩:=fa;simp only [I] at h;have h':ACalls P f args H λv H1=>∃ S,K (.opt true v) H1 S:=by
      have hl:(∃ r S,((true:Bool)=true->∀ H',gU S H' H->ACalls P f args H' λv H1=>v=r/\H1=H')/\K (.opt true r) H S)->ACalls P f args H λv H1=>∃ S,K (.opt true v) H1 S:=by
       rintro ⟨r,S,k,i⟩;exact (k rfl H λ_ _=>rfl).mono λv H1 ⟨e1,G⟩=>⟨S,by rw [e1,G];exact i⟩
      cases dr with
      | some _=>exact hl (bY h)
      | none =>
       rcases h with h|⟨k,i⟩
       .exact hl (bY h)
       .exact ACalls.mono (bY k) λv H1 M=>⟨[],M⟩
     obtain ⟨y,z,A⟩:=C9 (P:=P) hE I h'.1;refine Cz (args:=args) z ((h'.2 M0 σ w y s.b0 A).mono λe' w' ⟨v,d,H',σ',he,X,hv,T,M,S,i⟩=>?_);exact ⟨v,he,_,_,S,σ',i,s.put X M V (.opt _ _ _ (λh=>by cases h) λ_=>hv),T,M⟩
end
end Go.Abs
end
section
namespace Go.Abs
def chk (sp:List (Nat × Nat))(i:Nat)(F:List Nat)(acc:List (Nat × List Nat)):Prop :=
 match sp with
 | []=>True
 | _=>∀ p∈acc,(p.1,i)∈sp->∀ x∈p.2,x∉F
def lG (P:Program)(md:Nat->Bool)(ops:Array Oper)(sp:List (Nat × Nat))(n0:Nat):Nat->List Oper->List (Nat × List Nat)->(Nat->D)->AHeap->((Nat->D)->AHeap->Prop)->Prop
 | _,[],_,e,H,K=>K e H
 | i,o :: rest,acc,e,H,K=>rF P md (some n0) (n0+i) ops e o H λv H' F=>chk sp i F acc/\lG P md ops sp n0 (i+1) rest ((i,F) :: acc) (oV e o.dst v) H' K
/-! ### which operations come ahead of which -/
def R0:List Oper->List Nat->List Nat
 | [],acc=>acc
 | o :: rest,acc=>R0 rest (acc++[o.after.toList.foldl (λs e=>if Region.binds .any e then s ||| 2 ^ e.on ||| acc.getD e.on 0 else s) 0])
def yW:Op->Bool
 | .store .. | .alloc _ | .box .. | .buildSlice .. | .makeSlice ..=>true
 | .call { callee:=.builtin .append,.. } | .call { callee:=.builtin .clear,.. }=>true
 | .move x | .assign x=>j5 x
 | _=>false
def HC (md:Nat->Bool)(o:Oper):Bool:=match o.op with
 | .call { callee:=.value _,.. }=>Fk md o.dst
 | _=>false
def oM (md:Nat->Bool)(o:Oper):Bool:=yW o.op||HC md o
def OS (ops:Array Oper)(x y:Oper):Bool:=!(x.apart ops y)
def Ks (md:Nat->Bool)(x y:Oper):Bool:=sV x.op&&sV y.op&&(oM md x||oM md y)
def yY (md:Nat->Bool)(ops:Array Oper)(sp:List (Nat × Nat)):Bool :=
  let b:=R0 ops.toList []
  (List.range ops.size).all λj=>match ops[j]? with
    | none=>true
    | some y=>(y.after.toList.all λe=>!Region.binds .any e||decide (e.on<j)) &&
      (match y.guard with|none=>true|some (g,_)=>decide (g<ops.size)) &&
      (List.range j).all λi=>match ops[i]? with
        | none=>true
        | some x=>(b.getD j 0).testBit i||(!OS ops x y&&(!Ks md x y||sp.contains (i,j)))
def Pb (ops:Array Oper)(S:Nat->Bool):Prop:=∀ j o,ops[j]?=some o->S j=true->∀ e∈o.after.toList,Region.binds .any e=true->S e.on=true
theorem M5 (S:Nat->Bool)(acc:List Nat)(hacc:∀ k i,S k=true->(acc.getD k 0).testBit i=true->S i=true) :
  ∀ (es:List Edge) (s:Nat),(∀ e∈es,Region.binds .any e=true->S e.on=true)->(∀ i,s.testBit i=true->S i=true) ->
   ∀ i,(es.foldl (λs e=>if Region.binds .any e then s ||| 2 ^ e.on ||| acc.getD e.on 0 else s) s).testBit i=true->S i=true
 | [],s,_,hs,i,h=>hs i h
 | e :: es,s,he,hs,i,h=>by
  simp only [pD] at h;refine M5 S acc hacc es _ (λe' h'=>he e' (iw h')) (λi hi=>?_) i h;split at hi
  .rename_i hb;have hSe:=he e aE hb;rw [Nat.testBit_or,Nat.testBit_or,c8,c8] at hi;rcases hi with (hi|hi)|hi
   .exact hs i hi
   .rw [Nat.testBit_two_pow] at hi;have:e.on=i:=by simpa using hi
    rw [<- this];exact hSe
   .exact hacc e.on i hSe hi
  .exact hs i hi
theorem Nq {ops:Array Oper}{S:Nat->Bool}(r:Pb ops S):∀ j i,S j=true->((R0 ops.toList []).getD j 0).testBit i=true->S i=true:=by
 have f:∀ (l:List Oper) (a:List Nat),(∀ (k:Nat),(ops.toList.drop a.length)[k]?=l[k]?)->(∀ k i,S k=true->(a.getD k 0).testBit i=true->S i=true) ->
   ∀ j i,S j=true->((R0 l a).getD j 0).testBit i=true->S i=true:=by
  intro l;induction l with
  | nil=>intro a _ b j i d c;exact b j i d c
  | cons o l ih =>
   intro a p b j i d c;refine ih _ (λk=>?_) (λk i hk hi=>?_) j i d c
   .have:=p (k+1);simp only [cY,KQ,aI,eO,jW] at this ⊢;grind
   .rw [List.getD_eq_getElem?_getD] at hi;by_cases m:k<a.length
    .rw [aS m,<- List.getD_eq_getElem?_getD] at hi;grind
    .by_cases n:k=a.length
     .subst n;rw [bG (bC _),vP] at hi;have q:=p 0;have g:ops[a.length]?=some o:=by simpa using q
      exact M5 S a b o.after.toList 0 (λe he c=>r _ o g hk e he c) (λi h=>by simp at h) i hi
     .rw [bG aD,b9 ie] at hi;simp at hi
 exact λj i d c=>f ops.toList [] (λk=>by simp) (λk i hk hi=>by simp at hi) j i d c
def iJ (p:Nat->Bool):Nat->Option Nat
 | 0=>none
 | n+1=>if p n then some n else iJ p n
theorem lU {p q:Nat->Bool}:∀ (n:Nat),(∀ k,k<n->p k=q k)->iJ p n=iJ q n
 | 0,_=>rfl
 | n+1,h=>by simp only [iJ,h n aD,lU n (λk hk=>h k aD)]
theorem CM {p:Nat->Bool}(m:Nat):∀ (n:Nat),m<=n->(∀ k,m<=k->k<n->p k=false)->iJ p n=iJ p m
 | 0,h,_=>by rw [Nat.le_zero.1 h]
 | n+1,h,hp=>by
  by_cases hm:m=n+1
  .rw [hm]
  .simp only [iJ,hp n aD aD,fP,if_false];exact CM m n aD λk h1 h2=>hp k h1 aD
end Go.Abs
end
section
namespace Go.Abs
def AOut.on (r:AOut)(H:AHeap):AOut:=⟨r.cond,r.X,r.val,H⟩
def mN (H' H1:AHeap)(F:List Nat)(nid:Nat):AHeap:=⟨H'.next,λi=>H'.F i\/(i=nid/\H1.F nid),λi=>if i∈F then H1.get i else H'.get i⟩
section
variable {P:Program} {H H':AHeap} {F:List Nat} {nid:Nat}
theorem jI (c:gU F H' H)(b:¬ H.F nid):mN H' H F nid=H':=by
 obtain ⟨n,d,g⟩:=H';simp only [mN,AHeap.mk.injEq,true_and];refine ⟨?_,?_⟩
 .funext i;exact propext ⟨λh=>h.elim id λh=>absurd h.2 b,.inl⟩
 .funext i;by_cases a:i∈F
  .rw [if_pos a];exact (c i a).symm
  grind
theorem oO (l:gU F H' H)(f:nid<H'.next)(k:nid∈F)(b:Blk):H'.push nid b=mN H' (H.push nid b) F nid:=by
 obtain ⟨n,m,g⟩:=H';have c:nid<n:=f;simp only [AHeap.push,mN,AHeap.mk.injEq,c,if_true,true_and];refine ⟨?_,?_⟩
 .funext i;exact propext ⟨λh=>h.elim (λe=>.inr ⟨e,.inl trivial⟩) .inl,λh=>h.elim .inr λh=>.inl h.1⟩
 .funext i;by_cases j:i∈F
  .rw [if_pos j];by_cases d:i=nid
   .rw [if_pos d,if_pos d]
   .rw [if_neg d,if_neg d];exact l i j
  grind
theorem wC (j:gU F H' H)(e:¬ H.F nid){a:Nat}(f:a∈F)(b:Blk):H'.put a b=mN H' (H.put a b) F nid:=by
 obtain ⟨n,k,g⟩:=H';simp only [AHeap.put,mN,AHeap.mk.injEq,true_and];refine ⟨?_,?_⟩
 .funext i;exact propext ⟨.inl,λh=>h.elim (λh=>h) λh=>absurd h.2 e⟩
 .funext i;by_cases d:i∈F
  .rw [if_pos d];by_cases c:i=a
   .rw [if_pos c,if_pos c]
   .rw [if_neg c,if_neg c];exact j i d
  grind
theorem VT (e:gU F H' H)(c:Nat)(b:Blk):gU F (H'.put c b) (H.put c b):=by
 intro i d;simp only [AHeap.put];by_cases a:i=c
 .rw [if_pos a,if_pos a]
 .rw [if_neg a,if_neg a];exact e i d
theorem Ty (H:AHeap)(a:Nat):(H.frz a).F=H.F/\(H.frz a).next=H.next:=by unfold AHeap.frz;cases H.get a<;>exact ⟨rfl,rfl⟩
theorem zL (a:List Nat):∀ H:AHeap,(gC a H).F=H.F/\(gC a H).next=H.next:=by
 induction a with
 | nil=>intro H;exact ⟨rfl,rfl⟩
 | cons i l ih=>intro H;exact ⟨(ih _).1.trans (Ty H i).1,(ih _).2.trans (Ty H i).2⟩
theorem MZ (H:AHeap)(a i:Nat)(h:i≠a):(H.frz a).get i=H.get i:=by grind [AHeap.frz, AHeap.put]
theorem CW (b:List Nat):∀ (H:AHeap) (i:Nat),i∉b->(gC b H).get i=H.get i:=by
 induction b with
 | nil=>intro H i _;rfl
 | cons a l ih =>
  intro H i c;simp only [gC];rw [ih _ i (λh=>c (by simp [h])),MZ H a i (λe=>c (iw e))]
theorem JZ (b:List Nat)(c:∀ i∈b,i∈F):∀ {H H':AHeap},gU F H' H->gU F (gC b H') (gC b H):=by
 induction b with
 | nil=>intro H H' h;exact h
 | cons a l ih =>
  intro H H' h;refine ih (λi hi=>c i (iw hi)) ?_;have d:=h a (c a aE);unfold AHeap.frz;rw [d];cases H.get a with
  | none=>exact h
  | some k=>exact VT h a _
theorem DP (a:List Nat)(d:∀ i∈a,i∈F)(c:AHeap):mN (gC a H') c F nid=mN H' c F nid:=by
 simp only [mN,AHeap.mk.injEq];refine ⟨(zL a H').2,by rw [(zL a H').1],?_⟩;funext i;by_cases b:i∈F
 .rw [if_pos b,if_pos b]
 .rw [if_neg b,if_neg b,CW a H' i (λh=>b (d i h))]
theorem Uq (d:D):∀ i∈eJ d,i∈eY d:=by
 cases d<;>intro i a<;>first|exact a|(simp [eJ,mM] at a;done)|(simp only [eJ,mM,eY] at a ⊢;exact a)
theorem IE {d:D}(h:gU (mM d) H' H):f5 H' d=f5 H d:=by
 cases d<;>try rfl
 .rename_i a n;simp only [f5,h a (by simp [mM])]
 .rename_i a n b c;simp only [f5,h a (by simp [mM])]
theorem IC {d:D}(h:gU (eJ d) H' H):jN H' d=jN H d:=by
 cases d with
 | agg cs =>
  simp only [jN];congr 1;exact b8 λx a=>IE λi b=>h i (bQ.2 ⟨x,a,b⟩)
 | _ =>
  have c:=h;simp only [jN];exact IE c
theorem LN {x:D}(h:gU (eY x) H' H):gI H' x=gI H x:=by
 cases x<;>try rfl
 rename_i c a i b;simp only [gI,h c (by simp [eY])]
theorem Sb {t:TypeId}{x:D}(h:gU (eY x) H' H):pL P t x H'=(pL P t x H).on H':=by
 unfold pL;rw [LN h];cases gI H x with
 | none=>rfl
 | some cs=>cases tk P t<;>rfl
theorem Cv {x:D}{n:Nat}(h:gU (eY x) H' H):fC x n H'=(fC x n H).on H':=by
 cases x<;>try rfl
 rename_i a b i c;simp only [fC,h a (by simp [eY])];cases H.get a<;>rfl
theorem EI {x:D}{n:Nat}:(fC x n H).heap=H:=by
 unfold fC;split
 .rfl
 .split<;>rfl
 .rfl
theorem Al {t:TypeId}{x:D}{f:Nat}:(jE P t x f H).heap=H:=by
 unfold jE;split
 .split
  .exact EI
  .rfl
 .rfl
theorem Ak {t:TypeId}{x i:D}:(jD P t x i H).heap=H:=by
 unfold jD;split
 .split
  .split<;>rfl
  .split<;>rfl
  .split
   .exact EI
   .rfl
 .rfl
theorem Ht {x:D}(h:gU (eY x) H' H):kJ x H'=(kJ x H).on H':=by
 cases x<;>try rfl
 rename_i a b i c;simp only [kJ,h a (by simp [eY])];cases H.get a<;>rfl
theorem FW {t:TypeId}{x:D}{f:Nat}(h:gU (eY x) H' H):jE P t x f H'=(jE P t x f H).on H':=by
 unfold jE;cases bk P t with
 | none=>rfl
 | some b=>cases b with
  | ar sz=>rfl
  | st l =>
   simp only;cases l[f]? with
   | none=>rfl
   | some q=>simp only [Cv h];rfl
theorem FV {t:TypeId}{x i:D}(h:gU (eY x) H' H):jD P t x i H'=(jD P t x i H).on H':=by
 cases i<;>try rfl
 rename_i k n;unfold jD;cases x<;>simp only<;>first
  | (cases sl P t<;>rfl)
  | (simp only [Cv h];cases YJ P t<;>rfl)
  | skip
 rename_i a m;simp only [h a (by simp [eY])];cases sl P t<;>cases H.get a<;>rfl
theorem O7 {t:TypeId}{x:D}{a b:Option D}(h:gU (eY x) H' H):sC P t x a b H'=(sC P t x a b H).on H':=by
 unfold sC;cases x<;>try rfl
 .simp only;split<;>rfl
 .simp only;split<;>rfl
 .rename_i c n;simp only [h c (by simp [eY])];split<;>rfl
theorem GP {t:TypeId}{x:D}{a b:Option D}:(sC P t x a b H).heap=H:=by
 unfold sC;split
 .split<;>rfl
 .split<;>rfl
 .split<;>rfl
 .rfl
theorem T2 {t:TypeId}{x:D}(h:gU (eY x) H' H):Hu P t x H'=(Hu P t x H).on H':=by
 unfold Hu;cases P.underlying t with
 | none=>rfl
 | some b =>
  cases b<;>try rfl
  .cases x<;>rfl
  .cases x<;>try rfl
   rename_i a n;simp only [h a (by simp [eY])];cases H.get a<;>rfl
theorem LG {x:D}(h:gU (eY x) H' H):pM H' x=pM H x:=by
 cases x<;>try rfl
 .rename_i id n;simp only [pM,h id (by simp [eY])]
 .rename_i id n lo hi;simp only [pM,h id (by simp [eY])]
structure Loc (r r':AOut) (H':AHeap) (F:List Nat) (nid:Nat):Prop where
 cond:r.cond->r'.cond
 X:r'.X=r.X
 val:r'.val=r.val
 heap:r'.heap=mN H' r.heap F nid
theorem Loc.on {r a:AOut}(h:a=r.on H')(c:r.heap=H)(d:gU F H' H)(b:¬ H.F nid):Loc r a H' F nid:=by
 subst h;exact ⟨λh=>h,rfl,rfl,by rw [c,jI d b];rfl⟩
theorem Loc.bad (hF:gU F H' H)(hn:¬ H.F nid):Loc (AOut.bad H) (AOut.bad H') H' F nid:=⟨λh=>h,rfl,rfl,(jI hF hn).symm⟩
theorem EJ {t:TypeId}{x v:D}(d:gU F H' H)(l:∀ i∈eY x,i∈F)(f:¬ H.F nid):Loc (nO P t x v H) (nO P t x v H') H' F nid:=by
 unfold nO;cases x<;>try (exact Loc.bad d f)
 rename_i e g i j;have b:e∈F:=l e (by simp [eY]);simp only;rw [d e b];cases m:H.get e with
 | none=>(simp only [];exact Loc.bad d f)
 | some k =>
  simp only [];cases n:k.P[i]? with
  | none=>(simp only [];exact Loc.bad d f)
  | some c =>
   exact ⟨λh=>h,rfl,rfl,wC d f b _⟩
theorem O8 {t:TypeId}{x:D}(c:gU F H' H)(g:∀ i∈eY x,i∈F)(e:¬ H.F nid):Loc (xF P t x H) (xF P t x H') H' F nid:=by
 unfold xF;cases x<;>try (exact Loc.bad c e)
 rename_i d f j n;have b:d∈F:=g d (by simp [eY]);simp only;rw [c d b];cases l:sl P t with
 | none=>(simp only [];exact Loc.bad c e)
 | some s =>
  cases m:H.get d with
  | none=>(simp only [];exact Loc.bad c e)
  | some k =>
   exact ⟨λh=>h,rfl,rfl,wC c e b _⟩
theorem LV {t f:TypeId}{x y:D}(b:gU F H' H)(l:∀ i∈eY x,i∈F)(m:∀ i∈eY y,i∈F)(e:¬ H.F nid)(j:nid<H'.next)(g:nid∈F) :
  Loc (lZ P nid t f x y H) (lZ P nid t f x y H') H' F nid:=by
 unfold lZ;rw [LG (H:=H) (H':=H') λi hi=>b i (m i hi)];cases q:sl P t with
 | none=>(simp only [];exact Loc.bad b e)
 | some s =>
  cases r:pM H y with
  | none =>
   unfold rG;cases y<;>try (exact Loc.bad b e)
   cases x<;>try (exact Loc.bad b e)
   rename_i d n;cases o:Tq P f with
   | none=>(simp only [];exact Loc.bad b e)
   | some kn =>
    simp only [];have c:d∈F:=l d (by simp [eY]);rw [b d c];cases p:H.get d with
    | none=>(simp only [];exact Loc.bad b e)
    | some k =>
     exact ⟨λh=>h,rfl,rfl,wC b e c _⟩
  | some ys =>
   simp only [];cases x<;>try (exact Loc.bad b e)
   .exact ⟨λh=>h,rfl,rfl,oO b j g _⟩
   .rename_i d n;have c:d∈F:=l d (by simp [eY]);simp only;rw [b d c];cases p:H.get d with
    | none=>(simp only [];exact Loc.bad b e)
    | some k =>
     simp only [];exact ⟨λh=>h,rfl,rfl,wC b e c _⟩
theorem FS {md:Nat->Bool}{e:Nat->D}{o:Oper}(g:gU (foot nid e o.op) H' H)(j:¬ H.F nid)(C:nid<H'.next) :
  Loc (Hr P nid md e o H) (Hr P nid md e o H') H' (foot nid e o.op) nid:=by
 obtain ⟨E,F,G,a0,X,W⟩:=o;have w:sV F=true->∀ x∈F.operands,∀ i∈eY (fS e x),i∈foot nid e F:=λhh x K i q=>by
  simp only [foot,hh,if_true,aZ,bQ];exact .inr ⟨x,by simpa using K,q⟩
 have L:Js F=true->nid∈foot nid e F:=λh=>by simp [foot,h]
 simp only at g;have I:sV F=true->∀ x∈F.operands,gU (eY (fS e x)) H' H:=λhh x K i q=>g i (w hh x K i q);unfold Hr;simp only;have r:∀ x:Operand,Js F=j5 x ->
   Loc (if j5 x then FU P nid (Fk md E) G H else ⟨True,True,fS e x,H⟩) (if j5 x then FU P nid (Fk md E) G H' else ⟨True,True,fS e x,H'⟩) H' (foot nid e F) nid:=by
  intro x Q;by_cases K:j5 x=true
  .rw [if_pos K];rw [if_pos K];unfold FU;generalize Fk md E=m;cases m with
   | false=>exact ⟨λh=>h,rfl,rfl,(jI g j).symm⟩
   | true =>
    simp only [if_true];cases hs:sl P G with
    | none=>(simp only [];exact Loc.bad g j)
    | some s=>exact ⟨λh=>h,rfl,rfl,oO g C (L (Q.trans K)) _⟩
  .rw [if_neg K];rw [if_neg K];exact ⟨λh=>h,rfl,rfl,(jI g j).symm⟩
 cases F<;>try (exact Loc.bad g j)
 case move x=>exact r x rfl
 case assign x=>exact r x rfl
 case pick c a b =>
  refine Loc.on ?_ ?_ g j
  .simp only [Bp];split<;>first|rfl|(simp only [xE];split<;>rfl)
  .simp only [Bp];split<;>first|rfl|(simp only [xE];split<;>rfl)
 case alloc t =>
  simp only [zU];cases hz:zd P t with
  | none=>(simp only [];exact Loc.bad g j)
  | some z =>
   simp only [];generalize Fk md E=m;cases m with
   | false=>exact ⟨λh=>h,rfl,rfl,(jI g j).symm⟩
   | true=>exact ⟨λh=>h,rfl,rfl,oO g C (L rfl) _⟩
 case box t x =>
  simp only [O9];generalize Fk md E=m;cases m with
  | false=>exact ⟨λh=>h,rfl,rfl,(jI g j).symm⟩
  | true=>exact ⟨λh=>h,rfl,rfl,oO g C (L rfl) _⟩
 case build t ps =>
  refine Loc.on ?_ ?_ g j
  .simp only [vI];split
   .split<;>rfl
   .rfl
  .simp only [vI];split
   .split<;>rfl
   .rfl
 case buildSlice t m ps =>
  have k:∀ i∈(ps.toList.flatMap λp=>OW md (fS e p.2)),i∈foot nid e (.buildSlice t m ps):=λi q=>by
   obtain ⟨p,U,q⟩:=bQ.1 q;refine w rfl p.2 ?_ i (Uq _ i (ZZ q));simp only [Op.operands];simpa using ⟨p.1,by simpa using U⟩
  have R:(ps.toList.map λp=>(p.1,U6 md H' (fS e p.2)))=ps.toList.map λp=>(p.1,U6 md H (fS e p.2)):=b8 λp U=>by
   congr 1;unfold U6;split
   .rfl
   .rename_i hb;exact IC λi q=>g i (k i (bQ.2 ⟨p,U,by unfold OW;rw [if_neg hb];exact q⟩))
  simp only;rw [R];have V:=JZ _ k g;have O:∀ H1:AHeap,mN (gC (ps.toList.flatMap λp=>OW md (fS e p.2)) H') H1 (foot nid e (.buildSlice t m ps)) nid=mN H' H1 (foot nid e (.buildSlice t m ps)) nid:=λH1=>DP _ k H1;have N:Loc (AOut.bad (gC (ps.toList.flatMap λp=>OW md (fS e p.2)) H)) (AOut.bad (gC (ps.toList.flatMap λp=>OW md (fS e p.2)) H')) H' (foot nid e (.buildSlice t m ps)) nid :=
   ⟨λh=>h,rfl,rfl,by
    show gC _ H'=mN H' (gC _ H) _ nid;rw [<- O,jI V (by rw [(zL _ H).1];exact j)]⟩
  simp only [jP];cases hs:sl P t with
  | none=>(simp only [];exact N)
  | some s =>
   simp only [];cases a1:Ct (λi=>some (i * s.Y,s.Y)) (List.replicate m s.z).flatten (ps.toList.map λp=>(p.1,U6 md H (fS e p.2))) with
   | none=>(simp only [];exact N)
   | some cs =>
    simp only [];generalize Fk md E=m';cases m' with
    | false =>
     refine ⟨λh=>h,rfl,rfl,?_⟩;simp only [fP,if_false];rw [<- O,jI V (by rw [(zL _ H).1];exact j)]
    | true =>
     refine ⟨λh=>h,rfl,rfl,?_⟩;simp only [if_true];rw [<- O];exact oO V (by rw [(zL _ H').2];exact C) (L rfl) _
 case load t a=>exact Loc.on (Sb (I rfl a (by simp [Op.operands]))) (by simp only [pL];split<;>(try split)<;>rfl) g j
 case store t a v =>
  have Y:=w rfl a (by simp [Op.operands]);have hv:=w rfl v (by simp [Op.operands]);simp only;by_cases Q:md 1000000=true
  .rw [if_pos Q];rw [if_pos Q];have k:∀ i∈eJ (fS e v),i∈foot nid e (.store t a v):=λi q=>hv i (Uq _ i q);rw [IC (H:=H) (H':=H') λi q=>g i (k i q)];have S:=EJ (P:=P) (t:=t) (v:=jN H (fS e v)) (nid:=nid) (JZ _ k g) Y (by rw [(zL _ H).1];exact j);exact ⟨S.cond,S.X,S.val,by rw [S.heap,DP _ k]⟩
  .rw [if_neg Q];rw [if_neg Q];exact EJ g Y j
 case nilCheck x=>exact Loc.on (Ht (I rfl x (by simp [Op.operands]))) (by simp only [kJ];split<;>(try split)<;>rfl) g j
 case binOp F t x y t' =>
  refine Loc.on ?_ ?_ g j
  .simp only [t6];split<;>first|rfl|(simp only [KJ];split<;>first|rfl|(split<;>rfl)|(simp only [LU];split<;>rfl))
  .simp only [t6];split<;>first|rfl|(simp only [KJ];split<;>first|rfl|(split<;>rfl)|(simp only [LU];split<;>rfl))
 case unOp F t x =>
  refine Loc.on ?_ ?_ g j
  .simp only [YO];split<;>rfl
  .simp only [YO];split<;>rfl
 case convert s d x =>
  refine Loc.on ?_ ?_ g j
  .simp only [oJ];split<;>(try split)<;>rfl
  .simp only [oJ];split<;>(try split)<;>rfl
 case makeFunc fn first caps =>
  cases fn<;>try (exact Loc.bad g j)
  simp only;by_cases T:first.isEmpty=true
  .rw [if_pos T];rw [if_pos T];exact ⟨λh=>h,rfl,rfl,(jI g j).symm⟩
  .rw [if_neg T];rw [if_neg T];exact Loc.bad g j
 case makeSlice t l c =>
  simp only [EM];split
  .exact ⟨λh=>h,rfl,rfl,oO g C (L rfl) _⟩
  .exact Loc.bad g j
 case slice t x lo q mx =>
  cases mx<;>try (exact Loc.bad g j)
  exact Loc.on (O7 (I rfl x (by simp [Op.operands]))) GP g j
 case fieldAddr t x f=>exact Loc.on (FW (I rfl x (by simp [Op.operands]))) Al g j
 case indexAddr t x i=>exact Loc.on (FV (I rfl x (by simp [Op.operands]))) Ak g j
 case index t x i =>
  refine Loc.on ?_ ?_ g j
  .simp only [vH];split<;>(try split)<;>(try split)<;>rfl
  .simp only [vH];split<;>(try split)<;>(try split)<;>rfl
 case extract t i =>
  refine Loc.on ?_ ?_ g j
  .simp only [oI];split<;>rfl
  .simp only [oI];split<;>rfl
 case call c =>
  obtain ⟨callee,args,Z⟩:=c;cases callee<;>try (exact Loc.bad g j)
  rename_i b;simp only;have n:∀ d∈args.toList.map (fS e),∀ i∈eY d,i∈foot nid e (.call { callee:=.builtin b,args:=args,argTypes:=Z }):=by
   intro d hd i q;obtain ⟨x,K,rfl⟩:=aT.1 hd;exact w rfl x (by simp only [Op.operands,Call.operands];simpa using K) i q
  generalize args.toList.map (fS e)=az at n ⊢;unfold yV;split
  .exact Loc.on (T2 λi q=>g i (n _ (bD.2 rfl) i q)) (by
    simp only [Hu];split
    .split<;>(try split)<;>rfl
    .split<;>rfl
    .rfl
    .rfl) g j
  .exact LV g (n _ (gG ..)) (n _ (dX _ (bD.2 rfl))) j C (by simp [foot,Js])
  .exact O8 g (n _ (bD.2 rfl)) j
  .refine Loc.on ?_ ?_ g j
   .simp only [EL];split<;>rfl
   .simp only [EL];split<;>rfl
  .refine Loc.on ?_ ?_ g j
   .simp only [EL];split<;>rfl
   .simp only [EL];split<;>rfl
  .exact Loc.bad g j
theorem YP {md:Nat->Bool}{e:Nat->D}{o:Oper}(h:yW o.op=false):(Hr P nid md e o H).heap=H:=by
 obtain ⟨u,k,n,p,m,l⟩:=o;simp only at h;unfold Hr;cases k<;>first|(simp [yW] at h;done)|skip
 case move x =>
  simp only [yW] at h;simp [h]
 case assign x =>
  simp only [yW] at h;simp [h]
 case pick c a b=>simp only [Bp];split<;>first|rfl|(simp only [xE];split<;>rfl)
 case build t ps =>
  simp only [vI];split
  .split<;>rfl
  .rfl
 case load t a=>simp only [pL];split<;>(try split)<;>rfl
 case nilCheck x=>simp only [kJ];split<;>(try split)<;>rfl
 case binOp k t x y t'=>simp only [t6];split<;>first|rfl|(simp only [KJ];split<;>first|rfl|(split<;>rfl)|(simp only [LU];split<;>rfl))
 case unOp k t x=>simp only [YO];split<;>rfl
 case convert s d x=>simp only [oJ];split<;>(try split)<;>rfl
 case makeFunc r first caps =>
  cases r<;>try rfl
  simp only;split<;>rfl
 case slice t x lo hi q =>
  cases q<;>try rfl
  exact GP
 case fieldAddr t x f=>exact Al
 case indexAddr t x i=>exact Ak
 case index t x i=>simp only [vH];split<;>(try split)<;>(try split)<;>rfl
 case extract t i=>simp only [oI];split<;>rfl
 case call c =>
  obtain ⟨g,j,v⟩:=c;cases g<;>try rfl
  rename_i b;simp only;generalize j.toList.map (fS e)=az;unfold yV;split
  .simp only [Hu];split
   .split<;>(try split)<;>rfl
   .split<;>rfl
   .rfl
   .rfl
  .simp [yW] at h
  .simp [yW] at h
  .simp only [EL];split<;>rfl
  .simp only [EL];split<;>rfl
  .rfl
 all_goals rfl
end
end Go.Abs
end
section
namespace Go.Abs
theorem JA {ops:Array Oper}{o:Oper}{t:Tmp}(h:Operand.tmp t∈o.op.operands):t∈o.looksAt ops:=by
 simp only [Oper.looksAt,aZ,List.mem_filterMap];exact .inl ⟨.tmp t,by simpa using h,rfl⟩
theorem Q3 {ops:Array Oper}{o:Oper}{j:Nat}{b:Bool}{t:Tmp}(a:o.guard=some (j,b))(h:(ops[j]?).bind (·.dst)=some t):t∈o.looksAt ops:=by
 simp only [Oper.looksAt,aZ,a];grind
section
variable {P:Program} {md:Nat→Bool} {ops:Array Oper} {nid:Nat}
def xX (H' H1:AHeap)(F N:List Nat):AHeap:=⟨H'.next,λi=>H'.F i\/(i∈N/\H1.F i),λi=>if i∈F then H1.get i else H'.get i⟩
theorem QJ (H' b:AHeap)(F:List Nat)(nid:Nat):mN H' b F nid=xX H' b F [nid]:=by
 simp only [mN,xX,AHeap.mk.injEq,true_and,and_true];grind
theorem My {H H':AHeap}{F N:List Nat}(c:gU F H' H)(b:∀ i∈N,¬ H.F i):xX H' H F N=H':=by
 obtain ⟨n,d,g⟩:=H';simp only [xX,AHeap.mk.injEq,true_and];refine ⟨?_,?_⟩
 .funext i;exact propext ⟨λh=>h.elim id λh=>absurd h.2 (b i h.1),.inl⟩
 .funext i;by_cases a:i∈F
  .rw [if_pos a];exact (c i a).symm
  grind
theorem rT:∀ (q:List (Nat × Blk)) (H:AHeap),(∀ p∈q,p.1<H.next)->(H.ac q).next=H.next
 | [],H,_=>rfl
 | p :: l,H,h=>by
  have h1:(H.push p.1 p.2).next=H.next:=by simp only [AHeap.push,if_pos (h p aE)]
  simp only [AHeap.ac];rw [rT l _ (λx hx=>by rw [h1];exact h x (iw hx)),h1]
theorem uW:∀ (q:List (Nat × Blk)) (H:AHeap) (i:Nat),(H.ac q).F i↔H.F i\/i∈q.map (·.1)
 | [],H,i=>by simp [AHeap.ac]
 | p :: l,H,i=>by
  simp only [AHeap.ac];rw [uW l];simp only [AHeap.push,i5,aW];constructor
  .rintro ((h|h)|h)
   .exact .inr (.inl h)
   .exact .inl h
   .exact .inr (.inr h)
  .rintro (h|h|h)
   .exact .inl (.inr h)
   .exact .inl (.inl h)
   .exact .inr h
theorem Mt:∀ (q:List (Nat × Blk)) (H H':AHeap) (i:Nat),(i∈q.map (·.1)\/H.get i=H'.get i)->(H.ac q).get i=(H'.ac q).get i
 | [],H,H',i,h=>by
  rcases h with h|h
  .simp at h
  .exact h
 | p :: l,H,H',i,h=>by
  simp only [AHeap.ac];refine Mt l _ _ i ?_;by_cases hl:i∈l.map (·.1)
  .exact .inl hl
  .right
   simp only [AHeap.push];by_cases hp:i=p.1
   .simp [hp]
   .simp only [hp,if_false];rcases h with h|h
    .simp only [i5,aW] at h;rcases h with h|h
     .exact absurd h hp
     .exact absurd h hl
    .exact h
theorem pW:∀ (q:List (Nat × Blk)) (H:AHeap) (i:Nat),i∉q.map (·.1)->(H.ac q).get i=H.get i
 | [],H,i,_=>rfl
 | p :: l,H,i,h=>by
  simp only [i5,aW,not_or] at h;simp only [AHeap.ac];rw [pW l _ i h.2];simp [AHeap.push,h.1]
theorem xT:∀ (u:List (Nat × Blk)) (H:AHeap),(H.ai u).next=H.next
 | [],_=>rfl
 | p :: l,H=>xT l (H.put p.1 p.2)
theorem Om:∀ (u:List (Nat × Blk)) (H:AHeap) (i:Nat),(H.ai u).F i↔H.F i
 | [],_,_=>Iff.rfl
 | p :: l,H,i=>Om l (H.put p.1 p.2) i
theorem QE:∀ (u:List (Nat × Blk)) (H H':AHeap) (i:Nat),H.get i=H'.get i->(H.ai u).get i=(H'.ai u).get i
 | [],_,_,_,h=>h
 | p :: l,H,H',i,h=>QE l _ _ i (by simp only [AHeap.put];split<;>first|rfl|exact h)
theorem zC:∀ (u:List (Nat × Blk)) (H:AHeap) (i:Nat),(∀ p∈u,p.1≠i)->(H.ai u).get i=H.get i
 | [],H,i,_=>rfl
 | p :: l,H,i,h=>by
  simp only [AHeap.ai];rw [zC l _ i λx hx=>h x (iw hx)];have:=(h p aE).symm;simp [AHeap.put,this]
theorem Jc {H H':AHeap}{S:List Nat}{u q:List (Nat × Blk)}(m:∀ p∈u,p.1∈S)(j:gU (S++q.map (·.1)) H' H)(b:∀ p∈q,p.1<H'.next):(H'.ai u).ac q=xX H' ((H.ai u).ac q) (S++q.map (·.1)) (q.map (·.1)):=by
 have d:=rT q (H'.ai u) (by rw [xT];exact b);have c:=uW q (H'.ai u);have f:=Mt q (H'.ai u) (H.ai u);have e:=pW q (H'.ai u);have k:=uW q (H.ai u);rw [xT] at d;simp only [Om] at c k;generalize (H'.ai u).ac q=X at d c f e;obtain ⟨n,l,g⟩:=X;simp only [xX,AHeap.mk.injEq];refine ⟨d,funext λi=>propext ?_,funext λi=>?_⟩
 .rw [show l i↔_ from c i];grind
 .by_cases a:i∈S++q.map (·.1)
  .rw [if_pos a];exact f i (.inr (QE u _ _ i (j i a)))
  .rw [if_neg a];refine (e i λh=>a (by simp only [aZ];exact .inr h)).trans (zC u _ i λp hp he=>a ?_);grind
structure Txt (P:Program) (md:Nat->Bool) (ops:Array Oper) (m nid:Nat) (o:Oper) (e:Nat->D) (H:AHeap) (v:D) (H1:AHeap) (F N:List Nat):Prop where
 ek:H1=xX H H1 F N
 new:∀ id∈N,¬ H.F id/\(id=nid\/(id<m/\H1.F id))
 gf:oM md o=false->H1=H
 hz:sV o.op=false->F=[]
 any:∀ e' H',(∀ t∈o.looksAt ops,e' t=e t)->gU F H' H->nid<H'.next->¬ H'.F nid->(∀ id∈N,id<H'.next/\¬ H'.F id) ->
  rF P md (some m) nid ops e' o H' λv' H2 _=>v'=v/\H2=xX H' H1 F N
theorem QX {o:Op}(h:sV o=false):Js o=false:=by
 cases o<;>first|rfl|(simp [sV] at h;done)|(simp only [sV] at h;simp only [Js];exact h)
theorem Rr {e:Nat->D}{o:Op}(h:sV o=false):foot nid e o=[]:=by simp [foot,h,QX h]
theorem Ek {e a:Nat->D}{o:Oper}(h:∀ t∈o.looksAt ops,a t=e t):∀ x∈o.op.operands,fS a x=fS e x:=by
 intro x b;cases x with
 | tmp t=>exact h t (JA b)
 | _=>rfl
theorem CB {e b:Nat->D}{o:Oper}(h:∀ t∈o.looksAt ops,b t=e t):∀ x∈o.op.operands,fS (gE b o.op) x=fS (gE e o.op) x:=by
 intro x d;cases x with
 | tmp t =>
  have a:=h t (JA d);simp only [fS];cases o.op<;>simp only [gE,F5,a]
  rename_i c _ _;cases c<;>simp only [a]
 | _=>rfl
theorem Mz {e e':Nat->D}:∀ (l:List Operand),(∀ x∈l,og e' x=og e x)->WX e' l=WX e l
 | [],_=>rfl
 | x :: l,h=>by simp only [WX,h x aE,Mz l λy hy=>h y (iw hy)]
theorem Loc.ek {r:AOut}{H:AHeap}{F:List Nat}(h:Loc r r H F nid):r.heap=mN H r.heap F nid:=h.heap
theorem WT {m:Nat}{e:Nat->D}{o:Oper}{H:AHeap}{K:D->AHeap->List Nat->Prop}(h:rF P md (some m) nid ops e o H K)(T:¬ H.F nid)(a0:nid<H.next)(Z:m<=H.next) :
  ∃ v H1 F N,Txt P md ops m nid o e H v H1 F N/\K v H1 F:=by
 unfold rF at h;have s:∀ F:List Nat,H=xX H H F [nid]:=λF=>(My (λ_ _=>rfl) (bY T)).symm;have a:∀ id∈[nid],¬ H.F id/\∀ H1:AHeap,(id=nid\/(id<m/\H1.F id)):=λid hid=>by
  grind
 have z:∀ {H':AHeap},gU [] H' H->∀ {F:List Nat},gU F H' H->xX H' H F [nid]=H':=λ_ _ n=>My n (bY T);cases L:o.guard with
 | none =>
  simp only [L] at h;cases l:iR e o with
  | some fa =>
   obtain ⟨f,X⟩:=fa;simp only [l] at h;have hh:sV o.op=true/\HC md o=Fk md o.dst:=by
    unfold iR at l;split at l
    .rename_i O;unfold HC;rw [O];exact ⟨rfl,rfl⟩
    .cases l
   rcases h with ⟨r,S,B,G⟩|⟨W,r,S,u,q,Y,hq,B,G⟩
   .refine ⟨r,H,S,[nid],⟨s S,λid hid=>⟨(a id hid).1,(a id hid).2 _⟩,λ_=>rfl,λh=>(by rw [hh.1] at h;cases h),λe' H' k n d E U=>?_⟩,G⟩;unfold rF;simp only [L];rw [rC (Ek k),l];exact .inl ⟨r,S,λH'' hF'=>B H'' λi hi=>(hF' i hi).trans (n i hi),rfl,(z (λ_ h=>by cases h) n).symm⟩
   .have a1:=uW q (H.ai u);refine ⟨r,(H.ai u).ac q,S++q.map (·.1),q.map (·.1),⟨Jc Y (λ_ _=>rfl) (λp C=>dE (hq p C).1 Z),λid hid=>?_,λhw=>?_,λh=>(by rw [hh.1] at h;cases h),λe' H' k n d E U=>?_⟩,G⟩
    .obtain ⟨p,C,rfl⟩:=aT.1 hid;exact ⟨(hq p C).2,.inr ⟨(hq p C).1,(a1 _).2 (.inr hid)⟩⟩
    .unfold oM at hw;rw [hh.2,W] at hw;simp at hw
    .unfold rF;simp only [L];rw [rC (Ek k),l];refine .inr ⟨W,r,S,u,q,Y,λp C=>⟨(hq p C).1,(U p.1 (aT.2 ⟨p,C,rfl⟩)).2⟩,λH'' hF' hn''=>B H'' (λi hi=>(hF' i hi).trans (n i (iw hi))) hn'',rfl,?_⟩;exact Jc Y n λp C=>(U p.1 (aT.2 ⟨p,C,rfl⟩)).1
  | none =>
   simp only [l] at h;obtain ⟨B,G⟩:=h;have hl:=FS (P:=P) (md:=md) (e:=e) (o:=o) (H:=H) (H':=H) (nid:=nid) (λ_ _=>rfl) T a0;refine ⟨_,_,_,[nid],⟨(QJ _ _ _ _) ▸ hl.heap,λid hid=>⟨(a id hid).1,(a id hid).2 _⟩,λhw=>YP (by unfold oM at hw;simp at hw;exact hw.1),λhh=>Rr hh,λe' H' k n d E U=>?_⟩,G (λh=>by cases h)⟩;unfold rF;simp only [L];rw [rC (Ek k),l];simp only;rw [FT (Ek k)];have w:=FS (P:=P) (md:=md) (e:=e) (o:=o) (H:=H) (H':=H') (nid:=nid) n T d;exact ⟨w.cond B,λ_=>⟨w.val,(QJ _ _ _ _) ▸ w.heap⟩⟩
 | some jb =>
  obtain ⟨j,b⟩:=jb;simp only [L] at h;cases R:gD ops e j with
  | none=>simp [R] at h
  | some gc =>
   obtain ⟨g,c⟩:=gc;simp only [R] at h;obtain ⟨V,h⟩:=h;have J:∀ e',(∀ t∈o.looksAt ops,e' t=e t)->gD ops e' j=some (g,c):=by
    intro e' k;rw [<- R];unfold gD;cases ht:(ops[j]?).bind (·.dst) with
    | none=>rfl
    | some t=>simp only [k t (Q3 L ht)]
   have I:∀ e',(∀ t∈o.looksAt ops,e' t=e t)->WX e' (gO o.op)=WX e (gO o.op):=by
    intro e' k;refine Mz _ λx hx=>?_;cases x with
    | tmp t=>simp only [og,k t (JA (acL hx))]
    | _=>rfl
   cases l:iR (gE e o.op) o with
   | some fa =>
    obtain ⟨f,X⟩:=fa;simp only [l] at h;obtain ⟨r,S,B,G⟩:=h;have hh:sV o.op=true:=by
     unfold iR at l;split at l
     .rename_i O;rw [O];rfl
     .cases l
    refine ⟨_,H,S,[nid],⟨s S,λid hid=>⟨(a id hid).1,(a id hid).2 _⟩,λ_=>rfl,λh=>(by rw [hh] at h;cases h),λe' H' k n d E U=>?_⟩,G⟩;unfold rF;simp only [L,J e' k,I e' k];rw [rC (CB k),l];exact ⟨V,r,S,λhq H'' hF'=>B hq H'' λi hi=>(hF' i hi).trans (n i hi),rfl,(z (λ_ h=>by cases h) n).symm⟩
   | none =>
    simp only [l] at h;obtain ⟨B,G⟩:=h;refine ⟨_,H,_,[nid],⟨s _,λid hid=>⟨(a id hid).1,(a id hid).2 _⟩,λhw=>rfl,λhh=>Rr hh,λe' H' k n d E U=>?_⟩,G (λh=>by cases h)⟩;unfold rF;simp only [L,J e' k,I e' k];rw [rC (CB k),l];simp only;rw [FT (CB k)];have w:=FS (P:=P) (md:=md) (e:=gE e o.op) (o:=o) (H:=H) (H':=H') (nid:=nid) n T d;refine ⟨V,λhq=>⟨w.cond (B hq).1,?_⟩,λ_=>⟨by rw [w.val],(z (λ_ h=>by cases h) n).symm⟩⟩;rw [w.heap,(B hq).2,jI n T]
end
structure Run (P:Program) (md:Nat->Bool) (ops:Array Oper) (sp:List (Nat × Nat)) (n0:Nat) (es:Nat->Nat->D) (Hs:Nat->AHeap) (vs:Nat->D) (Fs Ns:Nat->List Nat) (i0:Nat) (l:List Oper):Prop where
 step:∀ (j:Nat) (o:Oper),l[j]?=some o->es (i0+j+1)=oV (es (i0+j)) o.dst (vs (i0+j))/\Txt P md ops n0 (n0+(i0+j)) o (es (i0+j)) (Hs (i0+j)) (vs (i0+j)) (Hs (i0+j+1)) (Fs (i0+j)) (Ns (i0+j))
 apart:∀ (k j:Nat),k<j->j<l.length->(i0+k,i0+j)∈sp->∀ x∈Fs (i0+k),x∉Fs (i0+j)
theorem Nz {P:Program}{md:Nat->Bool}{ops:Array Oper}{sp:List (Nat × Nat)}{n0 nn:Nat}:∀ (l:List Oper) (i:Nat) (acc:List (Nat × List Nat)) (e:Nat->D) (H:AHeap) (K:(Nat->D)->AHeap->Prop),
  lG P md ops sp n0 i l acc e H K->(∀ id,H.F id->id<n0+i)->H.next=nn->n0+i+l.length<=nn ->
  ∃ (es:Nat->Nat->D) (Hs:Nat->AHeap) (vs:Nat->D) (Fs Ns:Nat->List Nat),es i=e/\Hs i=H/\K (es (i+l.length)) (Hs (i+l.length))/\Run P md ops sp n0 es Hs vs Fs Ns i l /\
   (∀ (j:Nat),j<l.length->∀ p∈acc,(p.1,i+j)∈sp->∀ x∈p.2,x∉Fs (i+j))
 | [],i,acc,e,H,K,h,hal,hnn,hle=>by
  refine ⟨λ_=>e,λ_=>H,λ_=>.junk,λ_=>[],λ_=>[],rfl,rfl,h,⟨λj o h=>by simp at h,λk j _ h=>by simp at h⟩,λj h=>by simp at h⟩
 | o :: l,i,acc,e,H,K,h,hal,hnn,hle=>by
  unfold lG at h;simp only [eO] at hle;have hn:¬ H.F (n0+i):=λh=>by have:=hal _ h;omega
  have hlt:n0+i<H.next:=aD;obtain ⟨v,H1,F,N,hT,hchk,hrest⟩:=WT h hn hlt aD;have hal1:∀ id,H1.F id->id<n0+(i+1):=λid hid=>by
   rw [hT.ek] at hid;rcases hid with hid|⟨hid,_⟩
   .have:=hal id hid;omega
   .rcases (hT.new id hid).2 with h|⟨h,_⟩<;>omega
  have hnn1:H1.next=nn:=by rw [hT.ek];exact hnn
  obtain ⟨es,Hs,vs,Fs,Ns,he,hH,hK,hrun,hacc⟩:=Nz l (i+1) _ _ _ _ hrest hal1 hnn1 aD;refine ⟨λk=>if k=i then e else es k,λk=>if k=i then H else Hs k,λk=>if k=i then v else vs k,λk=>if k=i then F else Fs k,λk=>if k=i then N else Ns k,by simp,by simp,?_,⟨λj o' ho'=>?_,λk j hkj hj hsp=>?_⟩,λj hj p hp hsp=>?_⟩
  .have:i+(o :: l).length≠i:=aE;simp only [this,if_false];rw [show i+(o :: l).length=i+1+l.length by simp;omega];exact hK
  .cases j with
   | zero =>
    simp only [mV,bI] at ho';subst ho';have:i+0+1≠i:=aD;simp only [this,if_false,vQ,if_true];rw [show i+1=i+1 from rfl,he,hH];exact ⟨rfl,hT⟩
   | succ j =>
    have h1:i+(j+1)≠i:=aD;have h2:i+(j+1)+1≠i:=aD;simp only [h1,h2,if_false];have:=hrun.step j o' (bY ho');rw [(aD:i+1+j=i+(j+1))] at this;exact this
  .have hj0:i+j≠i:=aD;simp only [hj0,if_false];cases j with
   | zero=>omega
   | succ j =>
    simp only [eO] at hj;by_cases hk:k=0
    .subst hk;simp only [vQ,if_true] at hsp ⊢;have:=hacc j aD (i,F) aE;rw [(aD:i+1+j=i+(j+1))] at this;exact this hsp
    .have hk0:i+k≠i:=aD;simp only [hk0,if_false];have:=hrun.apart (k - 1) j aD aD;rw [(aD:i+1+(k - 1)=i+k),(aD:i+1+j=i+(j+1))] at this;exact this hsp
  .cases j with
   | zero =>
    simp only [vQ,if_true] at hsp ⊢;unfold chk at hchk;cases sp with
    | nil=>simp at hsp
    | cons a sp=>exact hchk p hp hsp
   | succ j =>
    have h1:i+(j+1)≠i:=aD;simp only [h1,if_false];simp only [eO] at hj;have:=hacc j aD p (iw hp);rw [(aD:i+1+j=i+(j+1))] at this;exact this hsp
end Go.Abs
end
