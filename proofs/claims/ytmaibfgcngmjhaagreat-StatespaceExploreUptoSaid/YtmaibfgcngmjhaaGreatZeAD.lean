/- The abstraction layer, part L: calls, and one operation of a -/
import Derived.Test.YtmaibfgcngmjhaaGreatZeAC
set_option linter.unusedVariables false
set_option linter.unusedSimpArgs false
section
namespace Go.Abs
def XZ (P:Program)(f:FuncId):Prop:=∃ fn,P.funcs[f]?=some fn/\(fn.name=="runtime.NumGoroutine")=false/\fn.body.isSome=true
def ACalls (P:Program)(f:FuncId)(args:Xa2)(H:AHeap)(Q:D->AHeap->Prop):Prop :=
 XZ P f/\∀ (M0:Nat->Prop) (σ:Nat->Option Ow) (w:World) (vals:List Value),Rel M0 H σ w->RepL (dK M0 H σ) σ H.J w vals args ->
  Calls P f vals.toArray w λe w'=>∃ v d H' σ',e=.returned v/\Rel M0 H' σ' w'/\RepV (dK M0 H' σ') σ' H'.J w' v d/\Stp σ w σ' w' /\
   Keeps (dK M0 H σ) σ H.J w (dK M0 H' σ') σ' H'.J w'/\Q d H'
theorem ACalls.mono {P:Program}{f:FuncId}{args:Xa2}{H:AHeap}{Q Q':D->AHeap->Prop}(h:ACalls P f args H Q)(hq:∀ d H',Q d H'->Q' d H'):ACalls P f args H Q' :=
 ⟨h.1,λM0 σ w vals hR ha=>(h.2 M0 σ w vals hR ha).mono λ_ _ ⟨v,d,H',σ',a,b,c,s,k,q⟩=>⟨v,d,H',σ',a,b,c,s,k,hq _ _ q⟩⟩
def nB (e:Nat->D)(dst:Option Tmp)(v:D):Nat->D :=
 match dst with
 | some d=>λt=>if t=d then v else e t
 | none=>e
structure St (n:Nat) (M0:Nat->Prop) (H:AHeap) (σ:Nat->Option Ow) (w:World) (e:Nat->D) (a:Act):Prop where
 a7:Rel M0 H σ w
 bz:∀ t,RepV (dK M0 H σ) σ H.J w (a.tmps.getD t undef) (e t)
 defers:a.defers=[]
 size:a.tmps.size=n
section
variable {P:Program} {M0:Nat→Prop} {H:AHeap} {σ:Nat→Option Ow} {w:World} {n:Nat} {e:Nat→D} {a:Act}
theorem St.bd (h:St n M0 H σ w e a):EnvR (dK M0 H σ) σ H.J w a.eval e:=⟨h.bz,λ_=>rfl,λ_=>rfl⟩
def sZ (n:Nat):Option Tmp->Bool
 | some d=>decide (d<n)
 | none=>true
theorem St.put {H':AHeap}{σ':Nat->Option Ow}{w':World}(h:St n M0 H σ w e a)(i:Rel M0 H' σ' w')(g:Keeps (dK M0 H σ) σ H.J w (dK M0 H' σ') σ' H'.J w')
  {b:Option Tmp} (l:sZ n b=true) {v:Value} {d:D} (j:RepV (dK M0 H' σ') σ' H'.J w' v d):St n M0 H' σ' w' (nB e b d) (a.put b v):=by
 cases b with
 | none=>exact ⟨i,λt=>(h.bz t).G g,h.defers,h.size⟩
 | some q =>
  have k:q<a.tmps.size:=by rw [h.size];simpa [sZ] using l
  refine ⟨i,λt=>?_,h.defers,by simpa [Act.put] using h.size⟩;by_cases f:t=q
  .subst f;simpa [nB,Act.put,k] using j
  .have c:¬ q=t:=λe=>f e.symm;have:=(h.bz t).G g;simpa [nB,Act.put,f,c,Array.getElem?_setIfInBounds] using this
theorem FU {nid:Nat}{md:Nat->Bool}{e g:Nat->D}{o:Oper}(h:∀ x∈o.op.operands,fI e x=fI g x):Hh P nid md e o H=Hh P nid md g o H:=by
 obtain ⟨K,q,w,B,u,r⟩:=o;have A:∀ (l:List (Nat × Operand)),(∀ p∈l,fI e p.2=fI g p.2)->(l.map λp=>(p.1,fI e p.2))=l.map λp=>(p.1,fI g p.2):=λl m =>
  bY λp hp=>by rw [m p hp]
 unfold Hh;cases q<;>simp only [Op.operands] at h ⊢<;>first|rfl|skip
 case move x=>rw [h x bS]
 case assign x=>rw [h x bS]
 case pick c a b=>rw [h c bS,h a bS,h b bS]
 case box t x=>rw [h x bS]
 case build t ps =>
  grind
 case buildSlice t n ps =>
  have m:∀ p∈ps.toList,fI e p.2=fI g p.2:=λp hp=>h p.2 (by simpa using ⟨p.1,by simpa using hp⟩);have I:(ps.toList.map λp=>(p.1,Ud md H (fI e p.2)))=ps.toList.map λp=>(p.1,Ud md H (fI g p.2)):=bY λp hp=>by rw [m p hp]
  have G:(ps.toList.flatMap λp=>N7 md (fI e p.2))=ps.toList.flatMap λp=>N7 md (fI g p.2):=by
   rw [Lb,Lb,bY λp hp=>by rw [m p hp]]
  rw [I,G]
 case load t a=>rw [h a bS]
 case store t a v=>rw [h a bS,h v bS]
 case nilCheck x=>rw [h x bS]
 case binOp q t x y t'=>rw [h x bS,h y bS]
 case unOp q t x=>rw [h x bS]
 case convert s d x=>rw [h x bS]
 case makeFunc J first caps =>
  cases J<;>simp only
  have:caps.toList.map (fI e)=caps.toList.map (fI g):=bY λx hx=>h x (by simp;exact .inr (cG hx));rw [this]
 case makeSlice t l c=>rw [h l bS,h c bS]
 case slice t x E F C =>
  cases C<;>simp only
  rw [h x bS];cases E<;>cases F<;>simp only [Option.map_none,fS]
  .rename_i y;rw [h y bS]
  .rename_i y;rw [h y bS]
  .rename_i y z;rw [h y bS,h z bS]
 case fieldAddr t x f=>rw [h x bS]
 case indexAddr t x i=>rw [h x bS,h i bS]
 case index t x i=>rw [h x bS,h i bS]
 case extract t i=>rw [h t bS]
 case call c =>
  obtain ⟨j,k,L⟩:=c;cases j<;>simp only
  have:k.toList.map (fI e)=k.toList.map (fI g):=bY λx hx=>h x (by simpa [Call.operands] using hx);rw [this]
theorem rC {e d:Nat->D}{o:Oper}(h:∀ x∈o.op.operands,fI e x=fI d x):iQ e o=iQ d o:=by
 obtain ⟨n,l,j,k,i,g⟩:=o;unfold iQ;cases l<;>simp only
 rename_i c;obtain ⟨a,b,p⟩:=c;cases a<;>simp only
 rename_i f;have m:fI e f=fI d f:=h f (by simp [Op.operands,Call.operands]);have:b.toList.map (fI e)=b.toList.map (fI d):=bY λx hx=>h x (by simp [Op.operands,Call.operands];exact .inr (cG hx));rw [m,this]
/-! ### guards -/
def gD (ops:Array Oper)(e:Nat->D)(j:Nat):Option (Bool × Bool) :=
 match (ops[j]?).bind (·.dst) with
 | some t=>match e t with
  | .bool c=>some (true,c)
  | .opt g (.bool c)=>some (g,c)
  | _=>none
 | none=>none
def F3 (e:Nat->D):Nat->D:=λt=>match e t with | .opt _ d=>d|d=>d
def gE (e:Nat->D)(op:Op):Nat->D :=
 match op with
 | .pick (.tmp c) _ _=>λt=>if t=c then F3 e t else e t
 | .pick _ _ _=>e
 | _=>F3 e
def gO (op:Op):List Operand :=
 match op with
 | .pick c _ _=>[c]
 | op=>op.operands.toList
theorem aa7 {a:Op}{x:Operand}(h:x∈gO a):x∈a.operands:=by
 cases a<;>simp only [gO] at h<;>first|(simpa using h)|(simp only [aX] at h;subst h;simp [Op.operands])
def og (e:Nat->D):Operand->Bool
 | .tmp t=>match e t with
  | .opt g _=>g
  | _=>true
 | _=>true
def VU (e:Nat->D):List Operand->Bool
 | []=>true
 | x :: l=>og e x&&VU e l
theorem Yu {l:List Operand}(h:VU e l=true):∀ x∈l,og e x=true:=by
 induction l with
 | nil=>simp
 | cons a l ih =>
  simp only [VU,aR] at h;grind
theorem MU (B:St n M0 H σ w e a){ops:Array Oper}{o:Oper}{j:Nat}{b g c:Bool}(z:o.guard=some (j,b))(h:gD ops e j=some (g,c)) :
  Region.wanted o (yielded ops a.tmps)=(g&&(c==b)):=by
 unfold gD at h;cases l:(ops[j]?).bind (·.dst) with
 | none=>simp [l] at h
 | some t =>
  simp only [l] at h;have m:a.tmps.getD t undef=(a.tmps[t]?).getD undef:=bS;have d:=B.bz t;rw [m] at d;have u:∀ s:Bool,(a.tmps[t]?).getD undef=.bool s->yielded ops a.tmps j=some s:=by
   intro s k;cases i:a.tmps[t]? with
   | none=>rw [i] at k;simp [undef] at k
   | some x=>rw [i] at k;simp at k;subst k;simp [yielded,l,i]
  simp only [Region.wanted,z];split at h
  .rename_i C r;cases h
   rw [r] at d;have k:(a.tmps[t]?).getD undef=.bool c:=by generalize (a.tmps[t]?).getD undef=v at d;cases d;rfl
   grind
  .rename_i D C r;cases h
   rw [r] at d;generalize p:(a.tmps[t]?).getD undef=v at d;cases d
   rename_i A q;cases g with
   | true =>
    have:=q rfl;cases this
    grind
   | false =>
    have y:=A rfl;have:yielded ops a.tmps j=none:=by
     cases i:a.tmps[t]? with
     | none=>simp [yielded,l,i]
     | some x=>rw [i] at p;simp at p;rw [y] at p;subst p;simp [yielded,l,i]
    grind
  .cases h
/-! ### one operation -/
def gQ (S:List Nat)(H' H:AHeap):Prop:=∀ i∈S,H'.get i=H.get i
def eK:D->List Nat
 | .own id _=>[id]
 | .win id _ _ _=>[id]
 | .ptr id _ _ _=>[id]
 | .agg cs=>cs.flatMap mC
 | _=>[]
def IV:Op->Bool
 | .alloc _ | .box .. | .buildSlice .. | .makeSlice ..=>true
 | .call { callee:=.builtin .append,.. }=>true
 | .move x | .assign x=>kF x
 | _=>false
def sV:Op->Bool
 | .load .. | .store .. | .nilCheck _ | .fieldAddr .. | .indexAddr .. | .slice .. | .alloc _ | .box .. | .buildSlice .. | .makeSlice ..=>true
 | .call _=>true
 | .move x | .assign x=>kF x
 | _=>false
def foot (nid:Nat)(e:Nat->D)(o:Op):List Nat :=
 (if IV o then [nid] else [])++(if sV o then o.operands.toList.flatMap λx=>eK (fI e x) else [])
def AHeap.ad (H:AHeap):List (Nat × Blk)->AHeap
 | []=>H
 | p :: l=>AHeap.ad (H.push p.1 p.2) l
def AHeap.ai (H:AHeap):List (Nat × Blk)->AHeap
 | []=>H
 | p :: l=>AHeap.ai (H.put p.1 p.2) l
def rD (P:Program)(md:Nat->Bool)(dr:Option Nat)(nid:Nat)(ops:Array Oper)(e:Nat->D)(o:Oper)(H:AHeap)(K:D->AHeap->List Nat->Prop):Prop :=
  match o.guard with
  | none=>match iQ e o with
    | some (f,args) =>
      match dr with
      | some m=>(∃ r S,(∀ H',gQ S H' H->ACalls P f args H' λv H1=>v=r/\H1=H')/\K r H S) \/
          (EI md o.dst=true/\∃ r S u q,(∀ p∈u,p.1∈S)/\(∀ p∈q,p.1<m/\¬ H.J p.1) /\
            (∀ H',gQ S H' H->(∀ p∈q,p.1<H'.next/\¬ H'.J p.1)->ACalls P f args H' λv H1=>v=r/\H1=(H'.ai u).ad q)/\K r ((H.ai u).ad q) (S++q.map (·.1)))
      | none=>ACalls P f args H λv H1=>K v H1 []
    | none=>(Hh P nid md e o H).cond/\((dr=none->(Hh P nid md e o H).aa)->K (Hh P nid md e o H).val (Hh P nid md e o H).heap (foot nid e o.op))
  | some (j,b)=>match gD ops e j with
    | some (g,c)=>((g&&(c==b))=true->VU e (gO o.op)=true) /\
      match iQ (gE e o.op) o with
      | some (f,args) =>
        match dr with
        | some _=>∃ r S,((g&&(c==b))=true->∀ H',gQ S H' H->ACalls P f args H' λv H1=>v=r/\H1=H')/\K (.opt (g&&(c==b)) r) H S
        | none=>(∃ r S,((g&&(c==b))=true->∀ H',gQ S H' H->ACalls P f args H' λv H1=>v=r/\H1=H')/\K (.opt (g&&(c==b)) r) H S) \/
          (((g&&(c==b))=true->ACalls P f args H λv H1=>K (.opt true v) H1 [])/\((g&&(c==b))=false->∃ r,K (.opt false r) H []))
      | none=>((g&&(c==b))=true->(Hh P nid md (gE e o.op) o H).cond/\(Hh P nid md (gE e o.op) o H).heap=H) /\
          ((dr=none->(g&&(c==b))=true->(Hh P nid md (gE e o.op) o H).aa)->K (.opt (g&&(c==b)) (Hh P nid md (gE e o.op) o H).val) H (foot nid (gE e o.op) o.op))
    | none=>False
theorem Da {o:Oper}{f:FuncId}{args:Xa2}{ρ:Operand->Value}{e:Nat->D}(C:∀ x∈o.op.operands,RepV (dK M0 H σ) σ H.J w (ρ x) (fI e x))(a:iQ e o=some (f,args))(T:XZ P f) :
  ∃ vals,(execOp ρ o).run P w=.ok (.enter f vals.toArray) w/\RepL (dK M0 H σ) σ H.J w vals args:=by
 obtain ⟨V,L,z,K,y,t⟩:=o;unfold iQ at a;cases L<;>simp only at a<;>try (cases a;done)
 rename_i c;obtain ⟨b,I,W⟩:=c;cases b<;>simp only at a<;>try (cases a;done)
 rename_i E;split at a
 .rename_i g G S;simp at a;obtain ⟨rfl,rfl⟩:=a;have i:=C E (by simp [Op.operands,Call.operands]);rw [S] at i;generalize M:ρ E=v at i;cases i
  rename_i J O N;obtain ⟨F,r,n,U⟩:=T;refine ⟨I.toList.map ρ++J,?_,⟨by simp [O],λj u d hu hd=>?_⟩⟩
  .have s:F.body.isNone=false:=by cases R:F.body<;>simp [R] at U ⊢
   have h:Sem.run P program w=.ok P w:=rfl;simp only [execOp,resolve,M,Deferred.ofValue,invoke,callFunc,Sem.run_bind,Sem.run_pure,Result.andThen_ok,h,r,n,s,eW,if_false];simp_all
  .by_cases Q:j<I.size
   .rw [aY (cG Q)] at hu hd;simp only [aW,bQ] at hu hd;obtain ⟨p,B,rfl⟩:=hu;obtain ⟨q,A,rfl⟩:=hd;rw [B] at A;cases A
    exact C p (by simp [Op.operands,Call.operands];exact .inr (by simpa using aK B))
   .rw [bF et] at hu hd;simp only [bR,gB] at hu hd;exact N _ u d hu hd
 .cases a
def StepC (P:Program)(ops:Array Oper)(Q:Exit->Act->World->Prop)(o:Oper)(Kc:Act->World->Prop)(a:Act)(w:World):Prop :=
 if Region.wanted o (yielded ops a.tmps) then o.wp P a w Kc Q\/(o.asks P a w/\LetsOut Q) else Kc (a.put o.dst undef) w
theorem CI {o:Oper}{f:FuncId}{args:Xa2}{vals:List Value}{c:Act->World->Prop}{Q:Exit->Act->World->Prop}(b:(execOp a.eval o).run P w=.ok (.enter f vals.toArray) w)
  (h:Calls P f vals.toArray w λe w'=>∃ v,e=.returned v/\c (a.put o.dst v) w'):o.wp P a w c Q:=by
 unfold Oper.wp;rw [b,Oper.upon_enter];exact h.mono λe w' ⟨v,g,d⟩=>by subst g;exact d
theorem BF {md:Nat->Bool}{dr:Option Nat}{nid:Nat}{ops:Array Oper}{o:Oper}{K:D->AHeap->List Nat->Prop}{Q:Exit->Act->World->Prop}
  (h:rD P md dr nid ops e o H K) (s:St n M0 H σ w e a) (hn:¬ H.J nid) (V:sZ n o.dst=true) (hm:∀ m,dr=some m->m<=H.next:=by intro _ h;cases h) :
  StepC P ops Q o (λa' w'=>∃ v H' F σ',K v H' F/\St n M0 H' σ' w' (nB e o.dst v) a'/\Stp σ w σ' w'/\Keeps (dK M0 H σ) σ H.J w (dK M0 H' σ') σ' H'.J w') a w:=by
 unfold rD at h;unfold StepC;cases hg:o.guard with
 | none =>
  simp only [hg] at h;have hw:Region.wanted o (yielded ops a.tmps)=true:=by simp [Region.wanted,hg]
  rw [if_pos hw]
  left
  cases I:iQ e o with
  | none =>
   simp only [I] at h;obtain ⟨k,v,w',σ',i,N,Y,h5,J⟩:=IQ (P:=P) hn s.a7 s.bd h.1;unfold Oper.wp;rcases i with i|⟨i,rfl⟩
   .rw [i,Oper.upon_value];exact ⟨_,_,_,σ',h.2 (λ_=>k),s.put N J V Y,h5,J⟩
   .rw [i,Oper.upon_skip];exact ⟨_,_,_,σ',h.2 (λ_=>k),s.put N J V Y,h5,J⟩
  | some fa =>
   obtain ⟨f,args⟩:=fa;simp only [I] at h;have C:∀ Q':D->AHeap->Prop,ACalls P f args H Q'->(∀ v H',Q' v H'->∃ F,K v H' F) ->
     o.wp P a w (λa' w'=>∃ v H' F σ',K v H' F/\St n M0 H' σ' w' (nB e o.dst v) a'/\Stp σ w σ' w'/\Keeps (dK M0 H σ) σ H.J w (dK M0 H' σ') σ' H'.J w') Q:=by
    intro Q' hA hQ;obtain ⟨y,z,A⟩:=Da (P:=P) (λx _=>s.bd.ev x) I hA.1;refine CI (args:=args) z ((hA.2 M0 σ w y s.a7 A).mono λe' w' ⟨v,d,H',σ',he,X,hv,T,M,hq⟩=>?_);obtain ⟨F,hF⟩:=hQ _ _ hq;exact ⟨v,he,d,H',F,σ',hF,s.put X M V hv,T,M⟩
   cases dr with
   | none=>exact C _ h λv H' M=>⟨[],M⟩
   | some m =>
    rcases h with ⟨r,S,k,i⟩|⟨_,r,S,u,q,hu,hq,k,i⟩
    .exact C _ (k H λ_ _=>rfl) λv H' ⟨e1,G⟩=>⟨S,by rw [e1,G];exact i⟩
    .exact C _ (k H (λ_ _=>rfl) λp hp=>⟨cH (hq p hp).1 (hm m rfl),(hq p hp).2⟩) λv H' ⟨e1,G⟩=>⟨S++q.map (·.1),by rw [e1,G];exact i⟩
 | some jb =>
  obtain ⟨j,b⟩:=jb;simp only [hg] at h;cases U:gD ops e j with
  | none=>simp [U] at h
  | some gc =>
   obtain ⟨g,c⟩:=gc;simp only [U] at h;have hw:=MU (n:=n) s hg U;rw [hw];generalize hq:(g&&(c==b))=q at h;obtain ⟨a2,h⟩:=h;cases q with
   | false =>
    simp only [eW,if_false];have O:∀ d,St n M0 H σ w (nB e o.dst (.opt false d)) (a.put o.dst undef):=λd =>
     s.put s.a7 (.refl _ _ _ _) V (.opt _ _ _ (λ_=>rfl) (λh=>by cases h))
    cases I:iQ (gE e o.op) o with
    | none =>
     simp only [I] at h;exact ⟨_,H,_,σ,h.2 (λ_ h=>by cases h),O _,.refl _ _,.refl _ _ _ _⟩
    | some fa =>
     obtain ⟨f,args⟩:=fa;simp only [I] at h;have h':∃ r S,K (.opt false r) H S:=by
      cases dr with
      | some _=>obtain ⟨r,S,k,i⟩:=h;exact ⟨r,S,i⟩
      | none =>
       rcases h with ⟨r,S,k,i⟩|⟨k,i⟩
       .exact ⟨r,S,i⟩
       .obtain ⟨r,i⟩:=i trivial;exact ⟨r,[],i⟩
     obtain ⟨r,S,i⟩:=h';exact ⟨_,H,S,σ,i,O _,.refl _ _,.refl _ _ _ _⟩
   | true =>
    simp only [if_true]
    left
    have R:=Yu (a2 rfl);have a1:∀ t,og e (.tmp t)=true->RepV (dK M0 H σ) σ H.J w (a.eval (.tmp t)) (F3 e t):=by
     intro t i;have k:=s.bd.ev (.tmp t);simp only [fI] at k;simp only [og] at i;simp only [F3];split
     .rename_i g' d' a3;rw [a3] at k i;generalize a.eval (.tmp t)=v at k;cases k
      rename_i _ k;exact k i
     .exact k
    have hE:∀ x∈o.op.operands,RepV (dK M0 H σ) σ H.J w (a.eval x) (fI (gE e o.op) x):=by
     intro x hx;have h0:=s.bd.ev x;cases x with
     | tmp t =>
      simp only [fI] at h0 ⊢;by_cases a0:∃ c' x' y',o.op=.pick c' x' y'
      .obtain ⟨c',x',y',L⟩:=a0;rw [L];have a5:=R c' (by simp [gO,L]);cases c' with
       | tmp c' =>
        simp only [gE];split
        .rename_i a4;subst a4;exact a1 _ a5
        .exact h0
       | _=>exact h0
      .have N:gE e o.op=F3 e/\gO o.op=o.op.operands.toList:=by
        cases L:o.op<;>first|exact ⟨rfl,rfl⟩|exact absurd ⟨_,_,_,L⟩ a0
       rw [N.1];exact a1 t (R _ (by rw [N.2];simpa using hx))
     | _=>exact h0
    classical
    let G:Nat->D:=λt=>if (Operand.tmp t)∈o.op.operands then gE e o.op t else .junk
    have W:∀ x∈o.op.operands,fI (gE e o.op) x=fI G x:=by
     intro x hx;cases x with
     | tmp t=>simp [fI,G,hx]
     | _=>rfl
    have a6:EnvR (dK M0 H σ) σ H.J w a.eval G:=by
     refine ⟨λt=>?_,λ_=>rfl,λ_=>rfl⟩;by_cases ht:(Operand.tmp t)∈o.op.operands
     .have:=hE _ ht;simp only [G,if_pos ht];exact this
     .simp only [G,if_neg ht];exact .junk _
    cases I:iQ (gE e o.op) o with
    | none =>
     simp only [I] at h;obtain ⟨k,i⟩:=h;obtain ⟨E,B⟩:=k trivial;rw [FU W] at E B i;obtain ⟨k,v,w',σ',Z,N,Y,h5,J⟩:=IQ (P:=P) hn s.a7 a6 E;rw [B] at N Y J;unfold Oper.wp;rcases Z with Z|⟨Z,rfl⟩
     .rw [Z,Oper.upon_value];exact ⟨_,_,_,σ',i λ_ _=>k,s.put N J V (.opt _ _ _ (λh=>by cases h) λ_=>Y),h5,J⟩
     .rw [Z,Oper.upon_skip];exact ⟨_,_,_,σ',i λ_ _=>k,s.put N J V (.opt _ _ _ (λh=>by cases h) λ_=>Y),h5,J⟩
    | some fa =>
     obtain ⟨f,args⟩:=fa;simp only [I] at h;have h':ACalls P f args H λv H1=>∃ S,K (.opt true v) H1 S:=by
      have hl:(∃ r S,((true:Bool)=true->∀ H',gQ S H' H->ACalls P f args H' λv H1=>v=r/\H1=H')/\K (.opt true r) H S)->ACalls P f args H λv H1=>∃ S,K (.opt true v) H1 S:=by
       rintro ⟨r,S,k,i⟩;exact (k rfl H λ_ _=>rfl).mono λv H1 ⟨e1,G⟩=>⟨S,by rw [e1,G];exact i⟩
      cases dr with
      | some _=>exact hl (cG h)
      | none =>
       rcases h with h|⟨k,i⟩
       .exact hl (cG h)
       .exact ACalls.mono (cG k) λv H1 M=>⟨[],M⟩
     obtain ⟨y,z,A⟩:=Da (P:=P) hE I h'.1;refine CI (args:=args) z ((h'.2 M0 σ w y s.a7 A).mono λe' w' ⟨v,d,H',σ',he,X,hv,T,M,S,i⟩=>?_);exact ⟨v,he,_,_,S,σ',i,s.put X M V (.opt _ _ _ (λh=>by cases h) λ_=>hv),T,M⟩
end
end Go.Abs
end
section
namespace Go.Abs
def chk (sp:List (Nat × Nat))(i:Nat)(F:List Nat)(acc:List (Nat × List Nat)):Prop :=
 match sp with
 | []=>True
 | _=>∀ p∈acc,(p.1,i)∈sp->∀ x∈p.2,x∉F
def kQ (P:Program)(md:Nat->Bool)(ops:Array Oper)(sp:List (Nat × Nat))(n0:Nat):Nat->List Oper->List (Nat × List Nat)->(Nat->D)->AHeap->((Nat->D)->AHeap->Prop)->Prop
 | _,[],_,e,H,K=>K e H
 | i,o :: rest,acc,e,H,K=>rD P md (some n0) (n0+i) ops e o H λv H' F=>chk sp i F acc/\kQ P md ops sp n0 (i+1) rest ((i,F) :: acc) (nB e o.dst v) H' K
/-! ### which operations come ahead of which -/
def QR:List Oper->List Nat->List Nat
 | [],acc=>acc
 | o :: rest,acc=>QR rest (acc++[o.after.toList.foldl (λs e=>if Region.binds .any e then s ||| 2 ^ e.on ||| acc.getD e.on 0 else s) 0])
def zC:Op->Bool
 | .store .. | .alloc _ | .box .. | .buildSlice .. | .makeSlice ..=>true
 | .call { callee:=.builtin .append,.. } | .call { callee:=.builtin .clear,.. }=>true
 | .move x | .assign x=>kF x
 | _=>false
def Hp (md:Nat->Bool)(o:Oper):Bool:=match o.op with
 | .call { callee:=.value _,.. }=>EI md o.dst
 | _=>false
def oP (md:Nat->Bool)(o:Oper):Bool:=zC o.op||Hp md o
def N5 (ops:Array Oper)(x y:Oper):Bool:=!(x.apart ops y)
def JN (md:Nat->Bool)(x y:Oper):Bool:=sV x.op&&sV y.op&&(oP md x||oP md y)
def zG (md:Nat->Bool)(ops:Array Oper)(sp:List (Nat × Nat)):Bool :=
  let b:=QR ops.toList []
  (List.range ops.size).all λj=>match ops[j]? with
    | none=>true
    | some y=>(y.after.toList.all λe=>!Region.binds .any e||decide (e.on<j)) &&
      (match y.guard with|none=>true|some (g,_)=>decide (g<ops.size)) &&
      (List.range j).all λi=>match ops[i]? with
        | none=>true
        | some x=>(b.getD j 0).testBit i||(!N5 ops x y&&(!JN md x y||sp.contains (i,j)))
def On (ops:Array Oper)(S:Nat->Bool):Prop:=∀ j o,ops[j]?=some o->S j=true->∀ e∈o.after.toList,Region.binds .any e=true->S e.on=true
theorem Mg (S:Nat->Bool)(acc:List Nat)(hacc:∀ k i,S k=true->(acc.getD k 0).testBit i=true->S i=true) :
  ∀ (es:List Edge) (s:Nat),(∀ e∈es,Region.binds .any e=true->S e.on=true)->(∀ i,s.testBit i=true->S i=true) ->
   ∀ i,(es.foldl (λs e=>if Region.binds .any e then s ||| 2 ^ e.on ||| acc.getD e.on 0 else s) s).testBit i=true->S i=true
 | [],s,_,hs,i,h=>hs i h
 | e :: es,s,he,hs,i,h=>by
  simp only [iD] at h;refine Mg S acc hacc es _ (λe' h'=>he e' (fg h')) (λi hi=>?_) i h;split at hi
  .rename_i hb;have hSe:=he e bS hb;rw [Nat.testBit_or,Nat.testBit_or,cX,cX] at hi;rcases hi with (hi|hi)|hi
   .exact hs i hi
   .rw [Nat.testBit_two_pow] at hi;have:e.on=i:=by simpa using hi
    rw [<- this];exact hSe
   .exact hacc e.on i hSe hi
  .exact hs i hi
theorem ME {ops:Array Oper}{S:Nat->Bool}(r:On ops S):∀ j i,S j=true->((QR ops.toList []).getD j 0).testBit i=true->S i=true:=by
 have f:∀ (l:List Oper) (a:List Nat),(∀ (k:Nat),(ops.toList.drop a.length)[k]?=l[k]?)->(∀ k i,S k=true->(a.getD k 0).testBit i=true->S i=true) ->
   ∀ j i,S j=true->((QR l a).getD j 0).testBit i=true->S i=true:=by
  intro l;induction l with
  | nil=>intro a _ b j i d c;exact b j i d c
  | cons o l ih =>
   intro a p b j i d c;refine ih _ (λk=>?_) (λk i hk hi=>?_) j i d c
   .have:=p (k+1);simp only [bV,Kb,aO,cD,i6] at this ⊢;grind
   .rw [List.getD_eq_getElem?_getD] at hi;by_cases m:k<a.length
    .rw [aY m,<- List.getD_eq_getElem?_getD] at hi;grind
    .by_cases n:k=a.length
     .subst n;rw [bF (aT _),nU] at hi;have q:=p 0;have g:ops[a.length]?=some o:=by simpa using q
      exact Mg S a b o.after.toList 0 (λe he c=>r _ o g hk e he c) (λi h=>by simp at h) i hi
     .rw [bF bL,bC et] at hi;simp at hi
 exact λj i d c=>f ops.toList [] (λk=>by simp) (λk i hk hi=>by simp at hi) j i d c
def iL (p:Nat->Bool):Nat->Option Nat
 | 0=>none
 | n+1=>if p n then some n else iL p n
theorem lL {p q:Nat->Bool}:∀ (n:Nat),(∀ k,k<n->p k=q k)->iL p n=iL q n
 | 0,_=>rfl
 | n+1,h=>by simp only [iL,h n bL,lL n (λk hk=>h k bL)]
theorem CX {p:Nat->Bool}(m:Nat):∀ (n:Nat),m<=n->(∀ k,m<=k->k<n->p k=false)->iL p n=iL p m
 | 0,h,_=>by rw [Nat.le_zero.1 h]
 | n+1,h,hp=>by
  by_cases hm:m=n+1
  .rw [hm]
  .simp only [iL,hp n bL bL,eW,if_false];exact CX m n bL λk h1 h2=>hp k h1 bL
end Go.Abs
end
section
namespace Go.Abs
def AOut.on (r:AOut)(H:AHeap):AOut:=⟨r.cond,r.aa,r.val,H⟩
def mD (H' H1:AHeap)(F:List Nat)(nid:Nat):AHeap:=⟨H'.next,λi=>H'.J i\/(i=nid/\H1.J nid),λi=>if i∈F then H1.get i else H'.get i⟩
section
variable {P:Program} {H H':AHeap} {F:List Nat} {nid:Nat}
theorem jK (c:gQ F H' H)(b:¬ H.J nid):mD H' H F nid=H':=by
 obtain ⟨n,d,g⟩:=H';simp only [mD,AHeap.mk.injEq,true_and];refine ⟨?_,?_⟩
 .funext i;exact propext ⟨λh=>h.elim id λh=>absurd h.2 b,.inl⟩
 .funext i;by_cases a:i∈F
  .rw [if_pos a];exact (c i a).symm
  grind
theorem oS (l:gQ F H' H)(f:nid<H'.next)(k:nid∈F)(b:Blk):H'.push nid b=mD H' (H.push nid b) F nid:=by
 obtain ⟨n,m,g⟩:=H';have c:nid<n:=f;simp only [AHeap.push,mD,AHeap.mk.injEq,c,if_true,true_and];refine ⟨?_,?_⟩
 .funext i;exact propext ⟨λh=>h.elim (λe=>.inr ⟨e,.inl trivial⟩) .inl,λh=>h.elim .inr λh=>.inl h.1⟩
 .funext i;by_cases j:i∈F
  .rw [if_pos j];by_cases d:i=nid
   .rw [if_pos d,if_pos d]
   .rw [if_neg d,if_neg d];exact l i j
  grind
theorem wH (j:gQ F H' H)(e:¬ H.J nid){a:Nat}(f:a∈F)(b:Blk):H'.put a b=mD H' (H.put a b) F nid:=by
 obtain ⟨n,k,g⟩:=H';simp only [AHeap.put,mD,AHeap.mk.injEq,true_and];refine ⟨?_,?_⟩
 .funext i;exact propext ⟨.inl,λh=>h.elim (λh=>h) λh=>absurd h.2 e⟩
 .funext i;by_cases d:i∈F
  .rw [if_pos d];by_cases c:i=a
   .rw [if_pos c,if_pos c]
   .rw [if_neg c,if_neg c];exact j i d
  grind
theorem UW (e:gQ F H' H)(c:Nat)(b:Blk):gQ F (H'.put c b) (H.put c b):=by
 intro i d;simp only [AHeap.put];by_cases a:i=c
 .rw [if_pos a,if_pos a]
 .rw [if_neg a,if_neg a];exact e i d
theorem Sx (H:AHeap)(a:Nat):(H.frz a).J=H.J/\(H.frz a).next=H.next:=by unfold AHeap.frz;cases H.get a<;>exact ⟨rfl,rfl⟩
theorem z6 (a:List Nat):∀ H:AHeap,(fH a H).J=H.J/\(fH a H).next=H.next:=by
 induction a with
 | nil=>intro H;exact ⟨rfl,rfl⟩
 | cons i l ih=>intro H;exact ⟨(ih _).1.trans (Sx H i).1,(ih _).2.trans (Sx H i).2⟩
theorem Md (H:AHeap)(a i:Nat)(h:i≠a):(H.frz a).get i=H.get i:=by grind [AHeap.frz, AHeap.put]
theorem C1 (b:List Nat):∀ (H:AHeap) (i:Nat),i∉b->(fH b H).get i=H.get i:=by
 induction b with
 | nil=>intro H i _;rfl
 | cons a l ih =>
  intro H i c;simp only [fH];rw [ih _ i (λh=>c (by simp [h])),Md H a i (λe=>c (fg e))]
theorem Js (b:List Nat)(c:∀ i∈b,i∈F):∀ {H H':AHeap},gQ F H' H->gQ F (fH b H') (fH b H):=by
 induction b with
 | nil=>intro H H' h;exact h
 | cons a l ih =>
  intro H H' h;refine ih (λi hi=>c i (fg hi)) ?_;have d:=h a (c a bS);unfold AHeap.frz;rw [d];cases H.get a with
  | none=>exact h
  | some k=>exact UW h a _
theorem DM (a:List Nat)(d:∀ i∈a,i∈F)(c:AHeap):mD (fH a H') c F nid=mD H' c F nid:=by
 simp only [mD,AHeap.mk.injEq];refine ⟨(z6 a H').2,by rw [(z6 a H').1],?_⟩;funext i;by_cases b:i∈F
 .rw [if_pos b,if_pos b]
 .rw [if_neg b,if_neg b,C1 a H' i (λh=>b (d i h))]
theorem Tw (d:D):∀ i∈eE d,i∈eK d:=by
 cases d<;>intro i a<;>first|exact a|(simp [eE,mC] at a;done)|(simp only [eE,mC,eK] at a ⊢;exact a)
theorem Il {d:D}(h:gQ (mC d) H' H):fM H' d=fM H d:=by
 cases d<;>try rfl
 .rename_i a n;simp only [fM,h a (by simp [mC])]
 .rename_i a n b c;simp only [fM,h a (by simp [mC])]
theorem Ij {d:D}(h:gQ (eE d) H' H):jN H' d=jN H d:=by
 cases d with
 | agg cs =>
  simp only [jN];congr 1;exact bY λx a=>Il λi b=>h i (bM.2 ⟨x,a,b⟩)
 | _ =>
  have c:=h;simp only [jN];exact Il c
theorem KW {x:D}(h:gQ (eK x) H' H):fW H' x=fW H x:=by
 cases x<;>try rfl
 rename_i c a i b;simp only [fW,h c (by simp [eK])]
theorem Q0 {t:TypeId}{x:D}(h:gQ (eK x) H' H):pL P t x H'=(pL P t x H).on H':=by
 unfold pL;rw [KW h];cases fW H x with
 | none=>rfl
 | some cs=>cases tk P t<;>rfl
theorem CC {x:D}{n:Nat}(h:gQ (eK x) H' H):eT x n H'=(eT x n H).on H':=by
 cases x<;>try rfl
 rename_i a b i c;simp only [eT,h a (by simp [eK])];cases H.get a<;>rfl
theorem Ez {x:D}{n:Nat}:(eT x n H).heap=H:=by
 unfold eT;split
 .rfl
 .split<;>rfl
 .rfl
theorem Av {t:TypeId}{x:D}{f:Nat}:(jF P t x f H).heap=H:=by
 unfold jF;split
 .split
  .exact Ez
  .rfl
 .rfl
theorem Au {t:TypeId}{x i:D}:(jE P t x i H).heap=H:=by
 unfold jE;split
 .split
  .split<;>rfl
  .split<;>rfl
  .split
   .exact Ez
   .rfl
 .rfl
theorem Hi {x:D}(h:gQ (eK x) H' H):kK x H'=(kK x H).on H':=by
 cases x<;>try rfl
 rename_i a b i c;simp only [kK,h a (by simp [eK])];cases H.get a<;>rfl
theorem FX {t:TypeId}{x:D}{f:Nat}(h:gQ (eK x) H' H):jF P t x f H'=(jF P t x f H).on H':=by
 unfold jF;cases bk P t with
 | none=>rfl
 | some b=>cases b with
  | ar sz=>rfl
  | st l =>
   simp only;cases l[f]? with
   | none=>rfl
   | some q=>simp only [CC h];rfl
theorem FW {t:TypeId}{x i:D}(h:gQ (eK x) H' H):jE P t x i H'=(jE P t x i H).on H':=by
 cases i<;>try rfl
 rename_i k n;unfold jE;cases x<;>simp only<;>first
  | (cases sl P t<;>rfl)
  | (simp only [CC h];cases XE P t<;>rfl)
  | skip
 rename_i a m;simp only [h a (by simp [eK])];cases sl P t<;>cases H.get a<;>rfl
theorem Oi {t:TypeId}{x:D}{a b:Option D}(h:gQ (eK x) H' H):r9 P t x a b H'=(r9 P t x a b H).on H':=by
 unfold r9;cases x<;>try rfl
 .simp only;split<;>rfl
 .simp only;split<;>rfl
 .rename_i c n;simp only [h c (by simp [eK])];split<;>rfl
theorem GN {t:TypeId}{x:D}{a b:Option D}:(r9 P t x a b H).heap=H:=by
 unfold r9;split
 .split<;>rfl
 .split<;>rfl
 .split<;>rfl
 .rfl
theorem S6 {t:TypeId}{x:D}(h:gQ (eK x) H' H):Hj P t x H'=(Hj P t x H).on H':=by
 unfold Hj;cases P.underlying t with
 | none=>rfl
 | some b =>
  cases b<;>try rfl
  .cases x<;>rfl
  .cases x<;>try rfl
   rename_i a n;simp only [h a (by simp [eK])];cases H.get a<;>rfl
theorem KP {x:D}(h:gQ (eK x) H' H):pN H' x=pN H x:=by
 cases x<;>try rfl
 .rename_i id n;simp only [pN,h id (by simp [eK])]
 .rename_i id n lo hi;simp only [pN,h id (by simp [eK])]
structure Loc (r r':AOut) (H':AHeap) (F:List Nat) (nid:Nat):Prop where
 cond:r.cond->r'.cond
 aa:r'.aa=r.aa
 val:r'.val=r.val
 heap:r'.heap=mD H' r.heap F nid
theorem Loc.on {r a:AOut}(h:a=r.on H')(c:r.heap=H)(d:gQ F H' H)(b:¬ H.J nid):Loc r a H' F nid:=by
 subst h;exact ⟨λh=>h,rfl,rfl,by rw [c,jK d b];rfl⟩
theorem Loc.bad (hF:gQ F H' H)(hn:¬ H.J nid):Loc (AOut.bad H) (AOut.bad H') H' F nid:=⟨λh=>h,rfl,rfl,(jK hF hn).symm⟩
theorem EA {t:TypeId}{x v:D}(d:gQ F H' H)(l:∀ i∈eK x,i∈F)(f:¬ H.J nid):Loc (nJ P t x v H) (nJ P t x v H') H' F nid:=by
 unfold nJ;cases x<;>try (exact Loc.bad d f)
 rename_i e g i j;have b:e∈F:=l e (by simp [eK]);simp only;rw [d e b];cases m:H.get e with
 | none=>(simp only [];exact Loc.bad d f)
 | some k =>
  simp only [];cases n:k.es[i]? with
  | none=>(simp only [];exact Loc.bad d f)
  | some c =>
   exact ⟨λh=>h,rfl,rfl,wH d f b _⟩
theorem Oj {t:TypeId}{x:D}(c:gQ F H' H)(g:∀ i∈eK x,i∈F)(e:¬ H.J nid):Loc (xQ P t x H) (xQ P t x H') H' F nid:=by
 unfold xQ;cases x<;>try (exact Loc.bad c e)
 rename_i d f j n;have b:d∈F:=g d (by simp [eK]);simp only;rw [c d b];cases l:sl P t with
 | none=>(simp only [];exact Loc.bad c e)
 | some s =>
  cases m:H.get d with
  | none=>(simp only [];exact Loc.bad c e)
  | some k =>
   exact ⟨λh=>h,rfl,rfl,wH c e b _⟩
theorem K9 {t f:TypeId}{x y:D}(b:gQ F H' H)(l:∀ i∈eK x,i∈F)(m:∀ i∈eK y,i∈F)(e:¬ H.J nid)(j:nid<H'.next)(g:nid∈F) :
  Loc (lT P nid t f x y H) (lT P nid t f x y H') H' F nid:=by
 unfold lT;rw [KP (H:=H) (H':=H') λi hi=>b i (m i hi)];cases q:sl P t with
 | none=>(simp only [];exact Loc.bad b e)
 | some s =>
  cases r:pN H y with
  | none =>
   unfold rE;cases y<;>try (exact Loc.bad b e)
   cases x<;>try (exact Loc.bad b e)
   rename_i d n;cases o:Si P f with
   | none=>(simp only [];exact Loc.bad b e)
   | some kn =>
    simp only [];have c:d∈F:=l d (by simp [eK]);rw [b d c];cases p:H.get d with
    | none=>(simp only [];exact Loc.bad b e)
    | some k =>
     exact ⟨λh=>h,rfl,rfl,wH b e c _⟩
  | some ys =>
   simp only [];cases x<;>try (exact Loc.bad b e)
   .exact ⟨λh=>h,rfl,rfl,oS b j g _⟩
   .rename_i d n;have c:d∈F:=l d (by simp [eK]);simp only;rw [b d c];cases p:H.get d with
    | none=>(simp only [];exact Loc.bad b e)
    | some k =>
     simp only [];exact ⟨λh=>h,rfl,rfl,wH b e c _⟩
theorem FT {md:Nat->Bool}{e:Nat->D}{o:Oper}(g:gQ (foot nid e o.op) H' H)(j:¬ H.J nid)(C:nid<H'.next) :
  Loc (Hh P nid md e o H) (Hh P nid md e o H') H' (foot nid e o.op) nid:=by
 obtain ⟨E,F,G,a0,X,W⟩:=o;have w:sV F=true->∀ x∈F.operands,∀ i∈eK (fI e x),i∈foot nid e F:=λhh x K i q=>by
  simp only [foot,hh,if_true,aQ,bM];exact .inr ⟨x,by simpa using K,q⟩
 have L:IV F=true->nid∈foot nid e F:=λh=>by simp [foot,h]
 simp only at g;have I:sV F=true->∀ x∈F.operands,gQ (eK (fI e x)) H' H:=λhh x K i q=>g i (w hh x K i q);unfold Hh;simp only;have r:∀ x:Operand,IV F=kF x ->
   Loc (if kF x then FV P nid (EI md E) G H else ⟨True,True,fI e x,H⟩) (if kF x then FV P nid (EI md E) G H' else ⟨True,True,fI e x,H'⟩) H' (foot nid e F) nid:=by
  intro x Q;by_cases K:kF x=true
  .rw [if_pos K];rw [if_pos K];unfold FV;generalize EI md E=m;cases m with
   | false=>exact ⟨λh=>h,rfl,rfl,(jK g j).symm⟩
   | true =>
    simp only [if_true];cases hs:sl P G with
    | none=>(simp only [];exact Loc.bad g j)
    | some s=>exact ⟨λh=>h,rfl,rfl,oS g C (L (Q.trans K)) _⟩
  .rw [if_neg K];rw [if_neg K];exact ⟨λh=>h,rfl,rfl,(jK g j).symm⟩
 cases F<;>try (exact Loc.bad g j)
 case move x=>exact r x rfl
 case assign x=>exact r x rfl
 case pick c a b =>
  refine Loc.on ?_ ?_ g j
  .simp only [BG];split<;>first|rfl|(simp only [xP];split<;>rfl)
  .simp only [BG];split<;>first|rfl|(simp only [xP];split<;>rfl)
 case alloc t =>
  simp only [Af];cases hz:zd P t with
  | none=>(simp only [];exact Loc.bad g j)
  | some z =>
   simp only [];generalize EI md E=m;cases m with
   | false=>exact ⟨λh=>h,rfl,rfl,(jK g j).symm⟩
   | true=>exact ⟨λh=>h,rfl,rfl,oS g C (L rfl) _⟩
 case box t x =>
  simp only [Ok];generalize EI md E=m;cases m with
  | false=>exact ⟨λh=>h,rfl,rfl,(jK g j).symm⟩
  | true=>exact ⟨λh=>h,rfl,rfl,oS g C (L rfl) _⟩
 case build t ps =>
  refine Loc.on ?_ ?_ g j
  .simp only [vO];split
   .split<;>rfl
   .rfl
  .simp only [vO];split
   .split<;>rfl
   .rfl
 case buildSlice t m ps =>
  have k:∀ i∈(ps.toList.flatMap λp=>N7 md (fI e p.2)),i∈foot nid e (.buildSlice t m ps):=λi q=>by
   obtain ⟨p,U,q⟩:=bM.1 q;refine w rfl p.2 ?_ i (Tw _ i (Y4 q));simp only [Op.operands];simpa using ⟨p.1,by simpa using U⟩
  have R:(ps.toList.map λp=>(p.1,Ud md H' (fI e p.2)))=ps.toList.map λp=>(p.1,Ud md H (fI e p.2)):=bY λp U=>by
   congr 1;unfold Ud;split
   .rfl
   .rename_i hb;exact Ij λi q=>g i (k i (bM.2 ⟨p,U,by unfold N7;rw [if_neg hb];exact q⟩))
  simp only;rw [R];have V:=Js _ k g;have O:∀ H1:AHeap,mD (fH (ps.toList.flatMap λp=>N7 md (fI e p.2)) H') H1 (foot nid e (.buildSlice t m ps)) nid=mD H' H1 (foot nid e (.buildSlice t m ps)) nid:=λH1=>DM _ k H1;have N:Loc (AOut.bad (fH (ps.toList.flatMap λp=>N7 md (fI e p.2)) H)) (AOut.bad (fH (ps.toList.flatMap λp=>N7 md (fI e p.2)) H')) H' (foot nid e (.buildSlice t m ps)) nid :=
   ⟨λh=>h,rfl,rfl,by
    show fH _ H'=mD H' (fH _ H) _ nid;rw [<- O,jK V (by rw [(z6 _ H).1];exact j)]⟩
  simp only [jR];cases hs:sl P t with
  | none=>(simp only [];exact N)
  | some s =>
   simp only [];cases a1:Cy (λi=>some (i * s.sz,s.sz)) (List.replicate m s.z).flatten (ps.toList.map λp=>(p.1,Ud md H (fI e p.2))) with
   | none=>(simp only [];exact N)
   | some cs =>
    simp only [];generalize EI md E=m';cases m' with
    | false =>
     refine ⟨λh=>h,rfl,rfl,?_⟩;simp only [eW,if_false];rw [<- O,jK V (by rw [(z6 _ H).1];exact j)]
    | true =>
     refine ⟨λh=>h,rfl,rfl,?_⟩;simp only [if_true];rw [<- O];exact oS V (by rw [(z6 _ H').2];exact C) (L rfl) _
 case load t a=>exact Loc.on (Q0 (I rfl a (by simp [Op.operands]))) (by simp only [pL];split<;>(try split)<;>rfl) g j
 case store t a v =>
  have Y:=w rfl a (by simp [Op.operands]);have hv:=w rfl v (by simp [Op.operands]);simp only;by_cases Q:md 1000000=true
  .rw [if_pos Q];rw [if_pos Q];have k:∀ i∈eE (fI e v),i∈foot nid e (.store t a v):=λi q=>hv i (Tw _ i q);rw [Ij (H:=H) (H':=H') λi q=>g i (k i q)];have S:=EA (P:=P) (t:=t) (v:=jN H (fI e v)) (nid:=nid) (Js _ k g) Y (by rw [(z6 _ H).1];exact j);exact ⟨S.cond,S.aa,S.val,by rw [S.heap,DM _ k]⟩
  .rw [if_neg Q];rw [if_neg Q];exact EA g Y j
 case nilCheck x=>exact Loc.on (Hi (I rfl x (by simp [Op.operands]))) (by simp only [kK];split<;>(try split)<;>rfl) g j
 case binOp F t x y t' =>
  refine Loc.on ?_ ?_ g j
  .simp only [tX];split<;>first|rfl|(simp only [J4];split<;>first|rfl|(split<;>rfl)|(simp only [K8];split<;>rfl))
  .simp only [tX];split<;>first|rfl|(simp only [J4];split<;>first|rfl|(split<;>rfl)|(simp only [K8];split<;>rfl))
 case unOp F t x =>
  refine Loc.on ?_ ?_ g j
  .simp only [XJ];split<;>rfl
  .simp only [XJ];split<;>rfl
 case convert s d x =>
  refine Loc.on ?_ ?_ g j
  .simp only [oO];split<;>(try split)<;>rfl
  .simp only [oO];split<;>(try split)<;>rfl
 case makeFunc fn first caps =>
  cases fn<;>try (exact Loc.bad g j)
  simp only;by_cases T:first.isEmpty=true
  .rw [if_pos T];rw [if_pos T];exact ⟨λh=>h,rfl,rfl,(jK g j).symm⟩
  .rw [if_neg T];rw [if_neg T];exact Loc.bad g j
 case makeSlice t l c =>
  simp only [ED];split
  .exact ⟨λh=>h,rfl,rfl,oS g C (L rfl) _⟩
  .exact Loc.bad g j
 case slice t x lo q mx =>
  cases mx<;>try (exact Loc.bad g j)
  exact Loc.on (Oi (I rfl x (by simp [Op.operands]))) GN g j
 case fieldAddr t x f=>exact Loc.on (FX (I rfl x (by simp [Op.operands]))) Av g j
 case indexAddr t x i=>exact Loc.on (FW (I rfl x (by simp [Op.operands]))) Au g j
 case index t x i =>
  refine Loc.on ?_ ?_ g j
  .simp only [vM];split<;>(try split)<;>(try split)<;>rfl
  .simp only [vM];split<;>(try split)<;>(try split)<;>rfl
 case extract t i =>
  refine Loc.on ?_ ?_ g j
  .simp only [oN];split<;>rfl
  .simp only [oN];split<;>rfl
 case call c =>
  obtain ⟨callee,args,Z⟩:=c;cases callee<;>try (exact Loc.bad g j)
  rename_i b;simp only;have n:∀ d∈args.toList.map (fI e),∀ i∈eK d,i∈foot nid e (.call { callee:=.builtin b,args:=args,argTypes:=Z }):=by
   intro d hd i q;obtain ⟨x,K,rfl⟩:=aS.1 hd;exact w rfl x (by simp only [Op.operands,Call.operands];simpa using K) i q
  generalize args.toList.map (fI e)=az at n ⊢;unfold zB;split
  .exact Loc.on (S6 λi q=>g i (n _ (aX.2 rfl) i q)) (by
    simp only [Hj];split
    .split<;>(try split)<;>rfl
    .split<;>rfl
    .rfl
    .rfl) g j
  .exact K9 g (n _ (j5 ..)) (n _ (cZ _ (aX.2 rfl))) j C (by simp [foot,IV])
  .exact Oj g (n _ (aX.2 rfl)) j
  .refine Loc.on ?_ ?_ g j
   .simp only [EC];split<;>rfl
   .simp only [EC];split<;>rfl
  .refine Loc.on ?_ ?_ g j
   .simp only [EC];split<;>rfl
   .simp only [EC];split<;>rfl
  .exact Loc.bad g j
theorem XK {md:Nat->Bool}{e:Nat->D}{o:Oper}(h:zC o.op=false):(Hh P nid md e o H).heap=H:=by
 obtain ⟨u,k,n,p,m,l⟩:=o;simp only at h;unfold Hh;cases k<;>first|(simp [zC] at h;done)|skip
 case move x =>
  simp only [zC] at h;simp [h]
 case assign x =>
  simp only [zC] at h;simp [h]
 case pick c a b=>simp only [BG];split<;>first|rfl|(simp only [xP];split<;>rfl)
 case build t ps =>
  simp only [vO];split
  .split<;>rfl
  .rfl
 case load t a=>simp only [pL];split<;>(try split)<;>rfl
 case nilCheck x=>simp only [kK];split<;>(try split)<;>rfl
 case binOp k t x y t'=>simp only [tX];split<;>first|rfl|(simp only [J4];split<;>first|rfl|(split<;>rfl)|(simp only [K8];split<;>rfl))
 case unOp k t x=>simp only [XJ];split<;>rfl
 case convert s d x=>simp only [oO];split<;>(try split)<;>rfl
 case makeFunc r first caps =>
  cases r<;>try rfl
  simp only;split<;>rfl
 case slice t x lo hi q =>
  cases q<;>try rfl
  exact GN
 case fieldAddr t x f=>exact Av
 case indexAddr t x i=>exact Au
 case index t x i=>simp only [vM];split<;>(try split)<;>(try split)<;>rfl
 case extract t i=>simp only [oN];split<;>rfl
 case call c =>
  obtain ⟨g,j,v⟩:=c;cases g<;>try rfl
  rename_i b;simp only;generalize j.toList.map (fI e)=az;unfold zB;split
  .simp only [Hj];split
   .split<;>(try split)<;>rfl
   .split<;>rfl
   .rfl
   .rfl
  .simp [zC] at h
  .simp [zC] at h
  .simp only [EC];split<;>rfl
  .simp only [EC];split<;>rfl
  .rfl
 all_goals rfl
end
end Go.Abs
end
section
namespace Go.Abs
theorem IY {ops:Array Oper}{o:Oper}{t:Tmp}(h:Operand.tmp t∈o.op.operands):t∈o.looksAt ops:=by
 simp only [Oper.looksAt,aQ,List.mem_filterMap];exact .inl ⟨.tmp t,by simpa using h,rfl⟩
theorem P5 {ops:Array Oper}{o:Oper}{j:Nat}{b:Bool}{t:Tmp}(a:o.guard=some (j,b))(h:(ops[j]?).bind (·.dst)=some t):t∈o.looksAt ops:=by
 simp only [Oper.looksAt,aQ,a];grind
section
variable {P:Program} {md:Nat→Bool} {ops:Array Oper} {nid:Nat}
def yK (H' H1:AHeap)(F N:List Nat):AHeap:=⟨H'.next,λi=>H'.J i\/(i∈N/\H1.J i),λi=>if i∈F then H1.get i else H'.get i⟩
theorem PO (H' b:AHeap)(F:List Nat)(nid:Nat):mD H' b F nid=yK H' b F [nid]:=by
 simp only [mD,yK,AHeap.mk.injEq,true_and,and_true];grind
theorem LI {H H':AHeap}{F N:List Nat}(c:gQ F H' H)(b:∀ i∈N,¬ H.J i):yK H' H F N=H':=by
 obtain ⟨n,d,g⟩:=H';simp only [yK,AHeap.mk.injEq,true_and];refine ⟨?_,?_⟩
 .funext i;exact propext ⟨λh=>h.elim id λh=>absurd h.2 (b i h.1),.inl⟩
 .funext i;by_cases a:i∈F
  .rw [if_pos a];exact (c i a).symm
  grind
theorem rR:∀ (q:List (Nat × Blk)) (H:AHeap),(∀ p∈q,p.1<H.next)->(H.ad q).next=H.next
 | [],H,_=>rfl
 | p :: l,H,h=>by
  have h1:(H.push p.1 p.2).next=H.next:=by simp only [AHeap.push,if_pos (h p bS)]
  simp only [AHeap.ad];rw [rR l _ (λx hx=>by rw [h1];exact h x (fg hx)),h1]
theorem uS:∀ (q:List (Nat × Blk)) (H:AHeap) (i:Nat),(H.ad q).J i↔H.J i\/i∈q.map (·.1)
 | [],H,i=>by simp [AHeap.ad]
 | p :: l,H,i=>by
  simp only [AHeap.ad];rw [uS l];simp only [AHeap.push,gA,aP];constructor
  .rintro ((h|h)|h)
   .exact .inr (.inl h)
   .exact .inl h
   .exact .inr (.inr h)
  .rintro (h|h|h)
   .exact .inl (.inr h)
   .exact .inl (.inl h)
   .exact .inr h
theorem LF:∀ (q:List (Nat × Blk)) (H H':AHeap) (i:Nat),(i∈q.map (·.1)\/H.get i=H'.get i)->(H.ad q).get i=(H'.ad q).get i
 | [],H,H',i,h=>by
  rcases h with h|h
  .simp at h
  .exact h
 | p :: l,H,H',i,h=>by
  simp only [AHeap.ad];refine LF l _ _ i ?_;by_cases hl:i∈l.map (·.1)
  .exact .inl hl
  .right
   simp only [AHeap.push];by_cases hp:i=p.1
   .simp [hp]
   .simp only [hp,if_false];rcases h with h|h
    .simp only [gA,aP] at h;rcases h with h|h
     .exact absurd h hp
     .exact absurd h hl
    .exact h
theorem qD:∀ (q:List (Nat × Blk)) (H:AHeap) (i:Nat),i∉q.map (·.1)->(H.ad q).get i=H.get i
 | [],H,i,_=>rfl
 | p :: l,H,i,h=>by
  simp only [gA,aP,not_or] at h;simp only [AHeap.ad];rw [qD l _ i h.2];simp [AHeap.push,h.1]
theorem yF:∀ (u:List (Nat × Blk)) (H:AHeap),(H.ai u).next=H.next
 | [],_=>rfl
 | p :: l,H=>yF l (H.put p.1 p.2)
theorem Ny:∀ (u:List (Nat × Blk)) (H:AHeap) (i:Nat),(H.ai u).J i↔H.J i
 | [],_,_=>Iff.rfl
 | p :: l,H,i=>Ny l (H.put p.1 p.2) i
theorem PD:∀ (u:List (Nat × Blk)) (H H':AHeap) (i:Nat),H.get i=H'.get i->(H.ai u).get i=(H'.ai u).get i
 | [],_,_,_,h=>h
 | p :: l,H,H',i,h=>PD l _ _ i (by simp only [AHeap.put];split<;>first|rfl|exact h)
theorem zT:∀ (u:List (Nat × Blk)) (H:AHeap) (i:Nat),(∀ p∈u,p.1≠i)->(H.ai u).get i=H.get i
 | [],H,i,_=>rfl
 | p :: l,H,i,h=>by
  simp only [AHeap.ai];rw [zT l _ i λx hx=>h x (fg hx)];have:=(h p bS).symm;simp [AHeap.put,this]
theorem IK {H H':AHeap}{S:List Nat}{u q:List (Nat × Blk)}(m:∀ p∈u,p.1∈S)(j:gQ (S++q.map (·.1)) H' H)(b:∀ p∈q,p.1<H'.next):(H'.ai u).ad q=yK H' ((H.ai u).ad q) (S++q.map (·.1)) (q.map (·.1)):=by
 have d:=rR q (H'.ai u) (by rw [yF];exact b);have c:=uS q (H'.ai u);have f:=LF q (H'.ai u) (H.ai u);have e:=qD q (H'.ai u);have k:=uS q (H.ai u);rw [yF] at d;simp only [Ny] at c k;generalize (H'.ai u).ad q=X at d c f e;obtain ⟨n,l,g⟩:=X;simp only [yK,AHeap.mk.injEq];refine ⟨d,funext λi=>propext ?_,funext λi=>?_⟩
 .rw [show l i↔_ from c i];grind
 .by_cases a:i∈S++q.map (·.1)
  .rw [if_pos a];exact f i (.inr (PD u _ _ i (j i a)))
  .rw [if_neg a];refine (e i λh=>a (by simp only [aQ];exact .inr h)).trans (zT u _ i λp hp he=>a ?_);grind
structure Txt (P:Program) (md:Nat->Bool) (ops:Array Oper) (m nid:Nat) (o:Oper) (e:Nat->D) (H:AHeap) (v:D) (H1:AHeap) (F N:List Nat):Prop where
 cm:H1=yK H H1 F N
 new:∀ id∈N,¬ H.J id/\(id=nid\/(id<m/\H1.J id))
 da:oP md o=false->H1=H
 eg:sV o.op=false->F=[]
 any:∀ e' H',(∀ t∈o.looksAt ops,e' t=e t)->gQ F H' H->nid<H'.next->¬ H'.J nid->(∀ id∈N,id<H'.next/\¬ H'.J id) ->
  rD P md (some m) nid ops e' o H' λv' H2 _=>v'=v/\H2=yK H' H1 F N
theorem P3 {o:Op}(h:sV o=false):IV o=false:=by
 cases o<;>first|rfl|(simp [sV] at h;done)|(simp only [sV] at h;simp only [IV];exact h)
theorem Qn {e:Nat->D}{o:Op}(h:sV o=false):foot nid e o=[]:=by simp [foot,h,P3 h]
theorem D6 {e a:Nat->D}{o:Oper}(h:∀ t∈o.looksAt ops,a t=e t):∀ x∈o.op.operands,fI a x=fI e x:=by
 intro x b;cases x with
 | tmp t=>exact h t (IY b)
 | _=>rfl
theorem CL {e b:Nat->D}{o:Oper}(h:∀ t∈o.looksAt ops,b t=e t):∀ x∈o.op.operands,fI (gE b o.op) x=fI (gE e o.op) x:=by
 intro x d;cases x with
 | tmp t =>
  have a:=h t (IY d);simp only [fI];cases o.op<;>simp only [gE,F3,a]
  rename_i c _ _;cases c<;>simp only [a]
 | _=>rfl
theorem LN {e e':Nat->D}:∀ (l:List Operand),(∀ x∈l,og e' x=og e x)->VU e' l=VU e l
 | [],_=>rfl
 | x :: l,h=>by simp only [VU,h x bS,LN l λy hy=>h y (fg hy)]
theorem Loc.cm {r:AOut}{H:AHeap}{F:List Nat}(h:Loc r r H F nid):r.heap=mD H r.heap F nid:=h.heap
theorem VS {m:Nat}{e:Nat->D}{o:Oper}{H:AHeap}{K:D->AHeap->List Nat->Prop}(h:rD P md (some m) nid ops e o H K)(T:¬ H.J nid)(a0:nid<H.next)(Z:m<=H.next) :
  ∃ v H1 F N,Txt P md ops m nid o e H v H1 F N/\K v H1 F:=by
 unfold rD at h;have s:∀ F:List Nat,H=yK H H F [nid]:=λF=>(LI (λ_ _=>rfl) (cG T)).symm;have a:∀ id∈[nid],¬ H.J id/\∀ H1:AHeap,(id=nid\/(id<m/\H1.J id)):=λid hid=>by
  grind
 have z:∀ {H':AHeap},gQ [] H' H->∀ {F:List Nat},gQ F H' H->yK H' H F [nid]=H':=λ_ _ n=>LI n (cG T);cases L:o.guard with
 | none =>
  simp only [L] at h;cases l:iQ e o with
  | some fa =>
   obtain ⟨f,X⟩:=fa;simp only [l] at h;have hh:sV o.op=true/\Hp md o=EI md o.dst:=by
    unfold iQ at l;split at l
    .rename_i O;unfold Hp;rw [O];exact ⟨rfl,rfl⟩
    .cases l
   rcases h with ⟨r,S,B,G⟩|⟨W,r,S,u,q,Y,hq,B,G⟩
   .refine ⟨r,H,S,[nid],⟨s S,λid hid=>⟨(a id hid).1,(a id hid).2 _⟩,λ_=>rfl,λh=>(by rw [hh.1] at h;cases h),λe' H' k n d E U=>?_⟩,G⟩;unfold rD;simp only [L];rw [rC (D6 k),l];exact .inl ⟨r,S,λH'' hF'=>B H'' λi hi=>(hF' i hi).trans (n i hi),rfl,(z (λ_ h=>by cases h) n).symm⟩
   .have a1:=uS q (H.ai u);refine ⟨r,(H.ai u).ad q,S++q.map (·.1),q.map (·.1),⟨IK Y (λ_ _=>rfl) (λp C=>cH (hq p C).1 Z),λid hid=>?_,λhw=>?_,λh=>(by rw [hh.1] at h;cases h),λe' H' k n d E U=>?_⟩,G⟩
    .obtain ⟨p,C,rfl⟩:=aS.1 hid;exact ⟨(hq p C).2,.inr ⟨(hq p C).1,(a1 _).2 (.inr hid)⟩⟩
    .unfold oP at hw;rw [hh.2,W] at hw;simp at hw
    .unfold rD;simp only [L];rw [rC (D6 k),l];refine .inr ⟨W,r,S,u,q,Y,λp C=>⟨(hq p C).1,(U p.1 (aS.2 ⟨p,C,rfl⟩)).2⟩,λH'' hF' hn''=>B H'' (λi hi=>(hF' i hi).trans (n i (fg hi))) hn'',rfl,?_⟩;exact IK Y n λp C=>(U p.1 (aS.2 ⟨p,C,rfl⟩)).1
  | none =>
   simp only [l] at h;obtain ⟨B,G⟩:=h;have hl:=FT (P:=P) (md:=md) (e:=e) (o:=o) (H:=H) (H':=H) (nid:=nid) (λ_ _=>rfl) T a0;refine ⟨_,_,_,[nid],⟨(PO _ _ _ _) ▸ hl.heap,λid hid=>⟨(a id hid).1,(a id hid).2 _⟩,λhw=>XK (by unfold oP at hw;simp at hw;exact hw.1),λhh=>Qn hh,λe' H' k n d E U=>?_⟩,G (λh=>by cases h)⟩;unfold rD;simp only [L];rw [rC (D6 k),l];simp only;rw [FU (D6 k)];have w:=FT (P:=P) (md:=md) (e:=e) (o:=o) (H:=H) (H':=H') (nid:=nid) n T d;exact ⟨w.cond B,λ_=>⟨w.val,(PO _ _ _ _) ▸ w.heap⟩⟩
 | some jb =>
  obtain ⟨j,b⟩:=jb;simp only [L] at h;cases R:gD ops e j with
  | none=>simp [R] at h
  | some gc =>
   obtain ⟨g,c⟩:=gc;simp only [R] at h;obtain ⟨V,h⟩:=h;have J:∀ e',(∀ t∈o.looksAt ops,e' t=e t)->gD ops e' j=some (g,c):=by
    intro e' k;rw [<- R];unfold gD;cases ht:(ops[j]?).bind (·.dst) with
    | none=>rfl
    | some t=>simp only [k t (P5 L ht)]
   have I:∀ e',(∀ t∈o.looksAt ops,e' t=e t)->VU e' (gO o.op)=VU e (gO o.op):=by
    intro e' k;refine LN _ λx hx=>?_;cases x with
    | tmp t=>simp only [og,k t (IY (aa7 hx))]
    | _=>rfl
   cases l:iQ (gE e o.op) o with
   | some fa =>
    obtain ⟨f,X⟩:=fa;simp only [l] at h;obtain ⟨r,S,B,G⟩:=h;have hh:sV o.op=true:=by
     unfold iQ at l;split at l
     .rename_i O;rw [O];rfl
     .cases l
    refine ⟨_,H,S,[nid],⟨s S,λid hid=>⟨(a id hid).1,(a id hid).2 _⟩,λ_=>rfl,λh=>(by rw [hh] at h;cases h),λe' H' k n d E U=>?_⟩,G⟩;unfold rD;simp only [L,J e' k,I e' k];rw [rC (CL k),l];exact ⟨V,r,S,λhq H'' hF'=>B hq H'' λi hi=>(hF' i hi).trans (n i hi),rfl,(z (λ_ h=>by cases h) n).symm⟩
   | none =>
    simp only [l] at h;obtain ⟨B,G⟩:=h;refine ⟨_,H,_,[nid],⟨s _,λid hid=>⟨(a id hid).1,(a id hid).2 _⟩,λhw=>rfl,λhh=>Qn hh,λe' H' k n d E U=>?_⟩,G (λh=>by cases h)⟩;unfold rD;simp only [L,J e' k,I e' k];rw [rC (CL k),l];simp only;rw [FU (CL k)];have w:=FT (P:=P) (md:=md) (e:=gE e o.op) (o:=o) (H:=H) (H':=H') (nid:=nid) n T d;refine ⟨V,λhq=>⟨w.cond (B hq).1,?_⟩,λ_=>⟨by rw [w.val],(z (λ_ h=>by cases h) n).symm⟩⟩;rw [w.heap,(B hq).2,jK n T]
end
structure Run (P:Program) (md:Nat->Bool) (ops:Array Oper) (sp:List (Nat × Nat)) (n0:Nat) (es:Nat->Nat->D) (Hs:Nat->AHeap) (vs:Nat->D) (Fs Ns:Nat->List Nat) (i0:Nat) (l:List Oper):Prop where
 step:∀ (j:Nat) (o:Oper),l[j]?=some o->es (i0+j+1)=nB (es (i0+j)) o.dst (vs (i0+j))/\Txt P md ops n0 (n0+(i0+j)) o (es (i0+j)) (Hs (i0+j)) (vs (i0+j)) (Hs (i0+j+1)) (Fs (i0+j)) (Ns (i0+j))
 apart:∀ (k j:Nat),k<j->j<l.length->(i0+k,i0+j)∈sp->∀ x∈Fs (i0+k),x∉Fs (i0+j)
theorem MN {P:Program}{md:Nat->Bool}{ops:Array Oper}{sp:List (Nat × Nat)}{n0 nn:Nat}:∀ (l:List Oper) (i:Nat) (acc:List (Nat × List Nat)) (e:Nat->D) (H:AHeap) (K:(Nat->D)->AHeap->Prop),
  kQ P md ops sp n0 i l acc e H K->(∀ id,H.J id->id<n0+i)->H.next=nn->n0+i+l.length<=nn ->
  ∃ (es:Nat->Nat->D) (Hs:Nat->AHeap) (vs:Nat->D) (Fs Ns:Nat->List Nat),es i=e/\Hs i=H/\K (es (i+l.length)) (Hs (i+l.length))/\Run P md ops sp n0 es Hs vs Fs Ns i l /\
   (∀ (j:Nat),j<l.length->∀ p∈acc,(p.1,i+j)∈sp->∀ x∈p.2,x∉Fs (i+j))
 | [],i,acc,e,H,K,h,hal,hnn,hle=>by
  refine ⟨λ_=>e,λ_=>H,λ_=>.junk,λ_=>[],λ_=>[],rfl,rfl,h,⟨λj o h=>by simp at h,λk j _ h=>by simp at h⟩,λj h=>by simp at h⟩
 | o :: l,i,acc,e,H,K,h,hal,hnn,hle=>by
  unfold kQ at h;simp only [cD] at hle;have hn:¬ H.J (n0+i):=λh=>by have:=hal _ h;omega
  have hlt:n0+i<H.next:=bL;obtain ⟨v,H1,F,N,hT,hchk,hrest⟩:=VS h hn hlt bL;have hal1:∀ id,H1.J id->id<n0+(i+1):=λid hid=>by
   rw [hT.cm] at hid;rcases hid with hid|⟨hid,_⟩
   .have:=hal id hid;omega
   .rcases (hT.new id hid).2 with h|⟨h,_⟩<;>omega
  have hnn1:H1.next=nn:=by rw [hT.cm];exact hnn
  obtain ⟨es,Hs,vs,Fs,Ns,he,hH,hK,hrun,hacc⟩:=MN l (i+1) _ _ _ _ hrest hal1 hnn1 bL;refine ⟨λk=>if k=i then e else es k,λk=>if k=i then H else Hs k,λk=>if k=i then v else vs k,λk=>if k=i then F else Fs k,λk=>if k=i then N else Ns k,by simp,by simp,?_,⟨λj o' ho'=>?_,λk j hkj hj hsp=>?_⟩,λj hj p hp hsp=>?_⟩
  .have:i+(o :: l).length≠i:=bS;simp only [this,if_false];rw [show i+(o :: l).length=i+1+l.length by simp;omega];exact hK
  .cases j with
   | zero =>
    simp only [mH,bG] at ho';subst ho';have:i+0+1≠i:=bL;simp only [this,if_false,p7,if_true];rw [show i+1=i+1 from rfl,he,hH];exact ⟨rfl,hT⟩
   | succ j =>
    have h1:i+(j+1)≠i:=bL;have h2:i+(j+1)+1≠i:=bL;simp only [h1,h2,if_false];have:=hrun.step j o' (cG ho');rw [(bL:i+1+j=i+(j+1))] at this;exact this
  .have hj0:i+j≠i:=bL;simp only [hj0,if_false];cases j with
   | zero=>omega
   | succ j =>
    simp only [cD] at hj;by_cases hk:k=0
    .subst hk;simp only [p7,if_true] at hsp ⊢;have:=hacc j bL (i,F) bS;rw [(bL:i+1+j=i+(j+1))] at this;exact this hsp
    .have hk0:i+k≠i:=bL;simp only [hk0,if_false];have:=hrun.apart (k - 1) j bL bL;rw [(bL:i+1+(k - 1)=i+k),(bL:i+1+j=i+(j+1))] at this;exact this hsp
  .cases j with
   | zero =>
    simp only [p7,if_true] at hsp ⊢;unfold chk at hchk;cases sp with
    | nil=>simp at hsp
    | cons a sp=>exact hchk p hp hsp
   | succ j =>
    have h1:i+(j+1)≠i:=bL;simp only [h1,if_false];simp only [cD] at hj;have:=hacc j bL p (fg hp);rw [(bL:i+1+j=i+(j+1))] at this;exact this hsp
end Go.Abs
end
