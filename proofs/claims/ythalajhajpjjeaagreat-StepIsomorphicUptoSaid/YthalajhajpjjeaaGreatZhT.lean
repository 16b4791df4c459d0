/- The step of the program: what the slots of Right give (a map -/
import Derived.Test.YthalajhajpjjeaaGreatZhS
import Derived.Test.YthalajhajpjjeaaGreatZhA
import Derived.Test.YthalajhajpjjeaaGreatZhF
import Derived.Test.YthalajhajpjjeaaGreatZhP
set_option linter.unusedVariables false
set_option linter.unusedSimpArgs false
section
set_option maxRecDepth 100000
set_option maxHeartbeats 4000000
open Go Go.Proofs
namespace Go.Abs
def kF (c:Part)(s:Slot):Int:=c.nodes[s.node.toNat]?.getD 0
def Sc (c:Part)(vs:List Int)(F:FM)(s:Slot):FM:=JY F (kF c s) s.attr (dE s.term vs)
def FA (c:Part)(vs:List Int)(l:List Slot):FM:=l.foldl (Sc c vs) λ_ _=>none
theorem QH (c:Part)(vs:List Int)(l:List Slot)(s:Slot):FA c vs (l++[s])=JY (FA c vs l) (kF c s) s.attr (dE s.term vs):=by unfold FA;rw [jO];rfl
theorem TW (c:Part)(vs:List Int)(u v x:Int):∀ (l:List Slot) (F:FM),l.foldl (Sc c vs) F u v=some x->(∃ s∈l,kF c s=u/\s.attr=v/\dE s.term vs=x)\/F u v=some x
 | [],F,h=>.inr h
 | s :: l,F,h=>by
  rcases TW c vs u v x l _ h with ⟨s',hs',e⟩|h'
  .exact .inl ⟨s',iY _ hs',e⟩
  .unfold Sc JY at h'
   split at h'
   .rename_i he;exact .inl ⟨s,lN ..,he.1.symm,he.2.symm,by simpa using h'⟩
   .exact .inr h'
theorem Am {c:Part}{vs:List Int}{l:List Slot}{u v x:Int}(h:FA c vs l u v=some x):∃ s∈l,kF c s=u/\s.attr=v/\dE s.term vs=x:=by
 rcases TW c vs u v x l _ h with h|h
 .exact h
 .cases h
theorem VD (c:Part)(vs:List Int)(u v:Int):∀ (l:List Slot) (F:FM),((∃ s∈l,kF c s=u/\s.attr=v)\/(F u v).isSome=true)->(l.foldl (Sc c vs) F u v).isSome=true
 | [],F,h=>h.elim (λ⟨s,hs,_⟩=>by cases hs) id
 | s :: l,F,h=>VD c vs u v l _ (by
   by_cases he:kF c s=u/\s.attr=v
   .right;unfold Sc JY;rw [if_pos ⟨he.1.symm,he.2.symm⟩];rfl
   .rcases h with ⟨s',hs',e⟩|h
    .rcases bP.1 hs' with rfl|h2
     .exact absurd e he
     .exact .inl ⟨s',h2,e⟩
    .right;unfold Sc JY;split
     .rfl
     .exact h)
def WR (c:Part)(vs:List Int)(l:List Slot):Prop:=∀ s∈l,∀ s'∈l,kF c s=kF c s'->s.attr=s'.attr->dE s.term vs=dE s'.term vs
theorem PU {c:Part}{vs:List Int}{l:List Slot}(h:WR c vs l){s:Slot}(d:s∈l):FA c vs l (kF c s) s.attr=some (dE s.term vs):=by
 have g:=VD c vs (kF c s) s.attr l (λ_ _=>none) (.inl ⟨s,d,rfl,rfl⟩)
 obtain ⟨x,f⟩:=fQ.1 g
 have a:FA c vs l (kF c s) s.attr=some x:=f
 obtain ⟨e,b,k,j,i⟩:=Am a
 rw [a,<- i,h e b s d k j]
theorem TY {c:Part}{vs:List Int}{l:List Slot}(h:WR c vs l){s:Slot}(m:∀ x,FA c vs l (kF c s) s.attr=some x->x=dE s.term vs):WR c vs (l++[s]):=by
 have d:∀ j∈l,kF c j=kF c s->j.attr=s.attr->dE j.term vs=dE s.term vs:=λj k i g=>by
  have:=PU h k
  rw [i,g] at this
  exact m _ this
 intro a f b e i g
 rw [aV,aW] at f e
 rcases f with f|rfl<;>rcases e with e|rfl
 .exact h a f b e i g
 .exact d a f i g
 .exact (d b e i.symm g.symm).symm
 .rfl
theorem n5 {c:Part}{s:Slot}:eE c s=(kF c s).toNat:=rfl
theorem TC {c:Part}{vs:List Int}{l:List Slot}{i:Nat}(e:i<l.length){x:Int}(h:FA c vs (l.take i) (kF c l[i]) l[i].attr=some x)(m:x≠dE l[i].term vs):t8 c vs l=true:=by
 obtain ⟨o,a,j,g,f⟩:=Am h
 obtain ⟨k,n,rfl⟩:=aK a
 rw [Fe] at j g f
 have d:k<i:=by simp at n;omega
 have b:k<l.length:=aD
 rw [Dv,aZ]
 refine ⟨i,by simpa using e,?_⟩
 rw [aZ]
 refine ⟨k,by simpa using d,?_⟩
 unfold He y6
 simp only [aA b,aA e,n5,j,g,f]
 simp [m]
theorem PB {c:Part}{vs:List Int}{l:List Slot}(g:∀ s∈l,0<=kF c s)(h:WR c vs l):t8 c vs l=false:=by
 rw [Dv,bN]
 intro a
 rw [aZ] at a
 obtain ⟨i,d,a⟩:=a
 rw [aZ] at a
 obtain ⟨k,j,a⟩:=a
 rw [aR] at d j
 have b:k<l.length:=aD
 unfold He y6 at a
 simp only [aA b,aA d,n5,aN,decide_eq_true_eq] at a
 obtain ⟨p,n,m⟩:=a
 have r:=g _ (aC b)
 have q:=g _ (aC d)
 have o:(kF c l[k]).toNat=(kF c l[i]).toNat:=of_decide_eq_true p
 have f:l[k].attr=l[i].attr:=by simpa using n
 have e:dE l[k].term vs≠dE l[i].term vs:=by simpa using m
 exact e (h _ (aC b) _ (aC d) aD f)
/-! ### the values that are set -/
def yH (F:FM)(dn:Int->Int->Bool)(vals:List (List Int)):List (List Int) :=
 (List.range vals.length).map λ(n:Nat)=>(List.range (vals[n]?.getD []).length).map λ(a:Nat)=>if dn n a=true then (F n a).getD 0 else (vals[n]?.getD [])[a]?.getD 0
theorem rO (F:FM)(dn:Int->Int->Bool)(vals:List (List Int)):(yH F dn vals).length=vals.length:=by simp [yH]
theorem pW (F:FM)(dn:Int->Int->Bool)(vals:List (List Int))(n:Nat):((yH F dn vals)[n]?.getD []).length=(vals[n]?.getD []).length:=by
 unfold yH
 by_cases a:n<vals.length
 .simp [aH,dZ a]
 .rw [bE (by simp;omega),bE aD]
theorem yG (F:FM)(dn:Int->Int->Bool)(vals:List (List Int)){n a:Nat}(b:n<vals.length)(c:a<(vals[n]?.getD []).length):((yH F dn vals)[n]?.getD [])[a]?=some (if dn n a=true then (F n a).getD 0 else (vals[n]?.getD [])[a]?.getD 0):=by
 unfold yH
 rw [aH,dZ b,c6,Option.getD_some,aH,dZ c,c6]
theorem FO {x y:List (List Int)}(i:x.length=y.length)(h:∀ n:Nat,(x[n]?.getD []).length=(y[n]?.getD []).length)(g:∀ n a:Nat,n<y.length->a<(y[n]?.getD []).length->(x[n]?.getD [])[a]?=(y[n]?.getD [])[a]?):x=y:=by
 apply eW i
 intro n j c
 have d:x[n]?.getD []=x[n]:=by rw [aA j];rfl
 have b:y[n]?.getD []=y[n]:=by rw [aA c];rfl
 have e:=h n
 rw [d,b] at e
 apply eZ
 intro a
 by_cases f:a<y[n].length
 .have:=g n a c (by rw [b];exact f)
  rwa [d,b] at this
 .rw [bE aD,bE aD]
theorem Rg (F:FM)(vals:List (List Int)){dn:Int->Int->Bool}(h:∀ n a:Nat,n<vals.length->a<(vals[n]?.getD []).length->dn n a=false):yH F dn vals=vals:=by
 refine FO (rO _ _ _) (pW _ _ _) λn a c b=>?_
 rw [yG _ _ _ c b,if_neg (by rw [h n a c b];simp),aA b];rfl
theorem GQ {vals:List (List Int)}{u:Nat}(a:u<vals.length)(r:List Int)(n:Nat):(vals.set u r)[n]?.getD []=if n=u then r else vals[n]?.getD []:=by
 rw [cE]
 split
 .rename_i h;subst h;simp [a]
 .rename_i h;rw [if_neg (λe=>h e.symm)]
theorem Re (F:FM)(vals:List (List Int)){dn dn':Int->Int->Bool}{u a:Nat}{x:Int}(i:u<vals.length)(k:a<(vals[u]?.getD []).length)(g:F u a=some x)(j:∀ n b:Nat,n<vals.length->b<(vals[n]?.getD []).length->dn' n b=(dn n b||(decide (n=u)&&decide (b=a)))) :
  (yH F dn vals).set u (((yH F dn vals)[u]?.getD []).set a x)=yH F dn' vals:=by
 have c:u<(yH F dn vals).length:=by rw [rO];exact i
 refine FO (by rw [c7,rO,rO]) (λn=>?_) λn b d f=>?_
 .rw [GQ c,pW]
  split
  .rename_i h;subst h;rw [c7,pW]
  .rw [pW]
 .rw [rO] at d
  rw [pW] at f
  rw [GQ c,yG _ _ _ d f,j n b d f]
  split
  .rename_i h;subst h
   rw [cE]
   by_cases e:a=b
   .subst e
    rw [if_pos rfl,if_pos (by rw [pW];exact k),if_pos aF,g];rfl
   .rw [if_neg e,yG _ _ _ d f]
    congr 1
    rw [show decide (b=a)=false by simp;omega,Bool.and_false,nU]
  .rename_i h
   rw [yG _ _ _ d f]
   congr 1
   rw [show decide (n=u)=false by simp;omega,Bool.false_and,nU]
theorem F9 {c:Part}{vs:List Int}(vals:List (List Int)):∀ (i:Nat) (l:List Slot),l.length=i->(∀ s∈l,0<=kF c s/\eE c s<vals.length/\0<=s.attr/\s.attr<(vals[eE c s]?.getD []).length) ->
  ∀ n a:Nat,n<vals.length->a<(vals[n]?.getD []).length->((sL c vs l vals)[n]?.getD [])[a]?=some ((FA c vs l n a).getD ((vals[n]?.getD [])[a]?.getD 0))
 | 0,l,hl,hp,n,a,hn,ha=>by
  have:l=[]:=bJ hl
  subst this
  show (vals[n]?.getD [])[a]?=_
  rw [aA ha];rfl
 | i+1,l,hl,hp,n,a,hn,ha=>by
  obtain ⟨l',s,rfl⟩:∃ l' s,l=l'++[s]:=⟨l.dropLast,l.getLast (by intro e;rw [e] at hl;cases hl),(List.dropLast_concat_getLast _).symm⟩
  have ih:=F9 (c:=c) (vs:=vs) vals i l' (by simp at hl;exact hl) (λs' hs'=>hp s' (AA _ hs'))
  obtain ⟨p1,p2,p3,p4⟩:=hp s aF
  obtain ⟨q1,q2⟩:=rN c vs l' vals
  rw [Rd,QH,GQ aD]
  unfold JY
  split
  .rename_i h
   rw [cE]
   by_cases hsa:s.attr.toNat=a
   .rw [if_pos hsa,if_pos (by rw [q2];omega),if_pos ⟨by rw [h,n5];omega,aD⟩];rfl
   .rw [if_neg hsa,if_neg aD,<- h]
    exact ih n a hn ha
  .rename_i h
   rw [if_neg (by rw [n5] at h;omega)]
   exact ih n a hn ha
theorem Rf {c:Part}{vs:List Int}{vals:List (List Int)}{l:List Slot}(g:∀ s∈l,0<=kF c s/\eE c s<vals.length/\0<=s.attr/\s.attr<(vals[eE c s]?.getD []).length)
  {dn:Int->Int->Bool} (h:∀ n a:Nat,n<vals.length->a<(vals[n]?.getD []).length->dn n a=(FA c vs l n a).isSome):yH (FA c vs l) dn vals=sL c vs l vals:=by
 obtain ⟨f,e⟩:=rN c vs l vals
 refine FO (by rw [rO,f]) (λn=>by rw [pW,e]) λn a b d=>?_
 rw [f] at b
 rw [e] at d
 rw [yG _ _ _ b d,F9 vals _ l rfl g n a b d,h n a b d]
 cases FA c vs l n a<;>simp
@[go_sem] theorem WE:o9 (Value.map none)=.junk:=rfl
@[go_sem] theorem Yt:i6 (.const (Value.map none))=false:=rfl
theorem S6:MapT Tryz.prog 288 292 3 :=
 Ux Tryz.underlying288 Tryz.underlying3 Tryz.underlying292 ⟨rfl,rfl,rfl⟩ ⟨rfl,rfl,rfl⟩ (by kernel_rfl) (by kernel_rfl) (by kernel_rfl) ⟨Tryz.prog.types.size - 1,by have:0<Tryz.prog.types.size:=of_decide_eq_true (by kernel_rfl);omega⟩
  (Maps.Keyed.of_law (deep_law_laid (m:=2) (by kernel_rfl) aD (of_decide_eq_true (by kernel_rfl)) (by kernel_rfl) (by kernel_rfl))) (λw=>by kernel_rfl)
def ab5 (co:Part)(vs:List Int)(l:List Slot)(G:AHeap)(d:D)(H':AHeap)(g:MS):Prop :=
 (∀ j,j<G.next->H'.get j=G.get j)/\G.next<=H'.next /\
  ((t8 co vs l=true/\∃ q,d=.tup [q,dI 11])\/(t8 co vs l=false/\∃ b k,d=.tup [.cst (.map (some b)),dI 0]/\g=.mp b k (FA co vs l)))
theorem HG (t:Types)(r:Rule)(hR:RuleV t r)(m:Mat)(h:Host)(x0:Host)(tr p:Part)(hP:PutOk t r x0 p)(O:m.vars.length=r.left.vars.toNat)(N:Sm m.vars)(a b0 V na nb nV:Nat)(G:AHeap) :
  GCalls Tryz.prog 292 3 244 [.agg (eU r m h (.own a na) (.own b0 nb) (.own V nV) tr p)] G (ab5 p m.vars r.right.slots G):=by
 obtain ⟨l,hl⟩:=cC (r.right.slots)
 have Q:=hR.slots
 have W:=hR.few
 have f:=hP.spot
 have u:=hP.attr
 have a6:=hP.cl
 have a8:=hP.few
 rw [<- hl] at Q W f u ⊢
 refine yW Tryz.func244 rfl rfl (by exact aE rfl) ?_
 refine dC λK0 k0=>?_
 refine fU (c:=⟨λt=>t==6||t==9,λr=>match r with|8=>[(0,10),(1,10),(2,10),(3,10),(4,10),(5,10),(6,10),(7,10),(8,10)]|_=>[]⟩) Tz.mixed (by kernel_rfl) ?_
 simp [go_sem,seval,eU]
 repeat first|intro _|refine ⟨eK,?_⟩
 refine k0 _ _ _ ?_
 clear k0 K0
 refine dC λE q=>?_
 refine WpG.region (OpsG.make S6 rfl rfl rfl λb=>?_)
 refine OpsG.all (md:=λ_=>false) rfl λR n=>?_
 simp [go_sem,seval]
 refine n _ _ (q _ _ _ ?_)
 clear n R q E
 refine dC λK3 k3=>?_
 refine dC λz d=>?_
 refine fU (c:=⟨λt=>t==6||t==9,λr=>match r with|8=>[(0,10),(1,10),(2,10),(3,10),(4,10),(5,10),(6,10),(7,10),(8,10)]|_=>[]⟩) Tz.mixed (by kernel_rfl) ?_
 simp [go_sem,seval]
 repeat first|intro _|refine ⟨eK,?_⟩
 refine d _ _ _ ?_
 clear d z
 refine WpG.block ?_
 obtain ⟨I,hI⟩:∃ I:Nat->MS->dA->AHeap->Prop,∀ i g e H,I i g e H↔(e 1=.adr (eU r m h (.own a na) (.own b0 nb) (.own V nV) tr p)/\e 4=.cst (.map (some b))/\e 16=.list (l.map Slot.c)/\e 17=dI l.length/\e 18=dI i/\i<=l.length/\(∃ k,k<=i/\g=.mp b k (FA p m.vars (l.take i)))/\WR p m.vars (l.take i)/\(∀ j,j<G.next->H.get j=G.get j)/\G.next<=H.next):=⟨_,λ_ _ _ _=>Iff.rfl⟩
 refine WpG.loop I (λi=>l.length - i) 0 ((hI _ _ _ _).2 ⟨by simp [go_sem,eU,dLI],by simp [go_sem],by simp [go_sem,hl],by simp [go_sem,hl],by simp [go_sem],aD,⟨0,aD,by simp [FA]⟩,by intro s hs;simp at hs,by intro j hj;simp [go_sem],by simp [go_sem]⟩) λi g e H a3=>?_
 obtain ⟨q1,q4,K,J,B,hi,⟨k,hk,rfl⟩,hE,hG,a0⟩:=(hI _ _ _ _).1 a3
 refine dC λE q=>?_
 refine fU (c:=⟨λt=>t==6||t==9,λr=>match r with|8=>[(0,10),(1,10),(2,10),(3,10),(4,10),(5,10),(6,10),(7,10),(8,10)]|_=>[]⟩) Tz.mixed (by kernel_rfl) ?_
 simp [go_sem,seval,J,B]
 repeat first|intro _|refine ⟨eK,?_⟩
 refine q _ _ _ ?_
 clear q E
 refine dC λE q=>?_
 refine WpG.cond (t:=decide (i<l.length)) (by simp [go_sem]) (λh3=>?_) (λh3=>?_)
 .refine WpG.skip ?_
  simp only [go_sem]
  refine q _ _ _ ?_
  clear q E
  have w:i<l.length:=of_decide_eq_true h3
  obtain ⟨x,F⟩:=cC (l[i])
  have C:x∈l:=F ▸ aC w
  obtain ⟨⟨n1,n2⟩,⟨a1,a2⟩,hT⟩:=Q x C
  obtain ⟨s1,s2,s3⟩:=f x C
  obtain ⟨t1,t2⟩:=u x C
  have S:x.node.toNat<p.nodes.length:=aD
  have U:kF p x=p.nodes[x.node.toNat]:=by unfold kF;rw [aA S];rfl
  have a7:=Fq (vs:=m.vars) (by rw [O];exact hT) N
  have Y:CJ (kF p x):=by rw [n5] at s2;exact ⟨by unfold kF;omega,by unfold kF at *;omega⟩
  have X:CJ x.attr:=⟨aD,by have:=wM hR.vf (x0.graph.nodes[eE p x]?.getD 0);omega⟩
  have a4:CJ (dE x.term m.vars):=⟨aD,aD⟩
  obtain ⟨v,P⟩:=cC (dE x.term m.vars)
  refine dC λE q=>?_
  refine WpG.block ?_
  refine dC λz d=>?_
  refine fU (c:=⟨λt=>t==6||t==9,λr=>match r with|8=>[(0,10),(1,10),(2,10),(3,10),(4,10),(5,10),(6,10),(7,10),(8,10)]|_=>[]⟩) Tz.mixed (by kernel_rfl) ?_
  simp [go_sem,seval,K,B,aA w,<- F,Slot.c]
  repeat first|intro _|refine ⟨eK,?_⟩
  refine d _ _ _ ?_
  clear d z
  refine dC λz d=>?_
  refine fU (c:=⟨λt=>t==6||t==9,λr=>match r with|8=>[(0,10),(1,10),(2,10),(3,10),(4,10),(5,10),(6,10),(7,10),(8,10)]|_=>[]⟩) Tz.mixed (by kernel_rfl) ?_
  simp [go_sem,seval,q1,eU,Slot.c]
  repeat first|intro _|refine ⟨eK,?_⟩
  refine aB (by have hq:=mA x.term m.vars (by rw [O];exact hT) N;rw [<- P] at hq;unfold Term.c dLI at hq;exact hq) (by first|rfl|(simp [go_sem];done)) ?_
  simp [go_sem,seval]
  repeat first|intro _|refine ⟨eK,?_⟩
  refine d _ _ _ ?_
  clear d z
  refine dC λz d=>?_
  refine dC λZ A=>?_
  refine fU (c:=⟨λt=>t==6||t==9,λr=>match r with|8=>[(0,10),(1,10),(2,10),(3,10),(4,10),(5,10),(6,10),(7,10),(8,10)]|_=>[]⟩) Tz.mixed (by kernel_rfl) ?_
  simp [go_sem,seval]
  refine A _ _ _ ?_
  clear A Z
  refine WpG.cond (t:=false) (by simp [go_sem]) (λh=>by cases h) (λ_=>WpG.skip ?_)
  simp only [go_sem]
  refine d _ _ _ ?_
  clear d z
  refine dC λz d=>?_
  refine fU (c:=⟨λt=>t==6||t==9,λr=>match r with|8=>[(0,10),(1,10),(2,10),(3,10),(4,10),(5,10),(6,10),(7,10),(8,10)]|_=>[]⟩) Tz.mixed (by kernel_rfl) ?_
  simp [go_sem,seval,q1,eU,Slot.c,aA S,<- U]
  repeat first|intro _|refine ⟨eK,?_⟩
  refine d _ _ _ ?_
  clear d z
  refine dC λz d=>?_
  refine dC λZ A=>?_
  refine WpG.region ?_
  refine OpsG.take (md:=λt=>t==6||t==9) 2 rfl λR n=>?_
  simp [go_sem,seval,q4]
  repeat first|intro _|refine ⟨eK,?_⟩
  refine n _ _ ?_
  clear n R
  refine Sg (T:=288) S6 rfl rfl rfl rfl (by simp [go_sem]) (by simp [go_sem]) Y X ?_
  refine OpsG.all (md:=λt=>t==6||t==9) rfl λR n=>?_
  simp [go_sem,seval]
  repeat first|intro _|refine ⟨eK,?_⟩
  refine n _ _ (A _ _ _ ?_)
  clear n R A Z
  obtain ⟨o,ho⟩:=cC (FA p m.vars (l.take i) (kF p x) x.attr)
  refine dC λZ A=>?_
  refine fU (c:=⟨λt=>t==6||t==9,λr=>match r with|8=>[(0,10),(1,10),(2,10),(3,10),(4,10),(5,10),(6,10),(7,10),(8,10)]|_=>[]⟩) Tz.mixed (by kernel_rfl) ?_
  simp [go_sem,seval,<- ho]
  repeat first|intro _|refine ⟨eK,?_⟩
  refine A _ _ _ ?_
  clear A Z
  refine WpG.cond (t:=o.isSome&&o.getD 0 != v) (by simp [go_sem]) (λD=>?_) (λD=>?_)
  .refine dC λK5 L=>?_
   refine fU (c:=⟨λt=>t==6||t==9,λr=>match r with|8=>[(0,10),(1,10),(2,10),(3,10),(4,10),(5,10),(6,10),(7,10),(8,10)]|_=>[]⟩) Tz.mixed (by kernel_rfl) ?_
   simp [go_sem,seval]
   refine L _ _ _ ?_
   clear L K5
   refine WpG.ret ?_
   simp [go_sem,Q1]
   refine ⟨λj hj=>?_,?_,.inl ⟨?_,_,rfl⟩⟩
   .have fr1:=b8 (aD:j<H.next)
    simp [go_sem,fr1]
    exact hG j hj
   .simp [go_sem];omega
   .rw [aN] at D
    obtain ⟨y,M⟩:=fQ.1 D.1
    refine TC w (x:=y) (by rw [<- F,<- ho,M]) (λe=>?_)
    have h2:=D.2
    rw [M,<- F,<- P] at *
    simp [e] at h2
  .refine WpG.skip ?_
   simp only [go_sem]
   refine d _ _ _ ?_
   clear d z
   refine WpG.region ?_
   refine OpsG.take (md:=λt=>t==6||t==9) 3 rfl λR n=>?_
   simp [go_sem,seval,q4]
   repeat first|intro _|refine ⟨eK,?_⟩
   refine n _ _ ?_
   clear n R
   refine OpsG.store (T:=288) (c:=v) S6 rfl rfl rfl rfl (by simp [go_sem]) (by simp [go_sem]) (by simp [go_sem]) Y X (P ▸ a4) aD ?_
   refine OpsG.all (md:=λt=>t==6||t==9) rfl λR n=>?_
   simp [go_sem,seval]
   refine n _ _ ?_
   clear n R
   simp only [go_sem]
   refine q _ _ _ ?_
   clear q E
   refine fU (c:=⟨λt=>t==6||t==9,λr=>match r with|8=>[(0,10),(1,10),(2,10),(3,10),(4,10),(5,10),(6,10),(7,10),(8,10)]|_=>[]⟩) Tz.mixed (by kernel_rfl) ?_
   simp [go_sem,seval,B]
   repeat first|intro _|refine ⟨eK,?_⟩
   refine ⟨i+1,aD,(hI _ _ _ _).2 ⟨by simp [go_sem,q1],by simp [go_sem,q4],by simp [go_sem,K],by simp [go_sem,J],by simp [go_sem],aD,⟨k+1,aD,by rw [List.take_succ_eq_append_getElem w,QH,<- F,P]⟩,?_,λj hj=>?_,by simp [go_sem];omega⟩⟩
   .rw [List.take_succ_eq_append_getElem w,<- F]
    refine TY hE λy M=>?_
    rw [<- ho] at M
    rw [M] at D
    simp at D
    rw [D,P]
   .have fr1:=b8 (aD:j<H.next)
    simp [go_sem,fr1]
    exact hG j hj
 .refine WpG.exit ?_
  simp [go_sem]
  refine k3 _ _ _ ?_
  have a5:i=l.length:=by have:=of_decide_eq_false h3;omega
  rw [aY aD] at hE ⊢
  refine dC λK5 L=>?_
  refine fU (c:=⟨λt=>t==6||t==9,λr=>match r with|8=>[(0,10),(1,10),(2,10),(3,10),(4,10),(5,10),(6,10),(7,10),(8,10)]|_=>[]⟩) Tz.mixed (by kernel_rfl) ?_
  simp [go_sem,seval,q4]
  refine L _ _ _ ?_
  clear L K5
  refine WpG.ret ?_
  simp [go_sem,Q1]
  refine ⟨hG,a0,.inr ⟨PB (λs hs=>(f s hs).1) hE,b,k,by simp [go_sem],rfl⟩⟩
theorem Pn {c:Part}{vs:List Int}{l:List Slot}(h:t8 c vs l=false):WR c vs l:=by
 rw [Dv] at h
 have a:∀ (p q:Nat) (d:p<q) (b:q<l.length),kF c l[p]=kF c l[q]->l[p].attr=l[q].attr->dE l[p].term vs=dE l[q].term vs:=λp q d b f e=>by
  refine bA λn=>?_
  have:((List.range l.length).any λi=>(List.range i).any λk=>He c vs l i k)=true:=by
   rw [aZ]
   refine ⟨q,by simpa using b,?_⟩
   rw [aZ]
   refine ⟨p,by simpa using d,?_⟩
   unfold He y6
   simp only [aA (aD:p<l.length),aA b,n5,f,e]
   simp [n]
  rw [h] at this;cases this
 intro s j o g f e
 obtain ⟨p,m,rfl⟩:=aK j
 obtain ⟨q,b,rfl⟩:=aK g
 rcases Nat.lt_trichotomy p q with h1|h1|h1
 .exact a p q h1 b f e
 .subst h1;rfl
 .exact (a q p h1 m f.symm e.symm).symm
theorem QT (t:Types)(ht:t.ok)(r:Rule)(hR:RuleV t r)(m:Mat)(h o:Host)(tr p:Part)(hP:PutOk t r o p)(d3:m.vars.length=r.left.vars.toNat)(d1:Sm m.vars)(G:AHeap)(s a b0 V:Nat)(S:List Nat)
  (hs:G.get s=some ⟨53,38,[eU r m h (.own a o.graph.nodes.length) (.own b0 o.graph.edges.length) (.own V o.values.length) tr p],false⟩) (c6:HH G 0 a b0 V S o) (d7:∀ j∈a :: b0 :: V :: S,j≠s) (d8:s<G.next) (Q:D->AHeap->Prop)
  (a2:∀ H',xJ t o.graph p m.vars r.right.slots≠0->(∀ j,j<G.next->j∉a :: b0 :: V :: S->H'.get j=G.get j)->G.next<=H'.next->Q (dI (xJ t o.graph p m.vars r.right.slots)) H')
  (hQ:∀ H',xJ t o.graph p m.vars r.right.slots=0->HH H' 0 a b0 V S ⟨o.graph,sL p m.vars r.right.slots o.values⟩->(∀ j,j<G.next->j∉a :: b0 :: V :: S->H'.get j=G.get j)->G.next<=H'.next->Q (dI 0) H') :
  ACalls Tryz.prog 147 [t.d,.ptr s 1 0 0] G Q:=by
 obtain ⟨l,hl⟩:=cC (r.right.slots)
 have hA:=HG t r hR m h o tr p hP d3 d1 a b0 V o.graph.nodes.length o.graph.edges.length o.values.length G
 have a3:=hR.slots
 have A:=hP.spot
 have L:=hP.attr
 have g4:=hP.few
 rw [<- hl] at a3 A L a2 hQ hA
 refine In (P:=Tryz.prog) (K:=292) (E:=3) (Q:=λd H' _=>Q d H') ?_ (λ_ _ _ h=>h)
 refine yW Tryz.func147 rfl rfl (by exact aE rfl) ?_
 refine dC λO B=>?_
 refine fU (c:=⟨λt=>t==7,λ_=>[]⟩) Tz.mixed (by kernel_rfl) ?_
 simp [go_sem,seval]
 refine B _ _ _ ?_
 clear B O
 refine dC λO B=>?_
 refine WpG.region ?_
 refine OpsG.take (md:=λt=>t==7) 3 rfl λR J=>?_
 simp [go_sem,seval,hs,eU]
 repeat first|intro _|refine ⟨eK,?_⟩
 refine J _ _ ?_
 clear J R
 refine OpsG.call (f:=244) (args:=[.agg (eU r m h (.own a o.graph.nodes.length) (.own b0 o.graph.edges.length) (.own V o.values.length) tr p)]) (by simp [go_sem,f7,eU]) rfl rfl hA λd H1 g1 hq=>?_
 obtain ⟨b5,a9,b3⟩:=hq
 rcases b3 with ⟨a1,q,rfl⟩|⟨a1,b,k,rfl,rfl⟩
 .refine OpsG.all (md:=λt=>t==7) rfl λR J=>?_
  simp [go_sem,seval]
  repeat first|intro _|refine ⟨eK,?_⟩
  refine J _ _ (B _ _ _ ?_)
  clear J R B O
  refine dC λK2 k2=>?_
  refine dC λK4 U=>?_
  refine fU (c:=⟨λt=>t==7,λ_=>[]⟩) Tz.mixed (by kernel_rfl) ?_
  simp [go_sem,seval]
  refine U _ _ _ ?_
  clear U K4
  refine WpG.cond (t:=true) (by simp [go_sem]) (λ_=>?_) (λhc=>by cases hc)
  refine dC λK5 k5=>?_
  refine fU (c:=⟨λt=>t==7,λ_=>[]⟩) Tz.mixed (by kernel_rfl) ?_
  simp [go_sem,seval]
  refine k5 _ _ _ ?_
  clear k5 K5
  refine WpG.ret ?_
  simp [go_sem,Q1]
  have hE:xJ t o.graph p m.vars l=11:=by unfold xJ;rw [if_pos a1]
  rw [hE] at a2
  exact a2 _ (by decide) (λj Z _=>b5 j Z) a9
 .refine OpsG.all (md:=λt=>t==7) rfl λR J=>?_
  simp [go_sem,seval]
  repeat first|intro _|refine ⟨eK,?_⟩
  refine J _ _ (B _ _ _ ?_)
  clear J R B O
  refine dC λK2 k2=>?_
  refine dC λK4 U=>?_
  refine fU (c:=⟨λt=>t==7,λ_=>[]⟩) Tz.mixed (by kernel_rfl) ?_
  simp [go_sem,seval]
  refine U _ _ _ ?_
  clear U K4
  refine WpG.cond (t:=false) (by simp [go_sem]) (λhc=>by cases hc) (λ_=>WpG.skip ?_)
  simp only [go_sem]
  refine k2 _ _ _ ?_
  clear k2 K2
  have a5:xJ t o.graph p m.vars l=if l.any (Ao t o.graph p m.vars)=true then 6 else 0:=by unfold xJ;rw [if_neg (by rw [a1];simp)]
  refine dC λK3 k3=>?_
  refine dC λK4 U=>?_
  refine WpG.region ?_
  refine OpsG.take (md:=λt=>t==7) 1 rfl λR J=>?_
  simp [go_sem,seval]
  refine J _ _ ?_
  clear J R
  refine OpsG.range (T:=288) S6 rfl rfl rfl rfl (by simp [go_sem]) λrr xO=>?_
  refine OpsG.nil (U _ _ _ ?_)
  clear U K4
  have N:∀ x∈l,CJ (kF p x)/\CJ x.attr:=λx M=>by
   obtain ⟨s1,s2,s3⟩:=A x M
   obtain ⟨t1,t2⟩:=L x M
   have:=wM hR.vf (o.graph.nodes[eE p x]?.getD 0)
   have h0:=(a3 x M).2.1.1
   rw [n5] at s2
   exact ⟨⟨by unfold kF;omega,by unfold kF at *;omega⟩,aD,aD⟩
  refine WpG.block ?_
  obtain ⟨F,hF⟩:=cC (FA p m.vars l)
  rw [<- hF]
  obtain ⟨I,hI⟩:∃ I:Nat->MS->dA->AHeap->Prop,∀ i g e H,I i g e H↔(∃ z d0,g=.rg b rr F z i d0/\e 1=.ptr s 1 0 0/\e 2=.adr t.c/\e 22=.cst (Ea rr) /\
   HH H 0 a b0 V S ⟨o.graph,yH F (λu v=>(F u v).isSome&&!z u v) o.values⟩/\(∀ x∈l,z (kF p x) x.attr=false->Ao t o.graph p m.vars x=false)/\(∀ j,j<G.next->j∉a :: b0 :: V :: S->H.get j=G.get j)/\G.next<=H.next):=⟨_,λ_ _ _ _=>Iff.rfl⟩
  refine WpG.loop I (λi=>i) xO ((hI _ _ _ _).2 ⟨_,_,rfl,by simp [go_sem],by simp [go_sem],by simp [go_sem],?_,?_,λj Z _=>b5 j Z,a9⟩) λi g e H e7=>?_
  .rw [Rg]
   .exact c6.same a9 (λj Z=>b5 j (c6.rng j Z).2)
   .intro n v _ _;cases F n v<;>rfl
  .intro x M hf
   have:=PU (c:=p) (vs:=m.vars) (l:=l) (s:=x) (Pn a1) M
   rw [<- hF] at this
   rw [this] at hf;cases hf
  obtain ⟨z,d0,rfl,q1,q2,a6,hh,hO,hG,e0⟩:=(hI _ _ _ _).1 e7
  refine dC λO B=>?_
  refine WpG.region ?_
  refine OpsG.next S6 rfl rfl rfl (by simp [go_sem,a6]) (λhd=>?_) (λu v c i' hu hv f9 b6 e5=>?_)
  .refine OpsG.all (md:=λt=>t==7) rfl λR J=>?_
   simp [go_sem,seval]
   refine J _ _ (B _ _ _ ?_)
   clear J R B O
   refine dC λO B=>?_
   refine WpG.cond (t:=false) (by simp [go_sem]) (λhc=>by cases hc) (λ_=>WpG.exit ?_)
   simp [go_sem]
   refine k3 _ _ _ ?_
   refine dC λK5 k5=>?_
   refine fU (c:=⟨λt=>t==7,λ_=>[]⟩) Tz.mixed (by kernel_rfl) ?_
   simp [go_sem,seval]
   refine k5 _ _ _ ?_
   clear k5 K5
   refine WpG.ret ?_
   simp [go_sem,Q1]
   have c9:l.any (Ao t o.graph p m.vars)=false:=by
    rw [bN]
    intro hT
    obtain ⟨x,M,hT⟩:=aZ.1 hT
    rw [hO x M (hd _ _ (N x M).1 (N x M).2)] at hT;cases hT
   rw [if_neg (by rw [c9];simp)] at a5
   have hV:=Rf (c:=p) (vs:=m.vars) (vals:=o.values) (l:=l) (λx M=>⟨(A x M).1,(A x M).2.1,(a3 x M).2.1.1,(L x M).1⟩) (dn:=λu v=>(F u v).isSome&&!z u v) (λn v _ _=>by
    rw [<- hF]
    cases f2:F n v with
    | none=>rfl
    | some y =>
     obtain ⟨x,M,e1,e2,_⟩:=Am (c:=p) (vs:=m.vars) (l:=l) (by rw [<- hF];exact f2)
     have:=hd _ _ (N x M).1 (N x M).2
     rw [e1,e2] at this
     simp [this])
   rw [<- hF] at hV
   rw [hV] at hh
   exact hQ _ a5 hh hG e0
  .refine OpsG.all (md:=λt=>t==7) rfl λR J=>?_
   simp [go_sem,seval]
   refine J _ _ (B _ _ _ ?_)
   clear J R B O
   refine dC λO B=>?_
   refine WpG.cond (t:=true) (by simp [go_sem]) (λ_=>WpG.skip ?_) (λhc=>by cases hc)
   simp only [go_sem]
   refine B _ _ _ ?_
   clear B O
   refine WpG.block ?_
   refine dC λO B=>?_
   refine WpG.region ?_
   refine OpsG.entry rfl rfl rfl (by simp [go_sem,a6]) ?_
   refine OpsG.all (md:=λt=>t==7) rfl λR J=>?_
   simp [go_sem,seval]
   repeat first|intro _|refine ⟨eK,?_⟩
   refine J _ _ (B _ _ _ ?_)
   clear J R B O
   obtain ⟨x,W,e1,e2,e3⟩:=Am (c:=p) (vs:=m.vars) (l:=l) (by rw [<- hF];exact b6)
   obtain ⟨s1,s2,s3⟩:=A x W
   obtain ⟨t1,t2⟩:=L x W
   have a0:=(a3 x W).2.1.1
   obtain ⟨n,hn⟩:=cC (eE p x)
   rw [<- hn] at s2 s3 t1 t2
   have d4:u=(n:Int):=by rw [<- e1,hn,n5];unfold kF at *;omega
   subst d4
   obtain ⟨w,hw⟩:∃ w:Nat,v=(w:Int):=⟨v.toNat,aD⟩
   subst hw
   have c1:H.get s=some ⟨53,38,[eU r m h (.own a o.graph.nodes.length) (.own b0 o.graph.edges.length) (.own V o.values.length) tr p],false⟩:=by rw [hG s d8 (λhm=>d7 s hm rfl)];exact hs
   have e8:=hh.ga
   have c8:=hh.gV
   have f6:=hh.rng a hh.a_in
   have f8:=hh.rng V hh.V_in
   obtain ⟨nd,c3⟩:∃ y,y=o.graph.nodes[n]:=⟨_,rfl⟩
   have Y:o.graph.nodes[n]?.getD 0=nd:=by rw [c3,aA s3];rfl
   rw [Y] at t2
   have b4:w<(bM t nd).length:=aD
   have b7:=And.intro (b8 (aD:s<H.next)) (And.intro (b8 (aD:a<H.next)) (b8 (aD:V<H.next)))
   have g3:=r9 ht nd
   refine dC λO B=>?_
   refine fU (c:=⟨λt=>t==7,λ_=>[]⟩) Tz.mixed (by kernel_rfl) ?_
   simp [go_sem,seval,q1,q2,c1,e8,eU,b7,aA s3,<- c3]
   repeat first|intro _|refine ⟨eK,?_⟩
   refine aM (pS t ht nd) (by first|rfl|(simp [go_sem];done)) ?_
   simp [go_sem,seval]
   repeat first|intro _|refine ⟨eK,?_⟩
   refine B _ _ _ ?_
   clear B O
   refine dC λK2 k2=>?_
   refine dC λK4 U=>?_
   refine fU (c:=⟨λt=>t==7,λ_=>[]⟩) Tz.mixed (by kernel_rfl) ?_
   simp [go_sem,seval,b7,aA b4,Attr.c]
   repeat first|intro _|refine ⟨eK,?_⟩
   refine U _ _ _ ?_
   clear U K4
   have C:=hh
   obtain ⟨dn,b1⟩:=cC (λu v=>(F u v).isSome&&!z u v)
   rw [<- b1] at C
   have c0:(yH F dn o.values).length=o.values.length:=rO ..
   have c5:n<(yH F dn o.values).length:=aD
   have e4:n<S.length:=by rw [C.len];exact c5
   obtain ⟨q,hq⟩:=cC (S[n])
   obtain ⟨vr,d2⟩:∃ v,v=(yH F dn o.values)[n]:=⟨_,rfl⟩
   have g1:S[n]?=some q:=by rw [aA e4,hq]
   have g2:(yH F dn o.values)[n]?=some vr:=by rw [aA c5,d2]
   have c2:=uM g1 g2
   have c7:=C.gq _ _ _ g1 g2
   have b9:vr.length=(o.values[n]?.getD []).length:=by rw [<- pW F dn o.values n,g2];rfl
   have a8:w<vr.length:=aD
   have X:q∈S:=aI g1
   have f4:=C.rng q (C.q_in X)
   have d9:=k9 C.len
   rw [<- b1] at c8
   have f3:=b8 (aD:q<H.next)
   have f1:Ao t o.graph p m.vars x=(decide (c<(bM t nd)[w].low)||decide ((bM t nd)[w].high<c)):=by
    unfold Ao;rw [<- hn,Y,(aD:x.attr.toNat=w),aA b4,e3];rfl
   refine WpG.cond (t:=decide (c<(bM t nd)[w].low)||decide ((bM t nd)[w].high<c)) (by simp [go_sem]) (λe9=>?_) (λf0=>WpG.skip ?_)
   .refine dC λK5 k5=>?_
    refine fU (c:=⟨λt=>t==7,λ_=>[]⟩) Tz.mixed (by kernel_rfl) ?_
    simp [go_sem,seval]
    refine k5 _ _ _ ?_
    clear k5 K5
    refine WpG.ret ?_
    simp [go_sem,Q1]
    have hT:l.any (Ao t o.graph p m.vars)=true:=aZ.2 ⟨_,W,by rw [f1];exact e9⟩
    rw [if_pos hT] at a5
    rw [a5] at a2
    refine a2 _ (by decide) (λj Z a4=>?_) (by first|(simp [go_sem];done)|(simp [go_sem];omega))
    simp [go_sem,(aD:j≠H.next)];exact hG j Z a4
   .simp only [go_sem]
    refine k2 _ _ _ ?_
    clear k2 K2
    refine fU (c:=⟨λt=>t==7,λ_=>[]⟩) Tz.mixed (by kernel_rfl) ?_
    have c4:n<o.values.length:=aD
    have f5:=C.qn X
    simp [go_sem,seval,q1,c1,c8,eU,b7,f3,c2,c7,d9,c0]
    refine ⟨c4,a8,?_⟩
    simp [go_sem,aA a8,cI]
    repeat first|intro _|refine ⟨eK,?_⟩
    refine ⟨i',e5,(hI _ _ _ _).2 ⟨_,_,rfl,by simp [go_sem,q1],by simp [go_sem,q2],by simp [go_sem,a6],?_,?_,?_,by first|(simp [go_sem];done)|(simp [go_sem];omega)⟩⟩
    .have hst:=Re F o.values (dn:=dn) (dn':=λu v=>(F u v).isSome&&!(z u v&&(!decide (u=(n:Int))||!decide (v=(w:Int))))) c4 (by rw [<- b9];exact a8) b6 (λn2 b2 _ _=>by
      rw [b1]
      by_cases e1:n2=n
      .by_cases e2:b2=w
       .subst e1;subst e2;simp [b6]
       .have e3':¬ ((b2:Int)=w):=aD
        subst e1;simp [e2,e3']
      .have e3':¬ ((n2:Int)=n):=aD
       simp [e1,e3'])
     rw [g2] at hst
     rw [<- hst]
     exact C.rowSet (by first|(simp [go_sem];done)|(simp [go_sem];omega)) g1 g2 aF (by simp [go_sem,c7,dU,cI]) (λj Z e6=>by
      have g0:=(C.rng j Z).2
      simp [go_sem,e6,(aD:j≠H.next)])
    .intro y hy hyf
     cases hL:z (kF p y) y.attr with
     | false=>exact hO y hy hL
     | true =>
      have a7:kF p y=(n:Int)/\y.attr=(w:Int):=by rw [hL] at hyf;simpa using hyf
      have d6:eE p y=n:=by rw [n5,a7.1];rfl
      have d5:dE y.term m.vars=c:=by rw [<- e3];exact Pn a1 y hy x W (by rw [a7.1,e1]) (by rw [a7.2,e2])
      unfold Ao
      rw [d6,Y,(aD:y.attr.toNat=w),aA b4,d5];exact f0
    .intro j Z a4
     simp [go_sem,(aD:j≠H.next),show j≠q from λe=>a4 (e ▸ C.q_in X)];exact hG j Z a4
theorem U3 {d:List Int}(c:d.Pairwise (· < ·)){n:Nat}{x:Int}(f:0<=x)(e:x<n)(b:x∈d):∃ p:Nat,p<d.length/\(zA d n)[x.toNat]?=some (p:Int):=by
 obtain ⟨p,a,rfl⟩:=aK b
 refine ⟨p,a,?_⟩
 rw [pA _ aD,show ((d[p].toNat:Nat):Int)=d[p] by omega,oI (nM c) a]
theorem TI {a d:List Int}{n:Nat}(i:d.Pairwise (· < ·)){k:Int}(l:0<=k)(j:k<a.length)(c:0<=iA a k/\iA a k<n)(g:iA a k∈d):∃ p:Nat,p<d.length/\(uE a (mM d n))[k.toNat]?.getD 0=p:=by
 obtain ⟨p,f,h⟩:=U3 i c.1 c.2 g
 have b:k.toNat<a.length:=aD
 have e:iA a k=a[k.toNat]:=by unfold iA;rw [aA b];rfl
 refine ⟨p,f,?_⟩
 unfold uE mM
 rw [aH,aA b,c6,Option.getD_some,<- e,h];rfl
theorem Jw {keep a at_:List Int}{b:Nat}(d:a.Nodup)(o:keep.length=a.length)(l:∀ k∈keep,∃ p:Nat,p<b/\at_[k.toNat]?.getD 0=p)(i:Nat) :
  Lg keep a at_ b i=((b+(bF a i).length:Nat):Int)↔mem a i=false:=by
 have f:=JE d (i:Int)
 have j:=Hi a i a.length
 unfold Lg
 cases g:mem a i with
 | true =>
  rw [g] at f
  have m:¬ iM a a.length i<0:=by simpa using f
  have c:(iM a a.length i).toNat<keep.length:=aD
  obtain ⟨p,n,h⟩:=l _ (aC c)
  rw [if_pos aD,aA c,Option.getD_some,h]
  constructor
  .intro e;omega
  .intro e;cases e
 | false =>
  rw [g] at f
  have m:iM a a.length i<0:=by simpa using f
  rw [if_neg aD,Ks d];simp
theorem Qy {keep b at_:List Int}{a c i:Nat}(h:i<a):(N4 keep b at_ a c)[i]?.getD 0=Lg keep b at_ c i:=by
 unfold N4;simp [h]
section
variable {t:Types} {r:Rule} {h:Host} {m:Mat}
theorem StepIn.keptE (S:StepIn t r h m){k:Int}(a:k∈r.keep.edges):iA m.m.edges k∈(bY r h m).edges:=by
 have c:=S.hR.keep
 have g:=S.hm.elen
 have b:=c.2.2.1 k a
 have f:=u6 S.dup.2 b.1 aD a
 rw [S.rest]
 have d:=S.hm.eimg k.toNat aD
 have e:iA m.m.edges k=m.m.edges[k.toNat]' aD:=by unfold iA;rw [aA aD];rfl
 exact fC.2 ⟨by rw [e];exact d,f⟩
theorem StepIn.kN (S:StepIn t r h m):∀ k∈r.keep.nodes,(0<=k/\k<m.m.nodes.length)/\(0<=iA m.m.nodes k/\iA m.m.nodes k<h.graph.nodes.length)/\∃ p:Nat,p<(bY r h m).nodes.length/\(uE m.m.nodes (dJ r h m).nodes)[k.toNat]?.getD 0=p:=λk hk=>by
 have hr:=S.hR.keep.2.1 k hk
 have hl:=S.hm.len
 have hi:=S.nin _ (S.keptN hk)
 exact ⟨aD,hi,TI S.nasc hr.1 aD hi (S.keptN hk)⟩
theorem StepIn.kE (S:StepIn t r h m):∀ k∈r.keep.edges,(0<=k/\k<m.m.edges.length)/\(0<=iA m.m.edges k/\iA m.m.edges k<h.graph.edges.length)/\∃ p:Nat,p<(bY r h m).edges.length/\(uE m.m.edges (dJ r h m).edges)[k.toNat]?.getD 0=p:=λk hk=>by
 have hr:=S.hR.keep.2.2.1 k hk
 have hl:=S.hm.elen
 have hi:=S.ein _ (S.keptE hk)
 exact ⟨aD,hi,TI S.easc hr.1 aD hi (S.keptE hk)⟩
theorem StepIn.frN (S:StepIn t r h m):∀ i,i<r.right.graph.nodes.length->((dO r h m).nodes[i]?.getD 0=(((bY r h m).nodes.length+(bF r.into.nodes i).length:Nat):Int)↔mem r.into.nodes i=false):=λi hi=>by
 have:=Jw S.intoN.1 S.hR.keep.1.1 (λk hk=>(S.kN k hk).2.2) i
 unfold dO;simp only
 rw [Qy hi];exact this
theorem StepIn.frE (S:StepIn t r h m):∀ i,i<r.right.graph.edges.length->((dO r h m).edges[i]?.getD 0=(((bY r h m).edges.length+(bF r.into.edges i).length:Nat):Int)↔mem r.into.edges i=false):=λi hi=>by
 have:=Jw S.intoN.2 S.hR.keep.1.2 (λk hk=>(S.kE k hk).2.2) i
 unfold dO;simp only
 rw [Qy hi];exact this
theorem StepIn.bdE (S:StepIn t r h m):bdE h (bY r h m) (dJ r h m) (bY r h m).edges.length=⟨b5 h.graph (bY r h m),(bY r h m).nodes.map λk=>h.values[k.toNat]?.getD []⟩:=by
 unfold Go.Abs.bdE b5
 rw [if_pos S.sub,aY (bC _)]
 congr 2
 refine bW λk e=>?_
 obtain ⟨d,c⟩:=pT S.sub e
 have a:∀ v:Int,v∈(bY r h m).nodes->iA (dJ r h m).nodes v=(pY (bY r h m).nodes v:Int):=λv b=>by
  have f:=S.nin v b
  unfold iA dJ mM
  simp only
  rw [pA _ aD,Option.getD_some,show ((v.toNat:Nat):Int)=v by omega,Ai S.nasc,if_pos ((cQ _ _).2 b)]
 unfold trE
 rw [a _ d,a _ c];rfl
theorem StepIn.grow (S:StepIn t r h m):Ca t r (dO r h m) (Go.Abs.bdE h (bY r h m) (dJ r h m) (bY r h m).edges.length)=bI t r h m:=by
 rw [S.bdE];rfl
end
theorem Uu {t:Types}{r:Rule}{h:Host}{m:Mat}(a:EG t r h m=0):checkE t r.left.graph h.graph m.m r.inj=0/\(eL t r.left h m.m).2=0/\(eL t r.left h m.m).1=m.vars:=by
 unfold EG at a
 split at a
 .cases a
 .rename_i h1
  split at a
  .exact absurd a (by assumption)
  .rename_i h2
   split at a
   .cases a
   .rename_i h3
    exact ⟨by simpa using h1,by simpa using h2,by simpa using h3⟩
theorem Tv {t:Types}{r:Rule}(h:ruleF t r=0):condF t r.left r.cond=0:=by
 unfold ruleF at h
 split at h
 .exact absurd h (by assumption)
 .split at h
  .cases h
  .split at h
   .exact absurd h (by assumption)
   .split at h
    .exact absurd h (by assumption)
    .split at h
     .exact absurd h (by assumption)
     .split at h
      .cases h
      .exact h
def uH (t:Types)(r:Rule)(h:Host)(m:Mat):Stp26:=if jC t r h m=0 then b9 t r h m else sK
theorem VS {P:Program}{f:FuncId}{args:List D}{r:D}(a:r.cl=true)(h:∀ Q:D->AHeap->Prop,(∀ d H',(iV H' d).cl=true->(iV H' d=r\/Rl (iV H' d)=r)->Q d H')->ACalls P f args .emp Q):Pure P f args r:=by
 refine SM a λQ c=>ACalls.deep (h _ λd H' e b=>c _ _ ?_)
 rw [P1 _ e];exact b
theorem Oj (t:Types)(T:t.ok)(r:Rule)(hr:r.ok)(U:ruleF t r=0)(h:Host)(b8:fA t h=0)(m:Mat):Pure Tryz.prog 58 [t.d,r.d,h.d,m.d] (.tup [.agg (uH t r h m).c,dI (jC t r h m)]):=by
 refine VS (by simp [go_sem,D.cl,D.clL,Stp26.cl]) λQ G=>?_
 have w:=LQ hr U
 have N:=hostOk b8
 have e5:=Tv U
 refine (aG (cfg:=⟨λt=>t==8||t==11||t==13||t==15,λr=>match r with|15=>[(0,2),(2,3),(0,4),(0,6),(1,6),(2,6),(3,6),(4,6)]|16=>[(6,7),(6,8),(6,9),(6,10),(6,11),(6,12)]|17=>[(20,21),(20,22),(20,23),(20,24),(20,25),(20,26),(20,27),(20,28),(20,29),(20,30),(20,31),(20,32),(20,33),(20,34),(20,35),(20,36),(20,37),(20,38),(20,39),(20,40)]|_=>[]⟩) Tz.mixed Tryz.func58 rfl rfl (aE rfl) (by kernel_rfl) ?_)
 have Y:=wa @Host.d.eq_1 (wa @Host.c.eq_1 (wa @Mat.d.eq_1 @Mat.c.eq_1))
 refine wv (h:=aB (JU t T r h m) wl ?_)
 refine d7 (λh2=>?_) λh2=>?_
 .have b:jC t r h m=EG t r h m:=by unfold jC pX;rw [Mn,if_pos h2];simp [h2]
  have f:uH t r h m=sK:=by unfold uH;rw [if_neg aD]
  refine wv (h:=?_)
  refine G _ _ (by simp [go_sem,iV,kD,oY,eM,D.cl,D.clL]) (by first|(left;(simp [go_sem,iV,kD,oY,eM,b,f,sK,sQ,uR,mO,Stp26.c,Rule.c,Mat.c,Host.c,Cond.kind,Cond.kids,Cond.map,Cond.pattern,dLI,dI]);done)|(right;(simp [go_sem,iV,kD,oY,eM,b,f,sK,sQ,uR,mO,Stp26.c,Rule.c,Mat.c,Host.c,Cond.kind,Cond.kids,Cond.map,Cond.pattern,dLI,dI]);done))
 .have hp0:vV t r h m=tJ (nI r.left.graph h.graph m.m) h.graph r.keep m.m:=by rw [Mn,if_neg aD]
  obtain ⟨c2,d5,b0⟩:=Uu (aD:EG t r h m=0)
  have o:=PC c2
  have b7:Kv t r.left.graph h.graph m.m=nI r.left.graph h.graph m.m:=by unfold Kv;rw [if_pos o]
  have W:=vY (Ae o).2
  have e0:=cJ w.pl.gg
  have d9:=cJ w.gr
  have e4:=cJ N.gg
  have d6:=W.len
  have c9:=W.elen
  have d8:=w.kl
  have d4:=N.vl
  have b1:∀ v∈h.values,v.length<=100000:=λv hv=>by have:=(N.row v hv).1;omega
  have Y:=wa Y (wa o b7)
  refine wv (h:=aB (EB t T r.left.graph h.graph m.m) wl ?_)
  refine wv (h:=aB (If (nI r.left.graph h.graph m.m) h.graph r.keep m.m aD aD aD aD aD) wl ?_)
  refine d7 (λh8=>?_) λh8=>?_
  .have hpe:vV t r h m≠0:=aD
   have b:jC t r h m=vV t r h m:=by unfold jC pX;rw [if_pos hpe,if_pos hpe]
   have f:uH t r h m=sK:=by unfold uH;rw [if_neg aD]
   refine wv (h:=?_)
   refine G _ _ (by simp [go_sem,iV,kD,oY,eM,D.cl,D.clL]) (by first|(left;(simp [go_sem,iV,kD,oY,eM,b,hp0,f,sK,sQ,uR,mO,Stp26.c,Rule.c,Mat.c,Host.c,Cond.kind,Cond.kids,Cond.map,Cond.pattern,dLI,dI]);done)|(right;(simp [go_sem,iV,kD,oY,eM,b,hp0,f,sK,sQ,uR,mO,Stp26.c,Rule.c,Mat.c,Host.c,Cond.kind,Cond.kids,Cond.map,Cond.pattern,dLI,dI]);done))
  .have hpre:vV t r h m=0:=aD
   have S:=JW w N hpre
   have s:=Rt S hpre
   have hP:AP (nI r.left.graph h.graph m.m) h.graph r.keep m.m=bY r h m:=rfl
   have c3:U0 t r.left r.cond h m r.inj=0:=by
    unfold U0;rw [if_neg aD,if_neg aD,if_neg aD,if_neg aD,if_neg (by rw [b0];simp)]
   have F:pX t r h m=if (qR t h r.inj r.cond m).2≠0 then (qR t h r.inj r.cond m).2 else if (qR t h r.inj r.cond m).1=false then 16 else 0:=by unfold pX;rw [if_neg aD]
   have Y:=wa Y hP
   refine wv (h:=aB ((by have M:=Av t T r.left r.cond hr.cond w.cond w.pl h N m s r.inj c3;simp only [Cond.c_eq] at M;unfold Types.d Types.c Pattern.d Pattern.c Host.d Host.c Mat.d Mat.c dLI dI at M;exact M)) wl ?_)
   refine d7 (λL=>?_) λL=>?_
   .have b:jC t r h m=(qR t h r.inj r.cond m).2:=by unfold jC;rw [F,if_pos L];simp [L]
    have f:uH t r h m=sK:=by unfold uH;rw [if_neg aD]
    refine wv (h:=?_)
    refine G _ _ (by simp [go_sem,iV,kD,oY,eM,D.cl,D.clL]) (by first|(left;(simp [go_sem,iV,kD,oY,eM,b,f,sK,sQ,uR,mO,Stp26.c,Rule.c,Mat.c,Host.c,Cond.kind,Cond.kids,Cond.map,Cond.pattern,dLI,dI]);done)|(right;(simp [go_sem,iV,kD,oY,eM,b,f,sK,sQ,uR,mO,Stp26.c,Rule.c,Mat.c,Host.c,Cond.kind,Cond.kids,Cond.map,Cond.pattern,dLI,dI]);done))
   .refine vJ (λK=>?_) λK=>?_
    .have b:jC t r h m=16:=by
      have:(qR t h r.inj r.cond m).1=false:=by simpa using K
      have V:pX t r h m=16:=by rw [F,if_neg aD,if_pos this]
      unfold jC;rw [if_pos aD,V]
     have f:uH t r h m=sK:=by unfold uH;rw [if_neg aD]
     refine wv (h:=?_)
     refine G _ _ (by simp [go_sem,iV,kD,oY,eM,D.cl,D.clL]) (by first|(left;(simp [go_sem,iV,kD,oY,eM,b,f,sK,sQ,uR,mO,Stp26.c,Rule.c,Mat.c,Host.c,Cond.kind,Cond.kids,Cond.map,Cond.pattern,dLI,dI]);done)|(right;(simp [go_sem,iV,kD,oY,eM,b,f,sK,sQ,uR,mO,Stp26.c,Rule.c,Mat.c,Host.c,Cond.kind,Cond.kids,Cond.map,Cond.pattern,dLI,dI]);done))
    .have V:pX t r h m=0:=by
      have a5:(qR t h r.inj r.cond m).1=true:=by simpa using K
      rw [F,if_neg aD,if_neg (by rw [a5];simp)]
     have hK:=w.keep
     have z:=S.kN
     have A:=S.kE
     obtain ⟨l,g⟩:=cC (dJ r h m)
     obtain ⟨u,a⟩:=cC (dO r h m)
     have a3:mM (bY r h m).nodes h.graph.nodes.length=l.nodes:=by rw [g];rfl
     have a2:mM (bY r h m).edges h.graph.edges.length=l.edges:=by rw [g];rfl
     have R:l.nodes.length=h.graph.nodes.length:=by rw [<- a3];exact rH _ _
     have c7:l.edges.length=h.graph.edges.length:=by rw [<- a2];exact rH _ _
     rw [<- g] at z A
     have c5:N4 r.keep.nodes r.into.nodes (uE m.m.nodes l.nodes) r.right.graph.nodes.length (bY r h m).nodes.length=u.nodes:=by rw [a,g];rfl
     have c4:N4 r.keep.edges r.into.edges (uE m.m.edges l.edges) r.right.graph.edges.length (bY r h m).edges.length=u.edges:=by rw [a,g];rfl
     have c1:=S.len
     have a9:=s.vl
     have a8:Sm m.vars:=λv hv=>by have:=s.vs v hv;omega
     have d0:=w.pl.vars
     have a1:u.nodes.length=r.right.graph.nodes.length:=by rw [a];simp [dO,N4]
     have a0:u.edges.length=r.right.graph.edges.length:=by rw [a];simp [dO,N4]
     have X:=S.frN
     have Z:=S.frE
     have hB:=S.grow
     rw [<- a] at X Z hB
     rw [<- g] at hB
     have Y:=wa Y (wa a3 (wa a2 (wa c5 c4)))
     refine wv (h:=aM (Fv m aD aD aD) wl ?_)
     refine wv (h:=aM (HF h aD aD aD b1) wl ?_)
     refine wp (h:=aM (Fr h.graph.nodes.length aD (bY r h m).nodes S.nasc aD) wl ?_)
     refine wp (h:=aM (Fr h.graph.edges.length aD (bY r h m).edges S.easc aD) wl ?_)
     refine wp (h:=aM (Bv r.right.graph.nodes.length aD r.keep.nodes r.into.nodes m.m.nodes l.nodes (bY r h m).nodes.length aD aD hK.2.2.2.1 (λx n=>(z x n).1) (λx n=>by have:=(z x n).2.1;omega) (λx n=>by obtain ⟨p,_,hp⟩:=(z x n).2.2;omega)) wl ?_)
     refine wp (h:=aM (Bv r.right.graph.edges.length aD r.keep.edges r.into.edges m.m.edges l.edges (bY r h m).edges.length aD aD hK.2.2.2.2 (λx n=>(A x n).1) (λx n=>by have:=(A x n).2.1;omega) (λx n=>by obtain ⟨p,_,hp⟩:=(A x n).2.2;omega)) wl ?_)
     refine wp (h:=?_)
     refine Cw (.step (.step (.step (.refl _) 9 0 31 3 1 _ _ (by simp [go_sem];rfl) rfl rfl rfl) 9 0 32 122 3 _ _ (by simp [go_sem];rfl) rfl rfl rfl) 9 0 33 26 1 _ _ (by simp [go_sem];rfl) rfl rfl rfl) ?_
     simp [go_sem]
     unfold g5
     refine Oi t T r w m h N (bY r h m) l u S.nin S.ein c1 R ⟨a1,a0⟩ X Z 9 73 74 75 _ (by simp [go_sem,eU,dLI]) ⟨by simp [go_sem],by simp [go_sem],by simp [go_sem,mS],rfl,λi q v h1 _=>by simp at h1,by simp,λq M=>by simp at M;rcases M with rfl|rfl|rfl<;>simp [go_sem]⟩ (by simp [go_sem]) aF (λj hj b=>?_) _ (λqs H1 a4 C b3 b2 c0 b5=>?_)
     .simp [go_sem,tN,zD,TN,TO] at b hj;omega
     rw [hB] at a4 C
     have c8:76<=H1.next:=by simp [go_sem] at b5;omega
     have k0:=c0 0 (by simp [go_sem]) aF
     simp [go_sem] at k0
     have y:∀ j,j<73->j∉73 :: 74 :: 75 :: qs:=λj hj hm=>by
      simp only [bP] at hm
      rcases hm with h|h|h|h
      .omega
      .omega
      .omega
      .have:=b2 j h;simp [go_sem] at this;omega
     refine wp (h:=?_)
     unfold g5
     refine QT t T r w m h (bI t r h m) l u (a ▸ S.put) a9 a8 H1 9 73 74 75 qs C a4 b3 aD _ (λH2 I B b4=>?_) (λH2 I H B b4=>?_)
     .have m0:=(B 0 aD (y 0 aD)).trans k0
      have b:jC t r h m=xJ t (bI t r h m).graph u m.vars r.right.slots:=by unfold jC;rw [if_neg aD,<- a,if_pos I]
      have f:uH t r h m=sK:=by unfold uH;rw [if_neg aD]
      simp [go_sem,seval,m0]
      refine aP (λhc=>?_) (λhc=>absurd (bS hc) I)
      simp [go_sem,seval,m0]
      refine G _ _ (by simp [go_sem,iV,kD,oY,eM,D.cl,D.clL]) (by first|(left;(simp [go_sem,iV,kD,oY,eM,b,f,sK,sQ,uR,mO,Stp26.c,Rule.c,Mat.c,Host.c,Cond.kind,Cond.kids,Cond.map,Cond.pattern,dLI,dI]);done)|(right;(simp [go_sem,iV,kD,oY,eM,b,f,sK,sQ,uR,mO,Stp26.c,Rule.c,Mat.c,Host.c,Cond.kind,Cond.kids,Cond.map,Cond.pattern,dLI,dI]);done))
     have m0:=(B 0 aD (y 0 aD)).trans k0
     have m9:=(B 9 aD (y 9 aD)).trans C
     simp only [eU] at m9
     have a7:H2.get 73=some ⟨3,1,(bI t r h m).graph.nodes.map cI,false⟩:=H.ga
     have a6:H2.get 74=some ⟨122,3,(bI t r h m).graph.edges.map Edge.c,false⟩:=H.gb
     have Y:=wa Y (wa m0 (wa m9 (wa a7 a6)))
     refine vJ (λJ=>?_) λJ=>?_
     .have b:jC t r h m=3:=by
       unfold jC;rw [if_neg aD,<- a,if_neg aD,if_pos (by first|exact J|omega)]
      have f:uH t r h m=sK:=by unfold uH;rw [if_neg aD]
      refine wv (h:=?_)
      refine G _ _ (by simp [go_sem,iV,kD,oY,eM,D.cl,D.clL]) (by first|(left;(simp [go_sem,iV,kD,oY,eM,b,f,sK,sQ,uR,mO,Stp26.c,Rule.c,Mat.c,Host.c,Cond.kind,Cond.kids,Cond.map,Cond.pattern,dLI,dI]);done)|(right;(simp [go_sem,iV,kD,oY,eM,b,f,sK,sQ,uR,mO,Stp26.c,Rule.c,Mat.c,Host.c,Cond.kind,Cond.kids,Cond.map,Cond.pattern,dLI,dI]);done))
     .have b:jC t r h m=0:=by
       unfold jC;rw [if_neg aD,<- a,if_neg aD,if_neg (by first|exact J|omega)]
      have f:uH t r h m=b9 t r h m:=by unfold uH;rw [if_pos b]
      have hW:dR t r h m=⟨(bI t r h m).graph,sL u m.vars r.right.slots (bI t r h m).values⟩:=by rw [a];rfl
      have P:=(rN u m.vars r.right.slots (bI t r h m).values).1
      have c6:∀ k:Blk,Q (.tup [.agg (eU r m h (.own 73 (bI t r h m).graph.nodes.length) (.own 74 (bI t r h m).graph.edges.length) (.own 75 (bI t r h m).values.length) l u),dI 0]) (H2.put 0 k):=λk=>by
       obtain ⟨E,hE⟩:=cC (H2.put 0 k)
       have h5:HH E 0 73 74 75 qs (dR t r h m):=by
        rw [hW];exact H.same (by rw [hE];simp [go_sem]) (λj hj=>by
         have b6:j≠0:=λe=>y 0 aD (e ▸ hj)
         rw [hE];simp [go_sem,b6])
       have hd:=h5.deep
       have e1:(dR t r h m).graph.nodes.length=(bI t r h m).graph.nodes.length:=by rw [hW]
       have e2:(dR t r h m).graph.edges.length=(bI t r h m).graph.edges.length:=by rw [hW]
       have e3:(dR t r h m).values.length=(bI t r h m).values.length:=by rw [hW];exact P
       rw [e1,e2,e3] at hd
       simp only [kD,gS,lO,Host.d,Host.c,D.agg.injEq,List.cons.injEq,and_true] at hd
       obtain ⟨d1,d2,d3⟩:=hd
       have O:iV E (.tup [.agg (eU r m h (.own 73 (bI t r h m).graph.nodes.length) (.own 74 (bI t r h m).graph.edges.length) (.own 75 (bI t r h m).values.length) l u),dI 0])=.tup [.agg (uH t r h m).c,dI (jC t r h m)]:=by
        rw [b,f]
        simp only [iV,kD,eU,gS,lO,d1,d2,d3]
        simp [kD,oY,eM,b9,Stp26.c,Rule.c,Mat.c,Host.c,dLI,dI,g,a]
       rw [<- hE]
       exact G _ _ (by rw [O];simp [go_sem,D.cl,D.clL,Stp26.cl]) (.inl O)
      refine wv (h:=?_)
      exact c6 _
theorem Dm {t:Types}{r:Rule}{h:Host}(a:fV t r h=0):ruleF t r=0/\fA t h=0:=by
 unfold fV at a
 split at a
 .exact absurd a (by assumption)
 .rename_i h1;exact ⟨by simpa using h1,a⟩
theorem Bw (t:Types)(g:t.ok)(r:Rule)(i:r.ok)(a:ruleF t r=0)(h:Host)(b:fA t h=0)(m:Mat){v:Stp26}{e:Int}(f:v=uH t r h m)(j:e=jC t r h m):Pure Tryz.prog 58 [t.d,r.d,h.d,m.d] (.tup [.agg v.c,dI e]):=by
 subst f j;exact Oj t g r i a h b m
theorem Fw (t:Types)(j:t.ok)(r:Rule)(k:r.ok)(h:Host)(m:Mat):Pure Tryz.prog 15 [t.d,r.d,h.d,m.d] (.tup [.agg (pU t r h m).c,dI (wN t r h m)]):=by
 obtain ⟨v,i⟩:=cC (uH t r h m)
 obtain ⟨e,f⟩:=cC (jC t r h m)
 refine Tz.pK ⟨λt=>t==8,λ_=>[]⟩ Tryz.func15 rfl (λQ l=>?_)
 have Y:=wa @Host.d.eq_1 (wa @Host.c.eq_1 (wa @Mat.d.eq_1 (wa @Mat.c.eq_1 @Stp26.c.eq_1)))
 refine wv (h:=aB (Fu t j r k h) wl ?_)
 refine d7 (λn=>?_) λn=>?_
 .have a:wN t r h m=fV t r h:=by unfold wN;rw [if_pos n]
  have g:pU t r h m=sK:=by unfold pU;rw [if_neg aD]
  exact wv (h:=l _ _ (by simp [go_sem,a,g,sK,sQ,uR,mO,Stp26.c,Rule.c,Mat.c,Host.c,Cond.kind,Cond.kids,Cond.map,Cond.pattern,dLI,dI]))
 .have hz:=Dm (aD:fV t r h=0)
  have a:wN t r h m=e:=by rw [f];unfold wN;rw [if_neg aD]
  have g:pU t r h m=v:=by rw [i];unfold pU uH;rw [a,f]
  refine wv (h:=aB ((by have b:=Bw t j r k hz.1 h hz.2 m i f;simp only [Stp26.c,Rule.c,Mat.c,Host.c,gU,fR] at b;unfold Mat.d Mat.c Host.d Host.c dLI at b;exact b)) wl ?_)
  exact wv (h:=l _ _ (by simp [go_sem,a,g,Stp26.c,Rule.c,Mat.c,Host.c]))
theorem wT (t:Types)(q:t.ok)(r:Rule)(z:r.ok)(h:Host):Pure Tryz.prog 24 [t.d,r.d,h.d] (.tup [.list ((sM t r h).1.map Mat.c),dI (sM t r h).2]):=by
 refine Tz.pK ⟨λt=>t==11||t==13||t==14,λ_=>[]⟩ Tryz.func24 rfl (λQ w=>?_)
 have Y:=wa @Host.d.eq_1 @Host.c.eq_1
 refine wv (h:=aB (Fu t q r z h) wl ?_)
 refine d7 (λD=>?_) λD=>?_
 .have hS:sM t r h=([],fV t r h):=by unfold sM;rw [if_pos D]
  exact wv (h:=w _ _ (by simp [go_sem,hS]))
 .have hz:=Dm (aD:fV t r h=0)
  refine wv (h:=aB (Cz t q r.left h r.inj) wl ?_)
  refine d7 (λC=>?_) λC=>?_
  .have hS:sM t r h=([],(f6 t r.left h r.inj).2):=by unfold sM;rw [if_neg aD,if_pos C]
   exact wv (h:=w _ _ (by simp [go_sem,hS]))
  .have hS:sM t r h=((f6 t r.left h r.inj).1.filter λm=>decide (jC t r h m=0),0):=by unfold sM;rw [if_neg aD,if_neg aD]
   have x:=D5 t r.left h r.inj
   obtain ⟨L,B⟩:=cC ((f6 t r.left h r.inj).1)
   rw [<- B] at hS x
   have Y:=wa Y (Eq.symm B)
   refine wp (h:=bV (λi e H=>∃ g:List Mat,(e 3=.adr t.c/\e 4=.adr r.c/\e 5=.adr h.c/\e 36=.list (L.map Mat.c)/\e 37=dI L.length/\e 11=.own 0 g.length/\e 38=dI i)/\(H.get 0=some ⟨46,3,g.map Mat.c,false⟩)/\(0<H.next)/\(i<=L.length)/\(g=(L.take i).filter λm=>decide (jC t r h m=0))/\(g.length<=i)) (λi=>L.length - i) 0 ⟨([]),wg,wn,wn,wi,(by rfl),(by simp)⟩ λJ n i e H u=>?_)
   obtain ⟨g,G,p,k,I,f,F⟩:=u
   have Y:=wa Y (wa G (wa p (b8 k)))
   refine d7 (λo=>?_) λo=>?_
   .obtain ⟨v,E⟩:=cC (uH t r h L[i])
    obtain ⟨e,A⟩:=cC (jC t r h L[i])
    obtain ⟨b,a⟩:∃ y,y=g++[L[i]].filter λm=>decide (jC t r h m=0):=⟨_,rfl⟩
    have l:jC t r h L[i]=e:=A.symm
    have Y:=wa Y (wa o (wa (aA o) (wa @Mat.c.eq_1 @Stp26.c.eq_1)))
    refine wp (h:=aB ((by have s:=Bw t q r z hz.1 h hz.2 L[i] E A;simp only [Stp26.c,Rule.c,Mat.c,Host.c,gU,fR] at s;unfold Mat.d Mat.c Host.d Host.c dLI at s;exact s)) wl ?_)
    refine vJ (λj=>?_) λj=>?_
    .have hm3:b=g++[L[i]]:=by rw [a,List.filter_cons_of_pos (by rw [l];simpa using j)];rfl
     have Y:=wa Y hm3
     exact wp (h:=wx n (i+1) ⟨b,wg,wn,wn,wj,(by rw [List.take_succ_eq_append_getElem o,gA,<- f,a]),(by rw [hm3];first|(simp;omega)|omega)⟩)
    .have hm3:b=g:=by rw [a,List.filter_cons_of_neg (by rw [l];simpa using j)];simp
     have Y:=wa Y hm3
     exact wp (h:=wx n (i+1) ⟨b,wg,wn,wn,wj,(by rw [List.take_succ_eq_append_getElem o,gA,<- f,a]),(by rw [hm3];first|(simp;omega)|omega)⟩)
   .rw [aY aD] at f
    exact wv (h:=w _ _ (by simp [go_sem,Y,hS,<- f]))
theorem Kf (t:Types)(g:∀ n∈t.nodes,n.attrs.length<=1000000000000000)(r:Rule)(e:r.le)(h:Host):Pure Tryz.prog 13 [t.d,r.d,h.d] (.bool (light26 t r h)):=by
 refine Tz.pK ⟨λ_=>false,λ_=>[]⟩ Tryz.func13 rfl (λQ f=>?_)
 have Y:=wa @Host.c.eq_1 (wa @Rule.c.eq_1 @Cond.c_eq)
 refine wo (h:=aB (IG t g) wl ?_)
 refine wo (h:=aO (λa=>(by have b:=Q6 r e;simpa [Rule.d,Rule.c,Cond.c_eq,go_sem] using b)) (λa=>wl) ?_)
 refine wo (h:=aO (λa=>(by have b:=L9 t (KH (by simp at a;exact a.1)) r.left r.cond e.cond h;rwa [Cond.c_eq] at b)) (λa=>wl) ?_)
 have Y:=wa Y @light26.eq_1
 exact wo (h:=f _ _ wy)
theorem O4 {t:Types}{r:Rule}{h:Host}(a:light26 t r h=true):t.ok/\r.ok:=by
 unfold light26 at a
 simp only [aN] at a
 exact ⟨KH a.1.1,Qr a.1.2⟩
theorem SY (l:List ByteArray):eI (l.map cS)=l.map cS:=kI λc hc=>by
 rw [aQ] at hc;obtain ⟨x,_,rfl⟩:=hc;rfl
theorem Rk (l:List Attr):eI (l.map Attr.c)=l.map Attr.c:=kI λc hc=>by
 rw [aQ] at hc;obtain ⟨x,_,rfl⟩:=hc
 simp [Attr.c,kJ,oM,qA,dI,SY]
theorem C8 (l:List NodeTy):eI (l.map NodeTy.c)=l.map NodeTy.c:=kI λc hc=>by
 rw [aQ] at hc;obtain ⟨x,_,rfl⟩:=hc
 simp [NodeTy.c,kJ,oM,dI,Rk]
theorem D3 (l:List EdgeTy):eI (l.map EdgeTy.c)=l.map EdgeTy.c:=kI λc hc=>by
 rw [aQ] at hc;obtain ⟨x,_,rfl⟩:=hc
 simp [EdgeTy.c,kJ,oM,dI]
theorem Pure.nzk {P:Program}{f:FuncId}{args args':List D}{r:D}(c:Pure P f args' r)(i:args.map oM=args'):Pure P f args r:=by
 subst i
 refine ⟨c.1,λM w a k b=>c.2 M w a k ⟨by simpa using b.len,λj u d h e=>?_⟩⟩
 rw [aH,bL] at e
 obtain ⟨y,g,rfl⟩:=e
 exact Qf (b.rep j u y h g)
def exT:Types:=⟨[⟨⟨#[65,99,99,111,117,110,116]⟩,-1,true,[⟨⟨#[98,97,108,97,110,99,101]⟩,-1000,1000,[]⟩]⟩,⟨⟨#[67,97,115,104]⟩,0,false,[]⟩,⟨⟨#[76,111,97,110]⟩,0,false,[⟨⟨#[115,116,97,116,101]⟩,0,1,[⟨#[111,112,101,110]⟩,⟨#[99,108,111,115,101,100]⟩]⟩]⟩,⟨⟨#[80,101,114,115,111,110]⟩,-1,false,[]⟩],
 [⟨⟨#[111,119,110,115]⟩,3,0,0,-1,1,1⟩,⟨⟨#[112,97,121,115]⟩,1,1,0,-1,0,-1⟩]⟩
theorem AJ:Pure Tryz.prog 51 [] exT.d:=by
 refine tT (by first|rfl|(simp [go_sem];done)) (λQ a=>(aG (cfg:=⟨λt=>t==0,λ_=>[]⟩) Tz.mixed Tryz.func51 rfl rfl (aE rfl) (by kernel_rfl) ?_))
 have Y:=trivial
 refine Io (h:=?_)
 exact a _ _ (by simp [go_sem,exT,Types.d,Types.c,NodeTy.c,EdgeTy.c,Attr.c,qA,cS,dI])
def payR:Rule:=⟨⟨#[112,97,121]⟩,⟨⟨[1,1],[]⟩,[⟨0,0,⟨0,0⟩⟩,⟨1,0,⟨1,0⟩⟩],2,[]⟩,⟨⟨[1,1],[⟨1,0,1⟩]⟩,[⟨0,0,⟨0,-3⟩⟩,⟨1,0,⟨1,3⟩⟩],2,[]⟩,⟨[0,1],[]⟩,⟨[0,1],[]⟩,true,.mk 1 [] ⟨[],[]⟩ uR⟩
theorem Ja:Pure Tryz.prog 52 [] payR.d:=by
 refine tT (by first|rfl|(simp [go_sem];done)) (λQ a=>(aG (cfg:=⟨λt=>t==0||t==1||t==2||t==3,λ_=>[]⟩) Tz.mixed Tryz.func52 rfl rfl (aE rfl) (by kernel_rfl) ?_))
 have Y:=trivial
 refine Io (h:=?_)
 exact a _ _ (by simp [go_sem,payR,uR,Rule.d,Rule.c,Cond.kind,Cond.kids,Cond.map,Cond.pattern,Slot.c,Edge.c,dLI,cI,dI])
def payH:Host:=⟨⟨[3,1,1],[⟨0,0,1⟩,⟨0,0,2⟩]⟩,[[],[10],[5]]⟩
def Kq:Mat:=⟨⟨[1,2],[]⟩,[10,5]⟩
theorem UP:u7 exT=true:=by decide +kernel
theorem SR:fewR payR=true:=by decide +kernel
theorem abL:wN exT payR payH Kq=0:=by decide +kernel
theorem abK:(sM exT payR payH).2=0:=by decide +kernel
theorem abJ:(sM exT payR payH).1.length=2:=by decide +kernel
theorem abI:(pU exT payR payH Kq).after.values=[[],[7],[8]]:=by decide +kernel
theorem abH:(pU exT payR payH Kq).after.graph.edges.length=3:=by decide +kernel
theorem abG:(pU exT payR payH Kq).track.nodes=[0,1,2]/\(pU exT payR payH Kq).track.edges=[0,1]:=by decide +kernel
theorem wW (a:List Int):Pure Tryz.prog 96 [dLI a,dLI a] (.bool true):=by
 refine Tz.pK ⟨λ_=>false,λ_=>[]⟩ Tryz.func96 rfl (λQ f=>?_)
 have Y:=trivial
 refine wo (h:=bV (λi e H=>(e 0=dLI a/\e 1=dLI a/\e 5=dI i)/\(i<=a.length)) (λi=>a.length - i) 0 ⟨wg,wi⟩ λk d i e H c=>?_)
 obtain ⟨g,j⟩:=c
 have Y:=wa Y g
 refine wv (h:=?_)
 repeat first|intro _|refine ⟨gL,?_⟩
 refine wq (λb=>?_) λb=>?_
 .have Y:=wa Y (wa b (aA b))
  exact wo (h:=wx d (i+1) ⟨wg,wj⟩)
 .have Y:=wa Y b
  exact wv (h:=f _ _ wy)
theorem Mg (p:Part):Pure Tryz.prog 33 [p.d,p.d] (.bool true):=by
 refine Tz.pK ⟨λ_=>false,λ_=>[]⟩ Tryz.func33 rfl (λQ b=>?_)
 have Y:=trivial
 refine wo (h:=aB (wW p.nodes) wl ?_)
 refine wo (h:=aO (λa=>wW p.edges) (λa=>wl) ?_)
 exact wo (h:=b _ _ wy)
theorem D9:Pure Tryz.prog 12 [] (.bool true):=by
 have a:=KH UP
 have b:=Qr SR
 have f:=Fw exT a payR b payH Kq
 have e:=wT exT a payR b payH
 rw [abL] at f
 rw [abK] at e
 have m:=abJ
 have l:=abI
 have k:=abH
 obtain ⟨j,i⟩:=abG
 generalize pU exT payR payH Kq=v at *
 generalize (sM exT payR payH).1=L at *
 refine Tz.pK ⟨λt=>t==1||t==2||t==3,λr=>match r with|3=>[(0,8),(1,8),(2,8),(3,8),(4,8)]|_=>[]⟩ Tryz.func12 rfl (λQ g=>?_)
 have Y:=wa @Stp26.c.eq_1 (wa @Rule.c.eq_1 (wa @Mat.c.eq_1 (wa @Host.c.eq_1 (wa l (wa k (wa j (wa i m)))))))
 refine Io (h:=aM (AJ) wl ?_)
 refine Io (h:=aM (Ja) wl ?_)
 refine Io (h:=aM (f.nzk (by simp [go_sem,C8,D3,payR,payH,Kq,uR,Rule.d,Rule.c,Types.d,Types.c,Host.d,Host.c,Mat.d,Mat.c,Slot.c,Edge.c,cL,dLI,cI,dI,Cond.kind,Cond.kids,Cond.map,Cond.pattern,oM,kJ,eI])) wl ?_)
 refine Io (h:=aM (AJ) wl ?_)
 refine Io (h:=aM (Ja) wl ?_)
 refine Io (h:=aM (e.nzk (by simp [go_sem,C8,D3,payR,payH,Kq,uR,Rule.d,Rule.c,Types.d,Types.c,Host.d,Host.c,Mat.d,Mat.c,Slot.c,Edge.c,cL,dLI,cI,dI,Cond.kind,Cond.kids,Cond.map,Cond.pattern,oM,kJ,eI])) wl ?_)
 refine Lh (h:=aM (FY payH.graph (by decide) (by decide)) wl ?_)
 refine Lh (h:=aM (Mg ⟨[0,1,2],[0,1]⟩) wl ?_)
 exact Lh (h:=g _ _ wy)
deriving instance DecidableEq for Edge
deriving instance DecidableEq for Graph
deriving instance DecidableEq for Part
deriving instance DecidableEq for Host
deriving instance DecidableEq for Mat
def VF (a b:List Int):Prop:=∃ k:Int,Pure Tryz.prog 107 [dLI a,dLI b] (dI k)/\(k=0↔a=b)
theorem Bx (t:Types)(b:t.ok)(r:Rule)(f:r.ok)(h:Host)(m:Mat){v:Stp26}{e:Int}(a:v=pU t r h m)(g:e=wN t r h m):Pure Tryz.prog 15 [t.d,r.d,h.d,m.d] (.tup [.agg v.c,dI e]):=by
 subst a g;exact Fw t b r f h m
end Go.Abs
end
