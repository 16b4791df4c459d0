/- The step of the program: what the slots of Right give (a map -/
import Derived.Test.YthalajhajpjjeaaGreatZeT
import Derived.Test.YthalajhajpjjeaaGreatZeA
import Derived.Test.YthalajhajpjjeaaGreatZeF
import Derived.Test.YthalajhajpjjeaaGreatZeQ
import Derived.Test.YthalajhajpjjeaaGreatZeK
import Derived.Test.YthalajhajpjjeaaGreatZeL
set_option linter.unusedVariables false
set_option linter.unusedSimpArgs false
section
set_option maxRecDepth 100000
set_option maxHeartbeats 4000000
open Go Go.Proofs
namespace Go.Abs
def kK (c:Part)(s:Slot):Int:=c.nodes[s.node.toNat]?.getD 0
def Oo (c:Part)(vs:List Int)(F:FM)(s:Slot):FM:=Hr F (kK c s) s.attr (cD s.term vs)
def FA (c:Part)(vs:List Int)(l:List Slot):FM:=l.foldl (Oo c vs) fun _ _=>none
theorem Ni (c:Part)(vs:List Int)(l:List Slot)(s:Slot):FA c vs (l++[s])=Hr (FA c vs l) (kK c s) s.attr (cD s.term vs):=by unfold FA;rw [C8];rfl
theorem PO (c:Part)(vs:List Int)(u v x:Int):∀ (l:List Slot) (F:FM),l.foldl (Oo c vs) F u v=some x→(∃ s∈l,kK c s=u∧s.attr=v∧cD s.term vs=x)∨F u v=some x
 | [],F,h=>.inr h
 | s :: l,F,h=>by
  rcases PO c vs u v x l _ h with ⟨s',hs',e⟩|h'
  ·exact .inl ⟨s',dH _ hs',e⟩
  ·unfold Oo Hr at h'
   split at h'
   ·rename_i he;exact .inl ⟨s,kL ..,he.1.symm,he.2.symm,by simpa using h'⟩
   ·exact .inr h'
theorem Da {c:Part}{vs:List Int}{l:List Slot}{u v x:Int}(h:FA c vs l u v=some x):∃ s∈l,kK c s=u∧s.attr=v∧cD s.term vs=x:=by
 rcases PO c vs u v x l _ h with h|h
 ·exact h
 ·cases h
theorem Rf (c:Part)(vs:List Int)(u v:Int):∀ (l:List Slot) (F:FM),((∃ s∈l,kK c s=u∧s.attr=v)∨(F u v).isSome=true)→(l.foldl (Oo c vs) F u v).isSome=true
 | [],F,h=>h.elim (fun ⟨s,hs,_⟩=>by cases hs) id
 | s :: l,F,h=>Rf c vs u v l _ (by
   by_cases he:kK c s=u∧s.attr=v
   ·right;unfold Oo Hr;rw [if_pos ⟨he.1.symm,he.2.symm⟩];rfl
   ·rcases h with ⟨s',hs',e⟩|h
    ·rcases aT.1 hs' with rfl|h2
     ·exact absurd e he
     ·exact .inl ⟨s',h2,e⟩
    ·right;unfold Oo Hr;split
     ·rfl
     ·exact h)
def Tg (c:Part)(vs:List Int)(l:List Slot):Prop:=∀ s∈l,∀ s'∈l,kK c s=kK c s'→s.attr=s'.attr→cD s.term vs=cD s'.term vs
theorem PN {c:Part}{vs:List Int}{l:List Slot}(h:Tg c vs l){s:Slot}(hs:s∈l):FA c vs l (kK c s) s.attr=some (cD s.term vs):=by
 have h1:=Rf c vs (kK c s) s.attr l (fun _ _=>none) (.inl ⟨s,hs,rfl,rfl⟩)
 obtain ⟨x,hx⟩:=jI.1 h1
 have hx':FA c vs l (kK c s) s.attr=some x:=hx
 obtain ⟨s',hs',e1,e2,e3⟩:=Da hx'
 rw [hx',← e3,h s' hs' s hs e1 e2]
theorem PQ {c:Part}{vs:List Int}{l:List Slot}(h:Tg c vs l){s:Slot}(h1:∀ x,FA c vs l (kK c s) s.attr=some x→x=cD s.term vs):Tg c vs (l++[s]):=by
 have key:∀ s'∈l,kK c s'=kK c s→s'.attr=s.attr→cD s'.term vs=cD s.term vs:=fun s' hs' e1 e2=>by
  have:=PN h hs'
  rw [e1,e2] at this
  exact h1 _ this
 intro a ha b hb e1 e2
 rw [aY,bL] at ha hb
 rcases ha with ha|rfl<;>rcases hb with hb|rfl
 ·exact h a ha b hb e1 e2
 ·exact key a ha e1 e2
 ·exact (key b hb e1.symm e2.symm).symm
 ·rfl
theorem mL {c:Part}{s:Slot}:eU c s=(kK c s).toNat:=rfl
theorem Py {c:Part}{vs:List Int}{l:List Slot}{i:Nat}(hi:i<l.length){x:Int}(h:FA c vs (l.take i) (kK c l[i]) l[i].attr=some x)(hn:x≠cD l[i].term vs):uB c vs l=true:=by
 obtain ⟨s',hs',e1,e2,e3⟩:=Da h
 obtain ⟨k,hk,rfl⟩:=aO hs'
 rw [List.getElem_take] at e1 e2 e3
 have hki:k<i:=by simp at hk;omega
 have hkl:k<l.length:=by omega
 rw [tD,aW]
 refine ⟨i,by simpa using hi,?_⟩
 rw [aW]
 refine ⟨k,by simpa using hki,?_⟩
 unfold r7 Bu
 simp only [aA hkl,aA hi,mL,e1,e2,e3]
 simp [hn]
theorem Mc {c:Part}{vs:List Int}{l:List Slot}(hp:∀ s∈l,0≤kK c s)(h:Tg c vs l):uB c vs l=false:=by
 rw [tD,bH]
 intro hT
 rw [aW] at hT
 obtain ⟨i,hi,hT⟩:=hT
 rw [aW] at hT
 obtain ⟨k,hk,hT⟩:=hT
 rw [b6] at hi hk
 have hkl:k<l.length:=by omega
 unfold r7 Bu at hT
 simp only [aA hkl,aA hi,mL,aM,decide_eq_true_eq] at hT
 obtain ⟨h1,h2,h3⟩:=hT
 have a1:=hp _ (aC hkl)
 have a2:=hp _ (aC hi)
 have h1':(kK c l[k]).toNat=(kK c l[i]).toNat:=of_decide_eq_true h1
 have h2':l[k].attr=l[i].attr:=by simpa using h2
 have h3':cD l[k].term vs≠cD l[i].term vs:=by simpa using h3
 exact h3' (h _ (aC hkl) _ (aC hi) (by omega) h2')
/-! ### the values that are set -/
def vX (F:FM)(dn:Int→Int→Bool)(vals:List (List Int)):List (List Int) :=
 (List.range vals.length).map fun (n:Nat)=>(List.range (vals[n]?.getD []).length).map fun (a:Nat)=>if dn n a=true then (F n a).getD 0 else (vals[n]?.getD [])[a]?.getD 0
theorem p5 (F:FM)(dn:Int→Int→Bool)(vals:List (List Int)):(vX F dn vals).length=vals.length:=by simp [vX]
theorem oJ (F:FM)(dn:Int→Int→Bool)(vals:List (List Int))(n:Nat):((vX F dn vals)[n]?.getD []).length=(vals[n]?.getD []).length:=by
 unfold vX
 by_cases hn:n<vals.length
 ·simp [aR,qT hn]
 ·rw [bP (by simp;omega),bP (by omega)]
theorem vW (F:FM)(dn:Int→Int→Bool)(vals:List (List Int)){n a:Nat}(hn:n<vals.length)(ha:a<(vals[n]?.getD []).length):((vX F dn vals)[n]?.getD [])[a]?=some (if dn n a=true then (F n a).getD 0 else (vals[n]?.getD [])[a]?.getD 0):=by
 unfold vX
 rw [aR,qT hn,eM,aD,aR,qT ha,eM]
theorem DD {x y:List (List Int)}(h1:x.length=y.length)(h2:∀ n:Nat,(x[n]?.getD []).length=(y[n]?.getD []).length)(h3:∀ n a:Nat,n<y.length→a<(y[n]?.getD []).length→(x[n]?.getD [])[a]?=(y[n]?.getD [])[a]?):x=y:=by
 apply f7 h1
 intro n g1 g2
 have e1:x[n]?.getD []=x[n]:=by rw [aA g1];rfl
 have e2:y[n]?.getD []=y[n]:=by rw [aA g2];rfl
 have l1:=h2 n
 rw [e1,e2] at l1
 apply fP
 intro a
 by_cases ha:a<y[n].length
 ·have:=h3 n a g2 (by rw [e2];exact ha)
  rwa [e1,e2] at this
 ·rw [bP (by omega),bP (by omega)]
theorem NP (F:FM)(vals:List (List Int)){dn:Int→Int→Bool}(h:∀ n a:Nat,n<vals.length→a<(vals[n]?.getD []).length→dn n a=false):vX F dn vals=vals:=by
 refine DD (p5 _ _ _) (oJ _ _ _) fun n a hn ha=>?_
 rw [vW _ _ _ hn ha,if_neg (by rw [h n a hn ha];simp),aA ha];rfl
theorem Es {vals:List (List Int)}{u:Nat}(hu:u<vals.length)(r:List Int)(n:Nat):(vals.set u r)[n]?.getD []=if n=u then r else vals[n]?.getD []:=by
 rw [dN]
 split
 ·rename_i h;subst h;simp [hu]
 ·rename_i h;rw [if_neg (fun e=>h e.symm)]
theorem NN (F:FM)(vals:List (List Int)){dn dn':Int→Int→Bool}{u a:Nat}{x:Int}(hu:u<vals.length)(ha:a<(vals[u]?.getD []).length)(hx:F u a=some x)(hd:∀ n b:Nat,n<vals.length→b<(vals[n]?.getD []).length→dn' n b=(dn n b||(decide (n=u)&&decide (b=a)))) :
  (vX F dn vals).set u (((vX F dn vals)[u]?.getD []).set a x)=vX F dn' vals:=by
 have hu':u<(vX F dn vals).length:=by rw [p5];exact hu
 refine DD (by rw [i5,p5,p5]) (fun n=>?_) fun n b hn hb=>?_
 ·rw [Es hu',oJ]
  split
  ·rename_i h;subst h;rw [i5,oJ]
  ·rw [oJ]
 ·rw [p5] at hn
  rw [oJ] at hb
  rw [Es hu',vW _ _ _ hn hb,hd n b hn hb]
  split
  ·rename_i h;subst h
   rw [dN]
   by_cases hba:a=b
   ·subst hba
    rw [if_pos rfl,if_pos (by rw [oJ];exact ha),if_pos (by simp),hx];rfl
   ·rw [if_neg hba,vW _ _ _ hn hb]
    congr 1
    rw [show decide (b=a)=false by simp;omega,Bool.and_false,sD]
  ·rename_i h
   rw [vW _ _ _ hn hb]
   congr 1
   rw [show decide (n=u)=false by simp;omega,Cv,sD]
theorem JK {c:Part}{vs:List Int}(vals:List (List Int)):∀ (i:Nat) (l:List Slot),l.length=i→(∀ s∈l,0≤kK c s∧eU c s<vals.length∧0≤s.attr∧s.attr<(vals[eU c s]?.getD []).length) →
  ∀ n a:Nat,n<vals.length→a<(vals[n]?.getD []).length→((rX c vs l vals)[n]?.getD [])[a]?=some ((FA c vs l n a).getD ((vals[n]?.getD [])[a]?.getD 0))
 | 0,l,hl,hp,n,a,hn,ha=>by
  have:l=[]:=bF hl
  subst this
  show (vals[n]?.getD [])[a]?=_
  rw [aA ha];rfl
 | i+1,l,hl,hp,n,a,hn,ha=>by
  obtain ⟨l',s,rfl⟩:∃ l' s,l=l'++[s]:=⟨l.dropLast,l.getLast (by intro e;rw [e] at hl;cases hl),(List.dropLast_concat_getLast _).symm⟩
  have ih:=JK (c:=c) (vs:=vs) vals i l' (by simp at hl;exact hl) (fun s' hs'=>hp s' (List.mem_append_left _ hs'))
  obtain ⟨p1,p2,p3,p4⟩:=hp s (by simp)
  obtain ⟨q1,q2⟩:=pZ c vs l' vals
  rw [Gl,Ni,Es (by omega)]
  unfold Hr
  split
  ·rename_i h
   rw [dN]
   by_cases hsa:s.attr.toNat=a
   ·rw [if_pos hsa,if_pos (by rw [q2];omega),if_pos ⟨by rw [h,mL];omega,by omega⟩];rfl
   ·rw [if_neg hsa,if_neg (by omega),← h]
    exact ih n a hn ha
  ·rename_i h
   rw [if_neg (by rw [mL] at h;omega)]
   exact ih n a hn ha
theorem NO {c:Part}{vs:List Int}{vals:List (List Int)}{l:List Slot}(hp:∀ s∈l,0≤kK c s∧eU c s<vals.length∧0≤s.attr∧s.attr<(vals[eU c s]?.getD []).length)
  {dn:Int→Int→Bool} (hd:∀ n a:Nat,n<vals.length→a<(vals[n]?.getD []).length→dn n a=(FA c vs l n a).isSome):vX (FA c vs l) dn vals=rX c vs l vals:=by
 obtain ⟨q1,q2⟩:=pZ c vs l vals
 refine DD (by rw [p5,q1]) (fun n=>by rw [oJ,q2]) fun n a hn ha=>?_
 rw [q1] at hn
 rw [q2] at ha
 rw [vW _ _ _ hn ha,JK vals _ l rfl hp n a hn ha,hd n a hn ha]
 cases FA c vs l n a<;>simp
@[go_sem] theorem Sg:nT (Value.map none)=.junk:=rfl
@[go_sem] theorem Un:iC (.const (Value.map none))=false:=rfl
theorem O4:MapT Tryz.prog 288 292 3 :=
 Ql Tryz.underlying288 Tryz.underlying3 Tryz.underlying292 ⟨rfl,rfl,rfl⟩ ⟨rfl,rfl,rfl⟩ (by kernel_rfl) (by kernel_rfl) (by kernel_rfl) ⟨Tryz.prog.types.size - 1,by have:0<Tryz.prog.types.size:=of_decide_eq_true (by kernel_rfl);omega⟩
  (Maps.Keyed.of_law (deep_law_laid (m:=2) (by kernel_rfl) (by omega) (of_decide_eq_true (by kernel_rfl)) (by kernel_rfl) (by kernel_rfl))) (fun w=>by kernel_rfl)
def XD (co:Part)(vs:List Int)(l:List Slot)(G:AHeap)(d:D)(H':AHeap)(g:MS):Prop :=
 (∀ j,j<G.next→H'.get j=G.get j)∧G.next≤H'.next ∧
  ((uB co vs l=true∧∃ q,d=.tup [q,dI 11])∨(uB co vs l=false∧∃ b k,d=.tup [.cst (.map (some b)),dI 0]∧g=.mp b k (FA co vs l)))
theorem Fl (t:Types)(r:Rule)(hR:RuleV t r)(m:Mat)(h:Host)(x0:Host)(tr co:Part)(hP:PutOk t r x0 co)(hvl:m.vars.length=r.left.vars.toNat)(hvs:Sm m.vars)(a b0 V na nb nV:Nat)(G:AHeap) :
  GCalls Tryz.prog 292 3 244 [.agg (eI r m h (.own a na) (.own b0 nb) (.own V nV) tr co)] G (XD co m.vars r.right.slots G):=by
 obtain ⟨l,hl⟩:∃ l,l=r.right.slots:=⟨_,rfl⟩
 have hsl:=hR.slots
 have hfew:=hR.few
 have hspot:=hP.spot
 have hattr:=hP.attr
 have hcl:=hP.cl
 have hPf:=hP.few
 rw [← hl] at hsl hfew hspot hattr ⊢
 refine wF Tryz.func244 rfl rfl (by exact aF rfl) ?_
 refine cZ fun K0 k0=>?_
 refine fJ (c:=⟨fun t=>t==6||t==9,fun r=>match r with|8=>[(0,10),(1,10),(2,10),(3,10),(4,10),(5,10),(6,10),(7,10),(8,10)]|_=>[]⟩) Tz.mixed (by kernel_rfl) ?_
 simp [go_sem,seval,eI]
 repeat first|intro _|refine ⟨eZ,?_⟩
 refine k0 _ _ _ ?_
 clear k0 K0
 refine cZ fun K1 k1=>?_
 refine WpG.region (OpsG.make O4 rfl rfl rfl fun b=>?_)
 refine OpsG.all (md:=fun _=>false) rfl fun R kR=>?_
 simp [go_sem,seval]
 refine kR _ _ (k1 _ _ _ ?_)
 clear kR R k1 K1
 refine cZ fun K3 k3=>?_
 refine cZ fun K2 k2=>?_
 refine fJ (c:=⟨fun t=>t==6||t==9,fun r=>match r with|8=>[(0,10),(1,10),(2,10),(3,10),(4,10),(5,10),(6,10),(7,10),(8,10)]|_=>[]⟩) Tz.mixed (by kernel_rfl) ?_
 simp [go_sem,seval]
 repeat first|intro _|refine ⟨eZ,?_⟩
 refine k2 _ _ _ ?_
 clear k2 K2
 refine WpG.block ?_
 obtain ⟨I,hI⟩:∃ I:Nat→MS→dA→AHeap→Prop,∀ i g e H,I i g e H↔(e 1=.adr (eI r m h (.own a na) (.own b0 nb) (.own V nV) tr co)∧e 4=.cst (.map (some b))∧e 16=.list (l.map Slot.c)∧e 17=dI l.length∧e 18=dI i∧i≤l.length∧(∃ k,k≤i∧g=.mp b k (FA co m.vars (l.take i)))∧Tg co m.vars (l.take i)∧(∀ j,j<G.next→H.get j=G.get j)∧G.next≤H.next):=⟨_,fun _ _ _ _=>Iff.rfl⟩
 refine WpG.loop I (fun i=>l.length - i) 0 ((hI _ _ _ _).2 ⟨by simp [go_sem,eI,dLI],by simp [go_sem],by simp [go_sem,hl],by simp [go_sem,hl],by simp [go_sem],by omega,⟨0,by omega,by simp [FA]⟩,by intro s hs;simp at hs,by intro j hj;simp [go_sem],by simp [go_sem]⟩) fun i g e H hi0=>?_
 obtain ⟨q1,q4,q16,q17,q18,hi,⟨k,hk,rfl⟩,hE,hG,hnx⟩:=(hI _ _ _ _).1 hi0
 refine cZ fun K1 k1=>?_
 refine fJ (c:=⟨fun t=>t==6||t==9,fun r=>match r with|8=>[(0,10),(1,10),(2,10),(3,10),(4,10),(5,10),(6,10),(7,10),(8,10)]|_=>[]⟩) Tz.mixed (by kernel_rfl) ?_
 simp [go_sem,seval,q17,q18]
 repeat first|intro _|refine ⟨eZ,?_⟩
 refine k1 _ _ _ ?_
 clear k1 K1
 refine cZ fun K1 k1=>?_
 refine WpG.cond (t:=decide (i<l.length)) (by simp [go_sem]) (fun h3=>?_) (fun h3=>?_)
 ·refine WpG.skip ?_
  simp only [go_sem]
  refine k1 _ _ _ ?_
  clear k1 K1
  have h3':i<l.length:=of_decide_eq_true h3
  obtain ⟨x,hx⟩:∃ x,x=l[i]:=⟨_,rfl⟩
  have hxm:x∈l:=hx ▸ aC h3'
  obtain ⟨⟨n1,n2⟩,⟨a1,a2⟩,hT⟩:=hsl x hxm
  obtain ⟨s1,s2,s3⟩:=hspot x hxm
  obtain ⟨t1,t2⟩:=hattr x hxm
  have hnc:x.node.toNat<co.nodes.length:=by omega
  have hkey:kK co x=co.nodes[x.node.toNat]:=by unfold kK;rw [aA hnc];rfl
  have hTs:=Dj (vs:=m.vars) (by rw [hvl];exact hT) hvs
  have hR1:AW (kK co x):=by rw [mL] at s2;exact ⟨by unfold kK;omega,by unfold kK at *;omega⟩
  have hR2:AW x.attr:=⟨by omega,by have:=qH hR.vf (x0.graph.nodes[eU co x]?.getD 0);omega⟩
  have hR3:AW (cD x.term m.vars):=⟨by omega,by omega⟩
  obtain ⟨v,hv⟩:∃ v,v=cD x.term m.vars:=⟨_,rfl⟩
  refine cZ fun K1 k1=>?_
  refine WpG.block ?_
  refine cZ fun K2 k2=>?_
  refine fJ (c:=⟨fun t=>t==6||t==9,fun r=>match r with|8=>[(0,10),(1,10),(2,10),(3,10),(4,10),(5,10),(6,10),(7,10),(8,10)]|_=>[]⟩) Tz.mixed (by kernel_rfl) ?_
  simp [go_sem,seval,q16,q18,aA h3',← hx,Slot.c]
  repeat first|intro _|refine ⟨eZ,?_⟩
  refine k2 _ _ _ ?_
  clear k2 K2
  refine cZ fun K2 k2=>?_
  refine fJ (c:=⟨fun t=>t==6||t==9,fun r=>match r with|8=>[(0,10),(1,10),(2,10),(3,10),(4,10),(5,10),(6,10),(7,10),(8,10)]|_=>[]⟩) Tz.mixed (by kernel_rfl) ?_
  simp [go_sem,seval,q1,eI,Slot.c]
  repeat first|intro _|refine ⟨eZ,?_⟩
  refine aB (by have hq:=k7 x.term m.vars (by rw [hvl];exact hT) hvs;rw [← hv] at hq;unfold Term.c dLI at hq;exact hq) (by first|rfl|(simp [go_sem];done)) ?_
  simp [go_sem,seval]
  repeat first|intro _|refine ⟨eZ,?_⟩
  refine k2 _ _ _ ?_
  clear k2 K2
  refine cZ fun K2 k2=>?_
  refine cZ fun K4 k4=>?_
  refine fJ (c:=⟨fun t=>t==6||t==9,fun r=>match r with|8=>[(0,10),(1,10),(2,10),(3,10),(4,10),(5,10),(6,10),(7,10),(8,10)]|_=>[]⟩) Tz.mixed (by kernel_rfl) ?_
  simp [go_sem,seval]
  refine k4 _ _ _ ?_
  clear k4 K4
  refine WpG.cond (t:=false) (by simp [go_sem]) (fun h=>by cases h) (fun _=>WpG.skip ?_)
  simp only [go_sem]
  refine k2 _ _ _ ?_
  clear k2 K2
  refine cZ fun K2 k2=>?_
  refine fJ (c:=⟨fun t=>t==6||t==9,fun r=>match r with|8=>[(0,10),(1,10),(2,10),(3,10),(4,10),(5,10),(6,10),(7,10),(8,10)]|_=>[]⟩) Tz.mixed (by kernel_rfl) ?_
  simp [go_sem,seval,q1,eI,Slot.c,aA hnc,← hkey]
  repeat first|intro _|refine ⟨eZ,?_⟩
  refine k2 _ _ _ ?_
  clear k2 K2
  refine cZ fun K2 k2=>?_
  refine cZ fun K4 k4=>?_
  refine WpG.region ?_
  refine OpsG.take (md:=fun t=>t==6||t==9) 2 rfl fun R kR=>?_
  simp [go_sem,seval,q4]
  repeat first|intro _|refine ⟨eZ,?_⟩
  refine kR _ _ ?_
  clear kR R
  refine Ov (T:=288) O4 rfl rfl rfl rfl (by simp [go_sem]) (by simp [go_sem]) hR1 hR2 ?_
  refine OpsG.all (md:=fun t=>t==6||t==9) rfl fun R kR=>?_
  simp [go_sem,seval]
  repeat first|intro _|refine ⟨eZ,?_⟩
  refine kR _ _ (k4 _ _ _ ?_)
  clear kR R k4 K4
  obtain ⟨o,ho⟩:∃ o,o=FA co m.vars (l.take i) (kK co x) x.attr:=⟨_,rfl⟩
  refine cZ fun K4 k4=>?_
  refine fJ (c:=⟨fun t=>t==6||t==9,fun r=>match r with|8=>[(0,10),(1,10),(2,10),(3,10),(4,10),(5,10),(6,10),(7,10),(8,10)]|_=>[]⟩) Tz.mixed (by kernel_rfl) ?_
  simp [go_sem,seval,← ho]
  repeat first|intro _|refine ⟨eZ,?_⟩
  refine k4 _ _ _ ?_
  clear k4 K4
  refine WpG.cond (t:=o.isSome&&o.getD 0 != v) (by simp [go_sem]) (fun hc=>?_) (fun hc=>?_)
  ·refine cZ fun K5 k5=>?_
   refine fJ (c:=⟨fun t=>t==6||t==9,fun r=>match r with|8=>[(0,10),(1,10),(2,10),(3,10),(4,10),(5,10),(6,10),(7,10),(8,10)]|_=>[]⟩) Tz.mixed (by kernel_rfl) ?_
   simp [go_sem,seval]
   refine k5 _ _ _ ?_
   clear k5 K5
   refine WpG.ret ?_
   simp [go_sem,NA]
   refine ⟨fun j hj=>?_,?_,.inl ⟨?_,_,rfl⟩⟩
   ·have fr1:=bZ (show j<H.next by omega)
    simp [go_sem,fr1]
    exact hG j hj
   ·simp [go_sem];omega
   ·rw [aM] at hc
    obtain ⟨y,hy⟩:=jI.1 hc.1
    refine Py h3' (x:=y) (by rw [← hx,← ho,hy]) (fun e=>?_)
    have h2:=hc.2
    rw [hy,← hx,← hv] at *
    simp [e] at h2
  ·refine WpG.skip ?_
   simp only [go_sem]
   refine k2 _ _ _ ?_
   clear k2 K2
   refine WpG.region ?_
   refine OpsG.take (md:=fun t=>t==6||t==9) 3 rfl fun R kR=>?_
   simp [go_sem,seval,q4]
   repeat first|intro _|refine ⟨eZ,?_⟩
   refine kR _ _ ?_
   clear kR R
   refine OpsG.store (T:=288) (c:=v) O4 rfl rfl rfl rfl (by simp [go_sem]) (by simp [go_sem]) (by simp [go_sem]) hR1 hR2 (hv ▸ hR3) (by omega) ?_
   refine OpsG.all (md:=fun t=>t==6||t==9) rfl fun R kR=>?_
   simp [go_sem,seval]
   refine kR _ _ ?_
   clear kR R
   simp only [go_sem]
   refine k1 _ _ _ ?_
   clear k1 K1
   refine fJ (c:=⟨fun t=>t==6||t==9,fun r=>match r with|8=>[(0,10),(1,10),(2,10),(3,10),(4,10),(5,10),(6,10),(7,10),(8,10)]|_=>[]⟩) Tz.mixed (by kernel_rfl) ?_
   simp [go_sem,seval,q18]
   repeat first|intro _|refine ⟨eZ,?_⟩
   refine ⟨i+1,by omega,(hI _ _ _ _).2 ⟨by simp [go_sem,q1],by simp [go_sem,q4],by simp [go_sem,q16],by simp [go_sem,q17],by simp [go_sem],by omega,⟨k+1,by omega,by rw [aE h3',Ni,← hx,hv]⟩,?_,fun j hj=>?_,by simp [go_sem];omega⟩⟩
   ·rw [aE h3',← hx]
    refine PQ hE fun y hy=>?_
    rw [← ho] at hy
    rw [hy] at hc
    simp at hc
    rw [hc,hv]
   ·have fr1:=bZ (show j<H.next by omega)
    simp [go_sem,fr1]
    exact hG j hj
 ·refine WpG.exit ?_
  simp [go_sem]
  refine k3 _ _ _ ?_
  have hie:i=l.length:=by have:=of_decide_eq_false h3;omega
  rw [aH (by omega)] at hE ⊢
  refine cZ fun K5 k5=>?_
  refine fJ (c:=⟨fun t=>t==6||t==9,fun r=>match r with|8=>[(0,10),(1,10),(2,10),(3,10),(4,10),(5,10),(6,10),(7,10),(8,10)]|_=>[]⟩) Tz.mixed (by kernel_rfl) ?_
  simp [go_sem,seval,q4]
  refine k5 _ _ _ ?_
  clear k5 K5
  refine WpG.ret ?_
  simp [go_sem,NA]
  refine ⟨hG,hnx,.inr ⟨Mc (fun s hs=>(hspot s hs).1) hE,b,k,by simp [go_sem],rfl⟩⟩
theorem Pk {c:Part}{vs:List Int}{l:List Slot}(h:uB c vs l=false):Tg c vs l:=by
 rw [tD] at h
 have key:∀ (p q:Nat) (hpq:p<q) (hq:q<l.length),kK c l[p]=kK c l[q]→l[p].attr=l[q].attr→cD l[p].term vs=cD l[q].term vs:=fun p q hpq hq e1 e2=>by
  refine bE fun hn=>?_
  have:((List.range l.length).any fun i=>(List.range i).any fun k=>r7 c vs l i k)=true:=by
   rw [aW]
   refine ⟨q,by simpa using hq,?_⟩
   rw [aW]
   refine ⟨p,by simpa using hpq,?_⟩
   unfold r7 Bu
   simp only [aA (show p<l.length by omega),aA hq,mL,e1,e2]
   simp [hn]
  rw [h] at this;cases this
 intro s hs s' hs' e1 e2
 obtain ⟨p,hp,rfl⟩:=aO hs
 obtain ⟨q,hq,rfl⟩:=aO hs'
 rcases Nat.lt_trichotomy p q with h1|h1|h1
 ·exact key p q h1 hq e1 e2
 ·subst h1;rfl
 ·exact (key q p h1 hp e1.symm e2.symm).symm
theorem Nr (t : Types) (ht : t.ok) (r : Rule) (hR : RuleV t r) (m : Mat) (h x0 : Host) (tr co : Part) (hP : PutOk t r x0 co) (hvl : m.vars.length = r.left.vars.toNat) (hvs : Sm m.vars) (G : AHeap) (s a b0 V : Nat) (qs : List Nat)
    (hs : G.get s = some ⟨53, 38, [eI r m h (.own a x0.graph.nodes.length) (.own b0 x0.graph.edges.length) (.own V x0.values.length) tr co], false⟩) (hh0 : HH G 0 a b0 V qs x0) (hsq : ∀ j ∈ a :: b0 :: V :: qs, j ≠ s) (hsn : s < G.next) (Q : D → AHeap → Prop)
    (hQe : ∀ H', rY t x0.graph co m.vars r.right.slots ≠ 0 → (∀ j, j < G.next → j ∉ a :: b0 :: V :: qs → H'.get j = G.get j) → G.next ≤ H'.next → Q (dI (rY t x0.graph co m.vars r.right.slots)) H')
    (hQ : ∀ H', rY t x0.graph co m.vars r.right.slots = 0 → HH H' 0 a b0 V qs ⟨x0.graph, rX co m.vars r.right.slots x0.values⟩ → (∀ j, j < G.next → j ∉ a :: b0 :: V :: qs → H'.get j = G.get j) → G.next ≤ H'.next → Q (dI 0) H') :
    ACalls Tryz.prog 147 [t.d, .ptr s 1 0 0] G Q := by
  obtain ⟨l, hl⟩ : ∃ l, l = r.right.slots := ⟨_, rfl⟩
  have hA := Fl t r hR m h x0 tr co hP hvl hvs a b0 V x0.graph.nodes.length x0.graph.edges.length x0.values.length G
  have hsl := hR.slots
  have hspot := hP.spot
  have hattr := hP.attr
  have hPf := hP.few
  rw [← hl] at hsl hspot hattr hQe hQ hA
  refine FY (P := Tryz.prog) (K := 292) (E := 3) (Q := fun d H' _ => Q d H') ?_ (fun _ _ _ h => h)
  refine wF Tryz.func147 rfl rfl (by exact aF rfl) ?_
  refine cZ fun K1 k1 => ?_
  refine fJ (c := ⟨fun t => t == 7, fun _ => []⟩) Tz.mixed (by kernel_rfl) ?_
  simp [go_sem, seval]
  refine k1 _ _ _ ?_
  clear k1 K1
  refine cZ fun K1 k1 => ?_
  refine WpG.region ?_
  refine OpsG.take (md := fun t => t == 7) 3 rfl fun R kR => ?_
  simp [go_sem, seval, hs, eI]
  repeat first | intro _ | refine ⟨eZ, ?_⟩
  refine kR _ _ ?_
  clear kR R
  refine OpsG.call (f := 244) (args := [.agg (eI r m h (.own a x0.graph.nodes.length) (.own b0 x0.graph.edges.length) (.own V x0.values.length) tr co)]) (by simp [go_sem, fU, eI]) rfl rfl hA fun d H1 g1 hq => ?_
  obtain ⟨hG1, hn1, hcase⟩ := hq
  rcases hcase with ⟨hcl, q, rfl⟩ | ⟨hcl, b, k, rfl, rfl⟩
  · refine OpsG.all (md := fun t => t == 7) rfl fun R kR => ?_
    simp [go_sem, seval]
    repeat first | intro _ | refine ⟨eZ, ?_⟩
    refine kR _ _ (k1 _ _ _ ?_)
    clear kR R k1 K1
    refine cZ fun K2 k2 => ?_
    refine cZ fun K4 k4 => ?_
    refine fJ (c := ⟨fun t => t == 7, fun _ => []⟩) Tz.mixed (by kernel_rfl) ?_
    simp [go_sem, seval]
    refine k4 _ _ _ ?_
    clear k4 K4
    refine WpG.cond (t := true) (by simp [go_sem]) (fun _ => ?_) (fun hc => by cases hc)
    refine cZ fun K5 k5 => ?_
    refine fJ (c := ⟨fun t => t == 7, fun _ => []⟩) Tz.mixed (by kernel_rfl) ?_
    simp [go_sem, seval]
    refine k5 _ _ _ ?_
    clear k5 K5
    refine WpG.ret ?_
    simp [go_sem, NA]
    have hE : rY t x0.graph co m.vars l = 11 := by unfold rY; rw [if_pos hcl]
    rw [hE] at hQe
    exact hQe _ (by decide) (fun j hj _ => hG1 j hj) hn1
  · refine OpsG.all (md := fun t => t == 7) rfl fun R kR => ?_
    simp [go_sem, seval]
    repeat first | intro _ | refine ⟨eZ, ?_⟩
    refine kR _ _ (k1 _ _ _ ?_)
    clear kR R k1 K1
    refine cZ fun K2 k2 => ?_
    refine cZ fun K4 k4 => ?_
    refine fJ (c := ⟨fun t => t == 7, fun _ => []⟩) Tz.mixed (by kernel_rfl) ?_
    simp [go_sem, seval]
    refine k4 _ _ _ ?_
    clear k4 K4
    refine WpG.cond (t := false) (by simp [go_sem]) (fun hc => by cases hc) (fun _ => WpG.skip ?_)
    simp only [go_sem]
    refine k2 _ _ _ ?_
    clear k2 K2
    have hE0 : rY t x0.graph co m.vars l = if l.any (v6 t x0.graph co m.vars) = true then 6 else 0 := by unfold rY; rw [if_neg (by rw [hcl]; simp)]
    refine cZ fun K3 k3 => ?_
    refine cZ fun K4 k4 => ?_
    refine WpG.region ?_
    refine OpsG.take (md := fun t => t == 7) 1 rfl fun R kR => ?_
    simp [go_sem, seval]
    refine kR _ _ ?_
    clear kR R
    refine OpsG.range (T := 288) O4 rfl rfl rfl rfl (by simp [go_sem]) fun rr r6 => ?_
    refine OpsG.nil (k4 _ _ _ ?_)
    clear k4 K4
    have hRng : ∀ x ∈ l, AW (kK co x) ∧ AW x.attr := fun x hx => by
      obtain ⟨s1, s2, s3⟩ := hspot x hx
      obtain ⟨t1, t2⟩ := hattr x hx
      have := qH hR.vf (x0.graph.nodes[eU co x]?.getD 0)
      have h0 := (hsl x hx).2.1.1
      rw [mL] at s2
      exact ⟨⟨by unfold kK; omega, by unfold kK at *; omega⟩, by omega, by omega⟩
    refine WpG.block ?_
    obtain ⟨F, hF⟩ : ∃ F, F = FA co m.vars l := ⟨_, rfl⟩
    rw [← hF]
    obtain ⟨I, hI⟩ : ∃ I : Nat → MS → dA → AHeap → Prop, ∀ i g e H, I i g e H ↔ (∃ left cur, g = .rg b rr F left i cur ∧ e 1 = .ptr s 1 0 0 ∧ e 2 = .adr t.c ∧ e 22 = .cst (B9 rr) ∧
      HH H 0 a b0 V qs ⟨x0.graph, vX F (fun u v => (F u v).isSome && !left u v) x0.values⟩ ∧ (∀ x ∈ l, left (kK co x) x.attr = false → v6 t x0.graph co m.vars x = false) ∧ (∀ j, j < G.next → j ∉ a :: b0 :: V :: qs → H.get j = G.get j) ∧ G.next ≤ H.next) := ⟨_, fun _ _ _ _ => Iff.rfl⟩
    refine WpG.loop I (fun i => i) r6 ((hI _ _ _ _).2 ⟨_, _, rfl, by simp [go_sem], by simp [go_sem], by simp [go_sem], ?_, ?_, fun j hj _ => hG1 j hj, hn1⟩) fun i g e H hi0 => ?_
    · rw [NP]
      · exact hh0.same hn1 (fun j hj => hG1 j (hh0.rng j hj).2)
      · intro n v _ _; cases F n v <;> rfl
    · intro x hx hf
      have := PN (c := co) (vs := m.vars) (l := l) (s := x) (Pk hcl) hx
      rw [← hF] at this
      rw [this] at hf; cases hf
    obtain ⟨left, cur, rfl, q1, q2, q22, hh, hO, hG, hnx⟩ := (hI _ _ _ _).1 hi0
    refine cZ fun K1 k1 => ?_
    refine WpG.region ?_
    refine OpsG.next O4 rfl rfl rfl (by simp [go_sem, q22]) (fun hd => ?_) (fun u v c i' hu hv hlf hFc hlt => ?_)
    · refine OpsG.all (md := fun t => t == 7) rfl fun R kR => ?_
      simp [go_sem, seval]
      refine kR _ _ (k1 _ _ _ ?_)
      clear kR R k1 K1
      refine cZ fun K1 k1 => ?_
      refine WpG.cond (t := false) (by simp [go_sem]) (fun hc => by cases hc) (fun _ => WpG.exit ?_)
      simp [go_sem]
      refine k3 _ _ _ ?_
      refine cZ fun K5 k5 => ?_
      refine fJ (c := ⟨fun t => t == 7, fun _ => []⟩) Tz.mixed (by kernel_rfl) ?_
      simp [go_sem, seval]
      refine k5 _ _ _ ?_
      clear k5 K5
      refine WpG.ret ?_
      simp [go_sem, NA]
      have hany : l.any (v6 t x0.graph co m.vars) = false := by
        rw [bH]
        intro hT
        obtain ⟨x, hx, hT⟩ := aW.1 hT
        rw [hO x hx (hd _ _ (hRng x hx).1 (hRng x hx).2)] at hT; cases hT
      rw [if_neg (by rw [hany]; simp)] at hE0
      have hV := NO (c := co) (vs := m.vars) (vals := x0.values) (l := l) (fun x hx => ⟨(hspot x hx).1, (hspot x hx).2.1, (hsl x hx).2.1.1, (hattr x hx).1⟩) (dn := fun u v => (F u v).isSome && !left u v) (fun n v _ _ => by
        rw [← hF]
        cases hFn : F n v with
        | none => rfl
        | some y =>
          obtain ⟨x, hx, e1, e2, _⟩ := Da (c := co) (vs := m.vars) (l := l) (by rw [← hF]; exact hFn)
          have := hd _ _ (hRng x hx).1 (hRng x hx).2
          rw [e1, e2] at this
          simp [this])
      rw [← hF] at hV
      rw [hV] at hh
      exact hQ _ hE0 hh hG hnx
    · refine OpsG.all (md := fun t => t == 7) rfl fun R kR => ?_
      simp [go_sem, seval]
      refine kR _ _ (k1 _ _ _ ?_)
      clear kR R k1 K1
      refine cZ fun K1 k1 => ?_
      refine WpG.cond (t := true) (by simp [go_sem]) (fun _ => WpG.skip ?_) (fun hc => by cases hc)
      simp only [go_sem]
      refine k1 _ _ _ ?_
      clear k1 K1
      refine WpG.block ?_
      refine cZ fun K1 k1 => ?_
      refine WpG.region ?_
      refine OpsG.entry rfl rfl rfl (by simp [go_sem, q22]) ?_
      refine OpsG.all (md := fun t => t == 7) rfl fun R kR => ?_
      simp [go_sem, seval]
      repeat first | intro _ | refine ⟨eZ, ?_⟩
      refine kR _ _ (k1 _ _ _ ?_)
      clear kR R k1 K1
      obtain ⟨x, hxm, e1, e2, e3⟩ := Da (c := co) (vs := m.vars) (l := l) (by rw [← hF]; exact hFc)
      obtain ⟨s1, s2, s3⟩ := hspot x hxm
      obtain ⟨t1, t2⟩ := hattr x hxm
      have a0 := (hsl x hxm).2.1.1
      obtain ⟨n, hn⟩ : ∃ n, n = eU co x := ⟨_, rfl⟩
      rw [← hn] at s2 s3 t1 t2
      have hun : u = (n : Int) := by rw [← e1, hn, mL]; unfold kK at *; omega
      subst hun
      obtain ⟨w, hw⟩ : ∃ w : Nat, v = (w : Int) := ⟨v.toNat, by omega⟩
      subst hw
      have hsg : H.get s = some ⟨53, 38, [eI r m h (.own a x0.graph.nodes.length) (.own b0 x0.graph.edges.length) (.own V x0.values.length) tr co], false⟩ := by rw [hG s hsn (fun hm => hsq s hm rfl)]; exact hs
      have hga := hh.ga
      have hgV := hh.gV
      have hqa := hh.rng a hh.a_in
      have hqV := hh.rng V hh.V_in
      obtain ⟨nd, hnd⟩ : ∃ y, y = x0.graph.nodes[n] := ⟨_, rfl⟩
      have hnd0 : x0.graph.nodes[n]?.getD 0 = nd := by rw [hnd, aA s3]; rfl
      rw [hnd0] at t2
      have haA : w < (bI t nd).length := by omega
      have fr1 := And.intro (bZ (show s < H.next by omega)) (And.intro (bZ (show a < H.next by omega)) (bZ (show V < H.next by omega)))
      have hal := nX ht nd
      refine cZ fun K1 k1 => ?_
      refine fJ (c := ⟨fun t => t == 7, fun _ => []⟩) Tz.mixed (by kernel_rfl) ?_
      simp [go_sem, seval, q1, q2, hsg, hga, eI, fr1, aA s3, ← hnd]
      repeat first | intro _ | refine ⟨eZ, ?_⟩
      refine aK (oE t ht nd) (by first | rfl | (simp [go_sem]; done)) ?_
      simp [go_sem, seval]
      repeat first | intro _ | refine ⟨eZ, ?_⟩
      refine k1 _ _ _ ?_
      clear k1 K1
      refine cZ fun K2 k2 => ?_
      refine cZ fun K4 k4 => ?_
      refine fJ (c := ⟨fun t => t == 7, fun _ => []⟩) Tz.mixed (by kernel_rfl) ?_
      simp [go_sem, seval, fr1, aA haA, Attr.c]
      repeat first | intro _ | refine ⟨eZ, ?_⟩
      refine k4 _ _ _ ?_
      clear k4 K4
      have hh' := hh
      obtain ⟨dn, hdn⟩ : ∃ dn : Int → Int → Bool, dn = fun u v => (F u v).isSome && !left u v := ⟨_, rfl⟩
      rw [← hdn] at hh'
      have hvl0 : (vX F dn x0.values).length = x0.values.length := p5 ..
      have hnV : n < (vX F dn x0.values).length := by omega
      have hnQ : n < qs.length := by rw [hh'.len]; exact hnV
      obtain ⟨q, hq⟩ : ∃ q, q = qs[n] := ⟨_, rfl⟩
      obtain ⟨vr, hvr⟩ : ∃ v, v = (vX F dn x0.values)[n] := ⟨_, rfl⟩
      have g1 : qs[n]? = some q := by rw [aA hnQ, hq]
      have g2 : (vX F dn x0.values)[n]? = some vr := by rw [aA hnV, hvr]
      have hrow := pM g1 g2
      have hgq := hh'.gq _ _ _ g1 g2
      have hvrl : vr.length = (x0.values[n]?.getD []).length := by rw [← oJ F dn x0.values n, g2]; rfl
      have hwv : w < vr.length := by omega
      have hqin : q ∈ qs := aJ g1
      have hqr := hh'.rng q (hh'.q_in hqin)
      have hrl := iG hh'.len
      rw [← hdn] at hgV
      have fr2 := bZ (show q < H.next by omega)
      have hOB : v6 t x0.graph co m.vars x = (decide (c < (bI t nd)[w].low) || decide ((bI t nd)[w].high < c)) := by
        unfold v6; rw [← hn, hnd0, show x.attr.toNat = w by omega, aA haA, e3]; rfl
      refine WpG.cond (t := decide (c < (bI t nd)[w].low) || decide ((bI t nd)[w].high < c)) (by simp [go_sem]) (fun hcT => ?_) (fun hcF => WpG.skip ?_)
      · refine cZ fun K5 k5 => ?_
        refine fJ (c := ⟨fun t => t == 7, fun _ => []⟩) Tz.mixed (by kernel_rfl) ?_
        simp [go_sem, seval]
        refine k5 _ _ _ ?_
        clear k5 K5
        refine WpG.ret ?_
        simp [go_sem, NA]
        have hT : l.any (v6 t x0.graph co m.vars) = true := aW.2 ⟨_, hxm, by rw [hOB]; exact hcT⟩
        rw [if_pos hT] at hE0
        rw [hE0] at hQe
        refine hQe _ (by decide) (fun j hj hjn => ?_) (by first | (simp [go_sem]; done) | (simp [go_sem]; omega))
        simp [go_sem, show j ≠ H.next by omega]; exact hG j hj hjn
      · simp only [go_sem]
        refine k2 _ _ _ ?_
        clear k2 K2
        refine fJ (c := ⟨fun t => t == 7, fun _ => []⟩) Tz.mixed (by kernel_rfl) ?_
        have hnX : n < x0.values.length := by omega
        have hqd := hh'.qn hqin
        simp [go_sem, seval, q1, hsg, hgV, eI, fr1, fr2, hrow, hgq, hrl, hvl0]
        refine ⟨hnX, hwv, ?_⟩
        simp [go_sem, aA hwv, cI]
        repeat first | intro _ | refine ⟨eZ, ?_⟩
        refine ⟨i', hlt, (hI _ _ _ _).2 ⟨_, _, rfl, by simp [go_sem, q1], by simp [go_sem, q2], by simp [go_sem, q22], ?_, ?_, ?_, by first | (simp [go_sem]; done) | (simp [go_sem]; omega)⟩⟩
        · have hst := NN F x0.values (dn := dn) (dn' := fun u v => (F u v).isSome && !(left u v && (!decide (u = (n : Int)) || !decide (v = (w : Int))))) hnX (by rw [← hvrl]; exact hwv) hFc (fun n2 b2 _ _ => by
            rw [hdn]
            by_cases e1 : n2 = n
            · by_cases e2 : b2 = w
              · subst e1; subst e2; simp [hFc]
              · have e3' : ¬ ((b2 : Int) = w) := by omega
                subst e1; simp [e2, e3']
            · have e3' : ¬ ((n2 : Int) = n) := by omega
              simp [e1, e3'])
          rw [g2] at hst
          rw [← hst]
          exact hh'.rowSet (by first | (simp [go_sem]; done) | (simp [go_sem]; omega)) g1 g2 (by simp) (by simp [go_sem, hgq, c8, cI]) (fun j hj hjq => by
            have hj2 := (hh'.rng j hj).2
            simp [go_sem, hjq, show j ≠ H.next by omega])
        · intro y hy hyf
          cases hL : left (kK co y) y.attr with
          | false => exact hO y hy hL
          | true =>
            have hyy : kK co y = (n : Int) ∧ y.attr = (w : Int) := by rw [hL] at hyf; simpa using hyf
            have hsy : eU co y = n := by rw [mL, hyy.1]; rfl
            have hty : cD y.term m.vars = c := by rw [← e3]; exact Pk hcl y hy x hxm (by rw [hyy.1, e1]) (by rw [hyy.2, e2])
            unfold v6
            rw [hsy, hnd0, show y.attr.toNat = w by omega, aA haA, hty]; exact hcF
        · intro j hj hjn
          simp [go_sem, show j ≠ H.next by omega, show j ≠ q from fun e => hjn (e ▸ hh'.q_in hqin)]; exact hG j hj hjn
theorem QI {d:List Int}(hd:d.Pairwise (· < ·)){n:Nat}{x:Int}(h0:0≤x)(hx:x<n)(hm:x∈d):∃ p:Nat,p<d.length∧(jR d n)[x.toNat]?=some (p:Int):=by
 obtain ⟨p,hp,rfl⟩:=aO hm
 refine ⟨p,hp,?_⟩
 rw [xG _ (by omega),show ((d[p].toNat:Nat):Int)=d[p] by omega,wO (BB hd) hp]
theorem PD {im d:List Int}{n:Nat}(hd:d.Pairwise (· < ·)){k:Int}(h0:0≤k)(hk:k<im.length)(hx:0≤iA im k∧iA im k<n)(hm:iA im k∈d):∃ p:Nat,p<d.length∧(nD im (pV d n))[k.toNat]?.getD 0=p:=by
 obtain ⟨p,hp,he⟩:=QI hd hx.1 hx.2 hm
 have hkn:k.toNat<im.length:=by omega
 have e:iA im k=im[k.toNat]:=by unfold iA;rw [aA hkn];rfl
 refine ⟨p,hp,?_⟩
 unfold nD pV
 rw [aR,aA hkn,eM,aD,← e,he];rfl
theorem GZ {keep into at_:List Int}{rem:Nat}(hin:into.Nodup)(hl:keep.length=into.length)(hk:∀ k∈keep,∃ p:Nat,p<rem∧at_[k.toNat]?.getD 0=p)(i:Nat) :
  G0 keep into at_ rem i=((rem+(b5 into i).length:Nat):Int)↔mem into i=false:=by
 have hb:=G9 hin (i:Int)
 have hle:=AK into i into.length
 unfold G0
 cases hm:mem into i with
 | true =>
  rw [hm] at hb
  have h0:¬ gF into into.length i<0:=by simpa using hb
  have hlt:(gF into into.length i).toNat<keep.length:=by omega
  obtain ⟨p,hp,hq⟩:=hk _ (aC hlt)
  rw [if_pos (by omega),aA hlt,aD,hq]
  constructor
  ·intro e;omega
  ·intro e;cases e
 | false =>
  rw [hm] at hb
  have h0:gF into into.length i<0:=by simpa using hb
  rw [if_neg (by omega),MO hin];simp
theorem Na {keep into at_:List Int}{right rem i:Nat}(h:i<right):(CQ keep into at_ right rem)[i]?.getD 0=G0 keep into at_ rem i:=by
 unfold CQ;simp [h]
section
variable {t:Types} {r:Rule} {h:Host} {m:Mat}
theorem StepIn.keptE (S:StepIn t r h m){k:Int}(hk:k∈r.keep.edges):iA m.m.edges k∈(b4 r h m).edges:=by
 have hK:=S.hR.keep
 have hl:=S.hm.elen
 have hr:=hK.2.2.1 k hk
 have h1:=w6 S.dup.2 hr.1 (by omega) hk
 rw [S.rest]
 have h2:=S.hm.eimg k.toNat (by omega)
 have e:iA m.m.edges k=m.m.edges[k.toNat]'(by omega):=by unfold iA;rw [aA (by omega)];rfl
 exact kU.2 ⟨by rw [e];exact h2,h1⟩
theorem StepIn.kN (S:StepIn t r h m):∀ k∈r.keep.nodes,(0≤k∧k<m.m.nodes.length)∧(0≤iA m.m.nodes k∧iA m.m.nodes k<h.graph.nodes.length)∧∃ p:Nat,p<(b4 r h m).nodes.length∧(nD m.m.nodes (lU r h m).nodes)[k.toNat]?.getD 0=p:=fun k hk=>by
 have hr:=S.hR.keep.2.1 k hk
 have hl:=S.hm.len
 have hi:=S.nin _ (S.keptN hk)
 exact ⟨by omega,hi,PD S.nasc hr.1 (by omega) hi (S.keptN hk)⟩
theorem StepIn.kE (S:StepIn t r h m):∀ k∈r.keep.edges,(0≤k∧k<m.m.edges.length)∧(0≤iA m.m.edges k∧iA m.m.edges k<h.graph.edges.length)∧∃ p:Nat,p<(b4 r h m).edges.length∧(nD m.m.edges (lU r h m).edges)[k.toNat]?.getD 0=p:=fun k hk=>by
 have hr:=S.hR.keep.2.2.1 k hk
 have hl:=S.hm.elen
 have hi:=S.ein _ (S.keptE hk)
 exact ⟨by omega,hi,PD S.easc hr.1 (by omega) hi (S.keptE hk)⟩
theorem StepIn.frN (S:StepIn t r h m):∀ i,i<r.right.graph.nodes.length→((nU r h m).nodes[i]?.getD 0=(((b4 r h m).nodes.length+(b5 r.into.nodes i).length:Nat):Int)↔mem r.into.nodes i=false):=fun i hi=>by
 have:=GZ S.intoN.1 S.hR.keep.1.1 (fun k hk=>(S.kN k hk).2.2) i
 unfold nU;simp only
 rw [Na hi];exact this
theorem StepIn.frE (S:StepIn t r h m):∀ i,i<r.right.graph.edges.length→((nU r h m).edges[i]?.getD 0=(((b4 r h m).edges.length+(b5 r.into.edges i).length:Nat):Int)↔mem r.into.edges i=false):=fun i hi=>by
 have:=GZ S.intoN.2 S.hR.keep.1.2 (fun k hk=>(S.kE k hk).2.2) i
 unfold nU;simp only
 rw [Na hi];exact this
theorem StepIn.bdE (S:StepIn t r h m):bdE h (b4 r h m) (lU r h m) (b4 r h m).edges.length=⟨bY h.graph (b4 r h m),(b4 r h m).nodes.map fun k=>h.values[k.toNat]?.getD []⟩:=by
 unfold Go.Abs.bdE bY
 rw [if_pos S.sub,aH (bC _)]
 congr 2
 refine bU fun k hk=>?_
 obtain ⟨s1,s2⟩:=IS S.sub hk
 have key:∀ v:Int,v∈(b4 r h m).nodes→iA (lU r h m).nodes v=(sQ (b4 r h m).nodes v:Int):=fun v hv=>by
  have hr:=S.nin v hv
  unfold iA lU pV
  simp only
  rw [xG _ (by omega),aD,show ((v.toNat:Nat):Int)=v by omega,G7 S.nasc,if_pos ((c6 _ _).2 hv)]
 unfold Tp
 rw [key _ s1,key _ s2];rfl
theorem StepIn.grow (S:StepIn t r h m):iO t r (nU r h m) (Go.Abs.bdE h (b4 r h m) (lU r h m) (b4 r h m).edges.length)=cJ t r h m:=by
 rw [S.bdE];rfl
end
theorem Qj {t:Types}{r:Rule}{h:Host}{m:Mat}(h0:CF t r h m=0):eR t r.left.graph h.graph m.m r.inj=0∧(dD t r.left h m.m).2=0∧(dD t r.left h m.m).1=m.vars:=by
 unfold CF at h0
 split at h0
 ·cases h0
 ·rename_i h1
  split at h0
  ·exact absurd h0 (by assumption)
  ·rename_i h2
   split at h0
   ·cases h0
   ·rename_i h3
    exact ⟨by simpa using h1,by simpa using h2,by simpa using h3⟩
theorem Ps {t:Types}{r:Rule}(h:ruleF t r=0):condF t r.left r.cond=0:=by
 unfold ruleF at h
 split at h
 ·exact absurd h (by assumption)
 ·split at h
  ·cases h
  ·split at h
   ·exact absurd h (by assumption)
   ·split at h
    ·exact absurd h (by assumption)
    ·split at h
     ·exact absurd h (by assumption)
     ·split at h
      ·cases h
      ·exact h
def sF (t:Types)(r:Rule)(h:Host)(m:Mat):Stp26:=if gP t r h m=0 then yQ t r h m else lI
theorem Ru {P:Program}{f:FuncId}{args:List D}{r:D}(hcl:r.cl=true)(h:∀ Q:D→AHeap→Prop,(∀ d H',(gQ H' d).cl=true→(gQ H' d=r∨Oy (gQ H' d)=r)→Q d H')→ACalls P f args .emp Q):Pure P f args r:=by
 refine MC hcl fun Q hq=>ACalls.deep (h _ fun d H' hc hr=>hq _ _ ?_)
 rw [Mw _ hc];exact hr
theorem La (t:Types)(ht:t.ok)(r:Rule)(hr:r.ok)(hr0:ruleF t r=0)(h:Host)(hh0:fW t h=0)(m:Mat):Pure Tryz.prog 58 [t.d,r.d,h.d,m.d] (.tup [.agg (sF t r h m).c,dI (gP t r h m)]):=by
 refine Ru (by simp [go_sem,D.cl,D.clL,Stp26.cl]) fun Q hQ=>?_
 have hR:=OO hr hr0
 have ho:=tZ hh0
 have hcF:=Ps hr0
 refine (aI (cfg:=⟨fun t=>t==8||t==11||t==13||t==15,fun r=>match r with|15=>[(0,2),(2,3),(0,4),(0,6),(1,6),(2,6),(3,6),(4,6)]|16=>[(6,7),(6,8),(6,9),(6,10),(6,11),(6,12)]|17=>[(20,21),(20,22),(20,23),(20,24),(20,25),(20,26),(20,27),(20,28),(20,29),(20,30),(20,31),(20,32),(20,33),(20,34),(20,35),(20,36),(20,37),(20,38),(20,39),(20,40)]|_=>[]⟩) Tz.mixed Tryz.func58 rfl rfl (aF rfl) (by kernel_rfl) ?_)
 have Y:=wa @Host.d.eq_1 (wa @Host.c.eq_1 (wa @Mat.d.eq_1 @Mat.c.eq_1))
 refine wv (h:=aB (Hn t ht r h m) wl ?_)
 refine c4 (fun h2=>?_) fun h2=>?_
 ·have hA:gP t r h m=CF t r h m:=by unfold gP jW;rw [JL,if_pos h2];simp [h2]
  have hV:sF t r h m=lI:=by unfold sF;rw [if_neg (by omega)]
  refine wv (h:=?_)
  refine hQ _ _ (by simp [go_sem,gQ,iV,nC,eJ,D.cl,D.clL]) (by first|(left;(simp [go_sem,gQ,iV,nC,eJ,hA,hV,lI,mM,oU,iB,Stp26.c,Rule.c,Mat.c,Host.c,Cond.kind,Cond.kids,Cond.map,Cond.pattern,dLI,dI]);done)|(right;(simp [go_sem,gQ,iV,nC,eJ,hA,hV,lI,mM,oU,iB,Stp26.c,Rule.c,Mat.c,Host.c,Cond.kind,Cond.kids,Cond.map,Cond.pattern,dLI,dI]);done))
 ·have hp0:oT t r h m=o8 (oL r.left.graph h.graph m.m) h.graph r.keep m.m:=by rw [JL,if_neg (by omega)]
  obtain ⟨hck,hso,hsv⟩:=Qj (show CF t r h m=0 by omega)
  have hck0:=Md hck
  have hin:xM t r.left.graph h.graph m.m=oL r.left.graph h.graph m.m:=by unfold xM;rw [if_pos hck0]
  have hmk:=p9 (pR hck0).2
  have hgl:=bK hR.pl.gg
  have hgr:=bK hR.gr
  have hgh:=bK ho.gg
  have hml:=hmk.len
  have hmel:=hmk.elen
  have hkl:=hR.kl
  have hvh:=ho.vl
  have hrw:∀ v∈h.values,v.length≤100000:=fun v hv=>by have:=(ho.row v hv).1;omega
  have Y:=wa Y (wa hck0 hin)
  refine wv (h:=aB (CC t ht r.left.graph h.graph m.m) wl ?_)
  refine wv (h:=aB (FQ (oL r.left.graph h.graph m.m) h.graph r.keep m.m (by omega) (by omega) (by omega) (by omega) (by omega)) wl ?_)
  refine c4 (fun h8=>?_) fun h8=>?_
  ·have hpe:oT t r h m≠0:=by omega
   have hA:gP t r h m=oT t r h m:=by unfold gP jW;rw [if_pos hpe,if_pos hpe]
   have hV:sF t r h m=lI:=by unfold sF;rw [if_neg (by omega)]
   refine wv (h:=?_)
   refine hQ _ _ (by simp [go_sem,gQ,iV,nC,eJ,D.cl,D.clL]) (by first|(left;(simp [go_sem,gQ,iV,nC,eJ,hA,hp0,hV,lI,mM,oU,iB,Stp26.c,Rule.c,Mat.c,Host.c,Cond.kind,Cond.kids,Cond.map,Cond.pattern,dLI,dI]);done)|(right;(simp [go_sem,gQ,iV,nC,eJ,hA,hp0,hV,lI,mM,oU,iB,Stp26.c,Rule.c,Mat.c,Host.c,Cond.kind,Cond.kids,Cond.map,Cond.pattern,dLI,dI]);done))
  ·have hpre:oT t r h m=0:=by omega
   have S:=Lb hR ho hpre
   have hMat:=GE S hpre
   have hP:qE (oL r.left.graph h.graph m.m) h.graph r.keep m.m=b4 r h m:=rfl
   have hcg:QF t r.left r.cond h m r.inj=0:=by
    unfold QF;rw [if_neg (by omega),if_neg (by omega),if_neg (by omega),if_neg (by omega),if_neg (by rw [hsv];simp)]
   have hS1:jW t r h m=if (lP t h r.inj r.cond m).2≠0 then (lP t h r.inj r.cond m).2 else if (lP t h r.inj r.cond m).1=false then 16 else 0:=by unfold jW;rw [if_neg (by omega)]
   have Y:=wa Y hP
   refine wv (h:=aB ((by have hq:=xO t ht r.left r.cond hr.cond hR.cond hR.pl h ho m hMat r.inj hcg;simp only [Cond.c_eq] at hq;unfold Types.d Types.c Pattern.d Pattern.c Host.d Host.c Mat.d Mat.c dLI dI at hq;exact hq)) wl ?_)
   refine c4 (fun h11=>?_) fun h11=>?_
   ·have hA:gP t r h m=(lP t h r.inj r.cond m).2:=by unfold gP;rw [hS1,if_pos h11];simp [h11]
    have hV:sF t r h m=lI:=by unfold sF;rw [if_neg (by omega)]
    refine wv (h:=?_)
    refine hQ _ _ (by simp [go_sem,gQ,iV,nC,eJ,D.cl,D.clL]) (by first|(left;(simp [go_sem,gQ,iV,nC,eJ,hA,hV,lI,mM,oU,iB,Stp26.c,Rule.c,Mat.c,Host.c,Cond.kind,Cond.kids,Cond.map,Cond.pattern,dLI,dI]);done)|(right;(simp [go_sem,gQ,iV,nC,eJ,hA,hV,lI,mM,oU,iB,Stp26.c,Rule.c,Mat.c,Host.c,Cond.kind,Cond.kids,Cond.map,Cond.pattern,dLI,dI]);done))
   ·refine tG (fun h13=>?_) fun h13=>?_
    ·have hA:gP t r h m=16:=by
      have:(lP t h r.inj r.cond m).1=false:=by simpa using h13
      have hps:jW t r h m=16:=by rw [hS1,if_neg (by omega),if_pos this]
      unfold gP;rw [if_pos (by omega),hps]
     have hV:sF t r h m=lI:=by unfold sF;rw [if_neg (by omega)]
     refine wv (h:=?_)
     refine hQ _ _ (by simp [go_sem,gQ,iV,nC,eJ,D.cl,D.clL]) (by first|(left;(simp [go_sem,gQ,iV,nC,eJ,hA,hV,lI,mM,oU,iB,Stp26.c,Rule.c,Mat.c,Host.c,Cond.kind,Cond.kids,Cond.map,Cond.pattern,dLI,dI]);done)|(right;(simp [go_sem,gQ,iV,nC,eJ,hA,hV,lI,mM,oU,iB,Stp26.c,Rule.c,Mat.c,Host.c,Cond.kind,Cond.kids,Cond.map,Cond.pattern,dLI,dI]);done))
    ·have hps:jW t r h m=0:=by
      have h13':(lP t h r.inj r.cond m).1=true:=by simpa using h13
      rw [hS1,if_neg (by omega),if_neg (by rw [h13'];simp)]
     have hK:=hR.keep
     have hkN:=S.kN
     have hkE:=S.kE
     obtain ⟨tr,htr⟩:∃ tr,tr=lU r h m:=⟨_,rfl⟩
     obtain ⟨cm,hcm⟩:∃ cm,cm=nU r h m:=⟨_,rfl⟩
     have hT1:pV (b4 r h m).nodes h.graph.nodes.length=tr.nodes:=by rw [htr];rfl
     have hT2:pV (b4 r h m).edges h.graph.edges.length=tr.edges:=by rw [htr];rfl
     have htl1:tr.nodes.length=h.graph.nodes.length:=by rw [← hT1];exact kD _ _
     have htl2:tr.edges.length=h.graph.edges.length:=by rw [← hT2];exact kD _ _
     rw [← htr] at hkN hkE
     have hC1:CQ r.keep.nodes r.into.nodes (nD m.m.nodes tr.nodes) r.right.graph.nodes.length (b4 r h m).nodes.length=cm.nodes:=by rw [hcm,htr];rfl
     have hC2:CQ r.keep.edges r.into.edges (nD m.m.edges tr.edges) r.right.graph.edges.length (b4 r h m).edges.length=cm.edges:=by rw [hcm,htr];rfl
     have hdl:=S.len
     have hvl:=hMat.vl
     have hvs:Sm m.vars:=fun v hv=>by have:=hMat.vs v hv;omega
     have hvv:=hR.pl.vars
     have hcl1:cm.nodes.length=r.right.graph.nodes.length:=by rw [hcm];simp [nU,CQ]
     have hcl2:cm.edges.length=r.right.graph.edges.length:=by rw [hcm];simp [nU,CQ]
     have hfN:=S.frN
     have hfE:=S.frE
     have hB:=S.grow
     rw [← hcm] at hfN hfE hB
     rw [← htr] at hB
     have Y:=wa Y (wa hT1 (wa hT2 (wa hC1 hC2)))
     refine wv (h:=aK (Dn m (by omega) (by omega) (by omega)) wl ?_)
     refine wv (h:=aK (Fk h (by omega) (by omega) (by omega) hrw) wl ?_)
     refine wp (h:=aK (Dk h.graph.nodes.length (by omega) (b4 r h m).nodes S.nasc (by omega)) wl ?_)
     refine wp (h:=aK (Dk h.graph.edges.length (by omega) (b4 r h m).edges S.easc (by omega)) wl ?_)
     refine wp (h:=aK (zO r.right.graph.nodes.length (by omega) r.keep.nodes r.into.nodes m.m.nodes tr.nodes (b4 r h m).nodes.length (by omega) (by omega) hK.2.2.2.1 (fun x hx=>(hkN x hx).1) (fun x hx=>by have:=(hkN x hx).2.1;omega) (fun x hx=>by obtain ⟨p,_,hp⟩:=(hkN x hx).2.2;omega)) wl ?_)
     refine wp (h:=aK (zO r.right.graph.edges.length (by omega) r.keep.edges r.into.edges m.m.edges tr.edges (b4 r h m).edges.length (by omega) (by omega) hK.2.2.2.2 (fun x hx=>(hkE x hx).1) (fun x hx=>by have:=(hkE x hx).2.1;omega) (fun x hx=>by obtain ⟨p,_,hp⟩:=(hkE x hx).2.2;omega)) wl ?_)
     refine wp (h:=?_)
     refine uC (.step (.step (.step (.refl _) 9 0 31 3 1 _ _ (by simp [go_sem];rfl) rfl rfl rfl) 9 0 32 122 3 _ _ (by simp [go_sem];rfl) rfl rfl rfl) 9 0 33 26 1 _ _ (by simp [go_sem];rfl) rfl rfl rfl) ?_
     simp [go_sem]
     unfold fE
     refine K9 t ht r hR m h ho (b4 r h m) tr cm S.nin S.ein hdl htl1 ⟨hcl1,hcl2⟩ hfN hfE 9 73 74 75 _ (by simp [go_sem,eI,dLI]) ⟨by simp [go_sem],by simp [go_sem],by simp [go_sem,jK],rfl,fun i q v h1 _=>by simp at h1,by simp,fun q hq=>by simp at hq;rcases hq with rfl|rfl|rfl<;>simp [go_sem]⟩ (by simp [go_sem]) (by simp) (fun j hj hA=>?_) _ (fun qs H1 hH1 hs1 hq1 hq2 hf1 hn1=>?_)
     ·simp [go_sem,mY,qM,Hc,EZ] at hA hj;omega
     rw [hB] at hH1 hs1
     have hn1':76≤H1.next:=by simp [go_sem] at hn1;omega
     have k0:=hf1 0 (by simp [go_sem]) (by simp)
     simp [go_sem] at k0
     have hq0:∀ j,j<73→j∉73 :: 74 :: 75 :: qs:=fun j hj hm=>by
      simp only [aT] at hm
      rcases hm with h|h|h|h
      ·omega
      ·omega
      ·omega
      ·have:=hq2 j h;simp [go_sem] at this;omega
     refine wp (h:=?_)
     unfold fE
     refine Nr t ht r hR m h (cJ t r h m) tr cm (hcm ▸ S.put) hvl hvs H1 9 73 74 75 qs hs1 hH1 hq1 (by omega) _ (fun H2 hE2 hf2 hn2=>?_) (fun H2 hE2 hH2 hf2 hn2=>?_)
     ·have m0:=(hf2 0 (by omega) (hq0 0 (by omega))).trans k0
      have hA:gP t r h m=rY t (cJ t r h m).graph cm m.vars r.right.slots:=by unfold gP;rw [if_neg (by omega),← hcm,if_pos hE2]
      have hV:sF t r h m=lI:=by unfold sF;rw [if_neg (by omega)]
      simp [go_sem,seval,m0]
      refine aP (fun hc=>?_) (fun hc=>absurd (by simpa using hc) hE2)
      simp [go_sem,seval,m0]
      refine hQ _ _ (by simp [go_sem,gQ,iV,nC,eJ,D.cl,D.clL]) (by first|(left;(simp [go_sem,gQ,iV,nC,eJ,hA,hV,lI,mM,oU,iB,Stp26.c,Rule.c,Mat.c,Host.c,Cond.kind,Cond.kids,Cond.map,Cond.pattern,dLI,dI]);done)|(right;(simp [go_sem,gQ,iV,nC,eJ,hA,hV,lI,mM,oU,iB,Stp26.c,Rule.c,Mat.c,Host.c,Cond.kind,Cond.kids,Cond.map,Cond.pattern,dLI,dI]);done))
     have m0:=(hf2 0 (by omega) (hq0 0 (by omega))).trans k0
     have m9:=(hf2 9 (by omega) (hq0 9 (by omega))).trans hs1
     simp only [eI] at m9
     have m73:H2.get 73=some ⟨3,1,(cJ t r h m).graph.nodes.map cI,false⟩:=hH2.ga
     have m74:H2.get 74=some ⟨122,3,(cJ t r h m).graph.edges.map Edge.c,false⟩:=hH2.gb
     have Y:=wa Y (wa m0 (wa m9 (wa m73 m74)))
     refine tG (fun h22=>?_) fun h22=>?_
     ·have hA:gP t r h m=3:=by
       unfold gP;rw [if_neg (by omega),← hcm,if_neg (by omega),if_pos (by first|exact h22|omega)]
      have hV:sF t r h m=lI:=by unfold sF;rw [if_neg (by omega)]
      refine wv (h:=?_)
      refine hQ _ _ (by simp [go_sem,gQ,iV,nC,eJ,D.cl,D.clL]) (by first|(left;(simp [go_sem,gQ,iV,nC,eJ,hA,hV,lI,mM,oU,iB,Stp26.c,Rule.c,Mat.c,Host.c,Cond.kind,Cond.kids,Cond.map,Cond.pattern,dLI,dI]);done)|(right;(simp [go_sem,gQ,iV,nC,eJ,hA,hV,lI,mM,oU,iB,Stp26.c,Rule.c,Mat.c,Host.c,Cond.kind,Cond.kids,Cond.map,Cond.pattern,dLI,dI]);done))
     ·have hA:gP t r h m=0:=by
       unfold gP;rw [if_neg (by omega),← hcm,if_neg (by omega),if_neg (by first|exact h22|omega)]
      have hV:sF t r h m=yQ t r h m:=by unfold sF;rw [if_pos hA]
      have hW:uF t r h m=⟨(cJ t r h m).graph,rX cm m.vars r.right.slots (cJ t r h m).values⟩:=by rw [hcm];rfl
      have hvl5:=(pZ cm m.vars r.right.slots (cJ t r h m).values).1
      have fin:∀ k:Blk,Q (.tup [.agg (eI r m h (.own 73 (cJ t r h m).graph.nodes.length) (.own 74 (cJ t r h m).graph.edges.length) (.own 75 (cJ t r h m).values.length) tr cm),dI 0]) (H2.put 0 k):=fun k=>by
       obtain ⟨E,hE⟩:∃ E,E=H2.put 0 k:=⟨_,rfl⟩
       have h5:HH E 0 73 74 75 qs (uF t r h m):=by
        rw [hW];exact hH2.same (by rw [hE];simp [go_sem]) (fun j hj=>by
         have hj0:j≠0:=fun e=>hq0 0 (by omega) (e ▸ hj)
         rw [hE];simp [go_sem,hj0])
       have hd:=h5.deep
       have e1:(uF t r h m).graph.nodes.length=(cJ t r h m).graph.nodes.length:=by rw [hW]
       have e2:(uF t r h m).graph.edges.length=(cJ t r h m).graph.edges.length:=by rw [hW]
       have e3:(uF t r h m).values.length=(cJ t r h m).values.length:=by rw [hW];exact hvl5
       rw [e1,e2,e3] at hd
       simp only [iV,f6,iE,Host.d,Host.c,D.agg.injEq,List.cons.injEq,and_true] at hd
       obtain ⟨d1,d2,d3⟩:=hd
       have key:gQ E (.tup [.agg (eI r m h (.own 73 (cJ t r h m).graph.nodes.length) (.own 74 (cJ t r h m).graph.edges.length) (.own 75 (cJ t r h m).values.length) tr cm),dI 0])=.tup [.agg (sF t r h m).c,dI (gP t r h m)]:=by
        rw [hA,hV]
        simp only [gQ,iV,eI,f6,iE,d1,d2,d3]
        simp [iV,nC,eJ,yQ,Stp26.c,Rule.c,Mat.c,Host.c,dLI,dI,htr,hcm]
       rw [← hE]
       exact hQ _ _ (by rw [key];simp [go_sem,D.cl,D.clL,Stp26.cl]) (.inl key)
      refine wv (h:=?_)
      exact fin _
theorem Bn {t:Types}{r:Rule}{h:Host}(h0:fC t r h=0):ruleF t r=0∧fW t h=0:=by
 unfold fC at h0
 split at h0
 ·exact absurd h0 (by assumption)
 ·rename_i h1;exact ⟨by simpa using h1,h0⟩
theorem zP (t:Types)(ht:t.ok)(r:Rule)(hr:r.ok)(hr0:ruleF t r=0)(h:Host)(hh0:fW t h=0)(m:Mat){v:Stp26}{e:Int}(hv:v=sF t r h m)(he:e=gP t r h m):Pure Tryz.prog 58 [t.d,r.d,h.d,m.d] (.tup [.agg v.c,dI e]):=by
 subst hv he;exact La t ht r hr hr0 h hh0 m
theorem Do (t:Types)(ht:t.ok)(r:Rule)(hr:r.ok)(h:Host)(m:Mat):Pure Tryz.prog 15 [t.d,r.d,h.d,m.d] (.tup [.agg (iU t r h m).c,dI (qL t r h m)]):=by
 obtain ⟨v,hv⟩:∃ v,v=sF t r h m:=⟨_,rfl⟩
 obtain ⟨e,he⟩:∃ e,e=gP t r h m:=⟨_,rfl⟩
 refine Tz.pK ⟨fun t=>t==8,fun _=>[]⟩ Tryz.func15 rfl (fun Q hQ=>?_)
 have Y:=wa @Host.d.eq_1 (wa @Host.c.eq_1 (wa @Mat.d.eq_1 (wa @Mat.c.eq_1 @Stp26.c.eq_1)))
 refine wv (h:=aB (Dm t ht r hr h) wl ?_)
 refine c4 (fun h2=>?_) fun h2=>?_
 ·have hA:qL t r h m=fC t r h:=by unfold qL;rw [if_pos h2]
  have hV:iU t r h m=lI:=by unfold iU;rw [if_neg (by omega)]
  exact wv (h:=hQ _ _ (by simp [go_sem,hA,hV,lI,mM,oU,iB,Stp26.c,Rule.c,Mat.c,Host.c,Cond.kind,Cond.kids,Cond.map,Cond.pattern,dLI,dI]))
 ·have hz:=Bn (show fC t r h=0 by omega)
  have hA:qL t r h m=e:=by rw [he];unfold qL;rw [if_neg (by omega)]
  have hV:iU t r h m=v:=by rw [hv];unfold iU sF;rw [hA,he]
  refine wv (h:=aB ((by have hq:=zP t ht r hr hz.1 h hz.2 m hv he;simp only [Stp26.c,Rule.c,Mat.c,Host.c,eL,eN] at hq;unfold Mat.d Mat.c Host.d Host.c dLI at hq;exact hq)) wl ?_)
  exact wv (h:=hQ _ _ (by simp [go_sem,hA,hV,Stp26.c,Rule.c,Mat.c,Host.c]))
theorem CA (t:Types)(ht:t.ok)(r:Rule)(hr:r.ok)(h:Host):Pure Tryz.prog 24 [t.d,r.d,h.d] (.tup [.list ((EY t r h).1.map Mat.c),dI (EY t r h).2]):=by
 refine Tz.pK ⟨fun t=>t==11||t==13||t==14,fun _=>[]⟩ Tryz.func24 rfl (fun Q hQ=>?_)
 have Y:=wa @Host.d.eq_1 @Host.c.eq_1
 refine wv (h:=aB (Dm t ht r hr h) wl ?_)
 refine c4 (fun h2=>?_) fun h2=>?_
 ·have hS:EY t r h=([],fC t r h):=by unfold EY;rw [if_pos h2]
  exact wv (h:=hQ _ _ (by simp [go_sem,hS]))
 ·have hz:=Bn (show fC t r h=0 by omega)
  refine wv (h:=aB (AM t ht r.left h r.inj) wl ?_)
  refine c4 (fun h5=>?_) fun h5=>?_
  ·have hS:EY t r h=([],(g7 t r.left h r.inj).2):=by unfold EY;rw [if_neg (by omega),if_pos h5]
   exact wv (h:=hQ _ _ (by simp [go_sem,hS]))
  ·have hS:EY t r h=((g7 t r.left h r.inj).1.filter fun m=>decide (gP t r h m=0),0):=by unfold EY;rw [if_neg (by omega),if_neg (by omega)]
   have hL5:=JX t r.left h r.inj
   obtain ⟨L,hL⟩:∃ L,L=(g7 t r.left h r.inj).1:=⟨_,rfl⟩
   rw [← hL] at hS hL5
   have Y:=wa Y (Eq.symm hL)
   refine wp (h:=bA (fun i e H=>∃ ms:List Mat,(e 3=.adr t.c∧e 4=.adr r.c∧e 5=.adr h.c∧e 36=.list (L.map Mat.c)∧e 37=dI L.length∧e 11=.own 0 ms.length∧e 38=dI i)∧(H.get 0=some ⟨46,3,ms.map Mat.c,false⟩)∧(0<H.next)∧(i≤L.length)∧(ms=(L.take i).filter fun m=>decide (gP t r h m=0))∧(ms.length≤i)) (fun i=>L.length - i) 0 ⟨([]),wg,wn,wn,wi,(by rfl),(by (simp))⟩ fun I0 hI0 i e H hi0=>?_)
   obtain ⟨ms,E0,g0_0,n0_0,hi,hms,hml⟩:=hi0
   have Y:=wa Y (wa E0 (wa g0_0 (bZ n0_0)))
   refine c4 (fun h9=>?_) fun h9=>?_
   ·obtain ⟨v,hv⟩:∃ v,v=sF t r h L[i]:=⟨_,rfl⟩
    obtain ⟨e,he⟩:∃ e,e=gP t r h L[i]:=⟨_,rfl⟩
    obtain ⟨ms2,hms2⟩:∃ y,y=ms++[L[i]].filter fun m=>decide (gP t r h m=0):=⟨_,rfl⟩
    have hes:gP t r h L[i]=e:=he.symm
    have Y:=wa Y (wa h9 (wa (aA h9) (wa @Mat.c.eq_1 @Stp26.c.eq_1)))
    refine wp (h:=aB ((by have hq:=zP t ht r hr hz.1 h hz.2 L[i] hv he;simp only [Stp26.c,Rule.c,Mat.c,Host.c,eL,eN] at hq;unfold Mat.d Mat.c Host.d Host.c dLI at hq;exact hq)) wl ?_)
    refine tG (fun h12=>?_) fun h12=>?_
    ·have hm3:ms2=ms++[L[i]]:=by rw [hms2,List.filter_cons_of_pos (by rw [hes];simpa using h12)];rfl
     have Y:=wa Y hm3
     exact wp (h:=wx hI0 (i+1) ⟨ms2,wg,wn,wn,wj,(by (rw [aE h9,kM,← hms,hms2])),(by (rw [hm3];first|(simp;omega)|omega))⟩)
    ·have hm3:ms2=ms:=by rw [hms2,List.filter_cons_of_neg (by rw [hes];simpa using h12)];simp
     have Y:=wa Y hm3
     exact wp (h:=wx hI0 (i+1) ⟨ms2,wg,wn,wn,wj,(by (rw [aE h9,kM,← hms,hms2])),(by (rw [hm3];first|(simp;omega)|omega))⟩)
   ·rw [aH (by omega)] at hms
    exact wv (h:=hQ _ _ (by simp [go_sem,Y,hS,← hms]))
theorem z1 (t:Types)(h1:∀ n∈t.nodes,n.attrs.length≤1000000000000000)(r:Rule)(hr:r.le)(h:Host):Pure Tryz.prog 13 [t.d,r.d,h.d] (.bool (light26 t r h)):=by
 refine Tz.pK ⟨fun _=>false,fun _=>[]⟩ Tryz.func13 rfl (fun Q hQ=>?_)
 have Y:=wa @Host.c.eq_1 (wa @Rule.c.eq_1 @Cond.c_eq)
 refine wo (h:=aB (Gj t h1) wl ?_)
 refine wo (h:=aG (fun hg=>(by have hz:=NF r hr;simpa [Rule.d,Rule.c,Cond.c_eq,go_sem] using hz)) (fun hg=>wl) ?_)
 refine wo (h:=aG (fun hg=>(by have hz:=Jp t (If (by simp at hg;exact hg.1)) r.left r.cond hr.cond h;rwa [Cond.c_eq] at hz)) (fun hg=>wl) ?_)
 have Y:=wa Y @light26.eq_1
 exact wo (h:=hQ _ _ wy)
theorem Eb {t:Types}{r:Rule}{h:Host}(hL:light26 t r h=true):t.ok∧r.ok:=by
 unfold light26 at hL
 simp only [aM] at hL
 exact ⟨If hL.1.1,MY hL.1.2⟩
theorem O1 (l:List ByteArray):eO (l.map cS)=l.map cS:=sU fun c hc=>by
 rw [bG] at hc;obtain ⟨x,_,rfl⟩:=hc;rfl
theorem NS (l:List Attr):eO (l.map Attr.c)=l.map Attr.c:=sU fun c hc=>by
 rw [bG] at hc;obtain ⟨x,_,rfl⟩:=hc
 simp [Attr.c,jE,lR,qV,dI,O1]
theorem Gw (l:List NodeTy):eO (l.map NodeTy.c)=l.map NodeTy.c:=sU fun c hc=>by
 rw [bG] at hc;obtain ⟨x,_,rfl⟩:=hc
 simp [NodeTy.c,jE,lR,dI,NS]
theorem B6 (l:List EdgeTy):eO (l.map EdgeTy.c)=l.map EdgeTy.c:=sU fun c hc=>by
 rw [bG] at hc;obtain ⟨x,_,rfl⟩:=hc
 simp [EdgeTy.c,jE,lR,dI]
theorem Pure.nzk {P:Program}{f:FuncId}{args args':List D}{r:D}(hp:Pure P f args' r)(ha:args.map lR=args'):Pure P f args r:=by
 subst ha
 refine ⟨hp.1,fun M w vals hM hv=>hp.2 M w vals hM ⟨by simpa using hv.len,fun j u d hu hd=>?_⟩⟩
 rw [aR,bD] at hd
 obtain ⟨y,hy,rfl⟩:=hd
 exact ML (hv.rep j u y hu hy)
def exT:Types:=⟨[⟨⟨#[65,99,99,111,117,110,116]⟩,-1,true,[⟨⟨#[98,97,108,97,110,99,101]⟩,-1000,1000,[]⟩]⟩,⟨⟨#[67,97,115,104]⟩,0,false,[]⟩,⟨⟨#[76,111,97,110]⟩,0,false,[⟨⟨#[115,116,97,116,101]⟩,0,1,[⟨#[111,112,101,110]⟩,⟨#[99,108,111,115,101,100]⟩]⟩]⟩,⟨⟨#[80,101,114,115,111,110]⟩,-1,false,[]⟩],
 [⟨⟨#[111,119,110,115]⟩,3,0,0,-1,1,1⟩,⟨⟨#[112,97,121,115]⟩,1,1,0,-1,0,-1⟩]⟩
theorem yA:Pure Tryz.prog 51 [] exT.d:=by
 refine vY (by first|rfl|(simp [go_sem];done)) (fun Q hQ=>(aI (cfg:=⟨fun t=>t==0,fun _=>[]⟩) Tz.mixed Tryz.func51 rfl rfl (aF rfl) (by kernel_rfl) ?_))
 have Y:=trivial
 refine KS (h:=?_)
 exact hQ _ _ (by simp [go_sem,exT,Types.d,Types.c,NodeTy.c,EdgeTy.c,Attr.c,qV,cS,dI])
def payR:Rule:=⟨⟨#[112,97,121]⟩,⟨⟨[1,1],[]⟩,[⟨0,0,⟨0,0⟩⟩,⟨1,0,⟨1,0⟩⟩],2,[]⟩,⟨⟨[1,1],[⟨1,0,1⟩]⟩,[⟨0,0,⟨0,-3⟩⟩,⟨1,0,⟨1,3⟩⟩],2,[]⟩,⟨[0,1],[]⟩,⟨[0,1],[]⟩,true,.mk 1 [] ⟨[],[]⟩ oU⟩
theorem GI:Pure Tryz.prog 52 [] payR.d:=by
 refine vY (by first|rfl|(simp [go_sem];done)) (fun Q hQ=>(aI (cfg:=⟨fun t=>t==0||t==1||t==2||t==3,fun _=>[]⟩) Tz.mixed Tryz.func52 rfl rfl (aF rfl) (by kernel_rfl) ?_))
 have Y:=trivial
 refine KS (h:=?_)
 exact hQ _ _ (by simp [go_sem,payR,oU,Rule.d,Rule.c,Cond.kind,Cond.kids,Cond.map,Cond.pattern,Slot.c,Edge.c,dLI,cI,dI])
def payH:Host:=⟨⟨[3,1,1],[⟨0,0,1⟩,⟨0,0,2⟩]⟩,[[],[10],[5]]⟩
def HU:Mat:=⟨⟨[1,2],[]⟩,[10,5]⟩
theorem Qv:s5 exT=true:=by decide +kernel
theorem OV:fewR payR=true:=by decide +kernel
theorem W8:qL exT payR payH HU=0:=by decide +kernel
theorem W7:(EY exT payR payH).2=0:=by decide +kernel
theorem W6:(EY exT payR payH).1.length=2:=by decide +kernel
theorem W5:(iU exT payR payH HU).after.values=[[],[7],[8]]:=by decide +kernel
theorem W4:(iU exT payR payH HU).after.graph.edges.length=3:=by decide +kernel
theorem W2:(iU exT payR payH HU).track.nodes=[0,1,2]∧(iU exT payR payH HU).track.edges=[0,1]:=by decide +kernel
theorem uL (a:List Int):Pure Tryz.prog 96 [dLI a,dLI a] (.bool true):=by
 refine Tz.pK ⟨fun _=>false,fun _=>[]⟩ Tryz.func96 rfl (fun Q hQ=>?_)
 have Y:=trivial
 refine wo (h:=bA (fun i e H=>(e 0=dLI a∧e 1=dLI a∧e 5=dI i)∧(i≤a.length)) (fun i=>a.length - i) 0 ⟨wg,wi⟩ fun I0 hI0 i e H hi0=>?_)
 obtain ⟨E0,hi⟩:=hi0
 have Y:=wa Y E0
 refine wv (h:=?_)
 repeat first|intro _|refine ⟨dR,?_⟩
 refine wq (fun h4=>?_) fun h4=>?_
 ·have Y:=wa Y (wa h4 (aA h4))
  exact wo (h:=wx hI0 (i+1) ⟨wg,wj⟩)
 ·have Y:=wa Y h4
  exact wv (h:=hQ _ _ wy)
theorem JC (p:Part):Pure Tryz.prog 33 [p.d,p.d] (.bool true):=by
 refine Tz.pK ⟨fun _=>false,fun _=>[]⟩ Tryz.func33 rfl (fun Q hQ=>?_)
 have Y:=trivial
 refine wo (h:=aB (uL p.nodes) wl ?_)
 refine wo (h:=aG (fun hg=>uL p.edges) (fun hg=>wl) ?_)
 exact wo (h:=hQ _ _ wy)
theorem rH:Pure Tryz.prog 12 [] (.bool true):=by
 have ht:=If Qv
 have hr:=MY OV
 have hA:=Do exT ht payR hr payH HU
 have hL:=CA exT ht payR hr payH
 rw [W8] at hA
 rw [W7] at hL
 have h3:=W6
 have h4:=W5
 have h5:=W4
 obtain ⟨h6,h7⟩:=W2
 generalize iU exT payR payH HU=v at *
 generalize (EY exT payR payH).1=L at *
 refine Tz.pK ⟨fun t=>t==1||t==2||t==3,fun r=>match r with|3=>[(0,8),(1,8),(2,8),(3,8),(4,8)]|_=>[]⟩ Tryz.func12 rfl (fun Q hQ=>?_)
 have Y:=wa @Stp26.c.eq_1 (wa @Rule.c.eq_1 (wa @Mat.c.eq_1 (wa @Host.c.eq_1 (wa h4 (wa h5 (wa h6 (wa h7 h3)))))))
 refine KS (h:=aK (yA) wl ?_)
 refine KS (h:=aK (GI) wl ?_)
 refine KS (h:=aK (hA.nzk (by simp [go_sem,Gw,B6,payR,payH,HU,oU,Rule.d,Rule.c,Types.d,Types.c,Host.d,Host.c,Mat.d,Mat.c,Slot.c,Edge.c,cL,dLI,cI,dI,Cond.kind,Cond.kids,Cond.map,Cond.pattern,lR,jE,eO])) wl ?_)
 refine KS (h:=aK (yA) wl ?_)
 refine KS (h:=aK (GI) wl ?_)
 refine KS (h:=aK (hL.nzk (by simp [go_sem,Gw,B6,payR,payH,HU,oU,Rule.d,Rule.c,Types.d,Types.c,Host.d,Host.c,Mat.d,Mat.c,Slot.c,Edge.c,cL,dLI,cI,dI,Cond.kind,Cond.kids,Cond.map,Cond.pattern,lR,jE,eO])) wl ?_)
 refine CY (h:=aK (OS payH.graph (by decide) (by decide)) wl ?_)
 refine CY (h:=aK (JC ⟨[0,1,2],[0,1]⟩) wl ?_)
 exact CY (h:=hQ _ _ wy)
deriving instance DecidableEq for Edge
deriving instance DecidableEq for Graph
deriving instance DecidableEq for Part
deriving instance DecidableEq for Host
deriving instance DecidableEq for Mat
theorem GX {x y:Edge}(h:x.type=y.type∧x.from_=y.from_∧x.to_=y.to_):x=y:=by
 obtain ⟨a,b,c⟩:=x;obtain ⟨d,e,f⟩:=y
 obtain ⟨rfl,rfl,rfl⟩:=h;rfl
theorem Ac (a b:Part):decide (a=b)=(decide (a.nodes=b.nodes)&&decide (a.edges=b.edges)):=by
 rw [aQ];cases a;cases b;simp
theorem At (a b:Graph):decide (a=b)=(decide (a.nodes=b.nodes)&&decide (a.edges=b.edges)):=by
 rw [aQ];cases a;cases b;simp
theorem O3 (a b:Mat):decide (a=b)=(decide (a.m=b.m)&&decide (a.vars=b.vars)):=by
 rw [aQ];cases a;cases b;simp
theorem MU (a b:Host):decide (a=b)=(decide (a.graph=b.graph)&&decide (a.values=b.values)):=by
 rw [aQ];cases a;cases b;simp
theorem jO (a b:List Int):Pure Tryz.prog 99 [dLI a,dLI b] (.bool (decide (a=b))):=by
 refine Tz.pK ⟨fun _=>false,fun _=>[]⟩ Tryz.func99 rfl (fun Q hQ=>?_)
 have Y:=trivial
 refine wv (h:=?_)
 repeat first|intro _|refine ⟨dR,?_⟩
 refine wq (fun h1=>?_) fun h1=>?_
 ·refine wv (h:=?_)
  have hne:a≠b:=by intro h;subst h;omega
  exact hQ _ _ (by simp [go_sem,hne])
 ·refine wv (h:=bA (fun i e H=>(e 0=dLI a∧e 1=dLI b∧e 5=dI i)∧(i≤a.length)∧(a.take i=b.take i)) (fun i=>a.length - i) 0 ⟨wg,wi,(by rfl)⟩ fun I0 hI0 i e H hi0=>?_)
  obtain ⟨E0,hi,he⟩:=hi0
  have Y:=wa Y E0
  refine wv (h:=?_)
  repeat first|intro _|refine ⟨dR,?_⟩
  refine wq (fun h4=>?_) fun h4=>?_
  ·have hib:i<b.length:=by omega
   have Y:=wa Y (wa h4 hib)
   refine wv (h:=?_)
   repeat first|intro _|refine ⟨dR,?_⟩
   refine wq (fun h6=>?_) fun h6=>?_
   ·refine wv (h:=?_)
    have hne:a≠b:=by intro h;subst h;exact h6 rfl
    exact hQ _ _ (by simp [go_sem,hne])
   ·exact wo (h:=wx hI0 (i+1) ⟨wg,wj,(by (rw [aE h4,aE hib,he,h6]))⟩)
  ·rw [aH (by omega),aH (by omega)] at he
   exact wv (h:=hQ _ _ (by simp [go_sem,he]))
theorem BX (a b:Graph):Pure Tryz.prog 106 [a.d,b.d] (.bool (decide (a=b))):=by
 refine Tz.pK ⟨fun _=>false,fun _=>[]⟩ Tryz.func106 rfl (fun Q hQ=>?_)
 have Y:=trivial
 refine wo (h:=aB (jO a.nodes b.nodes) wl ?_)
 refine wv (h:=?_)
 repeat first|intro _|refine ⟨dR,?_⟩
 refine wq (fun h1=>?_) fun h1=>?_
 ·refine wv (h:=?_)
  have hne:a≠b:=by intro h;subst h;simp at h1
  exact hQ _ _ (by simp [go_sem,hne])
 ·have hab:a.nodes=b.nodes∧a.edges.length=b.edges.length:=by (try simp at h1);obtain ⟨q1,q2⟩:=h1;exact ⟨q1,by omega⟩
  refine wv (h:=bA (fun i e H=>(e 2=.adr a.c∧e 3=.adr b.c∧e 5=dI i)∧(i≤a.edges.length)∧(a.edges.take i=b.edges.take i)) (fun i=>a.edges.length - i) 0 ⟨wg,wi,(by rfl)⟩ fun I0 hI0 i e H hi0=>?_)
  obtain ⟨E0,hi,he⟩:=hi0
  have Y:=wa Y E0
  refine wv (h:=?_)
  repeat first|intro _|refine ⟨dR,?_⟩
  refine wq (fun h4=>?_) fun h4=>?_
  ·have hib:i<b.edges.length:=by omega
   have Y:=wa Y (wa h4 (wa (aA h4) (aA hib)))
   refine wv (h:=?_)
   repeat first|intro _|refine ⟨dR,?_⟩
   refine wq (fun h6=>?_) fun h6=>?_
   ·refine wv (h:=?_)
    have hne:a≠b:=by intro h;subst h;simp at h6
    exact hQ _ _ (by simp [go_sem,hne])
   ·exact wo (h:=wx hI0 (i+1) ⟨wg,wj,(by (rw [aE h4,aE hib,he,GX h6]))⟩)
  ·have hE:a.edges=b.edges:=by rw [aH (by omega),aH (by omega)] at he;exact he
   exact wv (h:=hQ _ _ (by simp [go_sem,At,hab.1,hE]))
theorem rB (a b:Part):Pure Tryz.prog 33 [a.d,b.d] (.bool (decide (a=b))):=by
 refine Tz.pK ⟨fun _=>false,fun _=>[]⟩ Tryz.func33 rfl (fun Q hQ=>?_)
 have Y:=trivial
 refine wo (h:=aB (pY a.nodes b.nodes) wl ?_)
 refine wo (h:=aG (fun hg=>pY a.edges b.edges) (fun hg=>wl) ?_)
 have Y:=wa Y @Ac
 exact wo (h:=hQ _ _ wy)
theorem JA (a b:Part):Pure Tryz.prog 94 [a.d,b.d] (.bool (decide (a=b))):=by
 refine Tz.pK ⟨fun _=>false,fun _=>[]⟩ Tryz.func94 rfl (fun Q hQ=>?_)
 have Y:=trivial
 refine wo (h:=aB (jO a.nodes b.nodes) wl ?_)
 refine wo (h:=aG (fun hg=>jO a.edges b.edges) (fun hg=>wl) ?_)
 have Y:=wa Y @Ac
 exact wo (h:=hQ _ _ wy)
theorem Bc (a b:Mat):Pure Tryz.prog 67 [a.d,b.d] (.bool (decide (a=b))):=by
 refine Tz.pK ⟨fun _=>false,fun _=>[]⟩ Tryz.func67 rfl (fun Q hQ=>?_)
 have Y:=wa @Mat.d.eq_1 @Mat.c.eq_1
 refine wo (h:=aB (jO a.m.nodes b.m.nodes) wl ?_)
 refine wo (h:=aG (fun hg=>jO a.m.edges b.m.edges) (fun hg=>wl) ?_)
 refine wo (h:=aG (fun hg=>jO a.vars b.vars) (fun hg=>wl) ?_)
 have Y:=wa Y (wa @O3 @Ac)
 exact wo (h:=hQ _ _ wy)
def yL (a b:List Int):Prop:=∃ k:Int,Pure Tryz.prog 107 [dLI a,dLI b] (dI k)∧(k=0↔a=b)
theorem DO (a:List Int):Pure Tryz.prog 107 [dLI a,dLI a] (dI 0):=by
 refine Tz.pK ⟨fun _=>false,fun _=>[]⟩ Tryz.func107 rfl (fun Q hQ=>?_)
 have Y:=trivial
 refine wv (h:=bA (fun i e H=>(e 0=dLI a∧e 1=dLI a∧e 5=dI i)∧(i≤a.length)) (fun i=>a.length - i) 0 ⟨wg,wi⟩ fun I0 hI0 i e H hi0=>?_)
 obtain ⟨E0,hi⟩:=hi0
 have Y:=wa Y E0
 refine wv (h:=?_)
 repeat first|intro _|refine ⟨dR,?_⟩
 refine wq (fun h2=>?_) fun h2=>?_
 ·have Y:=wa Y (wa h2 (aA h2))
  exact wo (h:=wx hI0 (i+1) ⟨wg,wj⟩)
 ·have Y:=wa Y h2
  exact wo (h:=hQ _ _ wy)
theorem EP (a:List Int):yL a a:=⟨0,DO a,by simp⟩
theorem BV (a b:Host)(hC:∀ i (h1:i<a.values.length) (h2:i<b.values.length),yL a.values[i] b.values[i]):Pure Tryz.prog 42 [a.d,b.d] (.bool (decide (a=b))):=by
 refine Tz.pK ⟨fun _=>false,fun _=>[]⟩ Tryz.func42 rfl (fun Q hQ=>?_)
 have Y:=wa @Host.d.eq_1 @Host.c.eq_1
 refine wo (h:=aB (BX a.graph b.graph) wl ?_)
 refine wv (h:=?_)
 repeat first|intro _|refine ⟨dR,?_⟩
 refine wq (fun h1=>?_) fun h1=>?_
 ·refine wv (h:=?_)
  have hne:a≠b:=by intro h;subst h;simp at h1
  exact hQ _ _ (by simp [go_sem,hne])
 ·have hab:a.graph=b.graph∧a.values.length=b.values.length:=by (try simp at h1);obtain ⟨q1,q2⟩:=h1;exact ⟨q1,by omega⟩
  refine wv (h:=bA (fun i e H=>(e 2=.adr a.c∧e 3=.adr b.c∧e 5=dI i)∧(i≤a.values.length)∧(a.values.take i=b.values.take i)) (fun i=>a.values.length - i) 0 ⟨wg,wi,(by rfl)⟩ fun I0 hI0 i e H hi0=>?_)
  obtain ⟨E0,hi,he⟩:=hi0
  have Y:=wa Y E0
  refine wv (h:=?_)
  repeat first|intro _|refine ⟨dR,?_⟩
  refine wq (fun h4=>?_) fun h4=>?_
  ·have hib:i<b.values.length:=by omega
   obtain ⟨k,hk1,hk2⟩:=hC i h4 hib
   have Y:=wa Y (wa h4 (wa (aA h4) (wa (aA hib) @cL.eq_1)))
   refine wo (h:=aK (hk1) wl ?_)
   refine wv (h:=?_)
   repeat first|intro _|refine ⟨dR,?_⟩
   refine wq (fun h6=>?_) fun h6=>?_
   ·refine wv (h:=?_)
    have hne:a≠b:=by intro h;subst h;exact h6 (hk2.2 rfl)
    exact hQ _ _ (by simp [go_sem,hne])
   ·exact wo (h:=wx hI0 (i+1) ⟨wg,wj,(by (rw [aE h4,aE hib,he,hk2.1 h6]))⟩)
  ·have hV:a.values=b.values:=by rw [aH (by omega),aH (by omega)] at he;exact he
   exact wv (h:=hQ _ _ (by simp [go_sem,MU,hab.1,hV]))
theorem zQ (t:Types)(ht:t.ok)(r:Rule)(hr:r.ok)(h:Host)(m:Mat){v:Stp26}{e:Int}(hv:v=iU t r h m)(he:e=qL t r h m):Pure Tryz.prog 15 [t.d,r.d,h.d,m.d] (.tup [.agg v.c,dI e]):=by
 subst hv he;exact Do t ht r hr h m

end Go.Abs
end
