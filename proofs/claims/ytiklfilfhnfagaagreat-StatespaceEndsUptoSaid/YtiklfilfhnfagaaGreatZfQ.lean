/- The step of the program: assigned (a map). · The step of the -/
import Derived.Test.YtiklfilfhnfagaaGreatZfA
import Derived.Test.YtiklfilfhnfagaaGreatZfP
import Derived.Test.YtiklfilfhnfagaaGreatZfG
import Derived.Test.YtiklfilfhnfagaaGreatZfO
import Derived.Test.YtiklfilfhnfagaaGreatZfM
set_option linter.unusedVariables false
set_option linter.unusedSimpArgs false
section
set_option maxRecDepth 100000
set_option maxHeartbeats 4000000
open Go Go.Proofs
namespace Go.Abs
@[go_sem] theorem UT:oT (Value.map none)=.junk:=rfl
@[go_sem] theorem WQ:iN (.const (Value.map none))=false:=rfl
theorem QK:MapT Tryz.prog 258 262 3 :=
 Su Tryz.underlying258 Tryz.underlying3 Tryz.underlying262 ⟨rfl,rfl,rfl⟩ ⟨rfl,rfl,rfl⟩ (by kernel_rfl) (by kernel_rfl) (by kernel_rfl) ⟨Tryz.prog.types.size - 1,by have:0<Tryz.prog.types.size:=of_decide_eq_true (by kernel_rfl);omega⟩
  (Maps.Keyed.of_law (deep_law_laid (m:=2) (by kernel_rfl) (by omega) (of_decide_eq_true (by kernel_rfl)) (by kernel_rfl) (by kernel_rfl))) (fun w=>by kernel_rfl)
def Zh (co:Part)(vs:List Int)(l:List Slot)(G:AHeap)(d:D)(H':AHeap)(g:MS):Prop :=
 (∀ j,j<G.next→H'.get j=G.get j)∧G.next≤H'.next ∧
  ((Ai co vs l=true∧∃ q,d=.tup [q,dI 11])∨(Ai co vs l=false∧∃ b k,d=.tup [.cst (.map (some b)),dI 0]∧g=.mp b k (FA co vs l)))
theorem Gh (t:Types)(r:Rule)(hR:RuleV t r)(m:Mat)(h:Host)(x0:Host)(tr co:Part)(hP:PutOk t r x0 co)(hvl:m.vars.length=r.left.vars.toNat)(hvs:Sm m.vars)(a b0 V na nb nV:Nat)(G:AHeap) :
  GCalls Tryz.prog 262 3 153 [.agg (stpC r m h (.own a na) (.own b0 nb) (.own V nV) tr co)] G (Zh co m.vars r.right.slots G):=by
 obtain ⟨l,hl⟩:∃ l,l=r.right.slots:=⟨_,rfl⟩
 have hsl:=hR.slots
 have hfew:=hR.few
 have hspot:=hP.spot
 have hattr:=hP.attr
 have hcl:=hP.cl
 have hPf:=hP.few
 rw [← hl] at hsl hfew hspot hattr ⊢
 refine xI Tryz.func153 rfl rfl (by exact aD rfl) ?_
 refine c6 fun K0 k0=>?_
 refine fP (c:=⟨fun t=>t==6||t==9,fun r=>match r with|8=>[(0,10),(1,10),(2,10),(3,10),(4,10),(5,10),(6,10),(7,10),(8,10)]|_=>[]⟩) Tz.mixed (by kernel_rfl) ?_
 simp [go_sem,seval,stpC]
 repeat first|intro _|refine ⟨fT,?_⟩
 refine k0 _ _ _ ?_
 clear k0 K0
 refine c6 fun K1 k1=>?_
 refine WpG.region (OpsG.make QK rfl rfl rfl fun b=>?_)
 refine OpsG.all (md:=fun _=>false) rfl fun R kR=>?_
 simp [go_sem,seval]
 refine kR _ _ (k1 _ _ _ ?_)
 clear kR R k1 K1
 refine c6 fun K3 k3=>?_
 refine c6 fun K2 k2=>?_
 refine fP (c:=⟨fun t=>t==6||t==9,fun r=>match r with|8=>[(0,10),(1,10),(2,10),(3,10),(4,10),(5,10),(6,10),(7,10),(8,10)]|_=>[]⟩) Tz.mixed (by kernel_rfl) ?_
 simp [go_sem,seval]
 repeat first|intro _|refine ⟨fT,?_⟩
 refine k2 _ _ _ ?_
 clear k2 K2
 refine WpG.block ?_
 obtain ⟨I,hI⟩:∃ I:Nat→MS→c7→AHeap→Prop,∀ i g e H,I i g e H↔(e 1=.adr (stpC r m h (.own a na) (.own b0 nb) (.own V nV) tr co)∧e 4=.cst (.map (some b))∧e 16=.list (l.map Slot.c)∧e 17=dI l.length∧e 18=dI i∧i≤l.length∧(∃ k,k≤i∧g=.mp b k (FA co m.vars (l.take i)))∧V0 co m.vars (l.take i)∧(∀ j,j<G.next→H.get j=G.get j)∧G.next≤H.next):=⟨_,fun _ _ _ _=>Iff.rfl⟩
 refine WpG.loop I (fun i=>l.length - i) 0 ((hI _ _ _ _).2 ⟨by simp [go_sem,stpC,dLI],by simp [go_sem],by simp [go_sem,hl],by simp [go_sem,hl],by simp [go_sem],by omega,⟨0,by omega,by simp [FA]⟩,by intro s hs;simp at hs,by intro j hj;simp [go_sem],by simp [go_sem]⟩) fun i g e H hi0=>?_
 obtain ⟨q1,q4,q16,q17,q18,hi,⟨k,hk,rfl⟩,hE,hG,hnx⟩:=(hI _ _ _ _).1 hi0
 refine c6 fun K1 k1=>?_
 refine fP (c:=⟨fun t=>t==6||t==9,fun r=>match r with|8=>[(0,10),(1,10),(2,10),(3,10),(4,10),(5,10),(6,10),(7,10),(8,10)]|_=>[]⟩) Tz.mixed (by kernel_rfl) ?_
 simp [go_sem,seval,q17,q18]
 repeat first|intro _|refine ⟨fT,?_⟩
 refine k1 _ _ _ ?_
 clear k1 K1
 refine c6 fun K1 k1=>?_
 refine WpG.cond (t:=decide (i<l.length)) (by simp [go_sem]) (fun h3=>?_) (fun h3=>?_)
 ·refine WpG.skip ?_
  simp only [go_sem]
  refine k1 _ _ _ ?_
  clear k1 K1
  have h3':i<l.length:=of_decide_eq_true h3
  obtain ⟨x,hx⟩:∃ x,x=l[i]:=⟨_,rfl⟩
  have hxm:x∈l:=hx ▸ aC h3'
  obtain ⟨⟨n1,n2⟩,⟨a1,a2⟩,hT⟩:=hsl x hxm
  obtain ⟨s1,s2,s3⟩:=hspot x hxm
  obtain ⟨t1,t2⟩:=hattr x hxm
  have hnc:x.node.toNat<co.nodes.length:=by omega
  have hkey:kV co x=co.nodes[x.node.toNat]:=by unfold kV;rw [aA hnc];rfl
  have hTs:=D3 (vs:=m.vars) (by rw [hvl];exact hT) hvs
  have hR1:Bx (kV co x):=by rw [nM] at s2;exact ⟨by unfold kV;omega,by unfold kV at *;omega⟩
  have hR2:Bx x.attr:=⟨by omega,by have:=u0 hR.vf (x0.graph.nodes[iI co x]?.getD 0);omega⟩
  have hR3:Bx (dD x.term m.vars):=⟨by omega,by omega⟩
  obtain ⟨v,hv⟩:∃ v,v=dD x.term m.vars:=⟨_,rfl⟩
  refine c6 fun K1 k1=>?_
  refine WpG.block ?_
  refine c6 fun K2 k2=>?_
  refine fP (c:=⟨fun t=>t==6||t==9,fun r=>match r with|8=>[(0,10),(1,10),(2,10),(3,10),(4,10),(5,10),(6,10),(7,10),(8,10)]|_=>[]⟩) Tz.mixed (by kernel_rfl) ?_
  simp [go_sem,seval,q16,q18,aA h3',← hx,Slot.c]
  repeat first|intro _|refine ⟨fT,?_⟩
  refine k2 _ _ _ ?_
  clear k2 K2
  refine c6 fun K2 k2=>?_
  refine fP (c:=⟨fun t=>t==6||t==9,fun r=>match r with|8=>[(0,10),(1,10),(2,10),(3,10),(4,10),(5,10),(6,10),(7,10),(8,10)]|_=>[]⟩) Tz.mixed (by kernel_rfl) ?_
  simp [go_sem,seval,q1,stpC,Slot.c]
  repeat first|intro _|refine ⟨fT,?_⟩
  refine aB (by have hq:=lP x.term m.vars (by rw [hvl];exact hT) hvs;rw [← hv] at hq;unfold Term.c dLI at hq;exact hq) (by first|rfl|(simp [go_sem];done)) ?_
  simp [go_sem,seval]
  repeat first|intro _|refine ⟨fT,?_⟩
  refine k2 _ _ _ ?_
  clear k2 K2
  refine c6 fun K2 k2=>?_
  refine c6 fun K4 k4=>?_
  refine fP (c:=⟨fun t=>t==6||t==9,fun r=>match r with|8=>[(0,10),(1,10),(2,10),(3,10),(4,10),(5,10),(6,10),(7,10),(8,10)]|_=>[]⟩) Tz.mixed (by kernel_rfl) ?_
  simp [go_sem,seval]
  refine k4 _ _ _ ?_
  clear k4 K4
  refine WpG.cond (t:=false) (by simp [go_sem]) (fun h=>by cases h) (fun _=>WpG.skip ?_)
  simp only [go_sem]
  refine k2 _ _ _ ?_
  clear k2 K2
  refine c6 fun K2 k2=>?_
  refine fP (c:=⟨fun t=>t==6||t==9,fun r=>match r with|8=>[(0,10),(1,10),(2,10),(3,10),(4,10),(5,10),(6,10),(7,10),(8,10)]|_=>[]⟩) Tz.mixed (by kernel_rfl) ?_
  simp [go_sem,seval,q1,stpC,Slot.c,aA hnc,← hkey]
  repeat first|intro _|refine ⟨fT,?_⟩
  refine k2 _ _ _ ?_
  clear k2 K2
  refine c6 fun K2 k2=>?_
  refine c6 fun K4 k4=>?_
  refine WpG.region ?_
  refine OpsG.take (md:=fun t=>t==6||t==9) 2 rfl fun R kR=>?_
  simp [go_sem,seval,q4]
  repeat first|intro _|refine ⟨fT,?_⟩
  refine kR _ _ ?_
  clear kR R
  refine OpsG.look (T:=258) QK rfl rfl rfl rfl (by simp [go_sem]) (by simp [go_sem]) hR1 hR2 ?_
  refine OpsG.all (md:=fun t=>t==6||t==9) rfl fun R kR=>?_
  simp [go_sem,seval]
  repeat first|intro _|refine ⟨fT,?_⟩
  refine kR _ _ (k4 _ _ _ ?_)
  clear kR R k4 K4
  obtain ⟨o,ho⟩:∃ o,o=FA co m.vars (l.take i) (kV co x) x.attr:=⟨_,rfl⟩
  refine c6 fun K4 k4=>?_
  refine fP (c:=⟨fun t=>t==6||t==9,fun r=>match r with|8=>[(0,10),(1,10),(2,10),(3,10),(4,10),(5,10),(6,10),(7,10),(8,10)]|_=>[]⟩) Tz.mixed (by kernel_rfl) ?_
  simp [go_sem,seval,← ho]
  repeat first|intro _|refine ⟨fT,?_⟩
  refine k4 _ _ _ ?_
  clear k4 K4
  refine WpG.cond (t:=o.isSome&&o.getD 0 != v) (by simp [go_sem]) (fun hc=>?_) (fun hc=>?_)
  ·refine c6 fun K5 k5=>?_
   refine fP (c:=⟨fun t=>t==6||t==9,fun r=>match r with|8=>[(0,10),(1,10),(2,10),(3,10),(4,10),(5,10),(6,10),(7,10),(8,10)]|_=>[]⟩) Tz.mixed (by kernel_rfl) ?_
   simp [go_sem,seval]
   refine k5 _ _ _ ?_
   clear k5 K5
   refine WpG.ret ?_
   simp [go_sem,OK]
   refine ⟨fun j hj=>?_,?_,.inl ⟨?_,_,rfl⟩⟩
   ·have fr1:=cO (show j<H.next by omega)
    simp [go_sem,fr1]
    exact hG j hj
   ·simp [go_sem];omega
   ·rw [aQ] at hc
    obtain ⟨y,hy⟩:=jR.1 hc.1
    refine Rm h3' (x:=y) (by rw [← hx,← ho,hy]) (fun e=>?_)
    have h2:=hc.2
    rw [hy,← hx,← hv] at *
    simp [e] at h2
  ·refine WpG.skip ?_
   simp only [go_sem]
   refine k2 _ _ _ ?_
   clear k2 K2
   refine WpG.region ?_
   refine OpsG.take (md:=fun t=>t==6||t==9) 3 rfl fun R kR=>?_
   simp [go_sem,seval,q4]
   repeat first|intro _|refine ⟨fT,?_⟩
   refine kR _ _ ?_
   clear kR R
   refine OpsG.store (T:=258) (c:=v) QK rfl rfl rfl rfl (by simp [go_sem]) (by simp [go_sem]) (by simp [go_sem]) hR1 hR2 (hv ▸ hR3) (by omega) ?_
   refine OpsG.all (md:=fun t=>t==6||t==9) rfl fun R kR=>?_
   simp [go_sem,seval]
   refine kR _ _ ?_
   clear kR R
   simp only [go_sem]
   refine k1 _ _ _ ?_
   clear k1 K1
   refine fP (c:=⟨fun t=>t==6||t==9,fun r=>match r with|8=>[(0,10),(1,10),(2,10),(3,10),(4,10),(5,10),(6,10),(7,10),(8,10)]|_=>[]⟩) Tz.mixed (by kernel_rfl) ?_
   simp [go_sem,seval,q18]
   repeat first|intro _|refine ⟨fT,?_⟩
   refine ⟨i+1,by omega,(hI _ _ _ _).2 ⟨by simp [go_sem,q1],by simp [go_sem,q4],by simp [go_sem,q16],by simp [go_sem,q17],by simp [go_sem],by omega,⟨k+1,by omega,by rw [aG h3',Od,← hx,hv]⟩,?_,fun j hj=>?_,by simp [go_sem];omega⟩⟩
   ·rw [aG h3',← hx]
    refine RH hE fun y hy=>?_
    rw [← ho] at hy
    rw [hy] at hc
    simp at hc
    rw [hc,hv]
   ·have fr1:=cO (show j<H.next by omega)
    simp [go_sem,fr1]
    exact hG j hj
 ·refine WpG.exit ?_
  simp [go_sem]
  refine k3 _ _ _ ?_
  have hie:i=l.length:=by have:=of_decide_eq_false h3;omega
  rw [aK (by omega)] at hE ⊢
  refine c6 fun K5 k5=>?_
  refine fP (c:=⟨fun t=>t==6||t==9,fun r=>match r with|8=>[(0,10),(1,10),(2,10),(3,10),(4,10),(5,10),(6,10),(7,10),(8,10)]|_=>[]⟩) Tz.mixed (by kernel_rfl) ?_
  simp [go_sem,seval,q4]
  refine k5 _ _ _ ?_
  clear k5 K5
  refine WpG.ret ?_
  simp [go_sem,OK]
  refine ⟨hG,hnx,.inr ⟨MT (fun s hs=>(hspot s hs).1) hE,b,k,by simp [go_sem],rfl⟩⟩
theorem Q4 {c:Part}{vs:List Int}{l:List Slot}(h:Ai c vs l=false):V0 c vs l:=by
 rw [Cl] at h
 have key:∀ (p q:Nat) (hpq:p<q) (hq:q<l.length),kV c l[p]=kV c l[q]→l[p].attr=l[q].attr→dD l[p].term vs=dD l[q].term vs:=fun p q hpq hq e1 e2=>by
  refine bJ fun hn=>?_
  have:((List.range l.length).any fun i=>(List.range i).any fun k=>FK c vs l i k)=true:=by
   rw [bX]
   refine ⟨q,by simpa using hq,?_⟩
   rw [bX]
   refine ⟨p,by simpa using hpq,?_⟩
   unfold FK FN
   simp only [aA (show p<l.length by omega),aA hq,nM,e1,e2]
   simp [hn]
  rw [h] at this;cases this
 intro s hs s' hs' e1 e2
 obtain ⟨p,hp,rfl⟩:=aM hs
 obtain ⟨q,hq,rfl⟩:=aM hs'
 rcases Nat.lt_trichotomy p q with h1|h1|h1
 ·exact key p q h1 hq e1 e2
 ·subst h1;rfl
 ·exact (key q p h1 hp e1.symm e2.symm).symm
theorem Oq (t : Types) (ht : t.ok) (r : Rule) (hR : RuleV t r) (m : Mat) (h x0 : Host) (tr co : Part) (hP : PutOk t r x0 co) (hvl : m.vars.length = r.left.vars.toNat) (hvs : Sm m.vars) (G : AHeap) (s a b0 V : Nat) (qs : List Nat)
    (hs : G.get s = some ⟨115, 38, [stpC r m h (.own a x0.graph.nodes.length) (.own b0 x0.graph.edges.length) (.own V x0.values.length) tr co], false⟩) (hh0 : HH G 0 a b0 V qs x0) (hsq : ∀ j ∈ a :: b0 :: V :: qs, j ≠ s) (hsn : s < G.next) (Q : D → AHeap → Prop)
    (hQe : ∀ H', BT t x0.graph co m.vars r.right.slots ≠ 0 → (∀ j, j < G.next → j ∉ a :: b0 :: V :: qs → H'.get j = G.get j) → G.next ≤ H'.next → Q (dI (BT t x0.graph co m.vars r.right.slots)) H')
    (hQ : ∀ H', BT t x0.graph co m.vars r.right.slots = 0 → HH H' 0 a b0 V qs ⟨x0.graph, yT co m.vars r.right.slots x0.values⟩ → (∀ j, j < G.next → j ∉ a :: b0 :: V :: qs → H'.get j = G.get j) → G.next ≤ H'.next → Q (dI 0) H') :
    ACalls Tryz.prog 116 [t.d, .ptr s 1 0 0] G Q := by
  obtain ⟨l, hl⟩ : ∃ l, l = r.right.slots := ⟨_, rfl⟩
  have hA := Gh t r hR m h x0 tr co hP hvl hvs a b0 V x0.graph.nodes.length x0.graph.edges.length x0.values.length G
  have hsl := hR.slots
  have hspot := hP.spot
  have hattr := hP.attr
  have hPf := hP.few
  rw [← hl] at hsl hspot hattr hQe hQ hA
  refine GQ (P := Tryz.prog) (K := 262) (E := 3) (Q := fun d H' _ => Q d H') ?_ (fun _ _ _ h => h)
  refine xI Tryz.func116 rfl rfl (by exact aD rfl) ?_
  refine c6 fun K1 k1 => ?_
  refine fP (c := ⟨fun t => t == 7, fun _ => []⟩) Tz.mixed (by kernel_rfl) ?_
  simp [go_sem, seval]
  refine k1 _ _ _ ?_
  clear k1 K1
  refine c6 fun K1 k1 => ?_
  refine WpG.region ?_
  refine OpsG.take (md := fun t => t == 7) 3 rfl fun R kR => ?_
  simp [go_sem, seval, hs, stpC]
  repeat first | intro _ | refine ⟨fT, ?_⟩
  refine kR _ _ ?_
  clear kR R
  refine OpsG.call (f := 153) (args := [.agg (stpC r m h (.own a x0.graph.nodes.length) (.own b0 x0.graph.edges.length) (.own V x0.values.length) tr co)]) (by simp [go_sem, f7, stpC]) rfl rfl hA fun d H1 g1 hq => ?_
  obtain ⟨hG1, hn1, hcase⟩ := hq
  rcases hcase with ⟨hcl, q, rfl⟩ | ⟨hcl, b, k, rfl, rfl⟩
  · refine OpsG.all (md := fun t => t == 7) rfl fun R kR => ?_
    simp [go_sem, seval]
    repeat first | intro _ | refine ⟨fT, ?_⟩
    refine kR _ _ (k1 _ _ _ ?_)
    clear kR R k1 K1
    refine c6 fun K2 k2 => ?_
    refine c6 fun K4 k4 => ?_
    refine fP (c := ⟨fun t => t == 7, fun _ => []⟩) Tz.mixed (by kernel_rfl) ?_
    simp [go_sem, seval]
    refine k4 _ _ _ ?_
    clear k4 K4
    refine WpG.cond (t := true) (by simp [go_sem]) (fun _ => ?_) (fun hc => by cases hc)
    refine c6 fun K5 k5 => ?_
    refine fP (c := ⟨fun t => t == 7, fun _ => []⟩) Tz.mixed (by kernel_rfl) ?_
    simp [go_sem, seval]
    refine k5 _ _ _ ?_
    clear k5 K5
    refine WpG.ret ?_
    simp [go_sem, OK]
    have hE : BT t x0.graph co m.vars l = 11 := by unfold BT; rw [if_pos hcl]
    rw [hE] at hQe
    exact hQe _ (by decide) (fun j hj _ => hG1 j hj) hn1
  · refine OpsG.all (md := fun t => t == 7) rfl fun R kR => ?_
    simp [go_sem, seval]
    repeat first | intro _ | refine ⟨fT, ?_⟩
    refine kR _ _ (k1 _ _ _ ?_)
    clear kR R k1 K1
    refine c6 fun K2 k2 => ?_
    refine c6 fun K4 k4 => ?_
    refine fP (c := ⟨fun t => t == 7, fun _ => []⟩) Tz.mixed (by kernel_rfl) ?_
    simp [go_sem, seval]
    refine k4 _ _ _ ?_
    clear k4 K4
    refine WpG.cond (t := false) (by simp [go_sem]) (fun hc => by cases hc) (fun _ => WpG.skip ?_)
    simp only [go_sem]
    refine k2 _ _ _ ?_
    clear k2 K2
    have hE0 : BT t x0.graph co m.vars l = if l.any (EL t x0.graph co m.vars) = true then 6 else 0 := by unfold BT; rw [if_neg (by rw [hcl]; simp)]
    refine c6 fun K3 k3 => ?_
    refine c6 fun K4 k4 => ?_
    refine WpG.region ?_
    refine OpsG.take (md := fun t => t == 7) 1 rfl fun R kR => ?_
    simp [go_sem, seval]
    refine kR _ _ ?_
    clear kR R
    refine OpsG.range (T := 258) QK rfl rfl rfl rfl (by simp [go_sem]) fun rr v7 => ?_
    refine OpsG.nil (k4 _ _ _ ?_)
    clear k4 K4
    have hRng : ∀ x ∈ l, Bx (kV co x) ∧ Bx x.attr := fun x hx => by
      obtain ⟨s1, s2, s3⟩ := hspot x hx
      obtain ⟨t1, t2⟩ := hattr x hx
      have := u0 hR.vf (x0.graph.nodes[iI co x]?.getD 0)
      have h0 := (hsl x hx).2.1.1
      rw [nM] at s2
      exact ⟨⟨by unfold kV; omega, by unfold kV at *; omega⟩, by omega, by omega⟩
    refine WpG.block ?_
    obtain ⟨F, hF⟩ : ∃ F, F = FA co m.vars l := ⟨_, rfl⟩
    rw [← hF]
    obtain ⟨I, hI⟩ : ∃ I : Nat → MS → c7 → AHeap → Prop, ∀ i g e H, I i g e H ↔ (∃ left cur, g = .rg b rr F left i cur ∧ e 1 = .ptr s 1 0 0 ∧ e 2 = .adr t.c ∧ e 22 = .cst (CU rr) ∧
      HH H 0 a b0 V qs ⟨x0.graph, wT F (fun u v => (F u v).isSome && !left u v) x0.values⟩ ∧ (∀ x ∈ l, left (kV co x) x.attr = false → EL t x0.graph co m.vars x = false) ∧ (∀ j, j < G.next → j ∉ a :: b0 :: V :: qs → H.get j = G.get j) ∧ G.next ≤ H.next) := ⟨_, fun _ _ _ _ => Iff.rfl⟩
    refine WpG.loop I (fun i => i) v7 ((hI _ _ _ _).2 ⟨_, _, rfl, by simp [go_sem], by simp [go_sem], by simp [go_sem], ?_, ?_, fun j hj _ => hG1 j hj, hn1⟩) fun i g e H hi0 => ?_
    · rw [OV]
      · exact hh0.same hn1 (fun j hj => hG1 j (hh0.rng j hj).2)
      · intro n v _ _; cases F n v <;> rfl
    · intro x hx hf
      have := RE (c := co) (vs := m.vars) (l := l) (s := x) (Q4 hcl) hx
      rw [← hF] at this
      rw [this] at hf; cases hf
    obtain ⟨left, cur, rfl, q1, q2, q22, hh, hO, hG, hnx⟩ := (hI _ _ _ _).1 hi0
    refine c6 fun K1 k1 => ?_
    refine WpG.region ?_
    refine OpsG.next QK rfl rfl rfl (by simp [go_sem, q22]) (fun hd => ?_) (fun u v c i' hu hv hlf hFc hlt => ?_)
    · refine OpsG.all (md := fun t => t == 7) rfl fun R kR => ?_
      simp [go_sem, seval]
      refine kR _ _ (k1 _ _ _ ?_)
      clear kR R k1 K1
      refine c6 fun K1 k1 => ?_
      refine WpG.cond (t := false) (by simp [go_sem]) (fun hc => by cases hc) (fun _ => WpG.exit ?_)
      simp [go_sem]
      refine k3 _ _ _ ?_
      refine c6 fun K5 k5 => ?_
      refine fP (c := ⟨fun t => t == 7, fun _ => []⟩) Tz.mixed (by kernel_rfl) ?_
      simp [go_sem, seval]
      refine k5 _ _ _ ?_
      clear k5 K5
      refine WpG.ret ?_
      simp [go_sem, OK]
      have hany : l.any (EL t x0.graph co m.vars) = false := by
        rw [eE]
        intro hT
        obtain ⟨x, hx, hT⟩ := bX.1 hT
        rw [hO x hx (hd _ _ (hRng x hx).1 (hRng x hx).2)] at hT; cases hT
      rw [if_neg (by rw [hany]; simp)] at hE0
      have hV := OU (c := co) (vs := m.vars) (vals := x0.values) (l := l) (fun x hx => ⟨(hspot x hx).1, (hspot x hx).2.1, (hsl x hx).2.1.1, (hattr x hx).1⟩) (dn := fun u v => (F u v).isSome && !left u v) (fun n v _ _ => by
        rw [← hF]
        cases hFn : F n v with
        | none => rfl
        | some y =>
          obtain ⟨x, hx, e1, e2, _⟩ := DO (c := co) (vs := m.vars) (l := l) (by rw [← hF]; exact hFn)
          have := hd _ _ (hRng x hx).1 (hRng x hx).2
          rw [e1, e2] at this
          simp [this])
      rw [← hF] at hV
      rw [hV] at hh
      exact hQ _ hE0 hh hG hnx
    · refine OpsG.all (md := fun t => t == 7) rfl fun R kR => ?_
      simp [go_sem, seval]
      refine kR _ _ (k1 _ _ _ ?_)
      clear kR R k1 K1
      refine c6 fun K1 k1 => ?_
      refine WpG.cond (t := true) (by simp [go_sem]) (fun _ => WpG.skip ?_) (fun hc => by cases hc)
      simp only [go_sem]
      refine k1 _ _ _ ?_
      clear k1 K1
      refine WpG.block ?_
      refine c6 fun K1 k1 => ?_
      refine WpG.region ?_
      refine OpsG.entry rfl rfl rfl (by simp [go_sem, q22]) ?_
      refine OpsG.all (md := fun t => t == 7) rfl fun R kR => ?_
      simp [go_sem, seval]
      repeat first | intro _ | refine ⟨fT, ?_⟩
      refine kR _ _ (k1 _ _ _ ?_)
      clear kR R k1 K1
      obtain ⟨x, hxm, e1, e2, e3⟩ := DO (c := co) (vs := m.vars) (l := l) (by rw [← hF]; exact hFc)
      obtain ⟨s1, s2, s3⟩ := hspot x hxm
      obtain ⟨t1, t2⟩ := hattr x hxm
      have a0 := (hsl x hxm).2.1.1
      obtain ⟨n, hn⟩ : ∃ n, n = iI co x := ⟨_, rfl⟩
      rw [← hn] at s2 s3 t1 t2
      have hun : u = (n : Int) := by rw [← e1, hn, nM]; unfold kV at *; omega
      subst hun
      obtain ⟨w, hw⟩ : ∃ w : Nat, v = (w : Int) := ⟨v.toNat, by omega⟩
      subst hw
      have hsg : H.get s = some ⟨115, 38, [stpC r m h (.own a x0.graph.nodes.length) (.own b0 x0.graph.edges.length) (.own V x0.values.length) tr co], false⟩ := by rw [hG s hsn (fun hm => hsq s hm rfl)]; exact hs
      have hga := hh.ga
      have hgV := hh.gV
      have hqa := hh.rng a hh.a_in
      have hqV := hh.rng V hh.V_in
      obtain ⟨nd, hnd⟩ : ∃ y, y = x0.graph.nodes[n] := ⟨_, rfl⟩
      have hnd0 : x0.graph.nodes[n]?.getD 0 = nd := by rw [hnd, aA s3]; rfl
      rw [hnd0] at t2
      have haA : w < (cN t nd).length := by omega
      have fr1 := And.intro (cO (show s < H.next by omega)) (And.intro (cO (show a < H.next by omega)) (cO (show V < H.next by omega)))
      have hal := uZ ht nd
      refine c6 fun K1 k1 => ?_
      refine fP (c := ⟨fun t => t == 7, fun _ => []⟩) Tz.mixed (by kernel_rfl) ?_
      simp [go_sem, seval, q1, q2, hsg, hga, stpC, fr1, aA s3, ← hnd]
      repeat first | intro _ | refine ⟨fT, ?_⟩
      refine bB (o7 t ht nd) (by first | rfl | (simp [go_sem]; done)) ?_
      simp [go_sem, seval]
      repeat first | intro _ | refine ⟨fT, ?_⟩
      refine k1 _ _ _ ?_
      clear k1 K1
      refine c6 fun K2 k2 => ?_
      refine c6 fun K4 k4 => ?_
      refine fP (c := ⟨fun t => t == 7, fun _ => []⟩) Tz.mixed (by kernel_rfl) ?_
      simp [go_sem, seval, fr1, aA haA, Attr.c]
      repeat first | intro _ | refine ⟨fT, ?_⟩
      refine k4 _ _ _ ?_
      clear k4 K4
      have hh' := hh
      obtain ⟨dn, hdn⟩ : ∃ dn : Int → Int → Bool, dn = fun u v => (F u v).isSome && !left u v := ⟨_, rfl⟩
      rw [← hdn] at hh'
      have hvl0 : (wT F dn x0.values).length = x0.values.length := qQ ..
      have hnV : n < (wT F dn x0.values).length := by omega
      have hnQ : n < qs.length := by rw [hh'.len]; exact hnV
      obtain ⟨q, hq⟩ : ∃ q, q = qs[n] := ⟨_, rfl⟩
      obtain ⟨vr, hvr⟩ : ∃ v, v = (wT F dn x0.values)[n] := ⟨_, rfl⟩
      have g1 : qs[n]? = some q := by rw [aA hnQ, hq]
      have g2 : (wT F dn x0.values)[n]? = some vr := by rw [aA hnV, hvr]
      have hrow := tE g1 g2
      have hgq := hh'.gq _ _ _ g1 g2
      have hvrl : vr.length = (x0.values[n]?.getD []).length := by rw [← pB F dn x0.values n, g2]; rfl
      have hwv : w < vr.length := by omega
      have hqin : q ∈ qs := aJ g1
      have hqr := hh'.rng q (hh'.q_in hqin)
      have hrl := kM hh'.len
      rw [← hdn] at hgV
      have fr2 := cO (show q < H.next by omega)
      have hOB : EL t x0.graph co m.vars x = (decide (c < (cN t nd)[w].low) || decide ((cN t nd)[w].high < c)) := by
        unfold EL; rw [← hn, hnd0, show x.attr.toNat = w by omega, aA haA, e3]; rfl
      refine WpG.cond (t := decide (c < (cN t nd)[w].low) || decide ((cN t nd)[w].high < c)) (by simp [go_sem]) (fun hcT => ?_) (fun hcF => WpG.skip ?_)
      · refine c6 fun K5 k5 => ?_
        refine fP (c := ⟨fun t => t == 7, fun _ => []⟩) Tz.mixed (by kernel_rfl) ?_
        simp [go_sem, seval]
        refine k5 _ _ _ ?_
        clear k5 K5
        refine WpG.ret ?_
        simp [go_sem, OK]
        have hT : l.any (EL t x0.graph co m.vars) = true := bX.2 ⟨_, hxm, by rw [hOB]; exact hcT⟩
        rw [if_pos hT] at hE0
        rw [hE0] at hQe
        refine hQe _ (by decide) (fun j hj hjn => ?_) (by first | (simp [go_sem]; done) | (simp [go_sem]; omega))
        simp [go_sem, show j ≠ H.next by omega]; exact hG j hj hjn
      · simp only [go_sem]
        refine k2 _ _ _ ?_
        clear k2 K2
        refine fP (c := ⟨fun t => t == 7, fun _ => []⟩) Tz.mixed (by kernel_rfl) ?_
        have hnX : n < x0.values.length := by omega
        have hqd := hh'.qn hqin
        simp [go_sem, seval, q1, hsg, hgV, stpC, fr1, fr2, hrow, hgq, hrl, hvl0]
        refine ⟨hnX, hwv, ?_⟩
        simp [go_sem, aA hwv, cI]
        repeat first | intro _ | refine ⟨fT, ?_⟩
        refine ⟨i', hlt, (hI _ _ _ _).2 ⟨_, _, rfl, by simp [go_sem, q1], by simp [go_sem, q2], by simp [go_sem, q22], ?_, ?_, ?_, by first | (simp [go_sem]; done) | (simp [go_sem]; omega)⟩⟩
        · have hst := OT F x0.values (dn := dn) (dn' := fun u v => (F u v).isSome && !(left u v && (!decide (u = (n : Int)) || !decide (v = (w : Int))))) hnX (by rw [← hvrl]; exact hwv) hFc (fun n2 b2 _ _ => by
            rw [hdn]
            by_cases e1 : n2 = n
            · by_cases e2 : b2 = w
              · subst e1; subst e2; simp [hFc]
              · have e3' : ¬ ((b2 : Int) = w) := by omega
                subst e1; simp [e2, e3']
            · have e3' : ¬ ((n2 : Int) = n) := by omega
              simp [e1, e3'])
          rw [g2] at hst
          rw [← hst]
          exact hh'.rowSet (by first | (simp [go_sem]; done) | (simp [go_sem]; omega)) g1 g2 (by simp) (by simp [go_sem, hgq, eF, cI]) (fun j hj hjq => by
            have hj2 := (hh'.rng j hj).2
            simp [go_sem, hjq, show j ≠ H.next by omega])
        · intro y hy hyf
          cases hL : left (kV co y) y.attr with
          | false => exact hO y hy hL
          | true =>
            have hyy : kV co y = (n : Int) ∧ y.attr = (w : Int) := by rw [hL] at hyf; simpa using hyf
            have hsy : iI co y = n := by rw [nM, hyy.1]; rfl
            have hty : dD y.term m.vars = c := by rw [← e3]; exact Q4 hcl y hy x hxm (by rw [hyy.1, e1]) (by rw [hyy.2, e2])
            unfold EL
            rw [hsy, hnd0, show y.attr.toNat = w by omega, aA haA, hty]; exact hcF
        · intro j hj hjn
          simp [go_sem, show j ≠ H.next by omega, show j ≠ q from fun e => hjn (e ▸ hh'.q_in hqin)]; exact hG j hj hjn
theorem SY {d:List Int}(hd:d.Pairwise (· < ·)){n:Nat}{x:Int}(h0:0≤x)(hx:x<n)(hm:x∈d):∃ p:Nat,p<d.length∧(xR d n)[x.toNat]?=some (p:Int):=by
 obtain ⟨p,hp,rfl⟩:=aM hm
 refine ⟨p,hp,?_⟩
 rw [Cp _ (by omega),show ((d[p].toNat:Nat):Int)=d[p] by omega,xS (Cv hd) hp]
theorem Rs {im d:List Int}{n:Nat}(hd:d.Pairwise (· < ·)){k:Int}(h0:0≤k)(hk:k<im.length)(hx:0≤iA im k∧iA im k<n)(hm:iA im k∈d):∃ p:Nat,p<d.length∧(u6 im (qK d n))[k.toNat]?.getD 0=p:=by
 obtain ⟨p,hp,he⟩:=SY hd hx.1 hx.2 hm
 have hkn:k.toNat<im.length:=by omega
 have e:iA im k=im[k.toNat]:=by unfold iA;rw [aA hkn];rfl
 refine ⟨p,hp,?_⟩
 unfold u6 qK
 rw [aN,aA hkn,dK,aF,← e,he];rfl
theorem HK {keep into at_:List Int}{rem:Nat}(hin:into.Nodup)(hl:keep.length=into.length)(hk:∀ k∈keep,∃ p:Nat,p<rem∧at_[k.toNat]?.getD 0=p)(i:Nat) :
  MH keep into at_ rem i=((rem+(cV into i).length:Nat):Int)↔mem into i=false:=by
 have hb:=HR hin (i:Int)
 have hle:=FT into i into.length
 unfold MH
 cases hm:mem into i with
 | true =>
  rw [hm] at hb
  have h0:¬ jT into into.length i<0:=by simpa using hb
  have hlt:(jT into into.length i).toNat<keep.length:=by omega
  obtain ⟨p,hp,hq⟩:=hk _ (aC hlt)
  rw [if_pos (by omega),aA hlt,aF,hq]
  constructor
  ·intro e;omega
  ·intro e;cases e
 | false =>
  rw [hm] at hb
  have h0:jT into into.length i<0:=by simpa using hb
  rw [if_neg (by omega),NE hin];simp
theorem NU {keep into at_:List Int}{right rem i:Nat}(h:i<right):(PB keep into at_ right rem)[i]?.getD 0=MH keep into at_ rem i:=by
 unfold PB;simp [h]
section
variable {t:Types} {r:Rule} {h:Host} {m:Mat}
theorem StepIn.keptE (S:StepIn t r h m){k:Int}(hk:k∈r.keep.edges):iA m.m.edges k∈(cX r h m).edges:=by
 have hK:=S.hR.keep
 have hl:=S.hm.elen
 have hr:=hK.2.2.1 k hk
 have h1:=yG S.dup.2 hr.1 (by omega) hk
 rw [S.rest]
 have h2:=S.hm.eimg k.toNat (by omega)
 have e:iA m.m.edges k=m.m.edges[k.toNat]'(by omega):=by unfold iA;rw [aA (by omega)];rfl
 exact lJ.2 ⟨by rw [e];exact h2,h1⟩
theorem StepIn.kN (S:StepIn t r h m):∀ k∈r.keep.nodes,(0≤k∧k<m.m.nodes.length)∧(0≤iA m.m.nodes k∧iA m.m.nodes k<h.graph.nodes.length)∧∃ p:Nat,p<(cX r h m).nodes.length∧(u6 m.m.nodes (nI r h m).nodes)[k.toNat]?.getD 0=p:=fun k hk=>by
 have hr:=S.hR.keep.2.1 k hk
 have hl:=S.hm.len
 have hi:=S.nin _ (S.keptN hk)
 exact ⟨by omega,hi,Rs S.nasc hr.1 (by omega) hi (S.keptN hk)⟩
theorem StepIn.kE (S:StepIn t r h m):∀ k∈r.keep.edges,(0≤k∧k<m.m.edges.length)∧(0≤iA m.m.edges k∧iA m.m.edges k<h.graph.edges.length)∧∃ p:Nat,p<(cX r h m).edges.length∧(u6 m.m.edges (nI r h m).edges)[k.toNat]?.getD 0=p:=fun k hk=>by
 have hr:=S.hR.keep.2.2.1 k hk
 have hl:=S.hm.elen
 have hi:=S.ein _ (S.keptE hk)
 exact ⟨by omega,hi,Rs S.easc hr.1 (by omega) hi (S.keptE hk)⟩
theorem StepIn.frN (S:StepIn t r h m):∀ i,i<r.right.graph.nodes.length→((pO r h m).nodes[i]?.getD 0=(((cX r h m).nodes.length+(cV r.into.nodes i).length:Nat):Int)↔mem r.into.nodes i=false):=fun i hi=>by
 have:=HK S.intoN.1 S.hR.keep.1.1 (fun k hk=>(S.kN k hk).2.2) i
 unfold pO;simp only
 rw [NU hi];exact this
theorem StepIn.frE (S:StepIn t r h m):∀ i,i<r.right.graph.edges.length→((pO r h m).edges[i]?.getD 0=(((cX r h m).edges.length+(cV r.into.edges i).length:Nat):Int)↔mem r.into.edges i=false):=fun i hi=>by
 have:=HK S.intoN.2 S.hR.keep.1.2 (fun k hk=>(S.kE k hk).2.2) i
 unfold pO;simp only
 rw [NU hi];exact this
theorem StepIn.bdE (S:StepIn t r h m):bdE h (cX r h m) (nI r h m) (cX r h m).edges.length=⟨dN h.graph (cX r h m),(cX r h m).nodes.map fun k=>h.values[k.toNat]?.getD []⟩:=by
 unfold Go.Abs.bdE dN
 rw [if_pos S.sub,aK (aL _)]
 congr 2
 refine bP fun k hk=>?_
 obtain ⟨s1,s2⟩:=JG S.sub hk
 have key:∀ v:Int,v∈(cX r h m).nodes→iA (nI r h m).nodes v=(tJ (cX r h m).nodes v:Int):=fun v hv=>by
  have hr:=S.nin v hv
  unfold iA nI qK
  simp only
  rw [Cp _ (by omega),aF,show ((v.toNat:Nat):Int)=v by omega,HP S.nasc,if_pos ((mem_iff _ _).2 hv)]
 unfold V9
 rw [key _ s1,key _ s2];rfl
theorem StepIn.grow (S:StepIn t r h m):AY t r (pO r h m) (Go.Abs.bdE h (cX r h m) (nI r h m) (cX r h m).edges.length)=cY t r h m:=by
 rw [S.bdE];rfl
end
theorem Sq {t:Types}{r:Rule}{h:Host}{m:Mat}(h0:Di t r h m=0):fY t r.left.graph h.graph m.m r.inj=0∧(eZ t r.left h m.m).2=0∧(eZ t r.left h m.m).1=m.vars:=by
 unfold Di at h0
 split at h0
 ·cases h0
 ·rename_i h1
  split at h0
  ·exact absurd h0 (by assumption)
  ·rename_i h2
   split at h0
   ·cases h0
   ·rename_i h3
    exact ⟨by simpa using h1,by simpa using h2,by simpa using h3⟩
theorem Re {t:Types}{r:Rule}(h:ruleF t r=0):condF t r.left r.cond=0:=by
 unfold ruleF at h
 split at h
 ·exact absurd h (by assumption)
 ·split at h
  ·cases h
  ·split at h
   ·exact absurd h (by assumption)
   ·split at h
    ·exact absurd h (by assumption)
    ·split at h
     ·exact absurd h (by assumption)
     ·split at h
      ·cases h
      ·exact h
def s9 (t:Types)(r:Rule)(h:Host)(m:Mat):Stp26:=if j5 t r h m=0 then Ic t r h m else rO
theorem TZ {P:Program}{f:FuncId}{args:List D}{r:D}(hcl:r.cl=true)(h:∀ Q:D→AHeap→Prop,(∀ d H',(jB H' d).cl=true→(jB H' d=r∨P1 (jB H' d)=r)→Q d H')→ACalls P f args .emp Q):Pure P f args r:=by
 refine Qs hcl fun Q hq=>ACalls.deep (h _ fun d H' hc hr=>hq _ _ ?_)
 rw [Nl _ hc];exact hr
theorem LO (t:Types)(ht:t.ok)(r:Rule)(hr:r.ok)(hr0:ruleF t r=0)(h:Host)(hh0:eR t h=0)(m:Mat):Pure Tryz.prog 71 [t.d,r.d,h.d,m.d] (.tup [.agg (s9 t r h m).c,dI (j5 t r h m)]):=by
 refine TZ (by simp [go_sem,D.cl,D.clL,Stp26.cl]) fun Q hQ=>?_
 have hR:=Wf hr hr0
 have ho:=Fh hh0
 have hcF:=Re hr0
 refine (aH (cfg:=⟨fun t=>t==8||t==11||t==13||t==15,fun r=>match r with|15=>[(0,2),(2,3),(0,4),(0,6),(1,6),(2,6),(3,6),(4,6)]|16=>[(6,7),(6,8),(6,9),(6,10),(6,11),(6,12)]|17=>[(20,21),(20,22),(20,23),(20,24),(20,25),(20,26),(20,27),(20,28),(20,29),(20,30),(20,31),(20,32),(20,33),(20,34),(20,35),(20,36),(20,37),(20,38),(20,39),(20,40)]|_=>[]⟩) Tz.mixed Tryz.func71 rfl rfl (aD rfl) (by kernel_rfl) ?_)
 have Y:=wa @Host.d.eq_1 (wa @Host.c.eq_1 (wa @Mat.d.eq_1 @Mat.c.eq_1))
 refine wv (h:=aB (Ib t ht r h m) wl ?_)
 refine dU (fun h2=>?_) fun h2=>?_
 ·have hA:j5 t r h m=Di t r h m:=by unfold j5 CO;rw [J6,if_pos h2];simp [h2]
  have hV:s9 t r h m=rO:=by unfold s9;rw [if_neg (by omega)]
  refine wv (h:=?_)
  refine hQ _ _ (by simp [go_sem,jB,jV,mK,eQ,D.cl,D.clL]) (by first|(left;(simp [go_sem,jB,jV,mK,eQ,hA,hV,rO,rW,uN,mB,Stp26.c,Rule.c,Mat.c,Host.c,Cond.kind,Cond.kids,Cond.map,Cond.pattern,dLI,dI]);done)|(right;(simp [go_sem,jB,jV,mK,eQ,hA,hV,rO,rW,uN,mB,Stp26.c,Rule.c,Mat.c,Host.c,Cond.kind,Cond.kids,Cond.map,Cond.pattern,dLI,dI]);done))
 ·have hp0:BU t r h m=xM (xC r.left.graph h.graph m.m) h.graph r.keep m.m:=by rw [J6,if_neg (by omega)]
  obtain ⟨hck,hso,hsv⟩:=Sq (show Di t r h m=0 by omega)
  have hck0:=MU hck
  have hin:ID t r.left.graph h.graph m.m=xC r.left.graph h.graph m.m:=by unfold ID;rw [if_pos hck0]
  have hmk:=zY (Cn hck0).2
  have hgl:=c9 hR.pl.gg
  have hgr:=c9 hR.gr
  have hgh:=c9 ho.gg
  have hml:=hmk.len
  have hmel:=hmk.elen
  have hkl:=hR.kl
  have hvh:=ho.vl
  have hrw:∀ v∈h.values,v.length≤100000:=fun v hv=>by have:=(ho.row v hv).1;omega
  have Y:=wa Y (wa hck0 hin)
  refine wv (h:=aB (Df t ht r.left.graph h.graph m.m) wl ?_)
  refine wv (h:=aB (GD (xC r.left.graph h.graph m.m) h.graph r.keep m.m (by omega) (by omega) (by omega) (by omega) (by omega)) wl ?_)
  refine dU (fun h8=>?_) fun h8=>?_
  ·have hpe:BU t r h m≠0:=by omega
   have hA:j5 t r h m=BU t r h m:=by unfold j5 CO;rw [if_pos hpe,if_pos hpe]
   have hV:s9 t r h m=rO:=by unfold s9;rw [if_neg (by omega)]
   refine wv (h:=?_)
   refine hQ _ _ (by simp [go_sem,jB,jV,mK,eQ,D.cl,D.clL]) (by first|(left;(simp [go_sem,jB,jV,mK,eQ,hA,hp0,hV,rO,rW,uN,mB,Stp26.c,Rule.c,Mat.c,Host.c,Cond.kind,Cond.kids,Cond.map,Cond.pattern,dLI,dI]);done)|(right;(simp [go_sem,jB,jV,mK,eQ,hA,hp0,hV,rO,rW,uN,mB,Stp26.c,Rule.c,Mat.c,Host.c,Cond.kind,Cond.kids,Cond.map,Cond.pattern,dLI,dI]);done))
  ·have hpre:BU t r h m=0:=by omega
   have S:=TR hR ho hpre
   have hMat:=Pc S hpre
   have hP:zK (xC r.left.graph h.graph m.m) h.graph r.keep m.m=cX r h m:=rfl
   have hcg:ST t r.left r.cond h m r.inj=0:=by
    unfold ST;rw [if_neg (by omega),if_neg (by omega),if_neg (by omega),if_neg (by omega),if_neg (by rw [hsv];simp)]
   have hS1:CO t r h m=if (tP t h r.inj r.cond m).2≠0 then (tP t h r.inj r.cond m).2 else if (tP t h r.inj r.cond m).1=false then 16 else 0:=by unfold CO;rw [if_neg (by omega)]
   have Y:=wa Y hP
   refine wv (h:=aB ((by have hq:=yW t ht r.left r.cond hr.cond hR.cond hR.pl h ho m hMat r.inj hcg;simp only [Cond.c_eq] at hq;unfold Types.d Types.c Pattern.d Pattern.c Host.d Host.c Mat.d Mat.c dLI dI at hq;exact hq)) wl ?_)
   refine dU (fun h11=>?_) fun h11=>?_
   ·have hA:j5 t r h m=(tP t h r.inj r.cond m).2:=by unfold j5;rw [hS1,if_pos h11];simp [h11]
    have hV:s9 t r h m=rO:=by unfold s9;rw [if_neg (by omega)]
    refine wv (h:=?_)
    refine hQ _ _ (by simp [go_sem,jB,jV,mK,eQ,D.cl,D.clL]) (by first|(left;(simp [go_sem,jB,jV,mK,eQ,hA,hV,rO,rW,uN,mB,Stp26.c,Rule.c,Mat.c,Host.c,Cond.kind,Cond.kids,Cond.map,Cond.pattern,dLI,dI]);done)|(right;(simp [go_sem,jB,jV,mK,eQ,hA,hV,rO,rW,uN,mB,Stp26.c,Rule.c,Mat.c,Host.c,Cond.kind,Cond.kids,Cond.map,Cond.pattern,dLI,dI]);done))
   ·refine qJ (fun h13=>?_) fun h13=>?_
    ·have hA:j5 t r h m=16:=by
      have:(tP t h r.inj r.cond m).1=false:=by simpa using h13
      have hps:CO t r h m=16:=by rw [hS1,if_neg (by omega),if_pos this]
      unfold j5;rw [if_pos (by omega),hps]
     have hV:s9 t r h m=rO:=by unfold s9;rw [if_neg (by omega)]
     refine wv (h:=?_)
     refine hQ _ _ (by simp [go_sem,jB,jV,mK,eQ,D.cl,D.clL]) (by first|(left;(simp [go_sem,jB,jV,mK,eQ,hA,hV,rO,rW,uN,mB,Stp26.c,Rule.c,Mat.c,Host.c,Cond.kind,Cond.kids,Cond.map,Cond.pattern,dLI,dI]);done)|(right;(simp [go_sem,jB,jV,mK,eQ,hA,hV,rO,rW,uN,mB,Stp26.c,Rule.c,Mat.c,Host.c,Cond.kind,Cond.kids,Cond.map,Cond.pattern,dLI,dI]);done))
    ·have hps:CO t r h m=0:=by
      have h13':(tP t h r.inj r.cond m).1=true:=by simpa using h13
      rw [hS1,if_neg (by omega),if_neg (by rw [h13'];simp)]
     have hK:=hR.keep
     have hkN:=S.kN
     have hkE:=S.kE
     obtain ⟨tr,htr⟩:∃ tr,tr=nI r h m:=⟨_,rfl⟩
     obtain ⟨cm,hcm⟩:∃ cm,cm=pO r h m:=⟨_,rfl⟩
     have hT1:qK (cX r h m).nodes h.graph.nodes.length=tr.nodes:=by rw [htr];rfl
     have hT2:qK (cX r h m).edges h.graph.edges.length=tr.edges:=by rw [htr];rfl
     have htl1:tr.nodes.length=h.graph.nodes.length:=by rw [← hT1];exact t8 _ _
     have htl2:tr.edges.length=h.graph.edges.length:=by rw [← hT2];exact t8 _ _
     rw [← htr] at hkN hkE
     have hC1:PB r.keep.nodes r.into.nodes (u6 m.m.nodes tr.nodes) r.right.graph.nodes.length (cX r h m).nodes.length=cm.nodes:=by rw [hcm,htr];rfl
     have hC2:PB r.keep.edges r.into.edges (u6 m.m.edges tr.edges) r.right.graph.edges.length (cX r h m).edges.length=cm.edges:=by rw [hcm,htr];rfl
     have hdl:=S.len
     have hvl:=hMat.vl
     have hvs:Sm m.vars:=fun v hv=>by have:=hMat.vs v hv;omega
     have hvv:=hR.pl.vars
     have hcl1:cm.nodes.length=r.right.graph.nodes.length:=by rw [hcm];simp [pO,PB]
     have hcl2:cm.edges.length=r.right.graph.edges.length:=by rw [hcm];simp [pO,PB]
     have hfN:=S.frN
     have hfE:=S.frE
     have hB:=S.grow
     rw [← hcm] at hfN hfE hB
     rw [← htr] at hB
     have Y:=wa Y (wa hT1 (wa hT2 (wa hC1 hC2)))
     refine wv (h:=bB (D8 m (by omega) (by omega) (by omega)) wl ?_)
     refine wv (h:=bB (Gg h (by omega) (by omega) (by omega) hrw) wl ?_)
     refine wp (h:=bB (D5 h.graph.nodes.length (by omega) (cX r h m).nodes S.nasc (by omega)) wl ?_)
     refine wp (h:=bB (D5 h.graph.edges.length (by omega) (cX r h m).edges S.easc (by omega)) wl ?_)
     refine wp (h:=bB (Ax r.right.graph.nodes.length (by omega) r.keep.nodes r.into.nodes m.m.nodes tr.nodes (cX r h m).nodes.length (by omega) (by omega) hK.2.2.2.1 (fun x hx=>(hkN x hx).1) (fun x hx=>by have:=(hkN x hx).2.1;omega) (fun x hx=>by obtain ⟨p,_,hp⟩:=(hkN x hx).2.2;omega)) wl ?_)
     refine wp (h:=bB (Ax r.right.graph.edges.length (by omega) r.keep.edges r.into.edges m.m.edges tr.edges (cX r h m).edges.length (by omega) (by omega) hK.2.2.2.2 (fun x hx=>(hkE x hx).1) (fun x hx=>by have:=(hkE x hx).2.1;omega) (fun x hx=>by obtain ⟨p,_,hp⟩:=(hkE x hx).2.2;omega)) wl ?_)
     refine wp (h:=?_)
     refine Bk (.step (.step (.step (.refl _) 9 0 31 3 1 _ _ (by simp [go_sem];rfl) rfl rfl rfl) 9 0 32 103 3 _ _ (by simp [go_sem];rfl) rfl rfl rfl) 9 0 33 31 1 _ _ (by simp [go_sem];rfl) rfl rfl rfl) ?_
     simp [go_sem]
     unfold dO
     refine LN t ht r hR m h ho (cX r h m) tr cm S.nin S.ein hdl htl1 ⟨hcl1,hcl2⟩ hfN hfE 9 73 74 75 _ (by simp [go_sem,stpC,dLI]) ⟨by simp [go_sem],by simp [go_sem],by simp [go_sem,mL],rfl,fun i q v h1 _=>by simp at h1,by simp,fun q hq=>by simp at hq;rcases hq with rfl|rfl|rfl<;>simp [go_sem]⟩ (by simp [go_sem]) (by simp) (fun j hj hA=>?_) _ (fun qs H1 hH1 hs1 hq1 hq2 hf1 hn1=>?_)
     ·simp [go_sem,f8,iU,oG,FY] at hA hj;omega
     rw [hB] at hH1 hs1
     have hn1':76≤H1.next:=by simp [go_sem] at hn1;omega
     have k0:=hf1 0 (by simp [go_sem]) (by simp)
     simp [go_sem] at k0
     have hq0:∀ j,j<73→j∉73 :: 74 :: 75 :: qs:=fun j hj hm=>by
      simp only [aO] at hm
      rcases hm with h|h|h|h
      ·omega
      ·omega
      ·omega
      ·have:=hq2 j h;simp [go_sem] at this;omega
     refine wp (h:=?_)
     unfold dO
     refine Oq t ht r hR m h (cY t r h m) tr cm (hcm ▸ S.put) hvl hvs H1 9 73 74 75 qs hs1 hH1 hq1 (by omega) _ (fun H2 hE2 hf2 hn2=>?_) (fun H2 hE2 hH2 hf2 hn2=>?_)
     ·have m0:=(hf2 0 (by omega) (hq0 0 (by omega))).trans k0
      have hA:j5 t r h m=BT t (cY t r h m).graph cm m.vars r.right.slots:=by unfold j5;rw [if_neg (by omega),← hcm,if_pos hE2]
      have hV:s9 t r h m=rO:=by unfold s9;rw [if_neg (by omega)]
      simp [go_sem,seval,m0]
      refine aP (fun hc=>?_) (fun hc=>absurd (by simpa using hc) hE2)
      simp [go_sem,seval,m0]
      refine hQ _ _ (by simp [go_sem,jB,jV,mK,eQ,D.cl,D.clL]) (by first|(left;(simp [go_sem,jB,jV,mK,eQ,hA,hV,rO,rW,uN,mB,Stp26.c,Rule.c,Mat.c,Host.c,Cond.kind,Cond.kids,Cond.map,Cond.pattern,dLI,dI]);done)|(right;(simp [go_sem,jB,jV,mK,eQ,hA,hV,rO,rW,uN,mB,Stp26.c,Rule.c,Mat.c,Host.c,Cond.kind,Cond.kids,Cond.map,Cond.pattern,dLI,dI]);done))
     have m0:=(hf2 0 (by omega) (hq0 0 (by omega))).trans k0
     have m9:=(hf2 9 (by omega) (hq0 9 (by omega))).trans hs1
     simp only [stpC] at m9
     have m73:H2.get 73=some ⟨3,1,(cY t r h m).graph.nodes.map cI,false⟩:=hH2.ga
     have m74:H2.get 74=some ⟨103,3,(cY t r h m).graph.edges.map Edge.c,false⟩:=hH2.gb
     have Y:=wa Y (wa m0 (wa m9 (wa m73 m74)))
     refine qJ (fun h22=>?_) fun h22=>?_
     ·have hA:j5 t r h m=3:=by
       unfold j5;rw [if_neg (by omega),← hcm,if_neg (by omega),if_pos (by first|exact h22|omega)]
      have hV:s9 t r h m=rO:=by unfold s9;rw [if_neg (by omega)]
      refine wv (h:=?_)
      refine hQ _ _ (by simp [go_sem,jB,jV,mK,eQ,D.cl,D.clL]) (by first|(left;(simp [go_sem,jB,jV,mK,eQ,hA,hV,rO,rW,uN,mB,Stp26.c,Rule.c,Mat.c,Host.c,Cond.kind,Cond.kids,Cond.map,Cond.pattern,dLI,dI]);done)|(right;(simp [go_sem,jB,jV,mK,eQ,hA,hV,rO,rW,uN,mB,Stp26.c,Rule.c,Mat.c,Host.c,Cond.kind,Cond.kids,Cond.map,Cond.pattern,dLI,dI]);done))
     ·have hA:j5 t r h m=0:=by
       unfold j5;rw [if_neg (by omega),← hcm,if_neg (by omega),if_neg (by first|exact h22|omega)]
      have hV:s9 t r h m=Ic t r h m:=by unfold s9;rw [if_pos hA]
      have hW:xV t r h m=⟨(cY t r h m).graph,yT cm m.vars r.right.slots (cY t r h m).values⟩:=by rw [hcm];rfl
      have hvl5:=(wR cm m.vars r.right.slots (cY t r h m).values).1
      have fin:∀ k:Blk,Q (.tup [.agg (stpC r m h (.own 73 (cY t r h m).graph.nodes.length) (.own 74 (cY t r h m).graph.edges.length) (.own 75 (cY t r h m).values.length) tr cm),dI 0]) (H2.put 0 k):=fun k=>by
       obtain ⟨E,hE⟩:∃ E,E=H2.put 0 k:=⟨_,rfl⟩
       have h5:HH E 0 73 74 75 qs (xV t r h m):=by
        rw [hW];exact hH2.same (by rw [hE];simp [go_sem]) (fun j hj=>by
         have hj0:j≠0:=fun e=>hq0 0 (by omega) (e ▸ hj)
         rw [hE];simp [go_sem,hj0])
       have hd:=h5.deep
       have e1:(xV t r h m).graph.nodes.length=(cY t r h m).graph.nodes.length:=by rw [hW]
       have e2:(xV t r h m).graph.edges.length=(cY t r h m).graph.edges.length:=by rw [hW]
       have e3:(xV t r h m).values.length=(cY t r h m).values.length:=by rw [hW];exact hvl5
       rw [e1,e2,e3] at hd
       simp only [jV,i6,rS,Host.d,Host.c,D.agg.injEq,List.cons.injEq,and_true] at hd
       obtain ⟨d1,d2,d3⟩:=hd
       have key:jB E (.tup [.agg (stpC r m h (.own 73 (cY t r h m).graph.nodes.length) (.own 74 (cY t r h m).graph.edges.length) (.own 75 (cY t r h m).values.length) tr cm),dI 0])=.tup [.agg (s9 t r h m).c,dI (j5 t r h m)]:=by
        rw [hA,hV]
        simp only [jB,jV,stpC,i6,rS,d1,d2,d3]
        simp [jV,mK,eQ,Ic,Stp26.c,Rule.c,Mat.c,Host.c,dLI,dI,htr,hcm]
       rw [← hE]
       exact hQ _ _ (by rw [key];simp [go_sem,D.cl,D.clL,Stp26.cl]) (.inl key)
      refine wv (h:=?_)
      exact fin _
theorem Ht {t:Types}{r:Rule}{h:Host}(h0:jF t r h=0):ruleF t r=0∧eR t h=0:=by
 unfold jF at h0
 split at h0
 ·exact absurd h0 (by assumption)
 ·rename_i h1;exact ⟨by simpa using h1,h0⟩
theorem Ay (t:Types)(ht:t.ok)(r:Rule)(hr:r.ok)(hr0:ruleF t r=0)(h:Host)(hh0:eR t h=0)(m:Mat){v:Stp26}{e:Int}(hv:v=s9 t r h m)(he:e=j5 t r h m):Pure Tryz.prog 71 [t.d,r.d,h.d,m.d] (.tup [.agg v.c,dI e]):=by
 subst hv he;exact LO t ht r hr hr0 h hh0 m
theorem LP (t:Types)(ht:t.ok)(r:Rule)(hr:r.ok)(h:Host)(m:Mat):Pure Tryz.prog 39 [t.d,r.d,h.d,m.d] (.tup [.agg (D9 t r h m).c,dI (Dt t r h m)]):=by
 obtain ⟨v,hv⟩:∃ v,v=s9 t r h m:=⟨_,rfl⟩
 obtain ⟨e,he⟩:∃ e,e=j5 t r h m:=⟨_,rfl⟩
 refine Tz.pK ⟨fun t=>t==8,fun _=>[]⟩ Tryz.func39 rfl (fun Q hQ=>?_)
 have Y:=wa @Host.d.eq_1 (wa @Host.c.eq_1 (wa @Mat.d.eq_1 (wa @Mat.c.eq_1 @Stp26.c.eq_1)))
 refine wv (h:=aB (D7 t ht r hr h) wl ?_)
 refine dU (fun h2=>?_) fun h2=>?_
 ·have hA:Dt t r h m=jF t r h:=by unfold Dt;rw [if_pos h2]
  have hV:D9 t r h m=rO:=by unfold D9;rw [if_neg (by omega)]
  exact wv (h:=hQ _ _ (by simp [go_sem,hA,hV,rO,rW,uN,mB,Stp26.c,Rule.c,Mat.c,Host.c,Cond.kind,Cond.kids,Cond.map,Cond.pattern,dLI,dI]))
 ·have hz:=Ht (show jF t r h=0 by omega)
  have hA:Dt t r h m=e:=by rw [he];unfold Dt;rw [if_neg (by omega)]
  have hV:D9 t r h m=v:=by rw [hv];unfold D9 s9;rw [hA,he]
  refine wv (h:=aB ((by have hq:=Ay t ht r hr hz.1 h hz.2 m hv he;simp only [Stp26.c,Rule.c,Mat.c,Host.c,eY,eX] at hq;unfold Mat.d Mat.c Host.d Host.c dLI at hq;exact hq)) wl ?_)
  exact wv (h:=hQ _ _ (by simp [go_sem,hA,hV,Stp26.c,Rule.c,Mat.c,Host.c]))
theorem Dd (t:Types)(ht:t.ok)(r:Rule)(hr:r.ok)(h:Host):Pure Tryz.prog 38 [t.d,r.d,h.d] (.tup [.list ((sU t r h).1.map Mat.c),dI (sU t r h).2]):=by
 refine Tz.pK ⟨fun t=>t==11||t==13||t==14,fun _=>[]⟩ Tryz.func38 rfl (fun Q hQ=>?_)
 have Y:=wa @Host.d.eq_1 @Host.c.eq_1
 refine wv (h:=aB (D7 t ht r hr h) wl ?_)
 refine dU (fun h2=>?_) fun h2=>?_
 ·have hS:sU t r h=([],jF t r h):=by unfold sU;rw [if_pos h2]
  exact wv (h:=hQ _ _ (by simp [go_sem,hS]))
 ·have hz:=Ht (show jF t r h=0 by omega)
  refine wv (h:=aB (Bo t ht r.left h r.inj) wl ?_)
  refine dU (fun h5=>?_) fun h5=>?_
  ·have hS:sU t r h=([],(iJ t r.left h r.inj).2):=by unfold sU;rw [if_neg (by omega),if_pos h5]
   exact wv (h:=hQ _ _ (by simp [go_sem,hS]))
  ·have hS:sU t r h=((iJ t r.left h r.inj).1.filter fun m=>decide (j5 t r h m=0),0):=by unfold sU;rw [if_neg (by omega),if_neg (by omega)]
   have hL5:=CS t r.left h r.inj
   obtain ⟨L,hL⟩:∃ L,L=(iJ t r.left h r.inj).1:=⟨_,rfl⟩
   rw [← hL] at hS hL5
   have Y:=wa Y (Eq.symm hL)
   refine wp (h:=cD (fun i e H=>∃ ms:List Mat,(e 3=.adr t.c∧e 4=.adr r.c∧e 5=.adr h.c∧e 36=.list (L.map Mat.c)∧e 37=dI L.length∧e 11=.own 0 ms.length∧e 38=dI i)∧(H.get 0=some ⟨35,3,ms.map Mat.c,false⟩)∧(0<H.next)∧(i≤L.length)∧(ms=(L.take i).filter fun m=>decide (j5 t r h m=0))∧(ms.length≤i)) (fun i=>L.length - i) 0 ⟨([]),wg,wn,wn,wi,(by rfl),(by (simp))⟩ fun I0 hI0 i e H hi0=>?_)
   obtain ⟨ms,E0,g0_0,n0_0,hi,hms,hml⟩:=hi0
   have Y:=wa Y (wa E0 (wa g0_0 (cO n0_0)))
   refine dU (fun h9=>?_) fun h9=>?_
   ·obtain ⟨v,hv⟩:∃ v,v=s9 t r h L[i]:=⟨_,rfl⟩
    obtain ⟨e,he⟩:∃ e,e=j5 t r h L[i]:=⟨_,rfl⟩
    obtain ⟨ms2,hms2⟩:∃ y,y=ms++[L[i]].filter fun m=>decide (j5 t r h m=0):=⟨_,rfl⟩
    have hes:j5 t r h L[i]=e:=he.symm
    have Y:=wa Y (wa h9 (wa (aA h9) (wa @Mat.c.eq_1 @Stp26.c.eq_1)))
    refine wp (h:=aB ((by have hq:=Ay t ht r hr hz.1 h hz.2 L[i] hv he;simp only [Stp26.c,Rule.c,Mat.c,Host.c,eY,eX] at hq;unfold Mat.d Mat.c Host.d Host.c dLI at hq;exact hq)) wl ?_)
    refine qJ (fun h12=>?_) fun h12=>?_
    ·have hm3:ms2=ms++[L[i]]:=by rw [hms2,Ga (by rw [hes];simpa using h12)];rfl
     have Y:=wa Y hm3
     exact wp (h:=wx hI0 (i+1) ⟨ms2,wg,wn,wn,wj,(by (rw [aG h9,eU,← hms,hms2])),(by (rw [hm3];first|(simp;omega)|omega))⟩)
    ·have hm3:ms2=ms:=by rw [hms2,s5 (by rw [hes];simpa using h12)];simp
     have Y:=wa Y hm3
     exact wp (h:=wx hI0 (i+1) ⟨ms2,wg,wn,wn,wj,(by (rw [aG h9,eU,← hms,hms2])),(by (rw [hm3];first|(simp;omega)|omega))⟩)
   ·rw [aK (by omega)] at hms
    exact wv (h:=hQ _ _ (by simp [go_sem,Y,hS,← hms]))
deriving instance DecidableEq for Edge
deriving instance DecidableEq for Graph
deriving instance DecidableEq for Part
deriving instance DecidableEq for Host
deriving instance DecidableEq for Mat
theorem Py {x y:Edge}(h:x.type=y.type∧x.from_=y.from_∧x.to_=y.to_):x=y:=by
 obtain ⟨a,b,c⟩:=x;obtain ⟨d,e,f⟩:=y
 obtain ⟨rfl,rfl,rfl⟩:=h;rfl
theorem Q0 (a b:Graph):decide (a=b)=(decide (a.nodes=b.nodes)&&decide (a.edges=b.edges)):=by
 rw [bF];cases a;cases b;simp
theorem SB (a b:Host):decide (a=b)=(decide (a.graph=b.graph)&&decide (a.values=b.values)):=by
 rw [bF];cases a;cases b;simp
section
variable {t:Types} {r:Rule} {h:Host} {m:Mat}
end
structure StepOk (t:Types) (r:Rule) (h:Host) (m:Mat):Prop where
 S:StepIn t r h m
 pre:BU t r h m=0
 sol:eZ t r.left h m.m=(m.vars,0)
 put:BT t (cY t r h m).graph (pO r h m) m.vars r.right.slots=0
 nn:(cY t r h m).graph.nodes.length≤40
 ne:(cY t r h m).graph.edges.length≤80
theorem StepOk.after {t:Types}{r:Rule}{h:Host}{m:Mat}(S:StepOk t r h m):eR t (xV t r h m)=0:=S.S.after S.put S.nn S.ne
deriving instance DecidableEq for Term
deriving instance DecidableEq for Slot
deriving instance DecidableEq for Test
deriving instance DecidableEq for Pattern
mutual
def Qi:Cond→Cond→Bool
 | .mk k l m p,.mk k' l' m' p'=>decide (k=k')&&decide (m=m')&&decide (p=p')&&zS l l'
def zS:List Cond→List Cond→Bool
 | [],[]=>true
 | [],_ :: _=>false
 | _ :: _,[]=>false
 | a :: l,b :: l'=>Qi a b&&zS l l'
end
mutual
theorem GZ:∀ a b:Cond,Qi a b=true↔a=b
 | .mk k l m p,.mk k' l' m' p'=>by
  have:=Em l l'
  simp only [Qi,aQ,decide_eq_true_eq,this,Cond.mk.injEq]
  constructor
  ·rintro ⟨⟨⟨h1,h2⟩,h3⟩,h4⟩;exact ⟨h1,h4,h2,h3⟩
  ·rintro ⟨h1,h4,h2,h3⟩;exact ⟨⟨⟨h1,h2⟩,h3⟩,h4⟩
theorem Em:∀ a b:List Cond,zS a b=true↔a=b
 | [],[]=>by simp [zS]
 | [],_ :: _=>by simp [zS]
 | _ :: _,[]=>by simp [zS]
 | a :: l,b :: l'=>by
  have h1:=GZ a b
  have h2:=Em l l'
  simp [zS,h1,h2]
end
instance:DecidableEq Cond:=fun a b=>decidable_of_iff _ (GZ a b)
deriving instance DecidableEq for Rule
deriving instance DecidableEq for Stp26
theorem MB (a b:List Edge):Pure Tryz.prog 72 [.list (a.map Edge.c),.list (b.map Edge.c)] (.bool (decide (a=b))):=by
 refine Tz.pK ⟨fun _=>false,fun _=>[]⟩ Tryz.func72 rfl (fun Q hQ=>?_)
 have Y:=trivial
 refine wv (h:=?_)
 repeat first|intro _|refine ⟨oW,?_⟩
 refine wq (fun h1=>?_) fun h1=>?_
 ·refine wv (h:=?_)
  have hne:a≠b:=by intro h;subst h;omega
  exact hQ _ _ (by simp [go_sem,hne])
 ·refine wo (h:=cD (fun i e H=>(e 0=.list (a.map Edge.c)∧e 1=.list (b.map Edge.c)∧e 12=dI a.length∧e 13=dI i)∧(i≤a.length)∧(a.take i=b.take i)) (fun i=>a.length - i) 0 ⟨wg,wi,(by rfl)⟩ fun I0 hI0 i e H hi0=>?_)
  obtain ⟨E0,hi,he⟩:=hi0
  have Y:=wa Y E0
  refine dU (fun h4=>?_) fun h4=>?_
  ·have hib:i<b.length:=by omega
   have Y:=wa Y (wa h4 (wa (aA h4) (aA hib)))
   refine wv (h:=?_)
   repeat first|intro _|refine ⟨oW,?_⟩
   refine wq (fun h6=>?_) fun h6=>?_
   ·refine wv (h:=?_)
    have hne:a≠b:=by intro h;subst h;simp at h6
    exact hQ _ _ (by simp [go_sem,hne])
   ·exact wo (h:=wx hI0 (i+1) ⟨wg,wj,(by (rw [aG h4,aG hib,he,Py h6]))⟩)
  ·have hab:a=b:=by rw [aK (by omega),aK (by omega)] at he;exact he
   exact wv (h:=hQ _ _ (by simp [go_sem,hab]))
theorem Ft (a b:List (List Int))(g:FuncId)(hg:∀ x y:List Int,Pure Tryz.prog g [dLI x,dLI y] (.bool (decide (x=y)))):Pure Tryz.prog 73 [.list (a.map cL),.list (b.map cL),.fn g []] (.bool (decide (a=b))):=by
 refine Tz.pK ⟨fun _=>false,fun _=>[]⟩ Tryz.func73 rfl (fun Q hQ=>?_)
 have Y:=trivial
 refine wv (h:=?_)
 repeat first|intro _|refine ⟨oW,?_⟩
 refine wq (fun h1=>?_) fun h1=>?_
 ·refine wv (h:=?_)
  have hne:a≠b:=by intro h;subst h;omega
  exact hQ _ _ (by simp [go_sem,hne])
 ·refine wo (h:=cD (fun i e H=>(e 0=.list (a.map cL)∧e 1=.list (b.map cL)∧e 2=.fn g []∧e 15=.list (a.map cL)∧e 16=dI a.length∧e 17=dI i)∧(i≤a.length)∧(a.take i=b.take i)) (fun i=>a.length - i) 0 ⟨wg,wi,(by rfl)⟩ fun I0 hI0 i e H hi0=>?_)
  obtain ⟨E0,hi,he⟩:=hi0
  have Y:=wa Y E0
  refine dU (fun h4=>?_) fun h4=>?_
  ·have hib:i<b.length:=by omega
   have Y:=wa Y (wa h4 (wa (aA h4) (wa (aA hib) @cL.eq_1)))
   refine wo (h:=aB (hg a[i] b[i]) wl ?_)
   refine wv (h:=?_)
   repeat first|intro _|refine ⟨oW,?_⟩
   refine wq (fun h7=>?_) fun h7=>?_
   ·refine wv (h:=?_)
    have hne:a≠b:=by intro h;subst h;exact h7 rfl
    exact hQ _ _ (by simp [go_sem,hne])
   ·exact wo (h:=wx hI0 (i+1) ⟨wg,wj,(by (rw [aG h4,aG hib,he,h7]))⟩)
  ·have hab:a=b:=by rw [aK (by omega),aK (by omega)] at he;exact he
   exact wv (h:=hQ _ _ (by simp [go_sem,hab]))
theorem Ms (a b:Host):Pure Tryz.prog 42 [a.d,b.d] (.bool (decide (a=b))):=by
 refine Tz.pK ⟨fun _=>false,fun _=>[]⟩ Tryz.func42 rfl (fun Q hQ=>?_)
 have Y:=wa @Host.d.eq_1 @Host.c.eq_1
 refine wo (h:=aB (lZ a.graph.nodes b.graph.nodes) wl ?_)
 refine wo (h:=bD (fun hg=>MB a.graph.edges b.graph.edges) (fun hg=>wl) ?_)
 refine wo (h:=bD (fun hg=>Ft a.values b.values 9 lZ) (fun hg=>wl) ?_)
 have Y:=wa Y (wa @SB @Q0)
 exact wo (h:=hQ _ _ wy)
end Go.Abs
end
