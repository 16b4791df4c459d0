/- Plain law: what remains after a step, and what Right says. · -/
import Derived.Test.YtjfaalokjnmdoaaGreatZcAV
import Derived.Test.YtjfaalokjnmdoaaGreatZcAA
set_option linter.unusedVariables false
set_option linter.unusedSimpArgs false
section
set_option maxRecDepth 100000
set_option maxHeartbeats 4000000
open Go Go.Proofs
namespace Go.Abs
theorem PE {l:List Int}(hd:l.Nodup){v:Int}(h0:0≤iB l l.length v):∃ p:Nat,∃ hp:p<l.length,l[p]=v∧iB l l.length v=p:=by
 by_cases hv:v∈l
 ·obtain ⟨p,hp,rfl⟩:=aN hv
  exact ⟨p,hp,rfl,qU hd hp⟩
 ·rw [uD hv _ (aY _)] at h0;omega
section
variable {t:Types} {r:Rule} {h:Host} {m:Mat}
theorem StepOk.track_node (K:StepOk t r h m){i:Nat}(hi:i<h.graph.nodes.length)(h0:0≤iA (dC r h m).nodes i) :
  ∃ p:Nat,∃ hp:p<(cE r h m).nodes.length,(cE r h m).nodes[p]=(i:Int)∧iA (dC r h m).nodes i=p:=by
 have e:iA (dC r h m).nodes i=iB (cE r h m).nodes (cE r h m).nodes.length i:=by
  unfold iA dC mA
  simp only
  rw [show ((i:Int)).toNat=i by omega,n6 _ hi,aD]
 rw [e] at h0 ⊢
 obtain ⟨p,hp,h1,h2⟩:=PE (uG K.S.nasc) h0
 exact ⟨p,hp,h1,h2⟩
theorem StepOk.track_edge (K:StepOk t r h m){i:Nat}(hi:i<h.graph.edges.length)(h0:0≤iA (dC r h m).edges i) :
  ∃ p:Nat,∃ hp:p<(cE r h m).edges.length,(cE r h m).edges[p]=(i:Int)∧iA (dC r h m).edges i=p:=by
 have e:iA (dC r h m).edges i=iB (cE r h m).edges (cE r h m).edges.length i:=by
  unfold iA dC mA
  simp only
  rw [show ((i:Int)).toNat=i by omega,n6 _ hi,aD]
 rw [e] at h0 ⊢
 obtain ⟨p,hp,h1,h2⟩:=PE (uG K.S.easc) h0
 exact ⟨p,hp,h1,h2⟩
theorem StepOk.put_in (K:StepOk t r h m):∀ s∈r.right.slots,0≤jI (gM r h m) s∧fI (gM r h m) s<(cD t r h m).values.length∧0≤s.attr∧s.attr<((cD t r h m).values[fI (gM r h m) s]?.getD []).length:=fun s hs=>by
 have P:=K.S.put
 have a:=(K.S.hR.slots s hs).2.1
 exact ⟨(P.spot s hs).1,(P.spot s hs).2.1,a.1,(P.attr s hs).1⟩
theorem StepOk.value (K:StepOk t r h m){n a:Nat}(hn:n<(cD t r h m).values.length)(ha:a<((cD t r h m).values[n]?.getD []).length) :
  ((fO t r h m).values[n]?.getD [])[a]?=some ((FA (gM r h m) m.vars r.right.slots n a).getD (((cD t r h m).values[n]?.getD [])[a]?.getD 0)) :=
 Ft _ _ r.right.slots rfl K.put_in n a hn ha
theorem StepOk.rows (K:StepOk t r h m):(fO t r h m).values.length=(cD t r h m).values.length∧∀ n:Nat,((fO t r h m).values[n]?.getD []).length=((cD t r h m).values[n]?.getD []).length :=
 ⟨(qB _ _ _ _).1,fun n=>(qB (gM r h m) m.vars r.right.slots (cD t r h m).values).2 n⟩
theorem StepOk.eqK (K:StepOk t r h m):Vb (gM r h m) m.vars r.right.slots:=by
 refine Ok ?_
 have:=K.put
 unfold Bb at this
 split at this
 ·cases this
 ·rename_i hc;simpa using hc
structure RemN (t:Types) (r:Rule) (h:Host) (m:Mat) (i:Nat) (k:Int):Prop where
 n1:k.toNat<(fO t r h m).graph.nodes.length
 n2:(fO t r h m).graph.nodes[k.toNat]?.getD 0=h.graph.nodes[i]?.getD 0
 v1:k.toNat<(fO t r h m).values.length
 v2:((fO t r h m).values[k.toNat]?.getD []).length=(h.values[i]?.getD []).length
 v3:∀ a:Nat,a<(h.values[i]?.getD []).length→(∀ s∈r.right.slots,¬ (jI (gM r h m) s=k∧s.attr=a))→((fO t r h m).values[k.toNat]?.getD [])[a]?.getD 0=(h.values[i]?.getD [])[a]?.getD 0
theorem StepOk.remN (K : StepOk t r h m) {i : Nat} (hi : i < h.graph.nodes.length) (h0 : 0 ≤ iA (dC r h m).nodes i) : RemN t r h m i (iA (dC r h m).nodes i) := by
  obtain ⟨p, hp, h1, h2⟩ := K.track_node hi h0
  have hb := K.S.bareN
  have hl : (cD t r h m).graph.nodes.length = (cE r h m).nodes.length + r.freshN.length := by rw [hb, aI, bA, bA]
  have hvl := K.S.vlen
  have eg : (fO t r h m).graph = (cD t r h m).graph := rfl
  obtain ⟨r1, r2⟩ := K.rows
  have en : (cD t r h m).graph.nodes[p]?.getD 0 = h.graph.nodes[i]?.getD 0 := by
    rw [hb, aU (by simpa using hp), aM, aA hp, cZ, aD, h1]
    unfold gN
    rw [show ((i : Int)).toNat = i by omega]
  have ev : (cD t r h m).values[p]?.getD [] = h.values[i]?.getD [] := by
    rw [Se, aU (by simpa using hp), aM, aA hp, cZ, aD, h1]
    rw [show ((i : Int)).toNat = i by omega]
  rw [h2]
  have ep : ((p : Nat) : Int).toNat = p := by omega
  refine ⟨by rw [ep, eg]; omega, by rw [ep, eg]; exact en, by rw [ep]; omega, by rw [ep, r2, ev], fun a ha hn => ?_⟩
  rw [ep, K.value (by omega) (by rw [ev]; exact ha), aD]
  have hF : FA (gM r h m) m.vars r.right.slots p a = none := by
    cases hq : FA (gM r h m) m.vars r.right.slots p a with
    | none => rfl
    | some x =>
      obtain ⟨s, hs, e1, e2, _⟩ := B5 hq
      exact absurd ⟨e1, e2⟩ (hn s hs)
  rw [hF, ev]; rfl
theorem StepOk.remE (K:StepOk t r h m){i:Nat}(hi:i<h.graph.edges.length)(h0:0≤iA (dC r h m).edges i) :
  (iA (dC r h m).edges i).toNat<(fO t r h m).graph.edges.length∧eA (fO t r h m).graph (iA (dC r h m).edges i)=⟨(eA h.graph i).type,iA (dC r h m).nodes (eA h.graph i).from_,iA (dC r h m).nodes (eA h.graph i).to_⟩:=by
 obtain ⟨p,hp,h1,h2⟩:=K.track_edge hi h0
 have S:=K.S
 have hb:=S.bareE
 have hl:(cD t r h m).graph.edges.length=(cE r h m).edges.length+r.freshE.length:=by rw [hb,aI,bA,bA]
 have eg:(fO t r h m).graph=(cD t r h m).graph:=rfl
 rw [h2,eg]
 refine ⟨by omega,?_⟩
 have e:eA (cD t r h m).graph (p:Int)=gEd h.graph (cE r h m) (i:Int):=by
  unfold eA
  rw [show ((p:Nat):Int).toNat=p by omega,hb,aU (by simpa using hp),aM,aA hp,cZ,aD,h1]
 rw [e,JX]
 have hm:(i:Int)∈(cE r h m).edges:=h1 ▸ aC hp
 obtain ⟨s1,s2⟩:=AT S.sub hm
 have key:∀ v:Int,v∈(cE r h m).nodes→iA (dC r h m).nodes v=(oT (cE r h m).nodes v:Int):=fun v hv=>by
  have hr:=S.nin v hv
  unfold iA dC mA
  simp only
  rw [n6 _ (by omega),aD,show ((v.toNat:Nat):Int)=v by omega,C1 S.nasc,if_pos ((dA _ _).2 hv)]
 rw [key _ s1,key _ s2]
theorem StepOk.remS (K:StepOk t r h m){s:Slot}(hs:s∈r.right.slots) :
  (0≤jI (gM r h m) s∧fI (gM r h m) s<(fO t r h m).values.length)∧(0≤s.attr∧s.attr<((fO t r h m).values[fI (gM r h m) s]?.getD []).length)∧((fO t r h m).values[fI (gM r h m) s]?.getD [])[s.attr.toNat]?.getD 0=c5 s.term m.vars:=by
 obtain ⟨p1,p2,p3,p4⟩:=K.put_in s hs
 obtain ⟨r1,r2⟩:=K.rows
 refine ⟨⟨p1,by omega⟩,⟨p3,by rw [r2];exact p4⟩,?_⟩
 rw [K.value p2 (by omega),aD]
 have e:=OT K.eqK hs
 have e1:((fI (gM r h m) s:Nat):Int)=jI (gM r h m) s:=by rw [kT];omega
 have e2:((s.attr.toNat:Nat):Int)=s.attr:=by omega
 rw [e1,e2,e];rfl
end
def QH (co:List Int)(k:Int)(a:Nat)(x:Slot):Bool:=decide (co[x.node.toNat]?.getD 0=k)&&x.attr==(a:Int)
structure RemOk (r:Rule) (h:Host) (m:Mat) (s:Stp26):Prop where
 l1:s.track.nodes.length=h.graph.nodes.length
 l2:s.track.edges.length=h.graph.edges.length
 l3:s.comatch.nodes.length=r.right.graph.nodes.length
 lv:h.values.length=h.graph.nodes.length
 nd:∀ (j:Nat) (hj:j<s.track.nodes.length),0≤s.track.nodes[j]→∃ (h1:s.track.nodes[j].toNat<s.after.graph.nodes.length) (h2:j<h.graph.nodes.length) (h3:s.track.nodes[j].toNat<s.after.values.length) (h4:j<h.values.length),
  s.after.graph.nodes[s.track.nodes[j].toNat]=h.graph.nodes[j]∧s.after.values[s.track.nodes[j].toNat].length=h.values[j].length ∧
  ∀ (a:Nat) (ha:a<h.values[j].length) (hb:a<s.after.values[s.track.nodes[j].toNat].length),(r.right.slots.any (QH s.comatch.nodes s.track.nodes[j] a))=false→s.after.values[s.track.nodes[j].toNat][a]=h.values[j][a]
 ed:∀ (j:Nat) (hj:j<s.track.edges.length),0≤s.track.edges[j]→∃ (h1:s.track.edges[j].toNat<s.after.graph.edges.length) (h2:j<h.graph.edges.length) (h3:h.graph.edges[j].from_.toNat<s.track.nodes.length) (h4:h.graph.edges[j].to_.toNat<s.track.nodes.length),
  s.after.graph.edges[s.track.edges[j].toNat]=⟨h.graph.edges[j].type,s.track.nodes[h.graph.edges[j].from_.toNat],s.track.nodes[h.graph.edges[j].to_.toNat]⟩
 ee:∀ x∈h.graph.edges,0≤x.from_∧0≤x.to_∧x.from_.toNat<s.track.nodes.length∧x.to_.toNat<s.track.nodes.length
 sl:∀ x∈r.right.slots,(0≤x.node∧x.node<s.comatch.nodes.length)∧∃ (h1:x.node.toNat<s.comatch.nodes.length) (h2:s.comatch.nodes[x.node.toNat].toNat<s.after.values.length) (h3:x.attr.toNat<s.after.values[s.comatch.nodes[x.node.toNat].toNat].length),
  0≤s.comatch.nodes[x.node.toNat]∧0≤x.attr∧s.after.values[s.comatch.nodes[x.node.toNat].toNat][x.attr.toNat]=c5 x.term m.vars
 tm:∀ x∈r.right.slots,nI x.term m.vars.length
 vs:Sm m.vars
theorem FY (d:Dr26)(t:Types)(r:Rule)(h:Host)(L:List Mat)(E:Int)(b:Bool)(V:Mat→Stp26)(hLl:L.length≤1000000)
  (cM:Pure Tryz.prog 22 [.agg d.c] (.tup [t.d,r.d,h.d]))
  (cL:Pure Tryz.prog 18 [t.d,r.d,h.d] (.bool b))
  (cP:b=true→Pure Tryz.prog 19 [t.d,r.d,h.d] (.tup [.list (L.map Mat.c),dI E]))
  (hE:b=true→E=0∨E=3)
  (cA:b=true→E=0→∀ m∈L,Pure Tryz.prog 23 [t.d,r.d,h.d,m.d] (.tup [.agg (V m).c,dI 0]))
  (hR:b=true→E=0→∀ m∈L,RemOk r h m (V m))
  (hs:h.graph.nodes.length≤1000∧h.graph.edges.length≤1000∧r.right.graph.nodes.length≤1000∧r.right.slots.length≤1000) :
  Pure Tryz.prog 6 [.agg d.c] (.bool true):=by
 obtain ⟨s1,s2,s3,s4⟩:=hs
 have hm1:(if (4:Int)<(L.length:Int) then (4:Int) else (L.length:Int))=((min L.length 4:Nat):Int):=by split<;>omega
 obtain ⟨k,hk⟩:∃ m,min L.length 4=m:=⟨_,rfl⟩
 rw [hk] at hm1
 have hk':k≤L.length:=by omega
 obtain ⟨M,hM⟩:∃ M,M=L.take k:=⟨_,rfl⟩
 have hMm:(L.map Mat.c).take k=M.map Mat.c:=by rw [hM,List.map_take]
 have hML:∀ m∈M,m∈L:=fun m hm=>bW (hM ▸ hm)
 have hMl:M.length=k:=by rw [hM,bH];omega
 refine Tz.pK ⟨fun t=>t==3||t==4||t==5||t==9||t==10||t==18||t==21||t==23,fun _=>[]⟩ Tryz.func6 rfl (fun Q hQ=>?_)
 try simp -implicitDefEqProofs [go_sem,seval,Dr26.c,Dr24.c,Dr15.c,Host.d,Host.c,Mat.d,Mat.c,Rule.d,Rule.c,Stp26.c,hm1,hMm]
 repeat first|intro _|refine ⟨dQ,?_⟩
 refine aB (xL) ((by first|rfl|(simp [go_sem,← List.map_take,← List.map_drop,Dr26.c,Dr24.c,Dr15.c,Host.d,Host.c,Mat.d,Mat.c,Rule.d,Rule.c,Stp26.c,hm1,hMm];done))) ?_
 try simp -implicitDefEqProofs [go_sem,seval,Dr26.c,Dr24.c,Dr15.c,Host.d,Host.c,Mat.d,Mat.c,Rule.d,Rule.c,Stp26.c,hm1,hMm]
 repeat first|intro _|refine ⟨dQ,?_⟩
 refine aB ((by have hz:=cM;simp only [Dr26.c,Dr24.c,Dr15.c,eQ,eJ] at hz;unfold Rule.d Host.d at hz;exact hz)) ((by first|rfl|(simp [go_sem,← List.map_take,← List.map_drop,Dr26.c,Dr24.c,Dr15.c,Host.d,Host.c,Mat.d,Mat.c,Rule.d,Rule.c,Stp26.c,hm1,hMm];done))) ?_
 try simp -implicitDefEqProofs [go_sem,seval,Dr26.c,Dr24.c,Dr15.c,Host.d,Host.c,Mat.d,Mat.c,Rule.d,Rule.c,Stp26.c,hm1,hMm]
 repeat first|intro _|refine ⟨dQ,?_⟩
 refine aB (cL) ((by first|rfl|(simp [go_sem,← List.map_take,← List.map_drop,Dr26.c,Dr24.c,Dr15.c,Host.d,Host.c,Mat.d,Mat.c,Rule.d,Rule.c,Stp26.c,hm1,hMm];done))) ?_
 try simp -implicitDefEqProofs [go_sem,seval,Dr26.c,Dr24.c,Dr15.c,Host.d,Host.c,Mat.d,Mat.c,Rule.d,Rule.c,Stp26.c,hm1,hMm]
 repeat first|intro _|refine ⟨dQ,?_⟩
 refine aK (fun h4=>?_) (fun h4=>?_)
 ·try simp [go_sem] at h4
  try simp -implicitDefEqProofs [go_sem,seval,Dr26.c,Dr24.c,Dr15.c,Host.d,Host.c,Mat.d,Mat.c,Rule.d,Rule.c,Stp26.c,hm1,hMm]
  exact hQ _ _ (by simp [go_sem,Dr26.c,Dr24.c,Dr15.c,Host.d,Host.c,Mat.d,Mat.c,Rule.d,Rule.c,Stp26.c,hm1,hMm,h4]<;>first|omega|(rw [aS];simp<;>omega)|(simp_all<;>omega))
 ·try simp [go_sem] at h4
  have hb:b=true:=by cases hbb:b<;>simp [hbb] at h4 ⊢
  try simp -implicitDefEqProofs [go_sem,seval,Dr26.c,Dr24.c,Dr15.c,Host.d,Host.c,Mat.d,Mat.c,Rule.d,Rule.c,Stp26.c,hm1,hMm]
  refine aB (cP hb) ((by first|rfl|(simp [go_sem,← List.map_take,← List.map_drop,Dr26.c,Dr24.c,Dr15.c,Host.d,Host.c,Mat.d,Mat.c,Rule.d,Rule.c,Stp26.c,hm1,hMm];done))) ?_
  try simp -implicitDefEqProofs [go_sem,seval,Dr26.c,Dr24.c,Dr15.c,Host.d,Host.c,Mat.d,Mat.c,Rule.d,Rule.c,Stp26.c,hm1,hMm]
  refine aK (fun h7=>?_) (fun h7=>?_)
  ·try simp [go_sem] at h7
   have hE3:E=3:=by rcases hE hb with h|h;exact absurd h (by simpa using h7);exact h
   try simp -implicitDefEqProofs [go_sem,seval,Dr26.c,Dr24.c,Dr15.c,Host.d,Host.c,Mat.d,Mat.c,Rule.d,Rule.c,Stp26.c,hm1,hMm,hE3]
   exact hQ _ _ (by simp [go_sem,Dr26.c,Dr24.c,Dr15.c,Host.d,Host.c,Mat.d,Mat.c,Rule.d,Rule.c,Stp26.c,hm1,hMm,hE3,h4,h7]<;>first|omega|(rw [aS];simp<;>omega)|(simp_all<;>omega))
  ·try simp [go_sem] at h7
   have hE0:E=0:=by simpa using h7
   try simp -implicitDefEqProofs [go_sem,seval,Dr26.c,Dr24.c,Dr15.c,Host.d,Host.c,Mat.d,Mat.c,Rule.d,Rule.c,Stp26.c,hm1,hMm]
   repeat first|intro _|refine ⟨dQ,?_⟩
   obtain ⟨I0,hI0⟩:∃ I0:Nat→cX→AHeap→Prop,∀ (i:Nat) (e:cX) (H:AHeap),I0 i e H↔((e 1=.adr d.c)∧(e 3=.ptr 0 1 0 0)∧(e 4=.ptr 1 1 0 0)∧(e 5=.ptr 2 1 0 0)∧(e 54=.list (M.map Mat.c))∧(e 55=dI M.length)∧(e 56=dI i)∧(H.get 0=some ⟨32,2,[t.c],false⟩)∧(0<H.next)∧(H.get 1=some ⟨61,25,[r.c],false⟩)∧(1<H.next)∧(H.get 2=some ⟨40,3,[h.c],false⟩)∧(2<H.next)∧(i≤M.length)):=⟨fun i e H=>_,fun _ _ _=>Iff.rfl⟩
   refine k6 I0 (fun i=>M.length - i) (0) ((hI0 _ _ _).2 ⟨?_,?_,?_,?_,?_,?_,?_,?_,?_,?_,?_,?_,?_,(by first|assumption|omega|(simp [go_sem,Dr26.c,Dr24.c,Dr15.c,Host.d,Host.c,Mat.d,Mat.c,Rule.d,Rule.c,Stp26.c,hm1,hMm];done)|(simp_all;done))⟩) ?_
   iterate 13 (first|omega|(simp [go_sem,seval,Dr26.c,Dr24.c,Dr15.c,Host.d,Host.c,Mat.d,Mat.c,Rule.d,Rule.c,Stp26.c,hm1,hMm]<;>omega))
   intro i e H hi0
   obtain ⟨q1_0,q3_0,q4_0,q5_0,q54_0,q55_0,q56_0,g0_0,n0_0,g1_0,n1_0,g2_0,n2_0,hi⟩:=(hI0 _ _ _).1 hi0
   have x0:=b5 n0_0
   have x1:=b5 n1_0
   have x2:=b5 n2_0
   have F0:=And.intro q1_0 (And.intro q3_0 (And.intro q4_0 (And.intro q5_0 (And.intro q54_0 (And.intro q55_0 (And.intro q56_0 (And.intro g0_0 (And.intro g1_0 (And.intro g2_0 (And.intro x0 (And.intro x1 x2)))))))))))
   try simp -implicitDefEqProofs [go_sem,seval,Dr26.c,Dr24.c,Dr15.c,Host.d,Host.c,Mat.d,Mat.c,Rule.d,Rule.c,Stp26.c,hm1,hMm,F0]
   refine aK (fun h10=>?_) (fun h10=>?_)
   ·try simp [go_sem] at h10
    have hmm:=hML _ (aC h10)
    obtain ⟨s,hs⟩:∃ s,s=V M[i]:=⟨_,rfl⟩
    have hA:Pure Tryz.prog 23 [t.d,r.d,h.d,M[i].d] (.tup [.agg s.c,dI 0]):=by rw [hs];exact cA hb hE0 _ hmm
    have K:RemOk r h M[i] s:=by rw [hs];exact hR hb hE0 _ hmm
    have k1:=K.l1
    have k2:=K.l2
    have k3:=K.l3
    have k4:=K.lv
    try simp -implicitDefEqProofs [go_sem,seval,Dr26.c,Dr24.c,Dr15.c,Host.d,Host.c,Mat.d,Mat.c,Rule.d,Rule.c,Stp26.c,hm1,hMm,F0,h10,aA h10,k1,k2,k3]
    repeat first|intro _|refine ⟨dQ,?_⟩
    refine aB (hA) ((by first|rfl|(simp [go_sem,← List.map_take,← List.map_drop,Dr26.c,Dr24.c,Dr15.c,Host.d,Host.c,Mat.d,Mat.c,Rule.d,Rule.c,Stp26.c,hm1,hMm,F0,h10,aA h10,k1,k2,k3];done))) ?_
    try simp -implicitDefEqProofs [go_sem,seval,Dr26.c,Dr24.c,Dr15.c,Host.d,Host.c,Mat.d,Mat.c,Rule.d,Rule.c,Stp26.c,hm1,hMm,F0,h10,aA h10,k1,k2,k3]
    repeat first|intro _|refine ⟨dQ,?_⟩
    obtain ⟨I2,hI2⟩:∃ I2:Nat→cX→AHeap→Prop,∀ (j:Nat) (e:cX) (H:AHeap),I2 j e H↔(∃ a:Nat,∃ q:Nat,(e 1=.adr d.c)∧(e 3=.ptr 0 1 0 0)∧(e 4=.ptr 1 1 0 0)∧(e 5=.ptr 2 1 0 0)∧(e 54=.list (M.map Mat.c))∧(e 55=dI M.length)∧(e 56=dI i)∧(e 9=.ptr a 1 0 0)∧(e 10=.ptr q 1 0 0)∧(e 106=dLI s.track.nodes)∧(e 107=dI s.track.nodes.length)∧(e 108=dI j)∧(H.get 0=some ⟨32,2,[t.c],false⟩)∧(0<H.next)∧(H.get 1=some ⟨61,25,[r.c],false⟩)∧(1<H.next)∧(H.get 2=some ⟨40,3,[h.c],false⟩)∧(2<H.next)∧(H.get a=some ⟨65,3,[M[i].c],false⟩)∧(a<H.next)∧(H.get q=some ⟨67,38,[s.c],false⟩)∧(q<H.next)∧(j≤s.track.nodes.length)∧(3≤a∧a<q)):=⟨fun j e H=>_,fun _ _ _=>Iff.rfl⟩
    refine k6 I2 (fun j=>s.track.nodes.length - j) (0) ((hI2 _ _ _).2 ⟨(H.next),(H.next+1),?_,?_,?_,?_,?_,?_,?_,?_,?_,?_,?_,?_,?_,?_,?_,?_,?_,?_,?_,?_,?_,?_,(by first|assumption|omega|(simp [go_sem,Dr26.c,Dr24.c,Dr15.c,Host.d,Host.c,Mat.d,Mat.c,Rule.d,Rule.c,Stp26.c,hm1,hMm,F0,h10,aA h10,k1,k2,k3];done)|(simp_all;done)),(by first|assumption|omega|(simp [go_sem,Dr26.c,Dr24.c,Dr15.c,Host.d,Host.c,Mat.d,Mat.c,Rule.d,Rule.c,Stp26.c,hm1,hMm,F0,h10,aA h10,k1,k2,k3];done)|(simp_all;done))⟩) ?_
    iterate 22 (first|omega|(simp [go_sem,seval,Dr26.c,Dr24.c,Dr15.c,Host.d,Host.c,Mat.d,Mat.c,Rule.d,Rule.c,Stp26.c,hm1,hMm,F0,h10,aA h10,k1,k2,k3]<;>omega))
    intro j e H hi2
    obtain ⟨a,q,q1_2,q3_2,q4_2,q5_2,q54_2,q55_2,q56_2,q9_2,q10_2,q106_2,q107_2,q108_2,g0_2,n0_2,g1_2,n1_2,g2_2,n2_2,ga_2,na_2,gq_2,nq_2,hj,haq⟩:=(hI2 _ _ _).1 hi2
    have x0:=b5 n0_2
    have x1:=b5 n1_2
    have x2:=b5 n2_2
    have xa:=b5 na_2
    have xq:=b5 nq_2
    have F2:=And.intro q1_2 (And.intro q3_2 (And.intro q4_2 (And.intro q5_2 (And.intro q54_2 (And.intro q55_2 (And.intro q56_2 (And.intro q9_2 (And.intro q10_2 (And.intro q106_2 (And.intro q107_2 (And.intro q108_2 (And.intro g0_2 (And.intro g1_2 (And.intro g2_2 (And.intro ga_2 (And.intro gq_2 (And.intro x0 (And.intro x1 (And.intro x2 (And.intro xa xq))))))))))))))))))))
    have di1:=And.intro (cY (show q≠a by omega)) (And.intro (cY (show q≠2 by omega)) (And.intro (cY (show q≠1 by omega)) (And.intro (cY (show q≠0 by omega)) (And.intro (cY (show a≠2 by omega)) (And.intro (cY (show a≠1 by omega)) (And.intro (cY (show a≠0 by omega)) (And.intro (cY (show 2≠1 by omega)) (And.intro (cY (show 2≠0 by omega)) (cY (show 1≠0 by omega))))))))))
    try simp -implicitDefEqProofs [go_sem,seval,Dr26.c,Dr24.c,Dr15.c,Host.d,Host.c,Mat.d,Mat.c,Rule.d,Rule.c,Stp26.c,hm1,hMm,h10,aA h10,k1,k2,k3,F2,di1]
    refine aK (fun h16=>?_) (fun h16=>?_)
    ·try simp [go_sem] at h16
     have hjt:j<s.track.nodes.length:=by omega
     obtain ⟨kk,hkk⟩:∃ kk,kk=s.track.nodes[j]:=⟨_,rfl⟩
     try simp -implicitDefEqProofs [go_sem,seval,Dr26.c,Dr24.c,Dr15.c,Host.d,Host.c,Mat.d,Mat.c,Rule.d,Rule.c,Stp26.c,hm1,hMm,h10,aA h10,k1,k2,k3,F2,di1,h16,aA hjt,← hkk]
     repeat first|intro _|refine ⟨dQ,?_⟩
     refine aK (fun h18=>?_) (fun h18=>?_)
     ·try simp [go_sem] at h18
      try simp -implicitDefEqProofs [go_sem,seval,Dr26.c,Dr24.c,Dr15.c,Host.d,Host.c,Mat.d,Mat.c,Rule.d,Rule.c,Stp26.c,hm1,hMm,h10,aA h10,k1,k2,k3,F2,di1,h16,aA hjt,← hkk]
      repeat first|intro _|refine ⟨dQ,?_⟩
      refine cT (j+1) (by omega) ((hI2 _ _ _).2 ⟨(a),(q),?_,?_,?_,?_,?_,?_,?_,?_,?_,?_,?_,?_,?_,?_,?_,?_,?_,?_,?_,?_,?_,?_,(by first|assumption|omega|(simp [go_sem,Dr26.c,Dr24.c,Dr15.c,Host.d,Host.c,Mat.d,Mat.c,Rule.d,Rule.c,Stp26.c,hm1,hMm,h10,aA h10,k1,k2,k3,F2,di1,h16,aA hjt,← hkk,h4,h7,h18];done)|(simp_all<;>omega)),(by first|assumption|omega|(simp [go_sem,Dr26.c,Dr24.c,Dr15.c,Host.d,Host.c,Mat.d,Mat.c,Rule.d,Rule.c,Stp26.c,hm1,hMm,h10,aA h10,k1,k2,k3,F2,di1,h16,aA hjt,← hkk,h4,h7,h18];done)|(simp_all<;>omega))⟩)<;>first|omega|(simp [go_sem,seval,Dr26.c,Dr24.c,Dr15.c,Host.d,Host.c,Mat.d,Mat.c,Rule.d,Rule.c,Stp26.c,hm1,hMm,h10,aA h10,k1,k2,k3,F2,di1,h16,aA hjt,← hkk]<;>omega)
     ·try simp [go_sem] at h18
      obtain ⟨q1,q2,q3,q4,q5,q6,q7⟩:=K.nd j hjt (by rw [← hkk];omega)
      simp only [← hkk] at q1 q3 q5 q6 q7
      try simp -implicitDefEqProofs [go_sem,seval,Dr26.c,Dr24.c,Dr15.c,Host.d,Host.c,Mat.d,Mat.c,Rule.d,Rule.c,Stp26.c,hm1,hMm,h10,aA h10,k1,k2,k3,F2,di1,h16,aA hjt,← hkk,h18,aA q1,aA q2,aA q3,aA q4,q5,cL]
      repeat first|intro _|refine ⟨dQ,?_⟩
      obtain ⟨I4,hI4⟩:∃ I4:Nat→cX→AHeap→Prop,∀ (c:Nat) (e:cX) (H:AHeap),I4 c e H↔((e 1=.adr d.c)∧(e 3=.ptr 0 1 0 0)∧(e 4=.ptr 1 1 0 0)∧(e 5=.ptr 2 1 0 0)∧(e 54=.list (M.map Mat.c))∧(e 55=dI M.length)∧(e 56=dI i)∧(e 9=.ptr a 1 0 0)∧(e 10=.ptr q 1 0 0)∧(e 106=dLI s.track.nodes)∧(e 107=dI s.track.nodes.length)∧(e 108=dI j)∧(e 12=dI j)∧(e 13=dI kk)∧(e 119=dLI h.values[j])∧(e 120=dI h.values[j].length)∧(e 121=dI c)∧(H.get 0=some ⟨32,2,[t.c],false⟩)∧(0<H.next)∧(H.get 1=some ⟨61,25,[r.c],false⟩)∧(1<H.next)∧(H.get 2=some ⟨40,3,[h.c],false⟩)∧(2<H.next)∧(H.get a=some ⟨65,3,[M[i].c],false⟩)∧(a<H.next)∧(H.get q=some ⟨67,38,[s.c],false⟩)∧(q<H.next)∧(c≤h.values[j].length)):=⟨fun c e H=>_,fun _ _ _=>Iff.rfl⟩
      refine k6 I4 (fun c=>h.values[j].length - c) (0) ((hI4 _ _ _).2 ⟨?_,?_,?_,?_,?_,?_,?_,?_,?_,?_,?_,?_,?_,?_,?_,?_,?_,?_,?_,?_,?_,?_,?_,?_,?_,?_,?_,(by first|assumption|omega|(simp [go_sem,Dr26.c,Dr24.c,Dr15.c,Host.d,Host.c,Mat.d,Mat.c,Rule.d,Rule.c,Stp26.c,hm1,hMm,h10,aA h10,k1,k2,k3,F2,di1,h16,aA hjt,← hkk,h18,aA q1,aA q2,aA q3,aA q4,q5,cL];done)|(simp_all;done))⟩) ?_
      iterate 27 (first|omega|(simp [go_sem,seval,Dr26.c,Dr24.c,Dr15.c,Host.d,Host.c,Mat.d,Mat.c,Rule.d,Rule.c,Stp26.c,hm1,hMm,h10,aA h10,k1,k2,k3,F2,di1,h16,aA hjt,← hkk,h18,aA q1,aA q2,aA q3,aA q4,q5,cL]<;>omega))
      intro c e H hi4
      obtain ⟨q1_4,q3_4,q4_4,q5_4,q54_4,q55_4,q56_4,q9_4,q10_4,q106_4,q107_4,q108_4,q12_4,q13_4,q119_4,q120_4,q121_4,g0_4,n0_4,g1_4,n1_4,g2_4,n2_4,ga_4,na_4,gq_4,nq_4,hc⟩:=(hI4 _ _ _).1 hi4
      have x0:=b5 n0_4
      have x1:=b5 n1_4
      have x2:=b5 n2_4
      have xa:=b5 na_4
      have xq:=b5 nq_4
      have F4:=And.intro q1_4 (And.intro q3_4 (And.intro q4_4 (And.intro q5_4 (And.intro q54_4 (And.intro q55_4 (And.intro q56_4 (And.intro q9_4 (And.intro q10_4 (And.intro q106_4 (And.intro q107_4 (And.intro q108_4 (And.intro q12_4 (And.intro q13_4 (And.intro q119_4 (And.intro q120_4 (And.intro q121_4 (And.intro g0_4 (And.intro g1_4 (And.intro g2_4 (And.intro ga_4 (And.intro gq_4 (And.intro x0 (And.intro x1 (And.intro x2 (And.intro xa xq)))))))))))))))))))))))))
      have di2:=And.intro (cY (show q≠a by omega)) (And.intro (cY (show q≠2 by omega)) (And.intro (cY (show q≠1 by omega)) (And.intro (cY (show q≠0 by omega)) (And.intro (cY (show a≠2 by omega)) (And.intro (cY (show a≠1 by omega)) (And.intro (cY (show a≠0 by omega)) (And.intro (cY (show 2≠1 by omega)) (And.intro (cY (show 2≠0 by omega)) (cY (show 1≠0 by omega))))))))))
      try simp -implicitDefEqProofs [go_sem,seval,Dr26.c,Dr24.c,Dr15.c,Host.d,Host.c,Mat.d,Mat.c,Rule.d,Rule.c,Stp26.c,hm1,hMm,h10,aA h10,k1,k2,k3,di1,h16,aA hjt,← hkk,h18,aA q1,aA q2,aA q3,aA q4,q5,cL,F4,di2]
      refine aK (fun h20=>?_) (fun h20=>?_)
      ·try simp [go_sem] at h20
       have hca:c<s.after.values[kk.toNat].length:=by omega
       try simp -implicitDefEqProofs [go_sem,seval,Dr26.c,Dr24.c,Dr15.c,Host.d,Host.c,Mat.d,Mat.c,Rule.d,Rule.c,Stp26.c,hm1,hMm,h10,aA h10,k1,k2,k3,di1,h16,aA hjt,← hkk,h18,aA q1,aA q2,aA q3,aA q4,q5,cL,F4,di2,h20,aA h20,aA hca]
       repeat first|intro _|refine ⟨dQ,?_⟩
       obtain ⟨I6,hI6⟩:∃ I6:Nat→cX→AHeap→Prop,∀ (z:Nat) (e:cX) (H:AHeap),I6 z e H↔(∃ hb6:Bool,(e 1=.adr d.c)∧(e 3=.ptr 0 1 0 0)∧(e 4=.ptr 1 1 0 0)∧(e 5=.ptr 2 1 0 0)∧(e 54=.list (M.map Mat.c))∧(e 55=dI M.length)∧(e 56=dI i)∧(e 9=.ptr a 1 0 0)∧(e 10=.ptr q 1 0 0)∧(e 106=dLI s.track.nodes)∧(e 107=dI s.track.nodes.length)∧(e 108=dI j)∧(e 12=dI j)∧(e 13=dI kk)∧(e 119=dLI h.values[j])∧(e 120=dI h.values[j].length)∧(e 121=dI c)∧(e 14=dI c)∧(e 15=dI h.values[j][c])∧(e 16=.bool hb6)∧(e 128=.list (r.right.slots.map Slot.c))∧(e 129=dI r.right.slots.length)∧(e 130=dI z)∧(H.get 0=some ⟨32,2,[t.c],false⟩)∧(0<H.next)∧(H.get 1=some ⟨61,25,[r.c],false⟩)∧(1<H.next)∧(H.get 2=some ⟨40,3,[h.c],false⟩)∧(2<H.next)∧(H.get a=some ⟨65,3,[M[i].c],false⟩)∧(a<H.next)∧(H.get q=some ⟨67,38,[s.c],false⟩)∧(q<H.next)∧(z≤r.right.slots.length)∧(hb6=(r.right.slots.take z).any (QH s.comatch.nodes kk c))):=⟨fun z e H=>_,fun _ _ _=>Iff.rfl⟩
       refine k6 I6 (fun z=>r.right.slots.length - z) (0) ((hI6 _ _ _).2 ⟨(false),?_,?_,?_,?_,?_,?_,?_,?_,?_,?_,?_,?_,?_,?_,?_,?_,?_,?_,?_,?_,?_,?_,?_,?_,?_,?_,?_,?_,?_,?_,?_,?_,?_,(by first|assumption|omega|(simp [go_sem,Dr26.c,Dr24.c,Dr15.c,Host.d,Host.c,Mat.d,Mat.c,Rule.d,Rule.c,Stp26.c,hm1,hMm,h10,aA h10,k1,k2,k3,di1,h16,aA hjt,← hkk,h18,aA q1,aA q2,aA q3,aA q4,q5,cL,F4,di2,h20,aA h20,aA hca];done)|(simp_all;done)),(by rfl)⟩) ?_
       iterate 33 (first|omega|(simp [go_sem,seval,Dr26.c,Dr24.c,Dr15.c,Host.d,Host.c,Mat.d,Mat.c,Rule.d,Rule.c,Stp26.c,hm1,hMm,h10,aA h10,k1,k2,k3,di1,h16,aA hjt,← hkk,h18,aA q1,aA q2,aA q3,aA q4,q5,cL,F4,di2,h20,aA h20,aA hca]<;>omega))
       intro z e H hi6
       obtain ⟨hb6,q1_6,q3_6,q4_6,q5_6,q54_6,q55_6,q56_6,q9_6,q10_6,q106_6,q107_6,q108_6,q12_6,q13_6,q119_6,q120_6,q121_6,q14_6,q15_6,q16_6,q128_6,q129_6,q130_6,g0_6,n0_6,g1_6,n1_6,g2_6,n2_6,ga_6,na_6,gq_6,nq_6,hz,hh6⟩:=(hI6 _ _ _).1 hi6
       have x0:=b5 n0_6
       have x1:=b5 n1_6
       have x2:=b5 n2_6
       have xa:=b5 na_6
       have xq:=b5 nq_6
       have F6:=And.intro q1_6 (And.intro q3_6 (And.intro q4_6 (And.intro q5_6 (And.intro q54_6 (And.intro q55_6 (And.intro q56_6 (And.intro q9_6 (And.intro q10_6 (And.intro q106_6 (And.intro q107_6 (And.intro q108_6 (And.intro q12_6 (And.intro q13_6 (And.intro q119_6 (And.intro q120_6 (And.intro q121_6 (And.intro q14_6 (And.intro q15_6 (And.intro q16_6 (And.intro q128_6 (And.intro q129_6 (And.intro q130_6 (And.intro g0_6 (And.intro g1_6 (And.intro g2_6 (And.intro ga_6 (And.intro gq_6 (And.intro x0 (And.intro x1 (And.intro x2 (And.intro xa xq)))))))))))))))))))))))))))))))
       have di3:=And.intro (cY (show q≠a by omega)) (And.intro (cY (show q≠2 by omega)) (And.intro (cY (show q≠1 by omega)) (And.intro (cY (show q≠0 by omega)) (And.intro (cY (show a≠2 by omega)) (And.intro (cY (show a≠1 by omega)) (And.intro (cY (show a≠0 by omega)) (And.intro (cY (show 2≠1 by omega)) (And.intro (cY (show 2≠0 by omega)) (cY (show 1≠0 by omega))))))))))
       try simp -implicitDefEqProofs [go_sem,seval,Dr26.c,Dr24.c,Dr15.c,Host.d,Host.c,Mat.d,Mat.c,Rule.d,Rule.c,Stp26.c,hm1,hMm,h10,aA h10,k1,k2,k3,di1,h16,aA hjt,← hkk,h18,aA q1,aA q2,aA q3,aA q4,q5,cL,di2,h20,aA h20,aA hca,F6,di3]
       refine aK (fun h24=>?_) (fun h24=>?_)
       ·try simp [go_sem] at h24
        obtain ⟨⟨w1,w2⟩,w3,_⟩:=K.sl _ (aC h24)
        have hit:QH s.comatch.nodes kk c r.right.slots[z]=(decide (s.comatch.nodes[r.right.slots[z].node.toNat]=kk)&&r.right.slots[z].attr==(c:Int)):=by unfold QH;rw [aA w3,aD]
        try simp -implicitDefEqProofs [go_sem,seval,Dr26.c,Dr24.c,Dr15.c,Host.d,Host.c,Mat.d,Mat.c,Rule.d,Rule.c,Stp26.c,hm1,hMm,h10,aA h10,k1,k2,k3,di1,h16,aA hjt,← hkk,h18,aA q1,aA q2,aA q3,aA q4,q5,cL,di2,h20,aA h20,aA hca,F6,di3,h24,aA h24,aA w3,Slot.c,hit]
        repeat first|intro _|refine ⟨dQ,?_⟩
        refine cT (z+1) (by omega) ((hI6 _ _ _).2 ⟨((hb6||QH s.comatch.nodes kk c r.right.slots[z])),?_,?_,?_,?_,?_,?_,?_,?_,?_,?_,?_,?_,?_,?_,?_,?_,?_,?_,?_,?_,?_,?_,?_,?_,?_,?_,?_,?_,?_,?_,?_,?_,?_,(by first|assumption|omega|(simp [go_sem,Dr26.c,Dr24.c,Dr15.c,Host.d,Host.c,Mat.d,Mat.c,Rule.d,Rule.c,Stp26.c,hm1,hMm,h10,aA h10,k1,k2,k3,di1,h16,aA hjt,← hkk,h18,aA q1,aA q2,aA q3,aA q4,q5,cL,di2,h20,aA h20,aA hca,F6,di3,h24,aA h24,aA w3,Slot.c,hit,h4,h7];done)|(simp_all<;>omega)),(by (rw [hh6,aF h24,s7];simp))⟩)<;>first|omega|(simp [go_sem,seval,Dr26.c,Dr24.c,Dr15.c,Host.d,Host.c,Mat.d,Mat.c,Rule.d,Rule.c,Stp26.c,hm1,hMm,h10,aA h10,k1,k2,k3,di1,h16,aA hjt,← hkk,h18,aA q1,aA q2,aA q3,aA q4,q5,cL,di2,h20,aA h20,aA hca,F6,di3,h24,aA h24,aA w3,Slot.c,hit]<;>omega)
       ·try simp [go_sem] at h24
        rw [aP (by omega)] at hh6
        have hEq:hb6=false→s.after.values[kk.toNat][c]=h.values[j][c]:=fun hf=>q7 c h20 hca (by rw [← hh6];exact hf)
        by_cases hb0:hb6=true
        ·skip
         try simp -implicitDefEqProofs [go_sem,seval,Dr26.c,Dr24.c,Dr15.c,Host.d,Host.c,Mat.d,Mat.c,Rule.d,Rule.c,Stp26.c,hm1,hMm,h10,aA h10,k1,k2,k3,di1,h16,aA hjt,← hkk,h18,aA q1,aA q2,aA q3,aA q4,q5,cL,di2,h20,aA h20,aA hca,F6,di3,hb0]
         repeat first|intro _|refine ⟨dQ,?_⟩
         refine cT (c+1) (by omega) ((hI4 _ _ _).2 ⟨?_,?_,?_,?_,?_,?_,?_,?_,?_,?_,?_,?_,?_,?_,?_,?_,?_,?_,?_,?_,?_,?_,?_,?_,?_,?_,?_,(by first|assumption|omega|(simp [go_sem,Dr26.c,Dr24.c,Dr15.c,Host.d,Host.c,Mat.d,Mat.c,Rule.d,Rule.c,Stp26.c,hm1,hMm,h10,aA h10,k1,k2,k3,di1,h16,aA hjt,← hkk,h18,aA q1,aA q2,aA q3,aA q4,q5,cL,di2,h20,aA h20,aA hca,F6,di3,hb0,h4,h7,h24];done)|(simp_all<;>omega))⟩)<;>first|omega|(simp [go_sem,seval,Dr26.c,Dr24.c,Dr15.c,Host.d,Host.c,Mat.d,Mat.c,Rule.d,Rule.c,Stp26.c,hm1,hMm,h10,aA h10,k1,k2,k3,di1,h16,aA hjt,← hkk,h18,aA q1,aA q2,aA q3,aA q4,q5,cL,di2,h20,aA h20,aA hca,F6,di3,hb0]<;>omega)
        ·skip
         try simp -implicitDefEqProofs [go_sem,seval,Dr26.c,Dr24.c,Dr15.c,Host.d,Host.c,Mat.d,Mat.c,Rule.d,Rule.c,Stp26.c,hm1,hMm,h10,aA h10,k1,k2,k3,di1,h16,aA hjt,← hkk,h18,aA q1,aA q2,aA q3,aA q4,q5,cL,di2,h20,aA h20,aA hca,F6,di3,(hEq (by simpa using hb0))]
         repeat first|intro _|refine ⟨dQ,?_⟩
         refine cT (c+1) (by omega) ((hI4 _ _ _).2 ⟨?_,?_,?_,?_,?_,?_,?_,?_,?_,?_,?_,?_,?_,?_,?_,?_,?_,?_,?_,?_,?_,?_,?_,?_,?_,?_,?_,(by first|assumption|omega|(simp [go_sem,Dr26.c,Dr24.c,Dr15.c,Host.d,Host.c,Mat.d,Mat.c,Rule.d,Rule.c,Stp26.c,hm1,hMm,h10,aA h10,k1,k2,k3,di1,h16,aA hjt,← hkk,h18,aA q1,aA q2,aA q3,aA q4,q5,cL,di2,h20,aA h20,aA hca,F6,di3,(hEq (by simpa using hb0)),h4,h7,h24];done)|(simp_all<;>omega))⟩)<;>first|omega|(simp [go_sem,seval,Dr26.c,Dr24.c,Dr15.c,Host.d,Host.c,Mat.d,Mat.c,Rule.d,Rule.c,Stp26.c,hm1,hMm,h10,aA h10,k1,k2,k3,di1,h16,aA hjt,← hkk,h18,aA q1,aA q2,aA q3,aA q4,q5,cL,di2,h20,aA h20,aA hca,F6,di3,(hEq (by simpa using hb0))]<;>omega)
      ·try simp [go_sem] at h20
       try simp -implicitDefEqProofs [go_sem,seval,Dr26.c,Dr24.c,Dr15.c,Host.d,Host.c,Mat.d,Mat.c,Rule.d,Rule.c,Stp26.c,hm1,hMm,h10,aA h10,k1,k2,k3,di1,h16,aA hjt,← hkk,h18,aA q1,aA q2,aA q3,aA q4,q5,cL,F4,di2]
       repeat first|intro _|refine ⟨dQ,?_⟩
       refine cT (j+1) (by omega) ((hI2 _ _ _).2 ⟨(a),(q),?_,?_,?_,?_,?_,?_,?_,?_,?_,?_,?_,?_,?_,?_,?_,?_,?_,?_,?_,?_,?_,?_,(by first|assumption|omega|(simp [go_sem,Dr26.c,Dr24.c,Dr15.c,Host.d,Host.c,Mat.d,Mat.c,Rule.d,Rule.c,Stp26.c,hm1,hMm,h10,aA h10,k1,k2,k3,di1,h16,aA hjt,← hkk,h18,aA q1,aA q2,aA q3,aA q4,q5,cL,F4,di2,h4,h7,h20];done)|(simp_all<;>omega)),(by first|assumption|omega|(simp [go_sem,Dr26.c,Dr24.c,Dr15.c,Host.d,Host.c,Mat.d,Mat.c,Rule.d,Rule.c,Stp26.c,hm1,hMm,h10,aA h10,k1,k2,k3,di1,h16,aA hjt,← hkk,h18,aA q1,aA q2,aA q3,aA q4,q5,cL,F4,di2,h4,h7,h20];done)|(simp_all<;>omega))⟩)<;>first|omega|(simp [go_sem,seval,Dr26.c,Dr24.c,Dr15.c,Host.d,Host.c,Mat.d,Mat.c,Rule.d,Rule.c,Stp26.c,hm1,hMm,h10,aA h10,k1,k2,k3,di1,h16,aA hjt,← hkk,h18,aA q1,aA q2,aA q3,aA q4,q5,cL,F4,di2]<;>omega)
    ·try simp [go_sem] at h16
     try simp -implicitDefEqProofs [go_sem,seval,Dr26.c,Dr24.c,Dr15.c,Host.d,Host.c,Mat.d,Mat.c,Rule.d,Rule.c,Stp26.c,hm1,hMm,h10,aA h10,k1,k2,k3,F2,di1]
     repeat first|intro _|refine ⟨dQ,?_⟩
     obtain ⟨I8,hI8⟩:∃ I8:Nat→cX→AHeap→Prop,∀ (j:Nat) (e:cX) (H:AHeap),I8 j e H↔((e 1=.adr d.c)∧(e 3=.ptr 0 1 0 0)∧(e 4=.ptr 1 1 0 0)∧(e 5=.ptr 2 1 0 0)∧(e 54=.list (M.map Mat.c))∧(e 55=dI M.length)∧(e 56=dI i)∧(e 9=.ptr a 1 0 0)∧(e 10=.ptr q 1 0 0)∧(e 188=dLI s.track.edges)∧(e 189=dI s.track.edges.length)∧(e 190=dI j)∧(H.get 0=some ⟨32,2,[t.c],false⟩)∧(0<H.next)∧(H.get 1=some ⟨61,25,[r.c],false⟩)∧(1<H.next)∧(H.get 2=some ⟨40,3,[h.c],false⟩)∧(2<H.next)∧(H.get a=some ⟨65,3,[M[i].c],false⟩)∧(a<H.next)∧(H.get q=some ⟨67,38,[s.c],false⟩)∧(q<H.next)∧(j≤s.track.edges.length)):=⟨fun j e H=>_,fun _ _ _=>Iff.rfl⟩
     refine k6 I8 (fun j=>s.track.edges.length - j) (0) ((hI8 _ _ _).2 ⟨?_,?_,?_,?_,?_,?_,?_,?_,?_,?_,?_,?_,?_,?_,?_,?_,?_,?_,?_,?_,?_,?_,(by first|assumption|omega|(simp [go_sem,Dr26.c,Dr24.c,Dr15.c,Host.d,Host.c,Mat.d,Mat.c,Rule.d,Rule.c,Stp26.c,hm1,hMm,h10,aA h10,k1,k2,k3,F2,di1];done)|(simp_all;done))⟩) ?_
     iterate 22 (first|omega|(simp [go_sem,seval,Dr26.c,Dr24.c,Dr15.c,Host.d,Host.c,Mat.d,Mat.c,Rule.d,Rule.c,Stp26.c,hm1,hMm,h10,aA h10,k1,k2,k3,F2,di1]<;>omega))
     intro j e H hi8
     obtain ⟨q1_8,q3_8,q4_8,q5_8,q54_8,q55_8,q56_8,q9_8,q10_8,q188_8,q189_8,q190_8,g0_8,n0_8,g1_8,n1_8,g2_8,n2_8,ga_8,na_8,gq_8,nq_8,hj8⟩:=(hI8 _ _ _).1 hi8
     have x0:=b5 n0_8
     have x1:=b5 n1_8
     have x2:=b5 n2_8
     have xa:=b5 na_8
     have xq:=b5 nq_8
     have F8:=And.intro q1_8 (And.intro q3_8 (And.intro q4_8 (And.intro q5_8 (And.intro q54_8 (And.intro q55_8 (And.intro q56_8 (And.intro q9_8 (And.intro q10_8 (And.intro q188_8 (And.intro q189_8 (And.intro q190_8 (And.intro g0_8 (And.intro g1_8 (And.intro g2_8 (And.intro ga_8 (And.intro gq_8 (And.intro x0 (And.intro x1 (And.intro x2 (And.intro xa xq))))))))))))))))))))
     have di4:=And.intro (cY (show q≠a by omega)) (And.intro (cY (show q≠2 by omega)) (And.intro (cY (show q≠1 by omega)) (And.intro (cY (show q≠0 by omega)) (And.intro (cY (show a≠2 by omega)) (And.intro (cY (show a≠1 by omega)) (And.intro (cY (show a≠0 by omega)) (And.intro (cY (show 2≠1 by omega)) (And.intro (cY (show 2≠0 by omega)) (cY (show 1≠0 by omega))))))))))
     try simp -implicitDefEqProofs [go_sem,seval,Dr26.c,Dr24.c,Dr15.c,Host.d,Host.c,Mat.d,Mat.c,Rule.d,Rule.c,Stp26.c,hm1,hMm,h10,aA h10,k1,k2,k3,di1,F8,di4]
     refine aK (fun h33=>?_) (fun h33=>?_)
     ·try simp [go_sem] at h33
      have hje:j<h.graph.edges.length:=by omega
      have hjt:j<s.track.edges.length:=by omega
      obtain ⟨te,hte⟩:∃ te,te=s.track.edges[j]:=⟨_,rfl⟩
      obtain ⟨xx,hxx⟩:∃ xx,xx=h.graph.edges[j]:=⟨_,rfl⟩
      have hee:=K.ee _ (aC hje)
      rw [← hxx] at hee
      obtain ⟨f0,t0,f1,t1⟩:=hee
      have f2:xx.from_.toNat<h.graph.nodes.length:=by omega
      have t2:xx.to_.toNat<h.graph.nodes.length:=by omega
      have f3:xx.from_<(h.graph.nodes.length:Int):=by omega
      have t3:xx.to_<(h.graph.nodes.length:Int):=by omega
      obtain ⟨y,hy⟩:∃ y:Edge,(Option.map Edge.c s.after.graph.edges[te.toNat]?).getD [.int .i64 0,.int .i64 0,.int .i64 0]=y.c:=by
       cases s.after.graph.edges[te.toNat]? with
       | none=>exact ⟨⟨0,0,0⟩,rfl⟩
       | some y=>exact ⟨y,rfl⟩
      have hEd:¬ 0≤te∨((0≤te∧te<(s.after.graph.edges.length:Int))∧∃ q:te.toNat<s.after.graph.edges.length,s.after.graph.edges[te.toNat]=⟨xx.type,s.track.nodes[xx.from_.toNat],s.track.nodes[xx.to_.toNat]⟩):=by
       by_cases h0:0≤te
       ·right
        obtain ⟨a1,a2,a3,a4,a5⟩:=K.ed j hjt (by rw [← hte];exact h0)
        simp only [← hte,← hxx] at a1 a3 a4 a5
        exact ⟨⟨h0,by omega⟩,a1,a5⟩
       ·left;exact h0
      rcases hEd with hc|hc
      ·skip
       try simp -implicitDefEqProofs [go_sem,seval,Dr26.c,Dr24.c,Dr15.c,Host.d,Host.c,Mat.d,Mat.c,Rule.d,Rule.c,Stp26.c,hm1,hMm,h10,aA h10,k1,k2,k3,di1,F8,di4,h33,aA hjt,aA hje,← hte,← hxx,Edge.c,f0,t0,f1,t1,f2,t2,f3,t3,hy,hc]
       repeat first|intro _|refine ⟨dQ,?_⟩
       refine cT (j+1) (by omega) ((hI8 _ _ _).2 ⟨?_,?_,?_,?_,?_,?_,?_,?_,?_,?_,?_,?_,?_,?_,?_,?_,?_,?_,?_,?_,?_,?_,(by first|assumption|omega|(simp [go_sem,Dr26.c,Dr24.c,Dr15.c,Host.d,Host.c,Mat.d,Mat.c,Rule.d,Rule.c,Stp26.c,hm1,hMm,h10,aA h10,k1,k2,k3,di1,F8,di4,h33,aA hjt,aA hje,← hte,← hxx,Edge.c,f0,t0,f1,t1,f2,t2,f3,t3,hy,hc,h4,h7,h16];done)|(simp_all<;>omega))⟩)<;>first|omega|(simp [go_sem,seval,Dr26.c,Dr24.c,Dr15.c,Host.d,Host.c,Mat.d,Mat.c,Rule.d,Rule.c,Stp26.c,hm1,hMm,h10,aA h10,k1,k2,k3,di1,F8,di4,h33,aA hjt,aA hje,← hte,← hxx,Edge.c,f0,t0,f1,t1,f2,t2,f3,t3,hy,hc]<;>omega)
      ·skip
       try simp -implicitDefEqProofs [go_sem,seval,Dr26.c,Dr24.c,Dr15.c,Host.d,Host.c,Mat.d,Mat.c,Rule.d,Rule.c,Stp26.c,hm1,hMm,h10,aA h10,k1,k2,k3,di1,F8,di4,h33,aA hjt,aA hje,← hte,← hxx,Edge.c,f0,t0,f1,t1,f2,t2,f3,t3,hy,hc.1,hc.2.choose,hc.2.choose_spec]
       repeat first|intro _|refine ⟨dQ,?_⟩
       refine cT (j+1) (by omega) ((hI8 _ _ _).2 ⟨?_,?_,?_,?_,?_,?_,?_,?_,?_,?_,?_,?_,?_,?_,?_,?_,?_,?_,?_,?_,?_,?_,(by first|assumption|omega|(simp [go_sem,Dr26.c,Dr24.c,Dr15.c,Host.d,Host.c,Mat.d,Mat.c,Rule.d,Rule.c,Stp26.c,hm1,hMm,h10,aA h10,k1,k2,k3,di1,F8,di4,h33,aA hjt,aA hje,← hte,← hxx,Edge.c,f0,t0,f1,t1,f2,t2,f3,t3,hy,hc.1,hc.2.choose,hc.2.choose_spec,h4,h7,h16];done)|(simp_all<;>omega))⟩)<;>first|omega|(simp [go_sem,seval,Dr26.c,Dr24.c,Dr15.c,Host.d,Host.c,Mat.d,Mat.c,Rule.d,Rule.c,Stp26.c,hm1,hMm,h10,aA h10,k1,k2,k3,di1,F8,di4,h33,aA hjt,aA hje,← hte,← hxx,Edge.c,f0,t0,f1,t1,f2,t2,f3,t3,hy,hc.1,hc.2.choose,hc.2.choose_spec]<;>omega)
     ·try simp [go_sem] at h33
      try simp -implicitDefEqProofs [go_sem,seval,Dr26.c,Dr24.c,Dr15.c,Host.d,Host.c,Mat.d,Mat.c,Rule.d,Rule.c,Stp26.c,hm1,hMm,h10,aA h10,k1,k2,k3,di1,F8,di4]
      repeat first|intro _|refine ⟨dQ,?_⟩
      obtain ⟨I10,hI10⟩:∃ I10:Nat→cX→AHeap→Prop,∀ (z:Nat) (e:cX) (H:AHeap),I10 z e H↔((e 1=.adr d.c)∧(e 3=.ptr 0 1 0 0)∧(e 4=.ptr 1 1 0 0)∧(e 5=.ptr 2 1 0 0)∧(e 54=.list (M.map Mat.c))∧(e 55=dI M.length)∧(e 56=dI i)∧(e 9=.ptr a 1 0 0)∧(e 10=.ptr q 1 0 0)∧(e 233=.list (r.right.slots.map Slot.c))∧(e 234=dI r.right.slots.length)∧(e 235=dI z)∧(H.get 0=some ⟨32,2,[t.c],false⟩)∧(0<H.next)∧(H.get 1=some ⟨61,25,[r.c],false⟩)∧(1<H.next)∧(H.get 2=some ⟨40,3,[h.c],false⟩)∧(2<H.next)∧(H.get a=some ⟨65,3,[M[i].c],false⟩)∧(a<H.next)∧(H.get q=some ⟨67,38,[s.c],false⟩)∧(q<H.next)∧(z≤r.right.slots.length)):=⟨fun z e H=>_,fun _ _ _=>Iff.rfl⟩
      refine k6 I10 (fun z=>r.right.slots.length - z) (0) ((hI10 _ _ _).2 ⟨?_,?_,?_,?_,?_,?_,?_,?_,?_,?_,?_,?_,?_,?_,?_,?_,?_,?_,?_,?_,?_,?_,(by first|assumption|omega|(simp [go_sem,Dr26.c,Dr24.c,Dr15.c,Host.d,Host.c,Mat.d,Mat.c,Rule.d,Rule.c,Stp26.c,hm1,hMm,h10,aA h10,k1,k2,k3,di1,F8,di4];done)|(simp_all;done))⟩) ?_
      iterate 22 (first|omega|(simp [go_sem,seval,Dr26.c,Dr24.c,Dr15.c,Host.d,Host.c,Mat.d,Mat.c,Rule.d,Rule.c,Stp26.c,hm1,hMm,h10,aA h10,k1,k2,k3,di1,F8,di4]<;>omega))
      intro z e H hi10
      obtain ⟨q1_10,q3_10,q4_10,q5_10,q54_10,q55_10,q56_10,q9_10,q10_10,q233_10,q234_10,q235_10,g0_10,n0_10,g1_10,n1_10,g2_10,n2_10,ga_10,na_10,gq_10,nq_10,hz⟩:=(hI10 _ _ _).1 hi10
      have x0:=b5 n0_10
      have x1:=b5 n1_10
      have x2:=b5 n2_10
      have xa:=b5 na_10
      have xq:=b5 nq_10
      have F10:=And.intro q1_10 (And.intro q3_10 (And.intro q4_10 (And.intro q5_10 (And.intro q54_10 (And.intro q55_10 (And.intro q56_10 (And.intro q9_10 (And.intro q10_10 (And.intro q233_10 (And.intro q234_10 (And.intro q235_10 (And.intro g0_10 (And.intro g1_10 (And.intro g2_10 (And.intro ga_10 (And.intro gq_10 (And.intro x0 (And.intro x1 (And.intro x2 (And.intro xa xq))))))))))))))))))))
      have di5:=And.intro (cY (show q≠a by omega)) (And.intro (cY (show q≠2 by omega)) (And.intro (cY (show q≠1 by omega)) (And.intro (cY (show q≠0 by omega)) (And.intro (cY (show a≠2 by omega)) (And.intro (cY (show a≠1 by omega)) (And.intro (cY (show a≠0 by omega)) (And.intro (cY (show 2≠1 by omega)) (And.intro (cY (show 2≠0 by omega)) (cY (show 1≠0 by omega))))))))))
      try simp -implicitDefEqProofs [go_sem,seval,Dr26.c,Dr24.c,Dr15.c,Host.d,Host.c,Mat.d,Mat.c,Rule.d,Rule.c,Stp26.c,hm1,hMm,h10,aA h10,k1,k2,k3,di1,di4,F10,di5]
      refine aK (fun h40=>?_) (fun h40=>?_)
      ·try simp [go_sem] at h40
       obtain ⟨⟨w1,w2⟩,w3,w4,w5,w6,w7,w8⟩:=K.sl _ (aC h40)
       try simp -implicitDefEqProofs [go_sem,seval,Dr26.c,Dr24.c,Dr15.c,Host.d,Host.c,Mat.d,Mat.c,Rule.d,Rule.c,Stp26.c,hm1,hMm,h10,aA h10,k1,k2,k3,di1,di4,F10,di5,h40,aA h40,aA w3,aA w4,aA w5,Slot.c,Term.c,cL,w8]
       repeat first|intro _|refine ⟨dQ,?_⟩
       refine aB (NJ r.right.slots[z].term M[i].vars (K.tm _ (aC h40)) K.vs) ((by first|rfl|(simp [go_sem,← List.map_take,← List.map_drop,Dr26.c,Dr24.c,Dr15.c,Host.d,Host.c,Mat.d,Mat.c,Rule.d,Rule.c,Stp26.c,hm1,hMm,h10,aA h10,k1,k2,k3,di1,di4,F10,di5,h40,aA h40,aA w3,aA w4,aA w5,Slot.c,Term.c,cL,w8];done))) ?_
       try simp -implicitDefEqProofs [go_sem,seval,Dr26.c,Dr24.c,Dr15.c,Host.d,Host.c,Mat.d,Mat.c,Rule.d,Rule.c,Stp26.c,hm1,hMm,h10,aA h10,k1,k2,k3,di1,di4,F10,di5,h40,aA h40,aA w3,aA w4,aA w5,Slot.c,Term.c,cL,w8]
       repeat first|intro _|refine ⟨dQ,?_⟩
       refine cT (z+1) (by omega) ((hI10 _ _ _).2 ⟨?_,?_,?_,?_,?_,?_,?_,?_,?_,?_,?_,?_,?_,?_,?_,?_,?_,?_,?_,?_,?_,?_,(by first|assumption|omega|(simp [go_sem,Dr26.c,Dr24.c,Dr15.c,Host.d,Host.c,Mat.d,Mat.c,Rule.d,Rule.c,Stp26.c,hm1,hMm,h10,aA h10,k1,k2,k3,di1,di4,F10,di5,h40,aA h40,aA w3,aA w4,aA w5,Slot.c,Term.c,cL,w8,h4,h7,h16,h33];done)|(simp_all<;>omega))⟩)<;>first|omega|(simp [go_sem,seval,Dr26.c,Dr24.c,Dr15.c,Host.d,Host.c,Mat.d,Mat.c,Rule.d,Rule.c,Stp26.c,hm1,hMm,h10,aA h10,k1,k2,k3,di1,di4,F10,di5,h40,aA h40,aA w3,aA w4,aA w5,Slot.c,Term.c,cL,w8]<;>omega)
      ·try simp [go_sem] at h40
       try simp -implicitDefEqProofs [go_sem,seval,Dr26.c,Dr24.c,Dr15.c,Host.d,Host.c,Mat.d,Mat.c,Rule.d,Rule.c,Stp26.c,hm1,hMm,h10,aA h10,k1,k2,k3,di1,di4,F10,di5]
       repeat first|intro _|refine ⟨dQ,?_⟩
       refine cT (i+1) (by omega) ((hI0 _ _ _).2 ⟨?_,?_,?_,?_,?_,?_,?_,?_,?_,?_,?_,?_,?_,(by first|assumption|omega|(simp [go_sem,Dr26.c,Dr24.c,Dr15.c,Host.d,Host.c,Mat.d,Mat.c,Rule.d,Rule.c,Stp26.c,hm1,hMm,h10,aA h10,k1,k2,k3,di1,di4,F10,di5,h4,h7,h16,h33,h40];done)|(simp_all<;>omega))⟩)<;>first|omega|(simp [go_sem,seval,Dr26.c,Dr24.c,Dr15.c,Host.d,Host.c,Mat.d,Mat.c,Rule.d,Rule.c,Stp26.c,hm1,hMm,h10,aA h10,k1,k2,k3,di1,di4,F10,di5]<;>omega)
   ·try simp [go_sem] at h10
    try simp -implicitDefEqProofs [go_sem,seval,Dr26.c,Dr24.c,Dr15.c,Host.d,Host.c,Mat.d,Mat.c,Rule.d,Rule.c,Stp26.c,hm1,hMm,F0]
    exact hQ _ _ (by simp [go_sem,Dr26.c,Dr24.c,Dr15.c,Host.d,Host.c,Mat.d,Mat.c,Rule.d,Rule.c,Stp26.c,hm1,hMm,F0,h4,h7,h10]<;>first|omega|(rw [aS];simp<;>omega)|(simp_all<;>omega))
theorem WA {t:Types}{r:Rule}{h:Host}{m:Mat}(K:StepOk t r h m):RemOk r h m (sK t r h m):=by
 have hMat:=Im K.S K.pre
 have l1:(dC r h m).nodes.length=h.graph.nodes.length:=lO _ _
 have l2:(dC r h m).edges.length=h.graph.edges.length:=lO _ _
 have l3:(gM r h m).nodes.length=r.right.graph.nodes.length:=by simp [gM,Kt]
 have hvl:=K.S.ho.vl
 have hin:=dL K.S.ho.gg
 have key:∀ {l:List Int} {j:Nat} (hj:j<l.length),iA l (j:Int)=l[j]:=fun {l j} hj=>by
  unfold iA
  rw [show ((j:Int)).toNat=j by omega,aA hj];rfl
 refine ⟨l1,l2,l3,hvl,fun j hj h0=>?_,fun j hj h0=>?_,fun x hx=>?_,fun x hx=>?_,fun x hx=>?_,fun v hv=>by have:=hMat.vs v hv;omega⟩
 ·change j<(dC r h m).nodes.length at hj
  change 0≤(dC r h m).nodes[j] at h0
  have hjn:j<h.graph.nodes.length:=by omega
  have R:=K.remN hjn (by rw [key hj];exact h0)
  rw [key hj] at R
  obtain ⟨n1,n2,v1,v2,v3⟩:=R
  have hjv:j<h.values.length:=by omega
  refine ⟨n1,hjn,v1,hjv,?_,?_,fun a ha hb hf=>?_⟩
  ·rw [aA n1,aA hjn] at n2;exact n2
  ·rw [aA v1,aA hjv] at v2;exact v2
  ·have:=v3 a (by rw [aA hjv];exact ha) (fun s hs hc=>by
    rw [gI] at hf
    refine hf s hs ?_
    unfold QH
    simp only [aJ,decide_eq_true_eq,beq_iff_eq]
    exact hc)
   have hb':a<((fO t r h m).values[((dC r h m).nodes[j]).toNat]).length:=hb
   rw [aA v1,aA hjv,aD,aD,aA hb',aA ha] at this
   exact this
 ·change j<(dC r h m).edges.length at hj
  change 0≤(dC r h m).edges[j] at h0
  have hjn:j<h.graph.edges.length:=by omega
  have R:=K.remE hjn (by rw [key hj];exact h0)
  rw [key hj] at R
  have hx:=hin.2 _ (aC hjn)
  have he:eA h.graph (j:Int)=h.graph.edges[j]:=Pv hjn
  have hf:h.graph.edges[j].from_.toNat<(dC r h m).nodes.length:=by omega
  have ht:h.graph.edges[j].to_.toNat<(dC r h m).nodes.length:=by omega
  refine ⟨R.1,hjn,hf,ht,?_⟩
  have h2:=R.2
  unfold eA at h2 he
  rw [aA R.1,he] at h2
  have k1:iA (dC r h m).nodes h.graph.edges[j].from_=(dC r h m).nodes[h.graph.edges[j].from_.toNat]:=by unfold iA;rw [aA hf];rfl
  have k2:iA (dC r h m).nodes h.graph.edges[j].to_=(dC r h m).nodes[h.graph.edges[j].to_.toNat]:=by unfold iA;rw [aA ht];rfl
  rw [k1,k2] at h2
  exact h2
 ·have:=(hin.2 x hx).2;exact ⟨this.1.1,this.2.1,by show x.from_.toNat<(dC r h m).nodes.length;omega,by show x.to_.toNat<(dC r h m).nodes.length;omega⟩
 ·obtain ⟨⟨a1,a2⟩,⟨b1,b2⟩,c⟩:=K.remS hx
  have hn:=(K.S.hR.slots x hx).1
  have h1:x.node.toNat<(gM r h m).nodes.length:=by omega
  have e:jI (gM r h m) x=(gM r h m).nodes[x.node.toNat]:=by unfold jI;rw [aA h1];rfl
  have es:fI (gM r h m) x=((gM r h m).nodes[x.node.toNat]).toNat:=by rw [kT,e]
  rw [es] at a2 b2 c
  rw [e] at a1
  rw [aA a2,aD] at b2 c
  have h3:x.attr.toNat<((fO t r h m).values[((gM r h m).nodes[x.node.toNat]).toNat]).length:=by omega
  rw [aA h3,aD] at c
  exact ⟨⟨hn.1,by show x.node<((gM r h m).nodes.length:Int);omega⟩,h1,a2,h3,a1,b1,c⟩
 ·have:=(K.S.hR.slots x hx).2.2
  rw [hMat.vl];exact this
theorem Bt (d:Dr26):Pure Tryz.prog 6 [.agg d.c] (.bool true):=by
 have hT:MadeTy (pG d):=JK _ _
 have hr0:ruleF (pG d) (pM d)=0:=xI hT _
 have hh0:fR (pG d) (o7 d)=0:=xJ hT _
 have hrl:(pM d).le:=CG _ _
 have hO:light26 (pG d) (pM d) (o7 d)=true→(pM d).ok:=fun hb=>(Aq hb).2
 have hK:light26 (pG d) (pM d) (o7 d)=true→∀ m∈(n7 (pG d) (pM d) (o7 d)).1,StepOk (pG d) (pM d) (o7 d) m:=fun hb m hm=>No (HW (hO hb) hr0) (qO hh0) (BU hm).2
 have hH:=qO hh0
 have hle:=cC hH.gg
 obtain ⟨q1,q2⟩:graphF (pM d).right.graph=0∧(pM d).right.slots.length≤10:=by
  have C:=J1 hT (nS d.rule)
  have hs:=A2 (pG d) (dF (pG d) (nS d.rule).left).vars (mB (pG d) (nS d.rule)).nodes (nS d.rule).slots
  unfold pM lV
  split
  ·exact ⟨C.gR,by show ([]:List Slot).length≤10;simp⟩
  ·refine ⟨C.gR,?_⟩
   show (mS (pG d) (mB (pG d) (nS d.rule)).nodes (dF (pG d) (nS d.rule).left).vars (nS d.rule).slots).length≤10
   unfold mS
   split
   ·have:=hs 0;omega
   ·have:=hs (min (nS d.rule).slots.length 3);omega
 have q3:=cC q1
 exact FY d (pG d) (pM d) (o7 d) (n7 (pG d) (pM d) (o7 d)).1 (n7 (pG d) (pM d) (o7 d)).2 (light26 (pG d) (pM d) (o7 d)) (sK (pG d) (pM d) (o7 d))
  (by have:=Kf (pG d) (pM d) (o7 d);omega) (Ag d) (uS _ (xH hT) _ hrl _) (fun hb=>l7 _ hT.fine.ok _ (hO hb) _) (fun hb=>CC (hO hb) hr0 hh0)
  (fun hb _ m hm=>AL hT.fine.ok (hO hb) hm) (fun hb _ m hm=>WA (hK hb m hm)) (by omega)
end Go.Abs
end
