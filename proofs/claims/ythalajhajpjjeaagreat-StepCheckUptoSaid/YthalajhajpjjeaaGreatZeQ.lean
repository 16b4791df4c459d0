/- Layer 26, the plain law: what is after a step. · Layer 26, t -/
import Derived.Test.YthalajhajpjjeaaGreatZeN
import Derived.Test.YthalajhajpjjeaaGreatZeP
import Derived.Test.YthalajhajpjjeaaGreatZeF
import Derived.Test.YthalajhajpjjeaaGreatZeA
import Derived.Test.YthalajhajpjjeaaGreatZeE
import Derived.Carry
import Derived.ChangeArms
import Derived.WideShapes
import Derived.DataElems
set_option linter.unusedVariables false
set_option linter.unusedSimpArgs false
section
set_option maxRecDepth 100000
set_option maxHeartbeats 4000000
open Go Go.Proofs
namespace Go.Abs
theorem G8 {l:List Int}(hn:l.Nodup){p:Nat}(hp:p<l.length):∀ n,n≤l.length→gF l n l[p]=if p<n then (p:Int) else -1
 | 0,_=>rfl
 | n+1,h=>by
  rw [nW,G8 hn hp n (by omega),aA (by omega),aD]
  by_cases he:n=p
  ·subst he;rw [if_pos rfl,if_pos (by omega)]
  ·rw [if_neg (fun e=>he ((qQ hn).1 e))]
   by_cases h2:p<n
   ·rw [if_pos h2,if_pos (by omega)]
   ·rw [if_neg h2,if_neg (by omega)]
theorem wO {l:List Int}(hn:l.Nodup){p:Nat}(hp:p<l.length):gF l l.length l[p]=p:=by rw [G8 hn hp _ (bC _),if_pos hp]
theorem xH {l:List Int}{v:Int}(h:v∉l):∀ n,n≤l.length→gF l n v = -1
 | 0,_=>rfl
 | n+1,hl=>by
  rw [nW,xH h n (by omega),aA (by omega),aD,if_neg]
  exact fun e=>h (e ▸ aC _)
theorem G9 {l:List Int}(hn:l.Nodup)(v:Int):decide (gF l l.length v<0) = !mem l v:=by
 by_cases h:v∈l
 ·obtain ⟨p,hp,rfl⟩:=aO h
  rw [wO hn hp,(c6 _ _).2 h];simp
 ·rw [xH h _ (bC _),bH.2 fun hm=>h ((c6 _ _).1 hm)];rfl
theorem MO {l:List Int}(hn:l.Nodup)(i:Nat):yU l i=(b5 l i).length:=by
 unfold yU b5
 rw [bW]
 congr 1
 exact List.filter_congr fun j _=>G9 hn j
theorem Gr {l:List Int}:∀ (n j:Nat),j<n→mem l j=false→(b5 l n)[(b5 l j).length]?=some (j:Int)
 | n+1,j,hj,hm=>by
  rw [mQ]
  by_cases h:j=n
  ·subst h
   rw [if_neg (by rw [hm];simp),aZ (bC _)];simp
  ·have:=Gr n j (by omega) hm
   rw [aS (aL.1 this).1];exact this
theorem BB {l:List Int}(h:l.Pairwise (· < ·)):l.Nodup:=h.imp fun h=>by omega
structure StepIn (t:Types) (r:Rule) (h:Host) (m:Mat):Prop where
 hR:RuleV t r
 ho:HostOk t h
 hm:MOk t r.left.graph h.graph m.m
 hc:o8 (oL r.left.graph h.graph m.m) h.graph r.keep m.m=0
section
variable {t:Types} {r:Rule} {h:Host} {m:Mat}
theorem Lb (hR:RuleV t r)(ho:HostOk t h)(hp:oT t r h m=0):StepIn t r h m:=by
 unfold oT at hp
 split at hp
 ·cases hp
 ·rename_i h1
  split at hp
  ·exact absurd hp (by assumption)
  ·split at hp
   ·cases hp
   ·exact ⟨hR,ho,p9 (pR (by simpa using h1)).2,hp⟩
theorem StepIn.rest (S:StepIn t r h m):b4 r h m=⟨b5 (jA m.m.nodes r.keep.nodes) h.graph.nodes.length,b5 (jA m.m.edges r.keep.edges) h.graph.edges.length⟩:=by unfold b4 qE;rw [if_pos S.hc]
theorem StepIn.sub (S:StepIn t r h m):subF h.graph (b4 r h m)=0:=QA S.hc
theorem StepIn.nasc (S:StepIn t r h m):(b4 r h m).nodes.Pairwise (· < ·):=by rw [S.rest];exact rF _ _
theorem StepIn.easc (S:StepIn t r h m):(b4 r h m).edges.Pairwise (· < ·):=by rw [S.rest];exact rF _ _
theorem StepIn.nin (S:StepIn t r h m):∀ x∈(b4 r h m).nodes,0≤x∧x<h.graph.nodes.length:=(wV S.sub).2.2.1
theorem StepIn.ein (S:StepIn t r h m):∀ x∈(b4 r h m).edges,0≤x∧x<h.graph.edges.length:=(wV S.sub).2.2.2
theorem StepIn.len (S:StepIn t r h m):(b4 r h m).nodes.length≤40∧(b4 r h m).edges.length≤80:=by
 have hg:=bK S.ho.gg
 have h1:=PF S.nasc S.nin
 have h2:=PF S.easc S.ein
 omega
theorem StepIn.dup (S:StepIn t r h m):qC m.m.nodes r.keep.nodes=[]∧qC m.m.edges r.keep.edges=[]:=⟨(Ih S.hc).2.2.1,(Ih S.hc).2.2.2.1⟩
theorem StepIn.keptN (S:StepIn t r h m){k:Int}(hk:k∈r.keep.nodes):iA m.m.nodes k∈(b4 r h m).nodes:=by
 have hK:=S.hR.keep
 have hl:=S.hm.len
 have hr:=hK.2.1 k hk
 have h1:=w6 S.dup.1 hr.1 (by omega) hk
 rw [S.rest]
 have h2:=(S.hm.img k.toNat (by omega) (by omega)).1
 have e:iA m.m.nodes k=m.m.nodes[k.toNat]'(by omega):=by unfold iA;rw [aA (by omega)];rfl
 exact kU.2 ⟨by rw [e];exact h2,h1⟩
theorem StepIn.bareN (S:StepIn t r h m):(cJ t r h m).graph.nodes=(b4 r h m).nodes.map (gN h.graph)++r.freshN.map (gN r.right.graph):=by
 unfold cJ iO bY;rw [if_pos S.sub]
theorem StepIn.bareE (S:StepIn t r h m):(cJ t r h m).graph.edges=(b4 r h m).edges.map (gEd h.graph (b4 r h m))++r.freshE.map (fun k=>freshE (nU r h m) (r.right.graph.edges[k.toNat]?.getD bS)):=by
 unfold cJ iO bY;rw [if_pos S.sub]
theorem Ra:(cJ t r h m).values=(b4 r h m).nodes.map (fun k=>h.values[k.toNat]?.getD [])++r.freshN.map (fun k=>lY t (gN r.right.graph k)):=rfl
theorem StepIn.intoN (S:StepIn t r h m):r.into.nodes.Nodup∧r.into.edges.Nodup:=by
 have:=S.hR.inj
 unfold Eg at this
 simp only [aM,decide_eq_true_eq] at this
 exact this.2
theorem StepIn.kept_type (S:StepIn t r h m){p:Nat}(hp:p<r.into.nodes.length)(hq:p<r.keep.nodes.length):gN r.right.graph r.into.nodes[p]=gN r.left.graph r.keep.nodes[p]:=by
 have e1:(bY r.left.graph r.keep).nodes.length=r.keep.nodes.length:=by unfold bY;rw [if_pos S.hR.sub];simp
 have hmn:=(LH S.hR.mo (i:=(p:Int)) (by omega) (by omega)).2
 rw [Ig S.hR.sub (by omega) (by omega)] at hmn
 simpa [iA,aA hp,aA hq] using hmn
theorem StepIn.com (S:StepIn t r h m){i:Nat}(hi:i<r.right.graph.nodes.length):∃ n:Nat,(nU r h m).nodes[i]?=some (n:Int)∧∃ hn:n<(cJ t r h m).graph.nodes.length,uD t r.right.graph.nodes[i] ((cJ t r h m).graph.nodes[n])=true:=by
 obtain ⟨hK1,hK2,hK3,hK4,hK5⟩:=S.hR.keep
 have hml:=S.hm.len
 have hin:=S.intoN.1
 have hcm:(nU r h m).nodes[i]?=some (G0 r.keep.nodes r.into.nodes (nD m.m.nodes (lU r h m).nodes) (b4 r h m).nodes.length i):=by
  unfold nU CQ;simp [hi]
 rw [hcm]
 have hb:=S.bareN
 have hvt:=lN S.hR.vf
 have hri:=(l6 S.hR.gr S.hR.tr).1 _ (aC hi)
 by_cases hm:(i:Int)∈r.into.nodes
 ·obtain ⟨p,hp,he⟩:=aO hm
  have hq:p<r.keep.nodes.length:=by omega
  have hkr:=hK2 _ (aC hq)
  have hkm:r.keep.nodes[p].toNat<m.m.nodes.length:=by omega
  have hD:=S.keptN (aC hq)
  obtain ⟨n,hn,hne⟩:=aO hD
  have hv:=S.nin _ (aC hn)
  have hiA:iA m.m.nodes r.keep.nodes[p]=m.m.nodes[r.keep.nodes[p].toNat]:=by unfold iA;rw [aA hkm];rfl
  have hco:G0 r.keep.nodes r.into.nodes (nD m.m.nodes (lU r h m).nodes) (b4 r h m).nodes.length i=n:=by
   unfold G0
   rw [← he,wO hin hp,if_pos (by omega)]
   rw [show (p:Int).toNat=p by omega,aA hq,aD]
   unfold nD lU pV
   rw [aR,aA hkm,eM,aD]
   rw [← hiA,← hne]
   simp only
   rw [xG _ (by omega),aD,show (((b4 r h m).nodes[n].toNat:Nat):Int)=(b4 r h m).nodes[n] by omega,wO (BB S.nasc) hn]
  refine ⟨n,by rw [hco],by rw [hb];simp;omega,?_⟩
  have hty:=S.kept_type hp hq
  rw [he] at hty
  have hgr:gN r.right.graph (i:Int)=r.right.graph.nodes[i]:=by simp [gN,aA hi]
  have hkl:r.keep.nodes[p].toNat<r.left.graph.nodes.length:=by omega
  have hgl:gN r.left.graph r.keep.nodes[p]=r.left.graph.nodes[r.keep.nodes[p].toNat]:=by simp [gN,aA hkl]
  rw [hgr,hgl] at hty
  rw [hty]
  have hbel:=(S.hm.img _ hkm hkl).2
  have hx:(cJ t r h m).graph.nodes[n]?=some (h.graph.nodes[(m.m.nodes[r.keep.nodes[p].toNat]).toNat]?.getD 0):=by
   rw [hb,aS (by simpa using hn),aR,aA hn,eM,hne,hiA];rfl
  obtain ⟨_,hx2⟩:=aL.1 hx
  rw [hx2];exact hbel
 ·have hmf:mem r.into.nodes i=false:=bH.2 fun h=>hm ((c6 _ _).1 h)
  have hco:G0 r.keep.nodes r.into.nodes (nD m.m.nodes (lU r h m).nodes) (b4 r h m).nodes.length i=(((b4 r h m).nodes.length+(b5 r.into.nodes i).length:Nat):Int):=by
   unfold G0
   rw [if_neg (by rw [xH hm _ (bC _)];omega),MO hin]
  have hoa:=Gr r.right.graph.nodes.length i hi hmf
  have hlt:(b5 r.into.nodes i).length<r.freshN.length:=(aL.1 hoa).1
  refine ⟨(b4 r h m).nodes.length+(b5 r.into.nodes i).length,by rw [hco],by rw [hb];simp;omega,?_⟩
  have hx:(cJ t r h m).graph.nodes[(b4 r h m).nodes.length+(b5 r.into.nodes i).length]?=some r.right.graph.nodes[i]:=by
   rw [hb,aZ (by simp),bW,Nat.add_sub_cancel_left,aR]
   have:r.freshN[(b5 r.into.nodes i).length]?=some (i:Int):=hoa
   rw [this];simp [gN,aA hi]
  obtain ⟨_,hx2⟩:=aL.1 hx
  rw [hx2]
  unfold uD
  have:=N0 hvt (a:=(r.right.graph.nodes[i]).toNat) (by omega)
  rw [show (((r.right.graph.nodes[i]).toNat:Nat):Int)=r.right.graph.nodes[i] by omega] at this
  exact this
theorem StepIn.vlen (S:StepIn t r h m):(cJ t r h m).values.length=(cJ t r h m).graph.nodes.length:=by rw [S.bareN,Ra];simp
theorem O7 {k:Int}(hv:(b8 t).2=0)(h0:0≤k)(h1:k<t.nodes.length)(ha:uW t k.toNat=false):f9 t k (lY t k)=0:=by
 unfold f9
 rw [if_neg (by omega),if_neg (by rw [ha];simp),if_neg (by simp [lY])]
 refine nR _ _ fun j _ hj=>?_
 have hj':j<(bI t k).length:=by omega
 unfold Al lY
 rw [aR,aA hj',eM,aD,aD,if_neg]
 have:=(AL hv k _ (aC hj')).le
 omega
theorem StepIn.fresh_node (S:StepIn t r h m):∀ k∈r.freshN,(0≤gN r.right.graph k∧gN r.right.graph k<t.nodes.length)∧uW t (gN r.right.graph k).toNat=false:=fun k hk=>by
 have hr:=jX hk
 have hin:=(l6 S.hR.gr S.hR.tr).1 _ (Pi hr.1 hr.2)
 refine ⟨hin,?_⟩
 have:=S.hR.mkb
 unfold v8 at this
 rw [aM,cE,u0] at this
 have h1:=this.1 k hk
 unfold absB at h1
 unfold uW
 rw [aA (show (gN r.right.graph k).toNat<t.nodes.length by omega)] at h1 ⊢
 simpa using h1
theorem StepIn.node (S:StepIn t r h m):∀ (n:Nat) (h1:n<(cJ t r h m).graph.nodes.length) (h2:n<(cJ t r h m).values.length),f9 t (cJ t r h m).graph.nodes[n] (cJ t r h m).values[n]=0:=fun n h1 h2=>by
 have e1:=S.bareN
 have e2:(cJ t r h m).values=_:=Ra
 have g1:(cJ t r h m).graph.nodes[n]?=some (cJ t r h m).graph.nodes[n]:=aA h1
 have g2:(cJ t r h m).values[n]?=some (cJ t r h m).values[n]:=aA h2
 generalize (cJ t r h m).graph.nodes[n]=x at *
 generalize (cJ t r h m).values[n]=y at *
 rw [e1] at g1;rw [e2] at g2
 by_cases hn:n<(b4 r h m).nodes.length
 ·rw [aS (by simpa using hn),aR,aA hn] at g1 g2
  simp only [eM,aX] at g1 g2
  have hv:=S.nin _ (aC hn)
  have hl:=S.ho.vl
  have a1:(b4 r h m).nodes[n].toNat<h.graph.nodes.length:=by omega
  have a2:(b4 r h m).nodes[n].toNat<h.values.length:=by omega
  rw [aA a2] at g2
  unfold gN at g1
  rw [aA a1] at g1
  have:=S.ho.nd _ a1 a2
  rw [← g1,← g2];exact this
 ·have l1:((b4 r h m).nodes.map (gN h.graph)).length=(b4 r h m).nodes.length:=by simp
  have l2:((b4 r h m).nodes.map fun k=>h.values[k.toNat]?.getD []).length=(b4 r h m).nodes.length:=by simp
  rw [aZ (by omega),l1,aR,bD] at g1
  rw [aZ (by omega),l2,aR,bD] at g2
  obtain ⟨k,hk,rfl⟩:=g1
  obtain ⟨k',hk',rfl⟩:=g2
  rw [hk] at hk';cases hk'
  obtain ⟨⟨b1,b2⟩,b3⟩:=S.fresh_node k (aJ hk)
  exact O7 S.hR.vf b1 b2 b3
theorem StepIn.bin (S:StepIn t r h m):∀ a∈(cJ t r h m).graph.nodes,0≤a∧a<t.nodes.length:=fun a ha=>by
 rw [S.bareN,aY,bG,bG] at ha
 rcases ha with ⟨k,hk,rfl⟩|⟨k,hk,rfl⟩
 ·exact Cf S.ho _ (Pi (S.nin k hk).1 (S.nin k hk).2)
 ·exact (S.fresh_node k hk).1
theorem StepIn.put (S:StepIn t r h m):PutOk t r (cJ t r h m) (nU r h m):=by
 have hl:=S.len
 have hg:=bK S.hR.gr
 have hf1:r.freshN.length≤r.right.graph.nodes.length:=jY _ _
 have hf2:r.freshE.length≤r.right.graph.edges.length:=jY _ _
 have hN:(cJ t r h m).graph.nodes.length≤80:=by rw [S.bareN];simp;omega
 have hE:(cJ t r h m).graph.edges.length≤160:=by rw [S.bareE];simp;omega
 have hV:=S.vlen
 have key:∀ s∈r.right.slots,∃ n:Nat,(nU r h m).nodes[s.node.toNat]?=some (n:Int)∧∃ hn:n<(cJ t r h m).graph.nodes.length,s.attr<(bI t (cJ t r h m).graph.nodes[n]).length:=fun s hs=>by
  obtain ⟨⟨a1,a2⟩,a3,a4⟩:=S.hR.slots s hs
  have hi:s.node.toNat<r.right.graph.nodes.length:=by omega
  obtain ⟨n,e1,hn,e2⟩:=S.com hi
  refine ⟨n,e1,hn,?_⟩
  rw [aA hi,aD] at a3
  have hri:=(l6 S.hR.gr S.hR.tr).1 _ (aC hi)
  have hno:=(sZ (S.node n hn (by omega))).1
  have hn0:=(S.bin _ (aC hn)).1
  rw [pS S.hR.vf hri.1 hri.2] at a3
  rw [pS S.hR.vf hn0 hno]
  unfold uD at e2
  obtain ⟨u,hu⟩:=Ha (lN S.hR.vf) ((cJ t r h m).graph.nodes[n]).toNat (by omega) (r.right.graph.nodes[s.node.toNat]).toNat (by rw [Int.toNat_of_nonneg hri.1];exact e2)
  rw [hu,aV];omega
 refine ⟨by simp [nU,CQ],⟨by omega,by omega,by omega⟩,fun s hs=>?_,fun s hs=>?_⟩
 ·obtain ⟨n,e1,hn,e2⟩:=key s hs
  have:eU (nU r h m) s=n:=by unfold eU;rw [e1];simp
  rw [this,e1]
  exact ⟨by simp,by omega,hn⟩
 ·obtain ⟨n,e1,hn,e2⟩:=key s hs
  have:eU (nU r h m) s=n:=by unfold eU;rw [e1];simp
  have hnv:n<(cJ t r h m).values.length:=by omega
  rw [this,aA hnv,aA hn,aD,aD]
  have:=(sZ (S.node n hn hnv)).2.2.1
  exact ⟨by omega,e2⟩
end
theorem D8 {t:Types}(hv:t.valid):∀ c:Nat,c<t.nodes.length→∀ (b:Nat) (a:Int),mem (t.line c) (b:Int)=true→mem (t.line b) a=true→mem (t.line c) a=true:=by
 intro c
 induction c using Nat.strongRecOn with
 | _ c ih =>
 intro hc b a hb ha
 have hpar:=hv.parent c _ (aA hc)
 have hr:=wC t c hc (hv.parentsOK c)
 rw [hr,sW,b7] at hb
 rcases hb with hb|hb
 ·by_cases h0:0≤t.nodes[c].parent
  ·rw [if_pos h0] at hb
   rw [hr,sW,b7,if_pos h0]
   exact .inl (ih _ (by omega) (by omega) b a hb ha)
  ·rw [if_neg h0,Ak] at hb;cases hb
 ·have:b=c:=by simp at hb;omega
  subst this;exact ha
theorem Oc {t:Types}(hv:(b8 t).2=0){ty a b a' b':Int}(h:l9 t ty a b=true)(ha:uD t a a'=true)(hb:uD t b b'=true)(ra:0≤a'∧a'<t.nodes.length)(rb:0≤b'∧b'<t.nodes.length):l9 t ty a' b'=true:=by
 have hval:=lN hv
 unfold l9 at h ⊢
 simp only [aM,decide_eq_true_eq] at h ⊢
 obtain ⟨⟨h1,h2⟩,h3,h4⟩:=h
 obtain ⟨_,a0,b0⟩:=oO h1
 unfold uD at ha hb
 rw [show a=((a.toNat:Nat):Int) by omega] at ha
 rw [show b=((b.toNat:Nat):Int) by omega] at hb
 refine ⟨⟨?_,h2⟩,D8 hval _ (by omega) a.toNat _ ha h3,D8 hval _ (by omega) b.toNat _ hb h4⟩
 simp [given2F,hv,insideF,ra,rb]
section
variable {t:Types} {r:Rule} {h:Host} {m:Mat}
theorem Qu {l l':List Int}{es:List Edge}{g:Graph}{n:Int}(h0:0≤n)(hn:n<l.length)(hg:g.nodes=l++l'):gN g n=l[n.toNat]?.getD 0:=by
 unfold gN;rw [hg,aS (by omega)]
theorem StepIn.edge (S:StepIn t r h m):∀ x∈(cJ t r h m).graph.edges,((0≤x.type∧x.type<t.edges.length)∧(0≤x.from_∧x.from_<(cJ t r h m).graph.nodes.length)∧(0≤x.to_∧x.to_<(cJ t r h m).graph.nodes.length)) ∧
  l9 t x.type (gN (cJ t r h m).graph x.from_) (gN (cJ t r h m).graph x.to_)=true:=fun x hx=>by
 have hbN:=S.bareN
 have hbin:=S.bin
 rw [S.bareE,aY,bG,bG] at hx
 rcases hx with ⟨k,hk,rfl⟩|⟨k,hk,rfl⟩
 ·have hr:=S.ein k hk
  have hy:=Sb hr.1 hr.2
  obtain ⟨e1,e2⟩:=S.ho.ed _ hy
  have hgi:=(dP S.ho.gg).2 _ hy
  obtain ⟨s1,s2⟩:=IS S.sub hk
  obtain ⟨p1,p2,_⟩:=OU S.nasc s1
  obtain ⟨q1,q2,_⟩:=OU S.nasc s2
  have key:∀ v:Int,v∈(b4 r h m).nodes→sQ (b4 r h m).nodes v<(b4 r h m).nodes.length→iA (b4 r h m).nodes (sQ (b4 r h m).nodes v)=v→gN (cJ t r h m).graph (sQ (b4 r h m).nodes v)=gN h.graph v:=fun v hv hp hi=>by
   rw [Qu (es:=[]) (by omega) (by simpa using hp) hbN,show ((sQ (b4 r h m).nodes v:Nat):Int).toNat=sQ (b4 r h m).nodes v by omega,aR]
   unfold iA at hi
   rw [show ((sQ (b4 r h m).nodes v:Nat):Int).toNat=sQ (b4 r h m).nodes v by omega,aA hp,aD] at hi
   rw [aA hp,eM,aD,hi]
  have hl:(cJ t r h m).graph.nodes.length=(b4 r h m).nodes.length+r.freshN.length:=by rw [hbN];simp
  rw [R5]
  refine ⟨⟨⟨hgi.1.1,e1⟩,⟨by simp only;omega,by simp only;omega⟩,by simp only;omega,by simp only;omega⟩,?_⟩
  simp only
  rw [key _ s1 p1 p2,key _ s2 q1 q2];exact e2
 ·have hr:=jX hk
  have hk2:k.toNat<r.right.graph.edges.length:=by omega
  have hy:=(l6 S.hR.gr S.hR.tr).2 _ (aC hk2)
  rw [aA hk2,aD]
  obtain ⟨y,hye⟩:∃ y,y=r.right.graph.edges[k.toNat]:=⟨_,rfl⟩
  rw [← hye] at hy ⊢
  have hf:y.from_.toNat<r.right.graph.nodes.length:=by omega
  have ht:y.to_.toNat<r.right.graph.nodes.length:=by omega
  obtain ⟨n1,c1,l1,b1⟩:=S.com hf
  obtain ⟨n2,c2,l2,b2⟩:=S.com ht
  unfold freshE
  rw [c1,c2]
  simp only [aD]
  have hfit:l9 t y.type r.right.graph.nodes[y.from_.toNat] r.right.graph.nodes[y.to_.toNat]=true:=by
   have:=S.hR.mkb
   unfold v8 at this
   rw [aM,cE,cE,u0,u0] at this
   have h1:=this.2 k hk
   unfold unfitB at h1
   rw [aA hk2,aD,← hye] at h1
   unfold gN at h1
   rw [aA hf,aA ht] at h1
   simpa using h1
  have e1:gN (cJ t r h m).graph (n1:Int)=(cJ t r h m).graph.nodes[n1]:=by simp [gN,aA l1]
  have e2:gN (cJ t r h m).graph (n2:Int)=(cJ t r h m).graph.nodes[n2]:=by simp [gN,aA l2]
  refine ⟨⟨⟨hy.1.1,hy.1.2⟩,⟨by omega,by omega⟩,by omega,by omega⟩,?_⟩
  rw [e1,e2]
  exact Oc S.hR.vf hfit b1 b2 (hbin _ (aC l1)) (hbin _ (aC l2))
theorem Pf {x:Host}(hv:(b8 t).2=0)(hn:x.graph.nodes.length≤40)(he:x.graph.edges.length≤80)(hl:x.values.length=x.graph.nodes.length)(hb:∀ a∈x.graph.nodes,0≤a∧a<t.nodes.length)
  (hnd:∀ (n:Nat) (h1:n<x.graph.nodes.length) (h2:n<x.values.length),f9 t x.graph.nodes[n] x.values[n]=0)
  (hed:∀ y∈x.graph.edges,((0≤y.type∧y.type<t.edges.length)∧(0≤y.from_∧y.from_<x.graph.nodes.length)∧(0≤y.to_∧y.to_<x.graph.nodes.length))∧l9 t y.type (gN x.graph y.from_) (gN x.graph y.to_)=true):fW t x=0:=by
 have hf:=(lN hv).fewN
 have hf2:=(lN hv).fewE
 have hg:graphF x.graph=0:=Oa hn he (fun a ha=>by have:=hb a ha;omega) fun y hy=>by
  obtain ⟨⟨a1,a2,a3⟩,_⟩:=hed y hy
  exact ⟨by omega,a2,a3⟩
 have h1:(fS (Ep t x) 0 x.graph.nodes.length).2=0:=by
  rw [rL]
  refine nR _ _ fun j _ hj=>?_
  have hj1:j<x.graph.nodes.length:=by omega
  unfold Ep
  rw [aA hj1,aA (show j<x.values.length by omega),aD,aD]
  exact hnd j hj1 (by omega)
 unfold fW l8
 rw [if_neg (by omega),if_neg (by omega),if_neg (by omega),if_neg (by omega),rL]
 refine nR _ _ fun j _ hj=>?_
 have hj1:j<x.graph.edges.length:=by omega
 obtain ⟨a1,a2⟩:=hed _ (aC hj1)
 unfold N9
 rw [aA hj1,aD,if_neg (by omega),if_pos a2]
theorem MB {g:Graph}{c:Part}{vs:List Int}:∀ (l:List Slot) (vals:List (List Int)),vals.length=g.nodes.length→(∀ (n:Nat) (h1:n<g.nodes.length) (h2:n<vals.length),f9 t g.nodes[n] vals[n]=0) →
  (∀ s∈l,v6 t g c vs s=false)→(∀ s∈l,0≤s.attr)→∀ (n:Nat) (h1:n<g.nodes.length) (h2:n<(rX c vs l vals).length),f9 t g.nodes[n] (rX c vs l vals)[n]=0
 | [],vals,_,hx,_,_=>fun n h1 h2=>hx n h1 h2
 | s :: l,vals,hl,hx,ho,ha=>by
  refine MB l (vals.set (eU c s) ((vals[eU c s]?.getD []).set s.attr.toNat (cD s.term vs))) (by rw [i5];exact hl) (fun n h1 h2=>?_) (fun s hs=>ho s (by simp [hs])) (fun s hs=>ha s (by simp [hs]))
  rw [i5] at h2
  have hI:=hx n h1 h2
  rw [xJ]
  split
  ·rename_i hs'
   subst hs'
   rw [aA h2,aD]
   obtain ⟨a1,a2,a3,a4⟩:=sZ hI
   unfold f9
   rw [if_neg (by omega),if_neg (by rw [a2];simp),if_neg (by rw [i5];omega)]
   refine nR _ _ fun j _ hj=>?_
   have hja:j<(bI t g.nodes[eU c s]).length:=by omega
   unfold Al
   rw [aA hja,aD]
   by_cases hj2:s.attr.toNat=j
   ·have e:((vals[eU c s]).set s.attr.toNat (cD s.term vs))[j]?=some (cD s.term vs):=by rw [← hj2];exact List.getElem?_set_self (by omega)
    rw [e,aD,if_neg]
    have hO:=ho s (by simp)
    unfold v6 at hO
    rw [aA h1,aD,hj2,aA hja,aD,Bool.or_eq_false_iff,decide_eq_false_iff_not,decide_eq_false_iff_not] at hO
    omega
   ·rw [List.getElem?_set_ne hj2,aA (show j<(vals[eU c s]).length by omega),aD,if_neg]
    have:=a4 j (by omega) hja
    omega
  ·exact hI
theorem StepIn.after (S:StepIn t r h m)(hp:rY t (cJ t r h m).graph (nU r h m) m.vars r.right.slots=0)(hn:(cJ t r h m).graph.nodes.length≤40)(he:(cJ t r h m).graph.edges.length≤80):fW t (uF t r h m)=0:=by
 have ho:∀ s∈r.right.slots,v6 t (cJ t r h m).graph (nU r h m) m.vars s=false:=by
  unfold rY at hp
  split at hp
  ·cases hp
  ·split at hp
   ·cases hp
   ·rename_i h2
    rw [Bool.not_eq_true,u0] at h2
    exact fun s hs=>by simpa using h2 s hs
 exact Pf S.hR.vf hn he (by show (rX _ _ _ _).length=_;rw [(pZ _ _ _ _).1];exact S.vlen) S.bin (fun n h1 h2=>MB _ _ S.vlen S.node ho (fun s hs=>(S.hR.slots s hs).2.1.1) n h1 h2) S.edge
end
def LT (t:Types)(r:Rule)(c:Part)(x0:Host)(a b V:Nat)(qs ns:List Nat):List (Nat × Blk) :=
 [(a,⟨3,1,(iO t r c x0).graph.nodes.map cI,false⟩),(b,⟨122,3,(iO t r c x0).graph.edges.map Edge.c,false⟩),(V,⟨26,1,jK (qs++ns) (iO t r c x0).values,false⟩)]
def Pg (t:Types)(r:Rule)(ns:List Nat):List (Nat × Blk):=Ny ns (r.freshN.map fun k=>lY t (gN r.right.graph k))
theorem MX {H H':AHeap}{t:Types}{r:Rule}{c:Part}{x0:Host}{lo a b V:Nat}{qs ns:List Nat}(hh:HH H lo a b V qs x0)(hag:∀ j∈a :: b :: V :: qs,H'.get j=H.get j)(hl:ns.length=r.freshN.length)(hnd:(a :: b :: V :: (qs++ns)).Nodup)
  (hlt:∀ j∈a :: b :: V :: (qs++ns),j<H'.next):HH ((H'.puts (LT t r c x0 a b V qs ns)).pushs (Pg t r ns)) 0 a b V (qs++ns) (iO t r c x0)∧((H'.puts (LT t r c x0 a b V qs ns)).pushs (Pg t r ns)).next=H'.next ∧
   (∀ j,j∉a :: b :: V :: (qs++ns)→((H'.puts (LT t r c x0 a b V qs ns)).pushs (Pg t r ns)).get j=H'.get j)∧(∀ j,((H'.puts (LT t r c x0 a b V qs ns)).pushs (Pg t r ns)).al j↔H'.al j∨j∈ns):=by
 have hids:(Pg t r ns).map (·.1)=ns:=DE (by simpa using hl)
 have hab:=hh.ab
 have hnn:∀ j∈ns,j≠a∧j≠b∧j≠V∧j∉qs:=fun j hj=>by
  have h:=hnd
  simp only [fY,aT,aY,not_or,oS] at h
  exact ⟨fun e=>h.1.2.2.2 (e ▸ hj),fun e=>h.2.1.2.2 (e ▸ hj),fun e=>h.2.2.1.2 (e ▸ hj),fun hq=>h.2.2.2.2.2 j hq j hj rfl⟩
 have hn:((Pg t r ns).map (·.1)).Nodup:=by
  rw [hids];have h:=hnd
  simp only [fY,oS] at h
  exact h.2.2.2.2.1
 have hout:∀ j,j∉ns→((H'.puts (LT t r c x0 a b V qs ns)).pushs (Pg t r ns)).get j=(H'.puts (LT t r c x0 a b V qs ns)).get j:=fun j hj=>l7 _ _ _ (by rw [hids];exact hj)
 have hnx:((H'.puts (LT t r c x0 a b V qs ns)).pushs (Pg t r ns)).next=H'.next:=by
  rw [nL _ _ fun p hp=>?_,sN]
  rw [sN]
  refine hlt p.1 ?_
  have:p.1∈ns:=by rw [← hids];exact mD hp
  simp [this]
 have hvl:(iO t r c x0).values=x0.values++r.freshN.map (fun k=>lY t (gN r.right.graph k)):=rfl
 refine ⟨⟨?_,?_,?_,?_,fun i q v h1 h2=>?_,hnd,fun j hj=>⟨dF _,by rw [hnx];exact hlt j hj⟩⟩,hnx,fun j hj=>?_,fun j=>?_⟩
 ·rw [hout a fun hm=>(hnn a hm).1 rfl]
  simp [AHeap.puts,AHeap.put,LT,hab.1,hab.2.1]
 ·rw [hout b fun hm=>(hnn b hm).2.1 rfl]
  simp [AHeap.puts,AHeap.put,LT,hab.2.2]
 ·rw [hout V fun hm=>(hnn V hm).2.2.1 rfl]
  simp [AHeap.puts,AHeap.put,LT]
 ·rw [hvl,aV,aV,bW,hh.len,hl]
 ·by_cases hi:i<qs.length
  ·rw [aS hi] at h1
   rw [hvl,aS (by rw [← hh.len];exact hi)] at h2
   have hq:=aJ h1
   have hqn:=hh.qn hq
   rw [hout q fun hm=>(hnn q hm).2.2.2 hq,tV _ _ _ (fun p hp=>?_),hag q (hh.q_in hq)]
   ·exact hh.gq i q v h1 h2
   ·simp only [LT,aT,eY,or_false] at hp
    rcases hp with rfl|rfl|rfl
    ·exact Ne.symm hqn.1
    ·exact Ne.symm hqn.2.1
    ·exact Ne.symm hqn.2.2
  ·rw [aZ (by omega)] at h1
   rw [hvl,aZ (by rw [← hh.len];omega),← hh.len] at h2
   exact sO _ _ hn (I9 h1 h2)
 ·simp only [aT,aY,not_or] at hj
  rw [hout j hj.2.2.2.2,tV _ _ _ fun p hp=>?_]
  simp only [LT,aT,eY,or_false] at hp
  rcases hp with rfl|rfl|rfl
  ·exact Ne.symm hj.1
  ·exact Ne.symm hj.2.1
  ·exact Ne.symm hj.2.2.1
 ·rw [p6,hids,HT]
theorem ACalls.wf {P:Program}{f:FuncId}{args:List D}{H:AHeap}{Q:D→AHeap→Prop}(he:Rg P f)(h:(∀ j,H.al j→j<H.next)→(∀ j,¬ H.al j→H.get j=none)→ACalls P f args H Q):ACalls P f args H Q :=
 ⟨he,fun M0 σ w vals hR ha=>(h hR.nxt fun j hj=>(hR.top j hj).2).2 M0 σ w vals hR ha⟩
theorem Ko {md:Nat→Bool}{ops:Array Oper}{sp:List (Nat × Nat)}{n0 i:Nat}{rest:List Oper}{acc:List (Nat × List Nat)}{e:dA}{dst:Option Tmp}{K:dA→AHeap→Prop}{H:AHeap}
  (t:Types) (ht:t.ok) (r:Rule) (hR:RuleV t r) (x0:Host) (c:Part) (hc:c.nodes.length=r.right.graph.nodes.length) (hs:x0.graph.nodes.length≤1000∧x0.graph.edges.length≤1000∧x0.values.length≤1000)
  (lo a b V:Nat) (qs ns:List Nat) (hh:HH H lo a b V qs x0) (hl:ns.length=r.freshN.length) (hnd:(a :: b :: V :: (qs++ns)).Nodup) (hn0:n0≤H.next) (hfr:∀ j∈ns,j<n0∧¬ H.al j)
  (hmd:Bh md dst=true) (hck:Fd sp i (a :: b :: V :: (qs++ns)) acc)
  (hK:∀ E,HH E 0 a b V (qs++ns) (iO t r c x0)→(∀ j,j∉a :: b :: V :: (qs++ns)→E.get j=H.get j)→(∀ j,E.al j↔H.al j∨j∈ns)→E.next=H.next →
   iX Tryz.prog md ops sp n0 (i+1) rest ((i,a :: b :: V :: (qs++ns)) :: acc) (mJ e dst (.agg [.own a (iO t r c x0).graph.nodes.length,.own b (iO t r c x0).graph.edges.length,.own V (iO t r c x0).values.length])) E K) :
  nS Tryz.prog md ops sp n0 i rest acc e dst K 64 [t.d,r.d,.agg [.own a x0.graph.nodes.length,.own b x0.graph.edges.length,.own V x0.values.length],c.d] H:=by
 have hids:(Pg t r ns).map (·.1)=ns:=DE (by simpa using hl)
 have hEnt:=(BT t ht r hR x0 c hc hs H lo a b V qs hh (fun _ _=>True) (fun _ _ _ _ _ _=>trivial)).1
 unfold nS
 refine Or.inr ⟨hmd,.agg [.own a (iO t r c x0).graph.nodes.length,.own b (iO t r c x0).graph.edges.length,.own V (iO t r c x0).values.length],a :: b :: V :: qs,LT t r c x0 a b V qs ns,Pg t r ns,fun p hp=>?_,fun p hp=>hfr p.1 (by rw [← hids];exact mD hp),fun H' hag hfresh=>?_,?_,?_⟩
 ·simp only [LT,aT,eY,or_false] at hp
  rcases hp with rfl|rfl|rfl<;>simp
 ·refine ACalls.wf hEnt fun hnx hnon=>?_
  have hf':∀ j∈ns,j<H'.next∧¬ H'.al j:=fun j hj=>by
   rw [← hids,bG] at hj
   obtain ⟨p,hp,rfl⟩:=hj
   exact hfresh p hp
  have hgs:∀ j∈a :: b :: V :: qs,∃ k,H.get j=some k:=fun j hj=>by
   simp only [aT] at hj
   rcases hj with rfl|rfl|rfl|hq
   ·exact ⟨_,hh.ga⟩
   ·exact ⟨_,hh.gb⟩
   ·exact ⟨_,hh.gV⟩
   ·obtain ⟨p,hp,rfl⟩:=aO hq
    exact ⟨_,hh.gq p _ _ (aA hp) (aA (by rw [← hh.len];exact hp))⟩
  have hA:∀ j∈a :: b :: V :: qs,H'.al j:=fun j hj=>bE fun hn=>by
   obtain ⟨k,hk⟩:=hgs j hj
   have:=hag j hj
   rw [hk,hnon j hn] at this;cases this
  have hh':HH H' 0 a b V qs x0:=⟨(hag a hh.a_in).trans hh.ga,(hag b hh.b_in).trans hh.gb,(hag V hh.V_in).trans hh.gV,hh.len,fun i q v h1 h2=>(hag q (hh.q_in (aJ h1))).trans (hh.gq i q v h1 h2),hh.nd,fun j hj=>⟨dF _,hnx j (hA j hj)⟩⟩
  have hlt:∀ j∈a :: b :: V :: (qs++ns),j<H'.next:=fun j hj=>by
   simp only [aT,aY] at hj
   rcases hj with h|h|h|h|h
   ·exact hnx j (hA j (by simp [h]))
   ·exact hnx j (hA j (by simp [h]))
   ·exact hnx j (hA j (by simp [h]))
   ·exact hnx j (hA j (by simp [h]))
   ·exact (hf' j h).1
  obtain ⟨g1,g2,g3,g4⟩:=MX (t:=t) (r:=r) (c:=c) hh hag hl hnd hlt
  refine ACalls.exact (E:=(H'.puts (LT t r c x0 a b V qs ns)).pushs (Pg t r ns)) (BT t ht r hR x0 c hc hs H' 0 a b V qs hh' (fun d H1=>∃ ns1,(∀ j∈ns1,H'.next≤j)∧HH H1 0 a b V (qs++ns1) (iO t r c x0)∧(∀ j,j<H'.next→j∉a :: b :: V :: qs→H1.get j=H'.get j)∧d=.agg [.own a (iO t r c x0).graph.nodes.length,.own b (iO t r c x0).graph.edges.length,.own V (iO t r c x0).values.length]) (fun ns1 H1 k1 k2 k3 _=>⟨ns1,k1,k2,k3,rfl⟩)) ?_
  rintro _ _ d H1 ⟨ns1,k1,k2,k3,rfl⟩
  refine HH.exact g1 k2 hnx hnon (by rw [g2];exact bC _) (fun j=>?_) (fun j hj hjn=>k3 j (hnx j hj) fun hm=>hjn (by simp only [aT,aY] at hm ⊢;rcases hm with h|h|h|h<;>simp [h])) g3 (fun p j j1 e1 e2=>?_)
  ·rw [g4]
   constructor
   ·rintro (h|h)
    ·exact .inl h
    ·exact .inr (by simp [h])
   ·rintro (h|h)
    ·exact .inl h
    ·simp only [aT,aY] at h
     rcases h with h|h|h|h|h
     ·exact .inl (hA j (by simp [h]))
     ·exact .inl (hA j (by simp [h]))
     ·exact .inl (hA j (by simp [h]))
     ·exact .inl (hA j (by simp [h]))
     ·exact .inr h
  ·have ea:∀ l:List Nat,a :: b :: V :: (qs++l)=(a :: b :: V :: qs)++l:=fun l=>rfl
   rw [ea] at e1 e2
   by_cases hp:p<(a :: b :: V :: qs).length
   ·rw [aS hp] at e1 e2
    rw [e1] at e2;cases e2
    exact ⟨fun _=>rfl,fun h=>h⟩
   ·rw [aZ (by omega)] at e1 e2
    have m1:=hf' j (aJ e1)
    have m2:=k1 j1 (aJ e2)
    exact ⟨fun h=>absurd h m1.2,fun _ h=>by have:=hnx j1 h;omega⟩
 ·rw [hids];exact hck
 ·rw [hids]
  have hlt:∀ j∈a :: b :: V :: (qs++ns),j<H.next:=fun j hj=>by
   simp only [aT,aY] at hj
   rcases hj with h|h|h|h|h
   ·exact (hh.rng j (by simp [h])).2
   ·exact (hh.rng j (by simp [h])).2
   ·exact (hh.rng j (by simp [h])).2
   ·exact (hh.rng j (by simp [h])).2
   ·exact bQ (hfr j h).1 hn0
  obtain ⟨g1,g2,g3,g4⟩:=MX (t:=t) (r:=r) (c:=c) hh (fun _ _=>rfl) hl hnd hlt
  exact hK _ g1 g3 g4 g2
def oU:Pattern:=⟨⟨[],[]⟩,[],0,[]⟩
def mM:Rule:=⟨⟨#[]⟩,oU,oU,⟨[],[]⟩,⟨[],[]⟩,false,.mk 0 [] ⟨[],[]⟩ oU⟩
def lI:Stp26:=⟨mM,iB,⟨⟨[],[]⟩,[]⟩,⟨⟨[],[]⟩,[]⟩,⟨[],[]⟩,⟨[],[]⟩⟩
def iU (t:Types)(r:Rule)(h:Host)(m:Mat):Stp26:=if qL t r h m=0 then yQ t r h m else lI
@[go_sem] theorem Stp26.cl (s:Stp26):D.clL s.c=true:=by
 simp [Stp26.c,zB,Rule.cl,Mat.cl,KO,D.clL,mV]
def qU (a k:Nat):List Nat:=(List.range k).map (· + a)
theorem sY {a k j:Nat}:j∈qU a k↔a≤j∧j<a+k:=by
 simp only [qU,bG,b6]
 constructor
 ·rintro ⟨i,h1,rfl⟩;omega
 ·rintro ⟨h1,h2⟩;exact ⟨j - a,by omega,by omega⟩
theorem Kb (a k:Nat):(qU a k).length=k:=by simp [qU]
theorem yZ (a k:Nat):(qU a k).Nodup:=by
 unfold qU
 exact List.Pairwise.map (· + a) (fun x y h=>by simp only [ne_eq] at h ⊢;omega) List.nodup_range
theorem Pd (k f:Nat):(0 :: 1 :: 2 :: (qU 3 k++qU (3+k) f)).Nodup:=by
 simp only [fY,aT,aY,sY,oS]
 exact ⟨by omega,by omega,by omega,yZ _ _,yZ _ _,fun x hx y hy=>by omega⟩
theorem MT {k f j:Nat}(h:j∈0 :: 1 :: 2 :: (qU 3 k++qU (3+k) f)):j<3+k+f:=by
 simp only [aT,aY,sY] at h;omega
theorem Pc (k:Nat):(0 :: 1 :: 2 :: qU 3 k).Nodup:=by
 simp only [fY,aT,sY]
 exact ⟨by omega,by omega,by omega,yZ _ _⟩
theorem En {k j:Nat}(h:j∈0 :: 1 :: 2 :: qU 3 k):j<3+k:=by
 simp only [aT,sY] at h;omega
theorem LW {t:Types}{r:Rule}{h:Host}(hr:r.ok)(h0:fC t r h=0):RuleV t r∧HostOk t h:=by
 unfold fC at h0
 split at h0
 ·exact absurd h0 (by assumption)
 ·rename_i h1;exact ⟨OO hr (by simpa using h1),tZ h0⟩
theorem NR {t:Types}{r:Rule}{h:Host}{m:Mat}(h0:jW t r h m=0):oT t r h m=0:=by
 unfold jW at h0
 split at h0
 ·exact absurd h0 (by assumption)
 ·rename_i h1;simpa using h1
section
variable {t:Types} {r:Rule} {h:Host} {m:Mat}
theorem StepIn.ex (S:StepIn t r h m)(hh:fW t h=0):PU t h (b4 r h m)=⟨bY h.graph (b4 r h m),(b4 r h m).nodes.map fun k=>h.values[k.toNat]?.getD []⟩:=by
 unfold PU;rw [if_pos]
 unfold R8;rw [if_neg (by omega)];exact S.sub
theorem StepIn.eimg (S:StepIn t r h m):(∀ x∈m.m.nodes,0≤x∧x<h.graph.nodes.length)∧∀ x∈m.m.edges,0≤x∧x<h.graph.edges.length:=by
 refine ⟨fun x hx=>?_,fun x hx=>?_⟩
 ·obtain ⟨i,hi,rfl⟩:=aO hx
  exact (S.hm.img i hi (by have:=S.hm.len;omega)).1
 ·obtain ⟨i,hi,rfl⟩:=aO hx
  exact S.hm.eimg i hi
end
theorem GE {t:Types}{r:Rule}{h:Host}{m:Mat}(S:StepIn t r h m)(hp:oT t r h m=0):MatOk t r.left h m:=by
 unfold oT at hp
 split at hp
 ·cases hp
 ·split at hp
  ·exact absurd hp (by assumption)
  ·rename_i h2
   split at hp
   ·cases hp
   ·rename_i h3
    rw [iT] at h2 h3
    obtain ⟨_,_,_,h4⟩:=Gb h2
    rw [h4] at h2 h3
    obtain ⟨a1,a2⟩:=yM (QM S.hR.pl S.ho S.hm) (vs:=[]) (by simp) (by simp) h2
    rw [h3] at a1 a2
    exact ⟨S.hm,a1,a2⟩
theorem Jg (t:Types)(ht:t.ok)(r:Rule)(hr:r.ok)(h:Host)(m:Mat):Pure Tryz.prog 16 [t.d,r.d,h.d,m.d] (.tup [.agg (iU t r h m).c,dI (qL t r h m)]):=by
 refine MC (by first|rfl|(simp [go_sem];done)) (fun Q hQ=>ACalls.bump 100 (aI (cfg:=⟨fun t=>t==8||t==11||t==13||t==14||t==15||t==16||t==95||t==97,fun r=>match r with|8=>[(5,6),(5,7),(5,8),(5,9),(5,10),(0,13),(1,13),(2,13),(3,13),(4,13),(5,13),(6,13),(7,13),(8,13),(9,13),(10,13),(11,13)]|9=>[(16,17),(16,18),(16,19),(16,20),(16,21),(16,22),(16,23),(16,24),(16,25),(16,26),(16,27),(16,28),(16,29),(16,30),(16,31),(16,32),(0,35),(1,35),(2,35),(3,35),(4,35),(5,35),(6,35),(7,35),(8,35),(9,35),(10,35),(11,35),(12,35),(13,35),(14,35),(15,35),(16,35),(17,35),(18,35),(19,35),(20,35),(21,35),(22,35),(23,35),(24,35),(25,35),(26,35),(27,35),(28,35),(29,35),(30,35),(31,35),(32,35),(33,35)]|10=>[(0,3),(1,3),(3,4)]|_=>[]⟩) Tz.mixed Tryz.func16 rfl rfl (aF rfl) (by kernel_rfl) ?_))
 have Y:=wa @Host.d.eq_1 (wa @Host.c.eq_1 (wa @Mat.d.eq_1 (wa @Mat.c.eq_1 (wa @mY (wa @qM (wa @Hc @EZ))))))
 refine wv (h:=aB (Jf t ht r hr h) wl ?_)
 refine c4 (fun h2=>?_) fun h2=>?_
 ·have hA:qL t r h m=fC t r h:=by unfold qL;rw [if_pos h2]
  have hV:iU t r h m=lI:=by unfold iU;rw [if_neg (by omega)]
  exact wv (h:=hQ _ _ (by simp [go_sem,hA,hV,lI,mM,oU,iB,Stp26.c,Rule.c,Mat.c,Host.c,Cond.kind,Cond.kids,Cond.map,Cond.pattern,dLI,dI]))
 ·obtain ⟨hR,ho⟩:=LW hr h2
  have hh0:fW t h=0:=by unfold fC at h2;split at h2;exact absurd h2 (by assumption);exact h2
  have hA0:qL t r h m=gP t r h m:=by unfold qL;rw [if_neg (by omega)]
  refine wv (h:=aB (DI t ht r hR h ho m) wl ?_)
  refine c4 (fun h5=>?_) fun h5=>?_
  ·have hA:qL t r h m=jW t r h m:=by rw [hA0];unfold gP;rw [if_pos h5]
   have hV:iU t r h m=lI:=by unfold iU;rw [if_neg (by omega)]
   exact wv (h:=hQ _ _ (by simp [go_sem,hA,hV,lI,mM,oU,iB,Stp26.c,Rule.c,Mat.c,Host.c,Cond.kind,Cond.kids,Cond.map,Cond.pattern,dLI,dI]))
  ·have hpre:=NR (show jW t r h m=0 by omega)
   have S:=Lb hR ho hpre
   have hP:sP t r h m=b4 r h m:=by unfold sP;rw [if_pos hpre]
   have hX:=S.ex hh0
   obtain ⟨x0,hx0⟩:∃ x0:Host,x0=⟨bY h.graph (b4 r h m),(b4 r h m).nodes.map fun k=>h.values[k.toNat]?.getD []⟩:=⟨_,rfl⟩
   rw [← hx0] at hX
   obtain ⟨tr,htr⟩:∃ tr,tr=lU r h m:=⟨_,rfl⟩
   have hT1:jR (b4 r h m).nodes h.graph.nodes.length=tr.nodes:=by rw [htr];rfl
   have hT2:jR (b4 r h m).edges h.graph.edges.length=tr.edges:=by rw [htr];rfl
   have htl1:tr.nodes.length=h.graph.nodes.length:=by rw [← hT1,kD]
   have htl2:tr.edges.length=h.graph.edges.length:=by rw [← hT2,kD]
   obtain ⟨hin1,hin2⟩:=S.eimg
   have hK:=hR.keep
   have hml:=S.hm.len
   have hmel:=S.hm.elen
   have hal1:(nD m.m.nodes tr.nodes).length=m.m.nodes.length:=by simp [nD]
   have hal2:(nD m.m.edges tr.edges).length=m.m.edges.length:=by simp [nD]
   obtain ⟨cm,hcm⟩:∃ cm,cm=nU r h m:=⟨_,rfl⟩
   have hC1:CQ r.keep.nodes r.into.nodes (nD m.m.nodes tr.nodes) r.right.graph.nodes.length (b4 r h m).nodes.length=cm.nodes:=by rw [hcm,htr];rfl
   have hC2:CQ r.keep.edges r.into.edges (nD m.m.edges tr.edges) r.right.graph.edges.length (b4 r h m).edges.length=cm.edges:=by rw [hcm,htr];rfl
   have hgl:=bK hR.pl.gg
   have hgr:=bK hR.gr
   have hgh:=bK ho.gg
   have hdl:=S.len
   have hxv:x0.values.length=(b4 r h m).nodes.length:=by rw [hx0];simp
   have hxn:x0.graph.nodes.length=(b4 r h m).nodes.length:=by rw [hx0];unfold bY;rw [if_pos S.sub];simp
   have hxe:x0.graph.edges.length=(b4 r h m).edges.length:=by rw [hx0];unfold bY;rw [if_pos S.sub];simp
   have hxr:∀ v∈x0.values,v.length≤8:=fun v hv=>by
    rw [hx0,bG] at hv
    obtain ⟨k,hk,rfl⟩:=hv
    have hkr:=S.nin k hk
    have hvl:=ho.vl
    rw [aA (show k.toNat<h.values.length by omega),aD]
    exact (ho.row _ (aC _)).1
   have hcl:cm.nodes.length=r.right.graph.nodes.length:=by rw [hcm];simp [nU,CQ]
   have hB:iO t r cm x0=cJ t r h m:=by rw [hcm,hx0];rfl
   have hfl:r.freshN.length≤40:=dW (jY _ _) hgr.1
   have hMat:=GE S hpre
   have hvl:=hMat.vl
   have hvs:Sm m.vars:=fun v hv=>by have:=hMat.vs v hv;omega
   have Y:=wa Y (wa hP (wa @Part.d.eq_1 (wa @Part.c.eq_1 (wa hX (wa hT1 (wa hT2 (wa hC1 hC2)))))))
   refine wv (h:=aB (Fw t ht h (b4 r h m) (by omega) (by omega) (by omega) (by omega)) wl ?_)
   refine wv (h:=aK (vN m.m.nodes tr.nodes (by omega) (fun x hx=>by have:=hin1 x hx;omega)) wl ?_)
   refine wv (h:=aK (vN m.m.edges tr.edges (by omega) (fun x hx=>by have:=hin2 x hx;omega)) wl ?_)
   refine wp (h:=aK (x7 r.keep.nodes r.into.nodes (nD m.m.nodes tr.nodes) r.right.graph.nodes.length (b4 r h m).nodes.length (by omega) (fun x hx=>by have:=hK.2.1 x hx;rw [hal1];omega) (by omega) (by omega)) wl ?_)
   refine wp (h:=aK (x7 r.keep.edges r.into.edges (nD m.m.edges tr.edges) r.right.graph.edges.length (b4 r h m).edges.length (by omega) (fun x hx=>by have:=hK.2.2.1 x hx;rw [hal2];omega) (by omega) (by omega)) wl ?_)
   refine wp (h:=?_)
   refine FL x0 (by omega) (by omega) (by omega) (fun v hv=>by have:=hxr v hv;omega) 0 1 2 (qU 3 x0.values.length) (Kb _ _) (Pc _) (by simp [go_sem]) (fun j hj=>?_) rfl ?_ (fun E hE1 hE2 hE3 hE4=>?_)
   ·have hj2:=En hj
    refine ⟨by omega,?_⟩
    simp [go_sem,mY,qM,Hc,EZ];omega
   ·intro q hq hs x hx
    simp at hq
    rcases hq with rfl|rfl|rfl<;>simp at hs hx
   have hno:∀ j,100≤j→j∉0 :: 1 :: 2 :: qU 3 x0.values.length:=fun j hj hm=>by have:=En hm;omega
   have hno2:∀ j,100≤j→j∉0 :: 1 :: 2 :: (qU 3 x0.values.length++qU (3+x0.values.length) r.freshN.length):=fun j hj hm=>by have:=MT hm;omega
   have g100:=hE2 100 (hno _ (by omega))
   have g102:=hE2 102 (hno _ (by omega))
   have g103:=hE2 103 (hno _ (by omega))
   have g154:=hE2 154 (hno _ (by omega))
   simp [go_sem] at g100 g102 g103 g154 hE4
   have hal:∀ j,j<100→E.al j→j∈0 :: 1 :: 2 :: qU 3 x0.values.length:=fun j hj hA=>by
    rcases (hE3 j).1 hA with h|h
    ·simp [go_sem,mY,qM,Hc,EZ] at h;omega
    ·exact h
   have n154:∀ (a:Nat),a∈qU 3 x0.values.length→¬ a=154:=fun a hm=>by rw [sY] at hm;omega
   have Y:=wa Y (wa g100 (wa g102 (wa g103 g154)))
   refine wp (h:=?_)
   refine Ko t ht r hR x0 cm hcl (by omega) 0 0 1 2 (qU 3 x0.values.length) (qU (3+x0.values.length) r.freshN.length) hE1 (by rw [Kb]) (Pd _ _) (by rw [hE4];omega) (fun j hj=>?_) rfl ?_ (fun F hF1 hF2 hF3 hF4=>?_)
   ·rw [sY] at hj
    refine ⟨by omega,fun hA=>?_⟩
    have:=En (hal j (by omega) hA)
    omega
   ·intro q hq hs x hx
    simp at hs
   rw [hB] at hF1 ⊢
   rw [hE4] at hF4
   have f100:=hF2 100 (hno2 _ (by omega))
   have f102:=hF2 102 (hno2 _ (by omega))
   have f103:=hF2 103 (hno2 _ (by omega))
   have f154:=hF2 154 (hno2 _ (by omega))
   rw [g100] at f100
   rw [g102] at f102
   rw [g103] at f103
   rw [g154] at f154
   have Y:=wa Y (wa f100 (wa f102 (wa f103 f154)))
   refine wp (h:=?_)
   unfold fE
   refine Lq t ht r hR (cJ t r h m) cm (hcm ▸ S.put) m.vars hvl hvs _ 0 0 1 2 (qU 3 x0.values.length++qU (3+x0.values.length) r.freshN.length) (hF1.same (by simp [go_sem]) (fun j hj=>by have:=MT hj;simp [go_sem,show j≠102 by omega])) _ (fun H4 e1 e2 e3=>?_) (fun H4 e1 e2 e3=>?_)
   ·have k100:=e2 100 (by simp [go_sem];omega) (hno2 _ (by omega))
    have k102:=e2 102 (by simp [go_sem];omega) (hno2 _ (by omega))
    simp [go_sem,f100] at k100 k102
    have hA:qL t r h m=rY t (cJ t r h m).graph cm m.vars r.right.slots:=by rw [hA0];unfold gP;rw [if_neg (by omega),← hcm,if_pos e1]
    have hV:iU t r h m=lI:=by unfold iU;rw [if_neg (by omega)]
    simp [go_sem,seval,k100,k102]
    refine aP (fun hc=>?_) (fun hc=>absurd (by simpa using hc) e1)
    simp [go_sem,seval,k100,k102]
    exact hQ _ _ (by first|(left;(simp [go_sem,hA,hV,lI,mM,oU,iB,Stp26.c,Rule.c,Mat.c,Host.c,Cond.kind,Cond.kids,Cond.map,Cond.pattern,dLI,dI]);done)|(right;(simp [go_sem,hA,hV,lI,mM,oU,iB,Stp26.c,Rule.c,Mat.c,Host.c,Cond.kind,Cond.kids,Cond.map,Cond.pattern,dLI,dI]);done))
   have k100:=e2 100 (by simp [go_sem];omega) (hno2 _ (by omega))
   have k102:=e2 102 (by simp [go_sem];omega) (hno2 _ (by omega))
   have k103:=e2 103 (by simp [go_sem];omega) (hno2 _ (by omega))
   have k154:=e2 154 (by simp [go_sem];omega) (hno2 _ (by omega))
   simp [go_sem,f100,f102,f103,f154] at k100 k102 k103 k154
   have Y:=wa Y (wa k100 (wa k102 (wa k103 k154)))
   refine tG (fun h14=>?_) fun h14=>?_
   ·have hA:qL t r h m=3:=by
     rw [hA0];unfold gP;rw [if_neg (by omega),← hcm,if_neg (by omega),if_pos (by omega)]
    have hV:iU t r h m=lI:=by unfold iU;rw [if_neg (by omega)]
    exact wv (h:=hQ _ _ (by simp [go_sem,hA,hV,lI,mM,oU,iB,Stp26.c,Rule.c,Mat.c,Host.c,Cond.kind,Cond.kids,Cond.map,Cond.pattern,dLI,dI]))
   ·have hA:qL t r h m=0:=by
     rw [hA0];unfold gP;rw [if_neg (by omega),← hcm,if_neg (by omega),if_neg (by omega)]
    have hV:iU t r h m=yQ t r h m:=by unfold iU;rw [if_pos hA]
    have hW:uF t r h m=⟨(cJ t r h m).graph,rX cm m.vars r.right.slots (cJ t r h m).values⟩:=by rw [hcm];rfl
    exact wv (h:=hQ _ _ (by simp [go_sem,hA,hV,yQ,Stp26.c,Mat.c,Host.c,hW,← htr,← hcm]))
mutual
def lE:Cond→Bool
 | .mk k l m p=>Aj l&&decide ((p.graph.nodes.length:Int)+p.graph.edges.length≤6)
def Aj:List Cond→Bool
 | []=>true
 | c :: l=>lE c&&Aj l
end
theorem JV (l:List Cond):Aj l=l.all lE:=by
 induction l with
 | nil=>simp [Aj]
 | cons a l ih=>simp [Aj,ih]
theorem yV (c:Cond):lE c=(c.kids.all lE&&decide ((c.pattern.graph.nodes.length:Int)+c.pattern.graph.edges.length≤6)):=by
 cases c;simp only [lE,JV,Cond.kids,Cond.pattern];try rfl
theorem r8 {α:Type}(l:List α)(p:α→Bool){i:Nat}(h:i<l.length):(l.take (i+1)).all p=((l.take i).all p&&p l[i]):=by
 rw [aE h,zI];simp
theorem HL:∀ c:Cond,c.ok→Pure Tryz.prog 133 [.agg c.c] (.bool (lE c)):=by
 refine iP fun c ih hc=>?_
 obtain ⟨hs,hk⟩:=(rT c).1 hc
 have p1:=hs.p1
 have p2:=hs.p2
 refine Tz.pK ⟨fun _=>false,fun _=>[]⟩ Tryz.func133 rfl (fun Q hQ=>?_)
 have Y:=@Cond.c_eq
 refine wv (h:=bA (fun i e H=>(e 1=.adr c.c∧e 3=dI i)∧(i≤c.kids.length)∧((c.kids.take i).all lE=true)) (fun i=>c.kids.length - i) 0 ⟨wg,wi,(by rfl)⟩ fun I0 hI0 i e H hi0=>?_)
 obtain ⟨E0,hi,ha⟩:=hi0
 have Y:=wa Y E0
 refine wv (h:=?_)
 repeat first|intro _|refine ⟨dR,?_⟩
 refine wq (fun h2=>?_) fun h2=>?_
 ·have Y:=wa Y (wa h2 (aA h2))
  refine wo (h:=aB ((by have:=ih _ (aC h2) (hk _ (aC h2));rwa [Cond.c_eq] at this)) wl ?_)
  refine wv (h:=?_)
  repeat first|intro _|refine ⟨dR,?_⟩
  refine wq (fun h4=>?_) fun h4=>?_
  ·refine wv (h:=?_)
   have hF:lE c=false:=by
    have:c.kids.all lE=false:=by
     rw [bH];intro h;exact absurd (bX.1 h _ (aC h2)) (by simpa using h4)
    rw [yV,this];rfl
   exact hQ _ _ (by simp [go_sem,hF])
  ·exact wo (h:=wx hI0 (i+1) ⟨wg,wj,(by (rw [r8 _ _ h2,ha];simpa using h4))⟩)
 ·have hA:c.kids.all lE=true:=by rw [aH (by omega)] at ha;exact ha
  have hF:lE c=decide ((c.pattern.graph.nodes.length:Int)+c.pattern.graph.edges.length≤6):=by rw [yV,hA];rfl
  exact wo (h:=hQ _ _ (by simp [go_sem,hF]))
def Ti (p q:Pattern):Int:=((14 ^ (q.graph.nodes.length - p.graph.nodes.length) * 18 ^ (q.graph.edges.length - p.graph.edges.length):Nat):Int)
def Gy (k:Int)(p' p:Pattern):Pattern:=if k=5 then p' else p
mutual
def kZ:Cond→Pattern→Bool
 | .mk k l m p',p=>EU l (Gy k p' p)&&decide (Ti p (Gy k p' p)≤5000)
def EU:List Cond→Pattern→Bool
 | [],_=>true
 | c :: l,q=>kZ c q&&EU l q
end
theorem Mi (l:List Cond)(q:Pattern):EU l q=l.all fun c=>kZ c q:=by
 induction l with
 | nil=>simp [EU]
 | cons a l ih=>simp [EU,ih]
theorem xE (c:Cond)(p:Pattern):kZ c p=((c.kids.all fun k=>kZ k (Gy c.kind c.pattern p))&&decide (Ti p (Gy c.kind c.pattern p)≤5000)):=by
 cases c;simp only [kZ,Mi,Cond.kids,Cond.pattern,Cond.kind];try rfl
theorem pN {a j:Nat}(ha:1≤a)(hj:j≤6):a ^ j≤a ^ 6∧1≤a ^ j:=⟨Nat.pow_le_pow_right ha hj,by first|exact Nat.one_le_pow _ _ ha|exact Nat.pow_pos ha|exact Nat.pos_pow_of_pos _ ha⟩
theorem Hm (q:Pattern):q.c.take 5=q.c:=rfl
theorem Fz:∀ c:Cond,c.ok→lE c=true→∀ p:Pattern,p.graph.nodes.length≤1000000→p.graph.edges.length≤1000000→Pure Tryz.prog 134 [p.d,.agg c.c,dI 14,dI 18] (.bool (kZ c p)):=by
 refine iP fun c ih hc hn p hp1 hp2=>?_
 obtain ⟨hs,hk⟩:=(rT c).1 hc
 have q1:=hs.p1
 have q2:=hs.p2
 rw [yV] at hn
 simp only [aM,decide_eq_true_eq,bX] at hn
 obtain ⟨q,hq⟩:∃ q,Gy c.kind c.pattern p=q:=⟨_,rfl⟩
 have hqs:q.graph.nodes.length - p.graph.nodes.length≤6∧q.graph.edges.length - p.graph.edges.length≤6∧q.graph.nodes.length≤1000000∧q.graph.edges.length≤1000000:=by
  rw [← hq];unfold Gy;split<;>omega
 refine Tz.pK ⟨fun t=>t==9,fun _=>[]⟩ Tryz.func134 rfl (fun Q hQ=>?_)
 have Y:=@Cond.c_eq
 refine c4 (fun h2=>?_) fun h2=>?_
 ·have hqc:c.pattern=q:=by rw [← hq];exact (if_pos h2).symm
  refine wp (h:=bA (fun i e H=>∃ w:Nat,(e 4=.adr p.c∧e 5=.adr c.c∧e 2=dI 14∧e 3=dI 18∧e 9=.ptr 0 1 0 0∧e 10=dI w∧e 11=dI i)∧(H.get 0=some ⟨33,5,[q.c],false⟩)∧(0<H.next)∧(p.graph.nodes.length≤i)∧(i≤q.graph.nodes.length∨i=p.graph.nodes.length)∧(w=14 ^ (i - p.graph.nodes.length))) (fun i=>q.graph.nodes.length - i) p.graph.nodes.length ⟨1,wg,(by (simp [go_sem,hqc,Hm])),wn,wi,wi,(by (simp))⟩ fun I0 hI0 i e H hi0=>?_)
  obtain ⟨w,E0,g0_0,n0_0,hi,hi2,hw⟩:=hi0
  have Y:=wa Y (wa E0 (wa g0_0 (bZ n0_0)))
  refine wv (h:=?_)
  repeat first|intro _|refine ⟨eZ,?_⟩
  refine wq (fun h6=>?_) fun h6=>?_
  ·have hwb:=(pN (a:=14) (j:=i - p.graph.nodes.length) (by omega) (by omega)).1
   rw [← hw] at hwb
   have hwb':w≤7529536:=hwb
   have Y:=wa Y h6
   exact wp (h:=wx hI0 (i+1) ⟨(w * 14),wg,(by (simp [go_sem,Y])),wn,wj,wj,(by (rw [show i+1 - p.graph.nodes.length=(i - p.graph.nodes.length)+1 by omega,Nat.pow_succ,hw]))⟩)
  ·have hw':w=14 ^ (q.graph.nodes.length - p.graph.nodes.length):=by rw [hw];congr 1;omega
   have hwb:=(pN (a:=14) (j:=q.graph.nodes.length - p.graph.nodes.length) (by omega) hqs.1).1
   rw [← hw'] at hwb
   have hwb':w≤7529536:=hwb
   refine wp (h:=bA (fun k e H=>∃ v:Nat,(e 4=.adr p.c∧e 5=.adr c.c∧e 2=dI 14∧e 3=dI 18∧e 9=.ptr 0 1 0 0∧e 10=dI v∧e 12=dI k)∧(H.get 0=some ⟨33,5,[q.c],false⟩)∧(0<H.next)∧(p.graph.edges.length≤k)∧(k≤q.graph.edges.length∨k=p.graph.edges.length)∧(v=w * 18 ^ (k - p.graph.edges.length))) (fun k=>q.graph.edges.length - k) p.graph.edges.length ⟨w,wg,(by (simp [go_sem,Y])),wn,wi,wi,(by (simp))⟩ fun I2 hI2 k e H hi2=>?_)
   obtain ⟨v,E2,g0_2,n0_2,hk1,hk2,hv⟩:=hi2
   have Y:=wa Y (wa E2 (wa g0_2 (bZ n0_2)))
   refine wv (h:=?_)
   repeat first|intro _|refine ⟨eZ,?_⟩
   refine wq (fun h10=>?_) fun h10=>?_
   ·have hvb:=(pN (a:=18) (j:=k - p.graph.edges.length) (by omega) (by omega)).1
    have hvb':v≤7529536 * 34012224:=by rw [hv];exact iY hwb' hvb
    have Y:=wa Y h10
    exact wp (h:=wx hI2 (k+1) ⟨(v * 18),wg,(by (simp [go_sem,Y])),wn,wj,wj,(by (rw [show k+1 - p.graph.edges.length=(k - p.graph.edges.length)+1 by omega,Nat.pow_succ,hv,Nat.mul_assoc]))⟩)
   ·have hv':v=w * 18 ^ (q.graph.edges.length - p.graph.edges.length):=by rw [hv];congr 2;omega
    refine wv (h:=bA (fun j e H=>(e 4=.adr p.c∧e 5=.adr c.c∧e 2=dI 14∧e 3=dI 18∧e 9=.ptr 0 1 0 0∧e 10=dI v∧e 13=dI j)∧(H.get 0=some ⟨33,5,[q.c],false⟩)∧(0<H.next)∧(j≤c.kids.length)∧((c.kids.take j).all (fun x=>kZ x q)=true)) (fun j=>c.kids.length - j) 0 ⟨wg,(by (simp [go_sem,Y])),wn,wi,(by rfl)⟩ fun I4 hI4 j e H hi4=>?_)
    obtain ⟨E4,g0_4,n0_4,hj,ha⟩:=hi4
    have Y:=wa Y (wa E4 (wa g0_4 (bZ n0_4)))
    refine wv (h:=?_)
    repeat first|intro _|refine ⟨eZ,?_⟩
    refine wq (fun h14=>?_) fun h14=>?_
    ·have Y:=wa Y (wa h14 (wa (aA h14) @Hm))
     refine wp (h:=aK ((by have hz:=ih _ (aC h14) (hk _ (aC h14)) (hn.1 _ (aC h14)) q hqs.2.2.1 hqs.2.2.2;rwa [Cond.c_eq] at hz)) wl ?_)
     refine wv (h:=?_)
     repeat first|intro _|refine ⟨eZ,?_⟩
     refine wq (fun h16=>?_) fun h16=>?_
     ·refine wv (h:=?_)
      have hF:kZ c p=false:=by
       have:(c.kids.all fun x=>kZ x q)=false:=by
        rw [bH];intro h;exact absurd (bX.1 h _ (aC h14)) (by simpa using h16)
       rw [xE,hq,this];rfl
      exact hQ _ _ (by simp [go_sem,hF])
     ·exact wp (h:=wx hI4 (j+1) ⟨wg,(by (simp [go_sem,Y])),wn,wj,(by (rw [r8 _ _ h14,ha];simpa using h16))⟩)
    ·have hA:(c.kids.all fun x=>kZ x q)=true:=by rw [aH (by omega)] at ha;exact ha
     have hF:kZ c p=decide ((v:Int)≤5000):=by rw [xE,hq,hA,hv',hw'];rfl
     exact wv (h:=hQ _ _ (by simp [go_sem,hF]))
 ·have hqc:p=q:=by rw [← hq];exact (if_neg h2).symm
  refine wp (h:=bA (fun i e H=>∃ w:Nat,(e 4=.adr p.c∧e 5=.adr c.c∧e 2=dI 14∧e 3=dI 18∧e 9=.ptr 0 1 0 0∧e 10=dI w∧e 11=dI i)∧(H.get 0=some ⟨33,5,[q.c],false⟩)∧(0<H.next)∧(p.graph.nodes.length≤i)∧(i≤q.graph.nodes.length∨i=p.graph.nodes.length)∧(w=14 ^ (i - p.graph.nodes.length))) (fun i=>q.graph.nodes.length - i) p.graph.nodes.length ⟨1,wg,(by (simp [go_sem,hqc,Hm])),wn,wi,wi,(by (simp))⟩ fun I0 hI0 i e H hi0=>?_)
  obtain ⟨w,E0,g0_0,n0_0,hi,hi2,hw⟩:=hi0
  have Y:=wa Y (wa E0 (wa g0_0 (bZ n0_0)))
  refine wv (h:=?_)
  repeat first|intro _|refine ⟨eZ,?_⟩
  refine wq (fun h6=>?_) fun h6=>?_
  ·have hwb:=(pN (a:=14) (j:=i - p.graph.nodes.length) (by omega) (by omega)).1
   rw [← hw] at hwb
   have hwb':w≤7529536:=hwb
   have Y:=wa Y h6
   exact wp (h:=wx hI0 (i+1) ⟨(w * 14),wg,(by (simp [go_sem,Y])),wn,wj,wj,(by (rw [show i+1 - p.graph.nodes.length=(i - p.graph.nodes.length)+1 by omega,Nat.pow_succ,hw]))⟩)
  ·have hw':w=14 ^ (q.graph.nodes.length - p.graph.nodes.length):=by rw [hw];congr 1;omega
   have hwb:=(pN (a:=14) (j:=q.graph.nodes.length - p.graph.nodes.length) (by omega) hqs.1).1
   rw [← hw'] at hwb
   have hwb':w≤7529536:=hwb
   refine wp (h:=bA (fun k e H=>∃ v:Nat,(e 4=.adr p.c∧e 5=.adr c.c∧e 2=dI 14∧e 3=dI 18∧e 9=.ptr 0 1 0 0∧e 10=dI v∧e 12=dI k)∧(H.get 0=some ⟨33,5,[q.c],false⟩)∧(0<H.next)∧(p.graph.edges.length≤k)∧(k≤q.graph.edges.length∨k=p.graph.edges.length)∧(v=w * 18 ^ (k - p.graph.edges.length))) (fun k=>q.graph.edges.length - k) p.graph.edges.length ⟨w,wg,(by (simp [go_sem,Y])),wn,wi,wi,(by (simp))⟩ fun I2 hI2 k e H hi2=>?_)
   obtain ⟨v,E2,g0_2,n0_2,hk1,hk2,hv⟩:=hi2
   have Y:=wa Y (wa E2 (wa g0_2 (bZ n0_2)))
   refine wv (h:=?_)
   repeat first|intro _|refine ⟨eZ,?_⟩
   refine wq (fun h10=>?_) fun h10=>?_
   ·have hvb:=(pN (a:=18) (j:=k - p.graph.edges.length) (by omega) (by omega)).1
    have hvb':v≤7529536 * 34012224:=by rw [hv];exact iY hwb' hvb
    have Y:=wa Y h10
    exact wp (h:=wx hI2 (k+1) ⟨(v * 18),wg,(by (simp [go_sem,Y])),wn,wj,wj,(by (rw [show k+1 - p.graph.edges.length=(k - p.graph.edges.length)+1 by omega,Nat.pow_succ,hv,Nat.mul_assoc]))⟩)
   ·have hv':v=w * 18 ^ (q.graph.edges.length - p.graph.edges.length):=by rw [hv];congr 2;omega
    refine wv (h:=bA (fun j e H=>(e 4=.adr p.c∧e 5=.adr c.c∧e 2=dI 14∧e 3=dI 18∧e 9=.ptr 0 1 0 0∧e 10=dI v∧e 13=dI j)∧(H.get 0=some ⟨33,5,[q.c],false⟩)∧(0<H.next)∧(j≤c.kids.length)∧((c.kids.take j).all (fun x=>kZ x q)=true)) (fun j=>c.kids.length - j) 0 ⟨wg,(by (simp [go_sem,Y])),wn,wi,(by rfl)⟩ fun I4 hI4 j e H hi4=>?_)
    obtain ⟨E4,g0_4,n0_4,hj,ha⟩:=hi4
    have Y:=wa Y (wa E4 (wa g0_4 (bZ n0_4)))
    refine wv (h:=?_)
    repeat first|intro _|refine ⟨eZ,?_⟩
    refine wq (fun h14=>?_) fun h14=>?_
    ·have Y:=wa Y (wa h14 (wa (aA h14) @Hm))
     refine wp (h:=aK ((by have hz:=ih _ (aC h14) (hk _ (aC h14)) (hn.1 _ (aC h14)) q hqs.2.2.1 hqs.2.2.2;rwa [Cond.c_eq] at hz)) wl ?_)
     refine wv (h:=?_)
     repeat first|intro _|refine ⟨eZ,?_⟩
     refine wq (fun h16=>?_) fun h16=>?_
     ·refine wv (h:=?_)
      have hF:kZ c p=false:=by
       have:(c.kids.all fun x=>kZ x q)=false:=by
        rw [bH];intro h;exact absurd (bX.1 h _ (aC h14)) (by simpa using h16)
       rw [xE,hq,this];rfl
      exact hQ _ _ (by simp [go_sem,hF])
     ·exact wp (h:=wx hI4 (j+1) ⟨wg,(by (simp [go_sem,Y])),wn,wj,(by (rw [r8 _ _ h14,ha];simpa using h16))⟩)
    ·have hA:(c.kids.all fun x=>kZ x q)=true:=by rw [aH (by omega)] at ha;exact ha
     have hF:kZ c p=decide ((v:Int)≤5000):=by rw [xE,hq,hA,hv',hw'];rfl
     exact wv (h:=hQ _ _ (by simp [go_sem,hF]))
def C4 (t:Types)(p:Pattern)(c:Cond)(h:Host):Bool:=fewC c&&fewP p&&Av h&&(decide (condF t p c≠0)||(light21 t p h&&lE c&&decide ((h.graph.nodes.length:Int)≤6)&&decide ((h.graph.edges.length:Int)≤8)&&kZ c p))
theorem Jp (t:Types)(ht:t.ok)(p:Pattern)(c:Cond)(hc:c.le)(h:Host):Pure Tryz.prog 55 [t.d,p.d,.agg c.c,h.d] (.bool (C4 t p c h)):=by
 refine Tz.pK ⟨fun _=>false,fun _=>[]⟩ Tryz.func55 rfl (fun Q hQ=>?_)
 have Y:=wa @Host.c.eq_1 (wa @Pattern.c.eq_1 @Cond.c_eq)
 refine wo (h:=aB ((by have hz:=Gh c hc;rwa [Cond.c_eq] at hz)) wl ?_)
 refine wo (h:=aG (fun hg=>sK p) (fun hg=>wl) ?_)
 refine wo (h:=aG (fun hg=>Bd h) (fun hg=>wl) ?_)
 refine eF (fun h1=>?_) fun h1=>?_
 ·have hF:(fewC c&&fewP p&&Av h)=false:=by cases ha:fewC c<;>cases hb:fewP p<;>cases hd:Av h<;>simp [ha,hb,hd] at h1<;>rfl
  exact wv (h:=hQ _ _ (by simp [go_sem,C4,hF]))
 ·have hF:fewC c=true∧fewP p=true∧Av h=true:=by cases ha:fewC c<;>cases hb:fewP p<;>cases hd:Av h<;>simp [ha,hb,hd] at h1<;>exact ⟨rfl,rfl,rfl⟩
  have hO:c.ok∧c.size≤1000000:=by
   have h6:=hF.1
   simp [fewC] at h6
   have h7:=Ed c 40 (by omega) h6
   exact ⟨h7.1,by omega⟩
  have hO2:p.graph.nodes.length≤1000000∧p.graph.edges.length≤1000000:=by
   have h6:=hF.2.1
   simp [fewP,fewG] at h6
   omega
  refine wo (h:=aB ((by have hz:=BU t ht p c hO.1 hO.2;rwa [Cond.c_eq] at hz)) wl ?_)
  refine wo (h:=aG (fun hg=>Jt t ht p h) (fun hg=>wl) ?_)
  refine wo (h:=aG (fun hg=>(by have hz:=HL c hO.1;rwa [Cond.c_eq] at hz)) (fun hg=>wl) ?_)
  refine wo (h:=aG (fun hg=>(by have hz:=Fz c hO.1 (by simp at hg;simp_all) p hO2.1 hO2.2;rwa [Cond.c_eq] at hz)) (fun hg=>wl) ?_)
  exact wo (h:=hQ _ _ (by simp [go_sem,C4,hF.1,hF.2.1,hF.2.2]))
def light26 (t:Types)(r:Rule)(h:Host):Bool:=s5 t&&fewR r&&C4 t r.left r.cond h
theorem JX (t:Types)(p:Pattern)(h:Host)(inj:Bool):(g7 t p h inj).1.length≤5000:=by
 unfold g7
 split
 ·simp
 ·split
  ·simp
  ·split
   ·simp
   ·exact dW (List.length_filterMap_le _ _) (KL _ _ _ _)
theorem Ng (t:Types)(ht:t.ok)(r:Rule)(hr:r.ok)(h:Host)(m:Mat){v:Stp26}{e:Int}(hv:v=iU t r h m)(he:e=qL t r h m):Pure Tryz.prog 16 [t.d,r.d,h.d,m.d] (.tup [.agg v.c,dI e]):=by
 subst hv he;exact Jg t ht r hr h m
theorem OK (l:List Stp26):D.clLL (l.map Stp26.c)=true:=cQ _ Stp26.cl l
attribute [go_sem] OK
end Go.Abs
end
section
namespace Go.Abs
open Go.ChangeShapes Go.WideShapes Go.RowKit
structure Bulk {H:Type} (bulk:DataW H→Nat):Prop where
 len:∀ e s,e.length≤bulk (.slice e s)
 el:∀ e s,∀ d∈e,bulk d≤bulk (.slice e s)
 part:∀ l,∀ d∈l,bulk d≤bulk (.agg l)
 str:∀ s:List UInt8,s.length≤bulk (.lit (.string s))
abbrev MM:Nat→Prop:=fun _=>False
section
variable {H:Type} {enc:TypeId × Value→H} {P:Program} {w:World} {base:Nat} {spare:Nat→Bool} {held:Bool} {bulk:DataW H→Nat} {B:Nat}
def Opens (enc:TypeId × Value→H)(P:Program)(w:World)(base:Nat)(spare:Nat→Bool)(held:Bool)(bulk:DataW H→Nat)(B:Nat)(n:Nat)(t:TypeId){α:Type}(C:α→List D)(G:α→Prop):Prop :=
 ∀ (fuel:Nat) (cs:List Value) (x:DataW H × List MemPlace),fuel≤n→DataW.trod enc P w base spare held fuel t cs=some x→bulk x.1≤B →
  ∃ a,G a∧RepL MM gS p7 w cs (C a)∧∀ u∈cs,u.oneCell'=true
variable {n:Nat} {t:TypeId}
theorem Opens.mono {α:Type}{C:α→List D}{G:α→Prop}{m:Nat}(h:Opens enc P w base spare held bulk B n t C G)(hm:m≤n):Opens enc P w base spare held bulk B m t C G :=
 fun fuel cs x hf hx hb=>h fuel cs x (dW hf hm) hx hb
theorem Opens.zero {α:Type}{C:α→List D}{G:α→Prop}:Opens enc P w base spare held bulk B 0 t C G:=fun fuel cs x hf hx _=>by
 have:fuel=0:=by omega
 subst this
 simp [DataW.trod] at hx
theorem Opens.map {α β:Type}{C:α→List D}{G:α→Prop}{C':β→List D}{G':β→Prop}(h:Opens enc P w base spare held bulk B n t C G)(f:α→β)(hC:∀ a,C a=C' (f a))(hG:∀ a,G a→G' (f a)):Opens enc P w base spare held bulk B n t C' G' :=
 fun fuel cs x hf hx hb=>by
  obtain ⟨a,h1,h2,h3⟩:=h fuel cs x hf hx hb
  exact ⟨f a,hG a h1,by rw [← hC];exact h2,h3⟩
theorem kT {v:Value}{d:D}(h:RepV MM gS p7 w v d):RepL MM gS p7 w [v] [d] :=
 ⟨rfl,fun j u x hu hx=>by
  cases j with
  | zero=>simp at hu hx;subst hu;subst hx;exact h
  | succ j=>simp at hu⟩
theorem sJ {a b:List Value}{c d:List D}(h:RepL MM gS p7 w a c)(k:RepL MM gS p7 w b d):RepL MM gS p7 w (a++b) (c++d):=by
 refine ⟨by simp [h.len,k.len],fun j u x hu hx=>?_⟩
 by_cases hj:j<a.length
 ·rw [aS hj] at hu
  rw [aS (by rw [← h.len];exact hj)] at hx
  exact h.rep j u x hu hx
 ·rw [aZ (by omega)] at hu
  rw [aZ (by rw [← h.len];omega),← h.len] at hx
  exact k.rep _ u x hu hx
theorem LF (ht:P.underlying t=some .bool):Opens enc P w base spare held bulk B n t (fun b:Bool=>[D.bool b]) (fun _=>True):=fun fuel cs x _ hx _=>by
 obtain ⟨b,rfl,_⟩:=DataW.trod_bool ht hx
 exact ⟨b,trivial,kT (.bool b),by simp [Value.oneCell']⟩
theorem Gs {k:IntKind}(ht:P.underlying t=some (.int k)):Opens enc P w base spare held bulk B n t (fun z:Int=>[D.int k z]) (fun z=>(Lit.int k z).wf=true):=fun fuel cs x _ hx _=>by
 obtain ⟨z,rfl,_,hw⟩:=DataW.trod_int ht hx
 exact ⟨z,hw,kT (.int k z),by simp [Value.oneCell']⟩
theorem HV (hB:Bulk bulk)(ht:P.underlying t=some .string):Opens enc P w base spare held bulk B n t (fun s:ByteArray=>[D.str s]) (fun s=>s.size≤B):=fun fuel cs x _ hx hb=>by
 obtain ⟨s,rfl,rfl,hs⟩:=DataW.trod_string ht hx
 refine ⟨s,?_,kT (.str s),by simp [Value.oneCell']⟩
 have:=hB.str s.data.toList
 have hl:s.data.toList.length=s.size:=by rw [eW];rfl
 simp only at hb
 omega
theorem TT {α:Type}{C:α→List D}{G:α→Prop}{ad:Addr}{sz:Nat}:∀ (len:Nat),
  (∀ i,i<len→∃ c a,w.cells? base (ad.add (i * sz)) sz=some c∧G a∧RepL MM gS p7 w c (C a)∧∀ u∈c,u.oneCell'=true) →
  ∃ (l:List α) (xs:List Value),l.length=len∧(∀ a∈l,G a)∧RepL MM gS p7 w xs (l.map C).flatten∧(∀ u∈xs,u.oneCell'=true)∧xs.length=len * sz ∧
   (∀ (j:Nat) (u:Value),xs[j]?=some u→w.cell? (ad.add j)=some u)∧∀ c∈l.map C,c.length=sz
 | 0,_=>⟨[],[],rfl,by simp,⟨rfl,fun j u d hu=>by simp at hu⟩,by simp,by simp,by simp,by simp⟩
 | len+1,h=>by
  obtain ⟨l,xs,h1,h2,h3,h4,h5,h6,h7⟩:=TT len fun i hi=>h i (by omega)
  obtain ⟨c,a,hc,hg,hr,h1c⟩:=h len (by omega)
  obtain ⟨_,hcl,hcell⟩:=World.cells?_some hc
  refine ⟨l++[a],xs++c,by simp [h1],fun b hb=>?_,?_,fun u hu=>?_,by rw [aV,h5,hcl,Nat.succ_mul],fun j u hu=>?_,fun b hb=>?_⟩
  ·rcases aY.1 hb with h|h
   ·exact h2 b h
   ·simp at h;subst h;exact hg
  ·rw [List.map_append,j8]
   refine sJ h3 ?_
   simpa using hr
  ·rcases aY.1 hu with h|h
   ·exact h4 u h
   ·exact h1c u h
  ·by_cases hj:j<xs.length
   ·rw [aS hj] at hu;exact h6 j u hu
   ·rw [aZ (by omega)] at hu
    have hlt:j - xs.length<sz:=by rw [← hcl];exact (aL.1 hu).1
    have:=hcell (j - xs.length) hlt
    rw [Addr.add_add,hu] at this
    rwa [show len * sz+(j - xs.length)=j by omega] at this
  ·rw [List.map_append] at hb
   rcases aY.1 hb with h|h
   ·exact h7 b h
   ·simp at h;subst h;rw [← hr.len,hcl]
theorem fV (hB:Bulk bulk){e:TypeId}(ht:P.underlying t=some (.slice e)){α:Type}{C:α→List D}{G:α→Prop}(h:Opens enc P w base spare held bulk B n e C G) :
  Opens enc P w base spare held bulk B (n+1) t (fun l:List α=>[.list (l.map C)]) (fun l=>l.length≤B∧∀ a∈l,G a):=fun fuel cs x hf hx hb=>by
 rcases DataW.trod_slice ht hx with ⟨rfl,rfl⟩|⟨ad,len,cap,elems,rest,m,rfl,rfl,rfl,hbase,hlc,hcap,hlen,hel,_,_⟩
 ·exact ⟨[],⟨dF _,by simp⟩,kT .listN,by simp [Value.oneCell']⟩
 ·simp only at hb
  have hb1:=hB.len (elems.map (·.1)) (rest.map (·.1))
  rw [bW] at hb1
  obtain ⟨l,xs,h1,h2,h3,h4,h5,h6,h7⟩:=TT (w:=w) (base:=base) (C:=C) (G:=G) (ad:=ad) (sz:=P.cellsOf e) len fun i hi=>by
   have:=hel i hi
   rw [aA (by omega),Option.bind_eq_some_iff] at this
   obtain ⟨c,hc,hd⟩:=this
   obtain ⟨a,g1,g2,g3⟩:=h m c _ (by omega) hd (dW (hB.el _ (rest.map (·.1)) _ (bG.2 ⟨_,aC (by omega),rfl⟩)) hb)
   exact ⟨c,a,hc,g1,g2,g3⟩
  refine ⟨l,⟨by omega,h2⟩,kT ?_,by simp [Value.oneCell']⟩
  have key:=RepV.list (M:=MM) (σ:=gS) (N:=p7) (w:=w) ad cap (P.cellsOf e) xs (l.map C) (by rw [bW];omega) hcap h7 h3.len h4 (fun j u hu=>⟨fun h=>h,h6 j u hu⟩) h3.rep
  rw [bW,h1] at key
  exact key
def Ss (enc:TypeId × Value→H)(P:Program)(w:World)(base:Nat)(spare:Nat→Bool)(held:Bool)(bulk:DataW H→Nat)(B n:Nat):List TypeId→List Value→Prop
 | [],cs=>cs=[]
 | t :: ts,cs=>(∃ y,DataW.trod enc P w base spare held n t (cs.take (P.cellsOf t))=some y∧bulk y.1≤B)∧Ss enc P w base spare held bulk B n ts (cs.drop (P.cellsOf t))
def Iy (enc:TypeId × Value→H)(P:Program)(w:World)(base:Nat)(spare:Nat→Bool)(held:Bool)(bulk:DataW H→Nat)(B:Nat)(n:Nat)(ts:List TypeId){α:Type}(C:α→List D)(G:α→Prop):Prop :=
 ∀ (fuel:Nat) (cs:List Value),fuel≤n→Ss enc P w base spare held bulk B fuel ts cs→∃ a,G a∧RepL MM gS p7 w cs (C a)∧∀ u∈cs,u.oneCell'=true
theorem d9:Iy enc P w base spare held bulk B n [] (fun _:Unit=>[]) (fun _=>True):=fun fuel cs _ h=>by
 have h:cs=[]:=h
 subst h
 exact ⟨(),trivial,⟨rfl,fun j u d hu=>by simp at hu⟩,by simp⟩
theorem aU {ts:List TypeId}{α β:Type}{C:α→List D}{G:α→Prop}{C':β→List D}{G':β→Prop}(h:Opens enc P w base spare held bulk B n t C G)(k:Iy enc P w base spare held bulk B n ts C' G') :
  Iy enc P w base spare held bulk B n (t :: ts) (fun p:α × β=>C p.1++C' p.2) (fun p=>G p.1∧G' p.2):=fun fuel cs hf hs=>by
 obtain ⟨⟨y,hy,hyb⟩,hs⟩:=hs
 obtain ⟨a,a1,a2,a3⟩:=h fuel _ y hf hy hyb
 obtain ⟨b,b1,b2,b3⟩:=k fuel _ hf hs
 refine ⟨(a,b),⟨a1,b1⟩,?_,fun u hu=>?_⟩
 ·have:=sJ a2 b2
  rwa [List.take_append_drop] at this
 ·rw [← List.take_append_drop (P.cellsOf t) cs] at hu
  rcases aY.1 hu with h|h
  ·exact a3 u h
  ·exact b3 u h
def O0 (P:Program):Nat→List Field→Option Nat
 | o,[]=>some o
 | o,f :: r=>if f.offset=o then O0 P (o+P.cellsOf f.type) r else none
theorem Mu {fuel:Nat}{cs:List Value}:∀ (fs:List Field) (o:Nat),O0 P o fs=some cs.length →
  (∀ f∈fs,∃ y,DataW.trod enc P w base spare held fuel f.type ((cs.drop f.offset).take (P.cellsOf f.type))=some y∧bulk y.1≤B)→o≤cs.length∧Ss enc P w base spare held bulk B fuel (fs.map (·.type)) (cs.drop o)
 | [],o,ho,_=>by
  simp only [O0,aX] at ho
  subst ho
  exact ⟨bC _,by show cs.drop cs.length=[];simp⟩
 | f :: fs,o,ho,h=>by
  unfold O0 at ho
  split at ho
  ·rename_i hof
   subst hof
   obtain ⟨h1,h2⟩:=Mu fs _ ho fun g hg=>h g (by simp [hg])
   refine ⟨by omega,?_⟩
   refine ⟨h f (by simp),?_⟩
   rw [List.drop_drop]
   exact h2
  ·cases ho
theorem dB (hB:Bulk bulk){fs:Array Field}(ht:P.underlying t=some (.struct fs))(ho:O0 P 0 fs.toList=some (P.cellsOf t)){α:Type}{C:α→List D}{G:α→Prop}(h:Iy enc P w base spare held bulk B n (fs.toList.map (·.type)) C G) :
  Opens enc P w base spare held bulk B (n+1) t C G:=fun fuel cs x hf hx hb=>by
 obtain ⟨xs,m,rfl,rfl,hcl,hxl,hfl⟩:=DataW.trod_struct ht hx
 simp only at hb
 have hs:=(Mu (enc:=enc) (P:=P) (w:=w) (base:=base) (spare:=spare) (held:=held) (bulk:=bulk) (B:=B) (fuel:=m) (cs:=cs) fs.toList 0 (by rw [hcl];exact ho) fun f hfm=>by
  obtain ⟨i,hi,rfl⟩:=aO hfm
  have hi':i<fs.size:=by simpa using hi
  have hfi:=hfl i (fs.toList[i]) (by simp [hi'])
  rw [aA (by omega)] at hfi
  exact ⟨_,hfi,dW (hB.part _ _ (bG.2 ⟨_,aC (by omega),rfl⟩)) hb⟩).2
 rw [List.drop_zero] at hs
 exact h m cs (by omega) hs
theorem nY {r:Reach}{b0:Nat}{fs:Array Field}{v:Value}{d:DataW H}{ps:List MemPlace}{α:Type}{C:α→List D}{G:α→Prop}(ht:P.underlying t=some (.struct fs))(h:∀ n,Opens enc P w base spare held bulk B n t C G)
  (hval:Value.okWide P w r b0 t v) (hd:DataW.Trod enc P w base spare held t v d ps) (hb:bulk d≤B):∃ a,G a∧RepV MM gS p7 w v (.agg (C a)):=by
 obtain ⟨cs,rfl,_⟩:=okWide_struct ht hval
 obtain ⟨fuel,hf⟩:=hd
 obtain ⟨a,h1,h2,h3⟩:=h fuel fuel _ _ (bC _) hf hb
 have hc:(Value.agg cs).cells.toList=cs.toList:=rfl
 rw [hc] at h2 h3
 have:=RepV.agg (M:=MM) (σ:=gS) (N:=p7) (w:=w) cs.toList (C a) h2.len h3 h2.rep
 exact ⟨a,h1,by simpa using this⟩
theorem xT (hl:laidOutB P=true){W W':World}{sp':Nat→Bool}(hb:Below W.heap.size W W'):∀ {ts:List TypeId} {vs:List Value} {ds:List (DataW H)} {ps:List MemPlace},(∀ t∈ts,P.readableRec t=true∧t<P.types.size) →
  DataW.TrodAll enc P W 0 (fun _=>true) true ts vs ds ps→(∀ x∈ps,x.block<W.heap.size)→(∀ x∈ps,sp' x.block=true)→DataW.TrodAll enc P W' 0 sp' true ts vs ds ps
 | [],_,_,_,_,h,_,_=>by
  obtain ⟨rfl,rfl,rfl⟩:=trodAll_nil h
  rfl
 | t :: ts,_,_,_,hr,h,hlt,hs=>by
  obtain ⟨v,vs,d,ds,p,q,rfl,rfl,rfl,h1,h2⟩:=trodAll_cons h
  refine ⟨p,q,WideElems.Trod_stays hl (hr t (by simp)).1 (hr t (by simp)).2 h1 (fun x hx=>hb.same (hlt x (by simp [hx]))) (fun x hx=>hs x (by simp [hx])),xT hl hb (fun u hu=>hr u (by simp [hu])) h2 (fun x hx=>hlt x (by simp [hx])) (fun x hx=>hs x (by simp [hx])),rfl⟩
theorem yC (hl:laidOutB P=true){f:Func}{s:ChangeSpec}{apart fresh handsOn again:Bool}{W W':World}{args:Array Value}{v:Value}{ds gs:List (DataW H)}{before:List MemPlace}
  (hr:∀ t∈f.params.toList,P.readableRec t=true∧t<P.types.size) (hvars:s.vars=[]) (hW:DataW.Whole enc P f.params.toList s.vars apart W args.toList ds gs before)
  (hres:∀ (b:Nat) (sp:Nat→Bool) (hd:Bool),DataW.TrodAll enc P W' b sp hd f.resultTypes.toList (v.resultList f.resultTypes.size) (s.fn H (ds++gs)).results [])
  (hargs:(s.fn H (ds++gs)).args=ds) (hvs:(s.fn H (ds++gs)).vars=[]) (hb:Below W.heap.size W W')
  (hok:∀ (j:Nat) (t:TypeId) (r:Value),f.resultTypes[j]?=some t→(v.resultList f.resultTypes.size)[j]?=some r→Value.okWide P W' .any 0 t r) :
  s.post enc P f apart fresh handsOn again W args v W':=by
 have hW':=hW
 obtain ⟨p,q,hA,hV,rfl,hz,hn⟩:=hW
 rw [hvars] at hV
 obtain ⟨rfl,rfl⟩:=trodVars_none hV
 rw [dJ] at hW' hz hn
 have hlt:∀ x∈p,x.block<W.heap.size:=fun x hx=>by simpa using hW'.lt x hx
 have hTr:∀ sp:Nat→Bool,(∀ x∈p,sp x.block=true)→DataW.TrodAll enc P W' 0 sp true f.params.toList args.toList (s.fn H (ds++[])).args p:=fun sp hs=>by
  rw [hargs];exact xT hl hb hr hA hlt hs
 have hVr:∀ sp:Nat→Bool,DataW.TrodVars enc P W' sp s.vars (s.fn H (ds++[])).vars []:=fun sp=>by rw [hvars,hvs];rfl
 refine ⟨ds,[],p,[],p,[],hW',hres _ _ _,hTr _ (fun x hx=>by simpa using hlt x hx),hVr _,World.keptBut_mono (fun x hx=>⟨hx,.inr (by simpa using hx)⟩) (hb.frame (·∈p)),fun _=>?_⟩
 refine ⟨hok,_,_,([]++p)++[],⟨[]++p,[],trodAll_append (hTr _ (fun _ _=>rfl)) (hres _ _ _),hVr _,rfl,?_,?_⟩,?_⟩
 ·intro b off hp
  have hp':MemPlace.cell b off∈p:=by simpa using hp
  have:=hz b off hp'
  rw [← this]
  exact hb.frozen (hlt _ hp')
 ·intro ha
  simpa using hn ha
 ·intro x hx _
  simpa using hx
end
end Go.Abs
end
