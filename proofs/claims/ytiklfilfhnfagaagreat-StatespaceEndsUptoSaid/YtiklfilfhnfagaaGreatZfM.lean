/- Layer 26 of the reference: rules, places, the match, what re -/
import Derived.Test.YtiklfilfhnfagaaGreatZfL
import Derived.Test.YtiklfilfhnfagaaGreatZfE
import Derived.Test.YtiklfilfhnfagaaGreatZfG
import Derived.Test.YtiklfilfhnfagaaGreatZfA
import Derived.Carry
import Derived.ChangeArms
import Derived.WideShapes
import Derived.DataElems
import Derived.OpenShut
import Derived.Laws.Externs
set_option linter.unusedVariables false
set_option linter.unusedSimpArgs false
section
set_option maxRecDepth 100000
set_option maxHeartbeats 4000000
open Go Go.Proofs
namespace Go.Abs
structure RuleV (t:Types) (r:Rule):Prop where
 vf:(cJ t).2=0
 pl:PatOk t r.left
 gr:graphF r.right.graph=0
 tr:iL t r.right.graph=true
 sub:subF r.left.graph r.keep=0
 mo:fH (dN r.left.graph r.keep) r.right.graph r.into=0
 inj:KB (dN r.left.graph r.keep) r.right.graph r.into=true
 mkb:EU t r.right.graph r.freshN r.freshE=true
 vars:r.right.vars=r.left.vars
 few:r.right.slots.length≤10
 slot:∀ s∈r.right.slots,kH t r.right s=0
 cond:CondV t r.left r.cond
 kl:r.keep.nodes.length≤1000000∧r.keep.edges.length≤1000000
theorem Wf {t:Types}{r:Rule}(hr:r.ok)(h:ruleF t r=0):RuleV t r:=by
 unfold ruleF at h
 split at h
 ·rename_i h1;exact absurd h h1
 ·rename_i h1
  split at h
  ·cases h
  ·split at h
   ·rename_i h3;exact absurd h h3
   ·rename_i h3
    split at h
    ·rename_i h4;exact absurd h h4
    ·rename_i h4
     split at h
     ·rename_i h5;exact absurd h h5
     ·rename_i h5
      split at h
      ·cases h
      ·rename_i h6
       rw [j8] at h1 h3 h4 h5
       have hR:=G6 h4
       unfold mT at h4
       rw [if_neg (by omega),if_neg (by simp [hR.2])] at h4
       split at h4
       ·cases h4
       ·rename_i h7
        split at h4
        ·cases h4
        ·rename_i h8
         have hk:subF r.left.graph r.keep=0∧fH (dN r.left.graph r.keep) r.right.graph r.into=0∧KB (dN r.left.graph r.keep) r.right.graph r.into=true:=by
          unfold keptF at h5
          split at h5
          ·rename_i q;exact absurd h5 q
          ·rename_i q
           split at h5
           ·rename_i q2;exact absurd h5 q2
           ·rename_i q2
            split at h5
            ·cases h5
            ·rename_i q3;exact ⟨by omega,by omega,by simpa using q3⟩
         unfold condF at h
         rw [if_neg (by omega)] at h
         split at h
         ·rename_i q;exact absurd h q
         ·rename_i h9
          refine ⟨h1,J9 (.inr h3),hR.1,hR.2,hk.1,hk.2.1,hk.2.2,by simpa using h6,by omega,by omega,fun s hs=>?_,⟨?_,h,hr.size⟩,hr.k1,hr.k2⟩
          ·obtain ⟨i,hi,rfl⟩:=aM hs
           have:=eJ _ _ h4 i (dE _) (by omega)
           rw [GY hi] at this
           split at this
           ·cases this
           ·rename_i q;exact j8.1 q
          ·rw [j8] at h9
           unfold zR at h9
           split at h9
           ·cases h9
           ·rename_i q;simpa using q
theorem RuleV.keep {t:Types}{r:Rule}(h:RuleV t r):(r.keep.nodes.length=r.into.nodes.length∧r.keep.edges.length=r.into.edges.length)∧(∀ x∈r.keep.nodes,0≤x∧x<r.left.graph.nodes.length)∧(∀ x∈r.keep.edges,0≤x∧x<r.left.graph.edges.length) ∧
  (∀ x∈r.into.nodes,0≤x∧x<r.right.graph.nodes.length)∧∀ x∈r.into.edges,0≤x∧x<r.right.graph.edges.length:=by
 obtain ⟨h1,h2,h3,h4⟩:=Dz h.sub
 obtain ⟨_,_,h5,h6⟩:=mW h.mo
 obtain ⟨h7,h8⟩:=yE h.mo
 have e1:(dN r.left.graph r.keep).nodes.length=r.keep.nodes.length:=by unfold dN;rw [if_pos h.sub];simp
 have e2:(dN r.left.graph r.keep).edges.length=r.keep.edges.length:=by unfold dN;rw [if_pos h.sub];simp
 exact ⟨⟨by omega,by omega⟩,h3,h4,h7,h8⟩
theorem RuleV.slots {t:Types}{r:Rule}(h:RuleV t r):∀ s∈r.right.slots,(0≤s.node∧s.node<r.right.graph.nodes.length)∧(0≤s.attr∧s.attr<(cN t (r.right.graph.nodes[s.node.toNat]?.getD 0)).length)∧rL s.term r.left.vars.toNat:=fun s hs=>by
 have:=h.slot s hs
 have hv:=h.pl.vars
 have he:=h.vars
 unfold kH at this
 split at this
 ·rename_i h1
  simp only [aQ,pV,decide_eq_true_eq,inF,Pattern.kind] at h1
  exact ⟨h1.1.1.1,⟨h1.1.1.2.1,of_decide_eq_true h1.1.1.2.2⟩,⟨by omega,by omega⟩,by omega,by omega⟩
 ·cases this
theorem uY (l:List Int)(k:Nat)(v:Int):jT l (k+1) v=if l[k]?.getD (-1)=v then (k:Int) else jT l k v:=by unfold jT;rw [iG]
theorem FT (l:List Int)(v:Int):∀ n,-1≤jT l n v∧jT l n v<n
 | 0=>by simp [jT]
 | n+1=>by
  have:=FT l v n
  rw [uY];split<;>omega
theorem M3 (l:List Int)(v:Nat):xR l (v+1)=xR l v++[jT l l.length v]:=by simp [xR,cA]
theorem t8 (l:List Int)(v:Nat):(xR l v).length=v:=by simp [xR]
theorem Cp (l:List Int){n i:Nat}(h:i<n):(xR l n)[i]?=some (jT l l.length i):=by simp [xR,h]
theorem O8 (into:List Int)(i:Nat):BX into (i+1)=BX into i+if jT into into.length i<0 then 1 else 0:=by
 unfold BX;rw [cA,eU,aT]
 congr 1
 simp only [List.filter_cons,List.filter_nil]
 split<;>simp_all
theorem O7 (into:List Int):BX into 0=0:=rfl
theorem So (into:List Int)(i:Nat):BX into i≤i:=by
 unfold BX;exact cQ (fJ _ _) (by simp)
theorem MU {t:Types}{p g:Graph}{m:Part}{inj:Bool}(h:fY t p g m inj=0):fY t p g m false=0:=by
 unfold fY at h ⊢
 split at h
 ·exact absurd h (by assumption)
 ·rename_i h1
  rw [if_neg h1]
  unfold jW at h ⊢
  split at h
  ·cases h
  ·rename_i h2
   rw [if_neg h2]
   split at h
   ·exact absurd h (by assumption)
   ·rename_i h3
    rw [if_neg h3]
    split at h
    ·exact absurd h (by assumption)
    ·rename_i h4
     rw [if_neg h4,if_neg (by simp)]
theorem Oy {t:Types}{p:Pattern}{h:Host}{m:Part}(h0:(eZ t p h m).2=0):PatOk t p∧HostOk t h∧fY t p.graph h.graph m false=0∧eZ t p h m=gH p h m []:=by
 unfold eZ at h0 ⊢
 split at h0
 ·exact absurd h0 (by assumption)
 ·rename_i h1
  split at h0
  ·exact absurd h0 (by assumption)
  ·rename_i h2
   split at h0
   ·exact absurd h0 (by assumption)
   ·rename_i h3
    rw [j8] at h1 h2 h3
    rw [if_neg (by omega),if_neg (by omega),if_neg (by omega)]
    exact ⟨J9 (.inr h1),Fh h2,h3,rfl⟩
theorem OS (c:Part)(vs:List Int)(l:List Slot)(s:Slot)(vals:List (List Int)):yT c vs (l++[s]) vals=(yT c vs l vals).set (iI c s) (((yT c vs l vals)[iI c s]?.getD []).set s.attr.toNat (dD s.term vs)):=by unfold yT;rw [cG];rfl
theorem wR (c:Part)(vs:List Int):∀ (l:List Slot) (vals:List (List Int)),(yT c vs l vals).length=vals.length∧∀ n:Nat,((yT c vs l vals)[n]?.getD []).length=(vals[n]?.getD []).length
 | [],vals=>⟨rfl,fun _=>rfl⟩
 | s :: l,vals=>by
  obtain ⟨h1,h2⟩:=wR c vs l (vals.set (iI c s) ((vals[iI c s]?.getD []).set s.attr.toNat (dD s.term vs)))
  have e:yT c vs (s :: l) vals=yT c vs l (vals.set (iI c s) ((vals[iI c s]?.getD []).set s.attr.toNat (dD s.term vs))):=rfl
  rw [e]
  refine ⟨by rw [h1,fI],fun n=>?_⟩
  rw [h2 n,bR]
  split
  ·rename_i hn
   subst hn
   split
   ·simp
   ·rename_i hn;rw [bA (by omega)]
  ·rfl
def FK (c:Part)(vs:List Int)(l:List Slot)(i k:Nat):Bool:=match l[k]?,l[i]? with|some a,some b=>FN c vs a b|_,_=>false
theorem Cl (c:Part)(vs:List Int)(l:List Slot):Ai c vs l=(List.range l.length).any fun i=>(List.range i).any fun k=>FK c vs l i k:=rfl
structure PutOk (t:Types) (r:Rule) (x:Host) (c:Part):Prop where
 cl:c.nodes.length=r.right.graph.nodes.length
 few:x.graph.nodes.length≤2000∧x.graph.edges.length≤2000∧x.values.length≤2000
 spot:∀ s∈r.right.slots,0≤c.nodes[s.node.toNat]?.getD 0∧iI c s<x.values.length∧iI c s<x.graph.nodes.length
 attr:∀ s∈r.right.slots,s.attr<(x.values[iI c s]?.getD []).length∧s.attr<(cN t (x.graph.nodes[iI c s]?.getD 0)).length
theorem HQ {l:List Int}(hn:l.Nodup){p:Nat}(hp:p<l.length):∀ n,n≤l.length→jT l n l[p]=if p<n then (p:Int) else -1
 | 0,_=>rfl
 | n+1,h=>by
  rw [uY,HQ hn hp n (by omega),aA (by omega),aF]
  by_cases he:n=p
  ·subst he;rw [if_pos rfl,if_pos (by omega)]
  ·rw [if_neg (fun e=>he ((GP hn).1 e))]
   by_cases h2:p<n
   ·rw [if_pos h2,if_pos (by omega)]
   ·rw [if_neg h2,if_neg (by omega)]
theorem xS {l:List Int}(hn:l.Nodup){p:Nat}(hp:p<l.length):jT l l.length l[p]=p:=by rw [HQ hn hp _ (aL _),if_pos hp]
theorem yP {l:List Int}{v:Int}(h:v∉l):∀ n,n≤l.length→jT l n v = -1
 | 0,_=>rfl
 | n+1,hl=>by
  rw [uY,yP h n (by omega),aA (by omega),aF,if_neg]
  exact fun e=>h (e ▸ aC _)
theorem HR {l:List Int}(hn:l.Nodup)(v:Int):decide (jT l l.length v<0) = !mem l v:=by
 by_cases h:v∈l
 ·obtain ⟨p,hp,rfl⟩:=aM h
  rw [xS hn hp,(mem_iff _ _).2 h];simp
 ·rw [yP h _ (aL _),eE.2 fun hm=>h ((mem_iff _ _).1 hm)];rfl
theorem NE {l:List Int}(hn:l.Nodup)(i:Nat):BX l i=(cV l i).length:=by
 unfold BX cV
 rw [bM]
 congr 1
 exact List.filter_congr fun j _=>HR hn j
theorem Hb {l:List Int}:∀ (n j:Nat),j<n→mem l j=false→(cV l n)[(cV l j).length]?=some (j:Int)
 | n+1,j,hj,hm=>by
  rw [uO]
  by_cases h:j=n
  ·subst h
   rw [if_neg (by rw [hm];simp),bE (aL _)];simp
  ·have:=Hb n j (by omega) hm
   rw [aX (aI.1 this).1];exact this
theorem Cv {l:List Int}(h:l.Pairwise (· < ·)):l.Nodup:=h.imp fun h=>by omega
structure StepIn (t:Types) (r:Rule) (h:Host) (m:Mat):Prop where
 hR:RuleV t r
 ho:HostOk t h
 hm:MOk t r.left.graph h.graph m.m
 hc:xM (xC r.left.graph h.graph m.m) h.graph r.keep m.m=0
section
variable {t:Types} {r:Rule} {h:Host} {m:Mat}
theorem TR (hR:RuleV t r)(ho:HostOk t h)(hp:BU t r h m=0):StepIn t r h m:=by
 unfold BU at hp
 split at hp
 ·cases hp
 ·rename_i h1
  split at hp
  ·exact absurd hp (by assumption)
  ·split at hp
   ·cases hp
   ·exact ⟨hR,ho,zY (Cn (by simpa using h1)).2,hp⟩
theorem StepIn.rest (S:StepIn t r h m):cX r h m=⟨cV (nC m.m.nodes r.keep.nodes) h.graph.nodes.length,cV (nC m.m.edges r.keep.edges) h.graph.edges.length⟩:=by unfold cX zK;rw [if_pos S.hc]
theorem StepIn.sub (S:StepIn t r h m):subF h.graph (cX r h m)=0:=SN S.hc
theorem StepIn.nasc (S:StepIn t r h m):(cX r h m).nodes.Pairwise (· < ·):=by rw [S.rest];exact r6 _ _
theorem StepIn.easc (S:StepIn t r h m):(cX r h m).edges.Pairwise (· < ·):=by rw [S.rest];exact r6 _ _
theorem StepIn.nin (S:StepIn t r h m):∀ x∈(cX r h m).nodes,0≤x∧x<h.graph.nodes.length:=(Dz S.sub).2.2.1
theorem StepIn.ein (S:StepIn t r h m):∀ x∈(cX r h m).edges,0≤x∧x<h.graph.edges.length:=(Dz S.sub).2.2.2
theorem StepIn.len (S:StepIn t r h m):(cX r h m).nodes.length≤40∧(cX r h m).edges.length≤80:=by
 have hg:=c9 S.ho.gg
 have h1:=Rv S.nasc S.nin
 have h2:=Rv S.easc S.ein
 omega
theorem StepIn.dup (S:StepIn t r h m):uV m.m.nodes r.keep.nodes=[]∧uV m.m.edges r.keep.edges=[]:=⟨(IV S.hc).2.2.1,(IV S.hc).2.2.2.1⟩
theorem StepIn.keptN (S:StepIn t r h m){k:Int}(hk:k∈r.keep.nodes):iA m.m.nodes k∈(cX r h m).nodes:=by
 have hK:=S.hR.keep
 have hl:=S.hm.len
 have hr:=hK.2.1 k hk
 have h1:=yG S.dup.1 hr.1 (by omega) hk
 rw [S.rest]
 have h2:=(S.hm.img k.toNat (by omega) (by omega)).1
 have e:iA m.m.nodes k=m.m.nodes[k.toNat]'(by omega):=by unfold iA;rw [aA (by omega)];rfl
 exact lJ.2 ⟨by rw [e];exact h2,h1⟩
theorem StepIn.bareN (S:StepIn t r h m):(cY t r h m).graph.nodes=(cX r h m).nodes.map (gN h.graph)++r.freshN.map (gN r.right.graph):=by
 unfold cY AY dN;rw [if_pos S.sub]
theorem StepIn.bareE (S:StepIn t r h m):(cY t r h m).graph.edges=(cX r h m).edges.map (gEd h.graph (cX r h m))++r.freshE.map (fun k=>freshE (pO r h m) (r.right.graph.edges[k.toNat]?.getD cC)):=by
 unfold cY AY dN;rw [if_pos S.sub]
theorem TB:(cY t r h m).values=(cX r h m).nodes.map (fun k=>h.values[k.toNat]?.getD [])++r.freshN.map (fun k=>qY t (gN r.right.graph k)):=rfl
theorem StepIn.intoN (S:StepIn t r h m):r.into.nodes.Nodup∧r.into.edges.Nodup:=by
 have:=S.hR.inj
 unfold KB at this
 simp only [aQ,decide_eq_true_eq] at this
 exact this.2
theorem StepIn.kept_type (S:StepIn t r h m){p:Nat}(hp:p<r.into.nodes.length)(hq:p<r.keep.nodes.length):gN r.right.graph r.into.nodes[p]=gN r.left.graph r.keep.nodes[p]:=by
 have e1:(dN r.left.graph r.keep).nodes.length=r.keep.nodes.length:=by unfold dN;rw [if_pos S.hR.sub];simp
 have hmn:=(Me S.hR.mo (i:=(p:Int)) (by omega) (by omega)).2
 rw [IQ S.hR.sub (by omega) (by omega)] at hmn
 simpa [iA,aA hp,aA hq] using hmn
theorem StepIn.com (S:StepIn t r h m){i:Nat}(hi:i<r.right.graph.nodes.length):∃ n:Nat,(pO r h m).nodes[i]?=some (n:Int)∧∃ hn:n<(cY t r h m).graph.nodes.length,yY t r.right.graph.nodes[i] ((cY t r h m).graph.nodes[n])=true:=by
 obtain ⟨hK1,hK2,hK3,hK4,hK5⟩:=S.hR.keep
 have hml:=S.hm.len
 have hin:=S.intoN.1
 have hcm:(pO r h m).nodes[i]?=some (MH r.keep.nodes r.into.nodes (u6 m.m.nodes (nI r h m).nodes) (cX r h m).nodes.length i):=by
  unfold pO PB;simp [hi]
 rw [hcm]
 have hb:=S.bareN
 have hvt:=mJ S.hR.vf
 have hri:=(oI S.hR.gr S.hR.tr).1 _ (aC hi)
 by_cases hm:(i:Int)∈r.into.nodes
 ·obtain ⟨p,hp,he⟩:=aM hm
  have hq:p<r.keep.nodes.length:=by omega
  have hkr:=hK2 _ (aC hq)
  have hkm:r.keep.nodes[p].toNat<m.m.nodes.length:=by omega
  have hD:=S.keptN (aC hq)
  obtain ⟨n,hn,hne⟩:=aM hD
  have hv:=S.nin _ (aC hn)
  have hiA:iA m.m.nodes r.keep.nodes[p]=m.m.nodes[r.keep.nodes[p].toNat]:=by unfold iA;rw [aA hkm];rfl
  have hco:MH r.keep.nodes r.into.nodes (u6 m.m.nodes (nI r h m).nodes) (cX r h m).nodes.length i=n:=by
   unfold MH
   rw [← he,xS hin hp,if_pos (by omega)]
   rw [show (p:Int).toNat=p by omega,aA hq,aF]
   unfold u6 nI qK
   rw [aN,aA hkm,dK,aF]
   rw [← hiA,← hne]
   simp only
   rw [Cp _ (by omega),aF,show (((cX r h m).nodes[n].toNat:Nat):Int)=(cX r h m).nodes[n] by omega,xS (Cv S.nasc) hn]
  refine ⟨n,by rw [hco],by rw [hb];simp;omega,?_⟩
  have hty:=S.kept_type hp hq
  rw [he] at hty
  have hgr:gN r.right.graph (i:Int)=r.right.graph.nodes[i]:=by simp [gN,aA hi]
  have hkl:r.keep.nodes[p].toNat<r.left.graph.nodes.length:=by omega
  have hgl:gN r.left.graph r.keep.nodes[p]=r.left.graph.nodes[r.keep.nodes[p].toNat]:=by simp [gN,aA hkl]
  rw [hgr,hgl] at hty
  rw [hty]
  have hbel:=(S.hm.img _ hkm hkl).2
  have hx:(cY t r h m).graph.nodes[n]?=some (h.graph.nodes[(m.m.nodes[r.keep.nodes[p].toNat]).toNat]?.getD 0):=by
   rw [hb,aX (by simpa using hn),aN,aA hn,dK,hne,hiA];rfl
  obtain ⟨_,hx2⟩:=aI.1 hx
  rw [hx2];exact hbel
 ·have hmf:mem r.into.nodes i=false:=eE.2 fun h=>hm ((mem_iff _ _).1 h)
  have hco:MH r.keep.nodes r.into.nodes (u6 m.m.nodes (nI r h m).nodes) (cX r h m).nodes.length i=(((cX r h m).nodes.length+(cV r.into.nodes i).length:Nat):Int):=by
   unfold MH
   rw [if_neg (by rw [yP hm _ (aL _)];omega),NE hin]
  have hoa:=Hb r.right.graph.nodes.length i hi hmf
  have hlt:(cV r.into.nodes i).length<r.freshN.length:=(aI.1 hoa).1
  refine ⟨(cX r h m).nodes.length+(cV r.into.nodes i).length,by rw [hco],by rw [hb];simp;omega,?_⟩
  have hx:(cY t r h m).graph.nodes[(cX r h m).nodes.length+(cV r.into.nodes i).length]?=some r.right.graph.nodes[i]:=by
   rw [hb,bE (by simp),bM,sY,aN]
   have:r.freshN[(cV r.into.nodes i).length]?=some (i:Int):=hoa
   rw [this];simp [gN,aA hi]
  obtain ⟨_,hx2⟩:=aI.1 hx
  rw [hx2]
  unfold yY
  have:=Ph hvt (a:=(r.right.graph.nodes[i]).toNat) (by omega)
  rw [show (((r.right.graph.nodes[i]).toNat:Nat):Int)=r.right.graph.nodes[i] by omega] at this
  exact this
theorem StepIn.vlen (S:StepIn t r h m):(cY t r h m).values.length=(cY t r h m).graph.nodes.length:=by rw [S.bareN,TB];simp
theorem QO {k:Int}(hv:(cJ t).2=0)(h0:0≤k)(h1:k<t.nodes.length)(ha:Br t k.toNat=false):kA t k (qY t k)=0:=by
 unfold kA
 rw [if_neg (by omega),if_neg (by rw [ha];simp),if_neg (by simp [qY])]
 refine oS _ _ fun j _ hj=>?_
 have hj':j<(cN t k).length:=by omega
 unfold IA qY
 rw [aN,aA hj',dK,aF,aF,if_neg]
 have:=(Bn hv k _ (aC hj')).le
 omega
theorem StepIn.fresh_node (S:StepIn t r h m):∀ k∈r.freshN,(0≤gN r.right.graph k∧gN r.right.graph k<t.nodes.length)∧Br t (gN r.right.graph k).toNat=false:=fun k hk=>by
 have hr:=nA hk
 have hin:=(oI S.hR.gr S.hR.tr).1 _ (Q2 hr.1 hr.2)
 refine ⟨hin,?_⟩
 have:=S.hR.mkb
 unfold EU at this
 rw [aQ,cH,mI] at this
 have h1:=this.1 k hk
 unfold absB at h1
 unfold Br
 rw [aA (show (gN r.right.graph k).toNat<t.nodes.length by omega)] at h1 ⊢
 simpa using h1
theorem StepIn.node (S:StepIn t r h m):∀ (n:Nat) (h1:n<(cY t r h m).graph.nodes.length) (h2:n<(cY t r h m).values.length),kA t (cY t r h m).graph.nodes[n] (cY t r h m).values[n]=0:=fun n h1 h2=>by
 have e1:=S.bareN
 have e2:(cY t r h m).values=_:=TB
 have g1:(cY t r h m).graph.nodes[n]?=some (cY t r h m).graph.nodes[n]:=aA h1
 have g2:(cY t r h m).values[n]?=some (cY t r h m).values[n]:=aA h2
 generalize (cY t r h m).graph.nodes[n]=x at *
 generalize (cY t r h m).values[n]=y at *
 rw [e1] at g1;rw [e2] at g2
 by_cases hn:n<(cX r h m).nodes.length
 ·rw [aX (by simpa using hn),aN,aA hn] at g1 g2
  simp only [dK,aY] at g1 g2
  have hv:=S.nin _ (aC hn)
  have hl:=S.ho.vl
  have a1:(cX r h m).nodes[n].toNat<h.graph.nodes.length:=by omega
  have a2:(cX r h m).nodes[n].toNat<h.values.length:=by omega
  rw [aA a2] at g2
  unfold gN at g1
  rw [aA a1] at g1
  have:=S.ho.nd _ a1 a2
  rw [← g1,← g2];exact this
 ·have l1:((cX r h m).nodes.map (gN h.graph)).length=(cX r h m).nodes.length:=by simp
  have l2:((cX r h m).nodes.map fun k=>h.values[k.toNat]?.getD []).length=(cX r h m).nodes.length:=by simp
  rw [bE (by omega),l1,aN,bC] at g1
  rw [bE (by omega),l2,aN,bC] at g2
  obtain ⟨k,hk,rfl⟩:=g1
  obtain ⟨k',hk',rfl⟩:=g2
  rw [hk] at hk';cases hk'
  obtain ⟨⟨b1,b2⟩,b3⟩:=S.fresh_node k (aJ hk)
  exact QO S.hR.vf b1 b2 b3
theorem StepIn.bin (S:StepIn t r h m):∀ a∈(cY t r h m).graph.nodes,0≤a∧a<t.nodes.length:=fun a ha=>by
 rw [S.bareN,aW,aS,aS] at ha
 rcases ha with ⟨k,hk,rfl⟩|⟨k,hk,rfl⟩
 ·exact CX S.ho _ (Q2 (S.nin k hk).1 (S.nin k hk).2)
 ·exact (S.fresh_node k hk).1
theorem StepIn.put (S:StepIn t r h m):PutOk t r (cY t r h m) (pO r h m):=by
 have hl:=S.len
 have hg:=c9 S.hR.gr
 have hf1:r.freshN.length≤r.right.graph.nodes.length:=r5 _ _
 have hf2:r.freshE.length≤r.right.graph.edges.length:=r5 _ _
 have hN:(cY t r h m).graph.nodes.length≤80:=by rw [S.bareN];simp;omega
 have hE:(cY t r h m).graph.edges.length≤160:=by rw [S.bareE];simp;omega
 have hV:=S.vlen
 have key:∀ s∈r.right.slots,∃ n:Nat,(pO r h m).nodes[s.node.toNat]?=some (n:Int)∧∃ hn:n<(cY t r h m).graph.nodes.length,s.attr<(cN t (cY t r h m).graph.nodes[n]).length:=fun s hs=>by
  obtain ⟨⟨a1,a2⟩,a3,a4⟩:=S.hR.slots s hs
  have hi:s.node.toNat<r.right.graph.nodes.length:=by omega
  obtain ⟨n,e1,hn,e2⟩:=S.com hi
  refine ⟨n,e1,hn,?_⟩
  rw [aA hi,aF] at a3
  have hri:=(oI S.hR.gr S.hR.tr).1 _ (aC hi)
  have hno:=(tQ (S.node n hn (by omega))).1
  have hn0:=(S.bin _ (aC hn)).1
  rw [qF S.hR.vf hri.1 hri.2] at a3
  rw [qF S.hR.vf hn0 hno]
  unfold yY at e2
  obtain ⟨u,hu⟩:=HV (mJ S.hR.vf) ((cY t r h m).graph.nodes[n]).toNat (by omega) (r.right.graph.nodes[s.node.toNat]).toNat (by rw [Int.toNat_of_nonneg hri.1];exact e2)
  rw [hu,aT];omega
 refine ⟨by simp [pO,PB],⟨by omega,by omega,by omega⟩,fun s hs=>?_,fun s hs=>?_⟩
 ·obtain ⟨n,e1,hn,e2⟩:=key s hs
  have:iI (pO r h m) s=n:=by unfold iI;rw [e1];simp
  rw [this,e1]
  exact ⟨by simp,by omega,hn⟩
 ·obtain ⟨n,e1,hn,e2⟩:=key s hs
  have:iI (pO r h m) s=n:=by unfold iI;rw [e1];simp
  have hnv:n<(cY t r h m).values.length:=by omega
  rw [this,aA hnv,aA hn,aF,aF]
  have:=(tQ (S.node n hn hnv)).2.2.1
  exact ⟨by omega,e2⟩
end
def uN:Pattern:=⟨⟨[],[]⟩,[],0,[]⟩
def rW:Rule:=⟨⟨#[]⟩,uN,uN,⟨[],[]⟩,⟨[],[]⟩,false,.mk 0 [] ⟨[],[]⟩ uN⟩
def rO:Stp26:=⟨rW,mB,⟨⟨[],[]⟩,[]⟩,⟨⟨[],[]⟩,[]⟩,⟨[],[]⟩,⟨[],[]⟩⟩
def D9 (t:Types)(r:Rule)(h:Host)(m:Mat):Stp26:=if Dt t r h m=0 then Ic t r h m else rO
@[go_sem] theorem Stp26.cl (s:Stp26):D.clL s.c=true:=by
 simp [Stp26.c,FO,Rule.cl,Mat.cl,Lt,D.clL,mC]
section
variable {t:Types} {r:Rule} {h:Host} {m:Mat}
theorem StepIn.ex (S:StepIn t r h m)(hh:eR t h=0):Zu t h (cX r h m)=⟨dN h.graph (cX r h m),(cX r h m).nodes.map fun k=>h.values[k.toNat]?.getD []⟩:=by
 unfold Zu;rw [if_pos]
 unfold Zv;rw [if_neg (by omega)];exact S.sub
theorem StepIn.eimg (S:StepIn t r h m):(∀ x∈m.m.nodes,0≤x∧x<h.graph.nodes.length)∧∀ x∈m.m.edges,0≤x∧x<h.graph.edges.length:=by
 refine ⟨fun x hx=>?_,fun x hx=>?_⟩
 ·obtain ⟨i,hi,rfl⟩:=aM hx
  exact (S.hm.img i hi (by have:=S.hm.len;omega)).1
 ·obtain ⟨i,hi,rfl⟩:=aM hx
  exact S.hm.eimg i hi
end
theorem Pc {t:Types}{r:Rule}{h:Host}{m:Mat}(S:StepIn t r h m)(hp:BU t r h m=0):MatOk t r.left h m:=by
 unfold BU at hp
 split at hp
 ·cases hp
 ·split at hp
  ·exact absurd hp (by assumption)
  ·rename_i h2
   split at hp
   ·cases hp
   ·rename_i h3
    rw [j8] at h2 h3
    obtain ⟨_,_,_,h4⟩:=Oy h2
    rw [h4] at h2 h3
    obtain ⟨a1,a2⟩:=DS (Wd S.hR.pl S.ho S.hm) (vs:=[]) (by simp) (by simp) h2
    rw [h3] at a1 a2
    exact ⟨S.hm,a1,a2⟩
end Go.Abs
end
section
namespace Go.Abs
open Go.ChangeShapes Go.WideShapes Go.RowKit
structure Bulk {H:Type} (bulk:DataW H→Nat):Prop where
 len:∀ e s,e.length≤bulk (.slice e s)
 el:∀ e s,∀ d∈e,bulk d≤bulk (.slice e s)
 part:∀ l,∀ d∈l,bulk d≤bulk (.agg l)
 str:∀ s:List UInt8,s.length≤bulk (.lit (.string s))
abbrev ND:Nat→Prop:=fun _=>False
section
variable {H:Type} {enc:TypeId × Value→H} {P:Program} {w:World} {base:Nat} {spare:Nat→Bool} {held:Bool} {bulk:DataW H→Nat} {B:Nat}
def Opens (enc:TypeId × Value→H)(P:Program)(w:World)(base:Nat)(spare:Nat→Bool)(held:Bool)(bulk:DataW H→Nat)(B:Nat)(n:Nat)(t:TypeId){α:Type}(C:α→List D)(G:α→Prop):Prop :=
 ∀ (fuel:Nat) (cs:List Value) (x:DataW H × List MemPlace),fuel≤n→DataW.trod enc P w base spare held fuel t cs=some x→bulk x.1≤B →
  ∃ a,G a∧RepL ND fG mV w cs (C a)∧∀ u∈cs,u.oneCell'=true
variable {n:Nat} {t:TypeId}
theorem Opens.mono {α:Type}{C:α→List D}{G:α→Prop}{m:Nat}(h:Opens enc P w base spare held bulk B n t C G)(hm:m≤n):Opens enc P w base spare held bulk B m t C G :=
 fun fuel cs x hf hx hb=>h fuel cs x (cQ hf hm) hx hb
theorem Opens.zero {α:Type}{C:α→List D}{G:α→Prop}:Opens enc P w base spare held bulk B 0 t C G:=fun fuel cs x hf hx _=>by
 have:fuel=0:=by omega
 subst this
 simp [DataW.trod] at hx
theorem Opens.map {α β:Type}{C:α→List D}{G:α→Prop}{C':β→List D}{G':β→Prop}(h:Opens enc P w base spare held bulk B n t C G)(f:α→β)(hC:∀ a,C a=C' (f a))(hG:∀ a,G a→G' (f a)):Opens enc P w base spare held bulk B n t C' G' :=
 fun fuel cs x hf hx hb=>by
  obtain ⟨a,h1,h2,h3⟩:=h fuel cs x hf hx hb
  exact ⟨f a,hG a h1,by rw [← hC];exact h2,h3⟩
theorem wN {v:Value}{d:D}(h:RepV ND fG mV w v d):RepL ND fG mV w [v] [d] :=
 ⟨rfl,fun j u x hu hx=>by
  cases j with
  | zero=>simp at hu hx;subst hu;subst hx;exact h
  | succ j=>simp at hu⟩
theorem Ew {a b:List Value}{c d:List D}(h:RepL ND fG mV w a c)(k:RepL ND fG mV w b d):RepL ND fG mV w (a++b) (c++d):=by
 refine ⟨by simp [h.len,k.len],fun j u x hu hx=>?_⟩
 by_cases hj:j<a.length
 ·rw [aX hj] at hu
  rw [aX (by rw [← h.len];exact hj)] at hx
  exact h.rep j u x hu hx
 ·rw [bE (by omega)] at hu
  rw [bE (by rw [← h.len];omega),← h.len] at hx
  exact k.rep _ u x hu hx
theorem OZ {k:IntKind}(ht:P.underlying t=some (.int k)):Opens enc P w base spare held bulk B n t (fun z:Int=>[D.int k z]) (fun z=>(Lit.int k z).wf=true):=fun fuel cs x _ hx _=>by
 obtain ⟨z,rfl,_,hw⟩:=DataW.trod_int ht hx
 exact ⟨z,hw,wN (.int k z),by simp [Value.oneCell']⟩
theorem WD {α:Type}{C:α→List D}{G:α→Prop}{ad:Addr}{sz:Nat}:∀ (len:Nat),
  (∀ i,i<len→∃ c a,w.cells? base (ad.add (i * sz)) sz=some c∧G a∧RepL ND fG mV w c (C a)∧∀ u∈c,u.oneCell'=true) →
  ∃ (l:List α) (xs:List Value),l.length=len∧(∀ a∈l,G a)∧RepL ND fG mV w xs (l.map C).flatten∧(∀ u∈xs,u.oneCell'=true)∧xs.length=len * sz ∧
   (∀ (j:Nat) (u:Value),xs[j]?=some u→w.cell? (ad.add j)=some u)∧∀ c∈l.map C,c.length=sz
 | 0,_=>⟨[],[],rfl,by simp,⟨rfl,fun j u d hu=>by simp at hu⟩,by simp,by simp,by simp,by simp⟩
 | len+1,h=>by
  obtain ⟨l,xs,h1,h2,h3,h4,h5,h6,h7⟩:=WD len fun i hi=>h i (by omega)
  obtain ⟨c,a,hc,hg,hr,h1c⟩:=h len (by omega)
  obtain ⟨_,hcl,hcell⟩:=World.cells?_some hc
  refine ⟨l++[a],xs++c,by simp [h1],fun b hb=>?_,?_,fun u hu=>?_,by rw [aT,h5,hcl,Nat.succ_mul],fun j u hu=>?_,fun b hb=>?_⟩
  ·rcases aW.1 hb with h|h
   ·exact h2 b h
   ·simp at h;subst h;exact hg
  ·rw [List.map_append,kD]
   refine Ew h3 ?_
   simpa using hr
  ·rcases aW.1 hu with h|h
   ·exact h4 u h
   ·exact h1c u h
  ·by_cases hj:j<xs.length
   ·rw [aX hj] at hu;exact h6 j u hu
   ·rw [bE (by omega)] at hu
    have hlt:j - xs.length<sz:=by rw [← hcl];exact (aI.1 hu).1
    have:=hcell (j - xs.length) hlt
    rw [Addr.add_add,hu] at this
    rwa [show len * sz+(j - xs.length)=j by omega] at this
  ·rw [List.map_append] at hb
   rcases aW.1 hb with h|h
   ·exact h7 b h
   ·simp at h;subst h;rw [← hr.len,hcl]
theorem Kd (hB:Bulk bulk){e:TypeId}(ht:P.underlying t=some (.slice e)){α:Type}{C:α→List D}{G:α→Prop}(h:Opens enc P w base spare held bulk B n e C G) :
  Opens enc P w base spare held bulk B (n+1) t (fun l:List α=>[.list (l.map C)]) (fun l=>l.length≤B∧∀ a∈l,G a):=fun fuel cs x hf hx hb=>by
 rcases DataW.trod_slice ht hx with ⟨rfl,rfl⟩|⟨ad,len,cap,elems,rest,m,rfl,rfl,rfl,hbase,hlc,hcap,hlen,hel,_,_⟩
 ·exact ⟨[],⟨dE _,by simp⟩,wN .listN,by simp [Value.oneCell']⟩
 ·simp only at hb
  have hb1:=hB.len (elems.map (·.1)) (rest.map (·.1))
  rw [bM] at hb1
  obtain ⟨l,xs,h1,h2,h3,h4,h5,h6,h7⟩:=WD (w:=w) (base:=base) (C:=C) (G:=G) (ad:=ad) (sz:=P.cellsOf e) len fun i hi=>by
   have:=hel i hi
   rw [aA (by omega),Option.bind_eq_some_iff] at this
   obtain ⟨c,hc,hd⟩:=this
   obtain ⟨a,g1,g2,g3⟩:=h m c _ (by omega) hd (cQ (hB.el _ (rest.map (·.1)) _ (aS.2 ⟨_,aC (by omega),rfl⟩)) hb)
   exact ⟨c,a,hc,g1,g2,g3⟩
  refine ⟨l,⟨by omega,h2⟩,wN ?_,by simp [Value.oneCell']⟩
  have key:=RepV.list (M:=ND) (σ:=fG) (N:=mV) (w:=w) ad cap (P.cellsOf e) xs (l.map C) (by rw [bM];omega) hcap h7 h3.len h4 (fun j u hu=>⟨fun h=>h,h6 j u hu⟩) h3.rep
  rw [bM,h1] at key
  exact key
def U7 (enc:TypeId × Value→H)(P:Program)(w:World)(base:Nat)(spare:Nat→Bool)(held:Bool)(bulk:DataW H→Nat)(B n:Nat):List TypeId→List Value→Prop
 | [],cs=>cs=[]
 | t :: ts,cs=>(∃ y,DataW.trod enc P w base spare held n t (cs.take (P.cellsOf t))=some y∧bulk y.1≤B)∧U7 enc P w base spare held bulk B n ts (cs.drop (P.cellsOf t))
def Jl (enc:TypeId × Value→H)(P:Program)(w:World)(base:Nat)(spare:Nat→Bool)(held:Bool)(bulk:DataW H→Nat)(B:Nat)(n:Nat)(ts:List TypeId){α:Type}(C:α→List D)(G:α→Prop):Prop :=
 ∀ (fuel:Nat) (cs:List Value),fuel≤n→U7 enc P w base spare held bulk B fuel ts cs→∃ a,G a∧RepL ND fG mV w cs (C a)∧∀ u∈cs,u.oneCell'=true
theorem Md:Jl enc P w base spare held bulk B n [] (fun _:Unit=>[]) (fun _=>True):=fun fuel cs _ h=>by
 have h:cs=[]:=h
 subst h
 exact ⟨(),trivial,⟨rfl,fun j u d hu=>by simp at hu⟩,by simp⟩
theorem CQ {ts:List TypeId}{α β:Type}{C:α→List D}{G:α→Prop}{C':β→List D}{G':β→Prop}(h:Opens enc P w base spare held bulk B n t C G)(k:Jl enc P w base spare held bulk B n ts C' G') :
  Jl enc P w base spare held bulk B n (t :: ts) (fun p:α × β=>C p.1++C' p.2) (fun p=>G p.1∧G' p.2):=fun fuel cs hf hs=>by
 obtain ⟨⟨y,hy,hyb⟩,hs⟩:=hs
 obtain ⟨a,a1,a2,a3⟩:=h fuel _ y hf hy hyb
 obtain ⟨b,b1,b2,b3⟩:=k fuel _ hf hs
 refine ⟨(a,b),⟨a1,b1⟩,?_,fun u hu=>?_⟩
 ·have:=Ew a2 b2
  rwa [List.take_append_drop] at this
 ·rw [← List.take_append_drop (P.cellsOf t) cs] at hu
  rcases aW.1 hu with h|h
  ·exact a3 u h
  ·exact b3 u h
theorem PS {r:Reach}{b0:Nat}{e:TypeId}{v:Value}{d:DataW H}{ps:List MemPlace}{α:Type}{c:α→D}{G:α→Prop}(ht:P.underlying t=some (.slice e))(h:∀ n,Opens enc P w base spare held bulk B n t (fun a=>[c a]) G)
  (hval:Value.okWide P w r b0 t v) (hd:DataW.Trod enc P w base spare held t v d ps) (hb:bulk d≤B):∃ a,G a∧RepV ND fG mV w v (c a):=by
 obtain ⟨a0,len,cap,rfl⟩:=okWide_slice ht hval
 obtain ⟨fuel,hf⟩:=hd
 obtain ⟨a,h1,h2,h3⟩:=h fuel fuel _ _ (aL _) hf hb
 exact ⟨a,h1,h2.rep 0 _ _ rfl rfl⟩
theorem S3 {r:Reach}{b0:Nat}{k:IntKind}{v:Value}{d:DataW H}{ps:List MemPlace}(ht:P.underlying t=some (.int k))(hval:Value.okWide P w r b0 t v)(hd:DataW.Trod enc P w base spare held t v d ps) :
  ∃ z,(Lit.int k z).wf=true∧RepV ND fG mV w v (.int k z):=by
 obtain ⟨z,rfl,_,_,hw⟩:=open_int ht hval hd
 exact ⟨z,hw,.int k z⟩
/-! ### the end -/
theorem y8 (hl:laidOutB P=true){W W':World}{sp':Nat→Bool}(hb:Below W.heap.size W W'):∀ {ts:List TypeId} {vs:List Value} {ds:List (DataW H)} {ps:List MemPlace},(∀ t∈ts,P.readableRec t=true∧t<P.types.size) →
  DataW.TrodAll enc P W 0 (fun _=>true) true ts vs ds ps→(∀ x∈ps,x.block<W.heap.size)→(∀ x∈ps,sp' x.block=true)→DataW.TrodAll enc P W' 0 sp' true ts vs ds ps
 | [],_,_,_,_,h,_,_=>by
  obtain ⟨rfl,rfl,rfl⟩:=trodAll_nil h
  rfl
 | t :: ts,_,_,_,hr,h,hlt,hs=>by
  obtain ⟨v,vs,d,ds,p,q,rfl,rfl,rfl,h1,h2⟩:=trodAll_cons h
  refine ⟨p,q,WideElems.Trod_stays hl (hr t (by simp)).1 (hr t (by simp)).2 h1 (fun x hx=>hb.same (hlt x (by simp [hx]))) (fun x hx=>hs x (by simp [hx])),y8 hl hb (fun u hu=>hr u (by simp [hu])) h2 (fun x hx=>hlt x (by simp [hx])) (fun x hx=>hs x (by simp [hx])),rfl⟩
theorem Gr (hl:laidOutB P=true){f:Func}{s:ChangeSpec}{apart fresh handsOn again:Bool}{W W':World}{args:Array Value}{v:Value}{ds gs:List (DataW H)}{before:List MemPlace}
  (hr:∀ t∈f.params.toList,P.readableRec t=true∧t<P.types.size) (hvars:s.vars=[]) (hW:DataW.Whole enc P f.params.toList s.vars apart W args.toList ds gs before)
  (hres:∀ (b:Nat) (sp:Nat→Bool) (hd:Bool),DataW.TrodAll enc P W' b sp hd f.resultTypes.toList (v.resultList f.resultTypes.size) (s.fn H (ds++gs)).results [])
  (hargs:(s.fn H (ds++gs)).args=ds) (hvs:(s.fn H (ds++gs)).vars=[]) (hb:Below W.heap.size W W')
  (hok:∀ (j:Nat) (t:TypeId) (r:Value),f.resultTypes[j]?=some t→(v.resultList f.resultTypes.size)[j]?=some r→Value.okWide P W' .any 0 t r) :
  s.post enc P f apart fresh handsOn again W args v W':=by
 have hW':=hW
 obtain ⟨p,q,hA,hV,rfl,hz,hn⟩:=hW
 rw [hvars] at hV
 obtain ⟨rfl,rfl⟩:=trodVars_none hV
 rw [gJ] at hW' hz hn
 have hlt:∀ x∈p,x.block<W.heap.size:=fun x hx=>by simpa using hW'.lt x hx
 have hTr:∀ sp:Nat→Bool,(∀ x∈p,sp x.block=true)→DataW.TrodAll enc P W' 0 sp true f.params.toList args.toList (s.fn H (ds++[])).args p:=fun sp hs=>by
  rw [hargs];exact y8 hl hb hr hA hlt hs
 have hVr:∀ sp:Nat→Bool,DataW.TrodVars enc P W' sp s.vars (s.fn H (ds++[])).vars []:=fun sp=>by rw [hvars,hvs];rfl
 refine ⟨ds,[],p,[],p,[],hW',hres _ _ _,hTr _ (fun x hx=>by simpa using hlt x hx),hVr _,World.keptBut_mono (fun x hx=>⟨hx,.inr (by simpa using hx)⟩) (hb.frame (·∈p)),fun _=>?_⟩
 refine ⟨hok,_,_,([]++p)++[],⟨[]++p,[],trodAll_append (hTr _ (fun _ _=>rfl)) (hres _ _ _),hVr _,rfl,?_,?_⟩,?_⟩
 ·intro b off hp
  have hp':MemPlace.cell b off∈p:=by simpa using hp
  have:=hz b off hp'
  rw [← this]
  exact hb.frozen (hlt _ hp')
 ·intro ha
  simpa using hn ha
 ·intro x hx _
  simpa using hx
end
end Go.Abs
end
section
set_option maxRecDepth 100000
set_option maxHeartbeats 4000000
open Go Go.Proofs
namespace Go.Abs
section
variable {H:Type} {enc:TypeId × Value→H} {P:Program} {w:World} {base:Nat} {spare:Nat→Bool} {held:Bool} {bulk:DataW H→Nat} {B:Nat} {n:Nat} {t:TypeId}
theorem JK {fuel:Nat}{cs:List Value}{e:TypeId}:∀ (k o:Nat),cs.length=(o+k) * P.cellsOf e →
  (∀ i,o≤i→i<o+k→∃ y,DataW.trod enc P w base spare held fuel e ((cs.drop (i * P.cellsOf e)).take (P.cellsOf e))=some y∧bulk y.1≤B)→U7 enc P w base spare held bulk B fuel (List.replicate k e) (cs.drop (o * P.cellsOf e))
 | 0,o,hl,_=>by
  show cs.drop _=[]
  rw [List.drop_eq_nil_iff,hl];simp
 | k+1,o,hl,h=>by
  rw [nH]
  refine ⟨h o (aL _) (by omega),?_⟩
  rw [List.drop_drop,show o * P.cellsOf e+P.cellsOf e=(o+1) * P.cellsOf e by rw [Nat.succ_mul]]
  exact JK k (o+1) (by rw [hl];congr 1;omega) fun i h1 h2=>h i (by omega) (by omega)
theorem Ke (hB:Bulk bulk){k:Nat}{e:TypeId}(ht:P.underlying t=some (.array k e))(hc:P.cellsOf t=k * P.cellsOf e){α:Type}{C:α→List D}{G:α→Prop}(h:Jl enc P w base spare held bulk B n (List.replicate k e) C G) :
  Opens enc P w base spare held bulk B (n+1) t C G:=fun fuel cs x hf hx hb=>by
 obtain ⟨xs,m,rfl,rfl,hcl,hxl,hfl⟩:=DataW.trod_array ht hx
 simp only at hb
 have hs:=JK (enc:=enc) (P:=P) (w:=w) (base:=base) (spare:=spare) (held:=held) (bulk:=bulk) (B:=B) (fuel:=m) (cs:=cs) (e:=e) k 0 (by rw [hcl,hc];simp) fun i _ hi=>by
  have hfi:=hfl i (by omega)
  rw [aA (by omega)] at hfi
  exact ⟨_,hfi,cQ (hB.part _ _ (aS.2 ⟨_,aC (by omega),rfl⟩)) hb⟩
 rw [Nat.zero_mul,List.drop_zero] at hs
 exact h m cs (by omega) hs
end
section
variable {H:Type} {enc:TypeId × Value→H} {w:World} {base:Nat} {spare:Nat→Bool} {held:Bool} {bulk:DataW H→Nat} {B:Nat}
end
theorem EZ {t:Types}(hv:t.valid):∀ c:Nat,c<t.nodes.length→∀ (b:Nat) (a:Int),mem (t.line c) (b:Int)=true→mem (t.line b) a=true→mem (t.line c) a=true:=by
 intro c
 induction c using Nat.strongRecOn with
 | _ c ih =>
 intro hc b a hb ha
 have hpar:=hv.parent c _ (aA hc)
 have hr:=AU t c hc (hv.parentsOK c)
 rw [hr,wY,cK] at hb
 rcases hb with hb|hb
 ·by_cases h0:0≤t.nodes[c].parent
  ·rw [if_pos h0] at hb
   rw [hr,wY,cK,if_pos h0]
   exact .inl (ih _ (by omega) (by omega) b a hb ha)
  ·rw [if_neg h0,DG] at hb;cases hb
 ·have:b=c:=by simp at hb;omega
  subst this;exact ha
theorem Ps {t:Types}(hv:(cJ t).2=0){ty a b a' b':Int}(h:rA t ty a b=true)(ha:yY t a a'=true)(hb:yY t b b'=true)(ra:0≤a'∧a'<t.nodes.length)(rb:0≤b'∧b'<t.nodes.length):rA t ty a' b'=true:=by
 have hval:=mJ hv
 unfold rA at h ⊢
 simp only [aQ,decide_eq_true_eq] at h ⊢
 obtain ⟨⟨h1,h2⟩,h3,h4⟩:=h
 obtain ⟨_,a0,b0⟩:=sE h1
 unfold yY at ha hb
 rw [show a=((a.toNat:Nat):Int) by omega] at ha
 rw [show b=((b.toNat:Nat):Int) by omega] at hb
 refine ⟨⟨?_,h2⟩,EZ hval _ (by omega) a.toNat _ ha h3,EZ hval _ (by omega) b.toNat _ hb h4⟩
 simp [iV,hv,insideF,ra,rb]
section
variable {t:Types} {r:Rule} {h:Host} {m:Mat}
theorem SC {l l':List Int}{es:List Edge}{g:Graph}{n:Int}(h0:0≤n)(hn:n<l.length)(hg:g.nodes=l++l'):gN g n=l[n.toNat]?.getD 0:=by
 unfold gN;rw [hg,aX (by omega)]
theorem StepIn.edge (S:StepIn t r h m):∀ x∈(cY t r h m).graph.edges,((0≤x.type∧x.type<t.edges.length)∧(0≤x.from_∧x.from_<(cY t r h m).graph.nodes.length)∧(0≤x.to_∧x.to_<(cY t r h m).graph.nodes.length)) ∧
  rA t x.type (gN (cY t r h m).graph x.from_) (gN (cY t r h m).graph x.to_)=true:=fun x hx=>by
 have hbN:=S.bareN
 have hbin:=S.bin
 rw [S.bareE,aW,aS,aS] at hx
 rcases hx with ⟨k,hk,rfl⟩|⟨k,hk,rfl⟩
 ·have hr:=S.ein k hk
  have hy:=UN hr.1 hr.2
  obtain ⟨e1,e2⟩:=S.ho.ed _ hy
  have hgi:=(gA S.ho.gg).2 _ hy
  obtain ⟨s1,s2⟩:=JG S.sub hk
  obtain ⟨p1,p2,_⟩:=Qv S.nasc s1
  obtain ⟨q1,q2,_⟩:=Qv S.nasc s2
  have key:∀ v:Int,v∈(cX r h m).nodes→tJ (cX r h m).nodes v<(cX r h m).nodes.length→iA (cX r h m).nodes (tJ (cX r h m).nodes v)=v→gN (cY t r h m).graph (tJ (cX r h m).nodes v)=gN h.graph v:=fun v hv hp hi=>by
   rw [SC (es:=[]) (by omega) (by simpa using hp) hbN,show ((tJ (cX r h m).nodes v:Nat):Int).toNat=tJ (cX r h m).nodes v by omega,aN]
   unfold iA at hi
   rw [show ((tJ (cX r h m).nodes v:Nat):Int).toNat=tJ (cX r h m).nodes v by omega,aA hp,aF] at hi
   rw [aA hp,dK,aF,hi]
  have hl:(cY t r h m).graph.nodes.length=(cX r h m).nodes.length+r.freshN.length:=by rw [hbN];simp
  rw [UG]
  refine ⟨⟨⟨hgi.1.1,e1⟩,⟨by simp only;omega,by simp only;omega⟩,by simp only;omega,by simp only;omega⟩,?_⟩
  simp only
  rw [key _ s1 p1 p2,key _ s2 q1 q2];exact e2
 ·have hr:=nA hk
  have hk2:k.toNat<r.right.graph.edges.length:=by omega
  have hy:=(oI S.hR.gr S.hR.tr).2 _ (aC hk2)
  rw [aA hk2,aF]
  obtain ⟨y,hye⟩:∃ y,y=r.right.graph.edges[k.toNat]:=⟨_,rfl⟩
  rw [← hye] at hy ⊢
  have hf:y.from_.toNat<r.right.graph.nodes.length:=by omega
  have ht:y.to_.toNat<r.right.graph.nodes.length:=by omega
  obtain ⟨n1,c1,l1,b1⟩:=S.com hf
  obtain ⟨n2,c2,l2,b2⟩:=S.com ht
  unfold freshE
  rw [c1,c2]
  simp only [aF]
  have hfit:rA t y.type r.right.graph.nodes[y.from_.toNat] r.right.graph.nodes[y.to_.toNat]=true:=by
   have:=S.hR.mkb
   unfold EU at this
   rw [aQ,cH,cH,mI,mI] at this
   have h1:=this.2 k hk
   unfold unfitB at h1
   rw [aA hk2,aF,← hye] at h1
   unfold gN at h1
   rw [aA hf,aA ht] at h1
   simpa using h1
  have e1:gN (cY t r h m).graph (n1:Int)=(cY t r h m).graph.nodes[n1]:=by simp [gN,aA l1]
  have e2:gN (cY t r h m).graph (n2:Int)=(cY t r h m).graph.nodes[n2]:=by simp [gN,aA l2]
  refine ⟨⟨⟨hy.1.1,hy.1.2⟩,⟨by omega,by omega⟩,by omega,by omega⟩,?_⟩
  rw [e1,e2]
  exact Ps S.hR.vf hfit b1 b2 (hbin _ (aC l1)) (hbin _ (aC l2))
theorem QZ {x:Host}(hv:(cJ t).2=0)(hn:x.graph.nodes.length≤40)(he:x.graph.edges.length≤80)(hl:x.values.length=x.graph.nodes.length)(hb:∀ a∈x.graph.nodes,0≤a∧a<t.nodes.length)
  (hnd:∀ (n:Nat) (h1:n<x.graph.nodes.length) (h2:n<x.values.length),kA t x.graph.nodes[n] x.values[n]=0)
  (hed:∀ y∈x.graph.edges,((0≤y.type∧y.type<t.edges.length)∧(0≤y.from_∧y.from_<x.graph.nodes.length)∧(0≤y.to_∧y.to_<x.graph.nodes.length))∧rA t y.type (gN x.graph y.from_) (gN x.graph y.to_)=true):eR t x=0:=by
 have hf:=(mJ hv).fewN
 have hf2:=(mJ hv).fewE
 have hg:graphF x.graph=0:=Pr hn he (fun a ha=>by have:=hb a ha;omega) fun y hy=>by
  obtain ⟨⟨a1,a2,a3⟩,_⟩:=hed y hy
  exact ⟨by omega,a2,a3⟩
 have h1:(jH (Mt t x) 0 x.graph.nodes.length).2=0:=by
  rw [sF]
  refine oS _ _ fun j _ hj=>?_
  have hj1:j<x.graph.nodes.length:=by omega
  unfold Mt
  rw [aA hj1,aA (show j<x.values.length by omega),aF,aF]
  exact hnd j hj1 (by omega)
 unfold eR vG
 rw [if_neg (by omega),if_neg (by omega),if_neg (by omega),if_neg (by omega),sF]
 refine oS _ _ fun j _ hj=>?_
 have hj1:j<x.graph.edges.length:=by omega
 obtain ⟨a1,a2⟩:=hed _ (aC hj1)
 unfold Ts
 rw [aA hj1,aF,if_neg (by omega),if_pos a2]
theorem Nt {g:Graph}{c:Part}{vs:List Int}:∀ (l:List Slot) (vals:List (List Int)),vals.length=g.nodes.length→(∀ (n:Nat) (h1:n<g.nodes.length) (h2:n<vals.length),kA t g.nodes[n] vals[n]=0) →
  (∀ s∈l,EL t g c vs s=false)→(∀ s∈l,0≤s.attr)→∀ (n:Nat) (h1:n<g.nodes.length) (h2:n<(yT c vs l vals).length),kA t g.nodes[n] (yT c vs l vals)[n]=0
 | [],vals,_,hx,_,_=>fun n h1 h2=>hx n h1 h2
 | s :: l,vals,hl,hx,ho,ha=>by
  refine Nt l (vals.set (iI c s) ((vals[iI c s]?.getD []).set s.attr.toNat (dD s.term vs))) (by rw [fI];exact hl) (fun n h1 h2=>?_) (fun s hs=>ho s (by simp [hs])) (fun s hs=>ha s (by simp [hs]))
  rw [fI] at h2
  have hI:=hx n h1 h2
  rw [yS]
  split
  ·rename_i hs'
   subst hs'
   rw [aA h2,aF]
   obtain ⟨a1,a2,a3,a4⟩:=tQ hI
   unfold kA
   rw [if_neg (by omega),if_neg (by rw [a2];simp),if_neg (by rw [fI];omega)]
   refine oS _ _ fun j _ hj=>?_
   have hja:j<(cN t g.nodes[iI c s]).length:=by omega
   unfold IA
   rw [aA hja,aF]
   by_cases hj2:s.attr.toNat=j
   ·have e:((vals[iI c s]).set s.attr.toNat (dD s.term vs))[j]?=some (dD s.term vs):=by rw [← hj2];exact List.getElem?_set_self (by omega)
    rw [e,aF,if_neg]
    have hO:=ho s (by simp)
    unfold EL at hO
    rw [aA h1,aF,hj2,aA hja,aF,pX,decide_eq_false_iff_not,decide_eq_false_iff_not] at hO
    omega
   ·rw [List.getElem?_set_ne hj2,aA (show j<(vals[iI c s]).length by omega),aF,if_neg]
    have:=a4 j (by omega) hja
    omega
  ·exact hI
theorem StepIn.after (S:StepIn t r h m)(hp:BT t (cY t r h m).graph (pO r h m) m.vars r.right.slots=0)(hn:(cY t r h m).graph.nodes.length≤40)(he:(cY t r h m).graph.edges.length≤80):eR t (xV t r h m)=0:=by
 have ho:∀ s∈r.right.slots,EL t (cY t r h m).graph (pO r h m) m.vars s=false:=by
  unfold BT at hp
  split at hp
  ·cases hp
  ·split at hp
   ·cases hp
   ·rename_i h2
    rw [Bool.not_eq_true,mI] at h2
    exact fun s hs=>by simpa using h2 s hs
 exact QZ S.hR.vf hn he (by show (yT _ _ _ _).length=_;rw [(wR _ _ _ _).1];exact S.vlen) S.bin (fun n h1 h2=>Nt _ _ S.vlen S.node ho (fun s hs=>(S.hR.slots s hs).2.1.1) n h1 h2) S.edge
end
mutual
def Sp:Cond→Bool
 | .mk k l m p=>NF l&&decide ((p.graph.nodes.length:Int)+p.graph.edges.length≤6)
def NF:List Cond→Bool
 | []=>true
 | c :: l=>Sp c&&NF l
end
def YC (p q:Pattern):Int:=((14 ^ (q.graph.nodes.length - p.graph.nodes.length) * 18 ^ (q.graph.edges.length - p.graph.edges.length):Nat):Int)
def Th (k:Int)(p' p:Pattern):Pattern:=if k=5 then p' else p
mutual
def UY:Cond→Pattern→Bool
 | .mk k l m p',p=>Rp l (Th k p' p)&&decide (YC p (Th k p' p)≤5000)
def Rp:List Cond→Pattern→Bool
 | [],_=>true
 | c :: l,q=>UY c q&&Rp l q
end
theorem qE (o:Option Bool):(Option.map cB o).getD [D.bool false]=cB (o.getD false):=by cases o<;>rfl
def B8 (t:Types)(p:Pattern)(h:Host):Int:=if dG t p≠0 then dG t p else eR t h
theorem NS (l:List Part):(GA l).1.length≤5000:=by
 unfold GA;split
 ·simp
 ·simp only;omega
theorem Lq (t:Types)(p g:Graph)(inj:Bool):(pJ t p g inj).1.length≤5000:=by
 unfold pJ;split
 ·simp
 ·exact NS _
theorem SH (t:Types)(p g:Graph)(q:Part)(inj:Bool):(tT t p g q inj).1.length≤5000:=by
 unfold tT;split
 ·simp
 ·split
  ·simp
  ·split
   ·simp
   ·split
    ·simp
    ·exact NS _
theorem PU {t:Types}{p g:Graph}{inj:Bool}{m:Part}(h:m∈(pJ t p g inj).1):MOk t p g m:=by
 unfold pJ at h
 split at h
 ·cases h
 ·unfold GA at h
  split at h
  ·cases h
  ·exact Lp (S:=⟨t,p,g,_,_,inj⟩) (bN h)
theorem Pp (t:Types)(ht:t.ok)(kind:Int)(hk:0≤kind)(vs:List Int):Pure Tryz.prog 32 [t.d,dI kind,dLI vs] (dI (kA t kind vs)):=by
 refine Tz.pK ⟨fun t=>t==10,fun _=>[]⟩ Tryz.func32 rfl (fun Q hQ=>?_)
 have Y:=trivial
 refine wv (h:=?_)
 repeat first|intro _|refine ⟨oW,?_⟩
 refine wq (fun h1=>?_) fun h1=>?_
 ·have hE:kA t kind vs=6:=by unfold kA;rw [if_pos (by omega)]
  exact wv (h:=hQ _ _ (by simp [go_sem,hE]))
 ·have hkn:kind.toNat<t.nodes.length:=by omega
  have hA:Br t kind.toNat=t.nodes[kind.toNat].abs:=by simp [Br,aA hkn]
  have hE0:kA t kind vs=if Br t kind.toNat=true then 13 else if vs.length≠(cN t kind).length then 20 else bY (IA (cN t kind) vs) 0 (cN t kind).length:=by unfold kA;rw [if_neg (by omega)]
  rw [hA] at hE0
  have Y:=wa Y (wa (aA hkn) @NodeTy.c.eq_1)
  refine wv (h:=?_)
  repeat first|intro _|refine ⟨oW,?_⟩
  refine wq (fun h3=>?_) fun h3=>?_
  ·rw [if_pos (by simpa using h3)] at hE0
   exact wv (h:=hQ _ _ (by simp [go_sem,hE0]))
  ·rw [if_neg (by simpa using h3)] at hE0
   refine wv (h:=aB (o7 t ht kind) wl ?_)
   refine wv (h:=?_)
   repeat first|intro _|refine ⟨oW,?_⟩
   refine wq (fun h6=>?_) fun h6=>?_
   ·rw [if_pos (by omega)] at hE0
    exact wv (h:=hQ _ _ (by simp [go_sem,hE0]))
   ·rw [if_neg (by omega)] at hE0
    have hln:vs.length=(cN t kind).length:=by omega
    refine wo (h:=cD (fun k e H=>(e 3=.adr t.c∧e 2=dLI vs∧e 33=.list ((cN t kind).map Attr.c)∧e 34=dI (cN t kind).length∧e 35=dI k)∧(k≤(cN t kind).length)∧(bY (IA (cN t kind) vs) k ((cN t kind).length - k)=kA t kind vs)) (fun k=>(cN t kind).length - k) 0 ⟨wg,wi,(by exact hE0.symm)⟩ fun I0 hI0 k e H hi0=>?_)
    obtain ⟨E0,hkl,hF⟩:=hi0
    have Y:=wa Y E0
    refine dU (fun h9=>?_) fun h9=>?_
    ·have hv:k<vs.length:=by omega
     have hst:=j6 (IA (cN t kind) vs) h9
     rw [hF] at hst
     have hLE:IA (cN t kind) vs k=if vs[k]<(cN t kind)[k].low∨(cN t kind)[k].high<vs[k] then 6 else 0:=by simp only [IA,aA hv,aA h9,aF]
     have Y:=wa Y (wa h9 (wa (aA hv) (wa (aA h9) @Attr.c.eq_1)))
     refine wv (h:=?_)
     repeat first|intro _|refine ⟨oW,?_⟩
     refine wq (fun h11=>?_) fun h11=>?_
     ·rw [if_pos (by omega)] at hLE
      rw [hLE,if_pos (by omega)] at hst
      exact wv (h:=hQ _ _ (by simp [go_sem,hst]))
     ·rw [if_neg (by omega)] at hLE
      rw [hLE,if_neg (by omega)] at hst
      exact wo (h:=wx hI0 (k+1) ⟨wg,wj,(by exact hst.symm)⟩)
    ·have hZ:kA t kind vs=0:=by rw [← hF,show (cN t kind).length - k=0 by omega];rfl
     exact wv (h:=hQ _ _ (by simp [go_sem,hZ]))
theorem oR (t:Types)(ht:t.ok)(h:Host):Pure Tryz.prog 19 [t.d,h.d] (.tup [dI (vG t h).1,dI (vG t h).2]):=by
 refine Tz.pK ⟨fun t=>t==13,fun _=>[]⟩ Tryz.func19 rfl (fun Q hQ=>?_)
 have Y:=wa @Host.d.eq_1 @Host.c.eq_1
 refine wv (h:=aB (kZ t ht) wl ?_)
 refine dU (fun h2=>?_) fun h2=>?_
 ·have hE:vG t h=(-1,(cJ t).2):=by unfold vG;rw [if_pos (by simpa using h2)]
  exact wv (h:=hQ _ _ (by simp [go_sem,hE]))
 ·have hE0:vG t h=if graphF h.graph≠0 then (-1,graphF h.graph) else if h.values.length≠h.graph.nodes.length then (-1,20) else if (jH (Mt t h) 0 h.graph.nodes.length).2≠0 then jH (Mt t h) 0 h.graph.nodes.length else jH (Ts t h) 0 h.graph.edges.length:=by unfold vG;rw [if_neg (by simpa using h2)]
  refine wv (h:=aB (lM h.graph) wl ?_)
  refine dU (fun h5=>?_) fun h5=>?_
  ·rw [if_pos (by simpa using h5)] at hE0
   exact wv (h:=hQ _ _ (by simp [go_sem,hE0]))
  ·rw [if_neg (by simpa using h5)] at hE0
   have hg0:graphF h.graph=0:=by simpa using h5
   have hgi:=gA hg0
   have hgl:=c9 hg0
   refine mP (fun h7=>?_) fun h7=>?_
   ·rw [if_pos (by omega)] at hE0
    exact wv (h:=hQ _ _ (by simp [go_sem,hE0]))
   ·rw [if_neg (by omega)] at hE0
    refine wo (h:=cD (fun i e H=>(e 2=.adr t.c∧e 3=.adr h.c∧e 38=dLI h.graph.nodes∧e 39=dI h.graph.nodes.length∧e 40=dI i)∧(i≤h.graph.nodes.length)∧(jH (Mt t h) i (h.graph.nodes.length - i)=jH (Mt t h) 0 h.graph.nodes.length)) (fun i=>h.graph.nodes.length - i) 0 ⟨wg,wi,(by rfl)⟩ fun I0 hI0 i e H hi0=>?_)
    obtain ⟨E0,hi,hF⟩:=hi0
    have Y:=wa Y E0
    refine dU (fun h10=>?_) fun h10=>?_
    ·have hv:i<h.values.length:=by omega
     have hn0:0≤h.graph.nodes[i]:=(hgi.1 _ (aC h10)).1
     have hst:=A2 (Mt t h) h10
     rw [hF] at hst
     have hNE:Mt t h i=kA t h.graph.nodes[i] h.values[i]:=by simp only [Mt,aA hv,aA h10,aF]
     have Y:=wa Y (wa h10 (wa (aA hv) (wa (aA h10) @cL.eq_1)))
     refine wo (h:=bB (Pp t ht h.graph.nodes[i] hn0 h.values[i]) wl ?_)
     refine mP (fun h13=>?_) fun h13=>?_
     ·rw [hNE,if_pos (by simpa using h13)] at hst
      rw [hst,if_pos (by simpa using h13)] at hE0
      exact wv (h:=hQ _ _ (by simp [go_sem,hE0]))
     ·rw [hNE,if_neg (by simpa using h13)] at hst
      exact wo (h:=wx hI0 (i+1) ⟨wg,wj,(by exact hst.symm)⟩)
    ·have hN0:jH (Mt t h) 0 h.graph.nodes.length=(-1,0):=by rw [← hF,show h.graph.nodes.length - i=0 by omega];rfl
     rw [hN0,if_neg (by simp)] at hE0
     refine wo (h:=cD (fun j e H=>(e 2=.adr t.c∧e 3=.adr h.c∧e 60=.list (h.graph.edges.map Edge.c)∧e 61=dI h.graph.edges.length∧e 62=dI j)∧(j≤h.graph.edges.length)∧(jH (Ts t h) j (h.graph.edges.length - j)=vG t h)) (fun j=>h.graph.edges.length - j) 0 ⟨wg,wi,(by exact hE0.symm)⟩ fun I2 hI2 j e H hi2=>?_)
     obtain ⟨E2,hj,hG⟩:=hi2
     have Y:=wa Y E2
     refine dU (fun h17=>?_) fun h17=>?_
     ·obtain ⟨x,hx⟩:∃ x,x=h.graph.edges[j]:=⟨_,rfl⟩
      have hxi:=(hgi.2 _ (aC h17)).2
      rw [← hx] at hxi
      have hxf:x.from_.toNat<h.graph.nodes.length:=by omega
      have hxt:x.to_.toNat<h.graph.nodes.length:=by omega
      have hst:=A2 (Ts t h) h17
      rw [hG] at hst
      have hEE:Ts t h j=if (t.edges.length:Int)≤x.type then 6 else if rA t x.type h.graph.nodes[x.from_.toNat] h.graph.nodes[x.to_.toNat]=true then 0 else 13:=by simp only [Ts,gN,aA h17,aF,← hx,aA hxf,aA hxt]
      have Y:=wa Y (wa h17 (wa (aA h17) (wa (Eq.symm hx) (wa (aA hxf) (aA hxt)))))
      refine mP (fun h19=>?_) fun h19=>?_
      ·rw [if_pos (by omega)] at hEE
       rw [hEE,if_pos (by omega)] at hst
       exact wv (h:=hQ _ _ (by simp [go_sem,hst]))
      ·rw [if_neg (by omega)] at hEE
       refine wo (h:=bB (DV t ht x.type h.graph.nodes[x.from_.toNat] h.graph.nodes[x.to_.toNat]) wl ?_)
       refine mP (fun h21=>?_) fun h21=>?_
       ·rw [if_neg (by simpa using h21)] at hEE
        rw [hEE,if_pos (by omega)] at hst
        exact wv (h:=hQ _ _ (by simp [go_sem,hst]))
       ·rw [if_pos (by simpa using h21)] at hEE
        rw [hEE,if_neg (by omega)] at hst
        exact wo (h:=wx hI2 (j+1) ⟨wg,wj,(by exact hst.symm)⟩)
     ·have hZ:vG t h=(-1,0):=by rw [← hG,show h.graph.edges.length - j=0 by omega];rfl
      exact wv (h:=hQ _ _ (by simp [go_sem,hZ]))
end Go.Abs
end
section
set_option maxRecDepth 60000
set_option maxHeartbeats 4000000
open Go Go.Proofs
namespace Go.Abs
def NM (s:Int):Int:=if s<0 then -1 else 0
def Kr (s:Int):Int:=s % 18446744073709551616
theorem PX (x y:Int)(hx:0≤x)(hy:0≤y)(w:World):(callFunc 221 #[.int .u64 x,.int .u64 y,.int .u64 0]).run Tryz.prog w =
  .ok (.value (.tuple #[.int .u64 ((x+y+0) % 18446744073709551616),.int .u64 ((x+y+0) / 18446744073709551616)])) w:=by
 rw [run_callFunc_extern Tryz.func221 (by kernel_rfl) (by kernel_rfl) (by kernel_rfl) (e:=add64Entry) (by kernel_rfl),run_add64 x y 0 hx hy (by omega) (by omega)]
 rfl
open RowKit in
theorem LB (a b:Int)(ha : -4000000≤a∧a≤4000000)(hb : -4000000≤b∧b≤4000000)(w:World) :
  Calls Tryz.prog 179 #[.int .i64 a,.int .i64 b] w fun e w'=>e=.returned (.tuple #[.int .i64 (NM (a+b)),.int .u64 (Kr (a+b))])∧w'=w:=by
 have h:=PX (IntKind.u64.wrap a) (IntKind.u64.wrap b) (by rw [IntKind.wrap_u64];omega) (by rw [IntKind.wrap_u64];omega) w
 simp only [Int.add_zero] at h
 go_enter Tryz.func179,Tryz.ntmps179
 go_wp2
 have wa:IntKind.u64.wrap a=if a<0 then a+18446744073709551616 else a:=by rw [IntKind.wrap_u64];split<;>omega
 have wb:IntKind.u64.wrap b=if b<0 then b+18446744073709551616 else b:=by rw [IntKind.wrap_u64];split<;>omega
 have e1:wrap64 (a / 9223372036854775808+b / 9223372036854775808+wrap64 ((IntKind.u64.wrap a+IntKind.u64.wrap b) / 18446744073709551616))=NM (a+b):=by
  rw [wa,wb];unfold NM wrap64
  repeat' split
  all_goals omega
 have e2:(IntKind.u64.wrap a+IntKind.u64.wrap b) % 18446744073709551616=Kr (a+b):=by
  rw [wa,wb];unfold Kr
  repeat' split
  all_goals omega
 rw [e1,e2]
 go_ret2
 exact ⟨rfl,rfl⟩
theorem vH (a b : Int) (ha : -4000000 ≤ a ∧ a ≤ 4000000) (hb : -4000000 ≤ b ∧ b ≤ 4000000) : Pure Tryz.prog 179 [dI a, dI b] (.tup [dI (NM (a + b)), .int .u64 (Kr (a + b))]) := by
  refine ⟨⟨Tryz.f179, Tryz.func179, rfl, rfl⟩, fun M w vals hM ha' => ?_⟩
  have hv : vals = [.int .i64 a, .int .i64 b] := by
    obtain ⟨hl, hr⟩ := ha'
    match vals, hl with
    | [x, y], _ =>
      have h0 := hr 0 x _ rfl rfl
      have h1 := hr 1 y _ rfl rfl
      cases h0
      cases h1
      rfl
  subst hv
  exact (LB a b ha hb w).mono fun e w' ⟨h1, h2⟩ => ⟨_, h1, .tup _ _ rfl (fun j u d hu hd => by
    match j with
    | 0 => simp at hu hd; subst hu; subst hd; exact .int _ _
    | 1 => simp at hu hd; subst hu; subst hd; exact .int _ _
    | j + 2 => simp at hu), by subst h2; exact ⟨rfl, rfl, rfl, aL _, fun _ _ => rfl⟩⟩
theorem sG (x:Term)(vs:List Int)(hx:rL x vs.length)(hs:Sm vs):Pure Tryz.prog 178 [.agg x.c,.adr [dLI vs]] (.tup [dI (NM (dD x vs)),.int .u64 (Kr (dD x vs)),.bool true]):=by
 have hx0:=hx
 obtain ⟨⟨a1,a2⟩,a3,a4⟩:=hx0
 refine Tz.pK ⟨fun _=>false,fun _=>[]⟩ Tryz.func178 rfl (fun Q hQ=>?_)
 have Y:=@Term.c.eq_1
 refine dU (fun h1=>?_) fun h1=>?_
 ·have hT:dD x vs=0+x.add:=by unfold dD;rw [if_pos (by omega)];omega
  refine wv (h:=aB (vH 0 x.add (by omega) (by omega)) wl ?_)
  exact wv (h:=hQ _ _ (by simp [go_sem,hT]))
 ·have hk:x.var.toNat<vs.length:=by omega
  have hb:=hs.get hk
  have hT:dD x vs=vs[x.var.toNat]+x.add:=by unfold dD;rw [if_neg (by omega),aA hk];rfl
  have w1:¬ x.var<0:=by omega
  have w2:¬ (vs.length:Int)≤x.var:=by omega
  have Y:=wa Y (wa (aA hk) (wa w1 w2))
  refine wo (h:=bB (vH vs[x.var.toNat] x.add hb (by omega)) wl ?_)
  exact wo (h:=hQ _ _ (by simp [go_sem,hT]))
theorem FF (a:Int):Pure Tryz.prog 222 [.int .u64 a] (.bool false):=by
 refine Tz.pK ⟨fun _=>false,fun _=>[]⟩ Tryz.func222 rfl (fun Q hQ=>?_)
 have Y:=trivial
 exact wv (h:=hQ _ _ wy)
theorem IX (a b:Int):Pure Tryz.prog 180 [.int .u64 a,.int .u64 b] (dI (cmp1 a b)):=by
 refine Tz.pK ⟨fun _=>false,fun _=>[]⟩ Tryz.func180 rfl (fun Q hQ=>?_)
 have Y:=trivial
 refine wv (h:=aB (FF a) wl ?_)
 refine wv (h:=aB (FF b) wl ?_)
 refine dU (fun h9=>?_) fun h9=>?_
 ·have Y:=wa Y (wa h9 @cmp1.eq_1)
  exact wv (h:=hQ _ _ wy)
 ·refine dU (fun h11=>?_) fun h11=>?_
  ·have Y:=wa Y (wa h9 (wa h11 @cmp1.eq_1))
   exact wv (h:=hQ _ _ wy)
  ·have Y:=wa Y (wa h9 (wa h11 @cmp1.eq_1))
   exact wv (h:=hQ _ _ wy)
def Si (a b:Int):Int:=NA [cmp1 (NM a) (NM b),cmp1 (Kr a) (Kr b)]
theorem Sh {a b:Int}(ha : -10000000≤a∧a≤10000000)(hb : -10000000≤b∧b≤10000000):Si a b=if a<b then -1 else if b<a then 1 else 0:=by
 have la:Kr a=if a<0 then a+18446744073709551616 else a:=by unfold Kr;split<;>omega
 have lb:Kr b=if b<0 then b+18446744073709551616 else b:=by unfold Kr;split<;>omega
 unfold Si
 simp only [NA,cmp1,NM,la,lb]
 repeat' split
 all_goals omega
theorem D3 {x:Term}{vs:List Int}(hx:rL x vs.length)(hs:Sm vs) : -10000000≤dD x vs∧dD x vs≤10000000:=by
 obtain ⟨⟨a1,a2⟩,a3,a4⟩:=hx
 unfold dD
 split
 ·omega
 ·have hk:x.var.toNat<vs.length:=by omega
  have hb:=hs.get hk
  rw [aA hk,aF]
  omega
theorem tX (x:Test)(vs:List Int)(hx:M8 x vs.length)(hs:Sm vs):Pure Tryz.prog 141 [.agg x.c,dLI vs] (.bool (LI x vs)):=by
 obtain ⟨hk,hl,hr⟩:=hx
 have hO:=Sh (D3 hl hs) (D3 hr hs)
 have hOe:Si (dD x.left vs) (dD x.right vs)=NA [cmp1 (NM (dD x.left vs)) (NM (dD x.right vs)),cmp1 (Kr (dD x.left vs)) (Kr (dD x.right vs))]:=rfl
 obtain ⟨o,ho⟩:∃ o,o=Si (dD x.left vs) (dD x.right vs):=⟨_,rfl⟩
 rw [← ho] at hO hOe
 have hT:LI x vs=(decide (x.kind=1)&&decide (o≤0)||decide (x.kind=2)&&decide (o=0)):=by
  unfold LI
  rw [hO,bF]
  simp
  constructor
  ·rintro (⟨h1,h2⟩|⟨h1,h2⟩)
   ·left;refine ⟨h1,?_⟩;split<;>(try split)<;>omega
   ·right;refine ⟨h1,?_⟩;rw [h2];simp
  ·rintro (⟨h1,h2⟩|⟨h1,h2⟩)
   ·left;refine ⟨h1,?_⟩;split at h2<;>(try split at h2)<;>omega
   ·right;refine ⟨h1,?_⟩;split at h2<;>(try split at h2)<;>omega
 refine Tz.pK ⟨fun _=>false,fun _=>[]⟩ Tryz.func141 rfl (fun Q hQ=>?_)
 have Y:=@Test.c.eq_1
 refine wv (h:=?_)
 refine aB (sG x.left vs hl hs) wl ?_
 refine wv (h:=?_)
 refine aB (sG x.right vs hr hs) wl ?_
 refine wv (h:=?_)
 repeat first|intro _|refine ⟨oW,?_⟩
 refine aB (jJ (NM (dD x.left vs)) (NM (dD x.right vs))) wl ?_
 refine wv (h:=?_)
 repeat first|intro _|refine ⟨oW,?_⟩
 refine aB (IX (Kr (dD x.left vs)) (Kr (dD x.right vs))) wl ?_
 refine wv (h:=?_)
 repeat first|intro _|refine ⟨oW,?_⟩
 refine aB ((by have hq:=MI [cmp1 (NM (dD x.left vs)) (NM (dD x.right vs)),cmp1 (Kr (dD x.left vs)) (Kr (dD x.right vs))];rw [← hOe] at hq;exact hq)) wl ?_
 refine wv (h:=?_)
 repeat first|intro _|refine ⟨oW,?_⟩
 exact hQ _ _ (by simp [go_sem,hT]<;>(first|rfl|(rw [bF];simp)))
theorem kL (x:Term)(vs:List Int)(hx:rL x vs.length)(hs:Sm vs):Pure Tryz.prog 140 [.agg x.c,dLI vs] (dI (dD x vs)):=by
 have hx0:=hx
 obtain ⟨⟨a1,a2⟩,a3,a4⟩:=hx0
 refine Tz.pK ⟨fun _=>false,fun _=>[]⟩ Tryz.func140 rfl (fun Q hQ=>?_)
 have Y:=@Term.c.eq_1
 refine dU (fun h1=>?_) fun h1=>?_
 ·exact wv (h:=hQ _ _ (by simp [go_sem,dD,h1]))
 ·have hk:x.var.toNat<vs.length:=by omega
  have hb:=hs.get hk
  have Y:=wa Y (aA hk)
  exact wo (h:=hQ _ _ (by simp [go_sem,dD,show ¬ x.var<0 by omega,aA hk]))
theorem lP (x:Term)(vs:List Int)(hx:rL x vs.length)(hs:Sm vs):Pure Tryz.prog 190 [.agg x.c,dLI vs] (.tup [dI (dD x vs),dI 0]):=by
 have hx0:=hx
 obtain ⟨⟨a1,a2⟩,a3,a4⟩:=hx0
 have hin:inF x.var (-1) ((vs.length:Int) - 1)=true:=by unfold inF;simp;omega
 refine Tz.pK ⟨fun _=>false,fun _=>[]⟩ Tryz.func190 rfl (fun Q hQ=>?_)
 have Y:=wa @Term.c.eq_1 hin
 refine wo (h:=aB (iP x.var (-1) ((vs.length:Int) - 1)) wl ?_)
 refine wo (h:=aB (kL x vs hx hs) wl ?_)
 exact wo (h:=hQ _ _ wy)
end Go.Abs
end
section
set_option maxRecDepth 100000
set_option maxHeartbeats 4000000
open Go Go.Proofs
namespace Go.Abs
theorem Ei (t:Types)(a:Int):Pure Tryz.prog 218 [dI a,.adr t.c] (.bool (decide ((t.nodes.length:Int)≤a))):=by
 refine Tz.pK ⟨fun _=>false,fun _=>[]⟩ Tryz.func218 rfl (fun Q hQ=>?_)
 have Y:=trivial
 exact wo (h:=hQ _ _ wy)
theorem Eh (t:Types)(x:Edge):Pure Tryz.prog 219 [.agg x.c,.adr t.c] (.bool (decide ((t.edges.length:Int)≤x.type))):=by
 refine Tz.pK ⟨fun _=>false,fun _=>[]⟩ Tryz.func219 rfl (fun Q hQ=>?_)
 have Y:=trivial
 exact wo (h:=hQ _ _ wy)
theorem zB (t:Types)(g:Graph):Pure Tryz.prog 176 [t.d,g.d] (.bool (iL t g)):=by
 refine Tz.pK ⟨fun _=>false,fun _=>[]⟩ Tryz.func176 rfl (fun Q hQ=>?_)
 have Y:=trivial
 refine wo (h:=aB (fO g.nodes 218 [.adr t.c] (fun a=>decide ((t.nodes.length:Int)≤a)) (by simp [go_sem]) (by simp [go_sem]) (fun a _=>Ei t a)) wl ?_)
 refine wo (h:=bD (fun hg=>kB g.edges 219 [.adr t.c] (fun x=>decide ((t.edges.length:Int)≤x.type)) (by simp [go_sem]) (by simp [go_sem]) (fun x _=>Eh t x)) (fun hg=>wl) ?_)
 exact wo (h:=hQ _ _ (by simp [go_sem,iL];rw [bF];simp))
theorem GT (t:Types){g:Graph}(hg:graphF g=0):iL t g=rU t g:=by
 have hi:=gA hg
 have h1:(g.nodes.any fun n=>decide ((t.nodes.length:Int)≤n))=g.nodes.any fun a=>!insideF t a:=by
  rw [bF,bX,bX]
  constructor<;>rintro ⟨a,ha,h⟩<;>refine ⟨a,ha,?_⟩<;>have:=hi.1 a ha<;>simp [insideF] at h ⊢<;>omega
 have h2:(g.edges.any fun x=>decide ((t.edges.length:Int)≤x.type))=g.edges.any fun x=>!Ce t x:=by
  rw [bF,bX,bX]
  constructor<;>rintro ⟨a,ha,h⟩<;>refine ⟨a,ha,?_⟩<;>have:=(hi.2 a ha).1<;>simp [Ce] at h ⊢<;>omega
 unfold iL rU
 rw [h1,h2]
def UC (p g:Graph)(i:Nat):Int:=if i=0 then graphF p else graphF g
theorem UB (p g:Graph):bY (UC p g) 0 2=if graphF p≠0 then graphF p else if graphF g≠0 then graphF g else 0:=by simp [bY,UC]
theorem p6 (t:Types)(ht:t.ok)(p g:Graph):Pure Tryz.prog 138 [t.d,p.d,g.d] (dI (iF t p g)):=by
 refine Tz.pK ⟨fun t=>t==10,fun _=>[]⟩ Tryz.func138 rfl (fun Q hQ=>?_)
 have Y:=trivial
 refine wv (h:=aB (kZ t ht) wl ?_)
 refine dU (fun h2=>?_) fun h2=>?_
 ·have hA:iF t p g=(cJ t).2:=by unfold iF;rw [if_pos (by simpa using h2)]
  exact wv (h:=hQ _ _ (by simp [go_sem,hA]))
 ·have hA:iF t p g=if graphF p≠0 then graphF p else if graphF g≠0 then graphF g else if (!rU t p||!rU t g)=true then 13 else 0:=by unfold iF;rw [if_neg (by simpa using h2)]
  refine wo (h:=cD (fun i e H=>(e 3=.adr t.c∧e 4=.adr p.c∧e 5=.adr g.c∧e 22=.list [p.c,g.c]∧e 23=dI 2∧e 24=dI i)∧(i≤2)∧(bY (UC p g) i (2 - i)=bY (UC p g) 0 2)) (fun i=>2 - i) 0 ⟨wg,wi,(by rfl)⟩ fun I0 hI0 i e H hi0=>?_)
  obtain ⟨E0,hi,hF⟩:=hi0
  have Y:=wa Y E0
  refine dU (fun h5=>?_) fun h5=>?_
  ·have hi2:i<2:=by omega
   have hst:=j6 (UC p g) hi2
   rw [hF] at hst
   obtain ⟨x,hx,hgx⟩:∃ x:Graph,[[D.list (p.nodes.map cI),D.list (p.edges.map Edge.c)],[D.list (g.nodes.map cI),D.list (g.edges.map Edge.c)]][i]?=some [D.list (x.nodes.map cI),D.list (x.edges.map Edge.c)]∧UC p g i=graphF x:=by
    rcases bQ i 1 with h|h
    ·obtain rfl:i=0:=by omega
     exact ⟨p,rfl,rfl⟩
    ·obtain rfl:i=1:=by omega
     exact ⟨g,rfl,rfl⟩
   have hgr:=lM x
   have Y:=wa Y (wa h5 hx)
   refine wo (h:=aB (hgr) wl ?_)
   refine mP (fun h8=>?_) fun h8=>?_
   ·have hR:iF t p g=graphF x:=by
     rw [hgx,if_pos (by simpa using h8),UB] at hst
     rw [hA]
     by_cases h1:graphF p=0
     ·rw [if_neg (by simp [h1])] at hst ⊢
      by_cases h2':graphF g=0
      ·rw [if_neg (by simp [h2'])] at hst;exact absurd hst.symm h8
      ·rw [if_pos h2'] at hst ⊢;exact hst
     ·rw [if_pos h1] at hst ⊢;exact hst
    exact wv (h:=hQ _ _ (by simp [go_sem,hR]))
   ·rw [hgx,if_neg (by simpa using h8)] at hst
    exact wo (h:=wx hI0 (i+1) ⟨wg,wj,(by exact hst.symm)⟩)
  ·have hz:bY (UC p g) 0 2=0:=by rw [← hF,show 2 - i=0 by omega];rfl
   have hp0:graphF p=0:=eJ _ _ hz 0 (by omega) (by omega)
   have hg0:graphF g=0:=eJ _ _ hz 1 (by omega) (by omega)
   rw [if_neg (by simpa using hp0),if_neg (by simpa using hg0),← GT t hp0,← GT t hg0] at hA
   refine wo (h:=aB (zB t p) wl ?_)
   refine wo (h:=bD (fun hg=>zB t g) (fun hg=>wl) ?_)
   refine mP (fun h11=>?_) fun h11=>?_
   ·rw [if_pos (by simpa [Classical.or_iff_not_imp_left] using h11)] at hA
    exact wv (h:=hQ _ _ (by simp [go_sem,hA]))
   ·rw [if_neg (by simpa [Classical.or_iff_not_imp_left] using h11)] at hA
    exact wv (h:=hQ _ _ (by simp [go_sem,hA]))
/-! ### below -/
def pT (n:Nat)(l:List Int):List Bool:=(List.range n).map fun (b:Nat)=>mem l (b:Int)
@[go_sem] theorem Pe (n:Nat)(l:List Int):(pT n l).length=n:=by simp [pT]
theorem Pd (n:Nat):pT n []=List.replicate n false:=by
 apply fS (by simp [pT]);intro i h1 h2;simp [pT,DG]
theorem Mh (n:Nat)(l:List Int)(x:Int)(h0:0≤x):pT n (l++[x])=(pT n l).set x.toNat true:=by
 apply fS (by simp [pT]);intro i h2 h3
 rw [yS]
 simp only [pT,rM,oD,wY]
 split
 ·rename_i h;rw [cK];right;simp;omega
 ·rename_i h;rw [show decide ((i:Int)=x)=false by simp;omega,s8]
def Ir (t:Types)(a:Nat):List Bool:=pT t.nodes.length (i9 t a)
def pR (t:Types)(n:Nat):List (List D):=(List.range n).map fun a=>[.list ((Ir t a).map cB)]
def belowD (t:Types):D:=.list (pR t t.nodes.length)
theorem L4 (t:Types)(n:Nat):pR t (n+1)=pR t n++[[.list ((Ir t n).map cB)]]:=by simp [pR,cA]
@[go_sem] theorem Vy (t:Types)(n:Nat):(pR t n).length=n:=by simp [pR]
@[go_sem] theorem Ql (t:Types)(n:Nat):D.clLL (pR t n)=true:=by
 unfold pR;exact cE (fun a=>[.list ((Ir t a).map cB)]) (fun a=>by simp [D.clL,go_sem]) _
theorem PO {t:Types}{a:Int}{x:Int}(h:x∈i9 t a):0≤x∧x<t.nodes.length:=by
 unfold i9 at h
 split at h
 ·simp at h;omega
 ·cases h
theorem M2 (t:Types)(a:Int):(i9 t a).length≤t.nodes.length:=by
 unfold i9
 split
 ·rw [bM];exact cQ (fJ _ _) (by simp)
 ·simp
@[go_sem] theorem VW (t:Types):(belowD t).cl=true:=Ql t _
theorem AD (t:Types)(ht:t.ok):Pure Tryz.prog 182 [t.d] (belowD t):=by
 have hfew:=ht.fewN
 refine Tz.pK ⟨fun t=>t==3||t==5||t==19,fun _=>[]⟩ Tryz.func182 rfl (fun Q hQ=>?_)
 have Y:=trivial
 refine wo (h:=cD (fun i e H=>(e 1=.adr t.c∧e 11=.list (t.nodes.map NodeTy.c)∧e 12=dI t.nodes.length∧e 3=.own 0 i∧e 13=dI i)∧(H.get 0=some ⟨42,1,pR t i,false⟩)∧(0<H.next)∧(i≤t.nodes.length)) (fun i=>t.nodes.length - i) 0 ⟨wg,(by (simp [go_sem,pR])),wn,wi⟩ fun I0 hI0 i e H hi0=>?_)
 obtain ⟨E0,g0_0,n0_0,hi⟩:=hi0
 have Y:=wa Y (wa E0 (wa g0_0 (cO n0_0)))
 refine dU (fun h3=>?_) fun h3=>?_
 ·have hll:=M2 t i
  have Y:=wa Y h3
  refine wo (h:=aB (JB t ht i) wl ?_)
  refine wo (h:=cD (fun k e H=>∃ q:Nat,(e 1=.adr t.c∧e 11=.list (t.nodes.map NodeTy.c)∧e 12=dI t.nodes.length∧e 3=.own 0 i∧e 13=dI i∧e 4=dI i∧e 5=.own q t.nodes.length∧e 26=dLI (i9 t i)∧e 27=dI (i9 t i).length∧e 28=dI k)∧(H.get 0=some ⟨42,1,pR t i,false⟩)∧(0<H.next)∧(H.get q=some ⟨4,1,(pT t.nodes.length ((i9 t i).take k)).map cB,false⟩)∧(q<H.next)∧(k≤(i9 t i).length)∧(0<q)) (fun k=>(i9 t i).length - k) 0 ⟨H.next,wg,wn,wn,(by (simp [go_sem,Pd])),wn,wi,wi⟩ fun I2 hI2 k e H hi2=>?_)
  obtain ⟨q,E2,g0_2,n0_2,gq_2,nq_2,hk,hq0⟩:=hi2
  have di1:=dP (show q≠0 by omega)
  have Y:=wa Y (wa E2 (wa g0_2 (wa (cO n0_2) (wa gq_2 (wa (cO nq_2) di1)))))
  refine dU (fun h8=>?_) fun h8=>?_
  ·have hbx:=PO (aC h8)
   have hbl:(i9 t i)[k].toNat<(pT t.nodes.length ((i9 t i).take k)).length:=by rw [Pe];omega
   have hms:pT t.nodes.length ((i9 t i).take (k+1))=(pT t.nodes.length ((i9 t i).take k)).set (i9 t i)[k].toNat true:=by rw [aG h8,Mh _ _ _ hbx.1]
   have Y:=wa Y (wa h8 (wa (aA h8) (wa (aA hbl) (wa hbx.1 hbx.2))))
   exact wo (h:=wx hI2 (k+1) ⟨q,wg,wn,wn,(by (simp [go_sem,Y,hms,eF,cB])),wn,wj,wj⟩)
  ·have hke:(i9 t i).take k=i9 t i:=aK (by omega)
   have Y:=wa Y hke
   exact wo (h:=wx hI0 (i+1) ⟨wg,(by (simp [go_sem,Y,L4,Ir])),wn,wj⟩)
 ·exact wv (h:=hQ _ _ (by simp [go_sem,Y,belowD,show i=t.nodes.length by omega]))
end Go.Abs
end
