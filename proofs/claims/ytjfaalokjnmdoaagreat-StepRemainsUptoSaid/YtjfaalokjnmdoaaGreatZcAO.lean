/- What matches, extensions and conditions come to (plain funct -/
import Derived.Test.YtjfaalokjnmdoaaGreatZcAK
import Derived.Test.YtjfaalokjnmdoaaGreatZcAN
import Derived.Test.YtjfaalokjnmdoaaGreatZcAF
import Derived.Test.YtjfaalokjnmdoaaGreatZcAA
set_option linter.unusedVariables false
set_option linter.unusedSimpArgs false
section
set_option maxRecDepth 100000
set_option maxHeartbeats 4000000
open Go Go.Proofs
namespace Go.Abs
structure Mat where
 m:Part
 vars:List Int
def Mat.c (x:Mat):List D:=[dLI x.m.nodes,dLI x.m.edges,dLI x.vars]
def Mat.d (x:Mat):D:=.agg x.c
@[go_sem] theorem Mat.cl (x:Mat):D.clL x.c=true:=by simp [Mat.c,D.clL,nC]
@[go_sem] theorem X4 (l:List Mat):D.clLL (l.map Mat.c)=true:=c4 _ Mat.cl l
def Gv (l:List Part):List Part × Int:=if 5000<(l.take 5001).length then ([],3) else (l.take 5001,0)
def mI (t:Types)(p g:Graph)(inj:Bool):List Part × Int:=if eB t p g≠0 then ([],eB t p g) else Gv (HG ⟨t,p,g,List.replicate p.nodes.length (-1),List.replicate p.edges.length (-1),inj⟩)
def LK (n:Int)(l:List Int)(i:Nat):Int:=if l[i]?.getD 0 < -1∨n≤l[i]?.getD 0 then 6 else 0
def vR (l:List Int)(n:Int):Int:=bR (LK n l) 0 l.length
def tZ (t:Types)(p g:Graph)(q:Part)(inj:Bool):List Part × Int :=
 if eB t p g≠0 then ([],eB t p g)
 else if q.nodes.length≠p.nodes.length∨q.edges.length≠p.edges.length then ([],20)
 else if vR q.nodes g.nodes.length≠0 then ([],vR q.nodes g.nodes.length)
 else if vR q.edges g.edges.length≠0 then ([],vR q.edges g.edges.length)
 else Gv (HG ⟨t,p,g,q.nodes,q.edges,inj⟩)
def Fy (n:Nat)(at_ im:List Int):List Int:=(List.range at_.length).foldl (fun acc i=>acc.set (at_[i]?.getD 0).toNat (im[i]?.getD 0)) (List.replicate n (-1))
def tK (c:Part)(q:Pattern)(m:Part):Part:=⟨Fy q.graph.nodes.length c.nodes m.nodes,Fy q.graph.edges.length c.edges m.edges⟩
def wP (q:Pattern)(h:Host)(vars:List Int)(l:List Part):List Mat:=l.filterMap fun x=>if (fW q h x vars).2=0 then some ⟨x,(fW q h x vars).1⟩ else none
def CR (t:Types)(c:Part)(q:Pattern)(h:Host)(m:Mat)(inj:Bool):List Mat × Int :=
 if (tZ t q.graph h.graph (tK c q m.m) inj).2≠0 then ([],(tZ t q.graph h.graph (tK c q m.m) inj).2)
 else (wP q h m.vars (tZ t q.graph h.graph (tK c q m.m) inj).1,0)
/-! ### conditions: the first witness -/
inductive Prf where
 | mk (choice:Int) (m:Mat) (kids:List Prf)
mutual
def Prf.c:Prf→List D
 | .mk ch m l=>[dI ch,dLI m.m.nodes,dLI m.m.edges,dLI m.vars,.list (Prf.cs l)]
def Prf.cs:List Prf→List (List D)
 | []=>[]
 | p :: l=>p.c :: Prf.cs l
end
theorem Prf.cs_eq (l:List Prf):Prf.cs l=l.map Prf.c:=by
 induction l with
 | nil=>simp [Prf.cs]
 | cons a l ih=>simp [Prf.cs,ih]
theorem Prf.c_eq (ch:Int)(m:Mat)(l:List Prf):(Prf.mk ch m l).c=[dI ch,dLI m.m.nodes,dLI m.m.edges,dLI m.vars,.list (l.map Prf.c)]:=by simp [Prf.c,Prf.cs_eq]
mutual
theorem Prf.cl:∀ x:Prf,D.clL x.c=true
 | .mk ch m l=>by
  have:=Prf.cls l
  simp [Prf.c,D.clL,D.cl,dI,nC,this]
theorem Prf.cls:∀ l:List Prf,D.clLL (Prf.cs l)=true
 | []=>by simp [Prf.cs,D.clLL]
 | c :: l=>by simp [Prf.cs,D.clLL,Prf.cl c,Prf.cls l]
end
attribute [go_sem] Prf.cl
@[go_sem] theorem XP (l:List Prf):D.clLL (l.map Prf.c)=true:=by rw [← Prf.cs_eq];exact Prf.cls l
mutual
theorem Va:∀ x:Prf,jH x.c=x.c
 | .mk ch m l=>by
  have:=Kl l
  simp [Prf.c,jH,mO,dI,dLI,eZ,this]
theorem Kl:∀ l:List Prf,d7 (Prf.cs l)=Prf.cs l
 | []=>by simp [Prf.cs,d7]
 | c :: l=>by simp [Prf.cs,d7,Va c,Kl l]
end
theorem jX (l:List Prf):d7 (l.map Prf.c)=l.map Prf.c:=by rw [← Prf.cs_eq];exact Kl l
def lU:Mat:=⟨⟨[],[]⟩,[]⟩
def kK:Prf:=.mk 0 lU []
def Uw (e:Int):Int:=if e=0 then 10 else if e=10 then 0 else e
def QZ:List (Prf × Int)→List Prf→Prf × Int
 | [],acc=>(.mk 0 lU acc,0)
 | (p,e) :: l,acc=>if e≠0 then (kK,e) else QZ l (acc++[p])
def VC:List (Prf × Int)→Nat→Prf × Int
 | [],_=>(kK,10)
 | (p,e) :: l,i=>if e≠10 then (.mk i lU [p],e) else VC l (i+1)
def VO:List (Mat × (Prf × Int))→Prf × Int
 | []=>(kK,10)
 | (m,(p,e)) :: l=>if e≠10 then (.mk 0 m [p],e) else VO l
def Mf (fs:List (Mat→Prf × Int)):Mat→Prf × Int:=fs.head?.getD fun _=>(kK,0)
mutual
def rE (t:Types)(h:Host)(inj:Bool):Cond→Mat→Prf × Int
 | .mk k l mp q=>fun m =>
  if k=2 then (kK,Uw (Mf (Dd t h inj l) m).2)
  else if k=3 then QZ ((Dd t h inj l).map fun f=>f m) []
  else if k=4 then VC ((Dd t h inj l).map fun f=>f m) 0
  else if k=5 then (if (CR t mp q h m inj).2≠0 then (kK,(CR t mp q h m inj).2) else VO ((CR t mp q h m inj).1.map fun x=>(x,Mf (Dd t h inj l) x)))
  else (kK,0)
def Dd (t:Types)(h:Host)(inj:Bool):List Cond→List (Mat→Prf × Int)
 | []=>[]
 | c :: l=>rE t h inj c :: Dd t h inj l
end
theorem Rd (t:Types)(h:Host)(inj:Bool)(l:List Cond):Dd t h inj l=l.map (rE t h inj):=by
 induction l with
 | nil=>simp [Dd]
 | cons a l ih=>simp [Dd,ih]
theorem OV (t:Types)(h:Host)(inj:Bool)(c:Cond)(m:Mat):rE t h inj c m =
  if c.kind=2 then (kK,Uw (Mf (c.kids.map (rE t h inj)) m).2)
  else if c.kind=3 then QZ (c.kids.map fun k=>rE t h inj k m) []
  else if c.kind=4 then VC (c.kids.map fun k=>rE t h inj k m) 0
  else if c.kind=5 then (if (CR t c.map c.pattern h m inj).2≠0 then (kK,(CR t c.map c.pattern h m inj).2) else VO ((CR t c.map c.pattern h m inj).1.map fun x=>(x,Mf (c.kids.map (rE t h inj)) x)))
  else (kK,0):=by
 cases c;simp only [rE,Rd,Cond.kind,Cond.kids,Cond.map,Cond.pattern,List.map_map];rfl
def SC (t:Types)(h:Host)(inj:Bool)(c:Cond)(m:Mat):Int:=(rE t h inj c m).2
def tV (t:Types)(h:Host)(inj:Bool)(c:Cond)(m:Mat):Bool × Int:=if SC t h inj c m=10 then (false,0) else (decide (SC t h inj c m=0),SC t h inj c m)
/-! ### a step -/
def eN (t:Types)(p:Pattern)(h:Host)(m:Part):List Int × Int :=
 if bN t p≠0 then ([],bN t p) else if fR t h≠0 then ([],fR t h) else if fM t p.graph h.graph m false≠0 then ([],fM t p.graph h.graph m false) else fW p h m []
def fK (t:Types)(p:Pattern)(h:Host)(inj:Bool):List Mat × Int :=
 if bN t p≠0 then ([],bN t p) else if fR t h≠0 then ([],fR t h)
 else if (mI t p.graph h.graph inj).2≠0 then ([],(mI t p.graph h.graph inj).2) else (wP p h [] (mI t p.graph h.graph inj).1,0)
def xN (p g:Graph)(m:Part):Graph:=⟨m.nodes.map (gN g),p.edges⟩
def Ai (t:Types)(r:Rule)(h:Host)(m:Mat):Int :=
 if fM t r.left.graph h.graph m.m r.inj≠0 then 1
 else if (eN t r.left h m.m).2≠0 then (eN t r.left h m.m).2
 else if (eN t r.left h m.m).1≠m.vars then 11
 else xZ (xN r.left.graph h.graph m.m) h.graph r.keep m.m
def zW (t:Types)(r:Rule)(h:Host)(m:Mat):Int :=
 if Ai t r h m≠0 then Ai t r h m
 else if (tV t h r.inj r.cond m).2≠0 then (tV t h r.inj r.cond m).2
 else if (tV t h r.inj r.cond m).1=false then 16 else 0
def cE (r:Rule)(h:Host)(m:Mat):Part:=z8 (xN r.left.graph h.graph m.m) h.graph r.keep m.m
def iB (l:List Int)(n:Nat)(v:Int):Int:=(List.range n).foldl (fun acc (k:Nat)=>if l[k]?.getD (-1)=v then (k:Int) else acc) (-1)
def v8 (l:List Int)(n:Nat):List Int:=(List.range n).map fun (v:Nat)=>iB l l.length v
def Cy (into:List Int)(i:Nat):Nat:=((List.range i).filter fun (j:Nat)=>decide (iB into into.length j<0)).length
def MA (keep into at_:List Int)(remain:Nat)(i:Nat):Int:=if 0≤iB into into.length i then at_[(keep[(iB into into.length i).toNat]?.getD 0).toNat]?.getD 0 else ((remain+Cy into i:Nat):Int)
def Kt (keep into at_:List Int)(right remain:Nat):List Int:=(List.range right).map (MA keep into at_ remain)
def mA (d:List Int)(n:Nat):List Int:=v8 d n
def dC (r:Rule)(h:Host)(m:Mat):Part:=⟨mA (cE r h m).nodes h.graph.nodes.length,mA (cE r h m).edges h.graph.edges.length⟩
def sU (l tr:List Int):List Int:=l.map fun k=>tr[k.toNat]?.getD 0
def gM (r:Rule)(h:Host)(m:Mat):Part :=
 ⟨Kt r.keep.nodes r.into.nodes (sU m.m.nodes (dC r h m).nodes) r.right.graph.nodes.length (cE r h m).nodes.length,Kt r.keep.edges r.into.edges (sU m.m.edges (dC r h m).edges) r.right.graph.edges.length (cE r h m).edges.length⟩
def qL (t:Types)(k:Int):List Int:=(bI t k).map fun a=>a.low
def freshE (c:Part)(y:Edge):Edge:=⟨y.type,c.nodes[y.from_.toNat]?.getD 0,c.nodes[y.to_.toNat]?.getD 0⟩
def z6 (t:Types)(r:Rule)(c:Part)(x:Host):Host :=
 ⟨⟨x.graph.nodes++r.freshN.map (gN r.right.graph),x.graph.edges++r.freshE.map (fun k=>freshE c (r.right.graph.edges[k.toNat]?.getD b7))⟩,x.values++r.freshN.map (fun k=>qL t (gN r.right.graph k))⟩
def cD (t:Types)(r:Rule)(h:Host)(m:Mat):Host:=z6 t r (gM r h m) ⟨bS h.graph (cE r h m),(cE r h m).nodes.map fun k=>h.values[k.toNat]?.getD []⟩
def fI (c:Part)(s:Slot):Nat:=(c.nodes[s.node.toNat]?.getD 0).toNat
def GH (c:Part)(vs:List Int)(a b:Slot):Bool:=decide (fI c a=fI c b)&&(decide (a.attr=b.attr)&&decide (c5 a.term vs≠c5 b.term vs))
def AE (c:Part)(vs:List Int)(l:List Slot):Bool:=(List.range l.length).any fun i=>(List.range i).any fun k=>match l[k]?,l[i]? with|some a,some b=>GH c vs a b|_,_=>false
def FC (t:Types)(g:Graph)(c:Part)(vs:List Int)(s:Slot):Bool :=
 let a:=(bI t (g.nodes[fI c s]?.getD 0))[s.attr.toNat]?.getD mQ
 decide (c5 s.term vs<a.low)||decide (a.high<c5 s.term vs)
def Bb (t:Types)(g:Graph)(c:Part)(vs:List Int)(l:List Slot):Int:=if AE c vs l=true then 11 else if l.any (FC t g c vs)=true then 6 else 0
def zD (c:Part)(vs:List Int)(l:List Slot)(vals:List (List Int)):List (List Int):=l.foldl (fun vals s=>vals.set (fI c s) ((vals[fI c s]?.getD []).set s.attr.toNat (c5 s.term vs))) vals
def fO (t:Types)(r:Rule)(h:Host)(m:Mat):Host:=⟨(cD t r h m).graph,zD (gM r h m) m.vars r.right.slots (cD t r h m).values⟩
def iY (t:Types)(r:Rule)(h:Host)(m:Mat):Int :=
 if zW t r h m≠0 then zW t r h m
 else if Bb t (cD t r h m).graph (gM r h m) m.vars r.right.slots≠0 then Bb t (cD t r h m).graph (gM r h m) m.vars r.right.slots
 else if 40<(cD t r h m).graph.nodes.length∨80<(cD t r h m).graph.edges.length then 3 else 0
structure Stp26 where
 rule:Rule
 mat:Mat
 before:Host
 after:Host
 track:Part
 comatch:Part
def Stp26.c (s:Stp26):List D:=s.rule.c++s.mat.c++s.before.c++s.after.c++[dLI s.track.nodes,dLI s.track.edges,dLI s.comatch.nodes,dLI s.comatch.edges]
def gQ (t:Types)(r:Rule)(h:Host):Int:=if ruleF t r≠0 then ruleF t r else fR t h
def HF (t:Types)(r:Rule)(h:Host)(m:Mat):Int:=if gQ t r h≠0 then gQ t r h else iY t r h m
def sK (t:Types)(r:Rule)(h:Host)(m:Mat):Stp26:=⟨r,m,h,fO t r h m,dC r h m,gM r h m⟩
def n7 (t:Types)(r:Rule)(h:Host):List Mat × Int :=
 if gQ t r h≠0 then ([],gQ t r h) else if (fK t r.left h r.inj).2≠0 then ([],(fK t r.left h r.inj).2) else ((fK t r.left h r.inj).1.filter fun m=>decide (iY t r h m=0),0)
@[go_sem] theorem VA (l:List Part):D.clLL (l.map Part.c)=true:=FB l
def JO (t:Types)(p g:Graph)(m:Part):Graph:=if fM t p g m false=0 then xN p g m else ⟨[],[]⟩
theorem CA {t:Types}{p g:Graph}{m:Part}{inj:Bool}(h:jO t p g m inj=0) :
  (m.nodes.length=p.nodes.length∧m.edges.length=p.edges.length)∧(∀ x∈m.nodes,0≤x∧x<g.nodes.length)∧(∀ x∈m.edges,0≤x∧x<g.edges.length):=by
 unfold jO at h
 split at h
 ·cases h
 ·rename_i h1
  split at h
  ·exact absurd h (by assumption)
  ·rename_i h2
   split at h
   ·exact absurd h (by assumption)
   ·rename_i h3
    refine ⟨by omega,fun x hx=>?_,fun x hx=>?_⟩
    ·obtain ⟨k,hk,rfl⟩:=aN hx
     have:=dY _ _ (by simpa using h2) k (d8 _) (by omega)
     unfold Ra at this
     rw [aA hk,aD] at this
     split at this
     ·cases this
     ·omega
    ·obtain ⟨k,hk,rfl⟩:=aN hx
     have:=dY _ _ (by simpa using h3) k (d8 _) (by omega)
     unfold jF at this
     rw [aA hk,aD] at this
     split at this
     ·cases this
     ·omega
theorem CZ {t:Types}{p g:Graph}{m:Part}{inj:Bool}(h:fM t p g m inj=0):G17 t p g∧jO t p g m inj=0:=by
 unfold fM at h
 split at h
 ·exact absurd h (by assumption)
 ·rename_i h1;exact ⟨qQ (by simpa using h1),h⟩
end Go.Abs
end
section
namespace Go.Abs
theorem RepV.both {M : Nat → Prop} {σ : Nat → Option Ow} {N : Nat → Prop} {w : World} {M' : Nat → Prop} {σ' : Nat → Option Ow} {N' : Nat → Prop} {w' : World} {v : Value} {d : D} (h : RepV M σ N w v d) :
    ∀ v', RepV M' σ' N' w' v' d → RepV M σ (fun i => N i ∧ N' i) w v d := by
  induction h with
  | int => exact fun _ _ => .int _ _
  | bool => exact fun _ _ => .bool _
  | str => exact fun _ _ => .str _
  | agg vs ds hl h1 hr ih =>
    intro v' h'
    cases h' with
    | agg vs' _ hl' h1' hr' =>
      exact .agg vs ds hl h1 fun j u x hu hx => by
        have hj : j < vs'.length := by rw [hl']; exact (aL.1 hx).1
        exact ih j u x hu hx vs'[j] (hr' j _ x (aA hj) hx)
  | tup vs ds hl hr ih =>
    intro v' h'
    cases h' with
    | tup vs' _ hl' hr' =>
      exact .tup vs ds hl fun j u x hu hx => by
        have hj : j < vs'.length := by rw [hl']; exact (aL.1 hx).1
        exact ih j u x hu hx vs'[j] (hr' j _ x (aA hj) hx)
  | nil => exact fun _ _ => .nil
  | listN => exact fun _ _ => .listN
  | list ad cap sz xs es hc hm hsz hl h1 hcell hr ih =>
    intro v' h'
    cases h' with
    | listN => exact .list ad cap sz xs [] hc hm hsz hl h1 hcell fun j u x hu hx => by simp at hx
    | list ad' cap' sz' xs' _ hc' hm' hsz' hl' h1' hcell' hr' =>
      exact .list ad cap sz xs es hc hm hsz hl h1 hcell fun j u x hu hx => by
        have hj : j < xs'.length := by rw [hl']; exact (aL.1 hx).1
        exact ih j u x hu hx xs'[j] (hr' j _ x (aA hj) hx)
  | adr ad xs ds hl h1 hcell hr ih =>
    intro v' h'
    cases h' with
    | adr ad' xs' _ hl' h1' hcell' hr' =>
      exact .adr ad xs ds hl h1 hcell fun j u x hu hx => by
        have hj : j < xs'.length := by rw [hl']; exact (aL.1 hx).1
        exact ih j u x hu hx xs'[j] (hr' j _ x (aA hj) hx)
  | ne ad cap hm => exact fun _ _ => .ne ad cap hm
  | nilp => exact fun _ _ => .nilp
  | ptr v id ver i off hN h1 h =>
    intro v' h'
    cases h' with
    | ptr _ _ _ _ _ hN' _ _ => exact .ptr v id ver i off ⟨hN, hN'⟩ h1 h
  | own v id n hN h1 h =>
    intro v' h'
    cases h' with
    | own _ _ _ hN' _ _ => exact .own v id n ⟨hN, hN'⟩ h1 h
  | win v id ver lo hi hN h1 hlh h =>
    intro v' h'
    cases h' with
    | win _ _ _ _ _ hN' _ _ _ => exact .win v id ver lo hi ⟨hN, hN'⟩ h1 hlh h
  | fn f vs ds hl hr ih =>
    intro v' h'
    cases h' with
    | fn _ vs' _ hl' hr' =>
      exact .fn f vs ds hl fun j u x hu hx => by
        have hj : j < vs'.length := by rw [hl']; exact (aL.1 hx).1
        exact ih j u x hu hx vs'[j] (hr' j _ x (aA hj) hx)
  | nilf => exact fun _ _ => .nilf
  | opt v g d hf h ih =>
    intro v' h'
    cases h' with
    | opt _ _ _ hf' h'' => exact .opt v g d hf fun hg => ih hg v' (h'' hg)
  | cst v => exact fun _ _ => .cst v
  | junk v => exact fun _ _ => .junk v
def Af (τ:Nat→Nat):D→D
 | .own id n=>.own (τ id) n
 | d=>d
def VD (A:Nat→Prop):D→Prop
 | .own id _=>A id
 | d=>d.cl=true
def Ru (τ:Nat→Nat):D→D
 | .agg cs=>.agg (cs.map (Af τ))
 | d=>Af τ d
def XR (A:Nat→Prop):D→Prop
 | .agg cs=>∀ c∈cs,VD A c
 | d=>VD A d
theorem RepV.unren {M M':Nat→Prop}{σ1 σE:Nat→Option Ow}{N1 A:Nat→Prop}{w:World}{τ:Nat→Nat}{v:Value}{d:D}(h:RepV M σ1 N1 w v (Af τ d))(ho:VD A d)(hs:∀ j,A j→σE j=σ1 (τ j))(hM:∀ b,¬ M b→¬ M' b):RepV M' σE A w v d:=by
 by_cases hd:∃ id n,d=.own id n
 ·obtain ⟨id,n,rfl⟩:=hd
  cases h with
  | own _ _ _ hN h1 h=>exact .own v id n ho h1 fun o he=>h o (by rw [← hs id ho];exact he)
 ·have e:Af τ d=d:=by cases d<;>first|rfl|exact absurd ⟨_,_,rfl⟩ hd
  have hc:d.cl=true:=by cases d<;>first|exact ho|exact absurd ⟨_,_,rfl⟩ hd
  rw [e] at h
  exact h.closed (fun ad u hm hu=>⟨hM _ hm,hu⟩) hc
theorem RepV.unrenC {M M' : Nat → Prop} {σ1 σE : Nat → Option Ow} {N1 A : Nat → Prop} {w : World} {τ : Nat → Nat} {v : Value} {d : D} (h : RepV M σ1 N1 w v (Ru τ d)) (ho : XR A d) (hs : ∀ j, A j → σE j = σ1 (τ j)) (hM : ∀ b, ¬ M b → ¬ M' b) : RepV M' σE A w v d := by
  by_cases hd : ∃ cs, d = .agg cs
  · obtain ⟨cs, rfl⟩ := hd
    cases h with
    | agg vs _ hl h1 hr =>
      exact .agg vs cs (by simpa using hl) h1 fun j u x hu hx => (hr j u (Af τ x) hu (by rw [aM, hx]; rfl)).unren (ho x (aH hx)) hs hM
  · have e : Ru τ d = Af τ d := by cases d <;> first | rfl | exact absurd ⟨_, rfl⟩ hd
    have e2 : XR A d = VD A d := by cases d <;> first | rfl | exact absurd ⟨_, rfl⟩ hd
    rw [e] at h; rw [e2] at ho
    exact h.unren ho hs hM
structure Exact (H H1 E:AHeap) (τ:Nat→Nat):Prop where
 nx:∀ j,E.al j→j<E.next
 inj:∀ i j,E.al i→E.al j→τ i=τ j→i=j
 old:∀ j,H.al j→E.al j∧τ j=j
 non:∀ j,¬ E.al j→E.get j=none
 blk:∀ j k,E.get j=some k→(H.al j∧H.get j=some k∧H1.get j=some k) ∨
  (∃ k0,H1.get (τ j)=some k0∧k0.ty=k.ty∧k0.sz=k.sz∧k0.fz=k.fz∧k0.es=k.es.map (·.map (Af τ))∧∀ c∈k.es,∀ y∈c,VD E.al y)
theorem ACalls.exact {P:Program}{f:FuncId}{args:List D}{H E:AHeap}{r:D}{Q:D→AHeap→Prop}(h:ACalls P f args H Q)
  (hQ:(∀ j,H.al j→j<H.next)→(∀ j,¬ H.al j→H.get j=none)→∀ d H1,Q d H1→∃ τ,Exact H H1 E τ∧d=Ru τ r∧XR E.al r):ACalls P f args H fun d H1=>d=r∧H1=E :=
 ⟨h.1,fun M0 σ w vals hR ha=>(h.2 M0 σ w vals hR ha).mono fun e w' ⟨v,d,H1,σ1,he,hR1,hv,hst,hk,hq⟩=>by
  obtain ⟨τ,X,rfl,hok⟩:=hQ hR.nxt (fun j hj=>(hR.top j hj).2) d H1 hq
  classical
  obtain ⟨σE,hσ⟩:∃ σE:Nat→Option Ow,∀ j,σE j=if E.al j then σ1 (τ j) else none:=⟨fun j=>if E.al j then σ1 (τ j) else none,fun _=>rfl⟩
  have hs:∀ j,E.al j→σE j=σ1 (τ j):=fun j hj=>by rw [hσ,if_pos hj]
  have hsn:∀ j,¬ E.al j→σE j=none:=fun j hj=>by rw [hσ,if_neg hj]
  have hal:∀ j o,σE j=some o→E.al j:=fun j o ho=>bD fun hn=>by rw [hsn j hn] at ho;cases ho
  have halg:∀ j k,E.get j=some k→E.al j:=fun j k ho=>bD fun hn=>by rw [X.non j hn] at ho;cases ho
  have hmut:∀ b,¬ cR M0 H1 σ1 b→¬ cR M0 E σE b:=by
   rintro b hm (h0|⟨j,k,o,hk',hf,ho,hb⟩)
   ·exact hm (.inl h0)
   ·rw [hs j (halg j k hk')] at ho
    rcases X.blk j k hk' with ⟨h1,h2,h3⟩|⟨k0,h1,h2,h3,h4,_⟩
    ·rw [(X.old j h1).2] at ho
     exact hm (.inr ⟨j,k,o,h3,hf,ho,hb⟩)
    ·exact hm (.inr ⟨τ j,k0,o,h1,h4.trans hf,ho,hb⟩)
  have hkE:Keeps (cR M0 H σ) σ H.al w (cR M0 E σE) σE E.al w':=by
   refine ⟨fun ad u hm hu=>?_,fun id o' hid ho'=>?_,fun id hid=>(X.old id hid).1⟩
   ·obtain ⟨a1,a2⟩:=hk.cell ad u hm hu;exact ⟨hmut _ a1,a2⟩
   ·rw [hs id (X.old id hid).1,(X.old id hid).2] at ho';exact hk.own id o' hid ho'
  have hkS:Keeps (cR M0 H1 σ1) σ1 (fun i=>H1.al i∧H.al i) w' (cR M0 E σE) σE E.al w':=by
   refine ⟨fun ad u hm hu=>⟨hmut _ hm,hu⟩,fun id o' hid ho'=>?_,fun id hid=>(X.old id hid.2).1⟩
   rw [hs id (X.old id hid.2).1,(X.old id hid.2).2] at ho';exact ⟨o',ho',.inl rfl⟩
  have hRE:Rel M0 E σE w':=by
   refine ⟨fun j hj=>⟨hsn j hj,X.non j hj⟩,X.nx,fun j k hk'=>?_,fun i j o o' b hi hj hb hb'=>?_,fun i o b hi hb=>?_,hR1.m0⟩
   ·have hj:=halg j k hk'
    rcases X.blk j k hk' with ⟨h1,h2,h3⟩|⟨k0,h1,h2,h3,h4,h5,h6⟩
    ·obtain ⟨o,ho,l⟩:=hR1.lies j k h3
     obtain ⟨o0,ho0,l0⟩:=hR.lies j k h2
     obtain ⟨xs,a1,a2,a3⟩:=l.row
     obtain ⟨ys,b1,b2,b3⟩:=l0.row
     refine ⟨o,by rw [hs j hj,(X.old j h1).2];exact ho,l.ver,l.ty,l.sz,l.esz,xs,a1,a2,a3.len,fun q u d hu hd=>?_⟩
     have hq':q<ys.length:=by rw [b3.len];exact (aL.1 hd).1
     exact ((a3.rep q u d hu hd).both _ (b3.rep q ys[q] d (aA hq') hd)).keep hkS
    ·obtain ⟨o,ho,l⟩:=hR1.lies (τ j) k0 h1
     obtain ⟨xs,a1,a2,a3⟩:=l.row
     have hlen:k0.es.length=k.es.length:=by rw [h5,bA]
     have hfl:k0.es.flatten=k.es.flatten.map (Af τ):=by rw [h5];exact List.map_flatten.symm
     refine ⟨o,by rw [hs j hj];exact ho,by rw [l.ver,hlen],by rw [l.ty,h2],by rw [l.sz,h3],fun c hc=>?_,xs,by rw [← h2,← hlen];exact a1,a2,by rw [a3.len,hfl,bA],fun q u d hu hd=>?_⟩
     ·have:=l.esz (c.map (Af τ)) (by rw [h5];exact List.mem_map_of_mem hc)
      rwa [bA] at this
     ·have hd2:k0.es.flatten[q]?=some (Af τ d):=by rw [hfl,aM,hd];rfl
      obtain ⟨c,hc,hdc⟩:=iG.1 (aH hd)
      exact (a3.rep q u _ hu hd2).unren (h6 c hc d hdc) hs hmut
   ·have hi':=hal i o hi
    have hj':=hal j o' hj
    rw [hs i hi'] at hi;rw [hs j hj'] at hj
    exact X.inj i j hi' hj' (hR1.inj _ _ o o' b hi hj hb hb')
   ·rw [hs i (hal i o hi)] at hi
    exact hR1.lt (τ i) o b hi hb
  refine ⟨v,r,E,σE,he,hRE,hv.unrenC hok hs hmut,⟨hst.os,hst.tape,hst.output,hst.size,hst.old,fun i o' b ho hb=>?_⟩,hkE,rfl,rfl⟩
  rw [hs i (hal i o' ho)] at ho
  exact hst.new (τ i) o' b ho hb⟩
end Go.Abs
end
section
set_option maxRecDepth 100000
set_option maxHeartbeats 4000000
open Go Go.Proofs
namespace Go.Abs
structure SmallA (x:Attr):Prop where
 lo : -1000000≤x.low
 hi:x.high≤1000000
 le:x.low≤x.high
theorem Ej {x:Attr}{b:List Attr}(h:c7 x b=0):SmallA x:=by
 unfold c7 at h
 split at h<;>try (cases h;done)
 split at h<;>try (cases h;done)
 split at h
 ·exact absurd h (by assumption)
 ·rename_i h3
  split at h
  ·rename_i h4
   split at h
   ·rename_i h5
    have hl:x.names.length≤20:=by
     refine bD fun hc=>h3 ?_
     unfold kY;rw [if_pos (by omega)];decide
    simp at h5
    exact ⟨by omega,by omega,by omega⟩
   ·cases h
  ·split at h
   ·rename_i h5
    simp at h5
    exact ⟨by omega,by omega,by omega⟩
   ·cases h
theorem LO {t:Types}{a:Nat}(ha:a<t.nodes.length)(h:f8 t a=0):∀ k,(t.attrs a).length - t.nodes[a].attrs.length≤k→∀ hk:k<(t.attrs a).length,SmallA (t.attrs a)[k]:=by
 rw [xF t a ha] at h
 split at h<;>try (cases h;done)
 split at h<;>try (cases h;done)
 split at h<;>try (cases h;done)
 split at h<;>try (cases h;done)
 split at h<;>try (cases h;done)
 intro k h1 hk
 have:=dY _ _ h k h1 (by omega)
 unfold uF at this
 rw [aA hk] at this
 exact Ej this
theorem MP {t:Types}(hv:(b9 t).2=0):∀ a:Nat,a<t.nodes.length→∀ x∈t.attrs a,SmallA x:=by
 have hval:=lY hv
 have hN:∀ j,j<t.nodes.length→f8 t j=0:=by
  have h:=hv
  unfold b9 at h
  split at h
  ·simp at h
  ·split at h
   ·simp at h
   ·obtain ⟨hN,_⟩:=pT _ _ h
    exact fun j hj=>hN j (by omega) (by omega)
 intro a
 induction a using Nat.strongRecOn with
 | _ a ih =>
 intro ha x hx
 have hrec:=C2 t a ha (hval.parentsOK a)
 have hpar:=hval.parent a _ (aA ha)
 obtain ⟨k,hk,rfl⟩:=aN hx
 by_cases h0:k<(t.attrs a).length - t.nodes[a].attrs.length
 ·by_cases hp:0≤t.nodes[a].parent
  ·rw [if_pos hp] at hrec
   have hl:(t.attrs a).length=(t.attrs t.nodes[a].parent.toNat).length+t.nodes[a].attrs.length:=by rw [hrec];simp
   have hkp:k<(t.attrs t.nodes[a].parent.toNat).length:=by omega
   have he:(t.attrs a)[k]=(t.attrs t.nodes[a].parent.toNat)[k]:=by
    have:(t.attrs a)[k]?=(t.attrs t.nodes[a].parent.toNat)[k]?:=by rw [hrec,aU hkp]
    rw [aA hk,aA hkp] at this
    exact Option.some.inj this
   rw [he]
   exact ih _ (by omega) (by omega) _ (aC hkp)
  ·rw [if_neg hp] at hrec
   have hl:(t.attrs a).length=t.nodes[a].attrs.length:=by rw [hrec];simp
   omega
 ·exact LO ha (hN a ha) k (by omega) hk
theorem IV {t:Types}(hv:t.valid):∀ b:Nat,b<t.nodes.length→∀ a:Nat,mem (t.line b) (a:Int)=true→∃ r,t.attrs b=t.attrs a++r:=by
 intro b
 induction b using Nat.strongRecOn with
 | _ b ih =>
 intro hb a hm
 have hpar:=hv.parent b _ (aA hb)
 rw [xK t b hb (hv.parentsOK b),tP,cG] at hm
 rcases hm with hm|hm
 ·by_cases h0:0≤t.nodes[b].parent
  ·rw [if_pos h0] at hm
   obtain ⟨r,hr⟩:=ih t.nodes[b].parent.toNat (by omega) (by omega) a hm
   exact ⟨r++t.nodes[b].attrs,by rw [C2 t b hb (hv.parentsOK b),if_pos h0,hr,List.append_assoc]⟩
  ·rw [if_neg h0,pP] at hm;cases hm
 ·simp at hm
  have:a=b:=by omega
  subst this
  exact ⟨[],by simp⟩
structure SOk (p:Pattern) (h:Host) (m:Part):Prop where
 vars:0≤p.vars∧p.vars≤12
 node:∀ s∈p.slots,0≤s.node∧s.node<m.nodes.length
 img:∀ k∈m.nodes,0≤k∧k<h.values.length
 attr:∀ s∈p.slots,0≤s.attr∧s.attr<(h.values[(m.nodes[s.node.toNat]?.getD 0).toNat]?.getD []).length
 small:∀ l∈h.values,∀ v∈l,-1000000≤v∧v≤1000000
 term:∀ s∈p.slots,nI s.term p.vars.toNat
 test:∀ x∈p.tests,OS x p.vars.toNat
theorem p5 {t:Types}(hv:(b9 t).2=0){a:Int}(h0:0≤a)(h1:a<t.nodes.length):bI t a=t.attrs a.toNat:=by
 unfold bI;rw [if_pos];simp [given2F,hv,insideF,h0,h1]
theorem vH {t:Types}(hv:(b9 t).2=0)(a:Int):(bI t a).length≤8:=by
 by_cases h:0≤a∧a<t.nodes.length
 ·rw [p5 hv h.1 h.2];exact (lY hv).attrs _ (by omega)
 ·unfold bI;rw [if_neg (by simp [given2F,hv,insideF];omega)];simp
theorem BS {t:Types}(hv:(b9 t).2=0)(a:Int):∀ x∈bI t a,SmallA x:=by
 by_cases h:0≤a∧a<t.nodes.length
 ·rw [p5 hv h.1 h.2];exact MP hv _ (by omega)
 ·unfold bI;rw [if_neg (by simp [given2F,hv,insideF];omega)];simp
structure HostOk (t:Types) (h:Host):Prop where
 vf:(b9 t).2=0
 gg:graphF h.graph=0
 vl:h.values.length=h.graph.nodes.length
 nd:∀ (i:Nat) (hi:i<h.graph.nodes.length) (hv:i<h.values.length),iT t h.graph.nodes[i] h.values[i]=0
 ed:∀ x∈h.graph.edges,x.type<t.edges.length∧j4 t x.type (gN h.graph x.from_) (gN h.graph x.to_)=true
theorem qO {t:Types}{h:Host}(h0:fR t h=0):HostOk t h:=by
 unfold fR vW at h0
 split at h0
 ·rename_i h1;exact absurd h0 h1
 ·rename_i h1
  split at h0
  ·rename_i h2;exact absurd h0 h2
  ·rename_i h2
   split at h0
   ·cases h0
   ·rename_i h3
    split at h0
    ·rename_i h4;exact absurd h0 h4
    ·rename_i h4
     rw [jV] at h4
     rw [sA] at h4 h0
     refine ⟨by omega,by omega,by omega,fun i hi hv=>?_,fun x hx=>?_⟩
     ·have:=dY _ _ h4 i (d8 _) (by omega)
      simpa only [Oe,aA hi,aA hv,aD] using this
     ·obtain ⟨k,hk,rfl⟩:=aN hx
      have:=dY _ _ h0 k (d8 _) (by omega)
      simp only [TP,aA hk,aD] at this
      split at this
      ·cases this
      ·split at this
       ·exact ⟨by omega,by assumption⟩
       ·cases this
theorem tW {t:Types}{k:Int}{vs:List Int}(h:iT t k vs=0):k<t.nodes.length∧j6 t k.toNat=false∧vs.length=(bI t k).length ∧
  ∀ (j:Nat) (hj:j<vs.length) (ha:j<(bI t k).length),(bI t k)[j].low≤vs[j]∧vs[j]≤(bI t k)[j].high:=by
 unfold iT at h
 split at h
 ·cases h
 ·rename_i h1
  split at h
  ·cases h
  ·rename_i h2
   split at h
   ·cases h
   ·rename_i h3
    refine ⟨by omega,by simpa using h2,by omega,fun j hj ha=>?_⟩
    have:=dY _ _ h j (d8 _) (by omega)
    simp only [Hr,aA hj,aA ha,aD] at this
    split at this
    ·cases this
    ·omega
theorem HostOk.row {t:Types}{h:Host}(ho:HostOk t h):∀ v∈h.values,v.length≤8∧∀ x∈v,-1000000≤x∧x≤1000000:=fun v hv=>by
 obtain ⟨i,hi,rfl⟩:=aN hv
 have hn:=ho.vl
 obtain ⟨h1,h2,h3,h4⟩:=tW (ho.nd i (by omega) hi)
 have hl:=vH ho.vf (h.graph.nodes[i]'(by omega))
 refine ⟨by omega,fun x hx=>?_⟩
 obtain ⟨j,hj,rfl⟩:=aN hx
 have:=h4 j hj (by omega)
 have hs:=BS ho.vf _ _ (aC (show j<(bI t (h.graph.nodes[i]'(by omega))).length by omega))
 have:=hs.lo;have:=hs.hi
 omega
/-! ### a host in owned slices -/
def lZ (qs:List Nat)(vs:List (List Int)):List (List D):=List.zipWith (fun q (v:List Int)=>[D.own q v.length]) qs vs
theorem j8 {qs:List Nat}{vs:List (List Int)}(h:qs.length=vs.length):(lZ qs vs).length=vs.length:=by simp [lZ,h]
theorem Fb {qs:List Nat}{vs:List (List Int)}(h:qs.length=vs.length)(q:Nat)(v:List Int):lZ (qs++[q]) (vs++[v])=lZ qs vs++[[.own q v.length]]:=by
 simp [lZ,List.zipWith_append h]
theorem tE {qs:List Nat}{vs:List (List Int)}{i q:Nat}{v:List Int}(h1:qs[i]?=some q)(h2:vs[i]?=some v):(lZ qs vs)[i]?=some [.own q v.length]:=by
 simp [lZ,List.getElem?_zipWith,h1,h2]
theorem P0 {qs:List Nat}{vs:List (List Int)}{i:Nat}{v v':List Int}(h2:vs[i]?=some v)(hl:v'.length=v.length):lZ qs (vs.set i v')=lZ qs vs:=by
 apply eR
 intro j
 simp only [lZ,List.getElem?_zipWith,cO]
 by_cases h:i=j
 ·subst h
  have hi:=(aL.1 h2).1
  rw [if_pos rfl,if_pos hi,h2]
  cases qs[i]?<;>simp [hl]
 ·rw [if_neg h]
structure HH (H:AHeap) (lo a b V:Nat) (qs:List Nat) (h:Host):Prop where
 ga:H.get a=some ⟨3,1,h.graph.nodes.map cI,false⟩
 gb:H.get b=some ⟨101,3,h.graph.edges.map Edge.c,false⟩
 gV:H.get V=some ⟨34,1,lZ qs h.values,false⟩
 len:qs.length=h.values.length
 gq:∀ (i q:Nat) (v:List Int),qs[i]?=some q→h.values[i]?=some v→H.get q=some ⟨3,1,v.map cI,false⟩
 nd:(a :: b :: V :: qs).Nodup
 rng:∀ q∈a :: b :: V :: qs,lo≤q∧q<H.next
section
variable {H H':AHeap} {lo a b V:Nat} {qs:List Nat} {x:Host}
theorem HH.a_in (h:HH H lo a b V qs x):a∈a :: b :: V :: qs:=by simp
theorem HH.b_in (h:HH H lo a b V qs x):b∈a :: b :: V :: qs:=by simp
theorem HH.V_in (h:HH H lo a b V qs x):V∈a :: b :: V :: qs:=by simp
theorem HH.q_in (h:HH H lo a b V qs x){q:Nat}(hq:q∈qs):q∈a :: b :: V :: qs:=by simp [hq]
theorem HH.ab (h:HH H lo a b V qs x):a≠b∧a≠V∧b≠V:=by
 have:=h.nd;simp only [AM,bM,not_or] at this
 exact ⟨this.1.1,this.1.2.1,this.2.1.1⟩
theorem HH.qn (h:HH H lo a b V qs x){q:Nat}(hq:q∈qs):q≠a∧q≠b∧q≠V:=by
 have:=h.nd;simp only [AM,bM,not_or] at this
 exact ⟨fun e=>this.1.2.2 (e ▸ hq),fun e=>this.2.1.2 (e ▸ hq),fun e=>this.2.2.1 (e ▸ hq)⟩
theorem HH.same (h:HH H lo a b V qs x)(hn:H.next≤H'.next)(hf:∀ j∈a :: b :: V :: qs,H'.get j=H.get j):HH H' lo a b V qs x where
 ga:=(hf a h.a_in).trans h.ga
 gb:=(hf b h.b_in).trans h.gb
 gV:=(hf V h.V_in).trans h.gV
 len:=h.len
 gq i q v h1 h2:=(hf q (h.q_in (aH h1))).trans (h.gq i q v h1 h2)
 nd:=h.nd
 rng q hq:=⟨(h.rng q hq).1,cN (h.rng q hq).2 hn⟩
theorem HH.nodes (h:HH H lo a b V qs x)(hn:H.next≤H'.next){ns:List Int}(ga:H'.get a=some ⟨3,1,ns.map cI,false⟩)(hf:∀ j∈b :: V :: qs,H'.get j=H.get j):HH H' lo a b V qs ⟨⟨ns,x.graph.edges⟩,x.values⟩ where
 ga:=ga
 gb:=(hf b (by simp)).trans h.gb
 gV:=(hf V (by simp)).trans h.gV
 len:=h.len
 gq i q v h1 h2:=(hf q (by simp [aH h1])).trans (h.gq i q v h1 h2)
 nd:=h.nd
 rng q hq:=⟨(h.rng q hq).1,cN (h.rng q hq).2 hn⟩
theorem HH.edges (h:HH H lo a b V qs x)(hn:H.next≤H'.next){es:List Edge}(gb:H'.get b=some ⟨101,3,es.map Edge.c,false⟩)(hf:∀ j∈a :: V :: qs,H'.get j=H.get j):HH H' lo a b V qs ⟨⟨x.graph.nodes,es⟩,x.values⟩ where
 ga:=(hf a (by simp)).trans h.ga
 gb:=gb
 gV:=(hf V (by simp)).trans h.gV
 len:=h.len
 gq i q v h1 h2:=(hf q (by simp [aH h1])).trans (h.gq i q v h1 h2)
 nd:=h.nd
 rng q hq:=⟨(h.rng q hq).1,cN (h.rng q hq).2 hn⟩
theorem HH.rowSet (h:HH H lo a b V qs x)(hn:H.next≤H'.next){i q:Nat}{v v':List Int}(h1:qs[i]?=some q)(h2:x.values[i]?=some v)(hl:v'.length=v.length)(gq:H'.get q=some ⟨3,1,v'.map cI,false⟩)
  (hf:∀ j∈a :: b :: V :: qs,j≠q→H'.get j=H.get j):HH H' lo a b V qs ⟨x.graph,x.values.set i v'⟩ where
 ga:=(hf a h.a_in (Ne.symm (h.qn (aH h1)).1)).trans h.ga
 gb:=(hf b h.b_in (Ne.symm (h.qn (aH h1)).2.1)).trans h.gb
 gV:=by rw [P0 h2 hl];exact (hf V h.V_in (Ne.symm (h.qn (aH h1)).2.2)).trans h.gV
 len:=by simp [h.len]
 gq j q' w k1 k2:=by
  have hqn:qs.Nodup:=by have:=h.nd;simp only [AM] at this;exact this.2.2.2
  rw [cO] at k2
  by_cases hj:i=j
  ·subst hj
   rw [h1] at k1;cases k1
   rw [if_pos rfl] at k2
   split at k2
   ·cases k2;exact gq
   ·cases k2
  ·rw [if_neg hj] at k2
   refine (hf q' (h.q_in (aH k1)) fun e=>hj ?_).trans (h.gq j q' w k1 k2)
   subst e
   obtain ⟨a1,a2⟩:=aL.1 h1
   obtain ⟨b1,b2⟩:=aL.1 k1
   exact (zB hqn).1 (a2.trans b2.symm)
 nd:=h.nd
 rng q hq:=⟨(h.rng q hq).1,cN (h.rng q hq).2 hn⟩
theorem HH.read (h:HH H lo a b V qs x):(lZ qs x.values).map (·.map (eK H))=x.values.map cL:=by
 apply eR
 intro i
 simp only [aM]
 by_cases hi:i<x.values.length
 ·have hq:i<qs.length:=by rw [h.len];exact hi
  have e1:=aA hi
  have e2:=aA hq
  rw [tE e2 e1,e1]
  have:=h.gq i _ _ e2 e1
  simp [eK,this,cL,dLI]
 ·rw [bL (by rw [j8 h.len];omega),bL (by omega)];rfl
theorem HH.deep (h:HH H lo a b V qs x):jM H (.agg [.own a x.graph.nodes.length,.own b x.graph.edges.length,.own V x.values.length])=x.d:=by
 have h1:∀ l:List (List D),(∀ c∈l,∀ y∈c,∀ i n,y≠D.own i n∧∀ p q r,y≠D.win i p q r)→l.map (·.map (eK H))=l:=fun l hl=>by
  conv=>rhs;rw [← List.map_id l]
  refine bY fun c hc=>?_
  conv=>rhs;rw [id,← List.map_id c]
  refine bY fun y hy=>?_
  cases y<;>first|rfl|(exfalso;first|exact (hl c hc _ hy _ _).1 rfl|exact (hl c hc _ hy _ 0).2 _ _ _ rfl)
 simp only [jM,oR,kP,oH,h.ga,h.gb,h.gV,bA,j8 h.len,if_true,h.read]
 rw [h1 (x.graph.nodes.map cI) (fun c hc y hy i n=>by
  rw [aT] at hc;obtain ⟨z,_,rfl⟩:=hc
  simp [cI] at hy;subst hy;simp),h1 (x.graph.edges.map Edge.c) (fun c hc y hy i n=>by
  rw [aT] at hc;obtain ⟨z,_,rfl⟩:=hc
  simp [Edge.c,dI] at hy;rcases hy with rfl|rfl|rfl<;>simp)]
 rfl
theorem Mb {l:List (List D)}(hl:∀ c∈l,∀ y∈c,jS y=[]):l.flatten.flatMap jS=[]:=by
 rw [List.eq_nil_iff_forall_not_mem]
 intro i hi
 rw [bQ] at hi
 obtain ⟨y,hy,hi⟩:=hi
 rw [iG] at hy
 obtain ⟨c,hc,hy⟩:=hy
 rw [hl c hc y hy] at hi;cases hi
theorem HH.ids (h:HH H lo a b V qs x)(n m k:Nat)(e:Int):∀ i∈Iy H (.tup [.agg [.own a n,.own b m,.own V k],dI e]),i∈a :: b :: V :: qs:=by
 intro i hi
 have e1:(x.graph.nodes.map cI).flatten.flatMap jS=[]:=Mb fun c hc y hy=>by
  rw [aT] at hc;obtain ⟨z,_,rfl⟩:=hc
  simp [cI] at hy;subst hy;rfl
 have e2:(x.graph.edges.map Edge.c).flatten.flatMap jS=[]:=Mb fun c hc y hy=>by
  rw [aT] at hc;obtain ⟨z,_,rfl⟩:=hc
  simp [Edge.c,dI] at hy;rcases hy with rfl|rfl|rfl<;>rfl
 simp only [Iy,Mc,Oc,List.flatMap_cons,List.flatMap_nil,h.ga,h.gb,h.gV,e1,e2,dI,jS,iW,aW,bM,iF,or_false] at hi
 rcases hi with rfl|rfl|rfl|hi
 ·exact h.a_in
 ·exact h.b_in
 ·exact h.V_in
 ·rw [bQ] at hi
  obtain ⟨y,hy,hi⟩:=hi
  rw [iG] at hy
  obtain ⟨c,hc,hy⟩:=hy
  simp only [lZ] at hc
  obtain ⟨j,hj,rfl⟩:=aN hc
  rw [List.getElem_zipWith,aV] at hy
  subst hy
  simp only [jS,aV] at hi
  subst hi
  exact h.q_in (aC _)
end
theorem M2 (h:Host):D.clL h.c=true:=by simp [Host.c,D.clL,D.cl,nC,t7];exact c4 _ (fun v=>by simp [cL,D.clL,nC]) _
@[go_sem] theorem Host.cld (h:Host):h.d.cl=true:=by simp [Host.d,D.cl,M2]
/-! ### Extract -/
def ZV (t:Types)(h:Host)(p:Part):Int:=if fR t h≠0 then fR t h else subF h.graph p
def ZU (t:Types)(h:Host)(p:Part):Host:=if ZV t h p=0 then ⟨bS h.graph p,p.nodes.map fun k=>h.values[k.toNat]?.getD []⟩ else ⟨⟨[],[]⟩,[]⟩
def Ff (l l1:List Nat)(j:Nat):Nat:=if j∈l then l1[l.idxOf j]?.getD 0 else j
theorem A6 {l l1:List Nat}(hn:l.Nodup){i j j1:Nat}(h:l[i]?=some j)(h1:l1[i]?=some j1):Ff l l1 j=j1:=by
 obtain ⟨hi,he⟩:=aL.1 h
 unfold Ff
 rw [if_pos (he ▸ aC hi)]
 have:l.idxOf j=i:=by rw [← he];exact hn.idxOf_getElem i hi
 rw [this,h1];rfl
theorem wX {l l1:List Nat}{j:Nat}(h:j∉l):Ff l l1 j=j:=by unfold Ff;rw [if_neg h]
theorem xG {τ:Nat→Nat}{l:List (List D)}(hl:∀ c∈l,∀ y∈c,Af τ y=y):l.map (·.map (Af τ))=l:=by
 conv=>rhs;rw [← List.map_id l]
 refine bY fun c hc=>?_
 conv=>rhs;rw [id,← List.map_id c]
 exact bY fun y hy=>hl c hc y hy
theorem HH.exact {H H1 E:AHeap}{lo lo1 a b V a1 b1 V1:Nat}{qs qs1:List Nat}{x:Host}(hE:HH E lo a b V qs x)(h1:HH H1 lo1 a1 b1 V1 qs1 x)
  (hnx:∀ j,H.al j→j<H.next) (hnon:∀ j,¬ H.al j→H.get j=none) (Oe:H.next≤E.next)
  (hal:∀ j,E.al j↔H.al j∨j∈a :: b :: V :: qs) (hf1:∀ j,H.al j→j∉a :: b :: V :: qs→H1.get j=H.get j) (hfE:∀ j,j∉a :: b :: V :: qs→E.get j=H.get j)
  (hold:∀ (i j j1:Nat),(a :: b :: V :: qs)[i]?=some j→(a1 :: b1 :: V1 :: qs1)[i]?=some j1→(H.al j→j1=j)∧(¬ H.al j→¬ H.al j1)) :
  ∃ τ,Exact H H1 E τ∧.agg [.own a1 x.graph.nodes.length,.own b1 x.graph.edges.length,.own V1 x.values.length]=Ru τ (.agg [.own a x.graph.nodes.length,.own b x.graph.edges.length,.own V x.values.length])∧XR E.al (.agg [.own a x.graph.nodes.length,.own b x.graph.edges.length,.own V x.values.length]):=by
 obtain ⟨l,hl⟩:∃ l,l=a :: b :: V :: qs:=⟨_,rfl⟩
 obtain ⟨l1,hl1⟩:∃ l1,l1=a1 :: b1 :: V1 :: qs1:=⟨_,rfl⟩
 have hnd:=hE.nd
 have hnd1:=h1.nd
 have hin:=hE.rng
 rw [← hl] at hal hf1 hfE hold hnd hin
 rw [← hl1] at hold hnd1
 have hlen:l1.length=l.length:=by rw [hl,hl1];simp [h1.len,hE.len]
 have hpos:∀ j∈l,∃ i j1,l[i]?=some j∧l1[i]?=some j1∧Ff l l1 j=j1:=fun j hj=>by
  obtain ⟨i,hi,he⟩:=aN hj
  have e1:l[i]?=some j:=by rw [aA hi,he]
  have e2:=aA (show i<l1.length by omega)
  exact ⟨i,_,e1,e2,A6 hnd e1 e2⟩
 have ra:Ff l l1 a=a1:=A6 hnd (i:=0) (by rw [hl];rfl) (by rw [hl1];rfl)
 have rb:Ff l l1 b=b1:=A6 hnd (i:=1) (by rw [hl];rfl) (by rw [hl1];rfl)
 have rV:Ff l l1 V=V1:=A6 hnd (i:=2) (by rw [hl];rfl) (by rw [hl1];rfl)
 have rq:∀ i q q1,qs[i]?=some q→qs1[i]?=some q1→Ff l l1 q=q1:=fun i q q1 e e1=>A6 hnd (i:=i+3) (by rw [hl];exact e) (by rw [hl1];exact e1)
 have cI_ren:∀ (v:List Int),(v.map cI).map (·.map (Af (Ff l l1)))=v.map cI:=fun v=>xG fun c hc y hy=>by
  rw [aT] at hc;obtain ⟨z,_,rfl⟩:=hc
  simp [cI] at hy;subst hy;rfl
 have cI_ok:∀ (v:List Int),∀ c∈v.map cI,∀ y∈c,VD E.al y:=fun v c hc y hy=>by
  rw [aT] at hc;obtain ⟨z,_,rfl⟩:=hc
  simp [cI] at hy;subst hy;rfl
 refine ⟨Ff l l1,⟨fun j hj=>?_,fun i j hi hj he=>?_,fun j hj=>⟨(hal j).2 (.inl hj),?_⟩,fun j hj=>?_,fun j k hk=>?_⟩,?_,?_⟩
 ·rcases (hal j).1 hj with h|h
  ·exact cN (hnx j h) Oe
  ·exact (hin j h).2
 ·by_cases hi2:i∈l<;>by_cases hj2:j∈l
  ·obtain ⟨p,i1,e1,e2,e3⟩:=hpos i hi2
   obtain ⟨p',j1,f1,f2,f3⟩:=hpos j hj2
   rw [e3,f3] at he
   subst he
   obtain ⟨u1,u2⟩:=aL.1 e2
   obtain ⟨v1,v2⟩:=aL.1 f2
   have:p=p':=(zB hnd1).1 (u2.trans v2.symm)
   subst this
   rw [e1] at f1;cases f1;rfl
  ·obtain ⟨p,i1,e1,e2,e3⟩:=hpos i hi2
   rw [e3,wX hj2] at he
   subst he
   have hjA:H.al i1:=(((hal i1).1 hj).resolve_right hj2)
   by_cases hiA:H.al i
   ·exact ((hold p i i1 e1 e2).1 hiA).symm
   ·exact absurd hjA ((hold p i i1 e1 e2).2 hiA)
  ·obtain ⟨p,j1,e1,e2,e3⟩:=hpos j hj2
   rw [e3,wX hi2] at he
   subst he
   have hiA:H.al i:=(((hal i).1 hi).resolve_right hi2)
   by_cases hjA:H.al j
   ·exact (hold p j i e1 e2).1 hjA
   ·exact absurd hiA ((hold p j i e1 e2).2 hjA)
  ·rwa [wX hi2,wX hj2] at he
 ·by_cases hj2:j∈l
  ·obtain ⟨p,j1,e1,e2,e3⟩:=hpos j hj2
   rw [e3];exact (hold p j j1 e1 e2).1 hj
  ·exact wX hj2
 ·have h2:¬ H.al j∧j∉l:=⟨fun h=>hj ((hal j).2 (.inl h)),fun h=>hj ((hal j).2 (.inr h))⟩
  rw [hfE j h2.2];exact hnon j h2.1
 ·by_cases hj2:j∈l
  ·right
   have hj3:=hj2
   rw [hl,bM,bM,bM] at hj3
   rcases hj3 with rfl|rfl|rfl|hq
   ·rw [hE.ga] at hk;cases hk
    rw [ra]
    exact ⟨_,h1.ga,rfl,rfl,rfl,(cI_ren _).symm,cI_ok _⟩
   ·rw [hE.gb] at hk;cases hk
    rw [rb]
    refine ⟨_,h1.gb,rfl,rfl,rfl,(xG fun c hc y hy=>?_).symm,fun c hc y hy=>?_⟩
    ·rw [aT] at hc;obtain ⟨z,_,rfl⟩:=hc
     simp [Edge.c,dI] at hy;rcases hy with rfl|rfl|rfl<;>rfl
    ·rw [aT] at hc;obtain ⟨z,_,rfl⟩:=hc
     simp [Edge.c,dI] at hy;rcases hy with rfl|rfl|rfl<;>rfl
   ·rw [hE.gV] at hk;cases hk
    rw [rV]
    refine ⟨_,h1.gV,rfl,rfl,rfl,?_,fun c hc y hy=>?_⟩
    ·apply eR
     intro i
     simp only [aM]
     by_cases hi:i<x.values.length
     ·have e0:=aA hi
      have e1:=aA (show i<qs.length by rw [hE.len];exact hi)
      have e2:=aA (show i<qs1.length by rw [h1.len];exact hi)
      rw [tE e1 e0,tE e2 e0]
      simp [Af,rq i _ _ e1 e2]
     ·rw [bL (by rw [j8 h1.len];omega),bL (by rw [j8 hE.len];omega)];rfl
    ·simp only [lZ] at hc
     obtain ⟨i,hi,rfl⟩:=aN hc
     rw [List.getElem_zipWith,aV] at hy
     subst hy
     show E.al _
     exact (hal _).2 (.inr (by rw [hl];exact jL _ (jL _ (jL _ (aC _)))))
   ·obtain ⟨i,hi,rfl⟩:=aN hq
    have e1:=aA hi
    have hiv:i<x.values.length:=by rw [← hE.len];exact hi
    have e0:=aA hiv
    have e2:=aA (show i<qs1.length by rw [h1.len];exact hiv)
    rw [hE.gq i _ _ e1 e0] at hk;cases hk
    rw [rq i _ _ e1 e2]
    exact ⟨_,h1.gq i _ _ e2 e0,rfl,rfl,rfl,(cI_ren _).symm,cI_ok _⟩
  ·left
   have hg:=hfE j hj2
   rw [hk] at hg
   have hA:H.al j:=bD fun hn=>by rw [hnon j hn] at hg;cases hg
   exact ⟨hA,hg.symm,(hf1 j hA hj2).trans hg.symm⟩
 ·simp [Ru,Af,ra,rb,rV]
 ·intro c hc
  simp only [bM,iF,or_false] at hc
  rcases hc with rfl|rfl|rfl
  ·exact (hal _).2 (.inr (by rw [hl];simp))
  ·exact (hal _).2 (.inr (by rw [hl];simp))
  ·exact (hal _).2 (.inr (by rw [hl];simp))
theorem L7 {α:Type}{f:α→Int}{m:Int}(h0:(0:Int)≠m)(h:∀ x,f x≠m):∀ l,eX f l≠m
 | []=>h0
 | x :: l=>by
  simp only [eX];split
  ·exact h x
  ·exact L7 h0 h l
theorem PR (n:Int)(l:List Test):gJ n l≠9:=by
 unfold gJ
 split
 ·decide
 ·split
  ·decide
  ·refine L7 (by decide) (fun x=>?_) l
   unfold pA;split
   ·decide
   ·split<;>decide
structure PatOk (t:Types) (q:Pattern):Prop where
 vf:(b9 t).2=0
 gg:graphF q.graph=0
 ty:dP t q.graph=true
 vars:0≤q.vars∧q.vars≤12
 few:q.slots.length≤10∧q.tests.length≤10
 slot:∀ s∈q.slots,fZ t q s=0
 test:∀ x∈q.tests,pA q.vars x=0
theorem LG {t:Types}{q:Pattern}(h:bN t q=9∨bN t q=0):PatOk t q:=by
 have hv:=jC h
 have hne:=HN t
 have hg9:graphF q.graph≠9:=by
  unfold graphF;repeat' split
  all_goals decide
 have ht9:=PR q.vars q.tests
 unfold bN at h
 by_cases h1:(b9 t).2=0
 ·rw [if_neg (by omega)] at h
  by_cases h2:graphF q.graph=0
  ·rw [if_neg (by omega)] at h
   by_cases h3:dP t q.graph=false
   ·rw [if_pos h3] at h;omega
   ·rw [if_neg h3] at h
    by_cases h4:inF q.vars 0 12=false
    ·rw [if_pos h4] at h;omega
    ·rw [if_neg h4] at h
     by_cases h5:10<q.slots.length∨10<q.tests.length
     ·rw [if_pos h5] at h;omega
     ·rw [if_neg h5] at h
      by_cases h6:eX (fZ t q) q.slots=0
      ·rw [if_neg (by omega)] at h
       by_cases h7:gJ q.vars q.tests=0
       ·refine ⟨h1,h2,by simpa using h3,hv,by omega,nX h6,nX ?_⟩
        unfold gJ at h7
        split at h7
        ·cases h7
        ·split at h7
         ·cases h7
         ·exact h7
       ·rw [if_pos h7] at h;omega
      ·rw [if_pos h6] at h;omega
  ·rw [if_pos h2] at h;omega
 ·rw [if_pos h1] at h;omega
theorem KJ {n:Int}{x:Term}(h:termB n x=true)(hn:0≤n):nI x n.toNat:=by
 simp only [termB,aJ,decide_eq_true_eq] at h
 exact ⟨⟨by omega,by omega⟩,by omega,by omega⟩
theorem PatOk.tests {t:Types}{q:Pattern}(hp:PatOk t q):∀ x∈q.tests,OS x q.vars.toNat:=fun x hx=>by
 have:=hp.test x hx
 unfold pA at this
 split at this
 ·cases this
 ·rename_i h1
  split at this
  ·rename_i h2
   rw [aJ] at h2
   exact ⟨by omega,KJ h2.1 hp.vars.1,KJ h2.2 hp.vars.1⟩
  ·cases this
theorem PatOk.slots {t:Types}{q:Pattern}(hp:PatOk t q):∀ s∈q.slots,(0≤s.node∧s.node<q.graph.nodes.length)∧(0≤s.attr∧s.attr<(bI t (q.graph.nodes[s.node.toNat]?.getD 0)).length)∧nI s.term q.vars.toNat:=fun s hs=>by
 have:=hp.slot s hs
 have hv:=hp.vars
 unfold fZ at this
 split at this
 ·rename_i h1
  simp only [aJ,kJ,decide_eq_true_eq,inF,Pattern.kind] at h1
  exact ⟨h1.1.1.1,⟨h1.1.1.2.1,of_decide_eq_true h1.1.1.2.2⟩,⟨by omega,by omega⟩,by omega,by omega⟩
 ·cases this
structure MOk (t:Types) (p g:Graph) (m:Part):Prop where
 len:m.nodes.length=p.nodes.length
 elen:m.edges.length=p.edges.length
 img:∀ (i:Nat) (hi:i<m.nodes.length) (hp:i<p.nodes.length),(0≤m.nodes[i]∧m.nodes[i]<g.nodes.length)∧zK t p.nodes[i] (g.nodes[m.nodes[i].toNat]?.getD 0)=true
 eimg:∀ (i:Nat) (hi:i<m.edges.length),0≤m.edges[i]∧m.edges[i]<g.edges.length
theorem Al {t:Types}{p g:Graph}{m:Part}{inj:Bool}(h:jO t p g m inj=0):MOk t p g m:=by
 obtain ⟨⟨h1,h2⟩,h3,h4⟩:=CA h
 refine ⟨h1,h2,fun i hi hp=>⟨h3 _ (aC hi),?_⟩,fun i hi=>h4 _ (aC hi)⟩
 unfold jO at h
 rw [if_neg (by omega)] at h
 split at h
 ·exact absurd h (by assumption)
 ·rename_i h5
  have:=dY _ _ (by simpa using h5) i (d8 _) (by omega)
  unfold Ra at this
  rw [aA hi,aA hp,aD,aD] at this
  split at this
  ·cases this
  ·split at this
   ·assumption
   ·cases this
theorem Mp {S:Srch}{ns:List Int}:∀ (d:Nat) (l es:List Int),es∈Eg S ns d l→es.length=l.length+d∧(∀ x∈l,0≤x∧x<S.g.edges.length→True)∧((∀ x∈l,0≤x∧x<S.g.edges.length)→∀ x∈es,0≤x∧x<S.g.edges.length)
 | 0,l,es,h=>by
  simp only [Eg,aV] at h;subst h
  exact ⟨rfl,fun _ _ _=>trivial,fun h=>h⟩
 | d+1,l,es,h=>by
  simp only [Eg,bQ,dN,bK] at h
  obtain ⟨k,⟨hk,_⟩,hr⟩:=h
  obtain ⟨h1,_,h3⟩:=Mp d _ es hr
  refine ⟨by simp at h1;omega,fun _ _ _=>trivial,fun hl=>h3 fun x hx=>?_⟩
  rw [aW,aV] at hx
  rcases hx with hx|rfl
  ·exact hl x hx
  ·omega
theorem Mo {S:Srch}:∀ (d:Nat) (l:List Int) (m:Part),m∈Gm S d l→m.nodes.length=l.length+d∧∀ i,l.length≤i→i<l.length+d→∃ k:Nat,m.nodes[i]?=some (k:Int)∧k<S.g.nodes.length∧zK S.t (S.p.nodes[i]?.getD 0) (S.g.nodes[k]?.getD 0)=true
 | 0,l,m,h=>by
  simp only [Gm,aT] at h
  obtain ⟨es,_,rfl⟩:=h
  exact ⟨rfl,fun i h1 h2=>by omega⟩
 | d+1,l,m,h=>by
  have h':=h
  simp only [Gm,bQ,dN,bK] at h
  obtain ⟨k,⟨hk,ho⟩,hr⟩:=h
  obtain ⟨h1,h2⟩:=Mo d _ m hr
  simp at h1 h2
  refine ⟨by omega,fun i h3 h4=>?_⟩
  by_cases hi:i=l.length
  ·subst hi
   obtain ⟨⟨r,hr2⟩,_⟩:=BD d _ m hr
   refine ⟨k,by rw [hr2];simp,hk,?_⟩
   simp only [Qk,aJ] at ho
   exact ho.2.2
  ·exact h2 i (by omega) (by omega)
theorem MV {S:Srch}{m:Part}(h:m∈HG S):MOk S.t S.p S.g m:=by
 unfold HG at h
 obtain ⟨h1,h2⟩:=Mo _ _ m h
 obtain ⟨_,h3⟩:=BD _ _ m h
 obtain ⟨h4,_,h5⟩:=Mp _ _ _ h3
 simp at h1 h2 h4
 refine ⟨h1,h4,fun i hi hp=>?_,fun i hi=>h5 (by intro x hx;cases hx) _ (aC hi)⟩
 obtain ⟨k,k1,k2,k3⟩:=h2 i (by omega)
 rw [aA hi] at k1
 have hk:m.nodes[i]=(k:Int):=Option.some.inj k1
 rw [aA hp,aD] at k3
 rw [hk]
 exact ⟨by omega,by simpa using k3⟩
theorem DJ {t:Types}{h:Host}(ho:HostOk t h):∀ a∈h.graph.nodes,0≤a∧a<t.nodes.length:=fun a ha=>by
 obtain ⟨i,hi,rfl⟩:=aN ha
 have:=ho.vl
 exact ⟨((dL ho.gg).1 _ ha).1,(tW (ho.nd i hi (by omega))).1⟩
theorem V9 {t:Types}{q:Pattern}{h:Host}{m:Part}(hp:PatOk t q)(ho:HostOk t h)(hm:MOk t q.graph h.graph m):SOk q h m where
 vars:=hp.vars
 node s hs:=by have:=hp.slots s hs;have:=hm.len;omega
 img k hk:=by
  obtain ⟨i,hi,rfl⟩:=aN hk
  have:=(hm.img i hi (by have:=hm.len;omega)).1
  have:=ho.vl
  omega
 attr s hs:=by
  obtain ⟨h1,h2,_⟩:=hp.slots s hs
  have hl:=hm.len
  have hi:s.node.toNat<m.nodes.length:=by omega
  have hq:s.node.toNat<q.graph.nodes.length:=by omega
  obtain ⟨h3,h4⟩:=hm.img _ hi hq
  have hvl:=ho.vl
  have hk:m.nodes[s.node.toNat].toNat<h.graph.nodes.length:=by omega
  have hkv:m.nodes[s.node.toNat].toNat<h.values.length:=by omega
  rw [aA hi,aD,aA hkv,aD]
  rw [aA hq,aD] at h2
  rw [aA hk,aD] at h4
  have ha:=(iV hp.gg hp.ty).1 _ (aC hq)
  have hb:=DJ ho _ (aC hk)
  rw [p5 hp.vf ha.1 ha.2] at h2
  have hrow:=(tW (ho.nd _ hk hkv)).2.2.1
  rw [p5 hp.vf hb.1 hb.2] at hrow
  unfold zK at h4
  obtain ⟨r,hr⟩:=IV (lY hp.vf) (h.graph.nodes[m.nodes[s.node.toNat].toNat]).toNat (by omega) (q.graph.nodes[s.node.toNat]).toNat (by rw [Int.toNat_of_nonneg ha.1];exact h4)
  rw [hr,aI] at hrow
  omega
 small l hl v hv:=(ho.row l hl).2 v hv
 term s hs:=(hp.slots s hs).2.2
 test:=hp.tests
/-! ### values -/
def Np (p:Pattern)(vs:List Int):List Int × List Bool:=(vs++List.replicate (p.vars.toNat - vs.length) 0,List.replicate vs.length true++List.replicate (p.vars.toNat - vs.length) false)
theorem OW (p:Pattern):Np p []=(List.replicate p.vars.toNat 0,List.replicate p.vars.toNat false):=by simp [Np]
theorem iC {p:Pattern}{h:Host}{m:Part}{vs:List Int}(h0:iS h m (Np p vs) p.slots=none):fW p h m vs=([],11):=by
 unfold fW;unfold Np at h0;rw [h0]
theorem uK {p:Pattern}{h:Host}{m:Part}{vs:List Int}{q:List Int × List Bool}(h0:iS h m (Np p vs) p.slots=some q):fW p h m vs=if p.tests.all (fun x=>Nf x q.1)=true then (q.1,0) else ([],16):=by
 unfold fW;unfold Np at h0;rw [h0]
structure StOk (n:Nat) (st:List Int × List Bool):Prop where
 l1:st.1.length=n
 l2:st.2.length=n
 sm:∀ v∈st.1,-2000000≤v∧v≤2000000
theorem StOk.big {n:Nat}{st:List Int × List Bool}(h:StOk n st):Sm st.1:=fun v hv=>by have:=h.sm v hv;omega
theorem Rm {p:Pattern}{vs:List Int}(hv:0≤p.vars)(hl:vs.length≤p.vars.toNat)(hs:∀ v∈vs,-2000000≤v∧v≤2000000):StOk p.vars.toNat (Np p vs):=by
 refine ⟨by simp [Np];omega,by simp [Np];omega,fun v h=>?_⟩
 simp only [Np,aW,List.mem_replicate] at h
 rcases h with h|h
 ·exact hs v h
 ·omega
theorem ES {n:Nat}{h:Host}{m:Part}{st:List Int × List Bool}{s:Slot}(hst:StOk n st)(hb : -1000000≤nQ h m s∧nQ h m s≤1000000)(ht:nI s.term n):StOk n (oP h m st s):=by
 unfold oP
 split
 ·refine ⟨by simp [hst.l1],by simp [hst.l2],fun v hv=>?_⟩
  rcases lH hv with h1|rfl
  ·exact hst.sm v h1
  ·have:=ht.2;omega
 ·exact hst
theorem SOk.have_ {p:Pattern}{h:Host}{m:Part}(hO:SOk p h m){s:Slot}(hs:s∈p.slots) : -1000000≤nQ h m s∧nQ h m s≤1000000:=by
 have hn:=hO.node s hs
 have hn2:s.node.toNat<m.nodes.length:=by omega
 have hk:=hO.img _ (aC hn2)
 have hk2:(m.nodes[s.node.toNat]).toNat<h.values.length:=by omega
 have ha:=hO.attr s hs
 unfold nQ
 rw [aA hn2,aD,aA hk2,aD] at ha ⊢
 have ha2:s.attr.toNat<(h.values[(m.nodes[s.node.toNat]).toNat]).length:=by omega
 rw [aA ha2]
 exact hO.small _ (aC hk2) _ (aC ha2)
theorem HR {p:Pattern}{h:Host}{m:Part}(hO:SOk p h m):∀ (l:List Slot) (st q:List Int × List Bool),(∀ s∈l,s∈p.slots)→StOk p.vars.toNat st→iS h m st l=some q→StOk p.vars.toNat q
 | [],st,q,_,hst,hq=>by simp only [iS,bC] at hq;exact hq ▸ hst
 | s :: l,st,q,hl,hst,hq=>by
  simp only [iS] at hq
  split at hq
  ·have hs:=hl s (nL ..)
   exact HR hO l _ q (fun x hx=>hl x (jL _ hx)) (ES hst (hO.have_ hs) (hO.term s hs)) hq
  ·cases hq
theorem EB {p:Pattern}{h:Host}{m:Part}(hO:SOk p h m){vs:List Int}(hl:vs.length≤p.vars.toNat)(hs:∀ v∈vs,-2000000≤v∧v≤2000000)(h0:(fW p h m vs).2=0) :
  (fW p h m vs).1.length=p.vars.toNat∧∀ v∈(fW p h m vs).1,-2000000≤v∧v≤2000000:=by
 cases hq:iS h m (Np p vs) p.slots with
 | none=>rw [iC hq] at h0;cases h0
 | some q =>
  have hk:=HR hO _ _ _ (fun _ h=>h) (Rm hO.vars.1 hl hs) hq
  rw [uK hq] at h0 ⊢
  split at h0
  ·rename_i h1;rw [if_pos h1];exact ⟨hk.l1,hk.sm⟩
  ·cases h0
theorem uJ (q:Pattern)(h:Host)(vars:List Int)(l:List Part)(x:Part):wP q h vars (l++[x])=wP q h vars l++if (fW q h x vars).2=0 then [⟨x,(fW q h x vars).1⟩] else []:=by
 unfold wP
 rw [List.filterMap_append]
 congr 1
 simp only [List.filterMap_cons,List.filterMap_nil]
 split<;>simp_all
theorem pZ (o:Option Bool):(Option.map cB o).getD [D.bool false]=cB (o.getD false):=by cases o<;>rfl
def CM (t:Types)(p:Pattern)(h:Host):Int:=if bN t p≠0 then bN t p else fR t h
theorem Pw (l:List Part):(Gv l).1.length≤5000:=by
 unfold Gv;split
 ·simp
 ·simp only;omega
theorem MW (t:Types)(p g:Graph)(inj:Bool):(mI t p g inj).1.length≤5000:=by
 unfold mI;split
 ·simp
 ·exact Pw _
theorem Te (t:Types)(p g:Graph)(q:Part)(inj:Bool):(tZ t p g q inj).1.length≤5000:=by
 unfold tZ;split
 ·simp
 ·split
  ·simp
  ·split
   ·simp
   ·split
    ·simp
    ·exact Pw _
theorem Q1 {t:Types}{p g:Graph}{inj:Bool}{m:Part}(h:m∈(mI t p g inj).1):MOk t p g m:=by
 unfold mI at h
 split at h
 ·cases h
 ·unfold Gv at h
  split at h
  ·cases h
  ·exact MV (S:=⟨t,p,g,_,_,inj⟩) (bW h)
def Rx (at_ im:List Int)(n i:Nat):List Int:=(List.range i).foldl (fun acc i=>acc.set (at_[i]?.getD 0).toNat (im[i]?.getD 0)) (List.replicate n (-1))
theorem LE (at_ im:List Int)(n i:Nat):Rx at_ im n (i+1)=(Rx at_ im n i).set (at_[i]?.getD 0).toNat (im[i]?.getD 0):=by unfold Rx;rw [gY]
theorem JG (at_ im:List Int)(n:Nat):∀ i,(Rx at_ im n i).length=n
 | 0=>by simp [Rx]
 | i+1=>by rw [LE,dV];exact JG at_ im n i
def VG (len i:Nat):List Bool:=(List.range i).map fun j=>decide (j<len)
theorem Pj (len n:Nat)(h:len≤n):VG len n=List.replicate len true++List.replicate (n - len) false:=by
 apply dJ (by simp [VG];omega)
 intro i h1 h2
 simp only [VG,jG,kQ,List.getElem_append,List.getElem_replicate,oJ]
 split
 ·rename_i h3;simpa using h3
 ·rename_i h3;simpa using h3
def V2 (vs:List Int)(i:Nat):List Int:=vs++List.replicate (i - vs.length) 0
structure MatOk (t:Types) (p:Pattern) (h:Host) (m:Mat):Prop where
 mok:MOk t p.graph h.graph m.m
 vl:m.vars.length=p.vars.toNat
 vs:∀ v∈m.vars,-2000000≤v∧v≤2000000
structure ExOk (t:Types) (p:Pattern) (mp:Part) (q:Pattern):Prop where
 pq:PatOk t q
 pv:p.vars≤q.vars
 p0:0≤p.vars
 mo:dE p.graph q.graph mp=0
theorem ExOk.img {t:Types}{p:Pattern}{mp:Part}{q:Pattern}(h:ExOk t p mp q):(mp.nodes.length=p.graph.nodes.length∧mp.edges.length=p.graph.edges.length)∧(∀ x∈mp.nodes,0≤x∧x<q.graph.nodes.length)∧(∀ x∈mp.edges,0≤x∧x<q.graph.edges.length):=by
 have:=mD h.mo
 exact ⟨this.2.2,(yN h.mo).1,(yN h.mo).2⟩
theorem Mn {t:Types}{p g:Graph}{q:Part}{inj:Bool}{m:Part}(h:m∈(tZ t p g q inj).1):MOk t p g m:=by
 unfold tZ at h
 split at h
 ·cases h
 ·split at h
  ·cases h
  ·split at h
   ·cases h
   ·split at h
    ·cases h
    ·unfold Gv at h
     split at h
     ·cases h
     ·exact MV (S:=⟨t,p,g,_,_,inj⟩) (bW h)
theorem Rc {t:Types}{q:Pattern}{h:Host}{vars:List Int}{l:List Part}(hp:PatOk t q)(ho:HostOk t h)(hl:∀ x∈l,MOk t q.graph h.graph x)(hv:vars.length≤q.vars.toNat)(hs:∀ v∈vars,-2000000≤v∧v≤2000000):∀ m∈wP q h vars l,MatOk t q h m:=fun m hm=>by
 unfold wP at hm
 rw [List.mem_filterMap] at hm
 obtain ⟨x,hx,he⟩:=hm
 split at he
 ·rename_i h0
  cases he
  obtain ⟨h1,h2⟩:=EB (V9 hp ho (hl x hx)) hv hs h0
  exact ⟨hl x hx,h1,h2⟩
 ·cases he
theorem Tf {t:Types}{p:Pattern}{mp:Part}{q:Pattern}{h:Host}{m:Mat}{inj:Bool}(hE:ExOk t p mp q)(ho:HostOk t h)(hm:MatOk t p h m):∀ x∈(CR t mp q h m inj).1,MatOk t q h x:=by
 unfold CR
 split
 ·simp
 ·exact Rc hE.pq ho (fun x hx=>Mn hx) (by have:=hm.vl;have:=hE.pv;have:=hE.p0;omega) hm.vs
theorem RS (l:List Cond):l.length≤Cond.sizes l:=by
 induction l with
 | nil=>simp [Cond.sizes]
 | cons a l ih=>have:=yI a;simp only [Cond.sizes,eH];omega
structure CondV (t:Types) (p:Pattern) (c:Cond):Prop where
 wf:Kv c=true
 ins:mP t p c=0
 sz:c.size≤1000000
theorem CondV.kinds {t:Types}{p:Pattern}{c:Cond}(h:CondV t p c):(c.kind=2∨c.kind=5→c.kids.length=1)∧(1≤c.kind∧c.kind≤5):=by
 have:=h.wf
 rw [sI,aJ] at this
 have h1:=this.1
 unfold pF at h1
 split at h1
 ·omega
 ·split at h1
  ·rw [aJ,decide_eq_true_eq] at h1;omega
  ·split at h1
   ·omega
   ·rw [aJ,decide_eq_true_eq,decide_eq_true_eq] at h1;omega
theorem CondV.ex {t:Types}{p:Pattern}{c:Cond}(h:CondV t p c)(h5:c.kind=5)(hp:PatOk t p):ExOk t p c.map c.pattern∧∀ k∈c.kids,CondV t c.pattern k:=by
 have hi:=h.ins
 have hw:=h.wf
 rw [Ex,if_pos h5,if_pos h5] at hi
 rw [sI,aJ,cH] at hw
 by_cases h0:gS t p c.map c.pattern=0
 ·rw [if_neg (by omega)] at hi
  refine ⟨?_,fun k hk=>⟨hw.2 k hk,nX hi k hk,by have:=yI c;have:=AY hk;have:=h.sz;omega⟩⟩
  unfold gS at h0
  split at h0
  ·cases h0
  ·rename_i h1
   split at h0
   ·exact absurd h0 (by assumption)
   ·rename_i h2
    split at h0
    ·exact absurd h0 (by assumption)
    ·rename_i h3
     rw [jV] at h2 h3
     refine ⟨LG ?_,by omega,hp.vars.1,h3⟩
     unfold k7 at h2
     split at h2
     ·exact .inr h2
     ·rename_i h4;left;omega
 ·rw [if_pos h0] at hi;exact absurd hi h0
theorem CondV.kid {t:Types}{p:Pattern}{c:Cond}(h:CondV t p c)(h5:c.kind≠5):∀ k∈c.kids,CondV t p k:=by
 have hi:=h.ins
 have hw:=h.wf
 rw [Ex,if_neg h5,if_neg h5,if_neg (by omega)] at hi
 rw [sI,aJ,cH] at hw
 exact fun k hk=>⟨hw.2 k hk,nX hi k hk,by have:=yI c;have:=AY hk;have:=h.sz;omega⟩
theorem Gq {α β:Type}(f:α→β){l:List α}{i:Nat}(h:i<l.length):(l.drop i).map f=f l[i] :: (l.drop (i+1)).map f:=by rw [fY h,kP]
theorem Iz {t:Types}{h:Host}{inj:Bool}{l:List Cond}(hl:0<l.length):Mf (l.map (rE t h inj))=rE t h inj l[0]:=by
 cases l with
 | nil=>cases hl
 | cons a l=>rfl
structure RuleV (t:Types) (r:Rule):Prop where
 vf:(b9 t).2=0
 pl:PatOk t r.left
 gr:graphF r.right.graph=0
 tr:dP t r.right.graph=true
 sub:subF r.left.graph r.keep=0
 mo:dE (bS r.left.graph r.keep) r.right.graph r.into=0
 inj:u0 (bS r.left.graph r.keep) r.right.graph r.into=true
 mkb:zX t r.right.graph r.freshN r.freshE=true
 vars:r.right.vars=r.left.vars
 few:r.right.slots.length≤10
 slot:∀ s∈r.right.slots,fZ t r.right s=0
 cond:CondV t r.left r.cond
 kl:r.keep.nodes.length≤1000000∧r.keep.edges.length≤1000000
theorem HW {t:Types}{r:Rule}(hr:r.ok)(h:ruleF t r=0):RuleV t r:=by
 unfold ruleF at h
 split at h
 ·rename_i h1;exact absurd h h1
 ·rename_i h1
  split at h
  ·cases h
  ·split at h
   ·rename_i h3;exact absurd h h3
   ·rename_i h3
    split at h
    ·rename_i h4;exact absurd h h4
    ·rename_i h4
     split at h
     ·rename_i h5;exact absurd h h5
     ·rename_i h5
      split at h
      ·cases h
      ·rename_i h6
       rw [jV] at h1 h3 h4 h5
       have hR:=HZ h4
       unfold kC at h4
       rw [if_neg (by omega),if_neg (by simp [hR.2])] at h4
       split at h4
       ·cases h4
       ·rename_i h7
        split at h4
        ·cases h4
        ·rename_i h8
         have hk:subF r.left.graph r.keep=0∧dE (bS r.left.graph r.keep) r.right.graph r.into=0∧u0 (bS r.left.graph r.keep) r.right.graph r.into=true:=by
          unfold keptF at h5
          split at h5
          ·rename_i q;exact absurd h5 q
          ·rename_i q
           split at h5
           ·rename_i q2;exact absurd h5 q2
           ·rename_i q2
            split at h5
            ·cases h5
            ·rename_i q3;exact ⟨by omega,by omega,by simpa using q3⟩
         unfold condF at h
         rw [if_neg (by omega)] at h
         split at h
         ·rename_i q;exact absurd h q
         ·rename_i h9
          refine ⟨h1,LG (.inr h3),hR.1,hR.2,hk.1,hk.2.1,hk.2.2,by simpa using h6,by omega,by omega,fun s hs=>?_,⟨?_,h,hr.size⟩,hr.k1,hr.k2⟩
          ·obtain ⟨i,hi,rfl⟩:=aN hs
           have:=dY _ _ h4 i (d8 _) (by omega)
           rw [Ch hi] at this
           split at this
           ·cases this
           ·rename_i q;exact jV.1 q
          ·rw [jV] at h9
           unfold o4 at h9
           split at h9
           ·cases h9
           ·rename_i q;simpa using q
theorem RuleV.keep {t:Types}{r:Rule}(h:RuleV t r):(r.keep.nodes.length=r.into.nodes.length∧r.keep.edges.length=r.into.edges.length)∧(∀ x∈r.keep.nodes,0≤x∧x<r.left.graph.nodes.length)∧(∀ x∈r.keep.edges,0≤x∧x<r.left.graph.edges.length) ∧
  (∀ x∈r.into.nodes,0≤x∧x<r.right.graph.nodes.length)∧∀ x∈r.into.edges,0≤x∧x<r.right.graph.edges.length:=by
 obtain ⟨h1,h2,h3,h4⟩:=rI h.sub
 obtain ⟨_,_,h5,h6⟩:=mD h.mo
 obtain ⟨h7,h8⟩:=yN h.mo
 have e1:(bS r.left.graph r.keep).nodes.length=r.keep.nodes.length:=by unfold bS;rw [if_pos h.sub];simp
 have e2:(bS r.left.graph r.keep).edges.length=r.keep.edges.length:=by unfold bS;rw [if_pos h.sub];simp
 exact ⟨⟨by omega,by omega⟩,h3,h4,h7,h8⟩
theorem RuleV.slots {t:Types}{r:Rule}(h:RuleV t r):∀ s∈r.right.slots,(0≤s.node∧s.node<r.right.graph.nodes.length)∧(0≤s.attr∧s.attr<(bI t (r.right.graph.nodes[s.node.toNat]?.getD 0)).length)∧nI s.term r.left.vars.toNat:=fun s hs=>by
 have:=h.slot s hs
 have hv:=h.pl.vars
 have he:=h.vars
 unfold fZ at this
 split at this
 ·rename_i h1
  simp only [aJ,kJ,decide_eq_true_eq,inF,Pattern.kind] at h1
  exact ⟨h1.1.1.1,⟨h1.1.1.2.1,of_decide_eq_true h1.1.1.2.2⟩,⟨by omega,by omega⟩,by omega,by omega⟩
 ·cases this
theorem vF (l:List Int)(k:Nat)(v:Int):iB l (k+1) v=if l[k]?.getD (-1)=v then (k:Int) else iB l k v:=by unfold iB;rw [gY]
theorem GL (l:List Int)(v:Int):∀ n,-1≤iB l n v∧iB l n v<n
 | 0=>by simp [iB]
 | n+1=>by
  have:=GL l v n
  rw [vF];split<;>omega
theorem OM (l:List Int)(v:Nat):v8 l (v+1)=v8 l v++[iB l l.length v]:=by simp [v8,bJ]
theorem lO (l:List Int)(v:Nat):(v8 l v).length=v:=by simp [v8]
theorem n6 (l:List Int){n i:Nat}(h:i<n):(v8 l n)[i]?=some (iB l l.length i):=by simp [v8,h]
theorem Qp (into:List Int)(i:Nat):Cy into (i+1)=Cy into i+if iB into into.length i<0 then 1 else 0:=by
 unfold Cy;rw [bJ,fP,aI]
 congr 1
 simp only [List.filter_cons,List.filter_nil]
 split<;>simp_all
theorem Qo (into:List Int):Cy into 0=0:=rfl
theorem SX (into:List Int)(i:Nat):Cy into i≤i:=by
 unfold Cy;exact c6 (e9 _ _) (by simp)
theorem OE {t:Types}{p g:Graph}{m:Part}{inj:Bool}(h:fM t p g m inj=0):fM t p g m false=0:=by
 unfold fM at h ⊢
 split at h
 ·exact absurd h (by assumption)
 ·rename_i h1
  rw [if_neg h1]
  unfold jO at h ⊢
  split at h
  ·cases h
  ·rename_i h2
   rw [if_neg h2]
   split at h
   ·exact absurd h (by assumption)
   ·rename_i h3
    rw [if_neg h3]
    split at h
    ·exact absurd h (by assumption)
    ·rename_i h4
     rw [if_neg h4,if_neg (by simp)]
theorem PV {t:Types}{p:Pattern}{h:Host}{m:Part}(h0:(eN t p h m).2=0):PatOk t p∧HostOk t h∧fM t p.graph h.graph m false=0∧eN t p h m=fW p h m []:=by
 unfold eN at h0 ⊢
 split at h0
 ·exact absurd h0 (by assumption)
 ·rename_i h1
  split at h0
  ·exact absurd h0 (by assumption)
  ·rename_i h2
   split at h0
   ·exact absurd h0 (by assumption)
   ·rename_i h3
    rw [jV] at h1 h2 h3
    rw [if_neg (by omega),if_neg (by omega),if_neg (by omega)]
    exact ⟨LG (.inr h1),qO h2,h3,rfl⟩
theorem uV (l:List Int)(i:Nat):b6 l (i+1)=b6 l i++if mem l i=true then [] else [(i:Int)]:=by
 unfold b6;rw [bJ,fP,List.map_append]
 congr 1
 simp only [List.filter_cons,List.filter_nil]
 split<;>simp_all
def QI (t:Types)(r:Rule)(x:Host)(i:Nat):Host :=
 ⟨⟨x.graph.nodes++(b6 r.into.nodes i).map (gN r.right.graph),x.graph.edges⟩,x.values++(b6 r.into.nodes i).map (fun k=>qL t (gN r.right.graph k))⟩
def TQ (t:Types)(r:Rule)(c:Part)(x:Host)(i:Nat):Host:=⟨⟨x.graph.nodes,x.graph.edges++(b6 r.into.edges i).map (fun k=>freshE c (r.right.graph.edges[k.toNat]?.getD b7))⟩,x.values⟩
theorem ACalls.wf {P:Program}{f:FuncId}{args:List D}{H:AHeap}{Q:D→AHeap→Prop}(he:T3 P f)(h:(∀ j,H.al j→j<H.next)→(∀ j,¬ H.al j→H.get j=none)→ACalls P f args H Q):ACalls P f args H Q :=
 ⟨he,fun M0 σ w vals hR ha=>(h hR.nxt fun j hj=>(hR.top j hj).2).2 M0 σ w vals hR ha⟩
end Go.Abs
end
