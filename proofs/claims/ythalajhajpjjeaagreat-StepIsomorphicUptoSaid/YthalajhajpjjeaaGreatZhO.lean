/- What matches, extensions and conditions come to (plain funct -/
import Derived.Test.YthalajhajpjjeaaGreatZhM
import Derived.Test.YthalajhajpjjeaaGreatZhN
import Derived.Test.YthalajhajpjjeaaGreatZhF
import Derived.Test.YthalajhajpjjeaaGreatZhA
import Derived.Test.YthalajhajpjjeaaGreatZhK
set_option linter.unusedVariables false
set_option linter.unusedSimpArgs false
section
set_option maxRecDepth 100000
set_option maxHeartbeats 4000000
open Go Go.Proofs
namespace Go.Abs
structure Mat where
 m:Part
 vars:List Int
def Mat.c (x:Mat):List D:=[dLI x.m.nodes,dLI x.m.edges,dLI x.vars]
def Mat.d (x:Mat):D:=.agg x.c
@[go_sem] theorem Mat.cl (x:Mat):D.clL x.c=true:=by simp [Mat.c,D.clL,oF]
@[go_sem] theorem ZK (l:List Mat):D.clLL (l.map Mat.c)=true:=c8 _ Mat.cl l
def xM (l:List Part):List Part × Int:=if 5000<(l.take 5001).length then ([],3) else (l.take 5001,0)
theorem Qw (l:List Part):xM l=if 5000<l.length then ([],3) else (l,0):=by
 unfold xM
 by_cases h:5000<l.length
 .rw [if_pos (by simp;omega),if_pos h]
 .rw [if_neg (by simp;omega),if_neg h,aY aD]
def nO (t:Types)(p g:Graph)(inj:Bool):List Part × Int:=if dM t p g≠0 then ([],dM t p g) else xM (allM ⟨t,p,g,List.replicate p.nodes.length (-1),List.replicate p.edges.length (-1),inj⟩)
def IP (n:Int)(l:List Int)(i:Nat):Int:=if l[i]?.getD 0 < -1\/n<=l[i]?.getD 0 then 6 else 0
def qN (l:List Int)(n:Int):Int:=bT (IP n l) 0 l.length
def mZ (t:Types)(p g:Graph)(q:Part)(inj:Bool):List Part × Int :=
 if dM t p g≠0 then ([],dM t p g)
 else if q.nodes.length≠p.nodes.length\/q.edges.length≠p.edges.length then ([],20)
 else if qN q.nodes g.nodes.length≠0 then ([],qN q.nodes g.nodes.length)
 else if qN q.edges g.edges.length≠0 then ([],qN q.edges g.edges.length)
 else xM (allM ⟨t,p,g,q.nodes,q.edges,inj⟩)
def lV (n:Nat)(at_ im:List Int):List Int:=(List.range at_.length).foldl (λacc i=>acc.set (at_[i]?.getD 0).toNat (im[i]?.getD 0)) (List.replicate n (-1))
def eO (c:Part)(q:Pattern)(m:Part):Part:=⟨lV q.graph.nodes.length c.nodes m.nodes,lV q.graph.edges.length c.edges m.edges⟩
def rL (q:Pattern)(h:Host)(vars:List Int)(l:List Part):List Mat:=l.filterMap λx=>if (fB q h x vars).2=0 then some ⟨x,(fB q h x vars).1⟩ else none
def t6 (t:Types)(c:Part)(q:Pattern)(h:Host)(m:Mat)(inj:Bool):List Mat × Int :=
 if (mZ t q.graph h.graph (eO c q m.m) inj).2≠0 then ([],(mZ t q.graph h.graph (eO c q m.m) inj).2)
 else (rL q h m.vars (mZ t q.graph h.graph (eO c q m.m) inj).1,0)
/-! ### conditions: the first witness -/
inductive Prf where
 | mk (choice:Int) (m:Mat) (kids:List Prf)
mutual
def Prf.c:Prf→List D
 | .mk ch m l=>[dI ch,dLI m.m.nodes,dLI m.m.edges,dLI m.vars,.list (Prf.cs l)]
def Prf.cs:List Prf→List (List D)
 | []=>[]
 | p :: l=>p.c :: Prf.cs l
end
theorem Prf.cs_eq (l:List Prf):Prf.cs l=l.map Prf.c:=by
 induction l with
 | nil=>simp [Prf.cs]
 | cons a l ih=>simp [Prf.cs,ih]
theorem Prf.c_eq (a:Int)(m:Mat)(l:List Prf):(Prf.mk a m l).c=[dI a,dLI m.m.nodes,dLI m.m.edges,dLI m.vars,.list (l.map Prf.c)]:=by simp [Prf.c,Prf.cs_eq]
mutual
theorem Prf.cl:∀ x:Prf,D.clL x.c=true
 | .mk ch m l=>by
  have:=Prf.cls l
  simp [Prf.c,D.clL,D.cl,dI,oF,this]
theorem Prf.cls:∀ l:List Prf,D.clLL (Prf.cs l)=true
 | []=>by simp [Prf.cs,D.clLL]
 | c :: l=>by simp [Prf.cs,D.clLL,Prf.cl c,Prf.cls l]
end
attribute [go_sem] Prf.cl
@[go_sem] theorem Zv (l:List Prf):D.clLL (l.map Prf.c)=true:=by rw [<- Prf.cs_eq];exact Prf.cls l
mutual
theorem WP:∀ x:Prf,kJ x.c=x.c
 | .mk ch m l=>by
  have:=K8 l
  simp [Prf.c,kJ,oM,dI,dLI,fZ,this]
theorem K8:∀ l:List Prf,eI (Prf.cs l)=Prf.cs l
 | []=>by simp [Prf.cs,eI]
 | c :: l=>by simp [Prf.cs,eI,WP c,K8 l]
end
theorem kW (l:List Prf):eI (l.map Prf.c)=l.map Prf.c:=by rw [<- Prf.cs_eq];exact K8 l
def mO:Mat:=⟨⟨[],[]⟩,[]⟩
def lE:Prf:=.mk 0 mO []
def Ro (e:Int):Int:=if e=0 then 10 else if e=10 then 0 else e
def R8:List (Prf × Int)->List Prf->Prf × Int
 | [],acc=>(.mk 0 mO acc,0)
 | (p,e) :: l,acc=>if e≠0 then (lE,e) else R8 l (acc++[p])
def Xk:List (Prf × Int)->Nat->Prf × Int
 | [],_=>(lE,10)
 | (p,e) :: l,i=>if e≠10 then (.mk i mO [p],e) else Xk l (i+1)
def Wx:List (Mat × (Prf × Int))->Prf × Int
 | []=>(lE,10)
 | (m,(p,e)) :: l=>if e≠10 then (.mk 0 m [p],e) else Wx l
def GN (fs:List (Mat->Prf × Int)):Mat->Prf × Int:=fs.head?.getD λ_=>(lE,0)
mutual
def oU (t:Types)(h:Host)(inj:Bool):Cond→Mat→Prf × Int
 | .mk k l mp q=>fun m =>
  if k=2 then (lE,Ro (GN (DJ t h inj l) m).2)
  else if k=3 then R8 ((DJ t h inj l).map fun f=>f m) []
  else if k=4 then Xk ((DJ t h inj l).map fun f=>f m) 0
  else if k=5 then (if (t6 t mp q h m inj).2≠0 then (lE,(t6 t mp q h m inj).2) else Wx ((t6 t mp q h m inj).1.map fun x=>(x,GN (DJ t h inj l) x)))
  else (lE,0)
def DJ (t:Types)(h:Host)(inj:Bool):List Cond→List (Mat→Prf × Int)
 | []=>[]
 | c :: l=>oU t h inj c :: DJ t h inj l
end
theorem So (t:Types)(h:Host)(b:Bool)(l:List Cond):DJ t h b l=l.map (oU t h b):=by
 induction l with
 | nil=>simp [DJ]
 | cons a l ih=>simp [DJ,ih]
theorem zG (t:Types)(h:Host)(a:Bool)(c:Cond)(m:Mat):oU t h a c m =
  if c.kind=2 then (lE,Ro (GN (c.kids.map (oU t h a)) m).2)
  else if c.kind=3 then R8 (c.kids.map λk=>oU t h a k m) []
  else if c.kind=4 then Xk (c.kids.map λk=>oU t h a k m) 0
  else if c.kind=5 then (if (t6 t c.map c.pattern h m a).2≠0 then (lE,(t6 t c.map c.pattern h m a).2) else Wx ((t6 t c.map c.pattern h m a).1.map λx=>(x,GN (c.kids.map (oU t h a)) x)))
  else (lE,0):=by
 cases c;simp only [oU,So,Cond.kind,Cond.kids,Cond.map,Cond.pattern,List.map_map];rfl
def Fg (t:Types)(h:Host)(inj:Bool)(c:Cond)(m:Mat):Int:=(oU t h inj c m).2
def qR (t:Types)(h:Host)(inj:Bool)(c:Cond)(m:Mat):Bool × Int:=if Fg t h inj c m=10 then (false,0) else (decide (Fg t h inj c m=0),Fg t h inj c m)
/-! ### a step -/
def eL (t:Types)(p:Pattern)(h:Host)(m:Part):List Int × Int :=
 if bR t p≠0 then ([],bR t p) else if fA t h≠0 then ([],fA t h) else if checkE t p.graph h.graph m false≠0 then ([],checkE t p.graph h.graph m false) else fB p h m []
def f6 (t:Types)(p:Pattern)(h:Host)(inj:Bool):List Mat × Int :=
 if bR t p≠0 then ([],bR t p) else if fA t h≠0 then ([],fA t h)
 else if (nO t p.graph h.graph inj).2≠0 then ([],(nO t p.graph h.graph inj).2) else (rL p h [] (nO t p.graph h.graph inj).1,0)
def nI (p g:Graph)(m:Part):Graph:=⟨m.nodes.map (gN g),p.edges⟩
def vV (t:Types)(r:Rule)(h:Host)(m:Mat):Int :=
 if checkE t r.left.graph h.graph m.m r.inj≠0 then 1
 else if (eL t r.left h m.m).2≠0 then (eL t r.left h m.m).2
 else if (eL t r.left h m.m).1≠m.vars then 11
 else tJ (nI r.left.graph h.graph m.m) h.graph r.keep m.m
def pX (t:Types)(r:Rule)(h:Host)(m:Mat):Int :=
 if vV t r h m≠0 then vV t r h m
 else if (qR t h r.inj r.cond m).2≠0 then (qR t h r.inj r.cond m).2
 else if (qR t h r.inj r.cond m).1=false then 16 else 0
def bY (r:Rule)(h:Host)(m:Mat):Part:=AP (nI r.left.graph h.graph m.m) h.graph r.keep m.m
def iM (l:List Int)(n:Nat)(v:Int):Int:=(List.range n).foldl (λacc (k:Nat)=>if l[k]?.getD (-1)=v then (k:Int) else acc) (-1)
def zA (l:List Int)(n:Nat):List Int:=(List.range n).map λ(v:Nat)=>iM l l.length v
def Db (into:List Int)(i:Nat):Nat:=((List.range i).filter λ(j:Nat)=>decide (iM into into.length j<0)).length
def Lg (keep into at_:List Int)(remain:Nat)(i:Nat):Int:=if 0<=iM into into.length i then at_[(keep[(iM into into.length i).toNat]?.getD 0).toNat]?.getD 0 else ((remain+Db into i:Nat):Int)
def N4 (keep into at_:List Int)(right remain:Nat):List Int:=(List.range right).map (Lg keep into at_ remain)
def mM (d:List Int)(n:Nat):List Int:=zA d n
def dJ (r:Rule)(h:Host)(m:Mat):Part:=⟨mM (bY r h m).nodes h.graph.nodes.length,mM (bY r h m).edges h.graph.edges.length⟩
def uE (l tr:List Int):List Int:=l.map λk=>tr[k.toNat]?.getD 0
def dO (r:Rule)(h:Host)(m:Mat):Part :=
 ⟨N4 r.keep.nodes r.into.nodes (uE m.m.nodes (dJ r h m).nodes) r.right.graph.nodes.length (bY r h m).nodes.length,N4 r.keep.edges r.into.edges (uE m.m.edges (dJ r h m).edges) r.right.graph.edges.length (bY r h m).edges.length⟩
def oA (t:Types)(k:Int):List Int:=(bM t k).map λa=>a.low
def freshE (c:Part)(y:Edge):Edge:=⟨y.type,c.nodes[y.from_.toNat]?.getD 0,c.nodes[y.to_.toNat]?.getD 0⟩
def Ca (t:Types)(r:Rule)(c:Part)(x:Host):Host :=
 ⟨⟨x.graph.nodes++r.freshN.map (gN r.right.graph),x.graph.edges++r.freshE.map (λk=>freshE c (r.right.graph.edges[k.toNat]?.getD b4))⟩,x.values++r.freshN.map (λk=>oA t (gN r.right.graph k))⟩
def bI (t:Types)(r:Rule)(h:Host)(m:Mat):Host:=Ca t r (dO r h m) ⟨b5 h.graph (bY r h m),(bY r h m).nodes.map λk=>h.values[k.toNat]?.getD []⟩
def eE (c:Part)(s:Slot):Nat:=(c.nodes[s.node.toNat]?.getD 0).toNat
def y6 (c:Part)(vs:List Int)(a b:Slot):Bool:=decide (eE c a=eE c b)&&(decide (a.attr=b.attr)&&decide (dE a.term vs≠dE b.term vs))
def t8 (c:Part)(vs:List Int)(l:List Slot):Bool:=(List.range l.length).any λi=>(List.range i).any λk=>match l[k]?,l[i]? with|some a,some b=>y6 c vs a b|_,_=>false
def Ao (t:Types)(g:Graph)(c:Part)(vs:List Int)(s:Slot):Bool :=
 let a:=(bM t (g.nodes[eE c s]?.getD 0))[s.attr.toNat]?.getD mQ
 decide (dE s.term vs<a.low)||decide (a.high<dE s.term vs)
def xJ (t:Types)(g:Graph)(c:Part)(vs:List Int)(l:List Slot):Int:=if t8 c vs l=true then 11 else if l.any (Ao t g c vs)=true then 6 else 0
def sL (c:Part)(vs:List Int)(l:List Slot)(vals:List (List Int)):List (List Int):=l.foldl (λvals s=>vals.set (eE c s) ((vals[eE c s]?.getD []).set s.attr.toNat (dE s.term vs))) vals
def dR (t:Types)(r:Rule)(h:Host)(m:Mat):Host:=⟨(bI t r h m).graph,sL (dO r h m) m.vars r.right.slots (bI t r h m).values⟩
def jC (t:Types)(r:Rule)(h:Host)(m:Mat):Int :=
 if pX t r h m≠0 then pX t r h m
 else if xJ t (bI t r h m).graph (dO r h m) m.vars r.right.slots≠0 then xJ t (bI t r h m).graph (dO r h m) m.vars r.right.slots
 else if 40<(bI t r h m).graph.nodes.length\/80<(bI t r h m).graph.edges.length then 3 else 0
structure Stp26 where
 rule:Rule
 mat:Mat
 before:Host
 after:Host
 track:Part
 comatch:Part
def Stp26.c (s:Stp26):List D:=s.rule.c++s.mat.c++s.before.c++s.after.c++[dLI s.track.nodes,dLI s.track.edges,dLI s.comatch.nodes,dLI s.comatch.edges]
def fV (t:Types)(r:Rule)(h:Host):Int:=if ruleF t r≠0 then ruleF t r else fA t h
def wN (t:Types)(r:Rule)(h:Host)(m:Mat):Int:=if fV t r h≠0 then fV t r h else jC t r h m
def b9 (t:Types)(r:Rule)(h:Host)(m:Mat):Stp26:=⟨r,m,h,dR t r h m,dJ r h m,dO r h m⟩
def sM (t:Types)(r:Rule)(h:Host):List Mat × Int :=
 if fV t r h≠0 then ([],fV t r h) else if (f6 t r.left h r.inj).2≠0 then ([],(f6 t r.left h r.inj).2) else ((f6 t r.left h r.inj).1.filter λm=>decide (jC t r h m=0),0)
@[go_sem] theorem Xi (l:List Part):D.clLL (l.map Part.c)=true:=Gi l
def Kv (t:Types)(p g:Graph)(m:Part):Graph:=if checkE t p g m false=0 then nI p g m else ⟨[],[]⟩
theorem Dd {t:Types}{p g:Graph}{m:Part}{a:Bool}(h:matchE t p g m a=0) :
  (m.nodes.length=p.nodes.length/\m.edges.length=p.edges.length)/\(∀ x∈m.nodes,0<=x/\x<g.nodes.length)/\(∀ x∈m.edges,0<=x/\x<g.edges.length):=by
 unfold matchE at h
 split at h
 .cases h
 .rename_i h1
  split at h
  .exact absurd h (by assumption)
  .rename_i h2
   split at h
   .exact absurd h (by assumption)
   .rename_i h3
    refine ⟨aD,λx b=>?_,λx b=>?_⟩
    .obtain ⟨k,c,rfl⟩:=aK b
     have:=dV _ _ (bS h2) k (eJ _) aD
     unfold mNE at this
     rw [aA c,Option.getD_some] at this
     split at this
     .cases this
     .omega
    .obtain ⟨k,c,rfl⟩:=aK b
     have:=dV _ _ (bS h3) k (eJ _) aD
     unfold mapEE at this
     rw [aA c,Option.getD_some] at this
     split at this
     .cases this
     .omega
theorem Ae {t:Types}{p g:Graph}{m:Part}{a:Bool}(h:checkE t p g m a=0):G17 t p g/\matchE t p g m a=0:=by
 unfold checkE at h
 split at h
 .exact absurd h (by assumption)
 .rename_i h1;exact ⟨o8 (bS h1),h⟩
end Go.Abs
end
section
namespace Go.Abs
theorem RepV.both {M:Nat->Prop}{σ:Nat->Option Ow}{N:Nat->Prop}{w:World}{m:Nat->Prop}{σ':Nat->Option Ow}{l:Nat->Prop}{w':World}{v:Value}{d:D}(h:RepV M σ N w v d) :
  ∀ v',RepV m σ' l w' v' d->RepV M σ (λi=>N i/\l i) w v d:=by
 induction h with
 | int=>exact λ_ _=>.int _ _
 | bool=>exact λ_ _=>.bool _
 | str=>exact λ_ _=>.str _
 | agg vs ds hl h1 hr ih =>
  intro v' b
  cases b with
  | agg vs' _ hl' h1' hr' =>
   exact .agg vs ds hl h1 λj u x c a=>by
    have e:j<vs'.length:=by rw [hl'];exact (aL.1 a).1
    exact ih j u x c a vs'[j] (hr' j _ x (aA e) a)
 | tup vs ds hl hr ih =>
  intro v' b
  cases b with
  | tup vs' _ hl' hr' =>
   exact .tup vs ds hl λj u x c a=>by
    have e:j<vs'.length:=by rw [hl'];exact (aL.1 a).1
    exact ih j u x c a vs'[j] (hr' j _ x (aA e) a)
 | nil=>exact λ_ _=>.nil
 | listN=>exact λ_ _=>.listN
 | list ad cap sz xs es hc hm hsz hl h1 hcell hr ih =>
  intro v' b
  cases b with
  | listN=>exact .list ad cap sz xs [] hc hm hsz hl h1 hcell λj u x c a=>by simp at a
  | list ad' cap' sz' xs' _ hc' hm' hsz' hl' h1' hcell' hr' =>
   exact .list ad cap sz xs es hc hm hsz hl h1 hcell λj u x c a=>by
    have e:j<xs'.length:=by rw [hl'];exact (aL.1 a).1
    exact ih j u x c a xs'[j] (hr' j _ x (aA e) a)
 | adr ad xs ds hl h1 hcell hr ih =>
  intro v' b
  cases b with
  | adr ad' xs' _ hl' h1' hcell' hr' =>
   exact .adr ad xs ds hl h1 hcell λj u x c a=>by
    have e:j<xs'.length:=by rw [hl'];exact (aL.1 a).1
    exact ih j u x c a xs'[j] (hr' j _ x (aA e) a)
 | ne ad cap hm=>exact λ_ _=>.ne ad cap hm
 | nilp=>exact λ_ _=>.nilp
 | ptr v id ver i off hN h1 h =>
  intro v' b
  cases b with
  | ptr _ _ _ _ _ hN' _ _=>exact .ptr v id ver i off ⟨hN,hN'⟩ h1 h
 | own v id n hN h1 h =>
  intro v' b
  cases b with
  | own _ _ _ hN' _ _=>exact .own v id n ⟨hN,hN'⟩ h1 h
 | win v id ver lo hi hN h1 hlh h =>
  intro v' b
  cases b with
  | win _ _ _ _ _ hN' _ _ _=>exact .win v id ver lo hi ⟨hN,hN'⟩ h1 hlh h
 | fn f vs ds hl hr ih =>
  intro v' b
  cases b with
  | fn _ vs' _ hl' hr' =>
   exact .fn f vs ds hl λj u x c a=>by
    have e:j<vs'.length:=by rw [hl'];exact (aL.1 a).1
    exact ih j u x c a vs'[j] (hr' j _ x (aA e) a)
 | nilf=>exact λ_ _=>.nilf
 | opt v g d hf h ih =>
  intro v' b
  cases b with
  | opt _ _ _ hf' h''=>exact .opt v g d hf λk=>ih k v' (h'' k)
 | cst v=>exact λ_ _=>.cst v
 | junk v=>exact λ_ _=>.junk v
def AY (τ:Nat->Nat):D->D
 | .own id n=>.own (τ id) n
 | d=>d
def Xl (A:Nat->Prop):D->Prop
 | .own id _=>A id
 | d=>d.cl=true
def SL (τ:Nat->Nat):D->D
 | .agg cs=>.agg (cs.map (AY τ))
 | d=>AY τ d
def Zx (A:Nat->Prop):D->Prop
 | .agg cs=>∀ c∈cs,Xl A c
 | d=>Xl A d
theorem RepV.unren {M f:Nat->Prop}{σ1 σE:Nat->Option Ow}{q A:Nat->Prop}{w:World}{τ:Nat->Nat}{v:Value}{d:D}(h:RepV M σ1 q w v (AY τ d))(a:Xl A d)(i:∀ j,A j->σE j=σ1 (τ j))(p:∀ b,¬ M b->¬ f b):RepV f σE A w v d:=by
 by_cases c:∃ id n,d=.own id n
 .obtain ⟨id,n,rfl⟩:=c
  cases h with
  | own _ _ _ hN h1 h=>exact .own v id n a h1 λo l=>h o (by rw [<- i id a];exact l)
 .have e:AY τ d=d:=by cases d<;>first|rfl|exact absurd ⟨_,_,rfl⟩ c
  have m:d.cl=true:=by cases d<;>first|exact a|exact absurd ⟨_,_,rfl⟩ c
  rw [e] at h
  exact h.closed (λr u k g=>⟨p _ k,g⟩) m
theorem RepV.unrenC {M l:Nat->Prop}{σ1 σE:Nat->Option Ow}{o A:Nat->Prop}{w:World}{τ:Nat->Nat}{v:Value}{d:D}(h:RepV M σ1 o w v (SL τ d))(a:Zx A d)(i:∀ j,A j->σE j=σ1 (τ j))(k:∀ b,¬ M b->¬ l b):RepV l σE A w v d:=by
 by_cases c:∃ f,d=.agg f
 .obtain ⟨f,rfl⟩:=c
  cases h with
  | agg vs _ hl h1 hr =>
   exact .agg vs f (bS hl) h1 λj u x m g=>(hr j u (AY τ x) m (by rw [aH,g];rfl)).unren (a x (aI g)) i k
 .have e:SL τ d=AY τ d:=by cases d<;>first|rfl|exact absurd ⟨_,rfl⟩ c
  have n:Zx A d=Xl A d:=by cases d<;>first|rfl|exact absurd ⟨_,rfl⟩ c
  rw [e] at h;rw [n] at a
  exact h.unren a i k
structure Exact (H H1 E:AHeap) (τ:Nat->Nat):Prop where
 nx:∀ j,E.al j->j<E.next
 inj:∀ i j,E.al i->E.al j->τ i=τ j->i=j
 old:∀ j,H.al j->E.al j/\τ j=j
 non:∀ j,¬ E.al j->E.get j=none
 blk:∀ j k,E.get j=some k->(H.al j/\H.get j=some k/\H1.get j=some k) \/
  (∃ k0,H1.get (τ j)=some k0/\k0.ty=k.ty/\k0.sz=k.sz/\k0.fz=k.fz/\k0.es=k.es.map (·.map (AY τ))/\∀ c∈k.es,∀ y∈c,Xl E.al y)
theorem ACalls.exact {P:Program}{f:FuncId}{args:List D}{H E:AHeap}{r:D}{Q:D->AHeap->Prop}(h:ACalls P f args H Q)
  (hQ:(∀ j,H.al j->j<H.next)->(∀ j,¬ H.al j->H.get j=none)->∀ d H1,Q d H1->∃ τ,Exact H H1 E τ/\d=SL τ r/\Zx E.al r):ACalls P f args H λd H1=>d=r/\H1=E :=
 ⟨h.1,λM0 σ w vals hR ha=>(h.2 M0 σ w vals hR ha).mono λe w' ⟨v,d,H1,σ1,he,hR1,hv,hst,hk,hq⟩=>by
  obtain ⟨τ,X,rfl,hok⟩:=hQ hR.nxt (λj hj=>(hR.top j hj).2) d H1 hq
  classical
  obtain ⟨σE,hσ⟩:∃ σE:Nat->Option Ow,∀ j,σE j=if E.al j then σ1 (τ j) else none:=⟨λj=>if E.al j then σ1 (τ j) else none,λ_=>rfl⟩
  have hs:∀ j,E.al j->σE j=σ1 (τ j):=λj hj=>by rw [hσ,if_pos hj]
  have hsn:∀ j,¬ E.al j->σE j=none:=λj hj=>by rw [hσ,if_neg hj]
  have hal:∀ j o,σE j=some o->E.al j:=λj o ho=>bA λhn=>by rw [hsn j hn] at ho;cases ho
  have halg:∀ j k,E.get j=some k->E.al j:=λj k ho=>bA λhn=>by rw [X.non j hn] at ho;cases ho
  have hmut:∀ b,¬ cX M0 H1 σ1 b->¬ cX M0 E σE b:=by
   rintro b hm (h0|⟨j,k,o,hk',hf,ho,hb⟩)
   .exact hm (.inl h0)
   .rw [hs j (halg j k hk')] at ho
    rcases X.blk j k hk' with ⟨h1,h2,h3⟩|⟨k0,h1,h2,h3,h4,_⟩
    .rw [(X.old j h1).2] at ho
     exact hm (.inr ⟨j,k,o,h3,hf,ho,hb⟩)
    .exact hm (.inr ⟨τ j,k0,o,h1,h4.trans hf,ho,hb⟩)
  have hkE:Keeps (cX M0 H σ) σ H.al w (cX M0 E σE) σE E.al w':=by
   refine ⟨λad u hm hu=>?_,λid o' hid ho'=>?_,λid hid=>(X.old id hid).1⟩
   .obtain ⟨a1,a2⟩:=hk.cell ad u hm hu;exact ⟨hmut _ a1,a2⟩
   .rw [hs id (X.old id hid).1,(X.old id hid).2] at ho';exact hk.own id o' hid ho'
  have hkS:Keeps (cX M0 H1 σ1) σ1 (λi=>H1.al i/\H.al i) w' (cX M0 E σE) σE E.al w':=by
   refine ⟨λad u hm hu=>⟨hmut _ hm,hu⟩,λid o' hid ho'=>?_,λid hid=>(X.old id hid.2).1⟩
   rw [hs id (X.old id hid.2).1,(X.old id hid.2).2] at ho';exact ⟨o',ho',.inl rfl⟩
  have hRE:Rel M0 E σE w':=by
   refine ⟨λj hj=>⟨hsn j hj,X.non j hj⟩,X.nx,λj k hk'=>?_,λi j o o' b hi hj hb hb'=>?_,λi o b hi hb=>?_,hR1.m0⟩
   .have hj:=halg j k hk'
    rcases X.blk j k hk' with ⟨h1,h2,h3⟩|⟨k0,h1,h2,h3,h4,h5,h6⟩
    .obtain ⟨o,ho,l⟩:=hR1.lies j k h3
     obtain ⟨o0,ho0,l0⟩:=hR.lies j k h2
     obtain ⟨xs,a1,a2,a3⟩:=l.row
     obtain ⟨ys,b1,b2,b3⟩:=l0.row
     refine ⟨o,by rw [hs j hj,(X.old j h1).2];exact ho,l.ver,l.ty,l.sz,l.esz,xs,a1,a2,a3.len,λq u d hu hd=>?_⟩
     have hq':q<ys.length:=by rw [b3.len];exact (aL.1 hd).1
     exact ((a3.rep q u d hu hd).both _ (b3.rep q ys[q] d (aA hq') hd)).keep hkS
    .obtain ⟨o,ho,l⟩:=hR1.lies (τ j) k0 h1
     obtain ⟨xs,a1,a2,a3⟩:=l.row
     have hlen:k0.es.length=k.es.length:=by rw [h5,aS]
     have hfl:k0.es.flatten=k.es.flatten.map (AY τ):=by rw [h5];exact List.map_flatten.symm
     refine ⟨o,by rw [hs j hj];exact ho,by rw [l.ver,hlen],by rw [l.ty,h2],by rw [l.sz,h3],λc hc=>?_,xs,by rw [<- h2,<- hlen];exact a1,a2,by rw [a3.len,hfl,aS],λq u d hu hd=>?_⟩
     .have:=l.esz (c.map (AY τ)) (by rw [h5];exact List.mem_map_of_mem hc)
      rwa [aS] at this
     .have hd2:k0.es.flatten[q]?=some (AY τ d):=by rw [hfl,aH,hd];rfl
      obtain ⟨c,hc,hdc⟩:=i9.1 (aI hd)
      exact (a3.rep q u _ hu hd2).unren (h6 c hc d hdc) hs hmut
   .have hi':=hal i o hi
    have hj':=hal j o' hj
    rw [hs i hi'] at hi;rw [hs j hj'] at hj
    exact X.inj i j hi' hj' (hR1.inj _ _ o o' b hi hj hb hb')
   .rw [hs i (hal i o hi)] at hi
    exact hR1.lt (τ i) o b hi hb
  refine ⟨v,r,E,σE,he,hRE,hv.unrenC hok hs hmut,⟨hst.os,hst.tape,hst.output,hst.size,hst.old,λi o' b ho hb=>?_⟩,hkE,rfl,rfl⟩
  rw [hs i (hal i o' ho)] at ho
  exact hst.new (τ i) o' b ho hb⟩
end Go.Abs
end
section
set_option maxRecDepth 100000
set_option maxHeartbeats 4000000
open Go Go.Proofs
namespace Go.Abs
structure SmallA (x:Attr):Prop where
 lo : -1000000<=x.low
 hi:x.high<=1000000
 le:x.low<=x.high
theorem EP {x:Attr}{b:List Attr}(h:dB x b=0):SmallA x:=by
 unfold dB at h
 split at h<;>try (cases h;done)
 split at h<;>try (cases h;done)
 split at h
 .exact absurd h (by assumption)
 .rename_i h3
  split at h
  .rename_i h4
   split at h
   .rename_i h5
    have a:x.names.length<=20:=by
     refine bA λc=>h3 ?_
     unfold lY;rw [if_pos aD];decide
    simp at h5
    exact ⟨aD,aD,aD⟩
   .cases h
  .split at h
   .rename_i h5
    simp at h5
    exact ⟨aD,aD,aD⟩
   .cases h
theorem MD {t:Types}{a:Nat}(b:a<t.nodes.length)(h:gP t a=0):∀ k,(t.attrs a).length - t.nodes[a].attrs.length<=k->∀ hk:k<(t.attrs a).length,SmallA (t.attrs a)[k]:=by
 rw [yL t a b] at h
 split at h<;>try (cases h;done)
 split at h<;>try (cases h;done)
 split at h<;>try (cases h;done)
 split at h<;>try (cases h;done)
 split at h<;>try (cases h;done)
 intro k c hk
 have:=dV _ _ h k c aD
 unfold vH at this
 rw [aA hk] at this
 exact EP this
theorem NL {t:Types}(g:(cH t).2=0):∀ a:Nat,a<t.nodes.length->∀ x∈t.attrs a,SmallA x:=by
 have c:=mR g
 have f:∀ j,j<t.nodes.length->gP t j=0:=by
  have h:=g
  unfold cH at h
  split at h
  .simp at h
  .split at h
   .simp at h
   .obtain ⟨f,_⟩:=q7 _ _ h
    exact λj p=>f j aD aD
 intro a
 induction a using Nat.strongRecOn with
 | _ a ih =>
 intro e x m
 have b:=Dy t a e (c.parentsOK a)
 have i:=c.parent a _ (aA e)
 obtain ⟨k,l,rfl⟩:=aK m
 by_cases q:k<(t.attrs a).length - t.nodes[a].attrs.length
 .by_cases hp:0<=t.nodes[a].parent
  .rw [if_pos hp] at b
   have n:(t.attrs a).length=(t.attrs t.nodes[a].parent.toNat).length+t.nodes[a].attrs.length:=by rw [b];simp
   have d:k<(t.attrs t.nodes[a].parent.toNat).length:=aD
   have o:(t.attrs a)[k]=(t.attrs t.nodes[a].parent.toNat)[k]:=by
    have:(t.attrs a)[k]?=(t.attrs t.nodes[a].parent.toNat)[k]?:=by rw [b,aT d]
    rw [aA l,aA d] at this
    exact Option.some.inj this
   rw [o]
   exact ih _ aD aD _ (aC d)
  .rw [if_neg hp] at b
   have n:(t.attrs a).length=t.nodes[a].attrs.length:=by rw [b];simp
   omega
 .exact MD e (f a e) k aD l
theorem JF {t:Types}(c:t.valid):∀ b:Nat,b<t.nodes.length->∀ a:Nat,mem (t.line b) (a:Int)=true->∃ r,t.attrs b=t.attrs a++r:=by
 intro b
 induction b using Nat.strongRecOn with
 | _ b ih =>
 intro d a hm
 have e:=c.parent b _ (aA d)
 rw [yP t b d (c.parentsOK b),uW,cO] at hm
 rcases hm with hm|hm
 .by_cases h0:0<=t.nodes[b].parent
  .rw [if_pos h0] at hm
   obtain ⟨r,f⟩:=ih t.nodes[b].parent.toNat aD aD a hm
   exact ⟨r++t.nodes[b].attrs,by rw [Dy t b d (c.parentsOK b),if_pos h0,f,List.append_assoc]⟩
  .rw [if_neg h0,zS] at hm;cases hm
 .simp at hm
  have:a=b:=aD
  subst this
  exact ⟨[],by simp⟩
structure SOk (p:Pattern) (h:Host) (m:Part):Prop where
 vars:0<=p.vars/\p.vars<=12
 node:∀ s∈p.slots,0<=s.node/\s.node<m.nodes.length
 img:∀ k∈m.nodes,0<=k/\k<h.values.length
 attr:∀ s∈p.slots,0<=s.attr/\s.attr<(h.values[(m.nodes[s.node.toNat]?.getD 0).toNat]?.getD []).length
 small:∀ l∈h.values,∀ v∈l,-1000000<=v/\v<=1000000
 term:∀ s∈p.slots,sF s.term p.vars.toNat
 test:∀ x∈p.tests,PT x p.vars.toNat
theorem rI {t:Types}(b:(cH t).2=0){a:Int}(d:0<=a)(c:a<t.nodes.length):bM t a=t.attrs a.toNat:=by
 unfold bM;rw [if_pos];simp [given2F,b,insideF,d,c]
theorem wM {t:Types}(b:(cH t).2=0)(a:Int):(bM t a).length<=8:=by
 by_cases h:0<=a/\a<t.nodes.length
 .rw [rI b h.1 h.2];exact (mR b).attrs _ aD
 .unfold bM;rw [if_neg (by simp [given2F,b,insideF];omega)];simp
theorem Cy {t:Types}(b:(cH t).2=0)(a:Int):∀ x∈bM t a,SmallA x:=by
 by_cases h:0<=a/\a<t.nodes.length
 .rw [rI b h.1 h.2];exact NL b _ aD
 .unfold bM;rw [if_neg (by simp [given2F,b,insideF];omega)];simp
structure HostOk (t:Types) (h:Host):Prop where
 vf:(cH t).2=0
 gg:graphF h.graph=0
 vl:h.values.length=h.graph.nodes.length
 nd:∀ (i:Nat) (hi:i<h.graph.nodes.length) (hv:i<h.values.length),jR t h.graph.nodes[i] h.values[i]=0
 ed:∀ x∈h.graph.edges,x.type<t.edges.length/\kS t x.type (gN h.graph x.from_) (gN h.graph x.to_)=true
theorem hostOk {t:Types}{h:Host}(a:fA t h=0):HostOk t h:=by
 unfold fA yT at a
 split at a
 .rename_i h1;exact absurd a h1
 .rename_i h1
  split at a
  .rename_i h2;exact absurd a h2
  .rename_i h2
   split at a
   .cases a
   .rename_i h3
    split at a
    .rename_i h4;exact absurd a h4
    .rename_i h4
     rw [iD] at h4
     rw [tF] at h4 a
     refine ⟨aD,aD,aD,λi e c=>?_,λx b=>?_⟩
     .have:=dV _ _ h4 i (eJ _) aD
      simpa only [Pf,aA e,aA c,Option.getD_some] using this
     .obtain ⟨k,d,rfl⟩:=aK b
      have:=dV _ _ a k (eJ _) aD
      simp only [Vs,aA d,Option.getD_some] at this
      split at this
      .cases this
      .split at this
       .exact ⟨aD,by assumption⟩
       .cases this
theorem rX {t:Types}{k:Int}{vs:List Int}(h:jR t k vs=0):k<t.nodes.length/\k7 t k.toNat=false/\vs.length=(bM t k).length /\
  ∀ (j:Nat) (a:j<vs.length) (b:j<(bM t k).length),(bM t k)[j].low<=vs[j]/\vs[j]<=(bM t k)[j].high:=by
 unfold jR at h
 split at h
 .cases h
 .rename_i h1
  split at h
  .cases h
  .rename_i h2
   split at h
   .cases h
   .rename_i h3
    refine ⟨aD,by simpa using h2,aD,λj a b=>?_⟩
    have:=dV _ _ h j (eJ _) aD
    simp only [H5,aA a,aA b,Option.getD_some] at this
    split at this
    .cases this
    .omega
theorem HostOk.row {t:Types}{h:Host}(ho:HostOk t h):∀ v∈h.values,v.length<=8/\∀ x∈v,-1000000<=x/\x<=1000000:=λv hv=>by
 obtain ⟨i,hi,rfl⟩:=aK hv
 have hn:=ho.vl
 obtain ⟨h1,h2,h3,h4⟩:=rX (ho.nd i aD hi)
 have hl:=wM ho.vf (h.graph.nodes[i]' aD)
 refine ⟨aD,λx hx=>?_⟩
 obtain ⟨j,hj,rfl⟩:=aK hx
 have:=h4 j hj aD
 have hs:=Cy ho.vf _ _ (aC (show j<(bM t (h.graph.nodes[i]' aD)).length by omega))
 have:=hs.lo;have:=hs.hi
 omega
/-! ### a host in owned slices -/
def mS (qs:List Nat)(vs:List (List Int)):List (List D):=List.zipWith (λq (v:List Int)=>[D.own q v.length]) qs vs
theorem k9 {a:List Nat}{vs:List (List Int)}(h:a.length=vs.length):(mS a vs).length=vs.length:=by simp [mS,h]
theorem FP {a:List Nat}{vs:List (List Int)}(h:a.length=vs.length)(q:Nat)(v:List Int):mS (a++[q]) (vs++[v])=mS a vs++[[.own q v.length]]:=by
 simp [mS,List.zipWith_append h]
theorem uM {a:List Nat}{vs:List (List Int)}{i q:Nat}{v:List Int}(c:a[i]?=some q)(b:vs[i]?=some v):(mS a vs)[i]?=some [.own q v.length]:=by
 simp [mS,List.getElem?_zipWith,c,b]
theorem QZ {a:List Nat}{vs:List (List Int)}{i:Nat}{v b:List Int}(c:vs[i]?=some v)(d:b.length=v.length):mS a (vs.set i b)=mS a vs:=by
 apply eZ
 intro j
 simp only [mS,List.getElem?_zipWith,cE]
 by_cases h:i=j
 .subst h
  have e:=(aL.1 c).1
  rw [if_pos rfl,if_pos e,c]
  cases a[i]?<;>simp [d]
 .rw [if_neg h]
structure HH (H:AHeap) (lo a b V:Nat) (qs:List Nat) (h:Host):Prop where
 ga:H.get a=some ⟨3,1,h.graph.nodes.map cI,false⟩
 gb:H.get b=some ⟨122,3,h.graph.edges.map Edge.c,false⟩
 gV:H.get V=some ⟨26,1,mS qs h.values,false⟩
 len:qs.length=h.values.length
 gq:∀ (i q:Nat) (v:List Int),qs[i]?=some q->h.values[i]?=some v->H.get q=some ⟨3,1,v.map cI,false⟩
 nd:(a :: b :: V :: qs).Nodup
 rng:∀ q∈a :: b :: V :: qs,lo<=q/\q<H.next
section
variable {H H':AHeap} {lo a b V:Nat} {qs:List Nat} {x:Host}
theorem HH.a_in (h:HH H lo a b V qs x):a∈a :: b :: V :: qs:=aF
theorem HH.b_in (h:HH H lo a b V qs x):b∈a :: b :: V :: qs:=aF
theorem HH.V_in (h:HH H lo a b V qs x):V∈a :: b :: V :: qs:=aF
theorem HH.q_in (h:HH H lo a b V qs x){q:Nat}(c:q∈qs):q∈a :: b :: V :: qs:=by simp [c]
theorem HH.ab (h:HH H lo a b V qs x):a≠b/\a≠V/\b≠V:=by
 have:=h.nd;simp only [Bl,bP,not_or] at this
 exact ⟨this.1.1,this.1.2.1,this.2.1.1⟩
theorem HH.qn (h:HH H lo a b V qs x){q:Nat}(c:q∈qs):q≠a/\q≠b/\q≠V:=by
 have:=h.nd;simp only [Bl,bP,not_or] at this
 exact ⟨λe=>this.1.2.2 (e ▸ c),λe=>this.2.1.2 (e ▸ c),λe=>this.2.2.1 (e ▸ c)⟩
theorem HH.same (h:HH H lo a b V qs x)(hn:H.next<=H'.next)(hf:∀ j∈a :: b :: V :: qs,H'.get j=H.get j):HH H' lo a b V qs x where
 ga:=(hf a h.a_in).trans h.ga
 gb:=(hf b h.b_in).trans h.gb
 gV:=(hf V h.V_in).trans h.gV
 len:=h.len
 gq i q v h1 h2:=(hf q (h.q_in (aI h1))).trans (h.gq i q v h1 h2)
 nd:=h.nd
 rng q hq:=⟨(h.rng q hq).1,cW (h.rng q hq).2 hn⟩
theorem HH.nodes (h:HH H lo a b V qs x)(hn:H.next<=H'.next){ns:List Int}(ga:H'.get a=some ⟨3,1,ns.map cI,false⟩)(hf:∀ j∈b :: V :: qs,H'.get j=H.get j):HH H' lo a b V qs ⟨⟨ns,x.graph.edges⟩,x.values⟩ where
 ga:=ga
 gb:=(hf b aF).trans h.gb
 gV:=(hf V aF).trans h.gV
 len:=h.len
 gq i q v h1 h2:=(hf q (by simp [aI h1])).trans (h.gq i q v h1 h2)
 nd:=h.nd
 rng q hq:=⟨(h.rng q hq).1,cW (h.rng q hq).2 hn⟩
theorem HH.edges (h:HH H lo a b V qs x)(hn:H.next<=H'.next){es:List Edge}(gb:H'.get b=some ⟨122,3,es.map Edge.c,false⟩)(hf:∀ j∈a :: V :: qs,H'.get j=H.get j):HH H' lo a b V qs ⟨⟨x.graph.nodes,es⟩,x.values⟩ where
 ga:=(hf a aF).trans h.ga
 gb:=gb
 gV:=(hf V aF).trans h.gV
 len:=h.len
 gq i q v h1 h2:=(hf q (by simp [aI h1])).trans (h.gq i q v h1 h2)
 nd:=h.nd
 rng q hq:=⟨(h.rng q hq).1,cW (h.rng q hq).2 hn⟩
theorem HH.rowSet (h:HH H lo a b V qs x)(hn:H.next<=H'.next){i q:Nat}{v v':List Int}(h1:qs[i]?=some q)(h2:x.values[i]?=some v)(hl:v'.length=v.length)(gq:H'.get q=some ⟨3,1,v'.map cI,false⟩)
  (hf:∀ j∈a :: b :: V :: qs,j≠q->H'.get j=H.get j):HH H' lo a b V qs ⟨x.graph,x.values.set i v'⟩ where
 ga:=(hf a h.a_in (Ne.symm (h.qn (aI h1)).1)).trans h.ga
 gb:=(hf b h.b_in (Ne.symm (h.qn (aI h1)).2.1)).trans h.gb
 gV:=by rw [QZ h2 hl];exact (hf V h.V_in (Ne.symm (h.qn (aI h1)).2.2)).trans h.gV
 len:=by simp [h.len]
 gq j q' w k1 k2:=by
  have hqn:qs.Nodup:=by have:=h.nd;simp only [Bl] at this;exact this.2.2.2
  rw [cE] at k2
  by_cases hj:i=j
  .subst hj
   rw [h1] at k1;cases k1
   rw [if_pos rfl] at k2
   split at k2
   .cases k2;exact gq
   .cases k2
  .rw [if_neg hj] at k2
   refine (hf q' (h.q_in (aI k1)) λe=>hj ?_).trans (h.gq j q' w k1 k2)
   subst e
   obtain ⟨a1,a2⟩:=aL.1 h1
   obtain ⟨b1,b2⟩:=aL.1 k1
   exact (sH hqn).1 (a2.trans b2.symm)
 nd:=h.nd
 rng q hq:=⟨(h.rng q hq).1,cW (h.rng q hq).2 hn⟩
theorem HH.read (h:HH H lo a b V qs x):(mS qs x.values).map (·.map (eM H))=x.values.map cL:=by
 apply eZ
 intro i
 simp only [aH]
 by_cases d:i<x.values.length
 .have hq:i<qs.length:=by rw [h.len];exact d
  have c:=aA d
  have e:=aA hq
  rw [uM e c,c]
  have:=h.gq i _ _ e c
  simp [eM,this,cL,dLI]
 .rw [bE (by rw [k9 h.len];omega),bE aD];rfl
theorem HH.deep (h:HH H lo a b V qs x):kD H (.agg [.own a x.graph.nodes.length,.own b x.graph.edges.length,.own V x.values.length])=x.d:=by
 have j:∀ l:List (List D),(∀ c∈l,∀ y∈c,∀ i n,y≠D.own i n/\∀ p q r,y≠D.win i p q r)->l.map (·.map (eM H))=l:=λl g=>by
  conv=>rhs;rw [<- List.map_id l]
  refine bW λc f=>?_
  conv=>rhs;rw [id,<- List.map_id c]
  refine bW λy e=>?_
  cases y<;>first|rfl|(exfalso;first|exact (g c f _ e _ _).1 rfl|exact (g c f _ e _ 0).2 _ _ _ rfl)
 simp only [kD,oY,gS,lO,h.ga,h.gb,h.gV,aS,k9 h.len,if_true,h.read]
 rw [j (x.graph.nodes.map cI) (λc f y e i n=>by
  rw [aQ] at f;obtain ⟨z,_,rfl⟩:=f
  simp [cI] at e;subst e;simp),j (x.graph.edges.map Edge.c) (λc f y e i n=>by
  rw [aQ] at f;obtain ⟨z,_,rfl⟩:=f
  simp [Edge.c,dI] at e;rcases e with rfl|rfl|rfl<;>simp)]
 rfl
theorem M5 {l:List (List D)}(d:∀ c∈l,∀ y∈c,kO y=[]):l.flatten.flatMap kO=[]:=by
 rw [xP]
 intro i a
 rw [bH] at a
 obtain ⟨y,b,a⟩:=a
 rw [i9] at b
 obtain ⟨c,e,b⟩:=b
 rw [d c e y b] at a;cases a
theorem HH.ids (h:HH H lo a b V qs x)(n m k:Nat)(e:Int):∀ i∈Jd H (.tup [.agg [.own a n,.own b m,.own V k],dI e]),i∈a :: b :: V :: qs:=by
 intro i hi
 have l:(x.graph.nodes.map cI).flatten.flatMap kO=[]:=M5 λc f y d=>by
  rw [aQ] at f;obtain ⟨z,_,rfl⟩:=f
  simp [cI] at d;subst d;rfl
 have g:(x.graph.edges.map Edge.c).flatten.flatMap kO=[]:=M5 λc f y d=>by
  rw [aQ] at f;obtain ⟨z,_,rfl⟩:=f
  simp [Edge.c,dI] at d;rcases d with rfl|rfl|rfl<;>rfl
 simp only [Jd,M6,O9,iC,List.flatMap_nil,h.ga,h.gb,h.gV,l,g,dI,kO,jV,aV,bP,i7,or_false] at hi
 rcases hi with rfl|rfl|rfl|hi
 .exact h.a_in
 .exact h.b_in
 .exact h.V_in
 .rw [bH] at hi
  obtain ⟨y,d,hi⟩:=hi
  rw [i9] at d
  obtain ⟨c,f,d⟩:=d
  simp only [mS] at f
  obtain ⟨j,o,rfl⟩:=aK f
  rw [List.getElem_zipWith,aW] at d
  subst d
  simp only [kO,aW] at hi
  subst hi
  exact h.q_in (aC _)
end
theorem NW (h:Host):D.clL h.c=true:=by simp [Host.c,D.clL,D.cl,oF,vB];exact c8 _ (λv=>by simp [cL,D.clL,oF]) _
@[go_sem] theorem Host.cld (h:Host):h.d.cl=true:=by simp [Host.d,D.cl,NW]
/-! ### Extract -/
def exE (t:Types)(h:Host)(p:Part):Int:=if fA t h≠0 then fA t h else subF h.graph p
def exH (t:Types)(h:Host)(p:Part):Host:=if exE t h p=0 then ⟨b5 h.graph p,p.nodes.map λk=>h.values[k.toNat]?.getD []⟩ else ⟨⟨[],[]⟩,[]⟩
def FU (l l1:List Nat)(j:Nat):Nat:=if j∈l then l1[l.idxOf j]?.getD 0 else j
theorem BJ {l a:List Nat}(e:l.Nodup){i j b:Nat}(h:l[i]?=some j)(f:a[i]?=some b):FU l a j=b:=by
 obtain ⟨c,d⟩:=aL.1 h
 unfold FU
 rw [if_pos (d ▸ aC c)]
 have:l.idxOf j=i:=by rw [<- d];exact e.idxOf_getElem i c
 rw [this,f];rfl
theorem yC {l a:List Nat}{j:Nat}(h:j∉l):FU l a j=j:=by unfold FU;rw [if_neg h]
theorem yM {τ:Nat->Nat}{l:List (List D)}(b:∀ c∈l,∀ y∈c,AY τ y=y):l.map (·.map (AY τ))=l:=by
 conv=>rhs;rw [<- List.map_id l]
 refine bW λc d=>?_
 conv=>rhs;rw [id,<- List.map_id c]
 exact bW λy a=>b c d y a
theorem HH.exact {H H1 E:AHeap}{lo a0 a b V a1 b1 V1:Nat}{N t:List Nat}{x:Host}(G:HH E lo a b V N x)(M:HH H1 a0 a1 b1 V1 t x)
  (a2:∀ j,H.al j->j<H.next) (O:∀ j,¬ H.al j->H.get j=none) (Pf:H.next<=E.next)
  (g:∀ j,E.al j↔H.al j\/j∈a :: b :: V :: N) (Y:∀ j,H.al j->j∉a :: b :: V :: N->H1.get j=H.get j) (Q:∀ j,j∉a :: b :: V :: N->E.get j=H.get j)
  (f:∀ (i j F:Nat),(a :: b :: V :: N)[i]?=some j->(a1 :: b1 :: V1 :: t)[i]?=some F->(H.al j->F=j)/\(¬ H.al j->¬ H.al F)) :
  ∃ τ,Exact H H1 E τ/\.agg [.own a1 x.graph.nodes.length,.own b1 x.graph.edges.length,.own V1 x.values.length]=SL τ (.agg [.own a x.graph.nodes.length,.own b x.graph.edges.length,.own V x.values.length])/\Zx E.al (.agg [.own a x.graph.nodes.length,.own b x.graph.edges.length,.own V x.values.length]):=by
 obtain ⟨l,A⟩:=cC (a :: b :: V :: N)
 obtain ⟨D,w⟩:=cC (a1 :: b1 :: V1 :: t)
 have u:=G.nd
 have P:=M.nd
 have W:=G.rng
 rw [<- A] at g Y Q f u W
 rw [<- w] at f P
 have a3:D.length=l.length:=by rw [A,w];simp [M.len,G.len]
 have o:∀ j∈l,∃ i F,l[i]?=some j/\D[i]?=some F/\FU l D j=F:=λj B=>by
  obtain ⟨i,C,L⟩:=aK B
  have m:l[i]?=some j:=by rw [aA C,L]
  have n:=aA (aD:i<D.length)
  exact ⟨i,_,m,n,BJ u m n⟩
 have ra:FU l D a=a1:=BJ u (i:=0) (by rw [A];rfl) (by rw [w];rfl)
 have rb:FU l D b=b1:=BJ u (i:=1) (by rw [A];rfl) (by rw [w];rfl)
 have rV:FU l D V=V1:=BJ u (i:=2) (by rw [A];rfl) (by rw [w];rfl)
 have rq:∀ i q q1,N[i]?=some q->t[i]?=some q1->FU l D q=q1:=λi q q1 e m=>BJ u (i:=i+3) (by rw [A];exact e) (by rw [w];exact m)
 have cI_ren:∀ (v:List Int),(v.map cI).map (·.map (AY (FU l D)))=v.map cI:=λv=>yM λc r y s=>by
  rw [aQ] at r;obtain ⟨z,_,rfl⟩:=r
  simp [cI] at s;subst s;rfl
 have cI_ok:∀ (v:List Int),∀ c∈v.map cI,∀ y∈c,Xl E.al y:=λv c r y s=>by
  rw [aQ] at r;obtain ⟨z,_,rfl⟩:=r
  simp [cI] at s;subst s;rfl
 refine ⟨FU l D,⟨λj B=>?_,λi j C B L=>?_,λj B=>⟨(g j).2 (.inl B),?_⟩,λj B=>?_,λj k I=>?_⟩,?_,?_⟩
 .rcases (g j).1 B with h|h
  .exact cW (a2 j h) Pf
  .exact (W j h).2
 .by_cases hi2:i∈l<;>by_cases d:j∈l
  .obtain ⟨p,S,m,n,R⟩:=o i hi2
   obtain ⟨p',F,f1,f2,f3⟩:=o j d
   rw [R,f3] at L
   subst L
   obtain ⟨u1,u2⟩:=aL.1 n
   obtain ⟨v1,v2⟩:=aL.1 f2
   have:p=p':=(sH P).1 (u2.trans v2.symm)
   subst this
   rw [m] at f1;cases f1;rfl
  .obtain ⟨p,S,m,n,R⟩:=o i hi2
   rw [R,yC d] at L
   subst L
   have J:H.al S:=(((g S).1 B).resolve_right d)
   by_cases K:H.al i
   .exact ((f p i S m n).1 K).symm
   .exact absurd J ((f p i S m n).2 K)
  .obtain ⟨p,F,m,n,R⟩:=o j d
   rw [R,yC hi2] at L
   subst L
   have K:H.al i:=(((g i).1 C).resolve_right hi2)
   by_cases J:H.al j
   .exact (f p j i m n).1 J
   .exact absurd K ((f p j i m n).2 J)
  .rwa [yC hi2,yC d] at L
 .by_cases d:j∈l
  .obtain ⟨p,F,m,n,R⟩:=o j d
   rw [R];exact (f p j F m n).1 B
  .exact yC d
 .have h2:¬ H.al j/\j∉l:=⟨λh=>B ((g j).2 (.inl h)),λh=>B ((g j).2 (.inr h))⟩
  rw [Q j h2.2];exact O j h2.1
 .by_cases d:j∈l
  .right
   have T:=d
   rw [A,bP,bP,bP] at T
   rcases T with rfl|rfl|rfl|hq
   .rw [G.ga] at I;cases I
    rw [ra]
    exact ⟨_,M.ga,rfl,rfl,rfl,(cI_ren _).symm,cI_ok _⟩
   .rw [G.gb] at I;cases I
    rw [rb]
    refine ⟨_,M.gb,rfl,rfl,rfl,(yM λc r y s=>?_).symm,λc r y s=>?_⟩
    .rw [aQ] at r;obtain ⟨z,_,rfl⟩:=r
     simp [Edge.c,dI] at s;rcases s with rfl|rfl|rfl<;>rfl
    .rw [aQ] at r;obtain ⟨z,_,rfl⟩:=r
     simp [Edge.c,dI] at s;rcases s with rfl|rfl|rfl<;>rfl
   .rw [G.gV] at I;cases I
    rw [rV]
    refine ⟨_,M.gV,rfl,rfl,rfl,?_,λc r y s=>?_⟩
    .apply eZ
     intro i
     simp only [aH]
     by_cases C:i<x.values.length
     .have Z:=aA C
      have m:=aA (show i<N.length by rw [G.len];exact C)
      have n:=aA (show i<t.length by rw [M.len];exact C)
      rw [uM m Z,uM n Z]
      simp [AY,rq i _ _ m n]
     .rw [bE (by rw [k9 M.len];omega),bE (by rw [k9 G.len];omega)];rfl
    .simp only [mS] at r
     obtain ⟨i,C,rfl⟩:=aK r
     rw [List.getElem_zipWith,aW] at s
     subst s
     show E.al _
     exact (g _).2 (.inr (by rw [A];exact iY _ (iY _ (iY _ (aC _)))))
   .obtain ⟨i,C,rfl⟩:=aK hq
    have m:=aA C
    have U:i<x.values.length:=by rw [<- G.len];exact C
    have Z:=aA U
    have n:=aA (show i<t.length by rw [M.len];exact U)
    rw [G.gq i _ _ m Z] at I;cases I
    rw [rq i _ _ m n]
    exact ⟨_,M.gq i _ _ n Z,rfl,rfl,rfl,(cI_ren _).symm,cI_ok _⟩
  .left
   have X:=Q j d
   rw [I] at X
   have hA:H.al j:=bA λhn=>by rw [O j hn] at X;cases X
   exact ⟨hA,X.symm,(Y j hA d).trans X.symm⟩
 .simp [SL,AY,ra,rb,rV]
 .intro c r
  simp only [bP,i7,or_false] at r
  rcases r with rfl|rfl|rfl
  .exact (g _).2 (.inr (by rw [A];simp))
  .exact (g _).2 (.inr (by rw [A];simp))
  .exact (g _).2 (.inr (by rw [A];simp))
theorem MY {α:Type}{f:α->Int}{m:Int}(h0:(0:Int)≠m)(h:∀ x,f x≠m):∀ l,fM f l≠m
 | []=>h0
 | x :: l=>by
  simp only [fM];split
  .exact h x
  .exact MY h0 h l
theorem QR (n:Int)(l:List Test):iF n l≠9:=by
 unfold iF
 split
 .decide
 .split
  .decide
  .refine MY (by decide) (λx=>?_) l
   unfold qL;split
   .decide
   .split<;>decide
structure PatOk (t:Types) (q:Pattern):Prop where
 vf:(cH t).2=0
 gg:graphF q.graph=0
 ty:dP t q.graph=true
 vars:0<=q.vars/\q.vars<=12
 few:q.slots.length<=10/\q.tests.length<=10
 slot:∀ s∈q.slots,gK t q s=0
 test:∀ x∈q.tests,qL q.vars x=0
theorem Mr {t:Types}{q:Pattern}(h:bR t q=9\/bR t q=0):PatOk t q:=by
 have i:=j8 h
 have k:=Ip t
 have l:graphF q.graph≠9:=by
  unfold graphF;repeat' split
  all_goals decide
 have j:=QR q.vars q.tests
 unfold bR at h
 by_cases g:(cH t).2=0
 .rw [if_neg aD] at h
  by_cases f:graphF q.graph=0
  .rw [if_neg aD] at h
   by_cases b:dP t q.graph=false
   .rw [if_pos b] at h;omega
   .rw [if_neg b] at h
    by_cases e:inF q.vars 0 12=false
    .rw [if_pos e] at h;omega
    .rw [if_neg e] at h
     by_cases d:10<q.slots.length\/10<q.tests.length
     .rw [if_pos d] at h;omega
     .rw [if_neg d] at h
      by_cases c:fM (gK t q) q.slots=0
      .rw [if_neg aD] at h
       by_cases a:iF q.vars q.tests=0
       .refine ⟨g,f,by simpa using b,i,aD,o4 c,o4 ?_⟩
        unfold iF at a
        split at a
        .cases a
        .split at a
         .cases a
         .exact a
       .rw [if_pos a] at h;omega
      .rw [if_pos c] at h;omega
  .rw [if_pos f] at h;omega
 .rw [if_pos g] at h;omega
theorem LA {n:Int}{x:Term}(h:termB n x=true)(hn:0<=n):sF x n.toNat:=by
 simp only [termB,aN,decide_eq_true_eq] at h
 exact ⟨⟨aD,aD⟩,aD,aD⟩
theorem PatOk.tests {t:Types}{q:Pattern}(hp:PatOk t q):∀ x∈q.tests,PT x q.vars.toNat:=λx hx=>by
 have:=hp.test x hx
 unfold qL at this
 split at this
 .cases this
 .rename_i h1
  split at this
  .rename_i h2
   rw [aN] at h2
   exact ⟨aD,LA h2.1 hp.vars.1,LA h2.2 hp.vars.1⟩
  .cases this
theorem PatOk.slots {t:Types}{q:Pattern}(hp:PatOk t q):∀ s∈q.slots,(0<=s.node/\s.node<q.graph.nodes.length)/\(0<=s.attr/\s.attr<(bM t (q.graph.nodes[s.node.toNat]?.getD 0)).length)/\sF s.term q.vars.toNat:=λs hs=>by
 have:=hp.slot s hs
 have hv:=hp.vars
 unfold gK at this
 split at this
 .rename_i h1
  simp only [aN,lJ,decide_eq_true_eq,inF,Pattern.kind] at h1
  exact ⟨h1.1.1.1,⟨h1.1.1.2.1,of_decide_eq_true h1.1.1.2.2⟩,⟨aD,aD⟩,aD,aD⟩
 .cases this
structure MOk (t:Types) (p g:Graph) (m:Part):Prop where
 len:m.nodes.length=p.nodes.length
 elen:m.edges.length=p.edges.length
 img:∀ (i:Nat) (hi:i<m.nodes.length) (hp:i<p.nodes.length),(0<=m.nodes[i]/\m.nodes[i]<g.nodes.length)/\Ay t p.nodes[i] (g.nodes[m.nodes[i].toNat]?.getD 0)=true
 eimg:∀ (i:Nat) (hi:i<m.edges.length),0<=m.edges[i]/\m.edges[i]<g.edges.length
theorem vY {t:Types}{p g:Graph}{m:Part}{b:Bool}(h:matchE t p g m b=0):MOk t p g m:=by
 obtain ⟨⟨j,f⟩,e,d⟩:=Dd h
 refine ⟨j,f,λi a c=>⟨e _ (aC a),?_⟩,λi a=>d _ (aC a)⟩
 unfold matchE at h
 rw [if_neg aD] at h
 split at h
 .exact absurd h (by assumption)
 .rename_i h5
  have:=dV _ _ (bS h5) i (eJ _) aD
  unfold mNE at this
  rw [aA a,aA c,Option.getD_some,Option.getD_some] at this
  split at this
  .cases this
  .split at this
   .assumption
   .cases this
theorem Nh {S:Srch}{ns:List Int}:∀ (d:Nat) (l es:List Int),es∈extE S ns d l->es.length=l.length+d/\(∀ x∈l,0<=x/\x<S.g.edges.length->True)/\((∀ x∈l,0<=x/\x<S.g.edges.length)->∀ x∈es,0<=x/\x<S.g.edges.length)
 | 0,l,es,h=>by
  simp only [extE,aW] at h;subst h
  exact ⟨rfl,λ_ _ _=>trivial,λh=>h⟩
 | d+1,l,es,h=>by
  simp only [extE,bH,dL,aR] at h
  obtain ⟨k,⟨hk,_⟩,hr⟩:=h
  obtain ⟨h1,_,h3⟩:=Nh d _ es hr
  refine ⟨by simp at h1;omega,λ_ _ _=>trivial,λhl=>h3 λx hx=>?_⟩
  rw [aV,aW] at hx
  rcases hx with hx|rfl
  .exact hl x hx
  .omega
theorem Ng {S:Srch}:∀ (d:Nat) (l:List Int) (m:Part),m∈extN S d l->m.nodes.length=l.length+d/\∀ i,l.length<=i->i<l.length+d->∃ k:Nat,m.nodes[i]?=some (k:Int)/\k<S.g.nodes.length/\Ay S.t (S.p.nodes[i]?.getD 0) (S.g.nodes[k]?.getD 0)=true
 | 0,l,m,h=>by
  simp only [extN,aQ] at h
  obtain ⟨es,_,rfl⟩:=h
  exact ⟨rfl,λi h1 h2=>by omega⟩
 | d+1,l,m,h=>by
  have h':=h
  simp only [extN,bH,dL,aR] at h
  obtain ⟨k,⟨hk,ho⟩,hr⟩:=h
  obtain ⟨h1,h2⟩:=Ng d _ m hr
  simp at h1 h2
  refine ⟨aD,λi h3 h4=>?_⟩
  by_cases hi:i=l.length
  .subst hi
   obtain ⟨⟨r,hr2⟩,_⟩:=Ch d _ m hr
   refine ⟨k,by rw [hr2];simp,hk,?_⟩
   simp only [okN,aN] at ho
   exact ho.2.2
  .exact h2 i aD aD
theorem NR {S:Srch}{m:Part}(h:m∈allM S):MOk S.t S.p S.g m:=by
 unfold allM at h
 obtain ⟨f,e⟩:=Ng _ _ m h
 obtain ⟨_,q⟩:=Ch _ _ m h
 obtain ⟨d,_,o⟩:=Nh _ _ _ q
 simp at f e d
 refine ⟨f,d,λi a l=>?_,λi a=>o (by intro x j;cases j) _ (aC a)⟩
 obtain ⟨k,c,r,b⟩:=e i aD
 rw [aA a] at c
 have n:m.nodes[i]=(k:Int):=Option.some.inj c
 rw [aA l,Option.getD_some] at b
 rw [n]
 exact ⟨aD,by simpa using b⟩
theorem tD {t:Types}{h:Host}(ho:HostOk t h):∀ a∈h.graph.nodes,0<=a/\a<t.nodes.length:=λa ha=>by
 obtain ⟨i,hi,rfl⟩:=aK ha
 have:=ho.vl
 exact ⟨((dF ho.gg).1 _ ha).1,(rX (ho.nd i hi aD)).1⟩
theorem W4 {t:Types}{q:Pattern}{h:Host}{m:Part}(hp:PatOk t q)(ho:HostOk t h)(hm:MOk t q.graph h.graph m):SOk q h m where
 vars:=hp.vars
 node s hs:=by have:=hp.slots s hs;have:=hm.len;omega
 img k hk:=by
  obtain ⟨i,hi,rfl⟩:=aK hk
  have:=(hm.img i hi (by have:=hm.len;omega)).1
  have:=ho.vl
  omega
 attr s hs:=by
  obtain ⟨h1,h2,_⟩:=hp.slots s hs
  have hl:=hm.len
  have hi:s.node.toNat<m.nodes.length:=aD
  have hq:s.node.toNat<q.graph.nodes.length:=aD
  obtain ⟨h3,h4⟩:=hm.img _ hi hq
  have hvl:=ho.vl
  have hk:m.nodes[s.node.toNat].toNat<h.graph.nodes.length:=aD
  have hkv:m.nodes[s.node.toNat].toNat<h.values.length:=aD
  rw [aA hi,Option.getD_some,aA hkv,Option.getD_some]
  rw [aA hq,Option.getD_some] at h2
  rw [aA hk,Option.getD_some] at h4
  have ha:=(jT hp.gg hp.ty).1 _ (aC hq)
  have hb:=tD ho _ (aC hk)
  rw [rI hp.vf ha.1 ha.2] at h2
  have hrow:=(rX (ho.nd _ hk hkv)).2.2.1
  rw [rI hp.vf hb.1 hb.2] at hrow
  unfold Ay at h4
  obtain ⟨r,hr⟩:=JF (mR hp.vf) (h.graph.nodes[m.nodes[s.node.toNat].toNat]).toNat aD (q.graph.nodes[s.node.toNat]).toNat (by rw [Int.toNat_of_nonneg ha.1];exact h4)
  rw [hr,aJ] at hrow
  omega
 small l hl v hv:=(ho.row l hl).2 v hv
 term s hs:=(hp.slots s hs).2.2
 test:=hp.tests
/-! ### values -/
def Ok (p:Pattern)(vs:List Int):List Int × List Bool:=(vs++List.replicate (p.vars.toNat - vs.length) 0,List.replicate vs.length true++List.replicate (p.vars.toNat - vs.length) false)
theorem PX (p:Pattern):Ok p []=(List.replicate p.vars.toNat 0,List.replicate p.vars.toNat false):=by simp [Ok]
theorem i4 {p:Pattern}{h:Host}{m:Part}{vs:List Int}(a:slotsV h m (Ok p vs) p.slots=none):fB p h m vs=([],11):=by
 unfold fB;unfold Ok at a;rw [a]
theorem vM {p:Pattern}{h:Host}{m:Part}{vs:List Int}{q:List Int × List Bool}(a:slotsV h m (Ok p vs) p.slots=some q):fB p h m vs=if p.tests.all (λx=>Oc x q.1)=true then (q.1,0) else ([],16):=by
 unfold fB;unfold Ok at a;rw [a]
structure StOk (n:Nat) (st:List Int × List Bool):Prop where
 l1:st.1.length=n
 l2:st.2.length=n
 sm:∀ v∈st.1,-2000000<=v/\v<=2000000
theorem StOk.big {n:Nat}{st:List Int × List Bool}(h:StOk n st):Sm st.1:=λv hv=>by have:=h.sm v hv;omega
theorem Sz {p:Pattern}{vs:List Int}(b:0<=p.vars)(c:vs.length<=p.vars.toNat)(a:∀ v∈vs,-2000000<=v/\v<=2000000):StOk p.vars.toNat (Ok p vs):=by
 refine ⟨by simp [Ok];omega,by simp [Ok];omega,λv h=>?_⟩
 simp only [Ok,aV,List.mem_replicate] at h
 rcases h with h|h
 .exact a v h
 .omega
theorem FB {n:Nat}{h:Host}{m:Part}{b:List Int × List Bool}{s:Slot}(a:StOk n b)(f : -1000000<=haveV h m s/\haveV h m s<=1000000)(d:sF s.term n):StOk n (nE h m b s):=by
 unfold nE
 split
 .refine ⟨by simp [a.l1],by simp [a.l2],λv c=>?_⟩
  rcases gI c with e|rfl
  .exact a.sm v e
  .have:=d.2;omega
 .exact a
theorem SOk.have_ {p:Pattern}{h:Host}{m:Part}(d:SOk p h m){s:Slot}(e:s∈p.slots) : -1000000<=haveV h m s/\haveV h m s<=1000000:=by
 have g:=d.node s e
 have a:s.node.toNat<m.nodes.length:=aD
 have i:=d.img _ (aC a)
 have b:(m.nodes[s.node.toNat]).toNat<h.values.length:=aD
 have f:=d.attr s e
 unfold haveV
 rw [aA a,Option.getD_some,aA b,Option.getD_some] at f ⊢
 have c:s.attr.toNat<(h.values[(m.nodes[s.node.toNat]).toNat]).length:=aD
 rw [aA c]
 exact d.small _ (aC b) _ (aC c)
theorem It {p:Pattern}{h:Host}{m:Part}(hO:SOk p h m):∀ (l:List Slot) (st q:List Int × List Bool),(∀ s∈l,s∈p.slots)->StOk p.vars.toNat st->slotsV h m st l=some q->StOk p.vars.toNat q
 | [],st,q,_,hst,hq=>by simp only [slotsV,bD] at hq;exact hq ▸ hst
 | s :: l,st,q,hl,hst,hq=>by
  simp only [slotsV] at hq
  split at hq
  .have hs:=hl s (lN ..)
   exact It hO l _ q (λx hx=>hl x (iY _ hx)) (FB hst (hO.have_ hs) (hO.term s hs)) hq
  .cases hq
theorem Fh {p:Pattern}{h:Host}{m:Part}(d:SOk p h m){vs:List Int}(f:vs.length<=p.vars.toNat)(e:∀ v∈vs,-2000000<=v/\v<=2000000)(a:(fB p h m vs).2=0) :
  (fB p h m vs).1.length=p.vars.toNat/\∀ v∈(fB p h m vs).1,-2000000<=v/\v<=2000000:=by
 cases b:slotsV h m (Ok p vs) p.slots with
 | none=>rw [i4 b] at a;cases a
 | some q =>
  have c:=It d _ _ _ (λ_ h=>h) (Sz d.vars.1 f e) b
  rw [vM b] at a ⊢
  split at a
  .rename_i h1;rw [if_pos h1];exact ⟨c.l1,c.sm⟩
  .cases a
theorem vL (q:Pattern)(h:Host)(a:List Int)(l:List Part)(x:Part):rL q h a (l++[x])=rL q h a l++if (fB q h x a).2=0 then [⟨x,(fB q h x a).1⟩] else []:=by
 unfold rL
 rw [List.filterMap_append]
 congr 1
 simp only [List.filterMap_cons,List.filterMap_nil]
 split<;>simp_all
theorem rG (o:Option Bool):(Option.map cB o).getD [D.bool false]=cB (o.getD false):=by cases o<;>rfl
def Dl (t:Types)(p:Pattern)(h:Host):Int:=if bR t p≠0 then bR t p else fA t h
theorem Qv (l:List Part):(xM l).1.length<=5000:=by
 unfold xM;split
 .simp
 .simp only;omega
theorem NS (t:Types)(p g:Graph)(a:Bool):(nO t p g a).1.length<=5000:=by
 unfold nO;split
 .simp
 .exact Qv _
theorem UN (t:Types)(p g:Graph)(q:Part)(a:Bool):(mZ t p g q a).1.length<=5000:=by
 unfold mZ;split
 .simp
 .split
  .simp
  .split
   .simp
   .split
    .simp
    .exact Qv _
theorem Sa {t:Types}{p g:Graph}{a:Bool}{m:Part}(h:m∈(nO t p g a).1):MOk t p g m:=by
 unfold nO at h
 split at h
 .cases h
 .unfold xM at h
  split at h
  .cases h
  .exact NR (S:=⟨t,p,g,_,_,a⟩) (cK h)
def SP (at_ im:List Int)(n i:Nat):List Int:=(List.range i).foldl (λacc i=>acc.set (at_[i]?.getD 0).toNat (im[i]?.getD 0)) (List.replicate n (-1))
theorem Mo (at_ a:List Int)(n i:Nat):SP at_ a n (i+1)=(SP at_ a n i).set (at_[i]?.getD 0).toNat (a[i]?.getD 0):=by unfold SP;rw [iQ]
theorem Ko (at_ im:List Int)(n:Nat):∀ i,(SP at_ im n i).length=n
 | 0=>by simp [SP]
 | i+1=>by rw [Mo,c7];exact Ko at_ im n i
def Xo (len i:Nat):List Bool:=(List.range i).map λj=>decide (j<len)
theorem Qi (len n:Nat)(h:len<=n):Xo len n=List.replicate len true++List.replicate (n - len) false:=by
 apply eW (by simp [Xo];omega)
 intro i b a
 simp only [Xo,jB,oO,List.getElem_append,List.getElem_replicate,jU]
 split
 .rename_i h3;simpa using h3
 .rename_i h3;simpa using h3
def XL (vs:List Int)(i:Nat):List Int:=vs++List.replicate (i - vs.length) 0
structure MatOk (t:Types) (p:Pattern) (h:Host) (m:Mat):Prop where
 mok:MOk t p.graph h.graph m.m
 vl:m.vars.length=p.vars.toNat
 vs:∀ v∈m.vars,-2000000<=v/\v<=2000000
structure ExOk (t:Types) (p:Pattern) (mp:Part) (q:Pattern):Prop where
 pq:PatOk t q
 pv:p.vars<=q.vars
 p0:0<=p.vars
 mo:dS p.graph q.graph mp=0
theorem ExOk.img {t:Types}{p:Pattern}{a:Part}{q:Pattern}(h:ExOk t p a q):(a.nodes.length=p.graph.nodes.length/\a.edges.length=p.graph.edges.length)/\(∀ x∈a.nodes,0<=x/\x<q.graph.nodes.length)/\(∀ x∈a.edges,0<=x/\x<q.graph.edges.length):=by
 have:=lZ h.mo
 exact ⟨this.2.2,(uV h.mo).1,(uV h.mo).2⟩
theorem Nf {t:Types}{p g:Graph}{q:Part}{a:Bool}{m:Part}(h:m∈(mZ t p g q a).1):MOk t p g m:=by
 unfold mZ at h
 split at h
 .cases h
 .split at h
  .cases h
  .split at h
   .cases h
   .split at h
    .cases h
    .unfold xM at h
     split at h
     .cases h
     .exact NR (S:=⟨t,p,g,_,_,a⟩) (cK h)
theorem Sk {t:Types}{q:Pattern}{h:Host}{vars:List Int}{l:List Part}(hp:PatOk t q)(ho:HostOk t h)(hl:∀ x∈l,MOk t q.graph h.graph x)(hv:vars.length<=q.vars.toNat)(hs:∀ v∈vars,-2000000<=v/\v<=2000000):∀ m∈rL q h vars l,MatOk t q h m:=λm hm=>by
 unfold rL at hm
 rw [List.mem_filterMap] at hm
 obtain ⟨x,hx,he⟩:=hm
 split at he
 .rename_i h0
  cases he
  obtain ⟨h1,h2⟩:=Fh (W4 hp ho (hl x hx)) hv hs h0
  exact ⟨hl x hx,h1,h2⟩
 .cases he
theorem UO {t:Types}{p:Pattern}{c:Part}{q:Pattern}{h:Host}{m:Mat}{a:Bool}(b:ExOk t p c q)(f:HostOk t h)(d:MatOk t p h m):∀ x∈(t6 t c q h m a).1,MatOk t q h x:=by
 unfold t6
 split
 .simp
 .exact Sk b.pq f (λx e=>Nf e) (by have:=d.vl;have:=b.pv;have:=b.p0;omega) d.vs
theorem Td (l:List Cond):l.length<=Cond.sizes l:=by
 induction l with
 | nil=>simp [Cond.sizes]
 | cons a l ih=>have:=zK a;simp only [Cond.sizes,eV];omega
structure CondV (t:Types) (p:Pattern) (c:Cond):Prop where
 wf:Lj c=true
 ins:nX t p c=0
 sz:c.size<=1000000
theorem CondV.kinds {t:Types}{p:Pattern}{c:Cond}(h:CondV t p c):(c.kind=2\/c.kind=5->c.kids.length=1)/\(1<=c.kind/\c.kind<=5):=by
 have:=h.wf
 rw [tP,aN] at this
 have a:=this.1
 unfold qQ at a
 split at a
 .omega
 .split at a
  .rw [aN,decide_eq_true_eq] at a;omega
  .split at a
   .omega
   .rw [aN,decide_eq_true_eq,decide_eq_true_eq] at a;omega
theorem CondV.ex {t:Types}{p:Pattern}{c:Cond}(h:CondV t p c)(f:c.kind=5)(g:PatOk t p):ExOk t p c.map c.pattern/\∀ k∈c.kids,CondV t c.pattern k:=by
 have b:=h.ins
 have e:=h.wf
 rw [E9,if_pos f,if_pos f] at b
 rw [tP,aN,cD] at e
 by_cases a:iK t p c.map c.pattern=0
 .rw [if_neg aD] at b
  refine ⟨?_,λk d=>⟨e.2 k d,o4 b k d,by have:=zK c;have:=By d;have:=h.sz;omega⟩⟩
  unfold iK at a
  split at a
  .cases a
  .rename_i h1
   split at a
   .exact absurd a (by assumption)
   .rename_i h2
    split at a
    .exact absurd a (by assumption)
    .rename_i h3
     rw [iD] at h2 h3
     refine ⟨Mr ?_,aD,g.vars.1,h3⟩
     unfold l6 at h2
     split at h2
     .exact .inr h2
     .rename_i h4;left;omega
 .rw [if_pos a] at b;exact absurd b a
theorem CondV.kid {t:Types}{p:Pattern}{c:Cond}(h:CondV t p c)(e:c.kind≠5):∀ k∈c.kids,CondV t p k:=by
 have d:=h.ins
 have b:=h.wf
 rw [E9,if_neg e,if_neg e,if_neg aD] at d
 rw [tP,aN,cD] at b
 exact λk a=>⟨b.2 k a,o4 d k a,by have:=zK c;have:=By a;have:=h.sz;omega⟩
theorem G0 {α β:Type}(f:α->β){l:List α}{i:Nat}(h:i<l.length):(l.drop i).map f=f l[i] :: (l.drop (i+1)).map f:=by rw [gJ h,gS]
theorem Jf {t:Types}{h:Host}{b:Bool}{l:List Cond}(c:0<l.length):GN (l.map (oU t h b))=oU t h b l[0]:=by
 cases l with
 | nil=>cases c
 | cons a l=>rfl
structure RuleV (t:Types) (r:Rule):Prop where
 vf:(cH t).2=0
 pl:PatOk t r.left
 gr:graphF r.right.graph=0
 tr:dP t r.right.graph=true
 sub:subF r.left.graph r.keep=0
 mo:dS (b5 r.left.graph r.keep) r.right.graph r.into=0
 inj:As (b5 r.left.graph r.keep) r.right.graph r.into=true
 mkb:AL t r.right.graph r.freshN r.freshE=true
 vars:r.right.vars=r.left.vars
 few:r.right.slots.length<=10
 slot:∀ s∈r.right.slots,gK t r.right s=0
 cond:CondV t r.left r.cond
 kl:r.keep.nodes.length<=1000000/\r.keep.edges.length<=1000000
theorem LQ {t:Types}{r:Rule}(a:r.ok)(h:ruleF t r=0):RuleV t r:=by
 unfold ruleF at h
 split at h
 .rename_i h1;exact absurd h h1
 .rename_i h1
  split at h
  .cases h
  .split at h
   .rename_i h3;exact absurd h h3
   .rename_i h3
    split at h
    .rename_i h4;exact absurd h h4
    .rename_i h4
     split at h
     .rename_i h5;exact absurd h h5
     .rename_i h5
      split at h
      .cases h
      .rename_i h6
       rw [iD] at h1 h3 h4 h5
       have c:=IA h4
       unfold lD at h4
       rw [if_neg aD,if_neg (by simp [c.2])] at h4
       split at h4
       .cases h4
       .rename_i h7
        split at h4
        .cases h4
        .rename_i h8
         have b:subF r.left.graph r.keep=0/\dS (b5 r.left.graph r.keep) r.right.graph r.into=0/\As (b5 r.left.graph r.keep) r.right.graph r.into=true:=by
          unfold keptF at h5
          split at h5
          .rename_i q;exact absurd h5 q
          .rename_i q
           split at h5
           .rename_i q2;exact absurd h5 q2
           .rename_i q2
            split at h5
            .cases h5
            .rename_i q3;exact ⟨aD,aD,by simpa using q3⟩
         unfold condF at h
         rw [if_neg aD] at h
         split at h
         .rename_i q;exact absurd h q
         .rename_i h9
          refine ⟨h1,Mr (.inr h3),c.1,c.2,b.1,b.2.1,b.2.2,by simpa using h6,aD,aD,λs d=>?_,⟨?_,h,a.size⟩,a.k1,a.k2⟩
          .obtain ⟨i,e,rfl⟩:=aK d
           have:=dV _ _ h4 i (eJ _) aD
           rw [CU e] at this
           split at this
           .cases this
           .rename_i q;exact iD.1 q
          .rw [iD] at h9
           unfold qC at h9
           split at h9
           .cases h9
           .rename_i q;simpa using q
theorem RuleV.keep {t:Types}{r:Rule}(h:RuleV t r):(r.keep.nodes.length=r.into.nodes.length/\r.keep.edges.length=r.into.edges.length)/\(∀ x∈r.keep.nodes,0<=x/\x<r.left.graph.nodes.length)/\(∀ x∈r.keep.edges,0<=x/\x<r.left.graph.edges.length) /\
  (∀ x∈r.into.nodes,0<=x/\x<r.right.graph.nodes.length)/\∀ x∈r.into.edges,0<=x/\x<r.right.graph.edges.length:=by
 obtain ⟨i,g,d,c⟩:=sP h.sub
 obtain ⟨_,_,f,e⟩:=lZ h.mo
 obtain ⟨b,a⟩:=uV h.mo
 have k:(b5 r.left.graph r.keep).nodes.length=r.keep.nodes.length:=by unfold b5;rw [if_pos h.sub];simp
 have j:(b5 r.left.graph r.keep).edges.length=r.keep.edges.length:=by unfold b5;rw [if_pos h.sub];simp
 exact ⟨⟨aD,aD⟩,d,c,b,a⟩
theorem RuleV.slots {t:Types}{r:Rule}(h:RuleV t r):∀ s∈r.right.slots,(0<=s.node/\s.node<r.right.graph.nodes.length)/\(0<=s.attr/\s.attr<(bM t (r.right.graph.nodes[s.node.toNat]?.getD 0)).length)/\sF s.term r.left.vars.toNat:=λs hs=>by
 have:=h.slot s hs
 have hv:=h.pl.vars
 have he:=h.vars
 unfold gK at this
 split at this
 .rename_i h1
  simp only [aN,lJ,decide_eq_true_eq,inF,Pattern.kind] at h1
  exact ⟨h1.1.1.1,⟨h1.1.1.2.1,of_decide_eq_true h1.1.1.2.2⟩,⟨aD,aD⟩,aD,aD⟩
 .cases this
theorem wK (l:List Int)(k:Nat)(v:Int):iM l (k+1) v=if l[k]?.getD (-1)=v then (k:Int) else iM l k v:=by unfold iM;rw [iQ]
theorem Hi (l:List Int)(v:Int):∀ n,-1<=iM l n v/\iM l n v<n
 | 0=>by simp [iM]
 | n+1=>by
  have:=Hi l v n
  rw [wK];split<;>omega
theorem PL (l:List Int)(v:Nat):zA l (v+1)=zA l v++[iM l l.length v]:=by simp [zA,bK]
theorem rH (l:List Int)(v:Nat):(zA l v).length=v:=by simp [zA]
theorem pA (l:List Int){n i:Nat}(h:i<n):(zA l n)[i]?=some (iM l l.length i):=by simp [zA,h]
theorem Rr (a:List Int)(i:Nat):Db a (i+1)=Db a i+if iM a a.length i<0 then 1 else 0:=by
 unfold Db;rw [bK,gA,aJ]
 congr 1
 simp only [List.filter_cons,List.filter_nil]
 split<;>simp_all
theorem Rq (into:List Int):Db into 0=0:=rfl
theorem Ut (a:List Int)(i:Nat):Db a i<=i:=by
 unfold Db;exact c9 (iB _ _) aF
theorem PC {t:Types}{p g:Graph}{m:Part}{a:Bool}(h:checkE t p g m a=0):checkE t p g m false=0:=by
 unfold checkE at h ⊢
 split at h
 .exact absurd h (by assumption)
 .rename_i h1
  rw [if_neg h1]
  unfold matchE at h ⊢
  split at h
  .cases h
  .rename_i h2
   rw [if_neg h2]
   split at h
   .exact absurd h (by assumption)
   .rename_i h3
    rw [if_neg h3]
    split at h
    .exact absurd h (by assumption)
    .rename_i h4
     rw [if_neg h4,if_neg aF]
theorem QU {t:Types}{p:Pattern}{h:Host}{m:Part}(a:(eL t p h m).2=0):PatOk t p/\HostOk t h/\checkE t p.graph h.graph m false=0/\eL t p h m=fB p h m []:=by
 unfold eL at a ⊢
 split at a
 .exact absurd a (by assumption)
 .rename_i h1
  split at a
  .exact absurd a (by assumption)
  .rename_i h2
   split at a
   .exact absurd a (by assumption)
   .rename_i h3
    rw [iD] at h1 h2 h3
    rw [if_neg aD,if_neg aD,if_neg aD]
    exact ⟨Mr (.inr h1),hostOk h2,h3,rfl⟩
theorem vW (l:List Int)(i:Nat):bF l (i+1)=bF l i++if mem l i=true then [] else [(i:Int)]:=by
 unfold bF;rw [bK,gA,List.map_append]
 congr 1
 simp only [List.filter_cons,List.filter_nil]
 split<;>simp_all
def RO (t:Types)(r:Rule)(x:Host)(i:Nat):Host :=
 ⟨⟨x.graph.nodes++(bF r.into.nodes i).map (gN r.right.graph),x.graph.edges⟩,x.values++(bF r.into.nodes i).map (λk=>oA t (gN r.right.graph k))⟩
def Vt (t:Types)(r:Rule)(c:Part)(x:Host)(i:Nat):Host:=⟨⟨x.graph.nodes,x.graph.edges++(bF r.into.edges i).map (λk=>freshE c (r.right.graph.edges[k.toNat]?.getD b4))⟩,x.values⟩
theorem ACalls.wf {P:Program}{f:FuncId}{args:List D}{H:AHeap}{Q:D->AHeap->Prop}(he:VE P f)(h:(∀ j,H.al j->j<H.next)->(∀ j,¬ H.al j->H.get j=none)->ACalls P f args H Q):ACalls P f args H Q :=
 ⟨he,λM0 σ w vals hR ha=>(h hR.nxt λj hj=>(hR.top j hj).2).2 M0 σ w vals hR ha⟩
end Go.Abs
end
