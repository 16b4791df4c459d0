/- What matches, extensions and conditions come to (plain funct -/
import Derived.Test.YtjfaalokjnmdoaaGreatZaM
import Derived.Test.YtjfaalokjnmdoaaGreatZaF
import Derived.Test.YtjfaalokjnmdoaaGreatZaA
import Derived.Test.YtjfaalokjnmdoaaGreatZaG
set_option linter.unusedVariables false
set_option linter.unusedSimpArgs false
section
set_option maxRecDepth 100000
set_option maxHeartbeats 4000000
open Go Go.Proofs
namespace Go.Abs
structure Mat where
 m:Part
 vars:List Int
def Mat.c (x:Mat):List D:=[dLI x.m.nodes,dLI x.m.edges,dLI x.vars]
def Mat.d (x:Mat):D:=.agg x.c
@[go_sem] theorem Mat.cl (x:Mat):D.clL x.c=true:=by simp [Mat.c,D.clL,mP]
@[go_sem] theorem T6 (l:List Mat):D.clLL (l.map Mat.c)=true:=cJ _ Mat.cl l
def Ci (l:List Part):List Part × Int:=if 5000<(l.take 5001).length then ([],3) else (l.take 5001,0)
def jG (t:Types)(p g:Graph)(inj:Bool):List Part × Int:=if dY t p g≠0 then ([],dY t p g) else Ci (tV ⟨t,p,g,List.replicate p.nodes.length (-1),List.replicate p.edges.length (-1),inj⟩)
def zP (n:Int)(l:List Int)(i:Nat):Int:=if l[i]?.getD 0 < -1∨n≤l[i]?.getD 0 then 6 else 0
def k9 (l:List Int)(n:Int):Int:=bI (zP n l) 0 l.length
def lC (t:Types)(p g:Graph)(q:Part)(inj:Bool):List Part × Int :=
 if dY t p g≠0 then ([],dY t p g)
 else if q.nodes.length≠p.nodes.length∨q.edges.length≠p.edges.length then ([],20)
 else if k9 q.nodes g.nodes.length≠0 then ([],k9 q.nodes g.nodes.length)
 else if k9 q.edges g.edges.length≠0 then ([],k9 q.edges g.edges.length)
 else Ci (tV ⟨t,p,g,q.nodes,q.edges,inj⟩)
def vG (n:Nat)(at_ im:List Int):List Int:=(List.range at_.length).foldl (fun acc i=>acc.set (at_[i]?.getD 0).toNat (im[i]?.getD 0)) (List.replicate n (-1))
def mI (c:Part)(q:Pattern)(m:Part):Part:=⟨vG q.graph.nodes.length c.nodes m.nodes,vG q.graph.edges.length c.edges m.edges⟩
def pM (q:Pattern)(h:Host)(vars:List Int)(l:List Part):List Mat:=l.filterMap fun x=>if (dH q h x vars).2=0 then some ⟨x,(dH q h x vars).1⟩ else none
def uP (t:Types)(c:Part)(q:Pattern)(h:Host)(m:Mat)(inj:Bool):List Mat × Int :=
 if (lC t q.graph h.graph (mI c q m.m) inj).2≠0 then ([],(lC t q.graph h.graph (mI c q m.m) inj).2)
 else (pM q h m.vars (lC t q.graph h.graph (mI c q m.m) inj).1,0)
/-! ### conditions: the first witness -/
inductive Prf where
 | mk (choice:Int) (m:Mat) (kids:List Prf)
mutual
def Prf.c:Prf→List D
 | .mk ch m l=>[dI ch,dLI m.m.nodes,dLI m.m.edges,dLI m.vars,.list (Prf.cs l)]
def Prf.cs:List Prf→List (List D)
 | []=>[]
 | p :: l=>p.c :: Prf.cs l
end
theorem Prf.cs_eq (l:List Prf):Prf.cs l=l.map Prf.c:=by
 induction l with
 | nil=>simp [Prf.cs]
 | cons a l ih=>simp [Prf.cs,ih]
theorem Prf.c_eq (ch:Int)(m:Mat)(l:List Prf):(Prf.mk ch m l).c=[dI ch,dLI m.m.nodes,dLI m.m.edges,dLI m.vars,.list (l.map Prf.c)]:=by simp [Prf.c,Prf.cs_eq]
mutual
theorem Prf.cl:∀ x:Prf,D.clL x.c=true
 | .mk ch m l=>by
  have:=Prf.cls l
  simp [Prf.c,D.clL,D.cl,dI,mP,this]
theorem Prf.cls:∀ l:List Prf,D.clLL (Prf.cs l)=true
 | []=>by simp [Prf.cs,D.clLL]
 | c :: l=>by simp [Prf.cs,D.clLL,Prf.cl c,Prf.cls l]
end
attribute [go_sem] Prf.cl
@[go_sem] theorem TP (l:List Prf):D.clLL (l.map Prf.c)=true:=by rw [← Prf.cs_eq];exact Prf.cls l
mutual
theorem Q3:∀ x:Prf,i4 x.c=x.c
 | .mk ch m l=>by
  have:=HC l
  simp [Prf.c,i4,lK,dI,dLI,eH,this]
theorem HC:∀ l:List Prf,eE (Prf.cs l)=Prf.cs l
 | []=>by simp [Prf.cs,eE]
 | c :: l=>by simp [Prf.cs,eE,Q3 c,HC l]
end
theorem eQ (l:List Prf):eE (l.map Prf.c)=l.map Prf.c:=by rw [← Prf.cs_eq];exact HC l
def gX:Mat:=⟨⟨[],[]⟩,[]⟩
def iG:Prf:=.mk 0 gX []
def O3 (e:Int):Int:=if e=0 then 10 else if e=10 then 0 else e
def Hw:List (Prf × Int)→List Prf→Prf × Int
 | [],acc=>(.mk 0 gX acc,0)
 | (p,e) :: l,acc=>if e≠0 then (iG,e) else Hw l (acc++[p])
def O0:List (Prf × Int)→Nat→Prf × Int
 | [],_=>(iG,10)
 | (p,e) :: l,i=>if e≠10 then (.mk i gX [p],e) else O0 l (i+1)
def Ph:List (Mat × (Prf × Int))→Prf × Int
 | []=>(iG,10)
 | (m,(p,e)) :: l=>if e≠10 then (.mk 0 m [p],e) else Ph l
def Jh (fs:List (Mat→Prf × Int)):Mat→Prf × Int:=fs.head?.getD fun _=>(iG,0)
mutual
def l8 (t:Types)(h:Host)(inj:Bool):Cond→Mat→Prf × Int
 | .mk k l mp q=>fun m =>
  if k=2 then (iG,O3 (Jh (Bh t h inj l) m).2)
  else if k=3 then Hw ((Bh t h inj l).map fun f=>f m) []
  else if k=4 then O0 ((Bh t h inj l).map fun f=>f m) 0
  else if k=5 then (if (uP t mp q h m inj).2≠0 then (iG,(uP t mp q h m inj).2) else Ph ((uP t mp q h m inj).1.map fun x=>(x,Jh (Bh t h inj l) x)))
  else (iG,0)
def Bh (t:Types)(h:Host)(inj:Bool):List Cond→List (Mat→Prf × Int)
 | []=>[]
 | c :: l=>l8 t h inj c :: Bh t h inj l
end
theorem Nt (t:Types)(h:Host)(inj:Bool)(l:List Cond):Bh t h inj l=l.map (l8 t h inj):=by
 induction l with
 | nil=>simp [Bh]
 | cons a l ih=>simp [Bh,ih]
theorem Gx (t:Types)(h:Host)(inj:Bool)(c:Cond)(m:Mat):l8 t h inj c m =
  if c.kind=2 then (iG,O3 (Jh (c.kids.map (l8 t h inj)) m).2)
  else if c.kind=3 then Hw (c.kids.map fun k=>l8 t h inj k m) []
  else if c.kind=4 then O0 (c.kids.map fun k=>l8 t h inj k m) 0
  else if c.kind=5 then (if (uP t c.map c.pattern h m inj).2≠0 then (iG,(uP t c.map c.pattern h m inj).2) else Ph ((uP t c.map c.pattern h m inj).1.map fun x=>(x,Jh (c.kids.map (l8 t h inj)) x)))
  else (iG,0):=by
 cases c;simp only [l8,Nt,Cond.kind,Cond.kids,Cond.map,Cond.pattern,List.map_map];rfl
def Nu (t:Types)(h:Host)(inj:Bool)(c:Cond)(m:Mat):Int:=(l8 t h inj c m).2
def lI (t:Types)(h:Host)(inj:Bool)(c:Cond)(m:Mat):Bool × Int:=if Nu t h inj c m=10 then (false,0) else (decide (Nu t h inj c m=0),Nu t h inj c m)
/-! ### a step -/
def dA (t:Types)(p:Pattern)(h:Host)(m:Part):List Int × Int :=
 if bT t p≠0 then ([],bT t p) else if fM t h≠0 then ([],fM t h) else if eG t p.graph h.graph m false≠0 then ([],eG t p.graph h.graph m false) else dH p h m []
def dG (t:Types)(p:Pattern)(h:Host)(inj:Bool):List Mat × Int :=
 if bT t p≠0 then ([],bT t p) else if fM t h≠0 then ([],fM t h)
 else if (jG t p.graph h.graph inj).2≠0 then ([],(jG t p.graph h.graph inj).2) else (pM p h [] (jG t p.graph h.graph inj).1,0)
def oB (p g:Graph)(m:Part):Graph:=⟨m.nodes.map (gN g),p.edges⟩
def qJ (t:Types)(r:Rule)(h:Host)(m:Mat):Int :=
 if eG t r.left.graph h.graph m.m r.inj≠0 then 1
 else if (dA t r.left h m.m).2≠0 then (dA t r.left h m.m).2
 else if (dA t r.left h m.m).1≠m.vars then 11
 else oU (oB r.left.graph h.graph m.m) h.graph r.keep m.m
def j6 (t:Types)(r:Rule)(h:Host)(m:Mat):Int :=
 if qJ t r h m≠0 then qJ t r h m
 else if (lI t h r.inj r.cond m).2≠0 then (lI t h r.inj r.cond m).2
 else if (lI t h r.inj r.cond m).1=false then 16 else 0
def b4 (r:Rule)(h:Host)(m:Mat):Part:=p5 (oB r.left.graph h.graph m.m) h.graph r.keep m.m
def f6 (l:List Int)(n:Nat)(v:Int):Int:=(List.range n).foldl (fun acc (k:Nat)=>if l[k]?.getD (-1)=v then (k:Int) else acc) (-1)
def jF (l:List Int)(n:Nat):List Int:=(List.range n).map fun (v:Nat)=>f6 l l.length v
def yA (into:List Int)(i:Nat):Nat:=((List.range i).filter fun (j:Nat)=>decide (f6 into into.length j<0)).length
def Gg (keep into at_:List Int)(remain:Nat)(i:Nat):Int:=if 0≤f6 into into.length i then at_[(keep[(f6 into into.length i).toNat]?.getD 0).toNat]?.getD 0 else ((remain+yA into i:Nat):Int)
def Cl (keep into at_:List Int)(right remain:Nat):List Int:=(List.range right).map (Gg keep into at_ remain)
def pN (d:List Int)(n:Nat):List Int:=jF d n
def lN (r:Rule)(h:Host)(m:Mat):Part:=⟨pN (b4 r h m).nodes h.graph.nodes.length,pN (b4 r h m).edges h.graph.edges.length⟩
def mX (l tr:List Int):List Int:=l.map fun k=>tr[k.toNat]?.getD 0
def oH (r:Rule)(h:Host)(m:Mat):Part :=
 ⟨Cl r.keep.nodes r.into.nodes (mX m.m.nodes (lN r h m).nodes) r.right.graph.nodes.length (b4 r h m).nodes.length,Cl r.keep.edges r.into.edges (mX m.m.edges (lN r h m).edges) r.right.graph.edges.length (b4 r h m).edges.length⟩
def lS (t:Types)(k:Int):List Int:=(bK t k).map fun a=>a.low
def freshE (c:Part)(y:Edge):Edge:=⟨y.type,c.nodes[y.from_.toNat]?.getD 0,c.nodes[y.to_.toNat]?.getD 0⟩
def iH (t:Types)(r:Rule)(c:Part)(x:Host):Host :=
 ⟨⟨x.graph.nodes++r.freshN.map (gN r.right.graph),x.graph.edges++r.freshE.map (fun k=>freshE c (r.right.graph.edges[k.toNat]?.getD bQ))⟩,x.values++r.freshN.map (fun k=>lS t (gN r.right.graph k))⟩
def cK (t:Types)(r:Rule)(h:Host)(m:Mat):Host:=iH t r (oH r h m) ⟨b7 h.graph (b4 r h m),(b4 r h m).nodes.map fun k=>h.values[k.toNat]?.getD []⟩
def eI (c:Part)(s:Slot):Nat:=(c.nodes[s.node.toNat]?.getD 0).toNat
def A3 (c:Part)(vs:List Int)(a b:Slot):Bool:=decide (eI c a=eI c b)&&(decide (a.attr=b.attr)&&decide (cC a.term vs≠cC b.term vs))
def tR (c:Part)(vs:List Int)(l:List Slot):Bool:=(List.range l.length).any fun i=>(List.range i).any fun k=>match l[k]?,l[i]? with|some a,some b=>A3 c vs a b|_,_=>false
def vH (t:Types)(g:Graph)(c:Part)(vs:List Int)(s:Slot):Bool :=
 let a:=(bK t (g.nodes[eI c s]?.getD 0))[s.attr.toNat]?.getD mA
 decide (cC s.term vs<a.low)||decide (a.high<cC s.term vs)
def sB (t:Types)(g:Graph)(c:Part)(vs:List Int)(l:List Slot):Int:=if tR c vs l=true then 11 else if l.any (vH t g c vs)=true then 6 else 0
def rO (c:Part)(vs:List Int)(l:List Slot)(vals:List (List Int)):List (List Int):=l.foldl (fun vals s=>vals.set (eI c s) ((vals[eI c s]?.getD []).set s.attr.toNat (cC s.term vs))) vals
def v8 (t:Types)(r:Rule)(h:Host)(m:Mat):Host:=⟨(cK t r h m).graph,rO (oH r h m) m.vars r.right.slots (cK t r h m).values⟩
def f5 (t:Types)(r:Rule)(h:Host)(m:Mat):Int :=
 if j6 t r h m≠0 then j6 t r h m
 else if sB t (cK t r h m).graph (oH r h m) m.vars r.right.slots≠0 then sB t (cK t r h m).graph (oH r h m) m.vars r.right.slots
 else if 40<(cK t r h m).graph.nodes.length∨80<(cK t r h m).graph.edges.length then 3 else 0
structure Stp26 where
 rule:Rule
 mat:Mat
 before:Host
 after:Host
 track:Part
 comatch:Part
def Stp26.c (s:Stp26):List D:=s.rule.c++s.mat.c++s.before.c++s.after.c++[dLI s.track.nodes,dLI s.track.edges,dLI s.comatch.nodes,dLI s.comatch.edges]
def eW (t:Types)(r:Rule)(h:Host):Int:=if ruleF t r≠0 then ruleF t r else fM t h
def sZ (t:Types)(r:Rule)(h:Host)(m:Mat):Int:=if eW t r h≠0 then eW t r h else f5 t r h m
def AE (t:Types)(r:Rule)(h:Host)(m:Mat):Stp26:=⟨r,m,h,v8 t r h m,lN r h m,oH r h m⟩
def qM (t:Types)(r:Rule)(h:Host):List Mat × Int :=
 if eW t r h≠0 then ([],eW t r h) else if (dG t r.left h r.inj).2≠0 then ([],(dG t r.left h r.inj).2) else ((dG t r.left h r.inj).1.filter fun m=>decide (f5 t r h m=0),0)
theorem pI {t:Types}(hv:(cA t).2=0){a:Int}(h0:0≤a)(h1:a<t.nodes.length):bK t a=t.attrs a.toNat:=by
 unfold bK;rw [if_pos];simp [given2F,hv,insideF,h0,h1]
theorem p8 {t:Types}(hv:(cA t).2=0)(a:Int):(bK t a).length≤8:=by
 by_cases h:0≤a∧a<t.nodes.length
 ·rw [pI hv h.1 h.2];exact (lG hv).attrs _ (by omega)
 ·unfold bK;rw [if_neg (by simp [given2F,hv,insideF];omega)];simp
theorem Al {t:Types}(hv:(cA t).2=0)(a:Int):∀ x∈bK t a,SmallA x:=by
 by_cases h:0≤a∧a<t.nodes.length
 ·rw [pI hv h.1 h.2];exact JJ hv _ (by omega)
 ·unfold bK;rw [if_neg (by simp [given2F,hv,insideF];omega)];simp
structure HostOk (t:Types) (h:Host):Prop where
 vf:(cA t).2=0
 gg:graphF h.graph=0
 vl:h.values.length=h.graph.nodes.length
 nd:∀ (i:Nat) (hi:i<h.graph.nodes.length) (hv:i<h.values.length),fW t h.graph.nodes[i] h.values[i]=0
 ed:∀ x∈h.graph.edges,x.type<t.edges.length∧mN t x.type (gN h.graph x.from_) (gN h.graph x.to_)=true
theorem vO {t:Types}{h:Host}(h0:fM t h=0):HostOk t h:=by
 unfold fM lY at h0
 split at h0
 ·rename_i h1;exact absurd h0 h1
 ·rename_i h1
  split at h0
  ·rename_i h2;exact absurd h0 h2
  ·rename_i h2
   split at h0
   ·cases h0
   ·rename_i h3
    split at h0
    ·rename_i h4;exact absurd h0 h4
    ·rename_i h4
     rw [iL] at h4
     rw [rD] at h4 h0
     refine ⟨by omega,by omega,by omega,fun i hi hv=>?_,fun x hx=>?_⟩
     ·have:=dP _ _ h4 i (c8 _) (by omega)
      simpa only [DN,aA hi,aA hv,aD] using this
     ·obtain ⟨k,hk,rfl⟩:=aN hx
      have:=dP _ _ h0 k (c8 _) (by omega)
      simp only [M3,aA hk,aD] at this
      split at this
      ·cases this
      ·split at this
       ·exact ⟨by omega,by assumption⟩
       ·cases this
theorem sM {t:Types}{k:Int}{vs:List Int}(h:fW t k vs=0):k<t.nodes.length∧uI t k.toNat=false∧vs.length=(bK t k).length ∧
  ∀ (j:Nat) (hj:j<vs.length) (ha:j<(bK t k).length),(bK t k)[j].low≤vs[j]∧vs[j]≤(bK t k)[j].high:=by
 unfold fW at h
 split at h
 ·cases h
 ·rename_i h1
  split at h
  ·cases h
  ·rename_i h2
   split at h
   ·cases h
   ·rename_i h3
    refine ⟨by omega,by simpa using h2,by omega,fun j hj ha=>?_⟩
    have:=dP _ _ h j (c8 _) (by omega)
    simp only [zU,aA hj,aA ha,aD] at this
    split at this
    ·cases this
    ·omega
theorem HostOk.row {t:Types}{h:Host}(ho:HostOk t h):∀ v∈h.values,v.length≤8∧∀ x∈v,-1000000≤x∧x≤1000000:=fun v hv=>by
 obtain ⟨i,hi,rfl⟩:=aN hv
 have hn:=ho.vl
 obtain ⟨h1,h2,h3,h4⟩:=sM (ho.nd i (by omega) hi)
 have hl:=p8 ho.vf (h.graph.nodes[i]'(by omega))
 refine ⟨by omega,fun x hx=>?_⟩
 obtain ⟨j,hj,rfl⟩:=aN hx
 have:=h4 j hj (by omega)
 have hs:=Al ho.vf _ _ (aC (show j<(bK t (h.graph.nodes[i]'(by omega))).length by omega))
 have:=hs.lo;have:=hs.hi
 omega
/-! ### a host in owned slices -/
def jA (qs:List Nat)(vs:List (List Int)):List (List D):=List.zipWith (fun q (v:List Int)=>[D.own q v.length]) qs vs
theorem g8 {qs:List Nat}{vs:List (List Int)}(h:qs.length=vs.length):(jA qs vs).length=vs.length:=by simp [jA,h]
theorem tF {qs:List Nat}{vs:List (List Int)}(h:qs.length=vs.length)(q:Nat)(v:List Int):jA (qs++[q]) (vs++[v])=jA qs vs++[[.own q v.length]]:=by
 simp [jA,List.zipWith_append h]
theorem pC {qs:List Nat}{vs:List (List Int)}{i q:Nat}{v:List Int}(h1:qs[i]?=some q)(h2:vs[i]?=some v):(jA qs vs)[i]?=some [.own q v.length]:=by
 simp [jA,List.getElem?_zipWith,h1,h2]
theorem Mm {qs:List Nat}{vs:List (List Int)}{i:Nat}{v v':List Int}(h2:vs[i]?=some v)(hl:v'.length=v.length):jA qs (vs.set i v')=jA qs vs:=by
 apply fH
 intro j
 simp only [jA,List.getElem?_zipWith,dE]
 by_cases h:i=j
 ·subst h
  have hi:=(aL.1 h2).1
  rw [if_pos rfl,if_pos hi,h2]
  cases qs[i]?<;>simp [hl]
 ·rw [if_neg h]
structure HH (H:AHeap) (lo a b V:Nat) (qs:List Nat) (h:Host):Prop where
 ga:H.get a=some ⟨3,1,h.graph.nodes.map cI,false⟩
 gb:H.get b=some ⟨101,3,h.graph.edges.map Edge.c,false⟩
 gV:H.get V=some ⟨34,1,jA qs h.values,false⟩
 len:qs.length=h.values.length
 gq:∀ (i q:Nat) (v:List Int),qs[i]?=some q→h.values[i]?=some v→H.get q=some ⟨3,1,v.map cI,false⟩
 nd:(a :: b :: V :: qs).Nodup
 rng:∀ q∈a :: b :: V :: qs,lo≤q∧q<H.next
section
variable {H H':AHeap} {lo a b V:Nat} {qs:List Nat} {x:Host}
theorem HH.a_in (h:HH H lo a b V qs x):a∈a :: b :: V :: qs:=by simp
theorem HH.b_in (h:HH H lo a b V qs x):b∈a :: b :: V :: qs:=by simp
theorem HH.V_in (h:HH H lo a b V qs x):V∈a :: b :: V :: qs:=by simp
theorem HH.q_in (h:HH H lo a b V qs x){q:Nat}(hq:q∈qs):q∈a :: b :: V :: qs:=by simp [hq]
theorem HH.ab (h:HH H lo a b V qs x):a≠b∧a≠V∧b≠V:=by
 have:=h.nd;simp only [fO,aS,not_or] at this
 exact ⟨this.1.1,this.1.2.1,this.2.1.1⟩
theorem HH.qn (h:HH H lo a b V qs x){q:Nat}(hq:q∈qs):q≠a∧q≠b∧q≠V:=by
 have:=h.nd;simp only [fO,aS,not_or] at this
 exact ⟨fun e=>this.1.2.2 (e ▸ hq),fun e=>this.2.1.2 (e ▸ hq),fun e=>this.2.2.1 (e ▸ hq)⟩
theorem HH.lower (h:HH H lo a b V qs x){lo':Nat}(hl:lo'≤lo):HH H lo' a b V qs x:=⟨h.ga,h.gb,h.gV,h.len,h.gq,h.nd,fun q hq=>⟨dM hl (h.rng q hq).1,(h.rng q hq).2⟩⟩
theorem HH.same (h:HH H lo a b V qs x)(hn:H.next≤H'.next)(hf:∀ j∈a :: b :: V :: qs,H'.get j=H.get j):HH H' lo a b V qs x where
 ga:=(hf a h.a_in).trans h.ga
 gb:=(hf b h.b_in).trans h.gb
 gV:=(hf V h.V_in).trans h.gV
 len:=h.len
 gq i q v h1 h2:=(hf q (h.q_in (aH h1))).trans (h.gq i q v h1 h2)
 nd:=h.nd
 rng q hq:=⟨(h.rng q hq).1,bP (h.rng q hq).2 hn⟩
theorem HH.nodes (h:HH H lo a b V qs x)(hn:H.next≤H'.next){ns:List Int}(ga:H'.get a=some ⟨3,1,ns.map cI,false⟩)(hf:∀ j∈b :: V :: qs,H'.get j=H.get j):HH H' lo a b V qs ⟨⟨ns,x.graph.edges⟩,x.values⟩ where
 ga:=ga
 gb:=(hf b (by simp)).trans h.gb
 gV:=(hf V (by simp)).trans h.gV
 len:=h.len
 gq i q v h1 h2:=(hf q (by simp [aH h1])).trans (h.gq i q v h1 h2)
 nd:=h.nd
 rng q hq:=⟨(h.rng q hq).1,bP (h.rng q hq).2 hn⟩
theorem HH.edges (h:HH H lo a b V qs x)(hn:H.next≤H'.next){es:List Edge}(gb:H'.get b=some ⟨101,3,es.map Edge.c,false⟩)(hf:∀ j∈a :: V :: qs,H'.get j=H.get j):HH H' lo a b V qs ⟨⟨x.graph.nodes,es⟩,x.values⟩ where
 ga:=(hf a (by simp)).trans h.ga
 gb:=gb
 gV:=(hf V (by simp)).trans h.gV
 len:=h.len
 gq i q v h1 h2:=(hf q (by simp [aH h1])).trans (h.gq i q v h1 h2)
 nd:=h.nd
 rng q hq:=⟨(h.rng q hq).1,bP (h.rng q hq).2 hn⟩
theorem HH.rowAdd (h:HH H lo a b V qs x)(hn:H.next≤H'.next){q:Nat}{v:List Int}(hlo:lo≤q)(hq:∀ j∈a :: b :: V :: qs,j≠q)(hq2:q<H'.next)(gq:H'.get q=some ⟨3,1,v.map cI,false⟩)
  (gV:H'.get V=some ⟨34,1,jA qs x.values++[[.own q v.length]],false⟩) (hf:∀ j∈a :: b :: qs,H'.get j=H.get j):HH H' lo a b V (qs++[q]) ⟨x.graph,x.values++[v]⟩ where
 ga:=(hf a (by simp)).trans h.ga
 gb:=(hf b (by simp)).trans h.gb
 gV:=by rw [tF h.len];exact gV
 len:=by simp [h.len]
 gq i q' v' h1 h2:=by
  by_cases hi:i<qs.length
  ·rw [aR hi] at h1
   rw [aR (by rw [← h.len];exact hi)] at h2
   exact (hf q' (by simp [aH h1])).trans (h.gq i q' v' h1 h2)
  ·have h1':=(aL.1 h1).1
   have:i=qs.length:=by simp at h1';omega
   subst this
   simp at h1
   rw [h.len] at h2;simp at h2
   subst h1 h2;exact gq
 nd:=by
  have:=h.nd
  have e:a :: b :: V :: (qs++[q])=(a :: b :: V :: qs)++[q]:=rfl
  rw [e,oJ]
  exact ⟨this,by simp,fun y hy z hz=>by rw [bL] at hz;subst hz;exact hq y hy⟩
 rng j hj:=by
  have e:a :: b :: V :: (qs++[q])=(a :: b :: V :: qs)++[q]:=rfl
  rw [e,aW,bL] at hj
  rcases hj with hj|rfl
  ·exact ⟨(h.rng j hj).1,bP (h.rng j hj).2 hn⟩
  ·exact ⟨hlo,hq2⟩
theorem HH.rowSet (h:HH H lo a b V qs x)(hn:H.next≤H'.next){i q:Nat}{v v':List Int}(h1:qs[i]?=some q)(h2:x.values[i]?=some v)(hl:v'.length=v.length)(gq:H'.get q=some ⟨3,1,v'.map cI,false⟩)
  (hf:∀ j∈a :: b :: V :: qs,j≠q→H'.get j=H.get j):HH H' lo a b V qs ⟨x.graph,x.values.set i v'⟩ where
 ga:=(hf a h.a_in (Ne.symm (h.qn (aH h1)).1)).trans h.ga
 gb:=(hf b h.b_in (Ne.symm (h.qn (aH h1)).2.1)).trans h.gb
 gV:=by rw [Mm h2 hl];exact (hf V h.V_in (Ne.symm (h.qn (aH h1)).2.2)).trans h.gV
 len:=by simp [h.len]
 gq j q' w k1 k2:=by
  have hqn:qs.Nodup:=by have:=h.nd;simp only [fO] at this;exact this.2.2.2
  rw [dE] at k2
  by_cases hj:i=j
  ·subst hj
   rw [h1] at k1;cases k1
   rw [if_pos rfl] at k2
   split at k2
   ·cases k2;exact gq
   ·cases k2
  ·rw [if_neg hj] at k2
   refine (hf q' (h.q_in (aH k1)) fun e=>hj ?_).trans (h.gq j q' w k1 k2)
   subst e
   obtain ⟨a1,a2⟩:=aL.1 h1
   obtain ⟨b1,b2⟩:=aL.1 k1
   exact (qG hqn).1 (a2.trans b2.symm)
 nd:=h.nd
 rng q hq:=⟨(h.rng q hq).1,bP (h.rng q hq).2 hn⟩
theorem HH.read (h:HH H lo a b V qs x):(jA qs x.values).map (·.map (eB H))=x.values.map cL:=by
 apply fH
 intro i
 simp only [aQ]
 by_cases hi:i<x.values.length
 ·have hq:i<qs.length:=by rw [h.len];exact hi
  have e1:=aA hi
  have e2:=aA hq
  rw [pC e2 e1,e1]
  have:=h.gq i _ _ e2 e1
  simp [eB,this,cL,dLI]
 ·rw [bM (by rw [g8 h.len];omega),bM (by omega)];rfl
theorem HH.deep (h:HH H lo a b V qs x):iM H (.agg [.own a x.graph.nodes.length,.own b x.graph.edges.length,.own V x.values.length])=x.d:=by
 have h1:∀ l:List (List D),(∀ c∈l,∀ y∈c,∀ i n,y≠D.own i n∧∀ p q r,y≠D.win i p q r)→l.map (·.map (eB H))=l:=fun l hl=>by
  conv=>rhs;rw [← List.map_id l]
  refine bS fun c hc=>?_
  conv=>rhs;rw [id,← List.map_id c]
  refine bS fun y hy=>?_
  cases y<;>first|rfl|(exfalso;first|exact (hl c hc _ hy _ _).1 rfl|exact (hl c hc _ hy _ 0).2 _ _ _ rfl)
 simp only [iM,mW,fT,g5,h.ga,h.gb,h.gV,bW,g8 h.len,if_true,h.read]
 rw [h1 (x.graph.nodes.map cI) (fun c hc y hy i n=>by
  rw [bG] at hc;obtain ⟨z,_,rfl⟩:=hc
  simp [cI] at hy;subst hy;simp),h1 (x.graph.edges.map Edge.c) (fun c hc y hy i n=>by
  rw [bG] at hc;obtain ⟨z,_,rfl⟩:=hc
  simp [Edge.c,dI] at hy;rcases hy with rfl|rfl|rfl<;>simp)]
 rfl
theorem Jf {l:List (List D)}(hl:∀ c∈l,∀ y∈c,jB y=[]):l.flatten.flatMap jB=[]:=by
 rw [uS]
 intro i hi
 rw [bR] at hi
 obtain ⟨y,hy,hi⟩:=hi
 rw [gZ] at hy
 obtain ⟨c,hc,hy⟩:=hy
 rw [hl c hc y hy] at hi;cases hi
theorem HH.ids (h:HH H lo a b V qs x)(n m k:Nat)(e:Int):∀ i∈xN H (.tup [.agg [.own a n,.own b m,.own V k],dI e]),i∈a :: b :: V :: qs:=by
 intro i hi
 have e1:(x.graph.nodes.map cI).flatten.flatMap jB=[]:=Jf fun c hc y hy=>by
  rw [bG] at hc;obtain ⟨z,_,rfl⟩:=hc
  simp [cI] at hy;subst hy;rfl
 have e2:(x.graph.edges.map Edge.c).flatten.flatMap jB=[]:=Jf fun c hc y hy=>by
  rw [bG] at hc;obtain ⟨z,_,rfl⟩:=hc
  simp [Edge.c,dI] at hy;rcases hy with rfl|rfl|rfl<;>rfl
 simp only [xN,DL,He,uL,Fg,h.ga,h.gb,h.gV,e1,e2,dI,jB,c5,aW,aS,eO,or_false] at hi
 rcases hi with rfl|rfl|rfl|hi
 ·exact h.a_in
 ·exact h.b_in
 ·exact h.V_in
 ·rw [bR] at hi
  obtain ⟨y,hy,hi⟩:=hi
  rw [gZ] at hy
  obtain ⟨c,hc,hy⟩:=hy
  simp only [jA] at hc
  obtain ⟨j,hj,rfl⟩:=aN hc
  rw [List.getElem_zipWith,bL] at hy
  subst hy
  simp only [jB,bL] at hi
  subst hi
  exact h.q_in (aC _)
end
theorem JQ (h:Host):D.clL h.c=true:=by simp [Host.c,D.clL,D.cl,mP,sQ];exact cJ _ (fun v=>by simp [cL,D.clL,mP]) _
@[go_sem] theorem Host.cld (h:Host):h.d.cl=true:=by simp [Host.d,D.cl,JQ]
/-! ### Extract -/
def QL (t:Types)(h:Host)(p:Part):Int:=if fM t h≠0 then fM t h else subF h.graph p
def OI (t:Types)(h:Host)(p:Part):Host:=if QL t h p=0 then ⟨b7 h.graph p,p.nodes.map fun k=>h.values[k.toNat]?.getD []⟩ else ⟨⟨[],[]⟩,[]⟩
theorem EO (t:Types)(ht:t.ok)(h:Host)(p:Part)(hl:p.nodes.length≤1000000)(hle:p.edges.length≤1000000):Pure Tryz.prog 171 [t.d,h.d,p.d] (.tup [(OI t h p).d,dI (QL t h p)]):=by
 refine Tz.pK ⟨fun t=>t==6||t==10||t==11||t==13||t==48,fun r=>match r with|11=>[(0,2),(1,2),(2,3),(2,4),(2,5),(2,6),(2,8),(2,9),(2,10),(2,11),(0,12),(1,12),(0,13),(1,13)]|_=>[]⟩ Tryz.func171 rfl (fun Q hQ=>?_)
 have Y:=wa @Host.d.eq_1 @Host.c.eq_1
 refine wv (h:=aB (vB t ht h) wl ?_)
 refine cT (fun h2=>?_) fun h2=>?_
 ·have hE:QL t h p=(lY t h).2:=by unfold QL;rw [if_pos (by unfold fM;omega)];rfl
  have hX:OI t h p=⟨⟨[],[]⟩,[]⟩:=by unfold OI;rw [if_neg (by omega)]
  exact wv (h:=hQ _ _ (by simp [go_sem,hE,hX,dLI]))
 ·have h0:fM t h=0:=by unfold fM;omega
  have hE:QL t h p=subF h.graph p:=by unfold QL;rw [if_neg (by omega)]
  have ho:=vO h0
  have hrow:=ho.row
  have hgl:=bJ ho.gg
  have hvl:=ho.vl
  refine wv (h:=aB (xG h.graph p hl hle) wl ?_)
  refine cT (fun h5=>?_) fun h5=>?_
  ·have hX:OI t h p=⟨⟨[],[]⟩,[]⟩:=by unfold OI;rw [if_neg (by omega)]
   exact wv (h:=hQ _ _ (by simp [go_sem,hE,hX,dLI]))
  ·have h5':subF h.graph p=0:=by omega
   obtain ⟨hs1,hs2,hs3,hs4⟩:=wD h5'
   have hP:xK h.graph p=p:=by unfold xK;rw [if_pos h5']
   have hX:OI t h p=⟨b7 h.graph p,p.nodes.map fun k=>h.values[k.toNat]?.getD []⟩:=by unfold OI;rw [if_pos (by omega)]
   have Y:=wa Y (wa hP (wa @Part.d.eq_1 (wa @Part.c.eq_1 (wa @Graph.d.eq_1 @Graph.c.eq_1))))
   refine wv (h:=vK (Ghosts.step (Ghosts.refl _) 3 0 2 34 1 _ _ ((by simp [go_sem];rfl)) rfl rfl rfl) (fun i e H=>∃ vs:List (List Int),(e 3=.adr t.c∧e 4=.adr h.c∧e 5=.adr p.c∧e 6=.ptr 0 1 0 0∧e 10=.ptr 1 1 0 0∧e 11=.ptr 2 1 0 0∧e 13=.ptr 3 1 0 0∧e 14=dI i)∧(H.get 0=some ⟨40,3,[[.nil,.nil,.nil]],false⟩)∧(0<H.next)∧(H.get 1=some ⟨37,2,[(b7 h.graph p).c],false⟩)∧(1<H.next)∧(H.get 2=some ⟨56,2,[p.c],false⟩)∧(2<H.next)∧(H.get 3=some ⟨40,3,[[dLI (b7 h.graph p).nodes,.list ((b7 h.graph p).edges.map Edge.c),.own 4 vs.length]],false⟩)∧(3<H.next)∧(H.get 4=some ⟨34,1,vs.map cL,false⟩)∧(4<H.next)∧(i≤p.nodes.length)∧(vs=(p.nodes.take i).map fun k=>h.values[k.toNat]?.getD [])∧(vs.length=i)) (fun i=>p.nodes.length - i) 0 ⟨([]),wg,wn,wn,wn,wn,wn,wn,wn,wn,wn,wn,wi,(by rfl),(by rfl)⟩ fun I0 hI0 i e H hi0=>?_)
   obtain ⟨vs,E0,g0_0,n0_0,g1_0,n1_0,g2_0,n2_0,g3_0,n3_0,g4_0,n4_0,hi,hvs,hvl2⟩:=hi0
   have Y:=wa Y (wa E0 (wa g0_0 (wa (bY n0_0) (wa g1_0 (wa (bY n1_0) (wa g2_0 (wa (bY n2_0) (wa g3_0 (wa (bY n3_0) (wa g4_0 (bY n4_0)))))))))))
   refine qP (fun h9=>?_) fun h9=>?_
   ·have hk:=hs3 _ (aC h9)
    have hkv:p.nodes[i].toNat<h.values.length:=by omega
    have hr8:=(hrow _ (aC hkv)).1
    have Y:=wa Y (wa h9 (wa (aA h9) (wa (aA hkv) @cL.eq_1)))
    exact wp (h:=wx hI0 (i+1) ⟨(vs++[h.values[p.nodes[i].toNat]]),wg,wn,wn,wn,wn,wn,wn,wn,wn,wn,wn,wj,(by (rw [i5 _ h9,← hvs,aA hkv];rfl)),(by (simp;omega))⟩)
   ·have hVS:vs=p.nodes.map fun k=>h.values[k.toNat]?.getD []:=by rw [hvs,jP _ (by omega)]
    exact wv (h:=hQ _ _ (by simp [go_sem,Y,hE,hX,h5',hVS,cL]))
theorem EP (h:Host)(hn:h.graph.nodes.length≤100000)(he:h.graph.edges.length≤100000)(hv:h.values.length≤100000)(hr:∀ v∈h.values,v.length≤100000)(G:AHeap)(Q:D→AHeap→Prop)
  (hQ:∀ a b V qs H',HH H' G.next a b V qs h→(∀ j,j<G.next→H'.get j=G.get j)→G.next≤H'.next→Q (.agg [.own a h.graph.nodes.length,.own b h.graph.edges.length,.own V h.values.length]) H'):ACalls Tryz.prog 87 [h.d] G Q:=by
 refine (aG (cfg:=⟨fun t=>t==2||t==3||t==18||t==1000001,fun r=>match r with|5=>[(0,2),(1,2),(2,3),(2,4),(2,6),(2,7),(0,8),(1,8),(0,9),(1,9)]|_=>[]⟩) Tz.mixed Tryz.func87 rfl rfl (aE rfl) (by kernel_rfl) ?_)
 have Y:=wa @Host.d.eq_1 @Host.c.eq_1
 refine wv (h:=?_)
 unfold eY;refine xH h.graph (by omega) (by omega) _ _ (fun a b H1 ha hb hab han hbn hga hgb hfr hnn=>?_)
 simp [go_sem] at ha hb hnn
 have hgR:=hfr G.next (by simp [go_sem])
 simp [go_sem] at hgR
 have hfr1:∀ j,j<G.next→H1.get j=G.get j:=fun j hj=>by
  rw [hfr j (by simp [go_sem];omega)];simp [go_sem,show j≠G.next by omega]
 have nx:=T5 H1.next
 have fr1:=And.intro (bY (show a<H1.next by omega)) (And.intro (bY (show b<H1.next by omega)) (bY (show G.next<H1.next by omega)))
 have di2:=And.intro (cO (show G.next≠b by omega)) (And.intro (cO (show G.next≠a by omega)) (cO (show b≠a by omega)))
 have Y:=wa Y (wa fr1 (wa di2 (wa hga (wa hgb (wa hgR nx)))))
 refine wv (h:=vK (Ghosts.step (Ghosts.refl _) H1.next 0 2 34 1 _ _ ((by simp [go_sem];rfl)) rfl rfl rfl) (fun i e H=>∃ R:Nat,∃ c:Nat,∃ V:Nat,∃ qs:List Nat,(e 1=.adr h.c∧e 2=.ptr R 1 0 0∧e 3=.ptr c 1 0 0∧e 4=dI i)∧(H.get R=some ⟨40,3,[[.nil,.nil,.nil]],false⟩)∧(R<H.next)∧(H.get c=some ⟨40,3,[[.own a h.graph.nodes.length,.own b h.graph.edges.length,.own V i]],false⟩)∧(c<H.next)∧(H.get V=some ⟨34,1,jA qs (h.values.take i),false⟩)∧(V<H.next)∧(i≤h.values.length)∧(HH H (G.next+1) a b V qs ⟨h.graph,h.values.take i⟩)∧((a<c∧b<c∧c<V∧V<H.next∧R<a∧R<b∧R<c∧G.next≤R))∧(∀ q∈qs,V<q)∧(∀ j,j<G.next→H.get j=G.get j)∧(G.next≤H.next)) (fun i=>h.values.length - i) 0 ⟨G.next,H1.next,(H1.next+1),([]),wg,wn,wn,wn,wn,(by (simp [go_sem,Y,jA])),wn,wi,(by (refine ⟨by simp [go_sem,Y],by simp [go_sem,Y],by simp [go_sem,jA],rfl,by simp,by simp;omega,by simp [go_sem];omega⟩)),(by (simp [go_sem];omega)),(by (intro q hq;cases hq)),(by (intro j hj;simp [go_sem,show j≠H1.next by omega,show j≠H1.next+1 by omega];exact hfr1 j hj)),(by (simp [go_sem];omega))⟩ fun I0 hI0 i e H hi0=>?_)
 obtain ⟨R,c,V,qs,E0,gR_0,nR_0,gc_0,nc_0,gV_0,nV_0,hi,hh,hc,hq,hG,hnx⟩:=hi0
 have di3:=And.intro (cO (show R≠V by omega)) (And.intro (cO (show R≠c by omega)) (And.intro (cO (show R≠b by omega)) (And.intro (cO (show R≠a by omega)) (And.intro (cO (show V≠c by omega)) (And.intro (cO (show V≠b by omega)) (And.intro (cO (show V≠a by omega)) (And.intro (cO (show c≠b by omega)) (And.intro (cO (show c≠a by omega)) (cO (show b≠a by omega))))))))))
 have Y:=wa Y (wa @Host.c.eq_1 (wa E0 (wa gR_0 (wa (bY nR_0) (wa gc_0 (wa (bY nc_0) (wa gV_0 (wa (bY nV_0) di3))))))))
 refine qP (fun h3=>?_) fun h3=>?_
 ·have hr8:=hr _ (aC h3)
  have hfrm:∀ j∈a :: b :: qs,j≠V∧j≠c∧j<H.next:=fun j hj=>by
   simp only [aS] at hj
   rcases hj with rfl|rfl|hj
   ·exact ⟨by omega,by omega,(hh.rng _ hh.a_in).2⟩
   ·exact ⟨by omega,by omega,(hh.rng _ hh.b_in).2⟩
   ·have:=hq j hj;exact ⟨by omega,by omega,(hh.rng _ (hh.q_in hj)).2⟩
  have hrl:(jA qs (h.values.take i)).length=i:=by rw [g8 hh.len];simp;omega
  have Y:=wa Y (wa h3 (wa (aA h3) (wa @cL.eq_1 hrl)))
  exact wp (h:=wx hI0 (i+1) ⟨R,c,V,(qs++[H.next+2]),wg,wn,wn,wn,wn,(by (rw [aF h3,tF hh.len];simp [go_sem,Y,cL])),wn,wj,(by (rw [aF h3];exact hh.rowAdd (by first|(simp [go_sem];done)|(simp [go_sem];omega)) (by omega) (fun j hj=>by have:=(hh.rng j hj).2;omega) (by simp [go_sem]) (by simp [go_sem,Y]) (by simp [go_sem,Y,cL]) (fun j hj=>by obtain ⟨k1,k2,k3⟩:=hfrm j hj;simp [go_sem,k1,k2,bY k3]))),(by (simp [go_sem];omega)),(by (intro q hq';rw [aW,bL] at hq';rcases hq' with h1|rfl;exact hq q h1;omega)),(by (intro j hj;simp [go_sem,show j≠H.next+2 by omega,show j≠V by omega,show j≠c by omega];exact hG j hj)),(by (simp [go_sem];omega))⟩)
 ·rw [aJ (by omega)] at hh
  have hie:i=h.values.length:=by omega
  have hRj:∀ j∈a :: b :: V :: qs,j≠R:=fun j hj=>by
   simp only [aS] at hj
   rcases hj with rfl|rfl|rfl|hj
   ·omega
   ·omega
   ·omega
   ·have:=hq j hj;omega
  refine wv (h:=?_)
  rw [hie];exact hQ a b V qs _ ((hh.lower (by omega)).same (by simp [go_sem]) (fun j hj=>by simp [go_sem,hRj j hj])) (fun j hj=>by simp [go_sem,show j≠R by omega];exact hG j hj) (by simp [go_sem];omega)
/-! ### exact numbers -/
def Da (l l1:List Nat)(j:Nat):Nat:=if j∈l then l1[l.idxOf j]?.getD 0 else j
theorem zD {l l1:List Nat}(hn:l.Nodup){i j j1:Nat}(h:l[i]?=some j)(h1:l1[i]?=some j1):Da l l1 j=j1:=by
 obtain ⟨hi,he⟩:=aL.1 h
 unfold Da
 rw [if_pos (he ▸ aC hi)]
 have:l.idxOf j=i:=by rw [← he];exact hn.idxOf_getElem i hi
 rw [this,h1];rfl
theorem u6 {l l1:List Nat}{j:Nat}(h:j∉l):Da l l1 j=j:=by unfold Da;rw [if_neg h]
theorem vJ {τ:Nat→Nat}{l:List (List D)}(hl:∀ c∈l,∀ y∈c,xZ τ y=y):l.map (·.map (xZ τ))=l:=by
 conv=>rhs;rw [← List.map_id l]
 refine bS fun c hc=>?_
 conv=>rhs;rw [id,← List.map_id c]
 exact bS fun y hy=>hl c hc y hy
theorem HH.exact {H H1 E:AHeap}{lo lo1 a b V a1 b1 V1:Nat}{qs qs1:List Nat}{x:Host}(hE:HH E lo a b V qs x)(h1:HH H1 lo1 a1 b1 V1 qs1 x)
  (hnx:∀ j,H.al j→j<H.next) (hnon:∀ j,¬ H.al j→H.get j=none) (DN:H.next≤E.next)
  (hal:∀ j,E.al j↔H.al j∨j∈a :: b :: V :: qs) (hf1:∀ j,H.al j→j∉a :: b :: V :: qs→H1.get j=H.get j) (hfE:∀ j,j∉a :: b :: V :: qs→E.get j=H.get j)
  (hold:∀ (i j j1:Nat),(a :: b :: V :: qs)[i]?=some j→(a1 :: b1 :: V1 :: qs1)[i]?=some j1→(H.al j→j1=j)∧(¬ H.al j→¬ H.al j1)) :
  ∃ τ,Exact H H1 E τ∧.agg [.own a1 x.graph.nodes.length,.own b1 x.graph.edges.length,.own V1 x.values.length]=NG τ (.agg [.own a x.graph.nodes.length,.own b x.graph.edges.length,.own V x.values.length])∧TR E.al (.agg [.own a x.graph.nodes.length,.own b x.graph.edges.length,.own V x.values.length]):=by
 obtain ⟨l,hl⟩:∃ l,l=a :: b :: V :: qs:=⟨_,rfl⟩
 obtain ⟨l1,hl1⟩:∃ l1,l1=a1 :: b1 :: V1 :: qs1:=⟨_,rfl⟩
 have hnd:=hE.nd
 have hnd1:=h1.nd
 have hin:=hE.rng
 rw [← hl] at hal hf1 hfE hold hnd hin
 rw [← hl1] at hold hnd1
 have hlen:l1.length=l.length:=by rw [hl,hl1];simp [h1.len,hE.len]
 have hpos:∀ j∈l,∃ i j1,l[i]?=some j∧l1[i]?=some j1∧Da l l1 j=j1:=fun j hj=>by
  obtain ⟨i,hi,he⟩:=aN hj
  have e1:l[i]?=some j:=by rw [aA hi,he]
  have e2:=aA (show i<l1.length by omega)
  exact ⟨i,_,e1,e2,zD hnd e1 e2⟩
 have ra:Da l l1 a=a1:=zD hnd (i:=0) (by rw [hl];rfl) (by rw [hl1];rfl)
 have rb:Da l l1 b=b1:=zD hnd (i:=1) (by rw [hl];rfl) (by rw [hl1];rfl)
 have rV:Da l l1 V=V1:=zD hnd (i:=2) (by rw [hl];rfl) (by rw [hl1];rfl)
 have rq:∀ i q q1,qs[i]?=some q→qs1[i]?=some q1→Da l l1 q=q1:=fun i q q1 e e1=>zD hnd (i:=i+3) (by rw [hl];exact e) (by rw [hl1];exact e1)
 have cI_ren:∀ (v:List Int),(v.map cI).map (·.map (xZ (Da l l1)))=v.map cI:=fun v=>vJ fun c hc y hy=>by
  rw [bG] at hc;obtain ⟨z,_,rfl⟩:=hc
  simp [cI] at hy;subst hy;rfl
 have cI_ok:∀ (v:List Int),∀ c∈v.map cI,∀ y∈c,Ru E.al y:=fun v c hc y hy=>by
  rw [bG] at hc;obtain ⟨z,_,rfl⟩:=hc
  simp [cI] at hy;subst hy;rfl
 refine ⟨Da l l1,⟨fun j hj=>?_,fun i j hi hj he=>?_,fun j hj=>⟨(hal j).2 (.inl hj),?_⟩,fun j hj=>?_,fun j k hk=>?_⟩,?_,?_⟩
 ·rcases (hal j).1 hj with h|h
  ·exact bP (hnx j h) DN
  ·exact (hin j h).2
 ·by_cases hi2:i∈l<;>by_cases hj2:j∈l
  ·obtain ⟨p,i1,e1,e2,e3⟩:=hpos i hi2
   obtain ⟨p',j1,f1,f2,f3⟩:=hpos j hj2
   rw [e3,f3] at he
   subst he
   obtain ⟨u1,u2⟩:=aL.1 e2
   obtain ⟨v1,v2⟩:=aL.1 f2
   have:p=p':=(qG hnd1).1 (u2.trans v2.symm)
   subst this
   rw [e1] at f1;cases f1;rfl
  ·obtain ⟨p,i1,e1,e2,e3⟩:=hpos i hi2
   rw [e3,u6 hj2] at he
   subst he
   have hjA:H.al i1:=(((hal i1).1 hj).resolve_right hj2)
   by_cases hiA:H.al i
   ·exact ((hold p i i1 e1 e2).1 hiA).symm
   ·exact absurd hjA ((hold p i i1 e1 e2).2 hiA)
  ·obtain ⟨p,j1,e1,e2,e3⟩:=hpos j hj2
   rw [e3,u6 hi2] at he
   subst he
   have hiA:H.al i:=(((hal i).1 hi).resolve_right hi2)
   by_cases hjA:H.al j
   ·exact (hold p j i e1 e2).1 hjA
   ·exact absurd hiA ((hold p j i e1 e2).2 hjA)
  ·rwa [u6 hi2,u6 hj2] at he
 ·by_cases hj2:j∈l
  ·obtain ⟨p,j1,e1,e2,e3⟩:=hpos j hj2
   rw [e3];exact (hold p j j1 e1 e2).1 hj
  ·exact u6 hj2
 ·have h2:¬ H.al j∧j∉l:=⟨fun h=>hj ((hal j).2 (.inl h)),fun h=>hj ((hal j).2 (.inr h))⟩
  rw [hfE j h2.2];exact hnon j h2.1
 ·by_cases hj2:j∈l
  ·right
   have hj3:=hj2
   rw [hl,aS,aS,aS] at hj3
   rcases hj3 with rfl|rfl|rfl|hq
   ·rw [hE.ga] at hk;cases hk
    rw [ra]
    exact ⟨_,h1.ga,rfl,rfl,rfl,(cI_ren _).symm,cI_ok _⟩
   ·rw [hE.gb] at hk;cases hk
    rw [rb]
    refine ⟨_,h1.gb,rfl,rfl,rfl,(vJ fun c hc y hy=>?_).symm,fun c hc y hy=>?_⟩
    ·rw [bG] at hc;obtain ⟨z,_,rfl⟩:=hc
     simp [Edge.c,dI] at hy;rcases hy with rfl|rfl|rfl<;>rfl
    ·rw [bG] at hc;obtain ⟨z,_,rfl⟩:=hc
     simp [Edge.c,dI] at hy;rcases hy with rfl|rfl|rfl<;>rfl
   ·rw [hE.gV] at hk;cases hk
    rw [rV]
    refine ⟨_,h1.gV,rfl,rfl,rfl,?_,fun c hc y hy=>?_⟩
    ·apply fH
     intro i
     simp only [aQ]
     by_cases hi:i<x.values.length
     ·have e0:=aA hi
      have e1:=aA (show i<qs.length by rw [hE.len];exact hi)
      have e2:=aA (show i<qs1.length by rw [h1.len];exact hi)
      rw [pC e1 e0,pC e2 e0]
      simp [xZ,rq i _ _ e1 e2]
     ·rw [bM (by rw [g8 h1.len];omega),bM (by rw [g8 hE.len];omega)];rfl
    ·simp only [jA] at hc
     obtain ⟨i,hi,rfl⟩:=aN hc
     rw [List.getElem_zipWith,bL] at hy
     subst hy
     show E.al _
     exact (hal _).2 (.inr (by rw [hl];exact d8 _ (d8 _ (d8 _ (aC _)))))
   ·obtain ⟨i,hi,rfl⟩:=aN hq
    have e1:=aA hi
    have hiv:i<x.values.length:=by rw [← hE.len];exact hi
    have e0:=aA hiv
    have e2:=aA (show i<qs1.length by rw [h1.len];exact hiv)
    rw [hE.gq i _ _ e1 e0] at hk;cases hk
    rw [rq i _ _ e1 e2]
    exact ⟨_,h1.gq i _ _ e2 e0,rfl,rfl,rfl,(cI_ren _).symm,cI_ok _⟩
  ·left
   have hg:=hfE j hj2
   rw [hk] at hg
   have hA:H.al j:=bD fun hn=>by rw [hnon j hn] at hg;cases hg
   exact ⟨hA,hg.symm,(hf1 j hA hj2).trans hg.symm⟩
 ·simp [NG,xZ,ra,rb,rV]
 ·intro c hc
  simp only [aS,eO,or_false] at hc
  rcases hc with rfl|rfl|rfl
  ·exact (hal _).2 (.inr (by rw [hl];simp))
  ·exact (hal _).2 (.inr (by rw [hl];simp))
  ·exact (hal _).2 (.inr (by rw [hl];simp))
theorem sC {j:Nat}{k:Blk}:∀ (q:List (Nat × Blk)) (H:AHeap),(q.map (·.1)).Nodup→(j,k)∈q→(H.pushs q).get j=some k
 | p :: q,H,hn,hm=>by
  rw [fT,fO] at hn
  rw [aS] at hm
  simp only [AHeap.pushs]
  rcases hm with rfl|hm
  ·rw [lX q _ _ hn.1];simp [AHeap.push]
  ·exact sC q _ hn.2 hm
def Mn (qs:List Nat)(vs:List (List Int)):List (Nat × Blk):=List.zipWith (fun q (v:List Int)=>(q,(⟨3,1,v.map cI,false⟩:Blk))) qs vs
theorem C7 {qs:List Nat}{vs:List (List Int)}(h:qs.length=vs.length):(Mn qs vs).map (·.1)=qs:=by
 unfold Mn
 rw [List.map_zipWith]
 apply fU (by simp [h])
 intro i h1 h2;simp
theorem Id {qs:List Nat}{vs:List (List Int)}{i q:Nat}{v:List Int}(h1:qs[i]?=some q)(h2:vs[i]?=some v):(q,(⟨3,1,v.map cI,false⟩:Blk))∈Mn qs vs :=
 aH (i:=i) (by simp [Mn,List.getElem?_zipWith,h1,h2])
def EZ (a b V:Nat)(qs:List Nat)(h:Host):List (Nat × Blk):=(a,⟨3,1,h.graph.nodes.map cI,false⟩) :: (b,⟨101,3,h.graph.edges.map Edge.c,false⟩) :: (V,⟨34,1,jA qs h.values,false⟩) :: Mn qs h.values
theorem Jt {a b V:Nat}{qs:List Nat}{h:Host}(hl:qs.length=h.values.length):(EZ a b V qs h).map (·.1)=a :: b :: V :: qs:=by simp [EZ,C7 hl]
theorem L0 {H:AHeap}{a b V:Nat}{qs:List Nat}{h:Host}(hl:qs.length=h.values.length)(hnd:(a :: b :: V :: qs).Nodup)(hlt:∀ j∈a :: b :: V :: qs,j<H.next):HH (H.pushs (EZ a b V qs h)) 0 a b V qs h:=by
 have hids:=Jt (a:=a) (b:=b) (V:=V) hl
 have hn:((EZ a b V qs h).map (·.1)).Nodup:=by rw [hids];exact hnd
 have hnx:(H.pushs (EZ a b V qs h)).next=H.next:=nE _ _ fun p hp=>hlt p.1 (by rw [← hids];exact l6 hp)
 refine ⟨sC _ _ hn (by simp [EZ]),sC _ _ hn (by simp [EZ]),sC _ _ hn (by simp [EZ]),hl,fun i q v h1 h2=>sC _ _ hn ?_,hnd,fun q hq=>⟨c8 _,by rw [hnx];exact hlt q hq⟩⟩
 exact d8 _ (d8 _ (d8 _ (Id h1 h2)))
theorem EY {md:Nat→Bool}{ops:Array Oper}{sp:List (Nat × Nat)}{n0 i:Nat}{rest:List Oper}{acc:List (Nat × List Nat)}{e:cZ}{dst:Option Tmp}{K:cZ→AHeap→Prop}{H:AHeap}
  (h:Host) (hn:h.graph.nodes.length≤100000) (he:h.graph.edges.length≤100000) (hv:h.values.length≤100000) (hr:∀ v∈h.values,v.length≤100000)
  (a b V:Nat) (qs:List Nat) (hl:qs.length=h.values.length) (hnd:(a :: b :: V :: qs).Nodup) (hn0:n0≤H.next) (hfr:∀ j∈a :: b :: V :: qs,j<n0∧¬ H.al j) (hmd:AS md dst=true) (hc:En sp i (a :: b :: V :: qs) acc)
  (hK:∀ E,HH E 0 a b V qs h→(∀ j,j∉a :: b :: V :: qs→E.get j=H.get j)→(∀ j,E.al j↔H.al j∨j∈a :: b :: V :: qs)→E.next=H.next →
   iO Tryz.prog md ops sp n0 (i+1) rest ((i,a :: b :: V :: qs) :: acc) (mC e dst (.agg [.own a h.graph.nodes.length,.own b h.graph.edges.length,.own V h.values.length])) E K) :
  nK Tryz.prog md ops sp n0 i rest acc e dst K 87 [h.d] H:=by
 have hids:=Jt (a:=a) (b:=b) (V:=V) hl
 unfold nK
 refine Or.inr ⟨hmd,.agg [.own a h.graph.nodes.length,.own b h.graph.edges.length,.own V h.values.length],[],[],EZ a b V qs h,fun p hp=>absurd hp (eO),fun p hp=>hfr p.1 (by rw [← hids];exact l6 hp),fun H' _ hfresh=>?_,?_,?_⟩
 ·have hf':∀ j∈a :: b :: V :: qs,j<H'.next∧¬ H'.al j:=fun j hj=>by
   rw [← hids,bG] at hj
   obtain ⟨p,hp,rfl⟩:=hj
   exact hfresh p hp
  refine ACalls.exact (E:=H'.pushs (EZ a b V qs h)) (EP h hn he hv hr H' (fun d H1=>∃ a1 b1 V1 qs1,HH H1 H'.next a1 b1 V1 qs1 h∧(∀ j,j<H'.next→H1.get j=H'.get j)∧d=.agg [.own a1 h.graph.nodes.length,.own b1 h.graph.edges.length,.own V1 h.values.length]) (fun a1 b1 V1 qs1 H1 h1 h2 _=>⟨a1,b1,V1,qs1,h1,h2,rfl⟩)) ?_
  rintro hnx hnon d H1 ⟨a1,b1,V1,qs1,h1,h2,rfl⟩
  refine HH.exact (L0 hl hnd fun j hj=>(hf' j hj).1) h1 hnx hnon ?_ (fun j=>?_) (fun j hj _=>h2 j (hnx j hj)) (fun j hj=>lX _ _ _ (by rw [hids];exact hj)) (fun i j j1 e e1=>⟨fun hA=>absurd hA (hf' j (aH e)).2,fun _ hA=>?_⟩)
  ·rw [nE _ _ fun p hp=>(hfresh p hp).1];exact bC _
  ·rw [pS,hids]
  ·have:=(h1.rng j1 (aH e1)).1
   have:=hnx j1 hA
   omega
 ·rw [hids];exact hc
 ·rw [hids]
  refine hK _ (L0 hl hnd fun j hj=>bP (hfr j hj).1 hn0) (fun j hj=>lX _ _ _ (by rw [hids];exact hj)) (fun j=>by rw [pS,hids];rfl) (nE _ _ fun p hp=>bP (hfr p.1 (by rw [← hids];exact l6 hp)).1 hn0)
theorem Qt {l:List Int}{v:Int}(h:mem l v=true):0≤HJ l v∧(HJ l v).toNat<l.length∧l[(HJ l v).toNat]?=some v:=by
 obtain ⟨i,hi,he⟩:=aN ((cW l v).1 h)
 have h0:0≤HJ l v:=by simpa [mem] using h
 unfold HJ at h0 ⊢
 cases hf:l.findIdx? (fun x=>decide (x=v)) with
 | none=>rw [hf] at h0;simp at h0
 | some k =>
  rw [gL] at hf
  obtain ⟨hk,hv,_⟩:=hf
  simp only [decide_eq_true_eq] at hv
  exact ⟨by simp,by simpa using hk,by simp [hk,hv]⟩
theorem nJ {f:Nat→Int}:∀ (n k:Nat),(∀ j,k≤j→j<k+n→f j=0)→bI f k n=0
 | 0,k,_=>rfl
 | n+1,k,h=>by
  unfold bI
  rw [if_neg (by rw [h k (bC _) (by omega)];simp)]
  exact nJ n (k+1) fun j h1 h2=>h j (by omega) (by omega)
theorem Ot {l:List Int}{n:Int}(h1:∀ x∈l,0≤x∧x<n)(h2:l.Pairwise (· < ·)):Cn l n=0:=by
 refine nJ _ _ fun j _ hj=>?_
 have hj':j<l.length:=by omega
 have hx:=h1 _ (aC hj')
 unfold Ee
 rw [aA hj',aD,if_neg (by omega),if_neg]
 rintro ⟨h0,hle⟩
 rw [aA (show j - 1<l.length by omega),aD] at hle
 have:=dX.1 h2 (j - 1) j (by omega) hj' (by omega)
 omega
theorem Ov {l:List Int}(h:l.Pairwise (· < ·))(h0:∀ x∈l,0≤x):∀ i (hi:i<l.length),(i:Int)≤l[i]
 | 0,hi=>by have:=h0 _ (aC hi);omega
 | i+1,hi=>by
  have h1:=Ov h h0 i (by omega)
  have h2:=dX.1 h i (i+1) (by omega) hi (by omega)
  omega
theorem Ja {α:Type}{f:α→Int}:∀ {l:List α},(∀ x∈l,f x=0)→fG f l=0
 | [],_=>rfl
 | x :: l,h=>by
  unfold fG
  rw [if_neg (by rw [h x (kC ..)];simp)]
  exact Ja fun y hy=>h y (d8 _ hy)
def eA (g:Graph)(k:Int):Edge:=g.edges[k.toNat]?.getD bQ
def iA (l:List Int)(k:Int):Int:=l[k.toNat]?.getD 0
theorem OS {g:Graph}{p:Part}(hg:graphF g=0)(hn:∀ x∈p.nodes,0≤x∧x<g.nodes.length)(hns:p.nodes.Pairwise (· < ·))(he:∀ x∈p.edges,0≤x∧x<g.edges.length)(hes:p.edges.Pairwise (· < ·))
  (hends:∀ k∈p.edges,(eA g k).from_∈p.nodes∧(eA g k).to_∈p.nodes):subF g p=0:=by
 unfold subF oQ
 rw [if_neg (by rw [hg];simp),if_neg (by rw [Ot hn hns];simp),if_neg (by rw [Ot he hes];simp)]
 refine Ja fun k hk=>?_
 have h1:=(cW _ _).2 (hends k hk).1
 have h2:=(cW _ _).2 (hends k hk).2
 unfold eA at h1 h2
 unfold vV;rw [if_pos (by rw [h1,h2];rfl)]
theorem Kw (p:Nat→Bool)(n:Nat):(((List.range n).filter p).map fun (b:Nat)=>(b:Int)).Pairwise (· < ·):=by
 rw [List.pairwise_map]
 have h:((List.range n).filter p).Pairwise (· < ·):=List.Pairwise.filter _ List.pairwise_lt_range
 exact h.imp fun h=>by omega
theorem Dn (p:Nat→Bool)(n:Nat)(x:Int):x∈(((List.range n).filter p).map fun (b:Nat)=>(b:Int))↔(0≤x∧x<n)∧p x.toNat=true:=by
 simp only [bG,fQ,bZ]
 constructor
 ·rintro ⟨a,⟨h1,h2⟩,rfl⟩;exact ⟨by omega,by simpa using h2⟩
 ·rintro ⟨⟨h1,h2⟩,h3⟩;exact ⟨x.toNat,⟨by omega,h3⟩,by omega⟩
theorem kL {l:List Int}{n:Nat}{x:Int}:x∈b5 l n↔(0≤x∧x<n)∧x∉l:=by
 unfold b5
 rw [Dn]
 constructor
 ·rintro ⟨h,h2⟩
  refine ⟨h,fun hm=>?_⟩
  rw [show ((x.toNat:Nat):Int)=x by omega,(cW l x).2 hm] at h2;cases h2
 ·rintro ⟨h,h2⟩
  refine ⟨h,?_⟩
  rw [show ((x.toNat:Nat):Int)=x by omega,cD,bH]
  exact fun hm=>h2 ((cW l x).1 hm)
theorem q7 (l:List Int)(n:Nat):(b5 l n).Pairwise (· < ·):=Kw _ n
theorem FP {a b:Graph}{m:Part}(h:dS a b m=0):(∀ i,i<a.nodes.length→jE a b m i=0)∧∀ k,k<a.edges.length→gB a b m k=0:=by
 obtain ⟨g1,g2,h3,h4⟩:=lR h
 have hM:dS a b m=(if bI (jE a b m) 0 a.nodes.length≠0 then bI (jE a b m) 0 a.nodes.length else bI (gB a b m) 0 a.edges.length):=by
  unfold dS;rw [if_neg (by rw [g1];simp),if_neg (by rw [g2];simp),if_neg (by omega)]
 rw [hM] at h
 split at h
 ·rename_i q;exact absurd h q
 ·rename_i q
  exact ⟨fun i hi=>dP a.nodes.length 0 (show bI (jE a b m) 0 a.nodes.length=0 by omega) i (by omega) (by omega),fun k hk=>dP a.edges.length 0 h k (by omega) (by omega)⟩
theorem KB {a b:Graph}{m:Part}(h:dS a b m=0){i:Int}(h0:0≤i)(hi:i<a.nodes.length):(0≤iA m.nodes i∧iA m.nodes i<b.nodes.length)∧gN b (iA m.nodes i)=gN a i:=by
 have q:=(FP h).1 i.toNat (by omega)
 unfold jE at q
 split at q
 ·cases q
 ·rename_i q1
  split at q
  ·cases q
  ·rename_i q2
   exact ⟨by unfold iA;omega,by unfold gN iA;simpa using q2⟩
theorem KC {a b:Graph}{m:Part}(h:dS a b m=0){k:Int}(h0:0≤k)(hk:k<a.edges.length):(0≤iA m.edges k∧iA m.edges k<b.edges.length)∧(eA a k).type=(eA b (iA m.edges k)).type ∧
  iA m.nodes (eA a k).from_=(eA b (iA m.edges k)).from_∧iA m.nodes (eA a k).to_=(eA b (iA m.edges k)).to_:=by
 have q:=(FP h).2 k.toNat (by omega)
 unfold gB at q
 split at q
 ·cases q
 ·rename_i q1
  split at q
  ·cases q
  ·rename_i q2
   split at q
   ·cases q
   ·rename_i q3
    unfold eA iA
    refine ⟨by omega,by simpa using q2,?_,?_⟩<;>exact bD fun hc=>q3 (by first|exact .inl hc|exact .inr hc)
theorem LX {g:Graph}(hg:graphF g=0){k:Int}(h0:0≤k)(hk:k<g.edges.length):(0≤(eA g k).from_∧(eA g k).from_<g.nodes.length)∧(0≤(eA g k).to_∧(eA g k).to_<g.nodes.length)∧0≤(eA g k).type∧(eA g k).type≤99:=by
 have hk':k.toNat<g.edges.length:=by omega
 have hx:=(dF hg).2 _ (aC hk')
 unfold eA
 rw [aA hk',aD]
 exact ⟨hx.2.1,hx.2.2,hx.1⟩
theorem Jp {im keep:List Int}(h:pY im keep=[]){i k:Nat}(hik:i<k)(hk:k<im.length):rQ im keep i k=false:=by
 rw [bH]
 intro hd
 have hm:(i,k)∈pY im keep:=by
  unfold pY DZ
  rw [bR]
  refine ⟨i,bZ.2 (by omega),?_⟩
  unfold jZ
  rw [bG]
  exact ⟨k - (i+1),fQ.2 ⟨bZ.2 (by omega),by rw [show i+1+(k - (i+1))=k by omega];exact hd⟩,by simp;omega⟩
 rw [h] at hm;cases hm
theorem Oa {im keep:List Int}(h:pY im keep=[]){i k:Nat}(hi:i<im.length)(hk:k<im.length)(hne:i≠k)(he:im[i]?.getD 0=im[k]?.getD 0):mem keep i=true∧mem keep k=true:=by
 rcases Nat.lt_or_gt_of_ne hne with hlt|hlt
 ·have:=Jp h hlt hk
  unfold rQ at this;rw [he] at this;simpa using this
 ·have:=Jp h hlt hi
  unfold rQ at this;rw [he] at this;simp at this;exact ⟨this.2,this.1⟩
theorem Hm {l g:Graph}{keep m:Part}(h:oU l g keep m=0):dS l g m=0∧subF l keep=0∧pY m.nodes keep.nodes=[]∧pY m.edges keep.edges=[]∧xP g m.edges (iW m.nodes keep.nodes)=[]:=by
 unfold oU at h
 split at h
 ·rename_i q;exact absurd h q
 ·rename_i q
  have q':compG l g keep m=0:=by omega
  unfold compG at q'
  split at h
  ·cases h
  ·rename_i q2
   split at h
   ·cases h
   ·rename_i q3
    have q4:dS l g m=0∧subF l keep=0:=by
     split at q'
     ·rename_i q5;exact absurd q' q5
     ·rename_i q5;exact ⟨by omega,q'⟩
    exact ⟨q4.1,q4.2,bF (by omega),bF (by omega),bF (by omega)⟩
theorem wL {im keep:List Int}(hd:pY im keep=[]){j:Int}(h0:0≤j)(hj:j<im.length)(hk:j∈keep):iA im j∉iW im keep:=by
 intro hm
 obtain ⟨i,hi,hki,he⟩:=AW.1 hm
 have hne:i≠j.toNat:=by
  rintro rfl
  rw [show ((j.toNat:Nat):Int)=j by omega,(cW _ _).2 hk] at hki;cases hki
 have:=Oa hd hi (show j.toNat<im.length by omega) hne (by rw [he];rfl)
 rw [hki] at this;exact absurd this.1 (by simp)
theorem Pl {l g:Graph}{keep m:Part}(h:oU l g keep m=0):subF g (p5 l g keep m)=0:=by
 obtain ⟨hm,hs,hd1,hd2,hda⟩:=Hm h
 unfold p5;rw [if_pos h]
 obtain ⟨hgl,hg,hln,hle⟩:=lR hm
 refine OS hg (fun x hx=>jK hx) (q7 _ _) (fun x hx=>jK hx) (q7 _ _) fun k hk=>?_
 obtain ⟨hkr,hkn⟩:=kL.1 hk
 have hen:=LX hg hkr.1 hkr.2
 by_cases hkm:k∈m.edges
 ·obtain ⟨i,hi,hik⟩:=aN hkm
  have hkeep:(i:Int)∈keep.edges:=by
   refine bD fun hc=>hkn (AW.2 ⟨i,hi,?_,?_⟩)
   ·rw [bH];exact fun h'=>hc ((cW _ _).1 h')
   ·rw [aA hi,hik]
  have hse:=AD hs i hkeep
  have hei:=LX (k:=(i:Int)) hgl (by omega) (by omega)
  have hme:=KC (k:=(i:Int)) hm (by omega) (by omega)
  have hii:iA m.edges i=k:=by unfold iA;simp [hi,hik]
  rw [hii] at hme
  have g1:=wL hd1 hei.1.1 (by omega) ((cW _ _).1 hse.1)
  have g2:=wL hd1 hei.2.1.1 (by omega) ((cW _ _).1 hse.2)
  rw [hme.2.2.1] at g1
  rw [hme.2.2.2] at g2
  exact ⟨kL.2 ⟨hen.1,g1⟩,kL.2 ⟨hen.2.1,g2⟩⟩
 ·have hb:vW g m.edges (iW m.nodes keep.nodes) k.toNat=false:=by
   rw [bH]
   intro hb
   have hmm:k∈xP g m.edges (iW m.nodes keep.nodes):=by
    unfold xP;rw [Dn];exact ⟨hkr,hb⟩
   rw [hda] at hmm;cases hmm
  unfold vW at hb
  rw [show ((k.toNat:Nat):Int)=k by omega,show mem m.edges k=false by rw [bH];exact fun h'=>hkm ((cW _ _).1 h')] at hb
  simp only [Bool.not_false,fI,Bool.or_eq_false_iff] at hb
  exact ⟨kL.2 ⟨hen.1,fun h'=>by have:=(cW _ _).2 h';unfold eA at this;rw [hb.1] at this;cases this⟩,kL.2 ⟨hen.2.1,fun h'=>by have:=(cW _ _).2 h';unfold eA at this;rw [hb.2] at this;cases this⟩⟩
theorem M4 {g:Graph}(h1:g.nodes.length≤40)(h2:g.edges.length≤80)(hn:∀ a∈g.nodes,0≤a∧a≤99)
  (he:∀ x∈g.edges,(0≤x.type∧x.type≤99)∧(0≤x.from_∧x.from_<g.nodes.length)∧(0≤x.to_∧x.to_<g.nodes.length)):graphF g=0:=by
 unfold graphF
 rw [if_neg (by omega),if_neg,if_neg]
 ·rw [aU];rintro ⟨x,hx,hf⟩
  have h3:=he x hx
  have h4:rC x g.nodes.length=true:=by simp [rC,f7];omega
  rw [h4] at hf;cases hf
 ·rw [aU];rintro ⟨a,ha,hf⟩
  have h3:=hn a ha
  have h4:f7 a 99=true:=by simp [f7];omega
  rw [h4] at hf;cases hf
theorem N5 {g:Graph}{n:Int}(h0:0≤n)(h:n<g.nodes.length):gN g n∈g.nodes:=by
 unfold gN;rw [aA (show n.toNat<g.nodes.length by omega),aD];exact aC _
theorem QO {g:Graph}{n:Int}(h0:0≤n)(h:n<g.edges.length):eA g n∈g.edges:=by
 unfold eA;rw [aA (show n.toNat<g.edges.length by omega),aD];exact aC _
theorem Ou {l:List Int}{n:Nat}(h:l.Pairwise (· < ·))(hr:∀ x∈l,0≤x∧x<n):l.length≤n:=by
 rcases Nat.eq_zero_or_pos l.length with h1|h1
 ·omega
 ·have h2:=Ov h (fun x hx=>(hr x hx).1) (l.length - 1) (by omega)
  have h3:=hr _ (aC (show l.length - 1<l.length by omega))
  omega
theorem NK {l:List Int}(hs:l.Pairwise (· < ·)){v:Int}(hv:v∈l):sE l v<l.length∧iA l (sE l v)=v∧HJ l v=sE l v:=by
 have hm:=(cW l v).2 hv
 have h1:=zY hs hm
 obtain ⟨h2,h3,h4⟩:=Qt hm
 rw [h1] at h2 h3 h4
 refine ⟨by simpa using h3,?_,h1⟩
 unfold iA;rw [h4];rfl
theorem HY {g:Graph}{p:Part}(h:subF g p=0){k:Int}(hk:k∈p.edges):(eA g k).from_∈p.nodes∧(eA g k).to_∈p.nodes:=by
 have:=AD h k hk
 exact ⟨(cW _ _).1 this.1,(cW _ _).1 this.2⟩
theorem QI (g:Graph)(p:Part)(k:Int):gEd g p k=⟨(eA g k).type,sE p.nodes (eA g k).from_,sE p.nodes (eA g k).to_⟩:=rfl
theorem Qo {α β:Type}(f:α→β)(l:List α)(d:α)(e:β){i:Nat}(h:i<l.length):((l.map f)[i]?).getD e=f ((l[i]?).getD d):=by simp [h]
theorem Hl {g:Graph}{p:Part}(h:subF g p=0){i:Int}(h0:0≤i)(hi:i<p.nodes.length):gN (b7 g p) i=gN g (iA p.nodes i):=by
 unfold b7;rw [if_pos h]
 exact Qo (gN g) p.nodes 0 0 (by omega)
theorem Ob {im keep:List Int}{i k:Nat}(hi:i<im.length)(hk:k<im.length):rQ im keep i k=(decide (im[i]=im[k])&&(!mem keep i||!mem keep k)):=by
 unfold rQ;rw [aA hi,aA hk];rfl
theorem pG (im keep:List Int){i k:Nat}(h:i+1≤k):jZ im keep i (k+1 - (i+1))=jZ im keep i (k - (i+1))++(if rQ im keep i k=true then [(i,k)] else []):=by
 rw [show k+1 - (i+1)=(k - (i+1))+1 by omega,Jq,show i+1+(k - (i+1))=k by omega]
theorem r9 (im keep:List Int)(hn:im.length≤1000):Pure Tryz.prog 266 [dLI im,dLI keep] (.list ((pY im keep).map cPr)):=by
 refine Tz.pK ⟨fun t=>t==5,fun _=>[]⟩ Tryz.func266 rfl (fun Q hQ=>?_)
 have Y:=trivial
 refine wv (h:=bB (fun i e H=>∃ xs:List (Nat × Nat),(e 0=dLI im∧e 1=dLI keep∧e 5=.own 0 xs.length∧e 6=dI i)∧(H.get 0=some ⟨395,2,xs.map cPr,false⟩)∧(0<H.next)∧(i≤im.length)∧(xs=DZ im keep i)) (fun i=>im.length - i) 0 ⟨([]),wg,wn,wn,wi,(by rfl)⟩ fun I0 hI0 i e H hi0=>?_)
 obtain ⟨xs,E0,g0_0,n0_0,hi,hx⟩:=hi0
 have Y:=wa Y (wa E0 (wa g0_0 (bY n0_0)))
 refine dV (fun h3=>?_) fun h3=>?_
 ·have Y:=wa Y (wa h3 (aA h3))
  refine wo (h:=bB (fun k e H=>∃ ys:List (Nat × Nat),(e 0=dLI im∧e 1=dLI keep∧e 5=.own 0 ys.length∧e 6=dI i∧e 7=dI k)∧(H.get 0=some ⟨395,2,ys.map cPr,false⟩)∧(0<H.next)∧(i+1≤k)∧(k≤im.length)∧(ys=xs++jZ im keep i (k - (i+1)))∧(ys.length≤1000000)) (fun k=>im.length - k) (i+1) ⟨xs,wg,wn,wn,wi,wi,(by (simp [jZ])),(by (have:=sR im keep i;have:i * im.length≤1000 * 1000:=iP (by omega) hn;rw [hx];omega))⟩ fun I2 hI2 k e H hi2=>?_)
  obtain ⟨ys,E2,g0_2,n0_2,hk1,hk2,hy,hyl⟩:=hi2
  have Y:=wa Y (wa E2 (wa g0_2 (bY n0_2)))
  refine dV (fun h6=>?_) fun h6=>?_
  ·have hd:=Ob (keep:=keep) h3 h6
   have hyl2:(ys++(if rQ im keep i k=true then [(i,k)] else [])).length≤1000000:=by
    have e1:ys++(if rQ im keep i k=true then [(i,k)] else [])=DZ im keep i++jZ im keep i (k+1 - (i+1)):=by rw [pG _ _ (by omega),← List.append_assoc,hy,hx]
    rw [e1,aT]
    have h1:=sR im keep i
    have h2:=yL im keep i (k+1 - (i+1))
    have h3:i * im.length+im.length≤1000 * 1000:=by
     have:=iP (show i+1≤1000 by omega) hn
     rw [Nat.add_mul] at this;omega
    omega
   have Y:=wa Y (wa h3 (wa (aA h3) (wa h6 (aA h6))))
   refine wo (h:=eK (fun hg=>nD keep i) (fun hg=>wl) ?_)
   refine wo (h:=eK (fun hg=>nD keep k) (fun hg=>wl) ?_)
   refine dV (fun h8=>?_) fun h8=>?_
   ·have hdt:rQ im keep i k=true:=by rw [hd];simpa using h8
    have Y:=wa Y (wa hdt @cPr.eq_1)
    exact wo (h:=wx hI2 (k+1) ⟨(ys++(if rQ im keep i k=true then [(i,k)] else [])),wg,wn,wn,wj,wj,(by (rw [pG _ _ (by omega),← List.append_assoc,← hy])),(by (exact hyl2))⟩)
   ·have hdf:rQ im keep i k=false:=by rw [hd,bH];intro hb;simp at hb;simp_all
    have Y:=wa Y hdf
    exact wo (h:=wx hI2 (k+1) ⟨(ys++(if rQ im keep i k=true then [(i,k)] else [])),wg,wn,wn,wj,wj,(by (rw [pG _ _ (by omega),← List.append_assoc,← hy])),(by (exact hyl2))⟩)
  ·have hJ:k=im.length:=by omega
   subst hJ
   subst hy
   exact wo (h:=wx hI0 (i+1) ⟨(xs++jZ im keep i (im.length - (i+1))),wg,wn,wn,wj,(by (rw [AZ,← hx]))⟩)
 ·have hX:pY im keep=xs:=by rw [hx,show i=im.length by omega];rfl
  exact wv (h:=hQ _ _ (by simp [go_sem,Y,hX]))
theorem Aa {im keep:List Int}(h:im.length≤1000):(pY im keep).length≤1000000:=by
 have h1:=sR im keep im.length
 have h2:im.length * im.length≤1000 * 1000:=iP h h
 unfold pY;omega
theorem NH (l g:Graph)(keep m:Part)(hk:keep.nodes.length≤1000000)(hm1:m.nodes.length≤1000)(hm2:m.edges.length≤1000)(hg1:g.nodes.length≤1000000)(hg2:g.edges.length≤1000000):Pure Tryz.prog 169 [l.d,g.d,keep.d,m.d] (.tup [(p5 l g keep m).d,dI (oU l g keep m)]):=by
 have hd1:=Aa (keep:=keep.nodes) hm1
 have hd2:=Aa (keep:=keep.edges) hm2
 refine Tz.pK ⟨fun t=>t==8,fun _=>[]⟩ Tryz.func169 rfl (fun Q hQ=>?_)
 have Y:=trivial
 refine wv (h:=aB (Iy l g keep m hk) wl ?_)
 refine cT (fun h2=>?_) fun h2=>?_
 ·have hC:oU l g keep m=compG l g keep m:=if_pos h2
  have hZ:p5 l g keep m=⟨[],[]⟩:=if_neg (by rw [hC];exact h2)
  exact wv (h:=hQ _ _ (by simp [go_sem,hC,hZ]))
 ·have hC:oU l g keep m=if 0<(pY m.nodes keep.nodes).length+(pY m.edges keep.edges).length then 15 else if 0<(xP g m.edges (iW m.nodes keep.nodes)).length then 14 else 0:=if_neg (by rw [h2];simp)
  refine wo (h:=aI (r9 m.nodes keep.nodes hm1) wl ?_)
  refine wo (h:=aI (r9 m.edges keep.edges hm2) wl ?_)
  refine dV (fun h4=>?_) fun h4=>?_
  ·rw [if_pos (by omega)] at hC
   have hZ:p5 l g keep m=⟨[],[]⟩:=if_neg (by rw [hC];simp)
   exact wv (h:=hQ _ _ (by simp [go_sem,hC,hZ]))
  ·rw [if_neg (by first|omega|simp [h4])] at hC
   refine wo (h:=aB (Dh l g keep m (by omega) hg2) wl ?_)
   refine dV (fun h6=>?_) fun h6=>?_
   ·rw [if_pos (by omega)] at hC
    have hZ:p5 l g keep m=⟨[],[]⟩:=if_neg (by rw [hC];simp)
    exact wv (h:=hQ _ _ (by simp [go_sem,hC,hZ]))
   ·rw [if_neg (by first|omega|simp [h6])] at hC
    have hZ:p5 l g keep m=⟨b5 (iW m.nodes keep.nodes) g.nodes.length,b5 (iW m.edges keep.edges) g.edges.length⟩:=if_pos hC
    refine wo (h:=aI (x9 m.nodes keep.nodes (by omega)) wl ?_)
    refine wo (h:=aI (Dg (iW m.nodes keep.nodes) g.nodes.length hg1) wl ?_)
    refine wo (h:=aI (x9 m.edges keep.edges (by omega)) wl ?_)
    refine wo (h:=aI (Dg (iW m.edges keep.edges) g.edges.length hg2) wl ?_)
    exact wo (h:=hQ _ _ (by simp [go_sem,hC,hZ]))
theorem sW (im keep:List Int)(hn:im.length≤1000):Pure Tryz.prog 325 [dLI im,dLI keep] (.list ((pY im keep).map cPr)):=by
 refine Tz.pK ⟨fun t=>t==5,fun _=>[]⟩ Tryz.func325 rfl (fun Q hQ=>?_)
 have Y:=trivial
 refine wo (h:=bB (fun i e H=>∃ xs:List (Nat × Nat),(e 0=dLI im∧e 1=dLI keep∧e 9=dI im.length∧e 5=.own 0 xs.length∧e 10=dI i)∧(H.get 0=some ⟨395,2,xs.map cPr,false⟩)∧(0<H.next)∧(i≤im.length)∧(xs=DZ im keep i)) (fun i=>im.length - i) 0 ⟨([]),wg,wn,wn,wi,(by rfl)⟩ fun I0 hI0 i e H hi0=>?_)
 obtain ⟨xs,E0,g0_0,n0_0,hi,hx⟩:=hi0
 have Y:=wa Y (wa E0 (wa g0_0 (bY n0_0)))
 refine cT (fun h3=>?_) fun h3=>?_
 ·have Y:=wa Y (wa h3 (aA h3))
  refine wo (h:=bB (fun k e H=>∃ ys:List (Nat × Nat),(e 0=dLI im∧e 1=dLI keep∧e 9=dI im.length∧e 5=.own 0 ys.length∧e 6=dI i∧e 10=dI i∧e 7=dI k)∧(H.get 0=some ⟨395,2,ys.map cPr,false⟩)∧(0<H.next)∧(i+1≤k)∧(k≤im.length)∧(ys=xs++jZ im keep i (k - (i+1)))∧(ys.length≤1000000)) (fun k=>im.length - k) (i+1) ⟨xs,wg,wn,wn,wi,wi,(by (simp [jZ])),(by (have:=sR im keep i;have:i * im.length≤1000 * 1000:=iP (by omega) hn;rw [hx];omega))⟩ fun I2 hI2 k e H hi2=>?_)
  obtain ⟨ys,E2,g0_2,n0_2,hk1,hk2,hy,hyl⟩:=hi2
  have Y:=wa Y (wa E2 (wa g0_2 (bY n0_2)))
  refine dV (fun h6=>?_) fun h6=>?_
  ·have hd:=Ob (keep:=keep) h3 h6
   have hyl2:(ys++(if rQ im keep i k=true then [(i,k)] else [])).length≤1000000:=by
    have e1:ys++(if rQ im keep i k=true then [(i,k)] else [])=DZ im keep i++jZ im keep i (k+1 - (i+1)):=by rw [pG _ _ (by omega),← List.append_assoc,hy,hx]
    rw [e1,aT]
    have h1:=sR im keep i
    have h2:=yL im keep i (k+1 - (i+1))
    have h3:i * im.length+im.length≤1000 * 1000:=by
     have:=iP (show i+1≤1000 by omega) hn
     rw [Nat.add_mul] at this;omega
    omega
   have Y:=wa Y (wa h3 (wa (aA h3) (wa h6 (aA h6))))
   refine wo (h:=eK (fun hg=>fK keep i) (fun hg=>wl) ?_)
   refine wo (h:=eK (fun hg=>fK keep k) (fun hg=>wl) ?_)
   refine dV (fun h8=>?_) fun h8=>?_
   ·have hdt:rQ im keep i k=true:=by rw [hd];simpa using h8
    have Y:=wa Y (wa hdt @cPr.eq_1)
    exact wo (h:=wx hI2 (k+1) ⟨(ys++(if rQ im keep i k=true then [(i,k)] else [])),wg,wn,wn,wj,wj,(by (rw [pG _ _ (by omega),← List.append_assoc,← hy])),(by (exact hyl2))⟩)
   ·have hdf:rQ im keep i k=false:=by rw [hd,bH];intro hb;simp at hb;simp_all
    have Y:=wa Y hdf
    exact wo (h:=wx hI2 (k+1) ⟨(ys++(if rQ im keep i k=true then [(i,k)] else [])),wg,wn,wn,wj,wj,(by (rw [pG _ _ (by omega),← List.append_assoc,← hy])),(by (exact hyl2))⟩)
  ·have hJ:k=im.length:=by omega
   subst hJ
   subst hy
   exact wo (h:=wx hI0 (i+1) ⟨(xs++jZ im keep i (im.length - (i+1))),wg,wn,wn,wj,(by (rw [AZ,← hx]))⟩)
 ·have hX:pY im keep=xs:=by rw [hx,show i=im.length by omega];rfl
  exact wv (h:=hQ _ _ (by simp [go_sem,Y,hX]))
def q8 (n:Nat)(l:List Int):List Bool:=l.foldl (fun acc x=>acc.set x.toNat true) (List.replicate n false)
theorem Dx (n:Nat)(l:List Int)(x:Int):q8 n (l++[x])=(q8 n l).set x.toNat true:=by unfold q8;rw [CD];rfl
theorem AT (n:Nat)(l:List Int):(q8 n l).length=n:=by
 unfold q8
 have:∀ (l:List Int) (a:List Bool),a.length=n→(l.foldl (fun acc x=>acc.set x.toNat true) a).length=n:=by
  intro l
  induction l with
  | nil=>intro a h;exact h
  | cons x l ih=>intro a h;exact ih _ (by simpa using h)
 exact this l _ (by simp)
theorem MT (n : Nat) : ∀ (l : List Int), (∀ x ∈ l, 0 ≤ x ∧ x < n) → ∀ i : Nat, i < n → (q8 n l)[i]? = some (mem l i) := by
  have : ∀ (l : List Int) (a : List Bool), a.length = n → (∀ x ∈ l, 0 ≤ x ∧ x < n) → ∀ i : Nat, i < n → (l.foldl (fun acc x => acc.set x.toNat true) a)[i]? = some (a[i]?.getD false || mem l i) := by
    intro l
    induction l with
    | nil => intro a ha _ i hi; rw [List.foldl_nil, aA (by omega), zT]; simp
    | cons x l ih =>
      intro a ha hl i hi
      have hx := hl x (by simp)
      rw [List.foldl_cons, ih _ (by simpa using ha) (fun y hy => hl y (by simp [hy])) i hi]
      congr 1
      have hm : mem (x :: l) (i : Int) = (decide ((i : Int) = x) || mem l i) := by
        rw [aV, cW, b6, cW, decide_eq_true_eq, aS]
      rw [hm]
      by_cases he : x.toNat = i
      · subst he
        rw [List.getElem?_set_self (by omega)]
        have : ((x.toNat : Nat) : Int) = x := by omega
        simp [this]
      · rw [List.getElem?_set_ne he]
        have : ¬ ((i : Int) = x) := by omega
        simp [this]
  intro l hl i hi
  unfold q8
  rw [this l _ (by simp) hl i hi]
  simp [hi]
theorem uE (n:Nat)(hn:n≤1000000)(im keep:List Int)(hi1:im.length≤1000000)(him:∀ x∈im,0≤x∧x<n):Pure Tryz.prog 231 [dI n,dLI im,dLI keep] (dLI (b5 (iW im keep) n)):=by
 refine Tz.pK ⟨fun t=>t==14||t==10,fun _=>[]⟩ Tryz.func231 rfl (fun Q hQ=>?_)
 have Y:=trivial
 refine wo (h:=bB (fun i e H=>∃ go:List Int,(e 0=dI n∧e 2=dLI keep∧e 15=dLI im∧e 16=dI im.length∧e 7=.own 0 n∧e 17=dI i)∧(H.get 0=some ⟨4,1,(q8 n go).map cB,false⟩)∧(0<H.next)∧(i≤im.length)∧((q8 n go).length=n)∧(go=((List.range i).filter fun (b:Nat)=>!mem keep b).map (fun i=>im[i]?.getD 0))) (fun i=>im.length - i) 0 ⟨([]),wg,(by (simp [go_sem,q8,cB])),wn,wi,(by (exact AT _ _)),(by rfl)⟩ fun I0 hI0 i e H hi0=>?_)
 obtain ⟨go,E0,g0_0,n0_0,hi,hgl,hx⟩:=hi0
 have Y:=wa Y (wa E0 (wa g0_0 (bY n0_0)))
 refine cT (fun h3=>?_) fun h3=>?_
 ·have hb:=him _ (aC h3)
  have hbl:im[i].toNat<(q8 n go).length:=by omega
  have Y:=wa Y (wa h3 (wa (aA h3) (aA hbl)))
  refine wo (h:=aB (fK keep i) wl ?_)
  refine dV (fun h5=>?_) fun h5=>?_
  ·have Y:=wa Y h5
   exact wo (h:=wx hI0 (i+1) ⟨(go++(if (!mem keep i)=true then [im[i]] else [])),wg,(by (simp [go_sem,Y,Dx,cG,cB])),wn,wj,(by (exact AT _ _)),(by (rw [nI _ _ h3,← hx]))⟩)
  ·have Y:=wa Y h5
   exact wo (h:=wx hI0 (i+1) ⟨(go++(if (!mem keep i)=true then [im[i]] else [])),wg,(by (simp [go_sem,Y,Dx,cG,cB])),wn,wj,(by (exact AT _ _)),(by (rw [nI _ _ h3,← hx]))⟩)
 ·have hgo:iW im keep=go:=by rw [hx,show i=im.length by omega];rfl
  have hgi:∀ x∈go,0≤x∧x<n:=fun x hxm=>by
   rw [← hgo,AW] at hxm
   obtain ⟨j,_,_,h⟩:=hxm
   exact him x (aH h)
  refine wo (h:=bB (fun k e H=>∃ xs:List Int,∃ b10:Nat,(e 0=dI n∧e 2=dLI keep∧e 15=dLI im∧e 16=dI im.length∧e 30=.own 0 n∧e 31=dI n∧e 32=dI k∧e 10=.own b10 xs.length)∧(H.get 0=some ⟨4,1,(q8 n go).map cB,false⟩)∧(0<H.next)∧(H.get b10=some ⟨3,1,xs.map cI,false⟩)∧(b10<H.next)∧(b10≠0)∧(k≤n)∧(xs.length≤k)∧(xs=((List.range k).filter fun (b:Nat)=>!mem go b).map (fun (b:Nat)=>(b:Int)))) (fun k=>n - k) 0 ⟨([]),H.next,wg,wn,wn,wn,wn,(by omega),wi,(by simp),(by rfl)⟩ fun I2 hI2 k e H hi2=>?_)
  obtain ⟨xs,b10,E2,g0_2,n0_2,gb10_2,nb10_2,hb0,hk,hl,hxx⟩:=hi2
  have di1:=cO (show 0≠b10 by omega)
  have Y:=wa Y (wa E2 (wa g0_2 (wa (bY n0_2) (wa gb10_2 (wa (bY nb10_2) (wa hgl di1))))))
  refine cT (fun h10=>?_) fun h10=>?_
  ·have hkm:k<(q8 n go).length:=by omega
   have hg:(q8 n go)[k]=mem go k:=by have:=MT n go hgi k h10;rw [aA hkm] at this;exact Option.some.inj this
   have Y:=wa Y (wa h10 (wa (aA hkm) hg))
   refine dV (fun h12=>?_) fun h12=>?_
   ·have Y:=wa Y h12
    exact wo (h:=wx hI2 (k+1) ⟨(xs++(if (!mem go k)=true then [(k:Int)] else [])),b10,wg,wn,wn,wn,wn,(by omega),wj,(by (rw [aT];split<;>simp<;>omega)),(by (rw [cH,← hxx]))⟩)
   ·have Y:=wa Y h12
    exact wo (h:=wx hI2 (k+1) ⟨(xs++(if (!mem go k)=true then [(k:Int)] else [])),b10,wg,wn,wn,wn,wn,(by omega),wj,(by (rw [aT];split<;>simp<;>omega)),(by (rw [cH,← hxx]))⟩)
  ·exact wv (h:=hQ _ _ (by simp [go_sem,Y,hgo,b5];rw [hxx,show k=n by omega];simp))
end Go.Abs
end
