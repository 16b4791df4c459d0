/- What matches, extensions and conditions come to (plain funct -/
import Derived.Test.YtbgbahlipnaflaaGreatZuAM
import Derived.Test.YtbgbahlipnaflaaGreatZuAG
import Derived.Test.YtbgbahlipnaflaaGreatZuAA
import Derived.Test.YtbgbahlipnaflaaGreatZuAK
set_option linter.unusedVariables false
set_option linter.unusedSimpArgs false
section
set_option maxRecDepth 100000
set_option maxHeartbeats 4000000
open Go Go.Proofs Tryz
namespace Go.Abs
structure Mat where
 m:Part
 vars:V2
def Mat.c (x:Mat):UN:=[dLI x.m.h,dLI x.m.j,dLI x.vars]
def Mat.d (x:Mat):D:=.agg x.c
@[go_sem] theorem Mat.Q (x:Mat):D.J x.c=true:=by simp [Mat.c,D.J,qO]
@[go_sem] theorem ac6 (l:List Mat):D.R (l.map Mat.c)=true:=dY _ Mat.Q l
def F6 (l:List Part):List Part × Int:=if 5000<(l.take 5001).length then ([],3) else (l.take 5001,0)
def mJ (t:Types)(p g:Graph)(inj:Bool):List Part × Int:=if eL t p g≠0 then ([],eL t p g) else F6 (yR ⟨t,p,g,List.replicate p.h.length (-1),List.replicate p.j.length (-1),inj⟩)
def CZ (n:Int)(l:V2)(i:Nat):Int:=if l[i]?.getD 0 < -1\/n<=l[i]?.getD 0 then 6 else 0
def oL (l:V2)(n:Int):Int:=bV (CZ n l) 0 l.length
def oS (t:Types)(p g:Graph)(q:Part)(inj:Bool):List Part × Int :=
 if eL t p g≠0 then ([],eL t p g)
 else if q.h.length≠p.h.length\/q.j.length≠p.j.length then ([],20)
 else if oL q.h g.h.length≠0 then ([],oL q.h g.h.length)
 else if oL q.j g.j.length≠0 then ([],oL q.j g.j.length)
 else F6 (yR ⟨t,p,g,q.h,q.j,inj⟩)
def Ag (n:Nat)(at_ im:V2):V2:=(List.range at_.length).foldl (λacc i=>acc.set (at_[i]?.getD 0).toNat (im[i]?.getD 0)) (List.replicate n (-1))
def qE (c:Part)(q:Pattern)(m:Part):Part:=⟨Ag q.i.h.length c.h m.h,Ag q.i.j.length c.j m.j⟩
def tP (q:Pattern)(h:Host)(vars:V2)(l:List Part):List Mat:=l.filterMap λx=>if (eX q h x vars).2=0 then some ⟨x,(eX q h x vars).1⟩ else none
def zI (t:Types)(c:Part)(q:Pattern)(h:Host)(m:Mat)(inj:Bool):List Mat × Int :=
 if (oS t q.i h.i (qE c q m.m) inj).2≠0 then ([],(oS t q.i h.i (qE c q m.m) inj).2)
 else (tP q h m.vars (oS t q.i h.i (qE c q m.m) inj).1,0)
/-! ### conditions: the first witness -/
inductive Prf where
 | mk (choice:Int) (m:Mat) (kids:List Prf)
mutual
def Prf.c:Prf→UN
 | .mk ch m l=>[dI ch,dLI m.m.h,dLI m.m.j,dLI m.vars,.list (Prf.cs l)]
def Prf.cs:List Prf→UE
 | []=>[]
 | p :: l=>p.c :: Prf.cs l
end
theorem Prf.b6 (l:List Prf):Prf.cs l=l.map Prf.c:=by
 induction l with
 | nil=>simp [Prf.cs]
 | cons a l ih=>simp [Prf.cs,ih]
theorem Prf.x (a:Int)(m:Mat)(l:List Prf):(Prf.mk a m l).c=[dI a,dLI m.m.h,dLI m.m.j,dLI m.vars,.list (l.map Prf.c)]:=by simp [Prf.c,Prf.b6]
mutual
theorem Prf.Q:∀ x:Prf,D.J x.c=true
 | .mk ch m l=>by
  have:=Prf.dz l;simp [Prf.c,D.J,D.Q,dI,qO,this]
theorem Prf.dz:∀ l:List Prf,D.R (Prf.cs l)=true
 | []=>by simp [Prf.cs,D.R]
 | c :: l=>by simp [Prf.cs,D.R,Prf.Q c,Prf.dz l]
end
attribute [go_sem] Prf.Q
@[go_sem] theorem acP (l:List Prf):D.R (l.map Prf.c)=true:=by rw [<- Prf.b6];exact Prf.dz l
mutual
theorem YC:∀ x:Prf,iU x.c=x.c
 | .mk ch m l=>by
  have:=M4 l;simp [Prf.c,iU,mL,dI,dLI,eY,this]
theorem M4:∀ l:List Prf,fD (Prf.cs l)=Prf.cs l
 | []=>by simp [Prf.cs,fD]
 | c :: l=>by simp [Prf.cs,fD,YC c,M4 l]
end
theorem gK (l:List Prf):fD (l.map Prf.c)=l.map Prf.c:=by rw [<- Prf.b6];exact M4 l
def jJ:Mat:=⟨⟨[],[]⟩,[]⟩
def kJ:Prf:=.mk 0 jJ []
def Wj (e:Int):Int:=if e=0 then 10 else if e=10 then 0 else e
def MU:List (Prf × Int)->List Prf->Prf × Int
 | [],acc=>(.mk 0 jJ acc,0)
 | (p,e) :: l,acc=>if e≠0 then (kJ,e) else MU l (acc++[p])
def Wb:List (Prf × Int)->Nat->Prf × Int
 | [],_=>(kJ,10)
 | (p,e) :: l,i=>if e≠10 then (.mk i jJ [p],e) else Wb l (i+1)
def Wz:List (Mat × (Prf × Int))->Prf × Int
 | []=>(kJ,10)
 | (m,(p,e)) :: l=>if e≠10 then (.mk 0 m [p],e) else Wz l
def O8 (fs:List (Mat->Prf × Int)):Mat->Prf × Int:=fs.head?.getD λ_=>(kJ,0)
mutual
def pX (t:Types)(h:Host)(inj:Bool):Cond→Mat→Prf × Int
 | .mk k l mp q=>fun m =>
  if k=2 then (kJ,Wj (O8 (EF t h inj l) m).2)
  else if k=3 then MU ((EF t h inj l).map fun f=>f m) []
  else if k=4 then Wb ((EF t h inj l).map fun f=>f m) 0
  else if k=5 then (if (zI t mp q h m inj).2≠0 then (kJ,(zI t mp q h m inj).2) else Wz ((zI t mp q h m inj).1.map fun x=>(x,O8 (EF t h inj l) x)))
  else (kJ,0)
def EF (t:Types)(h:Host)(inj:Bool):List Cond→List (Mat→Prf × Int)
 | []=>[]
 | c :: l=>pX t h inj c :: EF t h inj l
end
theorem T6 (t:Types)(h:Host)(inj:Bool)(l:List Cond):EF t h inj l=l.map (pX t h inj):=by
 induction l with
 | nil=>simp [EF]
 | cons a l ih=>simp [EF,ih]
theorem Cp (t:Types)(h:Host)(inj:Bool)(c:Cond)(m:Mat):pX t h inj c m =
  if c.B=2 then (kJ,Wj (O8 (c.u.map (pX t h inj)) m).2)
  else if c.B=3 then MU (c.u.map λk=>pX t h inj k m) []
  else if c.B=4 then Wb (c.u.map λk=>pX t h inj k m) 0
  else if c.B=5 then (if (zI t c.map c.l h m inj).2≠0 then (kJ,(zI t c.map c.l h m inj).2) else Wz ((zI t c.map c.l h m inj).1.map λx=>(x,O8 (c.u.map (pX t h inj)) x)))
  else (kJ,0):=by
 cases c;simp only [pX,T6,Cond.B,Cond.u,Cond.map,Cond.l,List.map_map];rfl
def Lu (t:Types)(h:Host)(inj:Bool)(c:Cond)(m:Mat):Int:=(pX t h inj c m).2
def l6 (t:Types)(h:Host)(inj:Bool)(c:Cond)(m:Mat):Bool × Int:=if Lu t h inj c m=10 then (false,0) else (decide (Lu t h inj c m=0),Lu t h inj c m)
/-! ### a step -/
def eF (t:Types)(p:Pattern)(h:Host)(m:Part):V2 × Int :=
 if c8 t p≠0 then ([],c8 t p) else if fM t h≠0 then ([],fM t h) else if checkE t p.i h.i m false≠0 then ([],checkE t p.i h.i m false) else eX p h m []
def fE (t:Types)(p:Pattern)(h:Host)(inj:Bool):List Mat × Int :=
 if c8 t p≠0 then ([],c8 t p) else if fM t h≠0 then ([],fM t h)
 else if (mJ t p.i h.i inj).2≠0 then ([],(mJ t p.i h.i inj).2) else (tP p h [] (mJ t p.i h.i inj).1,0)
def kU (p g:Graph)(m:Part):Graph:=⟨m.h.map (gN g),p.j⟩
def pE (t:Types)(r:Rule)(h:Host)(m:Mat):Int :=
 if checkE t r.left.i h.i m.m r.inj≠0 then 1
 else if (eF t r.left h m.m).2≠0 then (eF t r.left h m.m).2
 else if (eF t r.left h m.m).1≠m.vars then 11
 else oN (kU r.left.i h.i m.m) h.i r.q m.m
def kT (t:Types)(r:Rule)(h:Host)(m:Mat):Int :=
 if pE t r h m≠0 then pE t r h m
 else if (l6 t h r.inj r.cond m).2≠0 then (l6 t h r.inj r.cond m).2
 else if (l6 t h r.inj r.cond m).1=false then 16 else 0
def bW (r:Rule)(h:Host)(m:Mat):Part:=uD (kU r.left.i h.i m.m) h.i r.q m.m
def gY (l:V2)(n:Nat)(v:Int):Int:=(List.range n).foldl (λacc (k:Nat)=>if l[k]?.getD (-1)=v then (k:Int) else acc) (-1)
def mH (l:V2)(n:Nat):V2:=(List.range n).map λ(v:Nat)=>gY l l.length v
def BO (into:V2)(i:Nat):Nat:=((List.range i).filter λ(j:Nat)=>decide (gY into into.length j<0)).length
def Iu (keep into at_:V2)(remain:Nat)(i:Nat):Int:=if 0<=gY into into.length i then at_[(keep[(gY into into.length i).toNat]?.getD 0).toNat]?.getD 0 else ((remain+BO into i:Nat):Int)
def DQ (keep into at_:V2)(right remain:Nat):V2:=(List.range right).map (Iu keep into at_ remain)
def oP (d:V2)(n:Nat):V2:=mH d n
def dG (r:Rule)(h:Host)(m:Mat):Part:=⟨oP (bW r h m).h h.i.h.length,oP (bW r h m).j h.i.j.length⟩
def pY (l tr:V2):V2:=l.map λk=>tr[k.toNat]?.getD 0
def cT (r:Rule)(h:Host)(m:Mat):Part :=
 ⟨DQ r.q.h r.s.h (pY m.m.h (dG r h m).h) r.right.i.h.length (bW r h m).h.length,DQ r.q.j r.s.j (pY m.m.j (dG r h m).j) r.right.i.j.length (bW r h m).j.length⟩
def i4 (t:Types)(k:Int):V2:=(bQ t k).map λa=>a.ap
def freshE (c:Part)(y:Edge):Edge:=⟨y.type,c.h[y.w.toNat]?.getD 0,c.h[y.M.toNat]?.getD 0⟩
def j6 (t:Types)(r:Rule)(c:Part)(x:Host):Host :=
 ⟨⟨x.i.h++r.N.map (gN r.right.i),x.i.j++r.aa.map (λk=>freshE c (r.right.i.j[k.toNat]?.getD cY))⟩,x.k++r.N.map (λk=>i4 t (gN r.right.i k))⟩
def bS (t:Types)(r:Rule)(h:Host)(m:Mat):Host:=j6 t r (cT r h m) ⟨cO h.i (bW r h m),(bW r h m).h.map λk=>h.k[k.toNat]?.getD []⟩
def fT (c:Part)(s:Slot):Nat:=(c.h[s.node.toNat]?.getD 0).toNat
def Cf (c:Part)(vs:V2)(a b:Slot):Bool:=decide (fT c a=fT c b)&&(decide (a.H=b.H)&&decide (dM a.y vs≠dM b.y vs))
def uE (c:Part)(vs:V2)(l:List Slot):Bool:=(List.range l.length).any λi=>(List.range i).any λk=>match l[k]?,l[i]? with|some a,some b=>Cf c vs a b|_,_=>false
def yC (t:Types)(g:Graph)(c:Part)(vs:V2)(s:Slot):Bool :=
 let a:=(bQ t (g.h[fT c s]?.getD 0))[s.H.toNat]?.getD nJ
 decide (dM s.y vs<a.ap)||decide (a.a8<dM s.y vs)
def r8 (t:Types)(g:Graph)(c:Part)(vs:V2)(l:List Slot):Int:=if uE c vs l=true then 11 else if l.any (yC t g c vs)=true then 6 else 0
def uQ (c:Part)(vs:V2)(l:List Slot)(vals:Yb):Yb:=l.foldl (λvals s=>vals.set (fT c s) ((vals[fT c s]?.getD []).set s.H.toNat (dM s.y vs))) vals
def bM (t:Types)(r:Rule)(h:Host)(m:Mat):Host:=⟨(bS t r h m).i,uQ (cT r h m) m.vars r.right.o (bS t r h m).k⟩
def gS (t:Types)(r:Rule)(h:Host)(m:Mat):Int :=
 if kT t r h m≠0 then kT t r h m
 else if r8 t (bS t r h m).i (cT r h m) m.vars r.right.o≠0 then r8 t (bS t r h m).i (cT r h m) m.vars r.right.o
 else if 40<(bS t r h m).i.h.length\/80<(bS t r h m).i.j.length then 3 else 0
structure Stp26 where
 G:Rule
 V:Mat
 L:Host
 after:Host
 U:Part
 A:Part
def Stp26.c (s:Stp26):UN:=s.G.c++s.V.c++s.L.c++s.after.c++[dLI s.U.h,dLI s.U.j,dLI s.A.h,dLI s.A.j]
def f9 (t:Types)(r:Rule)(h:Host):Int:=if ruleF t r≠0 then ruleF t r else fM t h
def lL (t:Types)(r:Rule)(h:Host)(m:Mat):Int:=if f9 t r h≠0 then f9 t r h else gS t r h m
def aP (t:Types)(r:Rule)(h:Host)(m:Mat):Stp26:=⟨r,m,h,bM t r h m,dG r h m,cT r h m⟩
def o7 (t:Types)(r:Rule)(h:Host):List Mat × Int :=
 if f9 t r h≠0 then ([],f9 t r h) else if (fE t r.left h r.inj).2≠0 then ([],(fE t r.left h r.inj).2) else ((fE t r.left h r.inj).1.filter λm=>decide (gS t r h m=0),0)
theorem tM {t:Types}(b:(dA t).2=0){a:Int}(d:0<=a)(c:a<t.h.length):bQ t a=t.r a.toNat:=by
 unfold bQ;rw [if_pos];simp [given2F,b,insideF,d,c]
theorem n5 {t:Types}(b:(dA t).2=0)(a:Int):(bQ t a).length<=8:=by
 by_cases h:0<=a/\a<t.h.length
 .rw [tM b h.1 h.2];exact (mX b).r _ aD
 .unfold bQ;rw [if_neg (by simp [given2F,b,insideF];omega)];simp
theorem DC {t:Types}(b:(dA t).2=0)(a:Int):∀ x∈bQ t a,SmallA x:=by
 by_cases h:0<=a/\a<t.h.length
 .rw [tM b h.1 h.2];exact PH b _ aD
 .unfold bQ;rw [if_neg (by simp [given2F,b,insideF];omega)];simp
structure HostOk (t:Types) (h:Host):Prop where
 vf:(dA t).2=0
 gg:graphF h.i=0
 vl:h.k.length=h.i.h.length
 nd:∀ (i:Nat) (hi:i<h.i.h.length) (hv:i<h.k.length),i5 t h.i.h[i] h.k[i]=0
 ed:∀ x∈h.i.j,x.type<t.j.length/\pP t x.type (gN h.i x.w) (gN h.i x.M)=true
theorem nB {t:Types}{h:Host}(a:fM t h=0):HostOk t h:=by
 unfold fM l5 at a;split at a
 .rename_i h1;exact absurd a h1
 .rename_i h1;split at a
  .rename_i h2;exact absurd a h2
  .rename_i h2;split at a
   .cases a
   .rename_i h3;split at a
    .rename_i h4;exact absurd a h4
    .rename_i h4;rw [iG] at h4;rw [vJ] at h4 a;refine ⟨aD,aD,aD,λi e c=>?_,λx b=>?_⟩
     .have:=eZ _ _ h4 i (eP _) aD;simpa only [FW,aA e,aA c,Option.getD_some] using this
     .obtain ⟨k,d,rfl⟩:=aN b;have:=eZ _ _ a k (eP _) aD;simp only [Tx,aA d,Option.getD_some] at this;split at this
      .cases this
      .split at this
       .exact ⟨aD,by assumption⟩
       .cases this
theorem qK {t:Types}{k:Int}{vs:V2}(h:i5 t k vs=0):k<t.h.length/\xO t k.toNat=false/\vs.length=(bQ t k).length /\
  ∀ (j:Nat) (a:j<vs.length) (b:j<(bQ t k).length),(bQ t k)[j].ap<=vs[j]/\vs[j]<=(bQ t k)[j].a8:=by
 unfold i5 at h;split at h
 .cases h
 .rename_i h1;split at h
  .cases h
  .rename_i h2;split at h
   .cases h
   .rename_i h3;refine ⟨aD,by simpa using h2,aD,λj a b=>?_⟩;have:=eZ _ _ h j (eP _) aD;simp only [C6,aA a,aA b,Option.getD_some] at this;split at this
    .cases this
    .omega
theorem HostOk.row {t:Types}{h:Host}(ho:HostOk t h):∀ v∈h.k,v.length<=8/\∀ x∈v,-1000000<=x/\x<=1000000:=λv hv=>by
 obtain ⟨i,hi,rfl⟩:=aN hv;have hn:=ho.vl;obtain ⟨h1,h2,h3,h4⟩:=qK (ho.nd i aD hi);have hl:=n5 ho.vf (h.i.h[i]' aD);refine ⟨aD,λx hx=>?_⟩;obtain ⟨j,hj,rfl⟩:=aN hx;have:=h4 j hj aD;have hs:=DC ho.vf _ _ (aC (show j<(bQ t (h.i.h[i]' aD)).length by omega));have:=hs.lo;have:=hs.hi;omega
/-! ### a host in owned slices -/
def lZ (qs:List Nat)(vs:Yb):UE:=List.zipWith (λq (v:V2)=>[D.own q v.length]) qs vs
theorem j9 {a:List Nat}{vs:Yb}(h:a.length=vs.length):(lZ a vs).length=vs.length:=by simp [lZ,h]
theorem xZ {a:List Nat}{vs:Yb}(h:a.length=vs.length)(q:Nat)(v:V2):lZ (a++[q]) (vs++[v])=lZ a vs++[[.own q v.length]]:=by
 simp [lZ,List.zipWith_append h]
theorem tE {a:List Nat}{vs:Yb}{i q:Nat}{v:V2}(c:a[i]?=some q)(b:vs[i]?=some v):(lZ a vs)[i]?=some [.own q v.length]:=by
 simp [lZ,List.getElem?_zipWith,c,b]
theorem SM {a:List Nat}{vs:Yb}{i:Nat}{v b:V2}(c:vs[i]?=some v)(d:b.length=v.length):lZ a (vs.set i b)=lZ a vs:=by
 apply iF;intro j;simp only [lZ,List.getElem?_zipWith,eI];by_cases h:i=j
 .subst h;have e:=(aO.1 c).1;rw [if_pos rfl,if_pos e,c];cases a[i]?<;>simp [d]
 .rw [if_neg h]
structure HH (H:AHeap) (lo a b V:Nat) (qs:List Nat) (h:Host):Prop where
 ga:H.get a=some ⟨3,1,h.i.h.map cI,false⟩
 gb:H.get b=some ⟨145,3,h.i.j.map Edge.c,false⟩
 gV:H.get V=some ⟨26,1,lZ qs h.k,false⟩
 len:qs.length=h.k.length
 gq:∀ (i q:Nat) (v:V2),qs[i]?=some q->h.k[i]?=some v->H.get q=some ⟨3,1,v.map cI,false⟩
 nd:(a :: b :: V :: qs).Nodup
 W:∀ q∈a :: b :: V :: qs,lo<=q/\q<H.next
section
variable {H H':AHeap} {lo a b V:Nat} {qs:List Nat} {x:Host}
theorem HH.bq (h:HH H lo a b V qs x):a∈a :: b :: V :: qs:=aE
theorem HH.bp (h:HH H lo a b V qs x):b∈a :: b :: V :: qs:=aE
theorem HH.bw (h:HH H lo a b V qs x):V∈a :: b :: V :: qs:=aE
theorem HH.bi (h:HH H lo a b V qs x){q:Nat}(c:q∈qs):q∈a :: b :: V :: qs:=by simp [c]
theorem HH.ab (h:HH H lo a b V qs x):a≠b/\a≠V/\b≠V:=by
 have:=h.nd;simp only [iS,aV,not_or] at this;exact ⟨this.1.1,this.1.2.1,this.2.1.1⟩
theorem HH.qn (h:HH H lo a b V qs x){q:Nat}(c:q∈qs):q≠a/\q≠b/\q≠V:=by
 have:=h.nd;simp only [iS,aV,not_or] at this;exact ⟨λe=>this.1.2.2 (e ▸ c),λe=>this.2.1.2 (e ▸ c),λe=>this.2.2.1 (e ▸ c)⟩
theorem HH.gj (h:HH H lo a b V qs x){lo':Nat}(hl:lo'<=lo):HH H lo' a b V qs x:=⟨h.ga,h.gb,h.gV,h.len,h.gq,h.nd,λq hq=>⟨fB hl (h.W q hq).1,(h.W q hq).2⟩⟩
theorem HH.same (h:HH H lo a b V qs x)(hn:H.next<=H'.next)(hf:∀ j∈a :: b :: V :: qs,H'.get j=H.get j):HH H' lo a b V qs x where
 ga:=(hf a h.bq).trans h.ga
 gb:=(hf b h.bp).trans h.gb
 gV:=(hf V h.bw).trans h.gV
 len:=h.len
 gq i q v h1 h2:=(hf q (h.bi (aK h1))).trans (h.gq i q v h1 h2)
 nd:=h.nd
 W q hq:=⟨(h.W q hq).1,dC (h.W q hq).2 hn⟩
theorem HH.h (h:HH H lo a b V qs x)(hn:H.next<=H'.next){ns:V2}(ga:H'.get a=some ⟨3,1,ns.map cI,false⟩)(hf:∀ j∈b :: V :: qs,H'.get j=H.get j):HH H' lo a b V qs ⟨⟨ns,x.i.j⟩,x.k⟩ where
 ga:=ga
 gb:=(hf b aE).trans h.gb
 gV:=(hf V aE).trans h.gV
 len:=h.len
 gq i q v h1 h2:=(hf q (by simp [aK h1])).trans (h.gq i q v h1 h2)
 nd:=h.nd
 W q hq:=⟨(h.W q hq).1,dC (h.W q hq).2 hn⟩
theorem HH.j (h:HH H lo a b V qs x)(hn:H.next<=H'.next){es:List Edge}(gb:H'.get b=some ⟨145,3,es.map Edge.c,false⟩)(hf:∀ j∈a :: V :: qs,H'.get j=H.get j):HH H' lo a b V qs ⟨⟨x.i.h,es⟩,x.k⟩ where
 ga:=(hf a aE).trans h.ga
 gb:=gb
 gV:=(hf V aE).trans h.gV
 len:=h.len
 gq i q v h1 h2:=(hf q (by simp [aK h1])).trans (h.gq i q v h1 h2)
 nd:=h.nd
 W q hq:=⟨(h.W q hq).1,dC (h.W q hq).2 hn⟩
theorem HH.c4 (h:HH H lo a b V qs x)(hn:H.next<=H'.next){q:Nat}{v:V2}(hlo:lo<=q)(hq:∀ j∈a :: b :: V :: qs,j≠q)(hq2:q<H'.next)(gq:H'.get q=some ⟨3,1,v.map cI,false⟩)
  (gV:H'.get V=some ⟨26,1,lZ qs x.k++[[.own q v.length]],false⟩) (hf:∀ j∈a :: b :: qs,H'.get j=H.get j):HH H' lo a b V (qs++[q]) ⟨x.i,x.k++[v]⟩ where
 ga:=(hf a aE).trans h.ga
 gb:=(hf b aE).trans h.gb
 gV:=by rw [xZ h.len];exact gV
 len:=by simp [h.len]
 gq i q' v' h1 h2:=by
  by_cases hi:i<qs.length
  .rw [aS hi] at h1;rw [aS (by rw [<- h.len];exact hi)] at h2;exact (hf q' (by simp [aK h1])).trans (h.gq i q' v' h1 h2)
  .have h1':=(aO.1 h1).1;have:i=qs.length:=by simp at h1';omega
   subst this;simp at h1;rw [h.len] at h2;simp at h2;subst h1 h2;exact gq
 nd:=by
  have:=h.nd;have e:a :: b :: V :: (qs++[q])=(a :: b :: V :: qs)++[q]:=rfl;rw [e,oU];exact ⟨this,by simp,λy hy z hz=>by rw [bP] at hz;subst hz;exact hq y hy⟩
 W j hj:=by
  have e:a :: b :: V :: (qs++[q])=(a :: b :: V :: qs)++[q]:=rfl;rw [e,aZ,bP] at hj;rcases hj with hj|rfl
  .exact ⟨(h.W j hj).1,dC (h.W j hj).2 hn⟩
  .exact ⟨hlo,hq2⟩
theorem HH.ea (h:HH H lo a b V qs x)(hn:H.next<=H'.next){i q:Nat}{v v':V2}(h1:qs[i]?=some q)(h2:x.k[i]?=some v)(hl:v'.length=v.length)(gq:H'.get q=some ⟨3,1,v'.map cI,false⟩)
  (hf:∀ j∈a :: b :: V :: qs,j≠q->H'.get j=H.get j):HH H' lo a b V qs ⟨x.i,x.k.set i v'⟩ where
 ga:=(hf a h.bq (Ne.symm (h.qn (aK h1)).1)).trans h.ga
 gb:=(hf b h.bp (Ne.symm (h.qn (aK h1)).2.1)).trans h.gb
 gV:=by rw [SM h2 hl];exact (hf V h.bw (Ne.symm (h.qn (aK h1)).2.2)).trans h.gV
 len:=by simp [h.len]
 gq j q' w k1 k2:=by
  have hqn:qs.Nodup:=by have:=h.nd;simp only [iS] at this;exact this.2.2.2
  rw [eI] at k2;by_cases hj:i=j
  .subst hj;rw [h1] at k1;cases k1
   rw [if_pos rfl] at k2;split at k2
   .cases k2;exact gq
   .cases k2
  .rw [if_neg hj] at k2;refine (hf q' (h.bi (aK k1)) λe=>hj ?_).trans (h.gq j q' w k1 k2);subst e;obtain ⟨a1,a2⟩:=aO.1 h1;obtain ⟨b1,b2⟩:=aO.1 k1;exact (jZ hqn).1 (a2.trans b2.symm)
 nd:=h.nd
 W q hq:=⟨(h.W q hq).1,dC (h.W q hq).2 hn⟩
theorem HH.gB (h:HH H lo a b V qs x):(lZ qs x.k).map (·.map (fW H))=x.k.map cL:=by
 apply iF;intro i;simp only [aM];by_cases d:i<x.k.length
 .have hq:i<qs.length:=by rw [h.len];exact d
  have c:=aA d;have e:=aA hq;rw [tE e c,c];have:=h.gq i _ _ e c;simp [fW,this,cL,dLI]
 .rw [bY (by rw [j9 h.len];omega),bY aD];rfl
theorem HH.cN (h:HH H lo a b V qs x):kQ H (.agg [.own a x.i.h.length,.own b x.i.j.length,.own V x.k.length])=x.d:=by
 have j:∀ l:UE,(∀ c∈l,∀ y∈c,∀ i n,y≠D.own i n/\∀ p q r,y≠D.win i p q r)->l.map (·.map (fW H))=l:=λl g=>by
  conv=>rhs;rw [<- List.map_id l]
  refine cH λc f=>?_;conv=>rhs;rw [id,<- List.map_id c]
  refine cH λy e=>?_;cases y<;>first|rfl|(exfalso;first|exact (g c f _ e _ _).1 rfl|exact (g c f _ e _ 0).2 _ _ _ rfl)
 simp only [kQ,qX,iX,jY,h.ga,h.gb,h.gV,aR,j9 h.len,if_true,h.gB];rw [j (x.i.h.map cI) (λc f y e i n=>by
  rw [aX] at f;obtain ⟨z,_,rfl⟩:=f;simp [cI] at e;subst e;simp),j (x.i.j.map Edge.c) (λc f y e i n=>by
  rw [aX] at f;obtain ⟨z,_,rfl⟩:=f;simp [Edge.c,dI] at e;rcases e with rfl|rfl|rfl<;>simp)]
 rfl
theorem O5 {l:UE}(d:∀ c∈l,∀ y∈c,l9 y=[]):l.flatten.flatMap l9=[]:=by
 rw [lD];intro i a;rw [bT] at a;obtain ⟨y,b,a⟩:=a;rw [jX] at b;obtain ⟨c,e,b⟩:=b;rw [d c e y b] at a;cases a
theorem HH.hr (h:HH H lo a b V qs x)(n m k:Nat)(e:Int):∀ i∈By H (.tup [.agg [.own a n,.own b m,.own V k],dI e]),i∈a :: b :: V :: qs:=by
 intro i hi;have l:(x.i.h.map cI).flatten.flatMap l9=[]:=O5 λc f y d=>by
  rw [aX] at f;obtain ⟨z,_,rfl⟩:=f;simp [cI] at d;subst d;rfl
 have g:(x.i.j.map Edge.c).flatten.flatMap l9=[]:=O5 λc f y d=>by
  rw [aX] at f;obtain ⟨z,_,rfl⟩:=f;simp [Edge.c,dI] at d;rcases d with rfl|rfl|rfl<;>rfl
 simp only [By,HZ,Mr,oV,JU,h.ga,h.gb,h.gV,l,g,dI,l9,dL,aZ,aV,gH,or_false] at hi;rcases hi with rfl|rfl|rfl|hi
 .exact h.bq
 .exact h.bp
 .exact h.bw
 .rw [bT] at hi;obtain ⟨y,d,hi⟩:=hi;rw [jX] at d;obtain ⟨c,f,d⟩:=d;simp only [lZ] at f;obtain ⟨j,o,rfl⟩:=aN f;rw [List.getElem_zipWith,bP] at d;subst d;simp only [l9,bP] at hi;subst hi;exact h.bi (aC _)
end
theorem PO (h:Host):D.J h.c=true:=by simp [Host.c,D.J,D.Q,qO,xD];exact dY _ (λv=>by simp [cL,D.J,qO]) _
@[go_sem] theorem Host.hb (h:Host):h.d.Q=true:=by simp [Host.d,D.Q,PO]
/-! ### Extract -/
def Yi (t:Types)(h:Host)(p:Part):Int:=if fM t h≠0 then fM t h else subF h.i p
def VL (t:Types)(h:Host)(p:Part):Host:=if Yi t h p=0 then ⟨cO h.i p,p.h.map λk=>h.k[k.toNat]?.getD []⟩ else ⟨⟨[],[]⟩,[]⟩
theorem Ju (t:Types)(J:t.ok)(h:Host)(p:Part)(O:p.h.length<=1000000)(C:p.j.length<=1000000):Pua 174 [t.d,h.d,p.d] (.tup [(VL t h p).d,dI (Yi t h p)]):=by
 refine Tz.pK ⟨λt=>t==6||t==10||t==11||t==13||t==48,λr=>match r with|11=>[(0,2),(1,2),(2,3),(2,4),(2,5),(2,6),(2,8),(2,9),(2,10),(2,11),(0,12),(1,12),(0,13),(1,13)]|_=>[]⟩ func174 rfl (λQ E=>?_);have Y:=wa @Host.d.eq_1 @Host.c.eq_1;refine wv (h:=aB (jH t J h) wl ?_);refine dR (λT=>?_) λT=>?_
 .have z:Yi t h p=(l5 t h).2:=by unfold Yi;rw [if_pos (by unfold fM;omega)];rfl
  have q:VL t h p=⟨⟨[],[]⟩,[]⟩:=by unfold VL;rw [if_neg aD]
  exact wv (h:=E _ _ (by simp [go_sem,z,q,dLI]))
 .have h0:fM t h=0:=by unfold fM;omega
  have z:Yi t h p=subF h.i p:=by unfold Yi;rw [if_neg aD]
  have B:=nB h0;have o:=B.row;have P:=bI B.gg;have I:=B.vl;refine wv (h:=aB (Br h.i p O C) wl ?_);refine dR (λS=>?_) λS=>?_
  .have q:VL t h p=⟨⟨[],[]⟩,[]⟩:=by unfold VL;rw [if_neg aD]
   exact wv (h:=E _ _ (by simp [go_sem,z,q,dLI]))
  .have h5':subF h.i p=0:=aD;obtain ⟨M,L,A,K⟩:=nE h5';have R:E9 h.i p=p:=by unfold E9;rw [if_pos h5']
   have q:VL t h p=⟨cO h.i p,p.h.map λk=>h.k[k.toNat]?.getD []⟩:=by unfold VL;rw [if_pos aD]
   have Y:=xa4 Y R @Part.d.eq_1 @Part.c.eq_1 @Graph.d.eq_1 @Graph.c.eq_1;refine wv (h:=rE (Ghosts.step (Ghosts.refl _) 3 0 2 26 1 _ _ ((by simp [go_sem];rfl)) rfl rfl rfl) (λi e H=>∃ a:Yb,(e 3=.adr t.c/\e 4=.adr h.c/\e 5=.adr p.c/\e 6=.ptr 0 1 0 0/\e 10=.ptr 1 1 0 0/\e 11=.ptr 2 1 0 0/\e 13=.ptr 3 1 0 0/\e 14=dI i)/\(H.get 0=some ⟨44,3,[[.nil,.nil,.nil]],false⟩)/\(0<H.next)/\(H.get 1=some ⟨29,2,[(cO h.i p).c],false⟩)/\(1<H.next)/\(H.get 2=some ⟨36,2,[p.c],false⟩)/\(2<H.next)/\(H.get 3=some ⟨44,3,[[dLI (cO h.i p).h,.list ((cO h.i p).j.map Edge.c),.own 4 a.length]],false⟩)/\(3<H.next)/\(H.get 4=some ⟨26,1,a.map cL,false⟩)/\(4<H.next)/\(i<=p.h.length)/\(a=(p.h.take i).map λk=>h.k[k.toNat]?.getD [])/\(a.length=i)) (λi=>p.h.length - i) 0 ⟨([]),wg,wn,wn,wn,wn,wn,wn,wn,wn,wn,wn,wi,(by rfl),(by rfl)⟩ λW F i e H D=>?_);obtain ⟨a,U,y,m,x,l,w,j,v,g,u,f,V,n,G⟩:=D;have Y:=xb0 Y U y (cW m) x (cW l) w (cW j) v (cW g) u (cW f);refine mA (λs=>?_) λs=>?_
   .have hk:=A _ (aC s);have b:p.h[i].toNat<h.k.length:=aD;have N:=(o _ (aC b)).1;have Y:=xa3 Y s (aA s) (aA b) @cL.eq_1;exact wp (h:=wx F (i+1) ⟨(a++[h.k[p.h[i].toNat]]),wg,wn,wn,wn,wn,wn,wn,wn,wn,wn,wn,wj,(by rw [j5 _ s,<- n,aA b];rfl),(by simp;omega)⟩)
   .have hVS:a=p.h.map λk=>h.k[k.toNat]?.getD []:=by rw [n,lH _ aD]
    exact wv (h:=E _ _ (by simp [go_sem,Y,z,q,h5',hVS,cL]))
theorem Jv (h:Host)(hn:h.i.h.length<=100000)(he:h.i.j.length<=100000)(hv:h.k.length<=100000)(S:∀ v∈h.k,v.length<=100000)(G:AHeap)(Q:D->AHeap->Prop)
  (hQ:∀ a b V qs H',HH H' G.next a b V qs h->(∀ j,j<G.next->H'.get j=G.get j)->G.next<=H'.next->Q (.agg [.own a h.i.h.length,.own b h.i.j.length,.own V h.k.length]) H'):ACalls prog 98 [h.d] G Q:=by
 refine (Tz.cK ⟨λt=>t==2||t==3||t==18||t==1000001,λr=>match r with|5=>[(0,2),(1,2),(2,3),(2,4),(2,6),(2,7),(0,8),(1,8),(0,9),(1,9)]|_=>[]⟩ func98 rfl ?_);have Y:=wa @Host.d.eq_1 @Host.c.eq_1;refine wv (h:=?_);unfold f7;refine Bt h.i aD aD _ _ (λa b g ha W Z X U C B u y=>?_);simp [go_sem] at ha W y;have o:=u G.next (by simp [go_sem]);simp [go_sem] at o;have s:∀ j,j<G.next->g.get j=G.get j:=λj hj=>by
  rw [u j (by simp [go_sem];omega)];simp [go_sem,(aD:j≠G.next)]
 have M:=nxs g.next;have I:=xa1 (cW (aD:a<g.next)) (cW (aD:b<g.next)) (cW (aD:G.next<g.next));have K:=xa1 (dZ (aD:G.next≠b)) (dZ (aD:G.next≠a)) (dZ (aD:b≠a));have Y:=xa5 Y I K C B o M;refine wv (h:=rE (Ghosts.step (Ghosts.refl _) g.next 0 2 26 1 _ _ ((by simp [go_sem];rfl)) rfl rfl rfl) (λi e H=>∃ R:Nat,∃ c:Nat,∃ V:Nat,∃ qs:List Nat,(e 1=.adr h.c/\e 2=.ptr R 1 0 0/\e 3=.ptr c 1 0 0/\e 4=dI i)/\(H.get R=some ⟨44,3,[[.nil,.nil,.nil]],false⟩)/\(R<H.next)/\(H.get c=some ⟨44,3,[[.own a h.i.h.length,.own b h.i.j.length,.own V i]],false⟩)/\(c<H.next)/\(H.get V=some ⟨26,1,lZ qs (h.k.take i),false⟩)/\(V<H.next)/\(i<=h.k.length)/\(HH H (G.next+1) a b V qs ⟨h.i,h.k.take i⟩)/\((a<c/\b<c/\c<V/\V<H.next/\R<a/\R<b/\R<c/\G.next<=R))/\(∀ q∈qs,V<q)/\(∀ j,j<G.next->H.get j=G.get j)/\(G.next<=H.next)) (λi=>h.k.length - i) 0 ⟨G.next,g.next,(g.next+1),([]),wg,wn,wn,wn,wn,(by simp [go_sem,Y,lZ]),wn,wi,(by refine ⟨by simp [go_sem,Y],by simp [go_sem,Y],by simp [go_sem,lZ],rfl,by simp,by simp;omega,by simp [go_sem];omega⟩),(by simp [go_sem];omega),(by intro q n;cases n),(by intro j hj;simp [go_sem,(aD:j≠g.next),(aD:j≠g.next+1)];exact s j hj),(by simp [go_sem];omega)⟩ λI0 F i e H A=>?_);obtain ⟨R,c,V,qs,E0,gR_0,nR_0,w,l,gV_0,nV_0,hi,f,hc,n,L,T⟩:=A;have J:=xa8 (dZ (aD:R≠V)) (dZ (aD:R≠c)) (dZ (aD:R≠b)) (dZ (aD:R≠a)) (dZ (aD:V≠c)) (dZ (aD:V≠b)) (dZ (aD:V≠a)) (dZ (aD:c≠b)) (dZ (aD:c≠a)) (dZ (aD:b≠a));have Y:=xa8 Y @Host.c.eq_1 E0 gR_0 (cW nR_0) w (cW l) gV_0 (cW nV_0) J;refine mA (λk=>?_) λk=>?_
 .have hr8:=S _ (aC k);have p:∀ j∈a :: b :: qs,j≠V/\j≠c/\j<H.next:=λj hj=>by
   simp only [aV] at hj;rcases hj with rfl|rfl|hj
   .exact ⟨aD,aD,(f.W _ f.bq).2⟩
   .exact ⟨aD,aD,(f.W _ f.bp).2⟩
   .have:=n j hj;exact ⟨aD,aD,(f.W _ (f.bi hj)).2⟩
  have x:(lZ qs (h.k.take i)).length=i:=by rw [j9 f.len];simp;omega
  have Y:=xa3 Y k (aA k) @cL.eq_1 x;exact wp (h:=wx F (i+1) ⟨R,c,V,(qs++[H.next+2]),wg,wn,wn,wn,wn,(by rw [List.take_succ_eq_append_getElem k,xZ f.len];simp [go_sem,Y,cL]),wn,wj,(by rw [List.take_succ_eq_append_getElem k];exact f.c4 (by first|(simp [go_sem];done)|(simp [go_sem];omega)) aD (λj hj=>by have:=(f.W j hj).2;omega) (by simp [go_sem]) (by simp [go_sem,Y]) (by simp [go_sem,Y,cL]) (λj hj=>by obtain ⟨P,O,N⟩:=p j hj;simp [go_sem,P,O,cW N])),(by simp [go_sem];omega),(by intro q m;rw [aZ,bP] at m;rcases m with h1|rfl;exact n q h1;omega),(by intro j hj;simp [go_sem,(aD:j≠H.next+2),(aD:j≠V),(aD:j≠c)];exact L j hj),(by simp [go_sem];omega)⟩)
 .rw [aG aD] at f;have z:i=h.k.length:=aD;have E:∀ j∈a :: b :: V :: qs,j≠R:=λj hj=>by
   simp only [aV] at hj;rcases hj with rfl|rfl|rfl|hj
   .omega
   .omega
   .omega
   .have:=n j hj;omega
  refine wv (h:=?_);rw [z];exact hQ a b V qs _ ((f.gj aD).same (by simp [go_sem]) (λj hj=>by simp [go_sem,E j hj])) (λj hj=>by simp [go_sem,(aD:j≠R)];exact L j hj) (by simp [go_sem];omega)
/-! ### exact numbers -/
def He (l l1:List Nat)(j:Nat):Nat:=if j∈l then l1[l.idxOf j]?.getD 0 else j
theorem CI {l a:List Nat}(e:l.Nodup){i j b:Nat}(h:l[i]?=some j)(f:a[i]?=some b):He l a j=b:=by
 obtain ⟨c,d⟩:=aO.1 h;unfold He;rw [if_pos (d ▸ aC c)];have:l.idxOf j=i:=by rw [<- d];exact e.idxOf_getElem i c
 rw [this,f];rfl
theorem zX {l a:List Nat}{j:Nat}(h:j∉l):He l a j=j:=by unfold He;rw [if_neg h]
theorem Aj {τ:Nat->Nat}{l:UE}(b:∀ c∈l,∀ y∈c,BJ τ y=y):l.map (·.map (BJ τ))=l:=by
 conv=>rhs;rw [<- List.map_id l]
 refine cH λc d=>?_;conv=>rhs;rw [id,<- List.map_id c]
 exact cH λy a=>b c d y a
theorem HH.exact {H H1 E:AHeap}{lo a0 a b V a1 b1 V1:Nat}{N t:List Nat}{x:Host}(G:HH E lo a b V N x)(M:HH H1 a0 a1 b1 V1 t x)
  (a2:∀ j,H.D j->j<H.next) (O:∀ j,¬ H.D j->H.get j=none) (FW:H.next<=E.next)
  (g:∀ j,E.D j↔H.D j\/j∈a :: b :: V :: N) (Y:∀ j,H.D j->j∉a :: b :: V :: N->H1.get j=H.get j) (Q:∀ j,j∉a :: b :: V :: N->E.get j=H.get j)
  (f:∀ (i j F:Nat),(a :: b :: V :: N)[i]?=some j->(a1 :: b1 :: V1 :: t)[i]?=some F->(H.D j->F=j)/\(¬ H.D j->¬ H.D F)) :
  ∃ τ,Exact H H1 E τ/\.agg [.own a1 x.i.h.length,.own b1 x.i.j.length,.own V1 x.k.length]=Ut τ (.agg [.own a x.i.h.length,.own b x.i.j.length,.own V x.k.length])/\okC E.D (.agg [.own a x.i.h.length,.own b x.i.j.length,.own V x.k.length]):=by
 obtain ⟨l,A⟩:=c6 (a :: b :: V :: N);obtain ⟨D,w⟩:=c6 (a1 :: b1 :: V1 :: t);have u:=G.nd;have P:=M.nd;have W:=G.W;rw [<- A] at g Y Q f u W;rw [<- w] at f P;have a3:D.length=l.length:=by rw [A,w];simp [M.len,G.len]
 have o:∀ j∈l,∃ i F,l[i]?=some j/\D[i]?=some F/\He l D j=F:=λj B=>by
  obtain ⟨i,C,L⟩:=aN B;have m:l[i]?=some j:=by rw [aA C,L]
  have n:=aA (aD:i<D.length);exact ⟨i,_,m,n,CI u m n⟩
 have ra:He l D a=a1:=CI u (i:=0) (by rw [A];rfl) (by rw [w];rfl);have rb:He l D b=b1:=CI u (i:=1) (by rw [A];rfl) (by rw [w];rfl);have rV:He l D V=V1:=CI u (i:=2) (by rw [A];rfl) (by rw [w];rfl);have rq:∀ i q q1,N[i]?=some q->t[i]?=some q1->He l D q=q1:=λi q q1 e m=>CI u (i:=i+3) (by rw [A];exact e) (by rw [w];exact m);have cI_ren:∀ (v:V2),(v.map cI).map (·.map (BJ (He l D)))=v.map cI:=λv=>Aj λc r y s=>by
  rw [aX] at r;obtain ⟨z,_,rfl⟩:=r;simp [cI] at s;subst s;rfl
 have cI_ok:∀ (v:V2),∀ c∈v.map cI,∀ y∈c,Y5 E.D y:=λv c r y s=>by
  rw [aX] at r;obtain ⟨z,_,rfl⟩:=r;simp [cI] at s;subst s;rfl
 refine ⟨He l D,⟨λj B=>?_,λi j C B L=>?_,λj B=>⟨(g j).2 (.inl B),?_⟩,λj B=>?_,λj k I=>?_⟩,?_,?_⟩
 .rcases (g j).1 B with h|h
  .exact dC (a2 j h) FW
  .exact (W j h).2
 .by_cases hi2:i∈l<;>by_cases d:j∈l
  .obtain ⟨p,S,m,n,R⟩:=o i hi2;obtain ⟨p',F,f1,f2,f3⟩:=o j d;rw [R,f3] at L;subst L;obtain ⟨u1,u2⟩:=aO.1 n;obtain ⟨v1,v2⟩:=aO.1 f2;have:p=p':=(jZ P).1 (u2.trans v2.symm);subst this;rw [m] at f1;cases f1;rfl
  .obtain ⟨p,S,m,n,R⟩:=o i hi2;rw [R,zX d] at L;subst L;have J:H.D S:=(((g S).1 B).resolve_right d);by_cases K:H.D i
   .exact ((f p i S m n).1 K).symm
   .exact absurd J ((f p i S m n).2 K)
  .obtain ⟨p,F,m,n,R⟩:=o j d;rw [R,zX hi2] at L;subst L;have K:H.D i:=(((g i).1 C).resolve_right hi2);by_cases J:H.D j
   .exact (f p j i m n).1 J
   .exact absurd K ((f p j i m n).2 J)
  .rwa [zX hi2,zX d] at L
 .by_cases d:j∈l
  .obtain ⟨p,F,m,n,R⟩:=o j d;rw [R];exact (f p j F m n).1 B
  .exact zX d
 .have h2:¬ H.D j/\j∉l:=⟨λh=>B ((g j).2 (.inl h)),λh=>B ((g j).2 (.inr h))⟩;rw [Q j h2.2];exact O j h2.1
 .by_cases d:j∈l
  .right
   have T:=d;rw [A,aV,aV,aV] at T;rcases T with rfl|rfl|rfl|hq
   .rw [G.ga] at I;cases I
    rw [ra];exact ⟨_,M.ga,rfl,rfl,rfl,(cI_ren _).symm,cI_ok _⟩
   .rw [G.gb] at I;cases I
    rw [rb];refine ⟨_,M.gb,rfl,rfl,rfl,(Aj λc r y s=>?_).symm,λc r y s=>?_⟩
    .rw [aX] at r;obtain ⟨z,_,rfl⟩:=r;simp [Edge.c,dI] at s;rcases s with rfl|rfl|rfl<;>rfl
    .rw [aX] at r;obtain ⟨z,_,rfl⟩:=r;simp [Edge.c,dI] at s;rcases s with rfl|rfl|rfl<;>rfl
   .rw [G.gV] at I;cases I
    rw [rV];refine ⟨_,M.gV,rfl,rfl,rfl,?_,λc r y s=>?_⟩
    .apply iF;intro i;simp only [aM];by_cases C:i<x.k.length
     .have Z:=aA C;have m:=aA (show i<N.length by rw [G.len];exact C);have n:=aA (show i<t.length by rw [M.len];exact C);rw [tE m Z,tE n Z];simp [BJ,rq i _ _ m n]
     .rw [bY (by rw [j9 M.len];omega),bY (by rw [j9 G.len];omega)];rfl
    .simp only [lZ] at r;obtain ⟨i,C,rfl⟩:=aN r;rw [List.getElem_zipWith,bP] at s;subst s;show E.D _;exact (g _).2 (.inr (by rw [A];exact dS _ (dS _ (dS _ (aC _)))))
   .obtain ⟨i,C,rfl⟩:=aN hq;have m:=aA C;have U:i<x.k.length:=by rw [<- G.len];exact C
    have Z:=aA U;have n:=aA (show i<t.length by rw [M.len];exact U);rw [G.gq i _ _ m Z] at I;cases I
    rw [rq i _ _ m n];exact ⟨_,M.gq i _ _ n Z,rfl,rfl,rfl,(cI_ren _).symm,cI_ok _⟩
  .left
   have X:=Q j d;rw [I] at X;have hA:H.D j:=aY λhn=>by rw [O j hn] at X;cases X
   exact ⟨hA,X.symm,(Y j hA d).trans X.symm⟩
 .simp [Ut,BJ,ra,rb,rV]
 .intro c r;simp only [aV,gH,or_false] at r;rcases r with rfl|rfl|rfl
  .exact (g _).2 (.inr (by rw [A];simp))
  .exact (g _).2 (.inr (by rw [A];simp))
  .exact (g _).2 (.inr (by rw [A];simp))
theorem wT {j:Nat}{k:Blk}:∀ (q:List (Nat × Blk)) (H:AHeap),(q.map (·.1)).Nodup->(j,k)∈q->(H.ad q).get j=some k
 | p :: q,H,hn,hm=>by
  rw [iX,iS] at hn;rw [aV] at hm;simp only [AHeap.ad];rcases hm with rfl|hm
  .rw [pM q _ _ hn.1];simp [AHeap.push]
  .exact wT q _ hn.2 hm
def SN (qs:List Nat)(vs:Yb):List (Nat × Blk):=List.zipWith (λq (v:V2)=>(q,(⟨3,1,v.map cI,false⟩:Blk))) qs vs
theorem Hb {a:List Nat}{vs:Yb}(h:a.length=vs.length):(SN a vs).map (·.1)=a:=by
 unfold SN;rw [List.map_zipWith];apply e9 (by simp [h]);intro i c b;simp
theorem NL {qs:List Nat}{vs:Yb}{i q:Nat}{v:V2}(h1:qs[i]?=some q)(h2:vs[i]?=some v):(q,(⟨3,1,v.map cI,false⟩:Blk))∈SN qs vs :=
 aK (i:=i) (by simp [SN,List.getElem?_zipWith,h1,h2])
def JI (a b V:Nat)(qs:List Nat)(h:Host):List (Nat × Blk):=(a,⟨3,1,h.i.h.map cI,false⟩) :: (b,⟨145,3,h.i.j.map Edge.c,false⟩) :: (V,⟨26,1,lZ qs h.k,false⟩) :: SN qs h.k
theorem Pn {a b V:Nat}{c:List Nat}{h:Host}(d:c.length=h.k.length):(JI a b V c h).map (·.1)=a :: b :: V :: c:=by simp [JI,Hb d]
theorem Se {H:AHeap}{a b V:Nat}{d:List Nat}{h:Host}(l:d.length=h.k.length)(e:(a :: b :: V :: d).Nodup)(f:∀ j∈a :: b :: V :: d,j<H.next):HH (H.ad (JI a b V d h)) 0 a b V d h:=by
 have c:=Pn (a:=a) (b:=b) (V:=V) l;have g:((JI a b V d h).map (·.1)).Nodup:=by rw [c];exact e
 have k:(H.ad (JI a b V d h)).next=H.next:=rB _ _ λp n=>f p.1 (by rw [<- c];exact pW n);refine ⟨wT _ _ g (by simp [JI]),wT _ _ g (by simp [JI]),wT _ _ g (by simp [JI]),l,λi q v r o=>wT _ _ g ?_,e,λq m=>⟨eP _,by rw [k];exact f q m⟩⟩;exact dS _ (dS _ (dS _ (NL r o)))
theorem JH {md:Nat->Bool}{ops:Array Oper}{F:List (Nat × Nat)}{B i:Nat}{n:List Oper}{s:List (Nat × List Nat)}{e:eB}{r:Option Tmp}{K:eB->AHeap->Prop}{H:AHeap}
  (h:Host) (P:h.i.h.length<=100000) (Q:h.i.j.length<=100000) (N:h.k.length<=100000) (O:∀ v∈h.k,v.length<=100000)
  (a b V:Nat) (k:List Nat) (I:k.length=h.k.length) (w:(a :: b :: V :: k).Nodup) (x:B<=H.next) (q:∀ j∈a :: b :: V :: k,j<B/\¬ H.D j) (G:Ec md r=true) (R:o6 F i (a :: b :: V :: k) s)
  (S:∀ E,HH E 0 a b V k h->(∀ j,j∉a :: b :: V :: k->E.get j=H.get j)->(∀ j,E.D j↔H.D j\/j∈a :: b :: V :: k)->E.next=H.next ->
   kW prog md ops F B (i+1) n ((i,a :: b :: V :: k) :: s) (oO e r (.agg [.own a h.i.h.length,.own b h.i.j.length,.own V h.k.length])) E K) :
  rL prog md ops F B i n s e r K 98 [h.d] H:=by
 have c:=Pn (a:=a) (b:=b) (V:=V) I;unfold rL;refine Or.inr ⟨G,.agg [.own a h.i.h.length,.own b h.i.j.length,.own V h.k.length],[],[],JI a b V k h,λp m=>absurd m (gH),λp m=>q p.1 (by rw [<- c];exact pW m),λt _ f=>?_,?_,?_⟩
 .have hf':∀ j∈a :: b :: V :: k,j<t.next/\¬ t.D j:=λj g=>by
   rw [<- c,aX] at g;obtain ⟨p,m,rfl⟩:=g;exact f p m
  refine ACalls.exact (E:=t.ad (JI a b V k h)) (Jv h P Q N O t (λd D=>∃ z y A l,HH D t.next z y A l h/\(∀ j,j<t.next->D.get j=t.get j)/\d=.agg [.own z h.i.h.length,.own y h.i.j.length,.own A h.k.length]) (λz y A l D C L _=>⟨z,y,A,l,C,L,rfl⟩)) ?_;rintro o u d D ⟨z,y,A,l,C,L,rfl⟩;refine HH.exact (Se I w λj g=>(hf' j g).1) C o u ?_ (λj=>?_) (λj g _=>L j (o j g)) (λj g=>pM _ _ _ (by rw [c];exact g)) (λi j M e T=>⟨λJ=>absurd J (hf' j (aK e)).2,λ_ J=>?_⟩)
  .rw [rB _ _ λp m=>(f p m).1];exact bF _
  .rw [tZ,c]
  .have:=(C.W M (aK T)).1;have:=o M J;omega
 .rw [c];exact R
 .rw [c];refine S _ (Se I w λj g=>dC (q j g).1 x) (λj g=>pM _ _ _ (by rw [c];exact g)) (λj=>by rw [tZ,c];rfl) (rB _ _ λp m=>dC (q p.1 (by rw [<- c];exact pW m)).1 x)
theorem BT {l:V2}{v:Int}(h:mem l v=true):0<=idx l v/\(idx l v).toNat<l.length/\l[(idx l v).toNat]?=some v:=by
 obtain ⟨i,e,f⟩:=aN ((mem_iff l v).1 h);have b:0<=idx l v:=by simpa [mem] using h
 unfold idx at b ⊢;cases a:l.findIdx? (λx=>decide (x=v)) with
 | none=>rw [a] at b;simp at b
 | some k =>
  rw [jR] at a;obtain ⟨d,c,_⟩:=a;simp only [decide_eq_true_eq] at c;exact ⟨by simp,by simpa using d,by simp [d,c]⟩
theorem iM {f:Nat->Int}:∀ (n k:Nat),(∀ j,k<=j->j<k+n->f j=0)->bV f k n=0
 | 0,k,_=>rfl
 | n+1,k,h=>by
  unfold bV;rw [if_neg (by rw [h k (bF _) aD];simp)];exact iM n (k+1) λj h1 h2=>h j aD aD
theorem Vw {l:V2}{n:Int}(d:∀ x∈l,0<=x/\x<n)(c:l.Pairwise (· < ·)):Ey l n=0:=by
 refine iM _ _ λj _ f=>?_;have a:j<l.length:=aD;have e:=d _ (aC a);unfold IJ;rw [aA a,Option.getD_some,if_neg aD,if_neg];rintro ⟨g,b⟩;rw [aA (aD:j - 1<l.length),Option.getD_some] at b;have:=dD.1 c (j - 1) j aD a aD;omega
theorem Rm {l:V2}(h:l.Pairwise (· < ·))(h0:∀ x∈l,0<=x):∀ i (hi:i<l.length),(i:Int)<=l[i]
 | 0,hi=>by have:=h0 _ (aC hi);omega
 | i+1,hi=>by
  have h1:=Rm h h0 i aD;have h2:=dD.1 h i (i+1) aD hi aD;omega
theorem Sr {l:V2}{n:Nat}(h:l.Pairwise (· < ·))(a:∀ x∈l,0<=x/\x<n)(c:n<=1000):l.length<=1000:=by
 rcases Nat.eq_zero_or_pos l.length with h1|h1
 .omega
 .have h2:=Rm h (λx b=>(a x b).1) (l.length - 1) aD;have d:=a _ (aC (aD:l.length - 1<l.length));omega
theorem OY {α:Type}{f:α->Int}:∀ {l:List α},(∀ x∈l,f x=0)->g5 f l=0
 | [],_=>rfl
 | x :: l,h=>by
  unfold g5;rw [if_neg (by rw [h x (f8 ..)];simp)];exact OY λy hy=>h y (dS _ hy)
def eA (g:Graph)(k:Int):Edge:=g.j[k.toNat]?.getD cY
def iA (l:V2)(k:Int):Int:=l[k.toNat]?.getD 0
theorem LA {g:Graph}{p:Part}(i:graphF g=0)(h:∀ x∈p.h,0<=x/\x<g.h.length)(b:p.h.Pairwise (· < ·))(j:∀ x∈p.j,0<=x/\x<g.j.length)(c:p.j.Pairwise (· < ·))
  (a:∀ k∈p.j,(eA g k).w∈p.h/\(eA g k).M∈p.h):subF g p=0:=by
 unfold subF sA;rw [if_neg (by rw [i];simp),if_neg (by rw [Vw h b];simp),if_neg (by rw [Vw j c];simp)];refine OY λk d=>?_;have f:=(mem_iff _ _).2 (a k d).1;have e:=(mem_iff _ _).2 (a k d).2;unfold eA at f e;unfold Aw;rw [if_pos (by rw [f,e];rfl)]
theorem Hu (p:Nat->Bool)(n:Nat):(((List.range n).filter p).map λ(b:Nat)=>(b:Int)).Pairwise (· < ·):=by
 rw [zE];have h:((List.range n).filter p).Pairwise (· < ·):=List.Pairwise.filter _ Lr;exact h.imp λh=>by omega
theorem BM (p:Nat→Bool)(n:Nat)(x:Int):x∈(((List.range n).filter p).map fun (b:Nat)=>(b:Int))↔(0≤x∧x<n)∧p x.toNat=true:=by
 simp only [aX,fY,aW];constructor
 ·rintro ⟨a,⟨h1,h2⟩,rfl⟩;exact ⟨by omega,by simpa using h2⟩
 ·rintro ⟨⟨h1,h2⟩,h3⟩;exact ⟨x.toNat,⟨by omega,h3⟩,by omega⟩
theorem dV {l:V2}{n:Nat}{x:Int}:x∈bG l n↔(0<=x/\x<n)/\x∉l:=by
 unfold bG;rw [BM];constructor
 .rintro ⟨h,a⟩;refine ⟨h,λb=>?_⟩;rw [show ((x.toNat:Nat):Int)=x by omega,(mem_iff l x).2 b] at a;cases a
 .rintro ⟨h,a⟩;refine ⟨h,?_⟩;rw [show ((x.toNat:Nat):Int)=x by omega,cX,bK];exact λb=>a ((mem_iff l x).1 b)
theorem lG (l:V2)(n:Nat):(bG l n).Pairwise (· < ·):=Hu _ n
theorem fC {l:V2}{n:Nat}{x:Int}:x∈fF l n↔(0<=x/\x<n)/\x∈l:=by
 unfold fF;rw [BM];constructor
 .rintro ⟨h,a⟩;refine ⟨h,?_⟩;rw [show ((x.toNat:Nat):Int)=x by omega] at a;exact (mem_iff l x).1 a
 .rintro ⟨h,a⟩;refine ⟨h,?_⟩;rw [show ((x.toNat:Nat):Int)=x by omega];exact (mem_iff l x).2 a
theorem qJ (l:V2)(n:Nat):(fF l n).Pairwise (· < ·):=Hu _ n
theorem DE:∀ {l m:V2},l.Pairwise (· < ·)->m.Pairwise (· < ·)->(∀ x,x∈l↔x∈m)->l=m
 | [],[],_,_,_=>rfl
 | [],b :: m,_,_,h=>by have:=(h b).2 (f8 ..);cases this
 | a :: l,[],_,_,h=>by have:=(h a).1 (f8 ..);cases this
 | a :: l,b :: m,hl,hm,h=>by
  obtain ⟨h1,h2⟩:=List.pairwise_cons.1 hl;obtain ⟨h3,h4⟩:=List.pairwise_cons.1 hm;have hab:a=b:=by
   have q1:=(h a).1 (f8 ..);have q2:=(h b).2 (f8 ..);rw [aV] at q1 q2;rcases q1 with q1|q1
   .exact q1
   .rcases q2 with q2|q2
    .exact q2.symm
    .have h5:=h1 b q2;have h6:=h3 a q1;omega
  subst hab;congr 1;refine DE h2 h4 λx=>⟨λhx=>?_,λhx=>?_⟩
  .rcases aV.1 ((h x).1 (dS _ hx)) with rfl|h'
   .have:=h1 x hx;omega
   .exact h'
  .rcases aV.1 ((h x).2 (dS _ hx)) with rfl|h'
   .have:=h3 x hx;omega
   .exact h'
theorem AN {a b:Graph}{m:Part}(h:eK a b m=0):(∀ i,i<a.h.length->lI a b m i=0)/\∀ k,k<a.j.length->mapEE a b m k=0:=by
 obtain ⟨e,d,l,j⟩:=kK h;have c:eK a b m=(if bV (lI a b m) 0 a.h.length≠0 then bV (lI a b m) 0 a.h.length else bV (mapEE a b m) 0 a.j.length):=by
  unfold eK;rw [if_neg (by rw [e];simp),if_neg (by rw [d];simp),if_neg aD]
 rw [c] at h;split at h
 .rename_i q;exact absurd h q
 .rename_i q;exact ⟨λi g=>eZ a.h.length 0 (aD:bV (lI a b m) 0 a.h.length=0) i aD aD,λk f=>eZ a.j.length 0 h k aD aD⟩
theorem yE {a b:Graph}{m:Part}(h:eK a b m=0){i:Int}(d:0<=i)(c:i<a.h.length):(0<=iA m.h i/\iA m.h i<b.h.length)/\gN b (iA m.h i)=gN a i:=by
 have q:=(AN h).1 i.toNat aD;unfold lI at q;split at q
 .cases q
 .rename_i q1;split at q
  .cases q
  .rename_i q2;exact ⟨by unfold iA;omega,by unfold gN iA;simpa using q2⟩
theorem rC {a b:Graph}{m:Part}(h:eK a b m=0){k:Int}(e:0<=k)(d:k<a.j.length):(0<=iA m.j k/\iA m.j k<b.j.length)/\(eA a k).type=(eA b (iA m.j k)).type /\
  iA m.h (eA a k).w=(eA b (iA m.j k)).w/\iA m.h (eA a k).M=(eA b (iA m.j k)).M:=by
 have q:=(AN h).2 k.toNat aD;unfold mapEE at q;split at q
 .cases q
 .rename_i q1;split at q
  .cases q
  .rename_i q2;split at q
   .cases q
   .rename_i q3;unfold eA iA;refine ⟨aD,by simpa using q2,?_,?_⟩<;>exact aY λc=>q3 (by first|exact .inl c|exact .inr c)
theorem vK {g:Graph}(c:graphF g=0){k:Int}(e:0<=k)(d:k<g.j.length):(0<=(eA g k).w/\(eA g k).w<g.h.length)/\(0<=(eA g k).M/\(eA g k).M<g.h.length)/\0<=(eA g k).type/\(eA g k).type<=99:=by
 have a:k.toNat<g.j.length:=aD;have b:=(dX c).2 _ (aC a);unfold eA;rw [aA a,Option.getD_some];exact ⟨b.2.1,b.2.2,b.1⟩
theorem Ph {a keep:V2}(h:nZ a keep=[]){i k:Nat}(c:i<k)(e:k<a.length):sQ a keep i k=false:=by
 rw [bK];intro d;have b:(i,k)∈nZ a keep:=by
  unfold nZ En;rw [bT];refine ⟨i,aW.2 aD,?_⟩;unfold mF;rw [aX];exact ⟨k - (i+1),fY.2 ⟨aW.2 aD,by rw [show i+1+(k - (i+1))=k by omega];exact d⟩,by simp;omega⟩
 rw [h] at b;cases b
theorem Pi {a keep:V2}(h:nZ a keep=[]){i k:Nat}(e:i<a.length)(d:k<a.length)(b:i≠k)(c:a[i]?.getD 0=a[k]?.getD 0):mem keep i=true/\mem keep k=true:=by
 rcases Nat.lt_or_gt_of_ne b with hlt|hlt
 .have:=Ph h hlt d;unfold sQ at this;rw [c] at this;simpa using this
 .have:=Ph h hlt e;unfold sQ at this;rw [c] at this;simp at this;exact ⟨this.2,this.1⟩
theorem vP {l g:Graph}{keep m:Part}(h:oN l g keep m=0):eK l g m=0/\subF l keep=0/\nZ m.h keep.h=[]/\nZ m.j keep.j=[]/\vN g m.j (g6 m.h keep.h)=[]:=by
 unfold oN at h;split at h
 .rename_i q;exact absurd h q
 .rename_i q;have a:compG l g keep m=0:=aD;unfold compG at a;split at h
  .cases h
  .rename_i q2;split at h
   .cases h
   .rename_i q3;have b:eK l g m=0/\subF l keep=0:=by
     split at a
     .rename_i q5;exact absurd a q5
     .rename_i q5;exact ⟨aD,a⟩
    exact ⟨b.1,b.2,bJ aD,bJ aD,bJ aD⟩
theorem w6 {b keep:V2}(h:nZ b keep=[]){j:Int}(l:0<=j)(k:j<b.length)(e:j∈keep):iA b j∉g6 b keep:=by
 intro d;obtain ⟨i,f,a,g⟩:=rK.1 d;have c:i≠j.toNat:=by
  rintro rfl;rw [show ((j.toNat:Nat):Int)=j by omega,(mem_iff _ _).2 e] at a;cases a
 have:=Pi h f (aD:j.toNat<b.length) c (by rw [g];rfl);rw [a] at this;exact absurd this.1 aE
theorem WD {l g:Graph}{keep m:Part}(h:oN l g keep m=0):subF g (uD l g keep m)=0:=by
 obtain ⟨z,D,r,H,y⟩:=vP h;unfold uD;rw [if_pos h];obtain ⟨w,A,E,F⟩:=kK z;refine LA A (λx s=>mN s) (lG _ _) (λx s=>mN s) (lG _ _) λk G=>?_;obtain ⟨c,t⟩:=dV.1 G;have a:=vK A c.1 c.2;by_cases o:k∈m.j
 .obtain ⟨i,v,p⟩:=aN o;have d:(i:Int)∈keep.j:=by
   refine aY λI=>t (rK.2 ⟨i,v,?_,?_⟩)
   .rw [bK];exact λf=>I ((mem_iff _ _).1 f)
   .rw [aA v,p]
  have j:=DZ D i d;have q:=vK (k:=(i:Int)) w aD aD;have b:=rC (k:=(i:Int)) z aD aD;have u:iA m.j i=k:=by unfold iA;simp [v,p]
  rw [u] at b;have C:=w6 r q.1.1 aD ((mem_iff _ _).1 j.1);have B:=w6 r q.2.1.1 aD ((mem_iff _ _).1 j.2);rw [b.2.2.1] at C;rw [b.2.2.2] at B;exact ⟨dV.2 ⟨a.1,C⟩,dV.2 ⟨a.2.1,B⟩⟩
 .have e:xH g m.j (g6 m.h keep.h) k.toNat=false:=by
   rw [bK];intro e;have n:k∈vN g m.j (g6 m.h keep.h):=by
    unfold vN;rw [BM];exact ⟨c,e⟩
   rw [y] at n;cases n
  unfold xH at e;rw [show ((k.toNat:Nat):Int)=k by omega,show mem m.j k=false by rw [bK];exact λf=>o ((mem_iff _ _).1 f)] at e;simp only [Bool.not_false,iH,Bool.or_eq_false_iff] at e;exact ⟨dV.2 ⟨a.1,λf=>by have:=(mem_iff _ _).2 f;unfold eA at this;rw [e.1] at this;cases this⟩,dV.2 ⟨a.2.1,λf=>by have:=(mem_iff _ _).2 f;unfold eA at this;rw [e.2] at this;cases this⟩⟩
theorem Eh {g:Graph}(k:g.h.length<=40)(j:g.j.length<=80)(e:∀ a∈g.h,0<=a/\a<=99)
  (f:∀ x∈g.j,(0<=x.type/\x.type<=99)/\(0<=x.w/\x.w<g.h.length)/\(0<=x.M/\x.M<g.h.length)):graphF g=0:=by
 unfold graphF;rw [if_neg aD,if_neg,if_neg]
 .rw [bB];rintro ⟨x,d,b⟩;have i:=f x d;have c:vI x g.h.length=true:=by simp [vI,jB];omega
  rw [c] at b;cases b
 .rw [bB];rintro ⟨a,h,b⟩;have i:=e a h;have c:jB a 99=true:=by simp [jB];omega
  rw [c] at b;cases b
theorem BY {g:Graph}{n:Int}(h0:0<=n)(h:n<g.h.length):gN g n∈g.h:=by
 unfold gN;rw [aA (aD:n.toNat<g.h.length),Option.getD_some];exact aC _
theorem Mz {g:Graph}{n:Int}(h0:0<=n)(h:n<g.j.length):eA g n∈g.j:=by
 unfold eA;rw [aA (aD:n.toNat<g.j.length),Option.getD_some];exact aC _
theorem d7 {l:V2}{n:Int}(h0:0<=n)(h:n<l.length):iA l n∈l:=by
 unfold iA;rw [aA (aD:n.toNat<l.length),Option.getD_some];exact aC _
theorem MO {l:V2}{n:Nat}(h:l.Pairwise (· < ·))(a:∀ x∈l,0<=x/\x<n):l.length<=n:=by
 rcases Nat.eq_zero_or_pos l.length with h1|h1
 .omega
 .have h2:=Rm h (λx b=>(a x b).1) (l.length - 1) aD;have c:=a _ (aC (aD:l.length - 1<l.length));omega
theorem tT {g:Graph}{p:Part}(h:subF g p=0):p.j.Pairwise (· < ·):=by
 unfold subF sA at h;split at h
 .rename_i q;exact absurd h q
 .split at h
  .rename_i q;exact absurd h q
  .split at h
   .rename_i q;exact absurd h q
   .rename_i q;exact (Cj (aD:Ey p.j g.j.length=0)).2
theorem yB {l:V2}(f:l.Pairwise (· < ·)){v:Int}(e:v∈l):oZ l v<l.length/\iA l (oZ l v)=v/\idx l v=oZ l v:=by
 have a:=(mem_iff l v).2 e;have d:=Dc f a;obtain ⟨g,c,b⟩:=BT a;rw [d] at g c b;refine ⟨by simpa using c,?_,d⟩;unfold iA;rw [b];rfl
theorem p7 {g:Graph}{p:Part}(h:subF g p=0){k:Int}(a:k∈p.j):(eA g k).w∈p.h/\(eA g k).M∈p.h:=by
 have:=DZ h k a;exact ⟨(mem_iff _ _).1 this.1,(mem_iff _ _).1 this.2⟩
theorem BZ (g:Graph)(p:Part)(k:Int):gEd g p k=⟨(eA g k).type,oZ p.h (eA g k).w,oZ p.h (eA g k).M⟩:=rfl
theorem UK {α β:Type}(f:α->β)(l:List α)(d:α)(e:β){i:Nat}(h:i<l.length):((l.map f)[i]?).getD e=f ((l[i]?).getD d):=by simp [h]
theorem qN {g:Graph}{p:Part}(h:subF g p=0){i:Int}(b:0<=i)(a:i<p.h.length):gN (cO g p) i=gN g (iA p.h i):=by
 unfold cO;rw [if_pos h];exact UK (gN g) p.h 0 0 aD
theorem yL {g:Graph}{p:Part}(h:subF g p=0){i:Int}(b:0<=i)(a:i<p.j.length):eA (cO g p) i=gEd g p (iA p.j i):=by
 unfold cO;rw [if_pos h];exact UK (gEd g p) p.j 0 cY aD
theorem Ve {a keep:V2}{i k:Nat}(c:i<a.length)(b:k<a.length):sQ a keep i k=(decide (a[i]=a[k])&&(!mem keep i||!mem keep k)):=by
 unfold sQ;rw [aA c,aA b];rfl
theorem tK (a keep:V2){i k:Nat}(h:i+1<=k):mF a keep i (k+1 - (i+1))=mF a keep i (k - (i+1))++(if sQ a keep i k=true then [(i,k)] else []):=by
 rw [show k+1 - (i+1)=(k - (i+1))+1 by omega,Pj,show i+1+(k - (i+1))=k by omega]
theorem wR (a keep:V2)(A:a.length<=1000):Pua 262 [dLI a,dLI keep] (.list ((nZ a keep).map cPr)):=by
 refine Tz.pK ⟨λt=>t==5,λ_=>[]⟩ func262 rfl (λQ G=>?_);have Y:=trivial;refine wv (h:=bC (λi e H=>∃ d:List (Nat × Nat),(e 0=dLI a/\e 1=dLI keep/\e 5=.own 0 d.length/\e 6=dI i)/\(H.get 0=some ⟨368,2,d.map cPr,false⟩)/\(0<H.next)/\(i<=a.length)/\(d=En a keep i)) (λi=>a.length - i) 0 ⟨([]),wg,wn,wn,wi,(by rfl)⟩ λP y i e H w=>?_);obtain ⟨d,K,o,l,L,s⟩:=w;have Y:=xa2 Y K o (cW l);refine eJ (λg=>?_) λg=>?_
 .have Y:=xa1 Y g (aA g);refine wo (h:=bC (λk e H=>∃ b:List (Nat × Nat),(e 0=dLI a/\e 1=dLI keep/\e 5=.own 0 b.length/\e 6=dI i/\e 7=dI k)/\(H.get 0=some ⟨368,2,b.map cPr,false⟩)/\(0<H.next)/\(i+1<=k)/\(k<=a.length)/\(b=d++mF a keep i (k - (i+1)))/\(b.length<=1000000)) (λk=>a.length - k) (i+1) ⟨d,wg,wn,wn,wi,wi,(by simp [mF]),(by have:=xE a keep i;have:i * a.length<=1000 * 1000:=kX aD A;rw [s];omega)⟩ λO m k e H v=>?_);obtain ⟨b,J,n,j,E,D,r,C⟩:=v;have Y:=xa2 Y J n (cW j);refine eJ (λu=>?_) λu=>?_
  .have hd:=Ve (keep:=keep) g u;have f:(b++(if sQ a keep i k=true then [(i,k)] else [])).length<=1000000:=by
    have I:b++(if sQ a keep i k=true then [(i,k)] else [])=En a keep i++mF a keep i (k+1 - (i+1)):=by rw [tK _ _ aD,<- List.append_assoc,r,s]
    rw [I,aQ];have N:=xE a keep i;have M:=Ca a keep i (k+1 - (i+1));have g:i * a.length+a.length<=1000 * 1000:=by
     have:=kX (aD:i+1<=1000) A;rw [Nat.add_mul] at this;omega
    omega
   have Y:=xa3 Y g (aA g) u (aA u);refine wo (h:=dJ (λx=>rA keep i) (λx=>wl) ?_);refine wo (h:=dJ (λx=>rA keep k) (λx=>wl) ?_);refine eJ (λB=>?_) λB=>?_
   .have hdt:sQ a keep i k=true:=by rw [hd];simpa using B
    have Y:=xa1 Y hdt @cPr.eq_1;exact wo (h:=wx m (k+1) ⟨(b++(if sQ a keep i k=true then [(i,k)] else [])),wg,wn,wn,wj,wj,(by rw [tK _ _ aD,<- List.append_assoc,<- r]),(f)⟩)
   .have hdf:sQ a keep i k=false:=by rw [hd,bK];intro F;simp at F;simp_all
    have Y:=wa Y hdf;exact wo (h:=wx m (k+1) ⟨(b++(if sQ a keep i k=true then [(i,k)] else [])),wg,wn,wn,wj,wj,(by rw [tK _ _ aD,<- List.append_assoc,<- r]),(f)⟩)
  .have hJ:k=a.length:=aD;subst hJ;subst r;exact wo (h:=wx y (i+1) ⟨(d++mF a keep i (a.length - (i+1))),wg,wn,wn,wj,(by rw [Em,<- s])⟩)
 .have hX:nZ a keep=d:=by rw [s,(aD:i=a.length)];rfl
  exact wv (h:=G _ _ (by simp [go_sem,Y,hX]))
theorem Dm {a keep:V2}(h:a.length<=1000):(nZ a keep).length<=1000000:=by
 have c:=xE a keep a.length;have b:a.length * a.length<=1000 * 1000:=kX h h;unfold nZ;omega
theorem Uu (l g:Graph)(keep m:Part)(p:keep.h.length<=1000000)(e:m.h.length<=1000)(c:m.j.length<=1000)(k:g.h.length<=1000000)(f:g.j.length<=1000000):Pua 172 [l.d,g.d,keep.d,m.d] (.tup [(uD l g keep m).d,dI (oN l g keep m)]):=by
 have r:=Dm (keep:=keep.h) e;have q:=Dm (keep:=keep.j) c;refine Tz.pK ⟨λt=>t==8,λ_=>[]⟩ func172 rfl (λQ i=>?_);have Y:=trivial;refine wv (h:=aB (Oi l g keep m p) wl ?_);refine dR (λj=>?_) λj=>?_
 .have a:oN l g keep m=compG l g keep m:=if_pos j;have b:uD l g keep m=⟨[],[]⟩:=if_neg (by rw [a];exact j);exact wv (h:=i _ _ (by simp [go_sem,a,b]))
 .have a:oN l g keep m=if 0<(nZ m.h keep.h).length+(nZ m.j keep.j).length then 15 else if 0<(vN g m.j (g6 m.h keep.h)).length then 14 else 0:=if_neg (by rw [j];simp)
  refine wo (h:=aI (wR m.h keep.h e) wl ?_);refine wo (h:=aI (wR m.j keep.j c) wl ?_);refine eJ (λo=>?_) λo=>?_
  .rw [if_pos aD] at a;have b:uD l g keep m=⟨[],[]⟩:=if_neg (by rw [a];simp);exact wv (h:=i _ _ (by simp [go_sem,a,b]))
  .rw [if_neg (by first|omega|simp [o])] at a;refine wo (h:=aB (Ho l g keep m aD f) wl ?_);refine eJ (λn=>?_) λn=>?_
   .rw [if_pos aD] at a;have b:uD l g keep m=⟨[],[]⟩:=if_neg (by rw [a];simp);exact wv (h:=i _ _ (by simp [go_sem,a,b]))
   .rw [if_neg (by first|omega|simp [n])] at a;have b:uD l g keep m=⟨bG (g6 m.h keep.h) g.h.length,bG (g6 m.j keep.j) g.j.length⟩:=if_pos a;refine wo (h:=aI (BL m.h keep.h aD) wl ?_);refine wo (h:=aI (Hn (g6 m.h keep.h) g.h.length k) wl ?_);refine wo (h:=aI (BL m.j keep.j aD) wl ?_);refine wo (h:=aI (Hn (g6 m.j keep.j) g.j.length f) wl ?_);exact wo (h:=i _ _ (by simp [go_sem,a,b]))
theorem xJ (a keep:V2)(A:a.length<=1000):Pua 328 [dLI a,dLI keep] (.list ((nZ a keep).map cPr)):=by
 refine Tz.pK ⟨λt=>t==5,λ_=>[]⟩ func328 rfl (λQ G=>?_);have Y:=trivial;refine wo (h:=bC (λi e H=>∃ d:List (Nat × Nat),(e 0=dLI a/\e 1=dLI keep/\e 9=dI a.length/\e 5=.own 0 d.length/\e 10=dI i)/\(H.get 0=some ⟨368,2,d.map cPr,false⟩)/\(0<H.next)/\(i<=a.length)/\(d=En a keep i)) (λi=>a.length - i) 0 ⟨([]),wg,wn,wn,wi,(by rfl)⟩ λP y i e H w=>?_);obtain ⟨d,K,o,l,L,s⟩:=w;have Y:=xa2 Y K o (cW l);refine dR (λg=>?_) λg=>?_
 .have Y:=xa1 Y g (aA g);refine wo (h:=bC (λk e H=>∃ b:List (Nat × Nat),(e 0=dLI a/\e 1=dLI keep/\e 9=dI a.length/\e 5=.own 0 b.length/\e 6=dI i/\e 10=dI i/\e 7=dI k)/\(H.get 0=some ⟨368,2,b.map cPr,false⟩)/\(0<H.next)/\(i+1<=k)/\(k<=a.length)/\(b=d++mF a keep i (k - (i+1)))/\(b.length<=1000000)) (λk=>a.length - k) (i+1) ⟨d,wg,wn,wn,wi,wi,(by simp [mF]),(by have:=xE a keep i;have:i * a.length<=1000 * 1000:=kX aD A;rw [s];omega)⟩ λO m k e H v=>?_);obtain ⟨b,J,n,j,E,D,r,C⟩:=v;have Y:=xa2 Y J n (cW j);refine eJ (λu=>?_) λu=>?_
  .have hd:=Ve (keep:=keep) g u;have f:(b++(if sQ a keep i k=true then [(i,k)] else [])).length<=1000000:=by
    have I:b++(if sQ a keep i k=true then [(i,k)] else [])=En a keep i++mF a keep i (k+1 - (i+1)):=by rw [tK _ _ aD,<- List.append_assoc,r,s]
    rw [I,aQ];have N:=xE a keep i;have M:=Ca a keep i (k+1 - (i+1));have g:i * a.length+a.length<=1000 * 1000:=by
     have:=kX (aD:i+1<=1000) A;rw [Nat.add_mul] at this;omega
    omega
   have Y:=xa3 Y g (aA g) u (aA u);refine wo (h:=dJ (λx=>f6 keep i) (λx=>wl) ?_);refine wo (h:=dJ (λx=>f6 keep k) (λx=>wl) ?_);refine eJ (λB=>?_) λB=>?_
   .have hdt:sQ a keep i k=true:=by rw [hd];simpa using B
    have Y:=xa1 Y hdt @cPr.eq_1;exact wo (h:=wx m (k+1) ⟨(b++(if sQ a keep i k=true then [(i,k)] else [])),wg,wn,wn,wj,wj,(by rw [tK _ _ aD,<- List.append_assoc,<- r]),(f)⟩)
   .have hdf:sQ a keep i k=false:=by rw [hd,bK];intro F;simp at F;simp_all
    have Y:=wa Y hdf;exact wo (h:=wx m (k+1) ⟨(b++(if sQ a keep i k=true then [(i,k)] else [])),wg,wn,wn,wj,wj,(by rw [tK _ _ aD,<- List.append_assoc,<- r]),(f)⟩)
  .have hJ:k=a.length:=aD;subst hJ;subst r;exact wo (h:=wx y (i+1) ⟨(d++mF a keep i (a.length - (i+1))),wg,wn,wn,wj,(by rw [Em,<- s])⟩)
 .have hX:nZ a keep=d:=by rw [s,(aD:i=a.length)];rfl
  exact wv (h:=G _ _ (by simp [go_sem,Y,hX]))
def vF (n:Nat)(l:V2):List Bool:=l.foldl (λacc x=>acc.set x.toNat true) (List.replicate n false)
theorem HJ (n:Nat)(l:V2)(x:Int):vF n (l++[x])=(vF n l).set x.toNat true:=by unfold vF;rw [sJ];rfl
theorem Ed (n:Nat)(l:V2):(vF n l).length=n:=by
 unfold vF;have:∀ (l:V2) (a:List Bool),a.length=n->(l.foldl (λb x=>b.set x.toNat true) a).length=n:=by
  intro l;induction l with
  | nil=>intro a h;exact h
  | cons x l ih=>intro a h;exact ih _ (bZ h)
 grind
theorem Tn (n:Nat):∀ (l:V2),(∀ x∈l,0<=x/\x<n)->∀ i:Nat,i<n->(vF n l)[i]?=some (mem l i):=by
 have:∀ (l:V2) (a:List Bool),a.length=n->(∀ x∈l,0<=x/\x<n)->∀ i:Nat,i<n->(l.foldl (λf x=>f.set x.toNat true) a)[i]?=some (a[i]?.getD false||mem l i):=by
  intro l;induction l with
  | nil=>intro a h _ i d;rw [List.foldl_nil,aA aD,AP];simp
  | cons x l ih =>
   intro a h e i d;have m:=e x aE;rw [List.foldl_cons,ih _ (bZ h) (λy j=>e y (by simp [j])) i d];congr 1;have k:mem (x :: l) (i:Int)=(decide ((i:Int)=x)||mem l i):=by
    rw [aT,mem_iff,c7,mem_iff,decide_eq_true_eq,aV]
   rw [k];by_cases g:x.toNat=i
   .subst g;rw [List.getElem?_set_self aD];grind
   .rw [List.getElem?_set_ne g];have:¬ ((i:Int)=x):=aD;simp [this]
 intro l e i d;unfold vF;rw [this l _ aE e i d];simp [d]
theorem y5 (n:Nat)(Z:n<=1000000)(d keep:V2)(S:d.length<=1000000)(A:∀ x∈d,0<=x/\x<n):Pua 248 [dI n,dLI d,dLI keep] (dLI (bG (g6 d keep) n)):=by
 refine Tz.pK ⟨λt=>t==14||t==10,λ_=>[]⟩ func248 rfl (λQ V=>?_);have Y:=trivial;refine wo (h:=bC (λi e H=>∃ a:V2,(e 0=dI n/\e 2=dLI keep/\e 15=dLI d/\e 16=dI d.length/\e 7=.own 0 n/\e 17=dI i)/\(H.get 0=some ⟨4,1,(vF n a).map cB,false⟩)/\(0<H.next)/\(i<=d.length)/\((vF n a).length=n)/\(a=((List.range i).filter λ(b:Nat)=>!mem keep b).map (λi=>d[i]?.getD 0))) (λi=>d.length - i) 0 ⟨([]),wg,(by simp [go_sem,vF,cB]),wn,wi,(Ed _ _),(by rfl)⟩ λI0 D i e H K=>?_);obtain ⟨a,X,F,y,hi,L,I⟩:=K;have Y:=xa2 Y X F (cW y);refine dR (λu=>?_) λu=>?_
 .have hb:=A _ (aC u);have N:d[i].toNat<(vF n a).length:=aD;have Y:=xa2 Y u (aA u) (aA N);refine wo (h:=aB (f6 keep i) wl ?_);refine eJ (λO=>?_) λO=>?_
  .have Y:=wa Y O;exact wo (h:=wx D (i+1) ⟨(a++(if (!mem keep i)=true then [d[i]] else [])),wg,(by simp [go_sem,Y,HJ,cB]),wn,wj,(Ed _ _),(by rw [rJ _ _ u,<- I])⟩)
  .have Y:=wa Y O;exact wo (h:=wx D (i+1) ⟨(a++(if (!mem keep i)=true then [d[i]] else [])),wg,(by simp [go_sem,Y]),wn,wj,(Ed _ _),(by rw [rJ _ _ u,<- I])⟩)
 .have B:g6 d keep=a:=by rw [I,(aD:i=d.length)];rfl
  have M:∀ x∈a,0<=x/\x<n:=λx z=>by
   rw [<- B,rK] at z;obtain ⟨j,_,_,h⟩:=z;exact A x (aK h)
  refine wo (h:=bC (λk e H=>∃ m:V2,∃ c:Nat,(e 0=dI n/\e 2=dLI keep/\e 15=dLI d/\e 16=dI d.length/\e 30=.own 0 n/\e 31=dI n/\e 32=dI k/\e 10=.own c m.length)/\(H.get 0=some ⟨4,1,(vF n a).map cB,false⟩)/\(0<H.next)/\(H.get c=some ⟨3,1,m.map cI,false⟩)/\(c<H.next)/\(c≠0)/\(k<=n)/\(m.length<=k)/\(m=((List.range k).filter λ(b:Nat)=>!mem a b).map (λ(b:Nat)=>(b:Int)))) (λk=>n - k) 0 ⟨([]),H.next,wg,wn,wn,wn,wn,aD,wi,aE,(by rfl)⟩ λI2 C k e H J=>?_);obtain ⟨m,c,W,E,w,l,g,U,hk,hl,o⟩:=J;have P:=dZ (aD:0≠c);have Y:=xa6 Y W E (cW w) l (cW g) L P;refine dR (λq=>?_) λq=>?_
  .have hkm:k<(vF n a).length:=aD;have T:(vF n a)[k]=mem a k:=by have:=Tn n a M k q;rw [aA hkm] at this;exact Option.some.inj this
   have Y:=xa2 Y q (aA hkm) T;refine eJ (λp=>?_) λp=>?_
   .have Y:=wa Y p;exact wo (h:=wx C (k+1) ⟨(m++(if (!mem a k)=true then [(k:Int)] else [])),c,wg,wn,wn,wn,wn,aD,wj,(by rw [aQ];split<;>simp<;>omega),(by rw [dW,<- o])⟩)
   .have Y:=wa Y p;exact wo (h:=wx C (k+1) ⟨(m++(if (!mem a k)=true then [(k:Int)] else [])),c,wg,wn,wn,wn,wn,aD,wj,(by rw [aQ];split<;>simp<;>omega),(by rw [dW,<- o])⟩)
  .exact wv (h:=V _ _ (by simp [go_sem,Y,B,bG];rw [o,(aD:k=n)];simp))
end Go.Abs
end
