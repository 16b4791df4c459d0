/- Layer 41, the reference: what the rest touches and lowers. · -/
import Derived.Test.YtjfaalokjnmdoaaGreatZaAF
import Derived.Test.YtjfaalokjnmdoaaGreatZaAA
import Derived.Test.YtjfaalokjnmdoaaGreatZaAM
set_option linter.unusedVariables false
set_option linter.unusedSimpArgs false
section
set_option maxRecDepth 100000
set_option maxHeartbeats 4000000
open Go Go.Proofs
namespace Go.Abs
def eF (mask:List Bool):List Nat:=(List.range mask.length).filter fun i=>mask[i]?.getD false
def i4 (ls:List (List Int))(mask:List Bool):List (List Int):=((List.range ls.length).filter fun i=>mask[i]?.getD false).map fun i=>ls[i]?.getD []
def Hh (ls:List (List Int))(mask:List Bool)(k i:Nat):Bool:=mask[i]?.getD false&&decide ((ls[i]?.getD [])[k]?.getD 0≠0)
def gJ (n:Nat)(ls:List (List Int))(mask:List Bool):List Int:=((List.range n).filter fun (k:Nat)=>(List.range ls.length).any (Hh ls mask k)).map fun (k:Nat)=>(k:Int)
theorem wX (p:Nat→Bool)(i:Nat):(List.range (i+1)).any p=((List.range i).any p||p i):=by
 rw [bL,oG];simp
theorem GW (n:Nat)(hn:n≤100000)(ls:List (List Int))(mask:List Bool)(hm:mask.length=ls.length)(hl:∀ l∈ls,l.length=n):Pure Tryz.prog 106 [.list (ls.map cL),.list (mask.map cB),dI n] (dLI (gJ n ls mask)):=by
 refine Tz.pK ⟨fun t=>t==7,fun _=>[]⟩ Tryz.func106 rfl (fun Q hQ=>?_)
 have Y:=trivial
 refine wv (h:=bG (fun k e H=>∃ ys:List Int,(e 0=.list (ls.map cL)∧e 1=.list (mask.map cB)∧e 2=dI n∧e 7=.own 0 ys.length∧e 8=dI k)∧(H.get 0=some ⟨3,1,ys.map cI,false⟩)∧(0<H.next)∧(k≤n)∧(ys.length≤k)∧(ys=((List.range k).filter fun (k:Nat)=>(List.range ls.length).any (Hh ls mask k)).map (fun (b:Nat)=>(b:Int)))) (fun k=>n - k) 0 ⟨([]),wg,wn,wn,wi,(by simp),(by rfl)⟩ fun I0 hI0 k e H hi0=>?_)
 obtain ⟨ys,E0,g0_0,n0_0,hk,hyl,hy⟩:=hi0
 have Y:=wa Y (wa E0 (wa g0_0 (cG n0_0)))
 refine d7 (fun h3=>?_) fun h3=>?_
 ·have Y:=wa Y h3
  refine wv (h:=bG (fun i e H=>(e 0=.list (ls.map cL)∧e 1=.list (mask.map cB)∧e 2=dI n∧e 7=.own 0 ys.length∧e 8=dI k∧e 9=.bool ((List.range i).any (Hh ls mask k))∧e 10=dI i)∧(H.get 0=some ⟨3,1,ys.map cI,false⟩)∧(0<H.next)∧(i≤ls.length)) (fun i=>ls.length - i) 0 ⟨wg,wn,wn,wi⟩ fun I2 hI2 i e H hi2=>?_)
  obtain ⟨E2,g0_2,n0_2,hi⟩:=hi2
  have q9_2:=E2.2.2.2.2.2.1
  have Y:=wa Y (wa E2 (wa g0_2 (cG n0_2)))
  refine wv (h:=?_)
  repeat first|intro _|refine ⟨d8,?_⟩
  refine wq (fun h7=>?_) fun h7=>?_
  ·have hlk:k<(ls[i]'(by omega)).length:=by rw [hl _ (aB h7)];omega
   have hmi:i<mask.length:=by omega
   have hhit:Hh ls mask k i=(mask[i]&&!decide (ls[i][k]=0)):=by simp [Hh,aA h7,aA hlk,aA hmi]
   have hts:=wX (Hh ls mask k) i
   rw [hhit] at hts
   have hts2:(ls[i][k] != 0) = !decide (ls[i][k]=0):=rfl
   have Y:=wa Y (wa h7 (wa (aA hlk) (wa (aA hmi) (wa hhit (wa hts2 hmi)))))
   try simp [go_sem,seval,Y,-List.any_eq_true]
   repeat first|intro _|refine ⟨d8,?_⟩
   exact wx hI2 (i+1) ⟨(by and_intros<;>first|omega|(simp [go_sem,seval,Y,-List.any_eq_true]<;>omega)),((by first|omega|(simp [go_sem,seval,Y,-List.any_eq_true]<;>omega))),((by first|omega|(simp [go_sem,seval,Y,-List.any_eq_true]<;>omega))),(by first|assumption|omega|(simp [go_sem,Y,-List.any_eq_true];done)|(simp_all<;>omega))⟩
  ·have hU:i=ls.length:=by omega
   subst hU
   obtain ⟨b,hb⟩:∃ b,(List.range ls.length).any (Hh ls mask k)=b:=⟨_,rfl⟩
   rw [hb] at q9_2
   have Y:=wa Y hb
   refine d7 (fun h10=>?_) fun h10=>?_
   ·have Y:=wa Y h10
    exact wo (h:=wx hI0 (k+1) ⟨(ys++(if ((List.range ls.length).any (Hh ls mask k))=true then [(k:Int)] else [])),wg,wn,wn,wj,(by (rw [aG];split<;>simp<;>omega)),(by (rw [bN,← hy]))⟩)
   ·have Y:=wa Y h10
    exact wo (h:=wx hI0 (k+1) ⟨(ys++(if ((List.range ls.length).any (Hh ls mask k))=true then [(k:Int)] else [])),wg,wn,wn,wj,(by (rw [aG];split<;>simp<;>omega)),(by (rw [bN,← hy]))⟩)
 ·exact wv (h:=hQ _ _ (by simp [go_sem,Y,gJ];rw [hy,show k=n by omega];simp))
def sW (ls:List (List Int))(mask:List Bool)(w:List Int)(i:Nat):Bool:=mask[i]?.getD false&&decide (gM w (ls[i]?.getD [])<0)
def FL (ls:List (List Int))(mask:List Bool)(w:List Int)(i:Nat):Bool:=mask[i]?.getD false&&decide (0<gM w (ls[i]?.getD []))
def lJ (ls:List (List Int))(mask:List Bool)(w:List Int):List Int:=((List.range ls.length).filter (sW ls mask w)).map fun (i:Nat)=>(i:Int)
def Qn (ls:List (List Int))(mask:List Bool)(w:List Int):Bool:=!((List.range ls.length).any (FL ls mask w))
theorem QP (a b:List Int):Pure Tryz.prog 51 [dLI a,dLI b] (.bool (decide (a=b))):=by
 refine Tz.pK ⟨fun _=>false,fun _=>[]⟩ Tryz.func51 rfl (fun Q hQ=>?_)
 have Y:=trivial
 refine wv (h:=?_)
 repeat first|intro _|refine ⟨d8,?_⟩
 refine wq (fun h1=>?_) fun h1=>?_
 ·refine wv (h:=?_)
  have hne:a≠b:=by intro h;subst h;omega
  exact hQ _ _ (by simp [go_sem,hne])
 ·refine wo (h:=bG (fun i e H=>(e 0=dLI a∧e 1=dLI b∧e 12=dI a.length∧e 13=dI i)∧(i≤a.length)∧(a.take i=b.take i)) (fun i=>a.length - i) 0 ⟨wg,wi,(by rfl)⟩ fun I0 hI0 i e H hi0=>?_)
  obtain ⟨E0,hi,he⟩:=hi0
  have Y:=wa Y E0
  refine d7 (fun h4=>?_) fun h4=>?_
  ·have hib:i<b.length:=by omega
   have Y:=wa Y (wa h4 hib)
   refine wv (h:=?_)
   repeat first|intro _|refine ⟨d8,?_⟩
   refine wq (fun h6=>?_) fun h6=>?_
   ·refine wv (h:=?_)
    have hne:a≠b:=by intro h;subst h;exact h6 rfl
    exact hQ _ _ (by simp [go_sem,hne])
   ·exact wo (h:=wx hI0 (i+1) ⟨wg,wj,(by (rw [aF h4,aF hib,he,h6]))⟩)
  ·rw [aI (by omega),aI (by omega)] at he
   exact wv (h:=hQ _ _ (by simp [go_sem,he]))
deriving instance DecidableEq for Stage
theorem BZ (a b:List Stage):Pure Tryz.prog 50 [.list (a.map Stage.c),.list (b.map Stage.c)] (.bool (decide (a=b))):=by
 refine Tz.pK ⟨fun _=>false,fun _=>[]⟩ Tryz.func50 rfl (fun Q hQ=>?_)
 have Y:=trivial
 refine wv (h:=?_)
 repeat first|intro _|refine ⟨d8,?_⟩
 refine wq (fun h1=>?_) fun h1=>?_
 ·refine wv (h:=?_)
  have hne:a≠b:=by intro h;subst h;omega
  exact hQ _ _ (by simp [go_sem,hne])
 ·refine wv (h:=bG (fun i e H=>(e 0=.list (a.map Stage.c)∧e 1=.list (b.map Stage.c)∧e 5=dI i)∧(i≤a.length)∧(a.take i=b.take i)) (fun i=>a.length - i) 0 ⟨wg,wi,(by rfl)⟩ fun I0 hI0 i e H hi0=>?_)
  obtain ⟨E0,hi,he⟩:=hi0
  have Y:=wa Y E0
  refine wv (h:=?_)
  repeat first|intro _|refine ⟨d8,?_⟩
  refine wq (fun h4=>?_) fun h4=>?_
  ·have hib:i<b.length:=by omega
   have hS2:=wW a[i].removed b[i].removed
   have Y:=wa Y (wa h4 hib)
   refine wo (h:=aM (wW a[i].weights b[i].weights) wl ?_)
   refine wo (h:=c9 (fun hg=>hS2) (fun hg=>wl) ?_)
   refine wv (h:=?_)
   repeat first|intro _|refine ⟨d8,?_⟩
   refine wq (fun h6=>?_) fun h6=>?_
   ·have hne:a≠b:=by intro h;subst h;simp at h6
    exact wv (h:=hQ _ _ (by simp [go_sem,hne]))
   ·have hEq:a[i]=b[i]:=by
     have h6':a[i].weights=b[i].weights∧a[i].removed=b[i].removed:=by simpa using h6
     cases ha:a[i];cases hb:b[i];rw [ha,hb] at h6';simp at h6';rw [h6'.1,h6'.2]
    exact wo (h:=wx hI0 (i+1) ⟨wg,wj,(by (rw [aF h4,aF hib,he,hEq]))⟩)
  ·rw [aI (by omega),aI (by omega)] at he
   exact wv (h:=hQ _ _ (by simp [go_sem,he]))
def kD (t:Types)(st:List Stage)(g:Graph):Int :=
 if dC t g≠0 then dC t g else if 6<st.length then 3 else dL (fun s=>jF t s.weights g) st
def lP (t:Types)(st:List Stage)(g:Graph):List Int:=if kD t st g=0 then st.map fun s=>mL t s.weights g else []
theorem Ts {r:Rule}(h:fewR r=true):r.ok:=by
 simp only [fewR,aL,decide_eq_true_eq] at h
 obtain ⟨⟨⟨⟨⟨h1,h2⟩,h3⟩,h4⟩,h5⟩,h6⟩:=h
 simp [fewPart] at h4 h5
 simp [fewC] at h6
 have h7:=Fw r.cond 40 (by omega) h6
 exact ⟨by omega,by omega,by omega,by omega,by omega,h7.1,by omega⟩
theorem FT {rs:List Rule}(h:qX rs=true):rs.length≤8∧∀ r∈rs,r.ok:=by
 simp [qX] at h
 exact ⟨by omega,fun r hr=>Ts (h.2 r hr)⟩
def qB (n i:Nat):List Bool:=List.replicate i true++List.replicate (n - i) false
theorem pU {n i:Nat}(h:i≤n):(qB n i).length=n:=by simp [qB];omega
theorem HL {n i:Nat}(h:i<n):(qB n i).set i true=qB n (i+1):=by
 unfold qB
 rw [oE _ _ (by simp)]
 simp only [gI,Nat.sub_self]
 obtain ⟨m,hm⟩:∃ m,n - i=m+1:=⟨n - i - 1,by omega⟩
 rw [hm,show n - (i+1)=m by omega,jY,List.set_cons_zero,y3 ,List.append_assoc];rfl
theorem HM (n:Nat):qB n n=List.replicate n true:=by simp [qB]
theorem Et (n:Nat):qB n 0=List.replicate n false:=by simp [qB]
def qS (t:Types)(rs:List Rule):Bool :=
 if (nZ t&&qX rs)=false then false
 else if fT t rs≠0 then true
 else decide (((gJ (t.nodes.length+t.edges.length) (gC t rs) (List.replicate rs.length true)).length:Int)≤4)
theorem Lb (t:Types)(h1:∀ n∈t.nodes,n.attrs.length≤1000000000000000)(rs:List Rule)(hr0:∀ r∈rs,r.le):Pure Tryz.prog 45 [t.d,.list (rs.map Rule.c)] (.bool (qS t rs)):=by
 refine Tz.pK ⟨fun _=>false,fun _=>[]⟩ Tryz.func45 rfl (fun Q hQ=>?_)
 try simp [go_sem,seval]
 repeat first|intro _|refine ⟨d8,?_⟩
 refine aC (B6 t h1) ((by first|rfl|(simp [go_sem,← List.map_take,← List.map_drop];done))) ?_
 try simp [go_sem,seval]
 repeat first|intro _|refine ⟨d8,?_⟩
 refine aN (fun hg=>P9 rs hr0) (fun hg=>(by first|rfl|(simp [go_sem,← List.map_take,← List.map_drop];done))) ?_
 try simp [go_sem,seval]
 repeat first|intro _|refine ⟨d8,?_⟩
 refine aJ (fun h1=>?_) (fun h1=>?_)
 ·try simp [go_sem] at h1
  have hF:(nZ t&&qX rs)=false:=by cases h:nZ t<;>cases h':qX rs<;>simp [h,h'] at h1<;>rfl
  try simp [go_sem,seval]
  exact hQ _ _ (by first|(left;(simp [go_sem,qS,hF]);done)|(right;(simp [go_sem,qS,hF]);done))
 ·try simp [go_sem] at h1
  have hF:nZ t=true∧qX rs=true:=by cases h:nZ t<;>cases h':qX rs<;>simp [h,h'] at h1<;>exact ⟨rfl,rfl⟩
  have ht:=J7 hF.1
  have hR:=FT hF.2
  have hr:=hR.2
  try simp [go_sem,seval]
  refine aC (GY t ht rs hr) ((by first|rfl|(simp [go_sem,← List.map_take,← List.map_drop];done))) ?_
  try simp [go_sem,seval]
  refine aJ (fun h4=>?_) (fun h4=>?_)
  ·try simp [go_sem] at h4
   try simp [go_sem,seval]
   exact hQ _ _ (by first|(left;(simp [go_sem,qS,hF.1,hF.2,h4]);done)|(right;(simp [go_sem,qS,hF.1,hF.2,h4]);done))
  ·try simp [go_sem] at h4
   have hX:=PM h4
   have hV:gC t rs=rs.map (g7 t):=if_pos h4
   have hv:=fF (j4 h4).1
   have hN:=hv.fewN
   have hE:=hv.fewE
   try simp [go_sem,seval]
   repeat first|intro _|refine ⟨d8,?_⟩
   obtain ⟨I0,hI0⟩:∃ I0:Nat→cY→AHeap→Prop,∀ (i:Nat) (e:cY) (H:AHeap),I0 i e H↔((e 2=.adr t.c)∧(e 1=.list (rs.map Rule.c))∧(e 5=.list ((gC t rs).map cL))∧(e 7=.own 0 rs.length)∧(e 8=dI i)∧(H.get 0=some ⟨4,1,(qB rs.length i).map cB,false⟩)∧(0<H.next)∧(i≤rs.length)∧((qB rs.length i).length=rs.length)):=⟨fun i e H=>_,fun _ _ _=>Iff.rfl⟩
   refine fZ I0 (fun i=>rs.length - i) (0) ((hI0 _ _ _).2 ⟨?_,?_,?_,?_,?_,(by (simp [go_sem,Et])),?_,(by first|assumption|omega|(simp [go_sem];done)|(simp_all;done)),(by (exact pU (dY _)))⟩) ?_
   iterate 6 (first|omega|(simp [go_sem,seval]<;>omega))
   intro i e H hi0
   obtain ⟨q2_0,q1_0,q5_0,q7_0,q8_0,g0_0,n0_0,hi,hsl⟩:=(hI0 _ _ _).1 hi0
   have x0:=cG n0_0
   have F0:=And.intro q2_0 (And.intro q1_0 (And.intro q5_0 (And.intro q7_0 (And.intro q8_0 x0))))
   try simp [go_sem,seval,F0,g0_0,hsl]
   repeat first|intro _|refine ⟨d8,?_⟩
   refine aJ (fun h8=>?_) (fun h8=>?_)
   ·try simp [go_sem] at h8
    have hk:i<(qB rs.length i).length:=by rw [pU (by omega)];exact h8
    try simp [go_sem,seval,F0,g0_0,hsl,h8,aA hk,h8]
    repeat first|intro _|refine ⟨d8,?_⟩
    refine bY (i+1) (by omega) ((hI0 _ _ _).2 ⟨?_,?_,?_,?_,?_,(by (simp [go_sem,F0,g0_0,hsl,h8,aA hk,h8,← HL h8,cK])),?_,(by first|assumption|omega|(simp [go_sem,F0,g0_0,hsl,h8,aA hk,h8,h1,h4];done)|(simp_all<;>omega)),(by (exact pU (by omega)))⟩)<;>first|omega|(simp [go_sem,seval,F0,g0_0,hsl,h8,aA hk,h8]<;>omega)
   ·try simp [go_sem] at h8
    have hie:i=rs.length:=by omega
    subst hie
    rw [HM] at g0_0
    have hcl:D.clLL (List.replicate rs.length [D.bool true])=true:=by have:=Sy (List.replicate rs.length true);simpa [cB] using this
    try simp [go_sem,seval,F0,g0_0,hsl,hcl]
    repeat first|intro _|refine ⟨d8,?_⟩
    refine aC (La t (by omega) (by omega)) ((by first|rfl|(simp [go_sem,← List.map_take,← List.map_drop,F0,g0_0,hsl,hcl];done))) ?_
    try simp [go_sem,seval,F0,g0_0,hsl,hcl]
    repeat first|intro _|refine ⟨d8,?_⟩
    refine sF (GW (t.nodes.length+t.edges.length) (by omega) (gC t rs) (List.replicate rs.length true) (by rw [gI,hV,bE]) hX.xl) (by (simp [go_sem,F0,g0_0,hsl,hcl])<;>rfl) ((by first|rfl|(simp [go_sem,← List.map_take,← List.map_drop,F0,g0_0,hsl,hcl];done))) (by (simp [go_sem,F0,g0_0,hsl,hcl])<;>rfl) ?_
    try simp [go_sem,seval,F0,g0_0,hsl,hcl]
    repeat first|intro _|refine ⟨d8,?_⟩
    exact hQ _ _ (by first|(left;(simp [go_sem,qS,hF.1,hF.2,h4]);done)|(right;(simp [go_sem,qS,hF.1,hF.2,h4]);done))
def twoT:Types:=⟨[⟨⟨#[65]⟩,-1,false,[]⟩,⟨⟨#[66]⟩,-1,false,[]⟩],[]⟩
theorem Ci:Pure Tryz.prog 48 [] twoT.d:=by
 refine zZ (by simp [go_sem,twoT]) (fun Q hQ=>(aH (cfg:=⟨fun t=>t==0,fun _=>[]⟩) Tz.mixed Tryz.func48 rfl rfl (aE rfl) (by kernel_rfl) ?_))
 simp [go_sem,seval]
 exact hQ _ _ (by simp [go_sem,twoT])
def wL:Rule:=⟨⟨#[115,112,108,105,116]⟩,⟨⟨[0],[]⟩,[],0,[]⟩,⟨⟨[1,1],[]⟩,[],0,[]⟩,⟨[],[]⟩,⟨[],[]⟩,false,.mk 1 [] ⟨[],[]⟩ ⟨⟨[],[]⟩,[],0,[]⟩⟩
def Dr:Rule:=⟨⟨#[100,114,111,112]⟩,⟨⟨[1],[]⟩,[],0,[]⟩,⟨⟨[],[]⟩,[],0,[]⟩,⟨[],[]⟩,⟨[],[]⟩,false,.mk 1 [] ⟨[],[]⟩ ⟨⟨[],[]⟩,[],0,[]⟩⟩
theorem Di:Pure Tryz.prog 49 [] (.list ([wL,Dr].map Rule.c)):=by
 refine zZ (by simp [go_sem]) (fun Q hQ=>(aH (cfg:=⟨fun t=>t==1,fun _=>[]⟩) Tz.mixed Tryz.func49 rfl rfl (aE rfl) (by kernel_rfl) ?_))
 simp [go_sem,seval]
 exact hQ _ _ (by simp [go_sem,wL,Dr,Cond.kind,Cond.kids,Cond.map,Cond.pattern])
theorem Cv (l:List Int)(k:Nat)(hk:k<l.length):Pure Tryz.prog 116 [dLI l,.adr [dI k]] (.bool (decide (l[k]?.getD 0≠0))):=by
 refine Tz.pK ⟨fun _=>false,fun _=>[]⟩ Tryz.func116 rfl (fun Q hQ=>?_)
 have Y:=wa (aA hk) hk
 exact wo (h:=hQ _ _ wy)
theorem DT (a:Int):Pure Tryz.prog 112 [dI a] (.bool (oddB a)):=by
 refine Tz.pK ⟨fun _=>false,fun _=>[]⟩ Tryz.func112 rfl (fun Q hQ=>?_)
 have Y:=trivial
 have Y:=wa Y @oddB.eq_1
 exact wo (h:=hQ _ _ wy)
structure BestIn (xs:List (List Int)) (nn:Nat) (B:Bst):Prop where
 pos:LG xs B.w=false
 Cy:B.d=xN xs B.w
 len:B.w.length=nn
 dig:∀ x∈B.w,0≤x∧x≤6
def Kv (xs:List (List Int))(nn:Nat)(B:Bst):Prop:=(B.w=[]∧B.d=0)∨BestIn xs nn B
theorem Oe {xs:List (List Int)}{nn:Nat}{w:List Int}{s:Int}{B:Bst}(hw:w.length=nn)(hd:∀ x∈w,0≤x∧x≤6)(h:Kv xs nn B):Kv xs nn (lU xs w s B):=by
 unfold lU
 split
 ·exact h
 ·rename_i hp
  split
  ·exact .inr ⟨by simpa using hp,rfl,hw,hd⟩
  ·exact h
theorem Cp {α β:Type}{p:β→Prop}{f:β→α→β}{q:α→Prop}(hf:∀ b a,p b→q a→p (f b a)):∀ (l:List α) (b:β),(∀ a∈l,q a)→p b→p (l.foldl f b)
 | [],b,_,h=>h
 | a :: l,b,hq,h=>Cp hf l _ (fun x hx=>hq x (by simp [hx])) (hf b a h (hq a (by simp)))
theorem O3 {xs:List (List Int)}{nn:Nat}:∀ (ts:List Int) (w:List Int) (s:Int) (B:Bst),w.length=nn→(∀ x∈w,0≤x∧x≤6)→Kv xs nn B→Kv xs nn (yT xs ts w s B)
 | [],w,s,B,hw,hd,h=>by unfold yT;exact Oe hw hd h
 | p :: ts,w,s,B,hw,hd,h=>by
  unfold yT
  refine Cp (q:=fun (v:Nat)=>v<7) (fun b v hb hv=>?_) _ _ (fun a ha=>aZ.1 ha) h
  exact O3 ts _ _ _ (by rw [dX];exact hw) (oQ hd _ (by omega)) hb
def t6:List Int→List Int→List (List Int)
 | [],w=>[w]
 | p :: ts,w=>(List.range 7).flatMap fun (v:Nat)=>t6 ts (w.set p.toNat v)
theorem O4:∀ {w:List Int} {p:Nat} (v:Int),p<w.length→w[p]?.getD 0=0→(w.set p v).sum=w.sum+v
 | [],p,v,hp,_=>by simp at hp
 | a :: w,0,v,_,h=>by simp at h;subst h;simp;omega
 | a :: w,p+1,v,hp,h=>by
  simp only [tC,zQ]
  rw [O4 v (by simpa using hp) (by simpa using h)]
  omega
theorem vN {α β:Type}{f g:β→α→β}:∀ (l:List α) (b:β),(∀ b,∀ a∈l,f b a=g b a)→l.foldl f b=l.foldl g b
 | [],b,_=>rfl
 | a :: l,b,h=>by
  simp only [tD]
  rw [h b a (by simp)]
  exact vN l _ fun b x hx=>h b x (by simp [hx])
theorem HJ {xs:List (List Int)}:∀ (ts:List Int) (w:List Int) (B:Bst),(∀ p∈ts,0≤p∧p<w.length)→ts.Nodup→(∀ p∈ts,w[p.toNat]?.getD 0=0) →
  yT xs ts w w.sum B=(t6 ts w).foldl (fun B u=>lU xs u u.sum B) B
 | [],w,B,_,_,_=>by simp [yT,t6]
 | p :: ts,w,B,hp,hnd,hz=>by
  unfold yT t6
  rw [List.foldl_flatMap]
  have h0:=hp p (by simp)
  have hn:=eE.1 hnd
  refine vN _ _ fun b v _=>?_
  rw [← O4 (v:Int) (by omega) (hz p (by simp))]
  refine HJ ts _ b (fun q hq=>by rw [dX];exact hp q (by simp [hq])) hn.2 fun q hq=>?_
  have hq0:=hp q (by simp [hq])
  have hne:p.toNat≠q.toNat:=by
   intro h
   have:p=q:=by omega
   exact hn.1 (this ▸ hq)
  rw [pG hne]
  exact hz q (by simp [hq])

theorem Ql (ls:List (List Int))(mask:List Bool)(w:List Int):LG (i4 ls mask) w = !Qn ls mask w:=by
 unfold LG i4 Qn
 rw [List.any_map,List.any_filter,Bool.not_not]
 rfl
theorem QV (ls:List (List Int))(mask:List Bool)(w:List Int):xN (i4 ls mask) w=((lJ ls mask w).length:Int):=by
 unfold xN i4 lJ
 rw [bE]
 generalize List.range ls.length=l
 induction l with
 | nil=>rfl
 | cons i l ih =>
  by_cases hm:mask[i]?.getD false=true
  ·by_cases hp:gM w (ls[i]?.getD [])<0
   ·have hl:sW ls mask w i=true:=by simp [sW,hm,hp]
    rw [mG (p:=fun i=>mask[i]?.getD false) hm,mG hl]
    simp only [fA,zQ,eU]
    rw [ih,if_pos hp];omega
   ·have hl:¬ sW ls mask w i=true:=by simp [sW,hm,hp]
    rw [mG (p:=fun i=>mask[i]?.getD false) hm,mH hl]
    simp only [fA,zQ]
    rw [ih,if_neg hp];omega
  ·have hl:¬ sW ls mask w i=true:=by simp [sW,hm]
   rw [mH (p:=fun i=>mask[i]?.getD false) hm,mH hl,ih]
def Kh (ls:List (List Int))(mask:List Bool)(w:List Int)(S:Stage):Bool :=
 Qn ls mask w&&(decide ((S.removed.length:Int)<(lJ ls mask w).length)||(decide (0<((lJ ls mask w).length:Int))&&decide (((lJ ls mask w).length:Int)=S.removed.length)&&decide (w.sum<S.weights.sum)))
def IA (ls:List (List Int))(mask:List Bool)(S:Stage)(w:List Int):Stage:=if Kh ls mask w S=true then ⟨w,lJ ls mask w⟩ else S
def SB (ls:List (List Int))(mask:List Bool)(S:Stage)(B:Bst):Prop :=
 (S=⟨[],[]⟩∧B.d=0)∨(B.w≠[]∧S=⟨B.w,lJ ls mask B.w⟩∧B.d=(lJ ls mask B.w).length∧0<B.d∧B.s=B.w.sum)
theorem Tg {ls:List (List Int)}{mask:List Bool}{S:Stage}{B:Bst}{w:List Int}(hw:w≠[])(h:SB ls mask S B):SB ls mask (IA ls mask S w) (lU (i4 ls mask) w w.sum B):=by
 unfold IA lU Kh
 rw [Ql,QV]
 generalize hL:lJ ls mask w=L
 cases hok:Qn ls mask w with
 | false=>simpa using h
 | true =>
  simp only [mI,eM,if_false,dU]
  rcases h with ⟨h1,h2⟩|⟨h0,h1,h2,h3,h4⟩
  ·subst h1
   by_cases hz:0<(L.length:Int)
   ·rw [if_pos (by simp only [bT,aL,decide_eq_true_eq,List.length_nil];omega),if_pos (by simp only [bT,aL,decide_eq_true_eq];exact .inl (.inr (by omega)))]
    exact .inr ⟨hw,by simp [hL],by simp [hL],hz,rfl⟩
   ·rw [if_neg (by simp only [bT,aL,decide_eq_true_eq,List.length_nil];omega)]
    split
    ·exact .inl ⟨rfl,by show (L.length:Int)=0;omega⟩
    ·exact .inl ⟨rfl,h2⟩
  ·subst h1
   by_cases hc:B.d<(L.length:Int)∨((L.length:Int)=B.d∧w.sum<B.s)
   ·rw [if_pos (by simp only [bT,aL,decide_eq_true_eq];rw [← h2,← h4];omega),if_pos (by simp only [bT,aL,decide_eq_true_eq];omega)]
    exact .inr ⟨hw,by simp [hL],by simp [hL],by simp;omega,rfl⟩
   ·rw [if_neg (by simp only [bT,aL,decide_eq_true_eq];rw [← h2,← h4];omega),if_neg (by simp only [bT,aL,decide_eq_true_eq];rintro ((h|h)|h);exact h0 h;omega;omega)]
    exact .inr ⟨h0,rfl,h2,h3,h4⟩

def j5 (ls:List (List Int))(n:Nat)(m:List Bool):Stage:=(t6 (gJ n ls m) (List.replicate n 0)).foldl (IA ls m) ⟨[],[]⟩
def mU:List Bool→List Int→List Bool
 | m,[]=>m
 | m,r :: l=>mU (m.set r.toNat false) l
def pR (m:List Bool):Nat:=m.count true
def iJ (ls:List (List Int))(n:Nat):Nat→List Bool→List Stage × List Bool
 | 0,m=>([],m)
 | k+1,m=>if pR m=0 then ([],m) else if (j5 ls n m).removed=[] then ([],m) else
  (j5 ls n m :: (iJ ls n k (mU m (j5 ls n m).removed)).1,(iJ ls n k (mU m (j5 ls n m).removed)).2)
theorem qK:∀ (l:List Int) (m:List Bool),(mU m l).length=m.length
 | [],m=>rfl
 | r :: l,m=>by unfold mU;rw [qK l];simp
theorem Fa:∀ (l:List Int) (m:List Bool) (i:Nat),(mU m l)[i]?.getD false=(m[i]?.getD false&&!(l.any fun r=>decide (r.toNat=i)))
 | [],m,i=>by simp [mU]
 | r :: l,m,i=>by
  unfold mU
  rw [Fa l,GE]
  have h:(m.set r.toNat false)[i]?.getD false=(m[i]?.getD false&&!decide (r.toNat=i)):=by
   rw [c6]
   by_cases h:r.toNat=i
   ·simp only [h,if_true,decide_true,mI,DD]
    split<;>rfl
   ·simp [h]
  rw [h]
  cases m[i]?.getD false<;>cases decide (r.toNat=i)<;>simp
theorem LQ (m:List Bool):∀ (l:List Int) (r:Int),mU m (l++[r])=(mU m l).set r.toNat false:=by
 intro l
 induction l generalizing m with
 | nil=>intro r;rfl
 | cons a l ih=>intro r;simp only [kI,mU];exact ih _ r
theorem MC:∀ {m:List Bool} {i:Nat},m[i]?=some true→pR (m.set i false)+1=pR m
 | [],i,h=>by simp at h
 | b :: m,0,h=>by simp at h;subst h;simp [pR]
 | b :: m,i+1,h=>by
  have ih:=MC (m:=m) (i:=i) (by simpa using h)
  unfold pR at ih ⊢
  simp only [tC,List.count_cons]
  omega
theorem S7 {m:List Bool}{i j:Nat}(h:m[j]?=some true)(hne:i≠j):(m.set i false)[j]?=some true:=by rw [pG hne];exact h
theorem MD:∀ (l:List Int) (m:List Bool),l.Nodup→(∀ r∈l,0≤r∧m[r.toNat]?=some true)→pR (mU m l)+l.length=pR m
 | [],m,_,_=>by simp [mU]
 | r :: l,m,hn,h=>by
  have h0:=h r (by simp)
  have hn':=eE.1 hn
  unfold mU
  have hq':∀ q∈l,0≤q∧(m.set r.toNat false)[q.toNat]?=some true:=fun q hq=>by
   have hq0:=h q (by simp [hq])
   refine ⟨hq0.1,S7 hq0.2 fun he=>hn'.1 ?_⟩
   have:r=q:=by omega
   rw [this];exact hq
  have ih:=MD l (m.set r.toNat false) hn'.2 hq'
  have:=MC h0.2
  simp only [eU]
  omega
theorem RG (m:List Bool):(List.range m.length).map (fun i=>m[i]?.getD false)=m:=by
 apply kH
 ·simp
 ·intro i h1 h2;simp at h1;simp [h1]
theorem HX (m:List Bool):(eF m).length=pR m:=by
 have h:pR m=((List.range m.length).map (fun i=>m[i]?.getD false)).count true:=by rw [RG];rfl
 rw [h,List.count_eq_countP,List.countP_map,List.countP_eq_length_filter]
 unfold eF
 congr 1
 apply vV
 intro x _
 simp
theorem K7 {ls:List (List Int)}{m:List Bool}(h:m.length=ls.length):i4 ls m=(eF m).map fun i=>ls[i]?.getD []:=by
 unfold i4 eF;rw [h]
theorem BW {m:List Bool}{i:Nat}:i∈eF m↔m[i]?=some true:=by
 unfold eF
 rw [cO,aZ]
 constructor
 ·rintro ⟨h1,h2⟩
  rw [aA h1] at h2 ⊢
  simpa using h2
 ·intro h
  obtain ⟨h1,h2⟩:=aO.1 h
  exact ⟨h1,by rw [h];rfl⟩
theorem P6 {ls:List (List Int)}{m:List Bool}(hm:m.length=ls.length)(w:List Int):eF (mU m (lJ ls m w))=(eF m).filter fun i=>!decide (gM w (ls[i]?.getD [])<0):=by
 unfold eF
 rw [qK,List.filter_filter]
 apply vV
 intro i hi
 rw [Fa]
 rw [aZ] at hi
 have hany:((lJ ls m w).any fun r=>decide (r.toNat=i))=sW ls m w i:=by
  rw [aY,List.any_eq_true]
  unfold lJ
  constructor
  ·rintro ⟨r,hr,he⟩
   rw [aU] at hr
   obtain ⟨j,hj,rfl⟩:=hr
   simp at he
   subst he
   exact (cO.1 hj).2
  ·intro h
   exact ⟨(i:Int),aU.2 ⟨i,cO.2 ⟨aZ.2 (by omega),h⟩,rfl⟩,by simp⟩
 rw [hany]
 unfold sW
 cases m[i]?.getD false<;>simp
theorem Fp {ls:List (List Int)}{m:List Bool}(hm:m.length=ls.length)(w:List Int):lJ ls m w=((eF m).filter fun i=>decide (gM w (ls[i]?.getD [])<0)).map fun (i:Nat)=>(i:Int):=by
 unfold lJ eF
 rw [List.filter_filter,hm]
 congr 1
 apply vV
 intro i _
 unfold sW
 cases m[i]?.getD false<;>simp
theorem Tf {ls:List (List Int)}{m:List Bool}(hm:m.length=ls.length)(w:List Int):(lJ ls m w).Nodup∧∀ r∈lJ ls m w,0≤r∧m[r.toNat]?=some true:=by
 constructor
 ·unfold lJ
  refine List.Pairwise.map _ (R:=fun a b=>a≠b) (fun a b h he=>h (by omega)) ?_
  exact List.Pairwise.filter _ List.nodup_range
 ·intro r hr
  rw [Fp hm,aU] at hr
  obtain ⟨i,hi,rfl⟩:=hr
  refine ⟨by omega,?_⟩
  simpa using BW.1 (cO.1 hi).1
theorem x7 {n:Nat}{ls:List (List Int)}{m:List Bool}:(gJ n ls m).Nodup∧∀ v∈gJ n ls m,0≤v∧v<n:=by
 constructor
 ·unfold gJ
  refine List.Pairwise.map _ (R:=fun a b=>a≠b) (fun a b h he=>h (by omega)) ?_
  exact List.Pairwise.filter _ List.nodup_range
 ·intro v hv
  unfold gJ at hv
  rw [aU] at hv
  obtain ⟨i,hi,rfl⟩:=hv
  have:=aZ.1 (cO.1 hi).1
  omega
theorem KN {n:Nat}{ls:List (List Int)}{m:List Bool}:gJ n ls m=jS n (i4 ls m):=by
 unfold gJ jS
 congr 1
 apply vV
 intro k _
 unfold i4
 rw [List.any_map,List.any_filter]
 rfl
theorem Ni {n:Nat}{ls:List (List Int)}{m:List Bool}:(gJ n ls m).length≤(jS n ls).length:=by
 unfold gJ jS
 rw [bE,bE,← List.countP_eq_length_filter,← List.countP_eq_length_filter]
 apply List.countP_mono_left
 intro k _ h
 obtain ⟨i,hi,h1⟩:=List.any_eq_true.1 h
 have hi:=aZ.1 hi
 unfold Hh at h1
 rw [aL,aA hi] at h1
 exact List.any_eq_true.2 ⟨ls[i],aB hi,by simpa using h1.2⟩
theorem Cs:∀ (ts:List Int) (w:List Int),(∀ x∈w,0≤x∧x≤6)→∀ u∈t6 ts w,u.length=w.length∧∀ x∈u,0≤x∧x≤6
 | [],w,h,u,hu=>by
  have:u=w:=by simpa [t6] using hu
  subst this;exact ⟨rfl,h⟩
 | p :: ts,w,h,u,hu=>by
  unfold t6 at hu
  rw [bU] at hu
  obtain ⟨v,hv,hu⟩:=hu
  have hv:=aZ.1 hv
  have:=Cs ts (w.set p.toNat v) (oQ h _ (by omega)) u hu
  rw [dX] at this
  exact this
theorem x5 (n:Nat):∀ x∈List.replicate n (0:Int),0≤x∧x≤6:=fun x hx=>by rw [(List.mem_replicate.1 hx).2];decide
theorem HE (n j:Nat):(List.replicate n (0:Int))[j]?.getD 0=0:=by
 rw [mF];split<;>rfl
theorem PN (n:Nat):(List.replicate n (0:Int)).sum=0:=by
 induction n with
 | zero=>rfl
 | succ n ih=>rw [jY,zQ,ih];rfl
theorem SA (ls:List (List Int))(n:Nat)(m:List Bool):j5 ls n m=⟨[],[]⟩∨∃ w∈t6 (gJ n ls m) (List.replicate n 0),Qn ls m w=true∧lJ ls m w≠[]∧j5 ls n m=⟨w,lJ ls m w⟩:=by
 have main:=Cp (p:=fun S:Stage=>S=⟨[],[]⟩∨∃ w∈t6 (gJ n ls m) (List.replicate n 0),Qn ls m w=true∧lJ ls m w≠[]∧S=⟨w,lJ ls m w⟩) (f:=IA ls m)
  (q:=fun w=>w∈t6 (gJ n ls m) (List.replicate n 0)) (fun S w hS hw=>by
   unfold IA
   split
   ·rename_i hb
    unfold Kh at hb
    simp only [aL,bT,decide_eq_true_eq] at hb
    exact .inr ⟨w,hw,hb.1,fun h0=>by rw [h0] at hb;simp at hb;omega,rfl⟩
   ·exact hS) (t6 (gJ n ls m) (List.replicate n 0)) ⟨[],[]⟩ (fun a h=>h) (.inl rfl)
 exact main
theorem IK {α β γ:Type}{R:β→γ→Prop}{f:β→α→β}{g:γ→α→γ}{q:α→Prop}(h:∀ b c a,q a→R b c→R (f b a) (g c a)):∀ (l:List α) (b:β) (c:γ),(∀ a∈l,q a)→R b c→R (l.foldl f b) (l.foldl g c)
 | [],_,_,_,hr=>hr
 | a :: l,b,c,hq,hr=>IK h l _ _ (fun x hx=>hq x (by simp [hx])) (h b c a (hq a (by simp)) hr)
theorem TG (ls:List (List Int))(n:Nat)(hn:0<n)(m:List Bool):SB ls m (j5 ls n m) (yT (i4 ls m) (gJ n ls m) (List.replicate n 0) 0 ⟨[],0,0⟩):=by
 have h:=HJ (xs:=i4 ls m) (gJ n ls m) (List.replicate n 0) ⟨[],0,0⟩ (fun p hp=>by have:=x7.2 p hp;rw [gI];exact this) x7.1 fun p _=>HE n _
 rw [PN] at h
 rw [h]
 unfold j5
 have key:=IK (R:=SB ls m) (f:=IA ls m) (g:=fun B u=>lU (i4 ls m) u u.sum B) (q:=fun w:List Int=>w.length=n) (fun S B w hw hr=>Tg (fun h0=>by rw [h0] at hw;simp at hw;omega) hr)
  (t6 (gJ n ls m) (List.replicate n 0)) ⟨[],[]⟩ ⟨[],0,0⟩
 refine key (fun w hw=>?_) (.inl ⟨rfl,rfl⟩)
 have:=(Cs _ _ (x5 n) w hw).1
 rw [gI] at this;exact this
theorem mP {ls:List (List Int)}{n k:Nat}{m:List Bool}(h:pR m=0∨(j5 ls n m).removed=[]):iJ ls n k m=([],m):=by
 cases k with
 | zero=>rfl
 | succ k =>
  unfold iJ
  by_cases h1:pR m=0
  ·rw [if_pos h1]
  ·rw [if_neg h1,if_pos (h.resolve_left h1)]
theorem uN {ls:List (List Int)}{n k:Nat}{m:List Bool}(h1:pR m≠0)(h2:(j5 ls n m).removed≠[]):iJ ls n (k+1) m =
  (j5 ls n m :: (iJ ls n k (mU m (j5 ls n m).removed)).1,(iJ ls n k (mU m (j5 ls n m).removed)).2):=by
 conv=>lhs;unfold iJ
 rw [if_neg h1,if_neg h2]
theorem bM (n:Nat):pR (List.replicate n true)=n:=by simp [pR]
theorem T9 (zs:List Int):∀ d∈(zs.map cI).flatten,d.flat=true:=by
 intro d hd;rw [Bf,aU] at hd;obtain ⟨x,_,rfl⟩:=hd;rfl

theorem HW {ls:List (List Int)}{m:List Bool}{l:List Int}(h:l∈i4 ls m):l∈ls:=by
 unfold i4 at h
 rw [aU] at h
 obtain ⟨i,hi,rfl⟩:=h
 have hi:=aZ.1 (cO.1 hi).1
 rw [aA hi]
 exact aB hi
theorem TL {ls:List (List Int)}{n:Nat}{m:List Bool}(hl:∀ l∈ls,l.length=n)(hb:∀ l∈ls,∀ x∈l,-100000≤x∧x≤100000)(ht:(jS n ls).length≤6)(hn:n≤1000):FX (i4 ls m) (gJ n ls m) n :=
 ⟨fun l h=>hl l (HW h),fun l h=>hb l (HW h),x7.2,cN Ni ht,hn⟩
theorem bC (n:Nat):eF (List.replicate n true)=List.range n:=by
 unfold eF
 rw [gI,List.filter_eq_self]
 intro i hi
 rw [mF,if_pos (aZ.1 hi)];rfl
def Types.n (t:Types):Nat:=t.nodes.length+t.edges.length
def Nq (t:Types)(rs:List Rule):List Stage × List Bool:=iJ (gC t rs) (t.nodes.length+t.edges.length) rs.length (List.replicate rs.length true)
def wA (t:Types)(rs:List Rule):List Stage:=if fT t rs=0∧eF (Nq t rs).2=[] then (Nq t rs).1 else []
def DK (t:Types)(rs:List Rule):List Int:=if fT t rs=0 then (eF (Nq t rs).2).map fun (i:Nat)=>(i:Int) else []
theorem RC {m:List Bool}{i:Nat}(h:i∈eF m):i<m.length:=(aO.1 (BW.1 h)).1
theorem Ao {m:List Bool}:eF m=[]↔pR m=0:=by
 rw [← HX,List.length_eq_zero_iff]
theorem u6 {α:Type}(p:α→Bool)(a:α):[a].filter p=if p a=true then [a] else []:=by simp [HC]
theorem DS (t:Types)(ht:t.ok)(rs:List Rule)(hr:∀ r∈rs,r.ok):Pure Tryz.prog 53 [t.d,.list (rs.map Rule.c)] (.tup [.list ((wA t rs).map Stage.c),dLI (DK t rs),dI (fT t rs)]):=by
 refine Tz.pK ⟨fun t=>t==9||t==11||t==16||t==17||t==18||t==53,fun r=>match r with|17=>[(2,9),(3,9),(4,9)]|23=>[(2,6),(3,6),(4,6)]|_=>[]⟩ Tryz.func53 rfl (fun Q hQ=>?_)
 try simp [go_sem,seval,bC]
 refine aC (uA t ht rs hr) ((by first|rfl|(simp [go_sem,← List.map_take,← List.map_drop,bC];done))) ?_
 try simp [go_sem,seval,bC]
 refine aJ (fun h2=>?_) (fun h2=>?_)
 ·try simp [go_sem] at h2
  try simp [go_sem,seval,bC]
  exact hQ _ _ (by first|(left;(simp [go_sem,wA,DK,h2]);done)|(right;(simp [go_sem,wA,DK,h2]);done))
 ·try simp [go_sem] at h2
  have hv:=fF (j4 h2).1
  have hN:=hv.fewN
  have hE:=hv.fewE
  have hV:gC t rs=rs.map (g7 t):=if_pos h2
  have hT:Bl t rs=jS (t.nodes.length+t.edges.length) (gC t rs):=by rw [hV];exact if_pos h2
  have hX0:=PM h2
  have hVl:(gC t rs).length=rs.length:=by rw [hV,bE]
  have hlen6:=(j4 h2).2.1
  have hn0:0<t.nodes.length+t.edges.length:=by have:=hv.ne;omega
  have hTf:(jS (t.nodes.length+t.edges.length) (gC t rs)).length≤6:=by rw [← hT];exact hX0.few
  have hxl:=hX0.xl
  have hxb:=hX0.xb
  obtain ⟨ls,hls⟩:∃ ls,gC t rs=ls:=⟨_,rfl⟩
  obtain ⟨N,hNn⟩:∃ N,t.nodes.length+t.edges.length=N:=⟨_,rfl⟩
  have hNi:(t.nodes.length:Int)+t.edges.length=(N:Int):=by omega
  have hstg:Nq t rs=iJ ls N rs.length (List.replicate rs.length true):=by unfold Nq;rw [hls,hNn]
  rw [hls] at hVl hTf hxl hxb
  rw [hNn] at hn0 hTf hxl
  try simp [go_sem,seval,bC,hls,hNi]
  repeat first|intro _|refine ⟨eI,?_⟩
  obtain ⟨I0,hI0⟩:∃ I0:Nat→cY→AHeap→Prop,∀ (i:Nat) (e:cY) (H:AHeap),I0 i e H↔((e 2=.adr t.c)∧(e 1=.list (rs.map Rule.c))∧(e 7=.list (ls.map cL))∧(e 9=.own 0 i)∧(e 31=dI rs.length)∧(e 32=dI i)∧(H.get 0=some ⟨3,1,((List.range i).map fun (b:Nat)=>(b:Int)).map cI,false⟩)∧(0<H.next)∧(i≤rs.length)):=⟨fun i e H=>_,fun _ _ _=>Iff.rfl⟩
  refine fZ I0 (fun i=>rs.length - i) (0) ((hI0 _ _ _).2 ⟨?_,?_,?_,?_,?_,?_,(by rfl),?_,(by first|assumption|omega|(simp [go_sem,bC,hls,hNi];done)|(simp_all;done))⟩) ?_
  iterate 7 (first|omega|(simp [go_sem,seval,bC,hls,hNi]<;>omega))
  intro i e H hi0
  obtain ⟨q2_0,q1_0,q7_0,q9_0,q31_0,q32_0,g0_0,n0_0,hi⟩:=(hI0 _ _ _).1 hi0
  have x0:=cG n0_0
  have F0:=And.intro q2_0 (And.intro q1_0 (And.intro q7_0 (And.intro q9_0 (And.intro q31_0 (And.intro q32_0 (And.intro g0_0 x0))))))
  try simp [go_sem,seval,bC,hls,hNi,F0]
  refine aJ (fun h6=>?_) (fun h6=>?_)
  ·try simp [go_sem] at h6
   try simp [go_sem,seval,bC,hls,hNi,F0,h6]
   repeat first|intro _|refine ⟨eI,?_⟩
   refine bY (i+1) (by omega) ((hI0 _ _ _).2 ⟨?_,?_,?_,?_,?_,?_,(by (simp [go_sem,bC,hls,hNi,F0,h6,bL])),?_,(by first|assumption|omega|(simp [go_sem,bC,hls,hNi,F0,h6,h2];done)|(simp_all<;>omega))⟩)<;>first|omega|(simp [go_sem,seval,bC,hls,hNi,F0,h6]<;>omega)
  ·try simp [go_sem] at h6
   have hie:i=rs.length:=by omega
   subst hie
   try simp [go_sem,seval,bC,hls,hNi,F0]
   obtain ⟨I2,hI2⟩:∃ I2:Nat→cY→AHeap→Prop,∀ (k:Nat) (e:cY) (H:AHeap),I2 k e H↔(∃ m:List Bool,∃ r:Nat,∃ o:Nat,∃ out:List Stage,(e 2=.adr t.c)∧(e 1=.list (rs.map Rule.c))∧(e 7=.list (ls.map cL))∧(e 9=.own r (eF m).length)∧(e 11=.own o out.length)∧(H.get r=some ⟨3,1,((eF m).map fun (b:Nat)=>(b:Int)).map cI,false⟩)∧(r<H.next)∧(H.get o=some ⟨130,2,out.map Stage.c,false⟩)∧(o<H.next)∧(r≠o)∧(m.length=rs.length)∧(pR m≤k)∧(out.length+k≤rs.length)∧(iJ ls N rs.length (List.replicate rs.length true)=(out++(iJ ls N k m).1,(iJ ls N k m).2))):=⟨fun k e H=>_,fun _ _ _=>Iff.rfl⟩
   refine fZ I2 (fun k=>k) (rs.length) ((hI2 _ _ _).2 ⟨(List.replicate rs.length true),(0),(H.next),([]),?_,?_,?_,?_,?_,?_,?_,?_,?_,(by omega),(by simp),(by (rw [bM];exact bQ _)),(by simp),(by simp)⟩) ?_
   iterate 9 (first|omega|(simp [go_sem,seval,bC,hls,hNi,F0]<;>omega))
   intro k e H hi2
   obtain ⟨m,r,o,out,q2_2,q1_2,q7_2,q9_2,q11_2,gr_2,nr_2,go_2,no_2,hro,hm,hk,hol,hF⟩:=(hI2 _ _ _).1 hi2
   have xr:=cG nr_2
   have xo:=cG no_2
   have F2:=And.intro q2_2 (And.intro q1_2 (And.intro q7_2 (And.intro q9_2 (And.intro q11_2 (And.intro gr_2 (And.intro go_2 (And.intro xr xo)))))))
   have di1:=c5 (show o≠r by omega)
   try simp [go_sem,seval,bC,hls,hNi,F2,di1]
   repeat first|intro _|refine ⟨eI,?_⟩
   refine aJ (fun h11=>?_) (fun h11=>?_)
   ·try simp [go_sem] at h11
    have hrl:=HX m
    have hkp:0<k:=by omega
    have hml:m.length=ls.length:=by omega
    have hXm:=TL (m:=m) hxl hxb hTf (by omega)
    have hXr:=K7 hml
    have hXl:(i4 ls m).length=(eF m).length:=by rw [hXr,bE]
    have hrlt:∀ i,(h:i<(eF m).length)→(eF m)[i]<ls.length:=fun i h=>by have:=RC (aB h);omega
    try simp [go_sem,seval,bC,hls,hNi,F2,di1,h11,hXl]
    repeat first|intro _|refine ⟨eI,?_⟩
    obtain ⟨I4,hI4⟩:∃ I4:Nat→cY→AHeap→Prop,∀ (j:Nat) (e:cY) (H:AHeap),I4 j e H↔(∃ q:Nat,∃ f:Nat,∃ ee:Nat,(e 2=.adr t.c)∧(e 1=.list (rs.map Rule.c))∧(e 7=.list (ls.map cL))∧(e 9=.own r (eF m).length)∧(e 11=.own o out.length)∧(e 12=dI N)∧(e 13=.ptr f 1 0 0)∧(e 54=.own r (eF m).length)∧(e 55=dI (eF m).length)∧(e 56=dI j)∧(H.get f=some ⟨204,7,[[.own ee j,.nil,.own q N,dI 0,.nil,dI 0,dI 0]],false⟩)∧(f<H.next)∧(H.get ee=some ⟨34,1,((i4 ls m).take j).map cL,false⟩)∧(ee<H.next)∧(H.get q=some ⟨3,1,(List.replicate N (0:Int)).map cI,false⟩)∧(q<H.next)∧(H.get r=some ⟨3,1,((eF m).map fun (b:Nat)=>(b:Int)).map cI,false⟩)∧(r<H.next)∧(H.get o=some ⟨130,2,out.map Stage.c,false⟩)∧(o<H.next)∧(j≤(eF m).length)∧(r<q∧o<q∧q<f∧f<ee)):=⟨fun j e H=>_,fun _ _ _=>Iff.rfl⟩
    refine uY (Ghosts.step (Ghosts.refl _) (H.next+1) 0 0 34 1 _ _ ((by simp [go_sem]:AHeap.get _ _=some ⟨204,7,[[.nil,.nil,.own H.next N,dI 0,.nil,dI 0,dI 0]],false⟩)) rfl rfl rfl) I4 (fun j=>(eF m).length - j) (0) ((hI4 _ _ _).2 ⟨(H.next),(H.next+1),(H.next+2),?_,?_,?_,?_,?_,?_,?_,?_,?_,?_,?_,?_,?_,?_,?_,?_,?_,?_,?_,?_,(by first|assumption|omega|(simp [go_sem,bC,hls,hNi,F2,di1,h11,hXl];done)|(simp_all;done)),(by omega)⟩) ?_
    iterate 20 (first|omega|(simp [go_sem,seval,bC,hls,hNi,F2,di1,h11,hXl]<;>omega))
    intro j e H hi4
    obtain ⟨q,f,ee,q2_4,q1_4,q7_4,q9_4,q11_4,q12_4,q13_4,q54_4,q55_4,q56_4,gf_4,nf_4,gee_4,nee_4,gq_4,nq_4,gr_4,nr_4,go_4,no_4,hj,ho4⟩:=(hI4 _ _ _).1 hi4
    have xf:=cG nf_4
    have xee:=cG nee_4
    have xq:=cG nq_4
    have xr:=cG nr_4
    have xo:=cG no_4
    have F4:=And.intro q2_4 (And.intro q1_4 (And.intro q7_4 (And.intro q9_4 (And.intro q11_4 (And.intro q12_4 (And.intro q13_4 (And.intro q54_4 (And.intro q55_4 (And.intro q56_4 (And.intro gf_4 (And.intro gq_4 (And.intro gr_4 (And.intro go_4 (And.intro xf (And.intro xee (And.intro xq (And.intro xr xo)))))))))))))))))
    have di2:=And.intro (c5 (show ee≠f by omega)) (And.intro (c5 (show ee≠q by omega)) (And.intro (c5 (show ee≠o by omega)) (And.intro (c5 (show ee≠r by omega)) (And.intro (c5 (show f≠q by omega)) (And.intro (c5 (show f≠o by omega)) (And.intro (c5 (show f≠r by omega)) (And.intro (c5 (show q≠o by omega)) (And.intro (c5 (show q≠r by omega)) (c5 (show o≠r by omega))))))))))
    try simp [go_sem,seval,bC,hls,hNi,di1,h11,hXl,F4,gee_4,di2]
    refine aJ (fun h15=>?_) (fun h15=>?_)
    ·try simp [go_sem] at h15
     have hri:=hrlt j h15
     have hxj:(i4 ls m).take (j+1)=(i4 ls m).take j++[ls[(eF m)[j]]]:=by rw [aF (by omega)];congr 2;simp [hXr,aA hri]
     try simp [go_sem,seval,bC,hls,hNi,di1,h11,hXl,F4,gee_4,di2,h15,hri,aA hri,hxj]
     repeat first|intro _|refine ⟨eI,?_⟩
     refine bY (j+1) (by omega) ((hI4 _ _ _).2 ⟨(q),(f),(ee),?_,?_,?_,?_,?_,?_,?_,?_,?_,?_,?_,?_,?_,?_,?_,?_,?_,?_,?_,?_,(by first|assumption|omega|(simp [go_sem,bC,hls,hNi,di1,h11,hXl,F4,gee_4,di2,h15,hri,aA hri,hxj,h2,h6];done)|(simp_all<;>omega)),(by omega)⟩)<;>first|omega|(simp [go_sem,seval,bC,hls,hNi,di1,h11,hXl,F4,gee_4,di2,h15,hri,aA hri,hxj]<;>omega)
    ·try simp [go_sem] at h15
     have hje:j=(eF m).length:=by omega
     subst hje
     rw [aI (by omega)] at gee_4
     try simp [go_sem,seval,bC,hls,hNi,di1,h11,hXl,F4,gee_4,di2]
     obtain ⟨I6,hI6⟩:∃ I6:Nat→cY→AHeap→Prop,∀ (x:Nat) (e:cY) (H:AHeap),I6 x e H↔(∃ c:Nat,∃ ys:List Int,(e 2=.adr t.c)∧(e 1=.list (rs.map Rule.c))∧(e 7=.list (ls.map cL))∧(e 9=.own r (eF m).length)∧(e 11=.own o out.length)∧(e 12=dI N)∧(e 13=.ptr f 1 0 0)∧(e 74=dI N)∧(e 75=dI x)∧(H.get f=some ⟨204,7,[[.own ee (eF m).length,.own c ys.length,.own q N,dI 0,.nil,dI 0,dI 0]],false⟩)∧(f<H.next)∧(H.get ee=some ⟨34,1,(i4 ls m).map cL,false⟩)∧(ee<H.next)∧(H.get c=some ⟨3,1,ys.map cI,false⟩)∧(c<H.next)∧(H.get q=some ⟨3,1,(List.replicate N (0:Int)).map cI,false⟩)∧(q<H.next)∧(H.get r=some ⟨3,1,((eF m).map fun (b:Nat)=>(b:Int)).map cI,false⟩)∧(r<H.next)∧(H.get o=some ⟨130,2,out.map Stage.c,false⟩)∧(o<H.next)∧(x≤N)∧(ys.length≤x)∧(ys=((List.range x).filter fun (k:Nat)=>(i4 ls m).any fun l=>decide (l[k]?.getD 0≠0)).map (fun (b:Nat)=>(b:Int)))∧(r<q∧o<q∧q<f∧f<ee∧ee<c)):=⟨fun x e H=>_,fun _ _ _=>Iff.rfl⟩
     refine uY (Ghosts.step (Ghosts.refl _) f 0 1 3 1 _ _ (gf_4) rfl rfl rfl) I6 (fun x=>N - x) (0) ((hI6 _ _ _).2 ⟨(H.next),([]),?_,?_,?_,?_,?_,?_,?_,?_,?_,?_,?_,?_,?_,?_,?_,?_,?_,?_,?_,?_,?_,(by first|assumption|omega|(simp [go_sem,bC,hls,hNi,di1,h11,hXl,F4,gee_4,di2];done)|(simp_all;done)),(by simp),(by rfl),(by omega)⟩) ?_
     iterate 21 (first|omega|(simp [go_sem,seval,bC,hls,hNi,di1,h11,hXl,F4,gee_4,di2]<;>omega))
     intro x e H hi6
     obtain ⟨c,ys,q2_6,q1_6,q7_6,q9_6,q11_6,q12_6,q13_6,q74_6,q75_6,gf_6,nf_6,gee_6,nee_6,gc_6,nc_6,gq_6,nq_6,gr_6,nr_6,go_6,no_6,hx,hyl,hy,ho6⟩:=(hI6 _ _ _).1 hi6
     have xf:=cG nf_6
     have xee:=cG nee_6
     have xc:=cG nc_6
     have xq:=cG nq_6
     have xr:=cG nr_6
     have xo:=cG no_6
     have F6:=And.intro q2_6 (And.intro q1_6 (And.intro q7_6 (And.intro q9_6 (And.intro q11_6 (And.intro q12_6 (And.intro q13_6 (And.intro q74_6 (And.intro q75_6 (And.intro gf_6 (And.intro gee_6 (And.intro gc_6 (And.intro gq_6 (And.intro gr_6 (And.intro go_6 (And.intro xf (And.intro xee (And.intro xc (And.intro xq (And.intro xr xo)))))))))))))))))))
     have di3:=And.intro (c5 (show c≠ee by omega)) (And.intro (c5 (show c≠f by omega)) (And.intro (c5 (show c≠q by omega)) (And.intro (c5 (show c≠o by omega)) (And.intro (c5 (show c≠r by omega)) (And.intro (c5 (show ee≠f by omega)) (And.intro (c5 (show ee≠q by omega)) (And.intro (c5 (show ee≠o by omega)) (And.intro (c5 (show ee≠r by omega)) (And.intro (c5 (show f≠q by omega)) (And.intro (c5 (show f≠o by omega)) (And.intro (c5 (show f≠r by omega)) (And.intro (c5 (show q≠o by omega)) (And.intro (c5 (show q≠r by omega)) (c5 (show o≠r by omega)))))))))))))))
     try simp [go_sem,seval,bC,hls,hNi,di1,h11,hXl,di2,F6,di3]
     refine aJ (fun h20=>?_) (fun h20=>?_)
     ·try simp [go_sem] at h20
      try simp [go_sem,seval,bC,hls,hNi,di1,h11,hXl,di2,F6,di3,h20]
      refine mA ((m6 (i4 ls m) 116 [.adr [dI x]] (fun l=>decide (l[x]?.getD 0≠0)) (by simp [go_sem]) (by simp [go_sem]) (fun l hl=>Cv l x (by have:=hXm.xl l hl;omega)))) (by simp [sP,tI,eD,go_sem,← List.map_take,← List.map_drop,bC,hls,hNi,di1,h11,hXl,di2,F6,di3,h20]) ((by first|rfl|(simp [go_sem,← List.map_take,← List.map_drop,bC,hls,hNi,di1,h11,hXl,di2,F6,di3,h20];done))) ( rfl) ?_
      try simp [go_sem,seval,bC,hls,hNi,di1,h11,hXl,di2,F6,di3,h20]
      refine aJ (fun h22=>?_) (fun h22=>?_)
      ·try simp [go_sem] at h22
       try simp [go_sem,seval,bC,hls,hNi,di1,h11,hXl,di2,F6,di3,h20,h22]
       repeat first|intro _|refine ⟨eI,?_⟩
       refine bY (x+1) (by omega) ((hI6 _ _ _).2 ⟨(c),(ys++(if ((i4 ls m).any fun l=>decide (l[x]?.getD 0≠0))=true then [(x:Int)] else [])),?_,?_,?_,?_,?_,?_,?_,?_,?_,?_,?_,?_,?_,?_,?_,?_,?_,?_,?_,?_,?_,(by first|assumption|omega|(simp [go_sem,bC,hls,hNi,di1,h11,hXl,di2,F6,di3,h20,h22,h2,h6,h15];done)|(simp_all<;>omega)),(by (rw [aG];split<;>simp<;>omega)),(by (rw [bN,← hy])),(by omega)⟩)<;>first|omega|(simp [go_sem,seval,bC,hls,hNi,di1,h11,hXl,di2,F6,di3,h20,h22]<;>omega)
      ·try simp [go_sem] at h22
       try simp [go_sem,seval,bC,hls,hNi,di1,h11,hXl,di2,F6,di3,h20,h22]
       repeat first|intro _|refine ⟨eI,?_⟩
       refine bY (x+1) (by omega) ((hI6 _ _ _).2 ⟨(c),(ys++(if ((i4 ls m).any fun l=>decide (l[x]?.getD 0≠0))=true then [(x:Int)] else [])),?_,?_,?_,?_,?_,?_,?_,?_,?_,?_,?_,?_,?_,?_,?_,?_,?_,?_,?_,?_,?_,(by first|assumption|omega|(simp [go_sem,bC,hls,hNi,di1,h11,hXl,di2,F6,di3,h20,h22,h2,h6,h15];done)|(simp_all<;>omega)),(by (rw [aG];split<;>simp<;>omega)),(by (rw [bN,← hy])),(by omega)⟩)<;>first|omega|(simp [go_sem,seval,bC,hls,hNi,di1,h11,hXl,di2,F6,di3,h20,h22]<;>omega)
     ·try simp [go_sem] at h20
      have hxe:N=x:=by omega
      subst hxe
      have hT6:ys=gJ N ls m:=by rw [hy,KN];rfl
      subst hT6
      obtain ⟨B,hBe⟩:∃ B,yT (i4 ls m) (gJ N ls m) (List.replicate N 0) 0 ⟨[],0,0⟩=B:=⟨_,rfl⟩
      have hSB:=TG ls N hn0 m
      have hBo:=O3 (xs:=i4 ls m) (nn:=N) (gJ N ls m) (List.replicate N 0) 0 ⟨[],0,0⟩ (by simp) (x5 N) (.inl ⟨rfl,rfl⟩)
      rw [hBe] at hSB hBo
      try simp [go_sem,seval,bC,hls,hNi,di1,h11,hXl,di2,F6,di3]
      unfold fB;refine Oq f ee c q ⟨by omega,by omega,by omega,by omega,by omega,by omega⟩ (i4 ls m) (gJ N ls m) N hXm (by omega) hn0 x7.1 (gJ N ls m).length 0 (List.replicate N 0) 0 ⟨[],0,0⟩ _ _ (by omega) (by omega) (by omega) (fun _ _ _=>HE N _) (by omega) (by omega) (by omega) (by omega) ⟨by simp [go_sem,bC,hls,hNi,di1,h11,hXl,di2,F6,di3,hXl,Gk],by simp [bC,hls,hNi,di1,h11,hXl,di2,F6,di3],by simp [bC,hls,hNi,di1,h11,hXl,di2,F6,di3],by simp [bC,hls,hNi,di1,h11,hXl,di2,F6,di3],by simp,x5 N⟩ (fun H2 hF2 hfr2 hn2=>?_)
      rw [List.drop_zero,hBe] at hF2
      have kf:=hF2.bf
      have ke:=hF2.be
      have kc:=hF2.bc
      have kq:=hF2.bq
      have kr:=hfr2 r (by omega) (by omega) (by omega)
      have ko:=hfr2 o (by omega) (by omega) (by omega)
      simp only [bC,hls,hNi,di1,h11,hXl,di2,F6,di3] at kr ko
      have fr4:=And.intro (cG (show r<H2.next by omega)) (And.intro (cG (show o<H2.next by omega)) (And.intro (cG (show f<H2.next by omega)) (And.intro (cG (show ee<H2.next by omega)) (And.intro (cG (show c<H2.next by omega)) (cG (show q<H2.next by omega))))))
      try simp [go_sem,seval,bC,hls,hNi,di1,h11,hXl,di2,F6,di3,kf,ke,kc,kq,kr,ko,fr4]
      refine aJ (fun h26=>?_) (fun h26=>?_)
      ·try simp [go_sem] at h26
       have hr0:(j5 ls N m).removed=[]:=by
        rcases hSB with ⟨h,_⟩|⟨_,_,_,h,_⟩
        ·rw [h]
        ·omega
       rw [mP (k:=k) (m:=m) (.inr hr0)] at hF
       have hne:eF m≠[]:=by intro h;rw [h] at h11;simp at h11
       try simp [go_sem,seval,bC,hls,hNi,di1,h11,hXl,di2,F6,di3,kf,ke,kc,kq,kr,ko,fr4]
       exact hQ _ _ (by first|(left;(simp [go_sem,bC,hls,hNi,di1,h11,hXl,di2,F6,di3,kf,ke,kc,kq,kr,ko,fr4,wA,DK,h2,hstg,hF,hne]);done)|(right;(simp [go_sem,bC,hls,hNi,di1,h11,hXl,di2,F6,di3,kf,ke,kc,kq,kr,ko,fr4,wA,DK,h2,hstg,hF,hne]);done))
      ·try simp [go_sem] at h26
       obtain ⟨hBw,hBS,hBd,hBp,hBs⟩:B.w≠[]∧j5 ls N m=⟨B.w,lJ ls m B.w⟩∧B.d=(lJ ls m B.w).length∧0<B.d∧B.s=B.w.sum:=by
        rcases hSB with ⟨_,h⟩|h
        ·exact absurd h h26
        ·exact h
       have hBi:BestIn (i4 ls m) N B:=by
        rcases hBo with ⟨h,_⟩|h
        ·exact absurd h hBw
        ·exact h
       have hbd:Gk B=.list (B.w.map cI):=if_neg hBw
       rw [hbd] at kf
       have hrem:(j5 ls N m).removed=lJ ls m B.w:=by rw [hBS]
       have hr0:(j5 ls N m).removed≠[]:=by rw [hrem];intro h;rw [h] at hBd;simp at hBd;omega
       have hon:=Tf (ls:=ls) (m:=m) hml B.w
       have hoff:=MD _ _ hon.1 hon.2
       rw [← hrem] at hoff
       have hrp:0<(j5 ls N m).removed.length:=iP.2 hr0
       obtain ⟨k2,hk2⟩:∃ k2,k=k2+1:=⟨k - 1,by omega⟩
       rw [hk2,uN (k:=k2) (m:=m) (by omega) hr0] at hF
       try simp [go_sem,seval,bC,hls,hNi,di1,h11,hXl,di2,F6,di3,kf,ke,kc,kq,kr,ko,fr4]
       repeat first|intro _|refine ⟨eI,?_⟩
       obtain ⟨I8,hI8⟩:∃ I8:Nat→cY→AHeap→Prop,∀ (j:Nat) (e:cY) (H:AHeap),I8 j e H↔(∃ a:Nat,∃ b:Nat,∃ A:List Nat,∃ E:List Nat,(e 2=.adr t.c)∧(e 1=.list (rs.map Rule.c))∧(e 7=.list (ls.map cL))∧(e 9=.own r (eF m).length)∧(e 11=.own o out.length)∧(e 13=.ptr f 1 0 0)∧(e 17=.own a A.length)∧(e 18=.own b E.length)∧(e 103=.own r (eF m).length)∧(e 104=dI (eF m).length)∧(e 105=dI j)∧(H.get f=some ⟨204,7,[[.own ee (i4 ls m).length,.own c (gJ N ls m).length,.own q N,dI 0,.list (B.w.map cI),dI B.s,dI B.d]],false⟩)∧(f<H.next)∧(H.get a=some ⟨3,1,(A.map fun (b:Nat)=>(b:Int)).map cI,false⟩)∧(a<H.next)∧(H.get b=some ⟨3,1,(E.map fun (b:Nat)=>(b:Int)).map cI,false⟩)∧(b<H.next)∧(H.get r=some ⟨3,1,((eF m).map fun (b:Nat)=>(b:Int)).map cI,false⟩)∧(r<H.next)∧(H.get o=some ⟨130,2,out.map Stage.c,false⟩)∧(o<H.next)∧(j≤(eF m).length)∧(A.length≤j∧E.length≤j)∧(A=((eF m).take j).filter (fun i=>decide (gM B.w (ls[i]?.getD [])<0)))∧(E=((eF m).take j).filter (fun i=>!decide (gM B.w (ls[i]?.getD [])<0)))∧(r<f∧o<f∧f<a∧a<b)):=⟨fun j e H=>_,fun _ _ _=>Iff.rfl⟩
       refine fZ I8 (fun j=>(eF m).length - j) (0) ((hI8 _ _ _).2 ⟨(H2.next),(H2.next+1),([]),([]),?_,?_,?_,?_,?_,?_,?_,?_,?_,?_,?_,?_,?_,?_,?_,?_,?_,?_,?_,?_,?_,(by first|assumption|omega|(simp [go_sem,bC,hls,hNi,di1,h11,hXl,di2,F6,di3,kf,ke,kc,kq,kr,ko,fr4];done)|(simp_all;done)),(by simp),(by rfl),(by rfl),(by omega)⟩) ?_
       iterate 21 (first|omega|(simp [go_sem,seval,bC,hls,hNi,di1,h11,hXl,di2,F6,di3,kf,ke,kc,kq,kr,ko,fr4]<;>omega))
       intro j e H hi8
       obtain ⟨a,b,A,E,q2_8,q1_8,q7_8,q9_8,q11_8,q13_8,q17_8,q18_8,q103_8,q104_8,q105_8,gf_8,nf_8,ga_8,na_8,gb_8,nb_8,gr_8,nr_8,go_8,no_8,hj,hAE,hA,hEE,ho8⟩:=(hI8 _ _ _).1 hi8
       have xf:=cG nf_8
       have xa:=cG na_8
       have xb:=cG nb_8
       have xr:=cG nr_8
       have xo:=cG no_8
       have F8:=And.intro q2_8 (And.intro q1_8 (And.intro q7_8 (And.intro q9_8 (And.intro q11_8 (And.intro q13_8 (And.intro q17_8 (And.intro q18_8 (And.intro q103_8 (And.intro q104_8 (And.intro q105_8 (And.intro gf_8 (And.intro ga_8 (And.intro gb_8 (And.intro gr_8 (And.intro go_8 (And.intro xf (And.intro xa (And.intro xr xo))))))))))))))))))
       have di5:=And.intro (c5 (show b≠a by omega)) (And.intro (c5 (show b≠f by omega)) (And.intro (c5 (show b≠o by omega)) (And.intro (c5 (show b≠r by omega)) (And.intro (c5 (show a≠f by omega)) (And.intro (c5 (show a≠o by omega)) (And.intro (c5 (show a≠r by omega)) (And.intro (c5 (show f≠o by omega)) (And.intro (c5 (show f≠r by omega)) (c5 (show o≠r by omega))))))))))
       try simp [go_sem,seval,bC,hls,hNi,di1,h11,hXl,di2,di3,kf,ke,kc,kq,kr,ko,fr4,F8,xb,di5]
       refine aJ (fun h30=>?_) (fun h30=>?_)
       ·try simp [go_sem] at h30
        have hri:=hrlt j h30
        try simp [go_sem,seval,bC,hls,hNi,di1,h11,hXl,di2,di3,kf,ke,kc,kq,kr,ko,fr4,F8,xb,di5,h30,hri,aA hri]
        repeat first|intro _|refine ⟨eI,?_⟩
        refine Ka ((lC B.w ls[(eF m)[j]] ⟨by rw [hxl _ (aB _),hBi.len];exact bQ _,by rw [hBi.len];omega,fun y hy=>by have:=hBi.dig y hy;omega,hxb _ (aB _)⟩)) (by simp [sP,tI,eD,go_sem,← List.map_take,← List.map_drop,bC,hls,hNi,di1,h11,hXl,di2,di3,kf,ke,kc,kq,kr,ko,fr4,F8,xb,di5,h30,hri,aA hri]) ((by first|rfl|(simp [go_sem,← List.map_take,← List.map_drop,bC,hls,hNi,di1,h11,hXl,di2,di3,kf,ke,kc,kq,kr,ko,fr4,F8,xb,di5,h30,hri,aA hri];done))) ( rfl) rfl (by simp [go_sem,bC,hls,hNi,di1,h11,hXl,di2,di3,kf,ke,kc,kq,kr,ko,fr4,F8,xb,di5,h30,hri,aA hri]) ?_
        try simp [go_sem,seval,bC,hls,hNi,di1,h11,hXl,di2,di3,kf,ke,kc,kq,kr,ko,fr4,F8,xb,di5,h30,hri,aA hri]
        repeat first|intro _|refine ⟨eI,?_⟩
        refine aJ (fun h32=>?_) (fun h32=>?_)
        ·try simp [go_sem] at h32
         try simp [go_sem,seval,bC,hls,hNi,di1,h11,hXl,di2,di3,kf,ke,kc,kq,kr,ko,fr4,F8,xb,di5,h30,hri,aA hri,h32]
         repeat first|intro _|refine ⟨eI,?_⟩
         refine bY (j+1) (by omega) ((hI8 _ _ _).2 ⟨(a),(b),(A++(if decide (gM B.w (ls[(eF m)[j]]?.getD [])<0)=true then [(eF m)[j]] else [])),(E++(if (!decide (gM B.w (ls[(eF m)[j]]?.getD [])<0))=true then [(eF m)[j]] else [])),?_,?_,?_,?_,?_,?_,?_,?_,?_,?_,?_,?_,?_,?_,?_,?_,?_,?_,?_,?_,?_,(by first|assumption|omega|(simp [go_sem,bC,hls,hNi,di1,h11,hXl,di2,di3,kf,ke,kc,kq,kr,ko,fr4,F8,xb,di5,h30,hri,aA hri,h32,h2,h6,h15,h20,h26];done)|(simp_all<;>omega)),(by (constructor<;>(rw [aG];split<;>simp<;>omega))),(by (rw [aF h30,eY,← hA,u6])),(by (rw [aF h30,eY,← hEE,u6])),(by omega)⟩)<;>first|omega|(simp [go_sem,seval,bC,hls,hNi,di1,h11,hXl,di2,di3,kf,ke,kc,kq,kr,ko,fr4,F8,xb,di5,h30,hri,aA hri,h32]<;>omega)
        ·try simp [go_sem] at h32
         try simp [go_sem,seval,bC,hls,hNi,di1,h11,hXl,di2,di3,kf,ke,kc,kq,kr,ko,fr4,F8,xb,di5,h30,hri,aA hri,h32]
         repeat first|intro _|refine ⟨eI,?_⟩
         refine bY (j+1) (by omega) ((hI8 _ _ _).2 ⟨(a),(b),(A++(if decide (gM B.w (ls[(eF m)[j]]?.getD [])<0)=true then [(eF m)[j]] else [])),(E++(if (!decide (gM B.w (ls[(eF m)[j]]?.getD [])<0))=true then [(eF m)[j]] else [])),?_,?_,?_,?_,?_,?_,?_,?_,?_,?_,?_,?_,?_,?_,?_,?_,?_,?_,?_,?_,?_,(by first|assumption|omega|(simp [go_sem,bC,hls,hNi,di1,h11,hXl,di2,di3,kf,ke,kc,kq,kr,ko,fr4,F8,xb,di5,h30,hri,aA hri,h32,h2,h6,h15,h20,h26];done)|(simp_all<;>omega)),(by (constructor<;>(rw [aG];split<;>simp<;>omega))),(by (rw [aF h30,eY,← hA,u6])),(by (rw [aF h30,eY,← hEE,u6])),(by omega)⟩)<;>first|omega|(simp [go_sem,seval,bC,hls,hNi,di1,h11,hXl,di2,di3,kf,ke,kc,kq,kr,ko,fr4,F8,xb,di5,h30,hri,aA hri,h32]<;>omega)
       ·try simp [go_sem] at h30
        rw [aI (by omega)] at hA hEE
        have hAl:A.map (fun (b:Nat)=>(b:Int))=lJ ls m B.w:=by rw [hA,Fp hml]
        have hEl:eF (mU m (lJ ls m B.w))=E:=by rw [hEE,P6 hml]
        have hAn:(lJ ls m B.w).length=A.length:=by rw [← hAl,bE]
        try simp [go_sem,seval,bC,hls,hNi,di1,h11,hXl,di2,di3,kf,ke,kc,kq,kr,ko,fr4,F8,xb,di5,hBS,hAl,hEl,hAn,Stage.c,dLI]
        repeat first|intro _|refine ⟨eI,?_⟩
        refine bY (k - 1) (by omega) ((hI2 _ _ _).2 ⟨(mU m (j5 ls N m).removed),(b),(o),(out++[j5 ls N m]),?_,?_,?_,?_,?_,?_,?_,?_,?_,(by omega),(by (rw [qK];exact hm)),(by omega),(by (simp;omega)),(by (rw [show k - 1=k2 by omega,hF];simp))⟩)<;>first|omega|(simp [go_sem,seval,bC,hls,hNi,di1,h11,hXl,di2,di3,kf,ke,kc,kq,kr,ko,fr4,F8,xb,di5,hBS,hAl,hEl,hAn,Stage.c,dLI]<;>omega)
   ·try simp [go_sem] at h11
    have hr1:eF m=[]:=by simpa using h11
    have hr2:pR m=0:=Ao.1 hr1
    rw [mP (k:=k) (m:=m) (.inl hr2)] at hF
    try simp [go_sem,seval,bC,hls,hNi,F2,di1]
    exact hQ _ _ (by first|(left;(simp [go_sem,bC,hls,hNi,F2,di1,wA,DK,h2,hstg,hF,hr1]);done)|(right;(simp [go_sem,bC,hls,hNi,F2,di1,wA,DK,h2,hstg,hF,hr1]);done))
def BY (ls:List (List Int))(m:List Bool)(w l:List Int)(i:Nat):Bool:=decide (0≤l[i]?.getD 0)&&sW ls m w (l[i]?.getD 0).toNat&&(decide (i=0)||decide (l[i - 1]?.getD 0<l[i]?.getD 0))
def kO (ls:List (List Int))(n:Nat)(m:List Bool)(s:Stage):Bool :=
 decide (s.weights.length=n)&&!decide (s.removed=[])&&!(s.weights.any oddB)&&(List.range s.removed.length).all (BY ls m s.weights s.removed)&&Qn ls m s.weights
def v8 (ls:List (List Int))(n:Nat):List Stage→List Bool→Bool
 | [],m=>decide (pR m=0)
 | s :: l,m=>kO ls n m s&&v8 ls n l (mU m s.removed)
def xO (t:Types)(rs:List Rule)(st:List Stage):Bool :=
 decide (fT t rs=0)&&v8 (gC t rs) (t.nodes.length+t.edges.length) st (List.replicate rs.length true)
theorem Po {ls:List (List Int)}{m:List Bool}{w:List Int}{i:Nat}(h:sW ls m w i=true):m[i]?=some true:=by
 unfold sW at h
 rw [aL] at h
 have h1:=h.1
 cases hm:m[i]? with
 | none=>rw [hm] at h1;simp at h1
 | some b=>rw [hm] at h1;simp at h1;rw [h1]
theorem HV {ls : List (List Int)} {n : Nat} {m : List Bool} {s : Stage} (h : kO ls n m s = true) : s.weights.length = n ∧ s.removed ≠ [] ∧ (∀ x ∈ s.weights, 0 ≤ x ∧ x ≤ 1000) ∧ s.removed.Nodup ∧ (∀ r ∈ s.removed, 0 ≤ r ∧ m[r.toNat]? = some true) := by
  unfold kO at h
  simp only [aL, decide_eq_true_eq, cV, decide_eq_false_iff_not] at h
  obtain ⟨⟨⟨⟨h1, h2⟩, h3⟩, h4⟩, h5⟩ := h
  rw [cQ] at h4
  have hrem : ∀ i, (hi : i < s.removed.length) → 0 ≤ s.removed[i] ∧ sW ls m s.weights s.removed[i].toNat = true ∧ (i = 0 ∨ s.removed[i - 1]?.getD 0 < s.removed[i]) := fun i hi => by
    have := h4 i (aZ.2 hi)
    unfold BY at this
    rw [aA hi] at this
    simp only [aD, aL, bT, decide_eq_true_eq] at this
    exact ⟨this.1.1, this.1.2, this.2⟩
  refine ⟨h1, h2, fun x hx => ?_, ?_, fun r hr => ?_⟩
  · have : oddB x = false := by
      cases ho : oddB x
      · rfl
      · rw [List.any_eq_true.2 ⟨x, hx, ho⟩] at h3; cases h3
    unfold oddB at this
    simp at this
    omega
  · have hlt : ∀ d i, (hd : i + d < s.removed.length) → 0 < d → s.removed[i]'(by omega) < s.removed[i + d] := by
      intro d
      induction d with
      | zero => intro i _ h; omega
      | succ d ih =>
        intro i hd _
        have h0 := (hrem (i + (d + 1)) hd).2.2
        rw [show i + (d + 1) - 1 = i + d by omega, aA (by omega)] at h0
        simp only [aD] at h0
        have h1 := h0.resolve_left (by omega)
        rcases CS d with h | h
        · subst h; exact h1
        · have := ih i (by omega) h
          omega
    refine dZ.2 fun i j hi hj hij he => ?_
    have := hlt (j - i) i (by omega) (by omega)
    simp only [show i + (j - i) = j by omega] at this
    omega
  · obtain ⟨i, hi, rfl⟩ := aT hr
    exact ⟨(hrem i hi).1, Po (hrem i hi).2.1⟩
theorem R0 (ls:List (List Int))(m:List Bool)(w:List Int):(lJ ls m w).Pairwise (· < ·):=by
 unfold lJ
 refine List.Pairwise.map _ (R:=fun a b=>a<b) (fun a b h=>by show (a:Int)<(b:Int);omega) ?_
 exact List.Pairwise.filter _ List.pairwise_lt_range
theorem RZ {ls:List (List Int)}{m:List Bool}{w:List Int}{r:Int}(h:r∈lJ ls m w):0≤r∧sW ls m w r.toNat=true:=by
 unfold lJ at h
 rw [aU] at h
 obtain ⟨i,hi,rfl⟩:=h
 exact ⟨by omega,by simpa using (cO.1 hi).2⟩
theorem S5 (ls:List (List Int))(m:List Bool)(w:List Int):(List.range (lJ ls m w).length).all (BY ls m w (lJ ls m w))=true:=by
 rw [cQ]
 intro i hi
 have hi:=aZ.1 hi
 have h:=RZ (aB hi)
 unfold BY
 rw [aA hi]
 simp only [aD,aL,bT,decide_eq_true_eq]
 refine ⟨h,?_⟩
 rcases CS i with h0|h0
 ·exact .inl h0
 ·right
  rw [aA (by omega)]
  exact dZ.1 (R0 ls m w) (i - 1) i (by omega) hi (by omega)
theorem PH {w:List Int}(h:∀ x∈w,0≤x∧x≤1000):w.any oddB=false:=by
 rw [bO]
 intro ha
 obtain ⟨x,hx,ho⟩:=List.any_eq_true.1 ha
 have:=h x hx
 unfold oddB at ho
 simp at ho
 omega
theorem K5 {ls:List (List Int)}{n:Nat}{m:List Bool}(h:(j5 ls n m).removed≠[]):kO ls n m (j5 ls n m)=true:=by
 rcases SA ls n m with h0|⟨w,hw,hok,hl,h0⟩
 ·rw [h0] at h;exact absurd rfl h
 ·rw [h0]
  have hd:=Cs _ _ (x5 n) w hw
  rw [gI] at hd
  unfold kO
  simp only [hd.1,decide_true,dU,decide_eq_false hl,p8,S5,hok,zS,PH (fun x hx=>by have:=hd.2 x hx;omega)]
theorem Du {ls:List (List Int)}{n:Nat}:∀ (k:Nat) (m:List Bool),pR (iJ ls n k m).2=0→v8 ls n (iJ ls n k m).1 m=true
 | 0,m,h=>by simpa [iJ,v8] using h
 | k+1,m,h=>by
  by_cases h1:pR m=0
  ·rw [mP (.inl h1)];simpa [v8] using h1
  ·by_cases h2:(j5 ls n m).removed=[]
   ·rw [mP (.inr h2)] at h;exact absurd h h1
   ·rw [uN h1 h2] at h ⊢
    simp only [v8,K5 h2,dU]
    exact Du k _ h
theorem MG {t:Types}{rs:List Rule}(h:fT t rs=0)(h2:DK t rs=[]):xO t rs (wA t rs)=true:=by
 have hr:eF (Nq t rs).2=[]:=by unfold DK at h2;rw [if_pos h] at h2;simpa using h2
 unfold xO wA
 rw [if_pos ⟨h,hr⟩,decide_eq_true h,dU]
 exact Du _ _ (Ao.1 hr)
def zI (t:Types)(rs:List Rule):Int:=if fT t rs=0∧DK t rs≠[] then 10 else fT t rs
theorem zM (t:Types)(ht:t.ok)(rs:List Rule)(hr:∀ r∈rs,r.ok):Pure Tryz.prog 13 [t.d,.list (rs.map Rule.c)] (.tup [.list ((wA t rs).map Stage.c),dI (zI t rs)]):=by
 refine Tz.pK ⟨fun _=>false,fun _=>[]⟩ Tryz.func13 rfl (fun Q hQ=>?_)
 have Y:=trivial
 refine wv (h:=aC (DS t ht rs hr) wl ?_)
 refine eJ (fun h2=>?_) fun h2=>?_
 ·have hE:zI t rs=10:=if_pos ⟨h2.1,fun h=>by rw [h] at h2;simp at h2⟩
  exact wv (h:=hQ _ _ (by simp [go_sem,hE]))
 ·have hE:zI t rs=fT t rs:=if_neg (fun h=>h.2 (h2 h.1))
  exact wv (h:=hQ _ _ (by simp [go_sem,hE]))
theorem EV (p:Nat→Bool)(i:Nat):(List.range (i+1)).all p=((List.range i).all p&&p i):=by
 rw [bL,List.all_append];simp
end Go.Abs
end
