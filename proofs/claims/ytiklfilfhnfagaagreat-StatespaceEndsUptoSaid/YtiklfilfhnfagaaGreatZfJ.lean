/- Layer 22: conditions over patterns. · Layer 24: rules. · Lay -/
import Derived.Test.YtiklfilfhnfagaaGreatZfG
import Derived.Test.YtiklfilfhnfagaaGreatZfA
import Derived.Test.YtiklfilfhnfagaaGreatZfI
import Derived.Test.YtiklfilfhnfagaaGreatZfH
set_option linter.unusedVariables false
set_option linter.unusedSimpArgs false
section
set_option maxRecDepth 100000
set_option maxHeartbeats 4000000
open Go Go.Proofs
namespace Go.Abs
def mQ (t:Types)(p:Pattern)(m:Part)(q:Pattern):Int :=
 if q.vars<p.vars then 20
 else if q7 t q p.vars≠0 then q7 t q p.vars
 else if fH p.graph q.graph m≠0 then fH p.graph q.graph m
 else if KB p.graph q.graph m=false then 1 else 0
mutual
def xD (t:Types):Pattern→Cond→Int
 | p,.mk k l m q=>if (if k=5 then mQ t p m q else 0)≠0 then (if k=5 then mQ t p m q else 0) else QW t (if k=5 then q else p) l
def QW (t:Types):Pattern→List Cond→Int
 | _,[]=>0
 | p,c :: l=>if xD t p c≠0 then xD t p c else QW t p l
end
theorem Sx (t:Types)(p:Pattern)(l:List Cond):QW t p l=jD (xD t p) l:=by
 induction l with
 | nil=>simp [QW,jD]
 | cons a l ih=>simp only [QW,jD,ih]
theorem IF (t:Types)(p:Pattern)(c:Cond):xD t p c=if (if c.kind=5 then mQ t p c.map c.pattern else 0)≠0 then (if c.kind=5 then mQ t p c.map c.pattern else 0) else jD (xD t (if c.kind=5 then c.pattern else p)) c.kids:=by
 cases c;simp only [xD,Sx];rfl
theorem Kz {t:Types}{q:Pattern}{o:Int}(h:q7 t q o=0):0≤q.vars∧q.vars≤12:=by
 unfold q7 at h
 split at h
 ·exact mM (.inr h)
 ·rename_i h1;exact mM (t:=t) (.inl (by omega))
theorem Ci (t:Types)(ht:t.ok):∀ (c:Cond) (p:Pattern),0≤p.vars→p.vars≤12→Pure Tryz.prog 170 [t.d,p.d,.agg c.c] (dI (xD t p c)):=by
 refine xZ fun c ih p hp0 hp1=>?_
 have hF:=IF t p c
 refine Tz.pK ⟨fun t=>t==4||t==7||t==11,fun _=>[]⟩ Tryz.func170 rfl (fun Q hQ=>?_)
 have Y:=@Cond.c_eq
 refine dU (fun h1=>?_) fun h1=>?_
 ·rw [if_pos h1,if_pos h1] at hF
  refine dU (fun h3=>?_) fun h3=>?_
  ·exact wv (h:=hQ _ _ (by simp [go_sem,hF,mQ,h3]))
  ·refine wv (h:=aB (Be t ht c.pattern p.vars hp0) wl ?_)
   refine dU (fun h6=>?_) fun h6=>?_
   ·exact wv (h:=hQ _ _ (by simp [go_sem,hF,mQ,h6];omega))
   ·refine wv (h:=aB (nP p.graph c.pattern.graph c.map) wl ?_)
    refine dU (fun h9=>?_) fun h9=>?_
    ·exact wv (h:=hQ _ _ (by simp [go_sem,hF,mQ,h6,h9];omega))
    ·have hm:=mW h9
     have hga:=c9 hm.1
     refine wv (h:=?_)
     repeat first|intro _|refine ⟨oW,?_⟩
     refine aB (qU p.graph c.pattern.graph c.map (by omega) (by omega)) wl ?_
     refine wv (h:=?_)
     repeat first|intro _|refine ⟨oW,?_⟩
     refine wq (fun h11=>?_) fun h11=>?_
     ·exact wv (h:=hQ _ _ (by simp [go_sem,hF,mQ,h6,h9,h11];omega))
     ·have hE0:mQ t p c.map c.pattern=0:=by simp [mQ,h6,h9,h11];omega
      rw [hE0,if_neg (by omega)] at hF
      obtain ⟨w,hw⟩:∃ w:Pattern,w=c.pattern:=⟨_,rfl⟩
      have hv:=Kz h6
      have hw0:0≤w.vars:=by rw [hw];exact hv.1
      have hw1:w.vars≤12:=by rw [hw];exact hv.2
      have hF':xD t p c=jD (xD t w) c.kids:=by rw [hF,hw]
      refine wv (h:=?_)
      repeat first|intro _|refine ⟨oW,?_⟩
      refine cD (fun i e H=>(e 3=.adr t.c∧e 5=.adr c.c∧e 51=.list (c.kids.map Cond.c)∧e 52=dI c.kids.length∧e 4=.ptr 0 1 0 0∧e 53=dI i)∧(H.get 0=some ⟨61,5,[w.c],false⟩)∧(0<H.next)∧(i≤c.kids.length)∧(jD (xD t w) (c.kids.drop i)=xD t p c)) (fun i=>c.kids.length - i) 0 ⟨wg,(by (simp [go_sem,hw])),wn,wi,(by (exact hF'.symm))⟩ fun I0 hI0 i e H hi0=>?_
      obtain ⟨E0,g0_0,n0_0,hi,hL⟩:=hi0
      have Y:=wa Y (wa E0 (wa g0_0 (cO n0_0)))
      refine dU (fun h15=>?_) fun h15=>?_
      ·have hst:=hL
       rw [qX _ h15] at hst
       have Y:=wa Y h15
       refine wv (h:=?_)
       repeat first|intro _|refine ⟨oW,?_⟩
       refine aB ((by have:=ih _ (aC h15) w hw0 hw1;rwa [Cond.c_eq] at this)) wl ?_
       refine wv (h:=?_)
       repeat first|intro _|refine ⟨oW,?_⟩
       refine wq (fun h18=>?_) fun h18=>?_
       ·rw [if_pos (by omega)] at hst
        exact wv (h:=hQ _ _ (by simp [go_sem,hst]))
       ·rw [if_neg (by omega)] at hst
        refine wv (h:=?_)
        repeat first|intro _|refine ⟨oW,?_⟩
        exact wx hI0 (i+1) ⟨wg,(by (simp [go_sem,Y])),wn,wj,(by exact hst)⟩
      ·exact wv (h:=hQ _ _ (by rw [← hL,tO _ (by omega)];simp [go_sem]))
 ·rw [if_neg h1,if_neg (by omega),if_neg h1] at hF
  obtain ⟨w,hw⟩:∃ w:Pattern,w=p:=⟨_,rfl⟩
  have hw0:0≤w.vars:=by rw [hw];exact hp0
  have hw1:w.vars≤12:=by rw [hw];exact hp1
  have hF':xD t p c=jD (xD t w) c.kids:=by rw [hF,hw]
  refine wv (h:=?_)
  repeat first|intro _|refine ⟨oW,?_⟩
  refine cD (fun i e H=>(e 3=.adr t.c∧e 5=.adr c.c∧e 51=.list (c.kids.map Cond.c)∧e 52=dI c.kids.length∧e 4=.ptr 0 1 0 0∧e 53=dI i)∧(H.get 0=some ⟨61,5,[w.c],false⟩)∧(0<H.next)∧(i≤c.kids.length)∧(jD (xD t w) (c.kids.drop i)=xD t p c)) (fun i=>c.kids.length - i) 0 ⟨wg,(by (simp [go_sem,hw])),wn,wi,(by (exact hF'.symm))⟩ fun I0 hI0 i e H hi0=>?_
  obtain ⟨E0,g0_0,n0_0,hi,hL⟩:=hi0
  have Y:=wa Y (wa E0 (wa g0_0 (cO n0_0)))
  refine dU (fun h15=>?_) fun h15=>?_
  ·have hst:=hL
   rw [qX _ h15] at hst
   have Y:=wa Y h15
   refine wv (h:=?_)
   repeat first|intro _|refine ⟨oW,?_⟩
   refine aB ((by have:=ih _ (aC h15) w hw0 hw1;rwa [Cond.c_eq] at this)) wl ?_
   refine wv (h:=?_)
   repeat first|intro _|refine ⟨oW,?_⟩
   refine wq (fun h18=>?_) fun h18=>?_
   ·rw [if_pos (by omega)] at hst
    exact wv (h:=hQ _ _ (by simp [go_sem,hst]))
   ·rw [if_neg (by omega)] at hst
    refine wv (h:=?_)
    repeat first|intro _|refine ⟨oW,?_⟩
    exact wx hI0 (i+1) ⟨wg,(by (simp [go_sem,Y])),wn,wj,(by exact hst)⟩
  ·exact wv (h:=hQ _ _ (by rw [← hL,tO _ (by omega)];simp [go_sem]))
def condF (t:Types)(p:Pattern)(c:Cond):Int :=
 if dG t p≠0 then dG t p else if zR c≠0 then zR c else xD t p c
theorem vJ (t:Types)(ht:t.ok)(p:Pattern)(c:Cond)(hc:c.ok)(hs:c.size≤1000000):Pure Tryz.prog 127 [t.d,p.d,.agg c.c] (dI (condF t p c)):=by
 refine Tz.pK ⟨fun _=>false,fun _=>[]⟩ Tryz.func127 rfl (fun Q hQ=>?_)
 have Y:=@Cond.c_eq
 refine wv (h:=aB (mS t ht p) wl ?_)
 refine dU (fun h2=>?_) fun h2=>?_
 ·have Y:=wa Y (wa h2 @condF.eq_1)
  exact wv (h:=hQ _ _ wy)
 ·have hv:=mM (.inr h2)
  refine wv (h:=aB ((by have:=Dp c hc hs;rwa [Cond.c_eq] at this)) wl ?_)
  refine dU (fun h5=>?_) fun h5=>?_
  ·have Y:=wa Y (wa h2 (wa h5 @condF.eq_1))
   exact wv (h:=hQ _ _ wy)
  ·refine wv (h:=aB ((by have:=Ci t ht c p hv.1 hv.2;rwa [Cond.c_eq] at this)) wl ?_)
   have Y:=wa Y (wa h2 (wa h5 @condF.eq_1))
   exact wv (h:=hQ _ _ wy)
attribute [go_sem] Rule.c Rule.d
@[go_sem] theorem Yo (o:Option Attr)(a0 a1 a2 a3:D):((Option.map Attr.c o).getD [a0,a1,a2,a3]).length=4:=by cases o<;>rfl
@[go_sem] theorem Ym (o:Option NodeTy)(a0 a1 a2 a3:D):((Option.map NodeTy.c o).getD [a0,a1,a2,a3]).length=4:=by cases o<;>rfl
@[go_sem] theorem VM (o:Option EdgeTy)(a0 a1 a2 a3 a4 a5 a6:D):((Option.map EdgeTy.c o).getD [a0,a1,a2,a3,a4,a5,a6]).length=7:=by cases o<;>rfl
@[go_sem] theorem W8 (o:Option Edge)(a0 a1 a2:D):((Option.map Edge.c o).getD [a0,a1,a2]).length=3:=by cases o<;>rfl
@[go_sem] theorem Yk (o:Option Slot)(a0 a1 a2 a3:D):((Option.map Slot.c o).getD [a0,a1,a2,a3]).length=4:=by cases o<;>rfl
@[go_sem] theorem Yj (o:Option Test)(a0 a1 a2 a3 a4:D):((Option.map Test.c o).getD [a0,a1,a2,a3,a4]).length=5:=by cases o<;>rfl
@[go_sem] theorem W7 (o:Option Stage)(a0 a1:D):((Option.map Stage.c o).getD [a0,a1]).length=2:=by cases o<;>rfl
@[go_sem] theorem Y7 (o:Option Int)(a0:D):((Option.map cI o).getD [a0]).length=1:=by cases o<;>rfl
@[go_sem] theorem Y6 (o:Option ByteArray)(a0:D):((Option.map cS o).getD [a0]).length=1:=by cases o<;>rfl
@[go_sem] theorem Yn (o:Option Bool)(a0:D):((Option.map cB o).getD [a0]).length=1:=by cases o<;>rfl
theorem JP (t:Types)(a:Int):Pure Tryz.prog 193 [dI a,.adr t.c] (.bool (decide ((t.nodes.length:Int)≤a))):=by
 refine Tz.pK ⟨fun _=>false,fun _=>[]⟩ Tryz.func193 rfl (fun Q hQ=>?_)
 have Y:=trivial
 exact wo (h:=hQ _ _ wy)
theorem JO (t:Types)(x:Edge):Pure Tryz.prog 194 [.agg x.c,.adr t.c] (.bool (decide ((t.edges.length:Int)≤x.type))):=by
 refine Tz.pK ⟨fun _=>false,fun _=>[]⟩ Tryz.func194 rfl (fun Q hQ=>?_)
 have Y:=trivial
 exact wo (h:=hQ _ _ wy)
theorem LZ (t:Types)(g:Graph):Pure Tryz.prog 161 [t.d,g.d] (.bool (iL t g)):=by
 have h1:=fO g.nodes 193 [.adr t.c] (fun a=>decide ((t.nodes.length:Int)≤a)) (by simp [go_sem]) (by simp [go_sem]) (fun a _=>JP t a)
 have h2:=kB g.edges 194 [.adr t.c] (fun x=>decide ((t.edges.length:Int)≤x.type)) (by simp [go_sem]) (by simp [go_sem]) (fun x _=>JO t x)
 have he:iL t g=((!(g.nodes.any fun n=>decide ((t.nodes.length:Int)≤n)))&&!(g.edges.any fun x=>decide ((t.edges.length:Int)≤x.type))):=rfl
 generalize (g.nodes.any fun n=>decide ((t.nodes.length:Int)≤n))=u at *
 generalize (g.edges.any fun x=>decide ((t.edges.length:Int)≤x.type))=v at *
 rw [he]
 refine Tz.pK ⟨fun _=>false,fun _=>[]⟩ Tryz.func161 rfl (fun Q hQ=>?_)
 have Y:=trivial
 refine wo (h:=aB (h1) wl ?_)
 refine wo (h:=bD (fun hg=>h2) (fun hg=>wl) ?_)
 exact wo (h:=hQ _ _ wy)
def sameSlot (x y:Slot):Bool:=decide (y.node=x.node)&&decide (y.attr=x.attr)
theorem L0 (x y:Slot):Pure Tryz.prog 196 [.agg y.c,.adr x.c] (.bool (sameSlot x y)):=by
 refine Tz.pK ⟨fun _=>false,fun _=>[]⟩ Tryz.func196 rfl (fun Q hQ=>?_)
 have Y:=trivial
 have Y:=wa Y @sameSlot.eq_1
 exact wo (h:=hQ _ _ wy)
def BO (t:Types)(p:Pattern)(i:Nat):Int:=match p.slots[i]? with
 | some s=>if kH t p s≠0 then 6 else if ((p.slots.take i).any (sameSlot s))=true then 5 else 0
 | none=>0
theorem GY {t:Types}{p:Pattern}{i:Nat}(h:i<p.slots.length):BO t p i=if kH t p p.slots[i]≠0 then 6 else if ((p.slots.take i).any (sameSlot p.slots[i]))=true then 5 else 0:=by
 unfold BO;rw [aA h]
theorem OE (t:Types)(ht:t.ok)(r:Rule)(hr:r.right.graph.nodes.length≤1000)(i:Nat)(hi:i<r.right.slots.length):Pure Tryz.prog 162 [t.d,r.d,dI i] (dI (BO t r.right i)):=by
 have hS:=GY (t:=t) hi
 have h8:=uZ ht (r.right.kind r.right.slots[i].node)
 have hdup:=sI (r.right.slots.take i) 196 [.adr r.right.slots[i].c] (sameSlot r.right.slots[i]) (by simp [go_sem]) (by simp only [D.cl];exact Ed _) (fun y _=>L0 r.right.slots[i] y)
 refine Tz.pK ⟨fun t=>t==7||t==10,fun _=>[]⟩ Tryz.func162 rfl (fun Q hQ=>?_)
 have Y:=wa (aA hi) hi
 refine mP (fun h2=>?_) fun h2=>?_
 ·have hE:kH t r.right r.right.slots[i]≠0:=by
   unfold kH;rw [if_neg];decide;intro h;simp [pV] at h;omega
  rw [if_pos hE] at hS
  exact wv (h:=hQ _ _ (by simp [go_sem,hS]))
 ·have hn:r.right.slots[i].node.toNat<r.right.graph.nodes.length:=by omega
  have hk:r.right.kind r.right.slots[i].node=r.right.graph.nodes[r.right.slots[i].node.toNat]:=by simp [Pattern.kind,hn]
  rw [hk] at h8
  have Y:=wa Y (wa (aA hn) hk)
  refine wo (h:=bB (o7 t ht r.right.graph.nodes[r.right.slots[i].node.toNat]) wl ?_)
  refine mP (fun h6=>?_) fun h6=>?_
  ·have hE:kH t r.right r.right.slots[i]≠0:=by
    unfold kH;rw [if_neg];decide;intro h;simp [pV,inF,hk] at h;omega
   rw [if_pos hE] at hS
   exact wv (h:=hQ _ _ (by simp [go_sem,hS]))
  ·have hE:kH t r.right r.right.slots[i]=0:=by
    unfold kH;rw [if_pos];simp [pV,inF,hk];omega
   rw [if_neg (by omega)] at hS
   have hsl:(i:Int)≤r.right.slots.length:=by omega
   refine wo (h:=lO (hdup) wr wl rfl ?_)
   refine mP (fun h8=>?_) fun h8=>?_
   ·exact wv (h:=hQ _ _ (by rw [hS,if_pos (by rw [bX];exact h8)];simp [go_sem]))
   ·exact wv (h:=hQ _ _ (by rw [hS,if_neg (by rw [bX];rintro ⟨x,hx,hs⟩;have:=h8 x hx;rw [this] at hs;cases hs)];simp [go_sem]))
def mT (t:Types)(r:Rule):Int :=
 if graphF r.right.graph≠0 then graphF r.right.graph
 else if iL t r.right.graph=false then 13
 else if r.right.vars≠r.left.vars∨0<r.right.tests.length then 1
 else if 10<r.right.slots.length then 3
 else bY (BO t r.right) 0 r.right.slots.length
theorem L1 (t:Types)(ht:t.ok)(r:Rule):Pure Tryz.prog 123 [t.d,r.d] (dI (mT t r)):=by
 refine Tz.pK ⟨fun _=>false,fun _=>[]⟩ Tryz.func123 rfl (fun Q hQ=>?_)
 have Y:=trivial
 refine wv (h:=aB (lM r.right.graph) wl ?_)
 refine dU (fun h2=>?_) fun h2=>?_
 ·exact wv (h:=hQ _ _ (.inl (by simp [go_sem,mT,h2])))
 ·have hg:=c9 h2
  refine wo (h:=aB (LZ t r.right.graph) wl ?_)
  refine mP (fun h4=>?_) fun h4=>?_
  ·exact wv (h:=hQ _ _ (.inl (by simp [go_sem,mT,h2,h4])))
  ·refine mP (fun h6=>?_) fun h6=>?_
   ·have hR:mT t r=1:=by unfold mT;rw [if_neg (by omega),if_neg (by simp [h4]),if_pos (by omega)]
    exact wv (h:=hQ _ _ (.inl (by simp [go_sem,hR])))
   ·have h6':¬ (r.right.vars≠r.left.vars∨0<r.right.tests.length):=by
     rintro (h|h)
     ·exact h h6.1
     ·have:=h6.2;simp [this] at h
    refine mP (fun h8=>?_) fun h8=>?_
    ·have hR:mT t r=3:=by unfold mT;rw [if_neg (by omega),if_neg (by simp [h4]),if_neg h6',if_pos (by omega)]
     exact wv (h:=hQ _ _ (.inl (by simp [go_sem,hR])))
    ·have hR:mT t r=bY (BO t r.right) 0 r.right.slots.length:=by unfold mT;rw [if_neg (by omega),if_neg (by simp [h4]),if_neg h6',if_neg (by omega)]
     refine wo (h:=cD (fun i e H=>(e 2=.adr t.c∧e 3=.adr r.c∧e 46=dI r.right.slots.length∧e 47=dI i)∧(i≤r.right.slots.length)∧(bY (BO t r.right) i (r.right.slots.length - i)=mT t r)) (fun i=>r.right.slots.length - i) 0 ⟨wg,wi,(by (exact hR.symm))⟩ fun I1 hI1 i e H hi1=>?_)
     obtain ⟨E1,hi,hF⟩:=hi1
     have Y:=wa Y E1
     refine dU (fun h11=>?_) fun h11=>?_
     ·have hst:=hF
      rw [j6 _ h11] at hst
      have Y:=wa Y h11
      refine wv (h:=aB (OE t ht r (by omega) i h11) wl ?_)
      refine dU (fun h14=>?_) fun h14=>?_
      ·rw [if_pos (by omega)] at hst
       exact wv (h:=hQ _ _ (.inl (by simp [go_sem,hst])))
      ·rw [if_neg (by omega)] at hst
       exact wo (h:=wx hI1 (i+1) ⟨wg,wj,(by exact hst)⟩)
     ·exact wv (h:=hQ _ _ (.inl (by rw [← hF,show r.right.slots.length - i=0 by omega];rfl)))
def cV (l:List Int)(n:Nat):List Int:=((List.range n).filter fun (i:Nat)=>!mem l i).map fun (b:Nat)=>(b:Int)
theorem nA {l:List Int}{n:Nat}{x:Int}(h:x∈cV l n):0≤x∧x<n:=by
 simp only [cV,aS,dM,b7] at h
 obtain ⟨a,⟨h1,_⟩,rfl⟩:=h
 omega
theorem r5 (l:List Int)(n:Nat):(cV l n).length≤n:=by
 unfold cV;rw [bM];exact cQ (fJ _ _) (by simp)
theorem CJ (l:List Int)(n:Nat)(hn:n≤1000000):Pure Tryz.prog 166 [dLI l,dI n] (dLI (cV l n)):=by
 refine Tz.pK ⟨fun t=>t==5,fun _=>[]⟩ Tryz.func166 rfl (fun Q hQ=>?_)
 have Y:=trivial
 refine wv (h:=cD (fun i e H=>∃ xs:List Int,(e 0=dLI l∧e 7=dI n∧e 5=.own 0 xs.length∧e 8=dI i)∧(H.get 0=some ⟨3,1,xs.map cI,false⟩)∧(0<H.next)∧(i≤n)∧(xs.length≤i)∧(xs=((List.range i).filter fun (b:Nat)=>!mem l b).map (fun (b:Nat)=>(b:Int)))) (fun i=>n - i) 0 ⟨([]),wg,wn,wn,wi,(by simp),(by rfl)⟩ fun I0 hI0 i e H hi0=>?_)
 obtain ⟨xs,E0,g0_0,n0_0,hi,hl,hx⟩:=hi0
 have Y:=wa Y (wa E0 (wa g0_0 (cO n0_0)))
 refine dU (fun h3=>?_) fun h3=>?_
 ·have Y:=wa Y h3
  refine wo (h:=aB (fF l i) wl ?_)
  refine mP (fun h5=>?_) fun h5=>?_
  ·have Y:=wa Y h5
   exact wo (h:=wx hI0 (i+1) ⟨(xs++(if (!mem l i)=true then [(i:Int)] else [])),wg,wn,wn,wj,(by (rw [aT];split<;>simp<;>omega)),(by (rw [fA,← hx]))⟩)
  ·have Y:=wa Y h5
   exact wo (h:=wx hI0 (i+1) ⟨(xs++(if (!mem l i)=true then [(i:Int)] else [])),wg,wn,wn,wj,(by (rw [aT];split<;>simp<;>omega)),(by (rw [fA,← hx]))⟩)
 ·exact wv (h:=hQ _ _ (by simp [go_sem,Y,cV];rw [hx,show i=n by omega];simp))
def keptF (r:Rule):Int :=
 if subF r.left.graph r.keep≠0 then subF r.left.graph r.keep
 else if fH (dN r.left.graph r.keep) r.right.graph r.into≠0 then fH (dN r.left.graph r.keep) r.right.graph r.into
 else if KB (dN r.left.graph r.keep) r.right.graph r.into=false then 11 else 0
structure Rule.ok (r:Rule):Prop where
 name:r.name.size≤100000
 k1:r.keep.nodes.length≤1000000
 k2:r.keep.edges.length≤1000000
 i1:r.into.nodes.length≤1000000
 i2:r.into.edges.length≤1000000
 cond:r.cond.ok
 size:r.cond.size≤1000000
theorem OF (r:Rule)(hr:r.ok):Pure Tryz.prog 124 [r.d] (dI (keptF r)):=by
 obtain ⟨_,hk1,hk2,hi1,hi2,_,_⟩:=hr
 refine Tz.pK ⟨fun t=>t==3||t==4,fun _=>[]⟩ Tryz.func124 rfl (fun Q hQ=>?_)
 have Y:=trivial
 refine wv (h:=aB (BJ r.left.graph r.keep hk1 hk2) wl ?_)
 refine dU (fun h2=>?_) fun h2=>?_
 ·have Y:=wa Y (wa h2 @keptF.eq_1)
  exact wv (h:=hQ _ _ wy)
 ·refine wv (h:=aB (nP (dN r.left.graph r.keep) r.right.graph r.into) wl ?_)
  refine dU (fun h5=>?_) fun h5=>?_
  ·have Y:=wa Y (wa h2 (wa h5 @keptF.eq_1))
   exact wv (h:=hQ _ _ wy)
  ·refine wo (h:=aB (qU (dN r.left.graph r.keep) r.right.graph r.into hi1 hi2) wl ?_)
   refine mP (fun h7=>?_) fun h7=>?_
   ·have Y:=wa Y (wa h2 (wa h5 (wa h7 @keptF.eq_1)))
    exact wv (h:=hQ _ _ wy)
   ·have Y:=wa Y (wa h2 (wa h5 (wa h7 @keptF.eq_1)))
    exact wv (h:=hQ _ _ wy)
def absB (t:Types)(g:Graph)(i:Int):Bool:=((t.nodes[(gN g i).toNat]?).map (·.abs)).getD false
def unfitB (t:Types)(g:Graph)(k:Int):Bool:=!rA t (g.edges[k.toNat]?.getD cC).type (gN g (g.edges[k.toNat]?.getD cC).from_) (gN g (g.edges[k.toNat]?.getD cC).to_)
def EU (t:Types)(g:Graph)(nodes edges:List Int):Bool:=(!(nodes.any (absB t g)))&&!(edges.any (unfitB t g))
theorem oI {t:Types}{g:Graph}(h0:graphF g=0)(h:iL t g=true):(∀ a∈g.nodes,0≤a∧a<t.nodes.length)∧∀ x∈g.edges,(0≤x.type∧x.type<t.edges.length)∧(0≤x.from_∧x.from_<g.nodes.length)∧(0≤x.to_∧x.to_<g.nodes.length):=by
 obtain ⟨h1,h2⟩:=gA h0
 simp [iL] at h
 exact ⟨fun a ha=>⟨(h1 a ha).1,h.1 a ha⟩,fun x hx=>⟨⟨(h2 x hx).1.1,h.2 x hx⟩,(h2 x hx).2⟩⟩
theorem Gq (t:Types)(g:Graph)(h0:graphF g=0)(hT:iL t g=true)(i:Int)(hi0:0≤i)(hi1:i<g.nodes.length):Pure Tryz.prog 167 [dI i,.adr t.c,.adr g.c] (.bool (absB t g i)):=by
 have hk:i.toNat<g.nodes.length:=by omega
 have hin:=(oI h0 hT).1 _ (aC hk)
 have hn:g.nodes[i.toNat].toNat<t.nodes.length:=by omega
 refine Tz.pK ⟨fun _=>false,fun _=>[]⟩ Tryz.func167 rfl (fun Q hQ=>?_)
 have Y:=wa (aA hk) (aA hn)
 have Y:=wa Y (wa @absB.eq_1 @gN.eq_1)
 exact wo (h:=hQ _ _ wy)
theorem Gp (t:Types)(ht:t.ok)(g:Graph)(h0:graphF g=0)(hT:iL t g=true)(k:Int)(hi0:0≤k)(hi1:k<g.edges.length):Pure Tryz.prog 168 [dI k,.adr g.c,.adr t.c] (.bool (unfitB t g k)):=by
 have hk:k.toNat<g.edges.length:=by omega
 have hin:=(oI h0 hT).2 _ (aC hk)
 have hf:g.edges[k.toNat].from_.toNat<g.nodes.length:=by omega
 have hto:g.edges[k.toNat].to_.toNat<g.nodes.length:=by omega
 refine Tz.pK ⟨fun t=>t==5,fun _=>[]⟩ Tryz.func168 rfl (fun Q hQ=>?_)
 have Y:=wa (aA hk) (wa (aA hf) (aA hto))
 refine wo (h:=bB (DV t ht _ _ _) wl ?_)
 have Y:=wa Y (wa @unfitB.eq_1 @gN.eq_1)
 exact wo (h:=hQ _ _ wy)
theorem Io (t:Types)(ht:t.ok)(g:Graph)(h0:graphF g=0)(hT:iL t g=true)(nodes edges:List Int)(hn:∀ i∈nodes,0≤i∧i<g.nodes.length)(he:∀ k∈edges,0≤k∧k<g.edges.length):Pure Tryz.prog 126 [t.d,g.d,dLI nodes,dLI edges] (.bool (EU t g nodes edges)):=by
 have h1:=fO nodes 167 [.adr t.c,.adr g.c] (absB t g) (by simp [go_sem]) (by simp [go_sem]) (fun i hi=>Gq t g h0 hT i (hn i hi).1 (hn i hi).2)
 have h2:=fO edges 168 [.adr g.c,.adr t.c] (unfitB t g) (by simp [go_sem]) (by simp [go_sem]) (fun k hk=>Gp t ht g h0 hT k (he k hk).1 (he k hk).2)
 have hM:EU t g nodes edges=((!(nodes.any (absB t g)))&&!(edges.any (unfitB t g))):=rfl
 generalize nodes.any (absB t g)=u at *
 generalize edges.any (unfitB t g)=v at *
 rw [hM]
 refine Tz.pK ⟨fun _=>false,fun _=>[]⟩ Tryz.func126 rfl (fun Q hQ=>?_)
 have Y:=trivial
 refine wo (h:=aB (h1) wl ?_)
 refine wo (h:=bD (fun hg=>h2) (fun hg=>wl) ?_)
 exact wo (h:=hQ _ _ wy)
def Rule.freshN (r:Rule):List Int:=cV r.into.nodes r.right.graph.nodes.length
def Rule.freshE (r:Rule):List Int:=cV r.into.edges r.right.graph.edges.length
theorem Ip (r:Rule)(h1:r.right.graph.nodes.length≤1000000)(h2:r.right.graph.edges.length≤1000000):Pure Tryz.prog 125 [r.d] (.tup [dLI r.freshN,dLI r.freshE]):=by
 refine Tz.pK ⟨fun _=>false,fun _=>[]⟩ Tryz.func125 rfl (fun Q hQ=>?_)
 have Y:=trivial
 refine wo (h:=bB (CJ r.into.nodes _ h1) wl ?_)
 refine wo (h:=bB (CJ r.into.edges _ h2) wl ?_)
 have Y:=wa Y (wa @Rule.freshN.eq_1 @Rule.freshE.eq_1)
 exact wo (h:=hQ _ _ wy)
def ruleF (t:Types)(r:Rule):Int :=
 if (cJ t).2≠0 then (cJ t).2
 else if pM r.name=false then 2
 else if dG t r.left≠0 then dG t r.left
 else if mT t r≠0 then mT t r
 else if keptF r≠0 then keptF r
 else if EU t r.right.graph r.freshN r.freshE=false then 13
 else condF t r.left r.cond
theorem G6 {t:Types}{r:Rule}(h:mT t r=0):graphF r.right.graph=0∧iL t r.right.graph=true:=by
 unfold mT at h
 split at h
 ·rename_i h1;exact absurd h h1
 ·rename_i h1
  split at h
  ·cases h
  ·rename_i h2;exact ⟨by omega,by simpa using h2⟩
theorem En (t:Types)(ht:t.ok)(r:Rule)(hr:r.ok):Pure Tryz.prog 85 [t.d,r.d] (dI (ruleF t r)):=by
 have hcv:=vJ t ht r.left r.cond hr.cond hr.size
 rw [Cond.c_eq] at hcv
 refine Tz.pK ⟨fun _=>false,fun _=>[]⟩ Tryz.func85 rfl (fun Q hQ=>?_)
 have Y:=trivial
 refine wv (h:=aB (kZ t ht) wl ?_)
 refine dU (fun h2=>?_) fun h2=>?_
 ·have Y:=wa Y (wa h2 @ruleF.eq_1)
  exact wv (h:=hQ _ _ wy)
 ·refine wo (h:=aB (nJ r.name hr.name) wl ?_)
  refine mP (fun h4=>?_) fun h4=>?_
  ·have Y:=wa Y (wa h2 (wa h4 @ruleF.eq_1))
   exact wv (h:=hQ _ _ wy)
  ·refine wv (h:=aB (mS t ht r.left) wl ?_)
   refine dU (fun h7=>?_) fun h7=>?_
   ·have Y:=wa Y (wa h2 (wa h4 (wa h7 @ruleF.eq_1)))
    exact wv (h:=hQ _ _ wy)
   ·refine wv (h:=aB (L1 t ht r) wl ?_)
    refine dU (fun h10=>?_) fun h10=>?_
    ·have Y:=wa Y (wa h2 (wa h4 (wa h7 (wa h10 @ruleF.eq_1))))
     exact wv (h:=hQ _ _ wy)
    ·have hg:=G6 h10
     have hgl:=c9 hg.1
     refine wv (h:=aB (OF r hr) wl ?_)
     refine dU (fun h13=>?_) fun h13=>?_
     ·have Y:=wa Y (wa h2 (wa h4 (wa h7 (wa h10 (wa h13 @ruleF.eq_1)))))
      exact wv (h:=hQ _ _ wy)
     ·refine wv (h:=aB (Ip r (by omega) (by omega)) wl ?_)
      refine wo (h:=aB (Io t ht r.right.graph hg.1 hg.2 r.freshN r.freshE (fun i hi=>nA hi) (fun i hi=>nA hi)) wl ?_)
      refine mP (fun h16=>?_) fun h16=>?_
      ·have Y:=wa Y (wa h2 (wa h4 (wa h7 (wa h10 (wa h13 (wa h16 @ruleF.eq_1))))))
       exact wv (h:=hQ _ _ wy)
      ·refine wv (h:=aB (hcv) wl ?_)
       have Y:=wa Y (wa h2 (wa h4 (wa h7 (wa h10 (wa h13 (wa h16 @ruleF.eq_1))))))
       exact wv (h:=hQ _ _ wy)
def uX (s:ByteArray):Bool:=decide (40<(s.size:Int))
def N5 (x:Attr):Bool:=uX x.name||decide (25<(x.names.length:Int))||x.names.any uX
def N3 (n:NodeTy):Bool:=uX n.name||n.attrs.any N5
def N4 (x:EdgeTy):Bool:=uX x.name
def yQ (l:List NodeTy):Nat:=(l.map fun n=>n.attrs.length).sum
def Xd (t:Types):Bool:=decide ((t.nodes.length:Int)≤20)&&decide ((t.edges.length:Int)≤30)&&decide (yQ t.nodes≤30)&&!(t.nodes.any N3)&&!(t.edges.any N4)
@[go_sem,simp] theorem TD:yQ []=0:=rfl
theorem PQ {l:List NodeTy}{n:NodeTy}(h:n∈l):n.attrs.length≤yQ l:=by
 induction l with
 | nil=>cases h
 | cons a l ih =>
  have e:yQ (a :: l)=a.attrs.length+yQ l:=by simp [yQ]
  rcases aO.1 h with rfl|h
  ·omega
  ·have:=ih h;omega
theorem SD {t:Types}(h:Xd t=true):t.ok:=by
 simp [Xd] at h
 obtain ⟨⟨⟨⟨h1,h2⟩,h3⟩,h4⟩,h5⟩:=h
 refine ⟨fun n hn=>?_,fun x hx=>⟨?_⟩,by omega,by omega⟩
 ·have hl:=PQ hn
  have:=h4 n hn
  simp [N3,uX] at this
  refine ⟨by omega,fun x hx=>?_,by omega⟩
  have hb:=this.2 x hx
  simp [N5,uX] at hb
  refine ⟨by omega,fun s hs=>?_,by omega⟩
  have:=hb.2 s hs
  omega
 ·have:=h5 x hx
  simp [N4,uX] at this
  omega
def Xe (g:Graph):Bool:=decide ((g.nodes.length:Int)≤45)&&decide ((g.edges.length:Int)≤90)
def SF (p:Pattern):Bool:=Xe p.graph&&decide ((p.slots.length:Int)≤15)&&decide ((p.tests.length:Int)≤15)
def A3 (p:Part)(n:Int):Bool:=decide ((p.nodes.length:Int)+p.edges.length≤n)
structure Part.le (p:Part):Prop where
 n:p.nodes.length≤1000000000000000
 e:p.edges.length≤1000000000000000
mutual
def w6:Cond→Int→Int
 | .mk k l m p,b=>if (!SF p||!A3 m 140)=true then -1 else zG l (b - 1)
def zG:List Cond→Int→Int
 | [],b=>b
 | c :: l,b=>if 0≤b then zG l (w6 c b) else b
end
mutual
theorem Kx:∀ (c:Cond) (b:Int),0≤b→-1≤w6 c b∧w6 c b≤b - 1
 | .mk k l m p,b,h=>by
  rw [w6];split
  ·omega
  ·exact E7 l (b - 1) (by omega)
theorem E7:∀ (l:List Cond) (b:Int),-1≤b→-1≤zG l b∧zG l b≤b
 | [],b,h=>by rw [zG];omega
 | c :: l,b,h=>by
  rw [zG];split
  ·rename_i h0
   have h1:=Kx c b h0
   have h2:=E7 l (w6 c b) h1.1
   omega
  ·omega
end
mutual
def Cond.le:Cond→Prop
 | .mk k l m p=>m.le∧Cond.les l
def Cond.les:List Cond→Prop
 | []=>True
 | c :: l=>c.le∧Cond.les l
end
mutual
theorem Kw:∀ (c:Cond) (b:Int),0≤b→0≤w6 c b→c.ok∧(c.size:Int)≤b - w6 c b
 | .mk k l m p,b,h,h0=>by
  rw [w6] at h0 ⊢
  split at h0
  ·omega
  ·rename_i h1
   rw [if_neg h1]
   have h2:=Kv l (b - 1) (by omega) h0
   simp [SF,Xe,A3] at h1
   refine ⟨⟨⟨?_,?_,?_,?_,?_,?_⟩,h2.1⟩,?_⟩<;>simp only [Cond.map,Cond.pattern,Cond.size]<;>omega
theorem Kv:∀ (l:List Cond) (b:Int),-1≤b→0≤zG l b→Cond.oks l∧(Cond.sizes l:Int)≤b - zG l b
 | [],b,h,h0=>by simp [Cond.oks,Cond.sizes,zG]
 | c :: l,b,h,h0=>by
  rw [zG] at h0 ⊢
  split at h0
  ·rename_i hb
   rw [if_pos hb]
   have h1:=Kx c b hb
   have h2:=E7 l (w6 c b) h1.1
   have h3:=Kw c b hb (by omega)
   have h4:=Kv l (w6 c b) h1.1 h0
   refine ⟨⟨h3.1,h4.1⟩,?_⟩
   simp only [Cond.sizes];omega
  ·omega
end
def Xf (c:Cond):Bool:=decide (0≤w6 c 40)
def SE (r:Rule):Bool:=decide ((r.name.size:Int)≤60)&&SF r.left&&SF r.right&&A3 r.keep 140&&A3 r.into 140&&Xf r.cond
structure Rule.le (r:Rule):Prop where
 keep:r.keep.le
 into:r.into.le
 cond:r.cond.le
structure Ovl where
 graph:Graph
 left:Part
 right:Part
def Ovl.c (o:Ovl):List D:=[dLI o.graph.nodes,.list (o.graph.edges.map Edge.c),dLI o.left.nodes,dLI o.left.edges,dLI o.right.nodes,dLI o.right.edges]
def Ovl.d (o:Ovl):D:=.agg o.c
@[go_sem] theorem Ovl.cl (o:Ovl):D.clL o.c=true:=by simp [Ovl.c,D.clL,D.cl,mC,tW]
@[go_sem] theorem Ovl.dcl (o:Ovl):o.d.cl=true:=by simp only [Ovl.d,D.cl];exact Ovl.cl o
@[go_sem] theorem X2 (l:List Ovl):D.clLL (l.map Ovl.c)=true:=cE _ Ovl.cl l
def lL (n:Nat):List Int:=(List.range n).map fun (k:Nat)=>(k:Int)
theorem QH (n:Nat):(lL n).length=n:=by simp [lL]
theorem K9:Own Tryz.prog 145 [.nil] 103 3 []:=by
 refine Tz.oK ⟨fun t=>t==2||t==5,fun _=>[]⟩ Tryz.func145 rfl (fun Q hQ=>?_)
 have Y:=trivial
 refine wv (h:=?_)
 exact hQ _ _ _ (by simp [go_sem]<;>first|omega|(rw [bF];simp<;>omega)|(simp_all<;>omega)) (by simp [go_sem]<;>first|omega|(rw [bF];simp<;>omega)|(simp_all<;>omega))
theorem K7:Own Tryz.prog 145 [.ne] 103 3 []:=by
 refine Tz.oK ⟨fun t=>t==2||t==5,fun _=>[]⟩ Tryz.func145 rfl (fun Q hQ=>?_)
 have Y:=trivial
 refine wo (h:=?_)
 exact hQ _ _ _ (by simp [go_sem]<;>first|omega|(rw [bF];simp<;>omega)|(simp_all<;>omega)) (by simp [go_sem]<;>first|omega|(rw [bF];simp<;>omega)|(simp_all<;>omega))
theorem K8 (l:List Edge)(hl:l.length≤1000000)(hne:l≠[]):Own Tryz.prog 145 [.list (l.map Edge.c)] 103 3 (l.map Edge.c):=by
 refine Tz.oK ⟨fun t=>t==2||t==5,fun _=>[]⟩ Tryz.func145 rfl (fun Q hQ=>?_)
 have Y:=hne
 refine wo (h:=?_)
 exact hQ _ _ _ (by simp [go_sem,hne]<;>first|omega|(rw [bF];simp<;>omega)|(simp_all<;>omega)) (by simp [go_sem,hne]<;>first|omega|(rw [bF];simp<;>omega)|(simp_all<;>omega))
theorem FJ (l:List Edge)(hl:l.length≤1000000):Own Tryz.prog 145 [.list (l.map Edge.c)] 103 3 (l.map Edge.c):=by
 by_cases hne:l=[]
 ·subst hne;exact BV K9 K7
 ·exact K8 l hl hne
theorem x7 {P:Program}{H:AHeap}{f:FuncId}{args:List D}{ty:TypeId}{sz:Nat}{es:List (List D)}{Q:D→AHeap→Prop}(hp:Own P f (args.map (iE H)) ty sz es)(hcl:D.clL (args.map (iE H))=true)(hf:∀ d∈es.flatten,d.flat=true)(hQ:Q (.list es) H):ACalls P f args H Q:=by
 refine ⟨hp.1,fun M0 σ w vals hR ha=>?_⟩
 obtain ⟨f1,f2,f3,f4⟩:=eP (args.flatMap dC) hR
 refine (hp.2 (cF M0 (eT (args.flatMap dC) H) σ) w vals (oO f1) (fM (fun _ h=>h) (AI hR ha _ fun i h=>h) hcl)).mono fun e w' ⟨v,xs,he,hrow,h1,hrep,hcll,hsz,hb⟩=>?_
 obtain ⟨g1,g2,g3⟩:=hR.grow hb.os hb.tape hb.output hb.size hb.block
 have hv:RepV (cF M0 H σ) fG mV w' v (.list es):=by
  rcases hrow.2 with ⟨hnil,h0⟩|⟨g,cap,cur,hval,hg,hcells,hnc,hcm,hsz',htake⟩
  ·rw [hnil,aV h0];exact .listN
  ·rw [hval]
   refine .list ⟨g,0,none⟩ cap sz xs es hnc hcm hsz hrep.len h1 (fun j u hu=>⟨fun hm=>?_,hrow.cells (g:=g) (by simp [hval,Value.ownBlock]) j u hu⟩) (fun j u d hu hd=>tS (hrep.rep j u d hu hd) (hf d (aJ hd)))
   have:=oO hR g hm
   omega
 exact ⟨v,.list es,H,σ,he,g1,hv.keep sB,g2,g3,hQ⟩
theorem jI {P:Program}{md:Nat→Bool}{ops:Array Oper}{sp:List (Nat × Nat)}{n0 i:Nat}{rest:List Oper}{acc:List (Nat × List Nat)}{e:c7}{dst:Option Tmp}{K:c7→AHeap→Prop}{f:FuncId}{args args':List D}{H:AHeap}{ty:TypeId}{sz:Nat}{es:List (List D)}
  (hp:Own P f args' ty sz es) (ha:args.map (iE H)=args') (hcl:D.clL args'=true) (hf:∀ d∈es.flatten,d.flat=true) {S:List Nat} (hS:args.flatMap dC=S) (hc:Dr sp i S acc)
  (h:jL P md ops sp n0 (i+1) rest ((i,S) :: acc) (kY e dst (.list es)) H K):rC P md ops sp n0 i rest acc e dst K f args H:=by
 subst ha hS
 unfold rC
 refine .inl ⟨.list es,_,fun H' hag=>?_,hc,h⟩
 have he:=u7 hag fun x hx=>hx
 exact x7 (by rw [he];exact hp) (by rw [he];exact hcl) hf ⟨rfl,rfl⟩
theorem iG {β:Type}(f:β→Nat→β)(b:β)(n:Nat):(List.range (n+1)).foldl f b=f ((List.range n).foldl f b) n:=by
 rw [cA,cG];rfl
theorem Ph {t:Types}(hv:t.valid){a:Nat}(ha:a<t.nodes.length):mem (t.line a) a=true:=by
 rw [AU t a ha (hv.parentsOK a),wY];simp
def cL (l:List Int):List D:=[dLI l]
@[go_sem] theorem WZ (l:List (List Int)):D.clLL (l.map cL)=true:=cE cL (fun x=>by simp [cL,go_sem]) l
attribute [go_sem] cL
@[go_sem] theorem Yl (o:Option Rule)(a1 a2 a3 a4 a5 a6 a7 a8 a9 a10 a11 a12 a13 a14 a15 a16 a17 a18 a19 a20 a21 a22 a23 a24 a25:D):((Option.map Rule.c o).getD [a1,a2,a3,a4,a5,a6,a7,a8,a9,a10,a11,a12,a13,a14,a15,a16,a17,a18,a19,a20,a21,a22,a23,a24,a25]).length=25:=by cases o<;>rfl
def WG (mask:List Bool):List Nat:=(List.range mask.length).filter fun i=>mask[i]?.getD false
theorem lZ (a b:List Int):Pure Tryz.prog 9 [dLI a,dLI b] (.bool (decide (a=b))):=by
 refine Tz.pK ⟨fun _=>false,fun _=>[]⟩ Tryz.func9 rfl (fun Q hQ=>?_)
 have Y:=trivial
 refine wv (h:=?_)
 repeat first|intro _|refine ⟨oW,?_⟩
 refine wq (fun h1=>?_) fun h1=>?_
 ·refine wv (h:=?_)
  have hne:a≠b:=by intro h;subst h;omega
  exact hQ _ _ (by simp [go_sem,hne])
 ·refine wo (h:=cD (fun i e H=>(e 0=dLI a∧e 1=dLI b∧e 12=dI a.length∧e 13=dI i)∧(i≤a.length)∧(a.take i=b.take i)) (fun i=>a.length - i) 0 ⟨wg,wi,(by rfl)⟩ fun I0 hI0 i e H hi0=>?_)
  obtain ⟨E0,hi,he⟩:=hi0
  have Y:=wa Y E0
  refine dU (fun h4=>?_) fun h4=>?_
  ·have hib:i<b.length:=by omega
   have Y:=wa Y (wa h4 hib)
   refine wv (h:=?_)
   repeat first|intro _|refine ⟨oW,?_⟩
   refine wq (fun h6=>?_) fun h6=>?_
   ·refine wv (h:=?_)
    have hne:a≠b:=by intro h;subst h;exact h6 rfl
    exact hQ _ _ (by simp [go_sem,hne])
   ·exact wo (h:=wx hI0 (i+1) ⟨wg,wj,(by (rw [aG h4,aG hib,he,h6]))⟩)
  ·rw [aK (by omega),aK (by omega)] at he
   exact wv (h:=hQ _ _ (by simp [go_sem,he]))
theorem NO {r:Rule}(h:SE r=true):r.ok:=by
 simp only [SE,aQ,decide_eq_true_eq] at h
 obtain ⟨⟨⟨⟨⟨h1,h2⟩,h3⟩,h4⟩,h5⟩,h6⟩:=h
 simp [A3] at h4 h5
 simp [Xf] at h6
 have h7:=Kw r.cond 40 (by omega) h6
 exact ⟨by omega,by omega,by omega,by omega,by omega,h7.1,by omega⟩
theorem FS {P:Program}{md:Nat→Bool}{ops:Array Oper}{rest:List Oper}{e:c7}{dst:Option Tmp}{K:c7→AHeap→Prop}{f:FuncId}{args args':List D}{H:AHeap}{ty:TypeId}{sz:Nat}{es:List (List D)}
  (hp:Own P f args' ty sz es) (ha:args.map (iE H)=args') (hcl:D.clL args'=true) (hf:∀ d∈es.flatten,d.flat=true) (h:lQ P md ops rest (kY e dst (.list es)) H K):dO P md ops rest e dst K f args H:=by
 subst ha;unfold dO;exact x7 hp hcl hf h
theorem Fm (zs:List Int):∀ d∈(zs.map cI).flatten,d.flat=true:=by
 intro d hd;rw [yL,aS] at hd;obtain ⟨x,_,rfl⟩:=hd;rfl
def NA:List Int→Int
 | []=>0
 | a :: l=>if a≠0 then a else NA l
theorem Qz {l:List Int}{i:Nat}(h:i<l.length):NA (l.drop i)=if l[i]≠0 then l[i] else NA (l.drop (i+1)):=by
 rw [List.drop_eq_getElem_cons h];rfl
theorem MI (l:List Int):Pure Tryz.prog 44 [dLI l] (dI (NA l)):=by
 refine Tz.pK ⟨fun _=>false,fun _=>[]⟩ Tryz.func44 rfl (fun Q hQ=>?_)
 have Y:=trivial
 refine wv (h:=?_)
 repeat first|intro _|refine ⟨oW,?_⟩
 refine cD (fun i e H=>(e 6=dLI l∧e 7=dI l.length∧e 3=dI 0∧e 8=dI i)∧(i≤l.length)∧(NA (l.drop i)=NA l)) (fun i=>l.length - i) 0 ⟨wg,wi,(by rfl)⟩ fun I0 hI0 i e H hi0=>?_
 obtain ⟨E0,hi,hO⟩:=hi0
 have Y:=wa Y E0
 refine dU (fun h3=>?_) fun h3=>?_
 ·have hst:=hO
  rw [Qz h3] at hst
  have Y:=wa Y h3
  refine wv (h:=?_)
  repeat first|intro _|refine ⟨oW,?_⟩
  refine wq (fun h5=>?_) fun h5=>?_
  ·rw [if_pos (by omega)] at hst
   exact wv (h:=hQ _ _ (by simp [go_sem,Y,← hst]))
  ·rw [if_neg (by omega)] at hst
   refine wv (h:=?_)
   repeat first|intro _|refine ⟨oW,?_⟩
   exact wx hI0 (i+1) ⟨wg,wj,(by exact hst)⟩
 ·rw [iR (by omega)] at hO
  exact wv (h:=hQ _ _ (by simp [go_sem,← hO,NA]))
theorem Gn {P:Program}(w:World)(dT sT ty elem:TypeId)(sz:Nat)(g o dLen dCap:Nat)(a:Addr)(sLen sCap n:Nat)(cur:Array Value)(t:TypeId)(cs:List Value)
  (hu:P.underlying dT=some (.slice elem)) (hs:(P.info? elem).map (·.size)=some sz)
  (hg:w.heap[g]?=some (.cells cur t (0,0))) (hn:n=Nat.min sLen dLen) (hcl:cs.length=n * sz)
  (hsrc:∀ j v,cs[j]?=some v→w.cell? (a.add j)=some v) (hfit:o+cs.length≤cur.size) (h1:∀ v∈cs,v.oneCell'=true) :
  (Builtin.copy_ #[dT,sT] ty #[.slice (some ⟨g,o,none⟩) dLen dCap,.slice (some a) sLen sCap]).run P w =
   .ok (goInt n) (w.setRow g (cur.toList.take o++cs++cur.toList.drop (o+cs.length)).toArray):=by
 have hl:=run_loadCells_list (P:=P) w a cs hsrc
 have hst:=run_storeCells_at P g o t cs 0 cur w hg (by simpa using hfit) h1
 cases hq:P.info? elem with
 | none=>simp [hq] at hs
 | some i =>
  have hi:i.size=sz:=by simpa [hq] using hs
  rw [hcl] at hl
  simp [Builtin.copy_,run_underlying hu,Builtin.lenOf,Builtin.firstCells,sizeOf,typeInfo,hq,hi,← hn,hl,hst]
def cmp1 (a b:Int):Int:=if a<b then -1 else if b<a then 1 else 0
theorem jJ (a b:Int):Pure Tryz.prog 45 [dI a,dI b] (dI (cmp1 a b)):=by
 refine Tz.pK ⟨fun _=>false,fun _=>[]⟩ Tryz.func45 rfl (fun Q hQ=>?_)
 have Y:=trivial
 refine wv (h:=aB (yN a) wl ?_)
 refine wv (h:=aB (yN b) wl ?_)
 refine dU (fun h9=>?_) fun h9=>?_
 ·have Y:=wa Y (wa h9 @cmp1.eq_1)
  exact wv (h:=hQ _ _ wy)
 ·refine dU (fun h11=>?_) fun h11=>?_
  ·have Y:=wa Y (wa h9 (wa h11 @cmp1.eq_1))
   exact wv (h:=hQ _ _ wy)
  ·have Y:=wa Y (wa h9 (wa h11 @cmp1.eq_1))
   exact wv (h:=hQ _ _ wy)
abbrev B2:=UInt8 × UInt8
def cP (x:B2):List D:=[.int .u8 (x.1.toNat:Int),.int .u8 (x.2.toNat:Int)]
@[go_sem] theorem UV (l:List B2):D.clLL (l.map cP)=true:=cE _ (fun _=>rfl) l
def BE:ByteArray:=⟨#[65,66,67,68,69,70]⟩
theorem lK {l:List (List D)}(h:∀ c∈l,fW c=c):dX l=l:=by
 rw [nB];conv=>rhs;rw [← List.map_id l]
 exact bP h
def Attr.good (x:Attr):Prop:=x.low≤x.high∧-1000≤x.low∧x.high≤1000
structure Types.fine (t:Types):Prop where
 ok:t.ok
 valid:t.valid
 good:∀ a,(∀ x∈cN t a,x.good)∧(cN t a).length≤8
def Br (t:Types)(i:Nat):Bool:=match t.nodes[i]? with|some n=>n.abs|none=>false
def NT (t:Types):List Int:=((List.range t.nodes.length).filter fun i=>!Br t i).map fun (i:Nat)=>(i:Int)
def Ti (b:List Bool):List Int:=(WG b).map fun (i:Nat)=>(i:Int)
def YI (xs:List Int)(i j:Nat):List Int:=(xs.set i (xs[j]?.getD 0)).set j (xs[i]?.getD 0)
def cU (x:UInt8):List D:=[.int .u8 (x.toNat:Int)]
@[go_sem] theorem MX (l:List UInt8):D.clLL (l.map cU)=true:=cE _ (fun _=>rfl) l
def Wb (n:Nat)(l:List UInt8)(i:Nat):Nat:=((i:Int)+((l[i]?.getD 0).toNat:Int).tmod ((n:Int) - i)).toNat
def Wa (n:Nat)(l:List UInt8)(xs:List Int)(i:Nat):List Int:=YI xs i (Wb n l i)
def Nh (n:Nat)(l:List UInt8):List Int:=(List.range (min n l.length)).foldl (Wa n l) (lL n)
def YP (p xs:List Int)(k:Nat):List Int:=(List.range k).foldl (fun acc i=>acc.set (p[i]?.getD 0).toNat (xs[i]?.getD 0)) xs
def YO (p:List Int)(x:Edge):Edge:=⟨x.type,p[x.from_.toNat]?.getD 0,p[x.to_.toNat]?.getD 0⟩
def YR (p q:List Int)(es:List Edge)(k:Nat):List Edge:=(List.range k).foldl (fun acc i=>acc.set (q[i]?.getD 0).toNat (YO p (es[i]?.getD ⟨0,0,0⟩))) es
def YQ (g:Graph)(p q:List Int):Graph:=if graphF g=0 then ⟨YP p g.nodes g.nodes.length,YR p q g.edges g.edges.length⟩ else ⟨[],[]⟩
def TX (a b:Int):Int:=(a.tmod b+b).tmod b
abbrev T4:=Int8 × Int8 × Int8 × Int8
def Zc (x:T4):List D:=[.int .i8 x.1.toInt,.int .i8 x.2.1.toInt,.int .i8 x.2.2.1.toInt,.int .i8 x.2.2.2.toInt]
@[go_sem] theorem NY (l:List T4):D.clLL (l.map Zc)=true:=cE _ (fun _=>rfl) l
def WX (v:Int)(x:T4):Test:=⟨1+(TX x.1.toInt 4).tdiv 3,⟨TX x.2.1.toInt (v+1) - 1,0⟩,⟨TX x.2.2.1.toInt (v+1) - 1,x.2.2.2.toInt.tmod 12⟩⟩
def Y5 (g:Graph)(nb eb:List Bool)(k:Nat):List Bool:=(List.range k).foldl (fun acc i=>if eb[i]?.getD false=true then (acc.set (g.edges[i]?.getD ⟨0,0,0⟩).from_.toNat true).set (g.edges[i]?.getD ⟨0,0,0⟩).to_.toNat true else acc) nb
def Graph.ends (g:Graph):Prop:=∀ x∈g.edges,(0≤x.from_∧x.from_<g.nodes.length)∧0≤x.to_∧x.to_<g.nodes.length
def Zd (k:UInt64)(i:Nat):Bool:=(k.toNat:Int).fdiv (2 ^ (min ((i:Int).tmod 64).toNat 64)) % 2==1
def U1 (k:UInt64)(off n:Nat):List Bool:=(List.range n).map fun j=>Zd k (off+j)
def WW (g:Graph)(k:UInt64):Part:=⟨Ti (Y5 g (U1 k 0 g.nodes.length) (U1 k g.nodes.length g.edges.length) g.edges.length),Ti (U1 k g.nodes.length g.edges.length)⟩
def U4 (t:Types)(ns:List Int)(k:Int)(i:Nat):Bool:=mem (t.line (ns[i]?.getD 0).toNat) k
def Je (t:Types)(ns:List Int)(k:Int):List Int:=((List.range ns.length).filter (U4 t ns k)).map fun (i:Nat)=>(i:Int)
abbrev B3:=UInt8 × UInt8 × UInt8
def SW (x:B3):List D:=[.int .u8 (x.1.toNat:Int),.int .u8 (x.2.1.toNat:Int),.int .u8 (x.2.2.toNat:Int)]
@[go_sem] theorem DM (l:List B3):D.clLL (l.map SW)=true:=cE _ (fun _=>rfl) l
structure Dr5 where
 nodes:List UInt8
 edges:List B3
def Dr5.c (d:Dr5):List D:=[.list (d.nodes.map cU),.list (d.edges.map SW)]
@[go_sem] theorem Dr5.cl (d:Dr5):D.clL d.c=true:=by simp [Dr5.c,D.clL,D.cl,MX,DM]
def WY (n:Nat)(ds:List UInt8)(k:Nat):List Int:=(List.range k).map fun i=>((ds[i]?.getD 0).toNat:Int).tmod n
def RV (t:Types)(k:Int):EdgeTy:=t.edges[k.toNat]?.getD ⟨⟨#[]⟩,0,0,0,0,0,0⟩
def Qx (l:List Int)(b:UInt8):Int:=l[((b.toNat:Int).tmod l.length).toNat]?.getD 0
def Y3 (t:Types)(ns:List Int)(x:B3):List Edge :=
 if 0<(Je t ns (RV t ((x.1.toNat:Int).tmod t.edges.length)).from_).length∧0<(Je t ns (RV t ((x.1.toNat:Int).tmod t.edges.length)).to_).length then
  [⟨(x.1.toNat:Int).tmod t.edges.length,Qx (Je t ns (RV t ((x.1.toNat:Int).tmod t.edges.length)).from_) x.2.1,Qx (Je t ns (RV t ((x.1.toNat:Int).tmod t.edges.length)).to_) x.2.2⟩] else []
def Y4 (t:Types)(ns:List Int)(es:List B3)(k:Nat):List Edge:=(List.range k).flatMap fun i=>Y3 t ns (es[i]?.getD (0,0,0))
def w3 (t:Types)(d:Dr5):Graph:=⟨WY t.nodes.length d.nodes (min d.nodes.length 8),if t.edges.length=0 then [] else Y4 t (WY t.nodes.length d.nodes (min d.nodes.length 8)) d.edges (min d.edges.length 10)⟩
structure Dr21 where
 graph:Dr5
 slots:List B3
 tests:List T4
def Dr21.c (d:Dr21):List D:=[.list (d.graph.nodes.map cU),.list (d.graph.edges.map SW),.list (d.slots.map SW),.list (d.tests.map Zc)]
@[go_sem] theorem Dr21.cl (d:Dr21):D.clL d.c=true:=by simp [Dr21.c,D.clL,D.cl,MX,DM,NY]
def c2 (x:Nat × Nat):List D:=[dI x.1,dI x.2]
def ZO (t:Types)(ns:List Int)(i:Nat):List Attr:=cN t (ns[i]?.getD 0)
def Zj (t:Types)(ns:List Int)(i k:Nat):List (Nat × Nat):=(List.range k).map fun j=>(i,j)
def Zk (t:Types)(ns:List Int)(k:Nat):List (Nat × Nat):=(List.range k).flatMap fun i=>Zj t ns i (ZO t ns i).length
def Hh (all:List (Nat × Nat))(b:UInt8):Nat × Nat:=all[((b.toNat:Int).tmod all.length).toNat]?.getD (0,0)
def Y1 (all:List (Nat × Nat))(st:List Slot × Int)(x:B3):List Slot × Int :=
 if st.2≤(x.2.1.toNat:Int).tmod 5 - 1 then
  if 3<st.2+1 then (st.1++[⟨(Hh all x.1).1,(Hh all x.1).2,⟨0,0⟩⟩],3) else (st.1++[⟨(Hh all x.1).1,(Hh all x.1).2,⟨st.2,0⟩⟩],st.2+1)
 else (st.1++[⟨(Hh all x.1).1,(Hh all x.1).2,⟨(x.2.1.toNat:Int).tmod 5 - 1,(x.2.2.toNat:Int).tmod 5 - 2⟩⟩],st.2)
def Y2 (all:List (Nat × Nat))(ds:List B3)(k:Nat):List Slot × Int:=(List.range k).foldl (fun st i=>Y1 all st (ds[i]?.getD (0,0,0))) ([],0)
def Y0 (v:Int)(ts:List T4)(k:Nat):List Test:=(List.range k).map fun i=>WX v (ts[i]?.getD (0,0,0,0))
def TF (t:Types)(d:Dr21):List (Nat × Nat):=Zk t (w3 t d.graph).nodes (w3 t d.graph).nodes.length
def Ie (t:Types)(d:Dr21):List Slot × Int:=if (TF t d).length=0 then ([],0) else Y2 (TF t d) d.slots (min d.slots.length 4)
def QL (t:Types)(d:Dr21):Pattern:=⟨w3 t d.graph,(Ie t d).1,(Ie t d).2,Y0 (Ie t d).2 d.tests (min d.tests.length 3)⟩
abbrev B4:=UInt8 × UInt8 × UInt8 × UInt8
structure Dr24 where
 left:Dr21
 keep:UInt64
 nodes:List UInt8
 edges:List B3
 slots:List B3
 plain:Bool
 inj:Bool
 forbid:B4
 order:List UInt8
def Dr24.c (d:Dr24):List D:=[.list (d.left.graph.nodes.map cU),.list (d.left.graph.edges.map SW),.list (d.left.slots.map SW),.list (d.left.tests.map Zc),.int .u64 (d.keep.toNat:Int),.list (d.nodes.map cU),.list (d.edges.map SW),.list (d.slots.map SW),.bool d.plain,.bool d.inj,
 .int .u8 (d.forbid.1.toNat:Int),.int .u8 (d.forbid.2.1.toNat:Int),.int .u8 (d.forbid.2.2.1.toNat:Int),.int .u8 (d.forbid.2.2.2.toNat:Int),.list (d.order.map cU)]
@[go_sem] theorem Dr24.cl (d:Dr24):D.clL d.c=true:=by simp [Dr24.c,D.clL,D.cl,MX,DM,NY]
@[go_sem] theorem XK (l:List Dr24):D.clLL (l.map Dr24.c)=true:=cE _ Dr24.cl l
def Ss (t:Types)(n:Nat)(x:B3):Edge:=⟨(x.1.toNat:Int).tmod t.edges.length,(x.2.1.toNat:Int).tmod n,(x.2.2.toNat:Int).tmod n⟩
def nN (ns:List Int)(a:Int):Int:=ns[a.toNat]?.getD 0
def Y8 (t:Types)(base:List Int)(ds:List UInt8)(k:Nat):List Int:=base++(List.range k).map fun i=>Qx (NT t) (ds[i]?.getD 0)
def Y9 (t:Types)(ns:List Int)(x:B3):List Edge:=if rA t (Ss t ns.length x).type (nN ns (Ss t ns.length x).from_) (nN ns (Ss t ns.length x).to_)=true then [Ss t ns.length x] else []
def ZN (t:Types)(ns:List Int)(base:List Edge)(es:List B3)(k:Nat):List Edge:=base++(List.range k).flatMap fun i=>Y9 t ns (es[i]?.getD (0,0,0))
def NN (t:Types)(g:Graph)(d:Dr24):Graph :=
 ⟨Y8 t g.nodes d.nodes (if (NT t).length=0 then 0 else min d.nodes.length 2),
  ZN t (Y8 t g.nodes d.nodes (if (NT t).length=0 then 0 else min d.nodes.length 2)) g.edges d.edges (if (Y8 t g.nodes d.nodes (if (NT t).length=0 then 0 else min d.nodes.length 2)).length=0∨t.edges.length=0 then 0 else min d.edges.length 2)⟩
theorem jC (l:List Int):dX (l.map cI)=l.map cI:=lK fun c hc=>by
 rw [aS] at hc;obtain ⟨x,_,rfl⟩:=hc;rfl
def IB (t:Types)(d:Dr24):Part:=WW (QL t d.left).graph d.keep
def Ug (t:Types)(d:Dr24):Graph:=dN (QL t d.left).graph (IB t d)
def Q1 (t:Types)(d:Dr24):Graph:=NN t (Ug t d) d
def L6 (t:Types)(d:Dr24):Graph:=YQ (Q1 t d) (Nh (Q1 t d).nodes.length d.order) (Nh (Q1 t d).edges.length d.order)
structure Host where
 graph:Graph
 values:List (List Int)
def Host.c (h:Host):List D:=[dLI h.graph.nodes,.list (h.graph.edges.map Edge.c),.list (h.values.map cL)]
def Host.d (h:Host):D:=.agg h.c
@[go_sem] theorem UX (l:List (List Int)):D.clLL (l.map cL)=true:=cE _ (fun a=>by simp [cL,D.clL,mC]) l
@[go_sem] theorem Host.cl (h:Host):h.d.cl=true:=by simp [Host.d,Host.c,D.cl,D.clL,mC,UX,tW]
structure Dr15 where
 nodes:List B2
 edges:List B3
def Dr15.c (d:Dr15):List D:=[.list (d.nodes.map cP),.list (d.edges.map SW)]
@[go_sem] theorem Dr15.cl (d:Dr15):D.clL d.c=true:=by simp [Dr15.c,D.clL,D.cl,UV,DM]
attribute [go_sem] Host.d Host.c
def iF (t:Types)(g h:Graph):Int:=if (cJ t).2≠0 then (cJ t).2 else if graphF g≠0 then graphF g else if graphF h≠0 then graphF h else if (!rU t g||!rU t h)=true then 13 else 0
end Go.Abs
end
