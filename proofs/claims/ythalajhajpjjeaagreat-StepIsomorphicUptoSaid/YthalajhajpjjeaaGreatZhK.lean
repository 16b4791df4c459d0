/- Layer 24: rules. · Layer 24: rules, continued. · Layer 24, t -/
import Derived.Test.YthalajhajpjjeaaGreatZhF
import Derived.Test.YthalajhajpjjeaaGreatZhJ
import Derived.Test.YthalajhajpjjeaaGreatZhA
import Derived.Test.YthalajhajpjjeaaGreatZhI
set_option linter.unusedVariables false
set_option linter.unusedSimpArgs false
section
set_option maxRecDepth 100000
set_option maxHeartbeats 4000000
open Go Go.Proofs
namespace Go.Abs
attribute [go_sem] Rule.c Rule.d
@[go_sem] theorem ZX (o:Option Attr)(e d b a:D):((Option.map Attr.c o).getD [e,d,b,a]).length=4:=by cases o<;>rfl
@[go_sem] theorem ZV (o:Option NodeTy)(e d b a:D):((Option.map NodeTy.c o).getD [e,d,b,a]).length=4:=by cases o<;>rfl
@[go_sem] theorem Xu (o:Option EdgeTy)(h g f e d b a:D):((Option.map EdgeTy.c o).getD [h,g,f,e,d,b,a]).length=7:=by cases o<;>rfl
@[go_sem] theorem YI (o:Option Edge)(d b a:D):((Option.map Edge.c o).getD [d,b,a]).length=3:=by cases o<;>rfl
@[go_sem] theorem ZT (o:Option Slot)(e d b a:D):((Option.map Slot.c o).getD [e,d,b,a]).length=4:=by cases o<;>rfl
@[go_sem] theorem ZS (o:Option Test)(f e d b a:D):((Option.map Test.c o).getD [f,e,d,b,a]).length=5:=by cases o<;>rfl
@[go_sem] theorem YH (o:Option Stage)(b a:D):((Option.map Stage.c o).getD [b,a]).length=2:=by cases o<;>rfl
@[go_sem] theorem ab1 (o:Option Int)(a:D):((Option.map cI o).getD [a]).length=1:=by cases o<;>rfl
@[go_sem] theorem abZ (o:Option ByteArray)(a:D):((Option.map cS o).getD [a]).length=1:=by cases o<;>rfl
@[go_sem] theorem ZW (o:Option Bool)(a:D):((Option.map cB o).getD [a]).length=1:=by cases o<;>rfl
theorem LP (t:Types)(a:Int):Pure Tryz.prog 372 [dI a,.adr t.c] (.bool (decide ((t.nodes.length:Int)<=a))):=by
 refine Tz.pK ⟨λ_=>false,λ_=>[]⟩ Tryz.func372 rfl (λQ b=>?_)
 have Y:=trivial
 exact wo (h:=b _ _ wy)
theorem LO (t:Types)(x:Edge):Pure Tryz.prog 373 [.agg x.c,.adr t.c] (.bool (decide ((t.edges.length:Int)<=x.type))):=by
 refine Tz.pK ⟨λ_=>false,λ_=>[]⟩ Tryz.func373 rfl (λQ a=>?_)
 have Y:=trivial
 exact wo (h:=a _ _ wy)
theorem Ot (t:Types)(g:Graph):Pure Tryz.prog 312 [t.d,g.d] (.bool (dP t g)):=by
 have j:=fT g.nodes 372 [.adr t.c] (λa=>decide ((t.nodes.length:Int)<=a)) (by simp [go_sem]) (by simp [go_sem]) (λa _=>LP t a)
 have i:=kX g.edges 373 [.adr t.c] (λx=>decide ((t.edges.length:Int)<=x.type)) (by simp [go_sem]) (by simp [go_sem]) (λx _=>LO t x)
 have e:dP t g=((!(g.nodes.any λn=>decide ((t.nodes.length:Int)<=n)))&&!(g.edges.any λx=>decide ((t.edges.length:Int)<=x.type))):=rfl
 generalize (g.nodes.any λn=>decide ((t.nodes.length:Int)<=n))=u at *
 generalize (g.edges.any λx=>decide ((t.edges.length:Int)<=x.type))=v at *
 rw [e]
 refine Tz.pK ⟨λ_=>false,λ_=>[]⟩ Tryz.func312 rfl (λQ f=>?_)
 have Y:=trivial
 refine wo (h:=aB (j) wl ?_)
 refine wo (h:=aO (λb=>i) (λb=>wl) ?_)
 exact wo (h:=f _ _ wy)
def sameSlot (x y:Slot):Bool:=decide (y.node=x.node)&&decide (y.attr=x.attr)
theorem Ou (x y:Slot):Pure Tryz.prog 375 [.agg y.c,.adr x.c] (.bool (sameSlot x y)):=by
 refine Tz.pK ⟨λ_=>false,λ_=>[]⟩ Tryz.func375 rfl (λQ a=>?_)
 have Y:=trivial
 have Y:=wa Y @sameSlot.eq_1
 exact wo (h:=a _ _ wy)
def x9 (t:Types)(p:Pattern)(i:Nat):Int:=match p.slots[i]? with
 | some s=>if gK t p s≠0 then 6 else if ((p.slots.take i).any (sameSlot s))=true then 5 else 0
 | none=>0
theorem CU {t:Types}{p:Pattern}{i:Nat}(h:i<p.slots.length):x9 t p i=if gK t p p.slots[i]≠0 then 6 else if ((p.slots.take i).any (sameSlot p.slots[i]))=true then 5 else 0:=by
 unfold x9;rw [aA h]
theorem QW (t:Types)(k:t.ok)(r:Rule)(q:r.right.graph.nodes.length<=1000)(i:Nat)(j:i<r.right.slots.length):Pure Tryz.prog 313 [t.d,r.d,dI i] (dI (x9 t r.right i)):=by
 have a:=CU (t:=t) j
 have e:=r9 k (r.right.kind r.right.slots[i].node)
 have b:=tI (r.right.slots.take i) 375 [.adr r.right.slots[i].c] (sameSlot r.right.slots[i]) (by simp [go_sem]) (by simp only [D.cl];exact Fy _) (λy _=>Ou r.right.slots[i] y)
 refine Tz.pK ⟨λt=>t==7||t==10,λ_=>[]⟩ Tryz.func313 rfl (λQ g=>?_)
 have Y:=wa (aA j) j
 refine f9 (λp=>?_) λp=>?_
 .have hE:gK t r.right r.right.slots[i]≠0:=by
   unfold gK;rw [if_neg];decide;intro h;simp [lJ] at h;omega
  rw [if_pos hE] at a
  exact wv (h:=g _ _ (by simp [go_sem,a]))
 .have hn:r.right.slots[i].node.toNat<r.right.graph.nodes.length:=aD
  have f:r.right.kind r.right.slots[i].node=r.right.graph.nodes[r.right.slots[i].node.toNat]:=by simp [Pattern.kind,hn]
  rw [f] at e
  have Y:=wa Y (wa (aA hn) f)
  refine wo (h:=aM (pS t k r.right.graph.nodes[r.right.slots[i].node.toNat]) wl ?_)
  refine f9 (λo=>?_) λo=>?_
  .have hE:gK t r.right r.right.slots[i]≠0:=by
    unfold gK;rw [if_neg];decide;intro h;simp [lJ,inF,f] at h;omega
   rw [if_pos hE] at a
   exact wv (h:=g _ _ (by simp [go_sem,a]))
  .have hE:gK t r.right r.right.slots[i]=0:=by
    unfold gK;rw [if_pos];simp [lJ,inF,f];omega
   rw [if_neg aD] at a
   have n:(i:Int)<=r.right.slots.length:=aD
   refine wo (h:=tK (b) wr wl rfl ?_)
   refine f9 (λe=>?_) λe=>?_
   .exact wv (h:=g _ _ (by rw [a,if_pos (by rw [aZ];exact e)];simp [go_sem]))
   .exact wv (h:=g _ _ (by rw [a,if_neg (by rw [aZ];rintro ⟨x,m,l⟩;have:=e x m;rw [this] at l;cases l)];simp [go_sem]))
def lD (t:Types)(r:Rule):Int :=
 if graphF r.right.graph≠0 then graphF r.right.graph
 else if dP t r.right.graph=false then 13
 else if r.right.vars≠r.left.vars\/0<r.right.tests.length then 1
 else if 10<r.right.slots.length then 3
 else bT (x9 t r.right) 0 r.right.slots.length
theorem Ov (t:Types)(o:t.ok)(r:Rule):Pure Tryz.prog 223 [t.d,r.d] (dI (lD t r)):=by
 refine Tz.pK ⟨λ_=>false,λ_=>[]⟩ Tryz.func223 rfl (λQ b=>?_)
 have Y:=trivial
 refine wv (h:=aB (l7 r.right.graph) wl ?_)
 refine d7 (λg=>?_) λg=>?_
 .exact wv (h:=b _ _ (.inl (by simp [go_sem,lD,g])))
 .have hg:=cJ g
  refine wo (h:=aB (Ot t r.right.graph) wl ?_)
  refine f9 (λf=>?_) λf=>?_
  .exact wv (h:=b _ _ (.inl (by simp [go_sem,lD,g,f])))
  .refine f9 (λl=>?_) λl=>?_
   .have hR:lD t r=1:=by unfold lD;rw [if_neg aD,if_neg (by simp [f]),if_pos aD]
    exact wv (h:=b _ _ (.inl (by simp [go_sem,hR])))
   .have h6':¬ (r.right.vars≠r.left.vars\/0<r.right.tests.length):=by
     rintro (h|h)
     .exact h l.1
     .have:=l.2;simp [this] at h
    refine f9 (λp=>?_) λp=>?_
    .have hR:lD t r=3:=by unfold lD;rw [if_neg aD,if_neg (by simp [f]),if_neg h6',if_pos aD]
     exact wv (h:=b _ _ (.inl (by simp [go_sem,hR])))
    .have hR:lD t r=bT (x9 t r.right) 0 r.right.slots.length:=by unfold lD;rw [if_neg aD,if_neg (by simp [f]),if_neg h6',if_neg aD]
     refine wo (h:=bV (λi e H=>(e 2=.adr t.c/\e 3=.adr r.c/\e 46=dI r.right.slots.length/\e 47=dI i)/\(i<=r.right.slots.length)/\(bT (x9 t r.right) i (r.right.slots.length - i)=lD t r)) (λi=>r.right.slots.length - i) 0 ⟨wg,wi,(by exact hR.symm)⟩ λu k i e H j=>?_)
     obtain ⟨q,s,n⟩:=j
     have Y:=wa Y q
     refine d7 (λa=>?_) λa=>?_
     .have hst:=n
      rw [gF _ a] at hst
      have Y:=wa Y a
      refine wv (h:=aB (QW t o r aD i a) wl ?_)
      refine d7 (λm=>?_) λm=>?_
      .rw [if_pos aD] at hst
       exact wv (h:=b _ _ (.inl (by simp [go_sem,hst])))
      .rw [if_neg aD] at hst
       exact wo (h:=wx k (i+1) ⟨wg,wj,(by exact hst)⟩)
     .exact wv (h:=b _ _ (.inl (by rw [<- n,(aD:r.right.slots.length - i=0)];rfl)))
def bF (l:List Int)(n:Nat):List Int:=((List.range n).filter λ(i:Nat)=>!mem l i).map λ(b:Nat)=>(b:Int)
theorem nF {l:List Int}{n:Nat}{x:Int}(h:x∈bF l n):0<=x/\x<n:=by
 simp only [bF,aQ,dL,aR] at h
 obtain ⟨a,⟨h1,_⟩,rfl⟩:=h
 omega
theorem s5 (l:List Int)(n:Nat):(bF l n).length<=n:=by
 unfold bF;rw [aS];exact c9 (iB _ _) aF
theorem DQ (l:List Int)(n:Nat)(q:n<=1000000):Pure Tryz.prog 280 [dLI l,dI n] (dLI (bF l n)):=by
 refine Tz.pK ⟨λt=>t==5,λ_=>[]⟩ Tryz.func280 rfl (λQ o=>?_)
 have Y:=trivial
 refine wv (h:=bV (λi e H=>∃ a:List Int,(e 0=dLI l/\e 7=dI n/\e 5=.own 0 a.length/\e 8=dI i)/\(H.get 0=some ⟨3,1,a.map cI,false⟩)/\(0<H.next)/\(i<=n)/\(a.length<=i)/\(a=((List.range i).filter λ(b:Nat)=>!mem l b).map (λ(b:Nat)=>(b:Int)))) (λi=>n - i) 0 ⟨([]),wg,wn,wn,wi,aF,(by rfl)⟩ λu d i e H j=>?_)
 obtain ⟨a,p,f,c,s,r,g⟩:=j
 have Y:=wa Y (wa p (wa f (b8 c)))
 refine d7 (λm=>?_) λm=>?_
 .have Y:=wa Y m
  refine wo (h:=aB (fF l i) wl ?_)
  refine f9 (λk=>?_) λk=>?_
  .have Y:=wa Y k
   exact wo (h:=wx d (i+1) ⟨(a++(if (!mem l i)=true then [(i:Int)] else [])),wg,wn,wn,wj,(by rw [aJ];split<;>simp<;>omega),(by rw [cV,<- g])⟩)
  .have Y:=wa Y k
   exact wo (h:=wx d (i+1) ⟨(a++(if (!mem l i)=true then [(i:Int)] else [])),wg,wn,wn,wj,(by rw [aJ];split<;>simp<;>omega),(by rw [cV,<- g])⟩)
 .exact wv (h:=o _ _ (by simp [go_sem,Y,bF];rw [g,(aD:i=n)];simp))
def keptF (r:Rule):Int :=
 if subF r.left.graph r.keep≠0 then subF r.left.graph r.keep
 else if dS (b5 r.left.graph r.keep) r.right.graph r.into≠0 then dS (b5 r.left.graph r.keep) r.right.graph r.into
 else if As (b5 r.left.graph r.keep) r.right.graph r.into=false then 11 else 0
structure Rule.ok (r:Rule):Prop where
 name:r.name.size<=100000
 k1:r.keep.nodes.length<=1000000
 k2:r.keep.edges.length<=1000000
 i1:r.into.nodes.length<=1000000
 i2:r.into.edges.length<=1000000
 cond:r.cond.ok
 size:r.cond.size<=1000000
theorem QX (r:Rule)(k:r.ok):Pure Tryz.prog 224 [r.d] (dI (keptF r)):=by
 obtain ⟨_,f,e,i,g,_,_⟩:=k
 refine Tz.pK ⟨λt=>t==3||t==4,λ_=>[]⟩ Tryz.func224 rfl (λQ b=>?_)
 have Y:=trivial
 refine wv (h:=aB (CR r.left.graph r.keep f e) wl ?_)
 refine d7 (λa=>?_) λa=>?_
 .have Y:=wa Y (wa a @keptF.eq_1)
  exact wv (h:=b _ _ wy)
 .refine wv (h:=aB (n9 (b5 r.left.graph r.keep) r.right.graph r.into) wl ?_)
  refine d7 (λc=>?_) λc=>?_
  .have Y:=wa Y (wa a (wa c @keptF.eq_1))
   exact wv (h:=b _ _ wy)
  .refine wo (h:=aB (rP (b5 r.left.graph r.keep) r.right.graph r.into i g) wl ?_)
   refine f9 (λj=>?_) λj=>?_
   .have Y:=wa Y (wa a (wa c (wa j @keptF.eq_1)))
    exact wv (h:=b _ _ wy)
   .have Y:=wa Y (wa a (wa c (wa j @keptF.eq_1)))
    exact wv (h:=b _ _ wy)
def absB (t:Types)(g:Graph)(i:Int):Bool:=((t.nodes[(gN g i).toNat]?).map (·.abs)).getD false
def unfitB (t:Types)(g:Graph)(k:Int):Bool:=!kS t (g.edges[k.toNat]?.getD b4).type (gN g (g.edges[k.toNat]?.getD b4).from_) (gN g (g.edges[k.toNat]?.getD b4).to_)
def AL (t:Types)(g:Graph)(nodes edges:List Int):Bool:=(!(nodes.any (absB t g)))&&!(edges.any (unfitB t g))
theorem jT {t:Types}{g:Graph}(f:graphF g=0)(h:dP t g=true):(∀ a∈g.nodes,0<=a/\a<t.nodes.length)/\∀ x∈g.edges,(0<=x.type/\x.type<t.edges.length)/\(0<=x.from_/\x.from_<g.nodes.length)/\(0<=x.to_/\x.to_<g.nodes.length):=by
 obtain ⟨e,d⟩:=dF f
 simp [dP] at h
 exact ⟨λa c=>⟨(e a c).1,h.1 a c⟩,λx b=>⟨⟨(d x b).1.1,h.2 x b⟩,(d x b).2⟩⟩
theorem HP (t:Types)(g:Graph)(l:graphF g=0)(j:dP t g=true)(i:Int)(f:0<=i)(e:i<g.nodes.length):Pure Tryz.prog 282 [dI i,.adr t.c,.adr g.c] (.bool (absB t g i)):=by
 have a:i.toNat<g.nodes.length:=aD
 have d:=(jT l j).1 _ (aC a)
 have b:g.nodes[i.toNat].toNat<t.nodes.length:=aD
 refine Tz.pK ⟨λ_=>false,λ_=>[]⟩ Tryz.func282 rfl (λQ k=>?_)
 have Y:=wa (aA a) (aA b)
 have Y:=wa Y (wa @absB.eq_1 @gN.eq_1)
 exact wo (h:=k _ _ wy)
theorem HO (t:Types)(d:t.ok)(g:Graph)(n:graphF g=0)(l:dP t g=true)(k:Int)(i:0<=k)(f:k<g.edges.length):Pure Tryz.prog 283 [dI k,.adr g.c,.adr t.c] (.bool (unfitB t g k)):=by
 have b:k.toNat<g.edges.length:=aD
 have e:=(jT n l).2 _ (aC b)
 have j:g.edges[k.toNat].from_.toNat<g.nodes.length:=aD
 have a:g.edges[k.toNat].to_.toNat<g.nodes.length:=aD
 refine Tz.pK ⟨λt=>t==5,λ_=>[]⟩ Tryz.func283 rfl (λQ m=>?_)
 have Y:=wa (aA b) (wa (aA j) (aA a))
 refine wo (h:=aM (Fl t d _ _ _) wl ?_)
 have Y:=wa Y (wa @unfitB.eq_1 @gN.eq_1)
 exact wo (h:=m _ _ wy)
theorem J7 (t:Types)(o:t.ok)(g:Graph)(n:graphF g=0)(m:dP t g=true)(a b:List Int)(e:∀ i∈a,0<=i/\i<g.nodes.length)(l:∀ k∈b,0<=k/\k<g.edges.length):Pure Tryz.prog 201 [t.d,g.d,dLI a,dLI b] (.bool (AL t g a b)):=by
 have w:=fT a 282 [.adr t.c,.adr g.c] (absB t g) (by simp [go_sem]) (by simp [go_sem]) (λi j=>HP t g n m i (e i j).1 (e i j).2)
 have s:=fT b 283 [.adr g.c,.adr t.c] (unfitB t g) (by simp [go_sem]) (by simp [go_sem]) (λk f=>HO t o g n m k (l k f).1 (l k f).2)
 have r:AL t g a b=((!(a.any (absB t g)))&&!(b.any (unfitB t g))):=rfl
 generalize a.any (absB t g)=u at *
 generalize b.any (unfitB t g)=v at *
 rw [r]
 refine Tz.pK ⟨λ_=>false,λ_=>[]⟩ Tryz.func201 rfl (λQ q=>?_)
 have Y:=trivial
 refine wo (h:=aB (w) wl ?_)
 refine wo (h:=aO (λp=>s) (λp=>wl) ?_)
 exact wo (h:=q _ _ wy)
def Rule.freshN (r:Rule):List Int:=bF r.into.nodes r.right.graph.nodes.length
def Rule.freshE (r:Rule):List Int:=bF r.into.edges r.right.graph.edges.length
theorem J8 (r:Rule)(c:r.right.graph.nodes.length<=1000000)(b:r.right.graph.edges.length<=1000000):Pure Tryz.prog 225 [r.d] (.tup [dLI r.freshN,dLI r.freshE]):=by
 refine Tz.pK ⟨λ_=>false,λ_=>[]⟩ Tryz.func225 rfl (λQ a=>?_)
 have Y:=trivial
 refine wo (h:=aM (DQ r.into.nodes _ c) wl ?_)
 refine wo (h:=aM (DQ r.into.edges _ b) wl ?_)
 have Y:=wa Y (wa @Rule.freshN.eq_1 @Rule.freshE.eq_1)
 exact wo (h:=a _ _ wy)
def ruleF (t:Types)(r:Rule):Int :=
 if (cH t).2≠0 then (cH t).2
 else if gW r.name=false then 2
 else if bR t r.left≠0 then bR t r.left
 else if lD t r≠0 then lD t r
 else if keptF r≠0 then keptF r
 else if AL t r.right.graph r.freshN r.freshE=false then 13
 else condF t r.left r.cond
theorem IA {t:Types}{r:Rule}(h:lD t r=0):graphF r.right.graph=0/\dP t r.right.graph=true:=by
 unfold lD at h
 split at h
 .rename_i h1;exact absurd h h1
 .rename_i h1
  split at h
  .cases h
  .rename_i h2;exact ⟨aD,by simpa using h2⟩
theorem Ox (t:Types)(k:t.ok)(r:Rule)(m:r.ok):Pure Tryz.prog 136 [t.d,r.d] (dI (ruleF t r)):=by
 have l:=w8 t k r.left r.cond m.cond m.size
 rw [Cond.c_eq] at l
 refine Tz.pK ⟨λ_=>false,λ_=>[]⟩ Tryz.func136 rfl (λQ e=>?_)
 have Y:=trivial
 refine wv (h:=aB (nC t k) wl ?_)
 refine d7 (λc=>?_) λc=>?_
 .have Y:=wa Y (wa c @ruleF.eq_1)
  exact wv (h:=e _ _ wy)
 .refine wo (h:=aB (n4 r.name m.name) wl ?_)
  refine f9 (λf=>?_) λf=>?_
  .have Y:=wa Y (wa c (wa f @ruleF.eq_1))
   exact wv (h:=e _ _ wy)
  .refine wv (h:=aB (mW t k r.left) wl ?_)
   refine d7 (λj=>?_) λj=>?_
   .have Y:=wa Y (wa c (wa f (wa j @ruleF.eq_1)))
    exact wv (h:=e _ _ wy)
   .refine wv (h:=aB (Ov t k r) wl ?_)
    refine d7 (λa=>?_) λa=>?_
    .have Y:=wa Y (wa c (wa f (wa j (wa a @ruleF.eq_1))))
     exact wv (h:=e _ _ wy)
    .have hg:=IA a
     have o:=cJ hg.1
     refine wv (h:=aB (QX r m) wl ?_)
     refine d7 (λb=>?_) λb=>?_
     .have Y:=wa Y (wa c (wa f (wa j (wa a (wa b @ruleF.eq_1)))))
      exact wv (h:=e _ _ wy)
     .refine wv (h:=aB (J8 r aD aD) wl ?_)
      refine wo (h:=aB (J7 t k r.right.graph hg.1 hg.2 r.freshN r.freshE (λi n=>nF n) (λi n=>nF n)) wl ?_)
      refine f9 (λg=>?_) λg=>?_
      .have Y:=wa Y (wa c (wa f (wa j (wa a (wa b (wa g @ruleF.eq_1))))))
       exact wv (h:=e _ _ wy)
      .refine wv (h:=aB (l) wl ?_)
       have Y:=wa Y (wa c (wa f (wa j (wa a (wa b (wa g @ruleF.eq_1))))))
       exact wv (h:=e _ _ wy)
theorem B8 {l:List Int}{v:Int}(e:l.Pairwise (· < ·))(f:mem l v=true):idx l v=pY l v:=by
 obtain ⟨i,d,g⟩:=aK ((cQ l v).1 f)
 have a:=dH.1 e
 rw [u3 (i:=i) (λj c h=>by
   have b:j<l.length:=aD
   rw [aA b] at h
   have:=a j i b d c
   simp at h;omega) (by rw [aA d,g])]
 rw [Qb (n:=i) (λj c h=>by have:=a j i c d h;omega) aD (λ_=>by omega)]
theorem o4 {α:Type}{f:α->Int}:∀ {l:List α},fM f l=0->∀ x∈l,f x=0
 | [],_,x,hx=>by cases hx
 | a :: l,h,x,hx=>by
  unfold fM at h
  split at h
  .rename_i h1;exact absurd h h1
  .rename_i h1
   rcases bP.1 hx with h2|h2
   .subst h2;omega
   .exact o4 h x h2
theorem CS {g:Graph}{p:Part}(h:subF g p=0):∀ k∈p.edges,mem p.nodes (g.edges[k.toNat]?.getD b4).from_=true/\mem p.nodes (g.edges[k.toNat]?.getD b4).to_=true:=by
 unfold subF pZ at h
 split at h
 .rename_i h1;exact absurd h h1
 .split at h
  .rename_i h2;exact absurd h h2
  .split at h
   .rename_i h3;exact absurd h h3
   .intro k hk
    have:=o4 h k hk
    unfold y3 at this
    split at this
    .rename_i h4;simpa using h4
    .cases this
theorem HV (g:Graph)(p:Part)(hl:p.nodes.length<=1000000)(b6:p.edges.length<=1000000):Pure Tryz.prog 167 [g.d,p.d] (.tup [(b5 g p).d,(D1 g p).d,dI (subF g p)]):=by
 refine Tz.pK ⟨λt=>t==4||t==5||t==8||t==11||t==76||t==80,λr=>match r with|8=>[(0,11),(1,11)]|12=>[(0,9),(1,9),(2,9),(3,9),(5,9),(6,9),(7,9),(8,9)]|13=>[(0,15),(1,15)]|14=>[(0,1),(1,2),(1,3),(0,4),(0,5),(1,5),(2,5),(3,5),(4,5),(1,6),(4,6),(5,6),(1,7),(4,7),(5,7),(0,8)]|_=>[]⟩ Tryz.func167 rfl (λQ hQ=>?_)
 try simp [go_sem,seval]
 refine aB (Md g p) ((by first|rfl|(simp [go_sem,<- List.map_take,<- List.map_drop];done))) ?_
 try simp [go_sem,seval]
 refine aP (λq=>?_) (λq=>?_)
 .try simp [go_sem] at q
  try simp [go_sem,seval]
  exact hQ _ _ (by first|(left;(simp [go_sem,b5,D1,q]);done)|(right;(simp [go_sem,b5,D1,q]);done))
 .try simp [go_sem] at q
  obtain ⟨hg,hs,a8,a9⟩:=sP q
  have z:=CS q
  try simp [go_sem,seval]
  obtain ⟨I0,C⟩:∃ I0:Nat->dA->AHeap->Prop,∀ (i:Nat) (e:dA) (H:AHeap),I0 i e H↔(∃ v:List Int,(e 2=.adr g.c)/\(e 3=.adr p.c)/\(e 4=.ptr 0 1 0 0)/\(e 5=.ptr 1 1 0 0)/\(e 8=.ptr 2 1 0 0)/\(e 9=dI i)/\(H.get 0=some ⟨29,2,[[.nil,.nil]],false⟩)/\(0<H.next)/\(H.get 1=some ⟨36,2,[[.nil,.nil]],false⟩)/\(1<H.next)/\(H.get 2=some ⟨29,2,[[.own 3 v.length,.nil]],false⟩)/\(2<H.next)/\(H.get 3=some ⟨3,1,v.map cI,false⟩)/\(3<H.next)/\(i<=p.nodes.length)/\(v=(p.nodes.take i).map (gN g))):=⟨λi e H=>_,λ_ _ _=>Iff.rfl⟩
  refine A5 (Ghosts.step (Ghosts.refl _) 2 0 0 3 1 _ _ (rfl) rfl rfl rfl) I0 (λi=>p.nodes.length - i) (0) ((C _ _ _).2 ⟨([]),?_,?_,?_,?_,?_,?_,?_,?_,?_,?_,?_,?_,?_,?_,(by first|assumption|omega|(simp [go_sem];done)|(simp_all;done)),(by rfl)⟩) ?_
  iterate 14 (first|omega|(simp [go_sem,seval]<;>omega))
  intro i e H b0
  obtain ⟨v,P,N,L,J,G,E,a7,Z,a5,X,w,V,a2,T,hi,hx⟩:=(C _ _ _).1 b0
  have x0:=b8 Z
  have x1:=b8 X
  have x2:=b8 V
  have x3:=b8 T
  have D:=And.intro P (And.intro N (And.intro L (And.intro J (And.intro G (And.intro E (And.intro a7 (And.intro a5 (And.intro w (And.intro a2 (And.intro x0 (And.intro x1 (And.intro x2 x3))))))))))))
  try simp [go_sem,seval,D]
  repeat first|intro _|refine ⟨eK,?_⟩
  refine aP (λu=>?_) (λu=>?_)
  .try simp [go_sem] at u
   have b1:=a8 _ (aC u)
   have hk:p.nodes[i].toNat<g.nodes.length:=aD
   have b4:v.length=i:=by rw [hx];simp;omega
   try simp [go_sem,seval,D,u,aA hk,gN]
   repeat first|intro _|refine ⟨eK,?_⟩
   refine dN (i+1) aD ((C _ _ _).2 ⟨(v++[gN g p.nodes[i]]),?_,?_,?_,?_,?_,?_,?_,?_,?_,?_,?_,?_,?_,?_,(by first|assumption|omega|(simp [go_sem,D,u,aA hk,gN,q];done)|(simp_all<;>omega)),(by rw [lA _ u,<- hx])⟩)<;>first|omega|(simp [go_sem,seval,D,u,aA hk,gN]<;>omega)
  .try simp [go_sem] at u
   have hX:v=p.nodes.map (gN g):=by rw [hx,mJ _ aD]
   try simp [go_sem,seval,D]
   obtain ⟨I2,B⟩:∃ I2:Nat->dA->AHeap->Prop,∀ (k:Nat) (e:dA) (H:AHeap),I2 k e H↔(∃ j:Nat,∃ x:List Edge,(e 2=.adr g.c)/\(e 3=.adr p.c)/\(e 4=.ptr 0 1 0 0)/\(e 5=.ptr 1 1 0 0)/\(e 8=.ptr 2 1 0 0)/\(e 10=dI k)/\(H.get 0=some ⟨29,2,[[.nil,.nil]],false⟩)/\(0<H.next)/\(H.get 1=some ⟨36,2,[[.nil,.nil]],false⟩)/\(1<H.next)/\(H.get 2=some ⟨29,2,[[.own 3 v.length,.own j x.length]],false⟩)/\(2<H.next)/\(H.get 3=some ⟨3,1,v.map cI,false⟩)/\(3<H.next)/\(H.get j=some ⟨122,3,x.map Edge.c,false⟩)/\(j<H.next)/\(k<=p.edges.length)/\(x=(p.edges.take k).map (gEd g p))/\(j≠0)/\(j≠1)/\(j≠2)/\(j≠3)):=⟨λk e H=>_,λ_ _ _=>Iff.rfl⟩
   refine A5 (Ghosts.step (Ghosts.refl _) 2 0 1 122 3 _ _ (w) rfl rfl rfl) I2 (λk=>p.edges.length - k) (0) ((B _ _ _).2 ⟨(H.next),([]),?_,?_,?_,?_,?_,?_,?_,?_,?_,?_,?_,?_,?_,?_,?_,?_,(by first|assumption|omega|(simp [go_sem,D];done)|(simp_all;done)),(by rfl),aD,aD,aD,aD⟩) ?_
   iterate 16 (first|omega|(simp [go_sem,seval,D]<;>omega))
   intro k e H m
   obtain ⟨j,x,O,M,K,I,F,y,a6,Y,a4,W,a3,U,a1,S,a0,R,hk,hy,l,h,f,b⟩:=(B _ _ _).1 m
   have x0:=b8 Y
   have x1:=b8 W
   have x2:=b8 U
   have x3:=b8 S
   have xj:=b8 R
   have s:=And.intro O (And.intro M (And.intro K (And.intro I (And.intro F (And.intro y (And.intro a6 (And.intro a4 (And.intro a3 (And.intro a1 (And.intro a0 (And.intro x0 (And.intro x1 (And.intro x2 (And.intro x3 xj))))))))))))))
   try simp [go_sem,seval,s,l,h,f,b,l.symm,h.symm,f.symm,b.symm]
   repeat first|intro _|refine ⟨eK,?_⟩
   refine aP (λa=>?_) (λa=>?_)
   .try simp [go_sem] at a
    have b2:=a9 _ (aC a)
    have n:p.edges[k].toNat<g.edges.length:=aD
    have b3:x.length=k:=by rw [hy];simp;omega
    have A:=z _ (aC a)
    rw [aA n,Option.getD_some] at A
    have o:=B8 hs A.1
    have m:=B8 hs A.2
    try simp [go_sem,seval,s,l,h,f,b,l.symm,h.symm,f.symm,b.symm,a,aA n,gEd,o,m]
    repeat first|intro _|refine ⟨eK,?_⟩
    refine aM (DV p.nodes _) ((by first|rfl|(simp [go_sem,<- List.map_take,<- List.map_drop,s,l,h,f,b,l.symm,h.symm,f.symm,b.symm,a,aA n,gEd,o,m];done))) ?_
    try simp [go_sem,seval,s,l,h,f,b,l.symm,h.symm,f.symm,b.symm,a,aA n,gEd,o,m]
    repeat first|intro _|refine ⟨eK,?_⟩
    refine aM (DV p.nodes _) ((by first|rfl|(simp [go_sem,<- List.map_take,<- List.map_drop,s,l,h,f,b,l.symm,h.symm,f.symm,b.symm,a,aA n,gEd,o,m];done))) ?_
    try simp [go_sem,seval,s,l,h,f,b,l.symm,h.symm,f.symm,b.symm,a,aA n,gEd,o,m]
    repeat first|intro _|refine ⟨eK,?_⟩
    refine dN (k+1) aD ((B _ _ _).2 ⟨(j),(x++[gEd g p p.edges[k]]),?_,?_,?_,?_,?_,?_,?_,?_,?_,?_,?_,?_,?_,?_,?_,?_,(by first|assumption|omega|(simp [go_sem,s,l,h,f,b,l.symm,h.symm,f.symm,b.symm,a,aA n,gEd,o,m,q,u];done)|(simp_all<;>omega)),(by rw [lA _ a,<- hy]),(by first|assumption|omega|(simp [go_sem,s,l,h,f,b,l.symm,h.symm,f.symm,b.symm,a,aA n,gEd,o,m,q,u];done)|(simp_all<;>omega)),(by first|assumption|omega|(simp [go_sem,s,l,h,f,b,l.symm,h.symm,f.symm,b.symm,a,aA n,gEd,o,m,q,u];done)|(simp_all<;>omega)),(by first|assumption|omega|(simp [go_sem,s,l,h,f,b,l.symm,h.symm,f.symm,b.symm,a,aA n,gEd,o,m,q,u];done)|(simp_all<;>omega)),(by first|assumption|omega|(simp [go_sem,s,l,h,f,b,l.symm,h.symm,f.symm,b.symm,a,aA n,gEd,o,m,q,u];done)|(simp_all<;>omega))⟩)<;>first|omega|(simp [go_sem,seval,s,l,h,f,b,l.symm,h.symm,f.symm,b.symm,a,aA n,gEd,o,m]<;>omega)
   .try simp [go_sem] at a
    have hY:x=p.edges.map (gEd g p):=by rw [hy,mJ _ aD]
    try simp [go_sem,seval,s,l,h,f,b,l.symm,h.symm,f.symm,b.symm]
    repeat first|intro _|refine ⟨eK,?_⟩
    exact hQ _ _ (by first|(left;(simp [go_sem,s,l,h,f,b,l.symm,h.symm,f.symm,b.symm,b5,D1,q,hX,hY]);done)|(right;(simp [go_sem,s,l,h,f,b,l.symm,h.symm,f.symm,b.symm,b5,D1,q,hX,hY]);done))
def fewG (g:Graph):Bool:=decide ((g.nodes.length:Int)<=45)&&decide ((g.edges.length:Int)<=90)
def fewP (p:Pattern):Bool:=fewG p.graph&&decide ((p.slots.length:Int)<=15)&&decide ((p.tests.length:Int)<=15)
def fewPart (p:Part)(n:Int):Bool:=decide ((p.nodes.length:Int)+p.edges.length<=n)
structure Part.le (p:Part):Prop where
 n:p.nodes.length<=1000000000000000
 e:p.edges.length<=1000000000000000
theorem zP (g:Graph):Pure Tryz.prog 159 [g.d] (.bool (fewG g)):=by
 refine Tz.pK ⟨λ_=>false,λ_=>[]⟩ Tryz.func159 rfl (λQ a=>?_)
 have Y:=trivial
 have Y:=wa Y @fewG.eq_1
 exact wo (h:=a _ _ wy)
theorem uP (p:Pattern):Pure Tryz.prog 128 [p.d] (.bool (fewP p)):=by
 refine Tz.pK ⟨λ_=>false,λ_=>[]⟩ Tryz.func128 rfl (λQ a=>?_)
 have Y:=trivial
 refine wo (h:=aB (zP p.graph) wl ?_)
 have Y:=wa Y @fewP.eq_1
 exact wo (h:=a _ _ wy)
theorem IF (p:Part)(a:p.le)(n:Int):Pure Tryz.prog 56 [p.d,dI n] (.bool (fewPart p n)):=by
 obtain ⟨e,c⟩:=a
 refine Tz.pK ⟨λ_=>false,λ_=>[]⟩ Tryz.func56 rfl (λQ b=>?_)
 have Y:=trivial
 have Y:=wa Y @fewPart.eq_1
 exact wo (h:=b _ _ wy)
theorem Q7 (p:Part)(a:p.le)(n:Int):Pure Tryz.prog 129 [p.d,dI n] (.bool (fewPart p n)):=by
 obtain ⟨e,c⟩:=a
 refine Tz.pK ⟨λ_=>false,λ_=>[]⟩ Tryz.func129 rfl (λQ b=>?_)
 have Y:=trivial
 have Y:=wa Y @fewPart.eq_1
 exact wo (h:=b _ _ wy)
mutual
def oT:Cond→Int→Int
 | .mk k l m p,b=>if (!fewP p||!fewPart m 140)=true then -1 else oS l (b - 1)
def oS:List Cond→Int→Int
 | [],b=>b
 | c :: l,b=>if 0≤b then oS l (oT c b) else b
end
theorem Tb (c:Cond)(b:Int):oT c b=if (!fewP c.pattern||!fewPart c.map 140)=true then -1 else oS c.kids (b - 1):=by cases c;rw [oT];rfl
mutual
theorem GE:∀ (c:Cond) (b:Int),0≤b→-1≤oT c b∧oT c b≤b - 1
 | .mk k l m p,b,h=>by
  rw [oT];split
  ·omega
  ·exact GC l (b - 1) (by omega)
theorem GC:∀ (l:List Cond) (b:Int),-1≤b→-1≤oS l b∧oS l b≤b
 | [],b,h=>by rw [oS];omega
 | c :: l,b,h=>by
  rw [oS];split
  ·rename_i h0
   have h1:=GE c b h0
   have h2:=GC l (oT c b) h1.1
   omega
  ·omega
end
mutual
def Cond.le:Cond→Prop
 | .mk k l m p=>m.le∧Cond.les l
def Cond.les:List Cond→Prop
 | []=>True
 | c :: l=>c.le∧Cond.les l
end
theorem Lb (l:List Cond):Cond.les l↔∀ c∈l,c.le:=by
 induction l with
 | nil=>simp [Cond.les]
 | cons a l ih=>simp [Cond.les,ih]
theorem NY (c:Cond):c.le↔c.map.le/\∀ k∈c.kids,k.le:=by cases c;simp [Cond.le,Lb,Cond.kids,Cond.map]
mutual
theorem GD:∀ (c:Cond) (b:Int),0≤b→0≤oT c b→c.ok∧(c.size:Int)≤b - oT c b
 | .mk k l m p,b,h,h0=>by
  rw [oT] at h0 ⊢
  split at h0
  ·omega
  ·rename_i h1
   rw [if_neg h1]
   have h2:=MZ l (b - 1) (by omega) h0
   simp [fewP,fewG,fewPart] at h1
   refine ⟨⟨⟨?_,?_,?_,?_,?_,?_⟩,h2.1⟩,?_⟩<;>simp only [Cond.map,Cond.pattern,Cond.size]<;>omega
theorem MZ:∀ (l:List Cond) (b:Int),-1≤b→0≤oS l b→Cond.oks l∧(Cond.sizes l:Int)≤b - oS l b
 | [],b,h,h0=>by simp [Cond.oks,Cond.sizes,oS]
 | c :: l,b,h,h0=>by
  rw [oS] at h0 ⊢
  split at h0
  ·rename_i hb
   rw [if_pos hb]
   have h1:=GE c b hb
   have h2:=GC l (oT c b) h1.1
   have h3:=GD c b hb (by omega)
   have h4:=MZ l (oT c b) h1.1 h0
   refine ⟨⟨h3.1,h4.1⟩,?_⟩
   simp only [Cond.sizes];omega
  ·omega
end
theorem O5 {l:List Cond}{i:Nat}(h:i<l.length){b:Int}(a:0<=b):oS (l.drop i) b=oS (l.drop (i+1)) (oT l[i] b):=by
 rw [gJ h,oS,if_pos a]
theorem RI {l:List Cond}{i:Nat}{b:Int}(h:¬ (i<l.length/\0<=b)):oS (l.drop i) b=b:=by
 by_cases a:i<l.length
 .rw [gJ a,oS,if_neg aD]
 .rw [gH aD,oS]
theorem OG:∀ c:Cond,c.le->∀ b:Int,0<=b->b<=1000->Pure Tryz.prog 215 [.agg c.c,dI b] (dI (oT c b)):=by
 refine k8 λc n r d t s=>?_
 obtain ⟨o,p⟩:=(NY c).1 r
 have a:=Tb c d
 refine Tz.pK ⟨λ_=>false,λ_=>[]⟩ Tryz.func215 rfl (λQ k=>?_)
 have Y:=@Cond.c_eq
 refine wo (h:=aB (uP c.pattern) wl ?_)
 refine wo (h:=aO (λq=>IF c.map o 140) (λq=>wl) ?_)
 refine wv (h:=?_)
 repeat first|intro _|refine ⟨gL,?_⟩
 refine wq (λj=>?_) λj=>?_
 .rw [if_pos (bS j)] at a
  exact wv (h:=k _ _ (by simp [go_sem,a]))
 .rw [if_neg (bS j)] at a
  refine wv (h:=bV (λi e H=>∃ b:Int,(e 2=.adr c.c/\e 1=dI b/\e 5=dI i)/\(i<=c.kids.length)/\(-1<=b/\b<d)/\(oS (c.kids.drop i) b=oT c d)) (λi=>c.kids.length - i) 0 ⟨((d - 1)),wg,wi,aD,(by exact a.symm)⟩ λy g i e H f=>?_)
  obtain ⟨b,v,w,x,l⟩:=f
  have Y:=wa Y v
  refine wv (h:=?_)
  repeat first|intro _|refine ⟨gL,?_⟩
  refine wq (λm=>?_) λm=>?_
  .have h5':i<c.kids.length/\0<=b:=aD
   have Y:=wa Y (wa m h5'.1)
   refine wo (h:=aB ((by have:=n _ (aC h5'.1) (p _ (aC h5'.1)) b h5'.2 aD;rwa [Cond.c_eq] at this)) wl ?_)
   exact wo (h:=wx g (i+1) ⟨(oT c.kids[i] b),wg,wj,(by have:=GE c.kids[i] b h5'.2;omega),(by rw [<- l,O5 h5'.1 h5'.2])⟩)
  .have h5':¬ (i<c.kids.length/\0<=b):=aD
   refine wv (h:=?_)
   have u:oT c d=b:=by rw [<- l,RI h5']
   exact k _ _ (by simp [go_sem,u])
def fewC (c:Cond):Bool:=decide (0<=oT c 40)
theorem IC (c:Cond)(a:c.le):Pure Tryz.prog 130 [.agg c.c] (.bool (fewC c)):=by
 refine Tz.pK ⟨λ_=>false,λ_=>[]⟩ Tryz.func130 rfl (λQ b=>?_)
 have Y:=@Cond.c_eq
 refine wv (h:=aB ((by have:=OG c a 40 aD aD;rwa [Cond.c_eq] at this)) wl ?_)
 have Y:=wa Y @fewC.eq_1
 exact wv (h:=b _ _ wy)
def fewR (r:Rule):Bool:=decide ((r.name.size:Int)<=60)&&fewP r.left&&fewP r.right&&fewPart r.keep 140&&fewPart r.into 140&&fewC r.cond
structure Rule.le (r:Rule):Prop where
 keep:r.keep.le
 into:r.into.le
 cond:r.cond.le
theorem Q6 (r:Rule)(b:r.le):Pure Tryz.prog 54 [r.d] (.bool (fewR r)):=by
 refine Tz.pK ⟨λ_=>false,λ_=>[]⟩ Tryz.func54 rfl (λQ c=>?_)
 have Y:=trivial
 refine wo (h:=aO (λa=>uP r.left) (λa=>wl) ?_)
 refine wo (h:=aO (λa=>uP r.right) (λa=>wl) ?_)
 refine wo (h:=aO (λa=>Q7 r.keep b.keep 140) (λa=>wl) ?_)
 refine wo (h:=aO (λa=>IF r.into b.into 140) (λa=>wl) ?_)
 refine wo (h:=aO (λa=>(by have:=IC r.cond b.cond;rwa [Cond.c_eq] at this)) (λa=>wl) ?_)
 have Y:=wa Y @fewR.eq_1
 exact wo (h:=c _ _ wy)
structure Ovl where
 graph:Graph
 left:Part
 right:Part
def Ovl.c (o:Ovl):List D:=[dLI o.graph.nodes,.list (o.graph.edges.map Edge.c),dLI o.left.nodes,dLI o.left.edges,dLI o.right.nodes,dLI o.right.edges]
def Ovl.d (o:Ovl):D:=.agg o.c
@[go_sem] theorem Ovl.cl (o:Ovl):D.clL o.c=true:=by simp [Ovl.c,D.clL,D.cl,oF,vB]
@[go_sem] theorem aaA (o:Ovl):o.d.cl=true:=by simp only [Ovl.d,D.cl];exact Ovl.cl o
@[go_sem] theorem Zw (l:List Ovl):D.clLL (l.map Ovl.c)=true:=c8 _ Ovl.cl l
def e9 (n:Nat):List Int:=(List.range n).map λ(k:Nat)=>(k:Int)
theorem C9 (i:Nat):e9 (i+1)=e9 i++[(i:Int)]:=by simp [e9,bK]
theorem gM (n:Nat):(e9 n).length=n:=by simp [e9]
theorem BN (n:Nat)(l:n<=100000):Pure Tryz.prog 127 [dI n] (dLI (e9 n)):=by
 refine Tz.pK ⟨λt=>t==3,λ_=>[]⟩ Tryz.func127 rfl (λQ j=>?_)
 have Y:=trivial
 refine wv (h:=bV (λi e H=>(e 0=dI n/\e 3=.own 0 i/\e 4=dI i)/\(H.get 0=some ⟨3,1,(e9 i).map cI,false⟩)/\(0<H.next)/\(i<=n)/\((e9 i).length=i)) (λi=>n - i) 0 ⟨wg,(by rfl),wn,wi,(by exact gM _)⟩ λo d i e H c=>?_)
 obtain ⟨k,b,a,m,g⟩:=c
 have Y:=wa Y (wa k (wa b (wa (b8 a) g)))
 refine d7 (λf=>?_) λf=>?_
 .have Y:=wa Y f
  exact wo (h:=wx d (i+1) ⟨wg,(by simp [go_sem,Y,C9]),wn,wj,(by exact gM _)⟩)
 .have hie:i=n:=aD
  subst hie
  have Y:=wa Y f
  exact wv (h:=j _ _ wy)
theorem FY (g:Graph)(a:g.nodes.length<=100000)(b:g.edges.length<=100000):Pure Tryz.prog 53 [g.d] (Part.d ⟨e9 g.nodes.length,e9 g.edges.length⟩):=by
 refine Tz.pK ⟨λt=>t==2,λ_=>[]⟩ Tryz.func53 rfl (λQ c=>?_)
 have Y:=trivial
 refine wo (h:=aM (BN g.nodes.length a) wl ?_)
 refine wo (h:=aM (BN g.edges.length b) wl ?_)
 exact wo (h:=c _ _ wy)
theorem Nz:Own Tryz.prog 234 [.nil] 122 3 []:=by
 refine Tz.oK ⟨λt=>t==2||t==5,λ_=>[]⟩ Tryz.func234 rfl (λQ a=>?_)
 have Y:=trivial
 refine wv (h:=?_)
 exact a _ _ _ (by simp [go_sem]<;>first|omega|(rw [aX];simp<;>omega)|(simp_all<;>omega)) (by simp [go_sem]<;>first|omega|(rw [aX];simp<;>omega)|(simp_all<;>omega))
theorem Nx:Own Tryz.prog 234 [.ne] 122 3 []:=by
 refine Tz.oK ⟨λt=>t==2||t==5,λ_=>[]⟩ Tryz.func234 rfl (λQ a=>?_)
 have Y:=trivial
 refine wo (h:=?_)
 exact a _ _ _ (by simp [go_sem]<;>first|omega|(rw [aX];simp<;>omega)|(simp_all<;>omega)) (by simp [go_sem]<;>first|omega|(rw [aX];simp<;>omega)|(simp_all<;>omega))
theorem Ny (l:List Edge)(d:l.length<=1000000)(a:l≠[]):Own Tryz.prog 234 [.list (l.map Edge.c)] 122 3 (l.map Edge.c):=by
 refine Tz.oK ⟨λt=>t==2||t==5,λ_=>[]⟩ Tryz.func234 rfl (λQ b=>?_)
 have Y:=a
 refine wo (h:=?_)
 exact b _ _ _ (by simp [go_sem,a]<;>first|omega|(rw [aX];simp<;>omega)|(simp_all<;>omega)) (by simp [go_sem,a]<;>first|omega|(rw [aX];simp<;>omega)|(simp_all<;>omega))
theorem Hd (l:List Edge)(b:l.length<=1000000):Own Tryz.prog 234 [.list (l.map Edge.c)] 122 3 (l.map Edge.c):=by
 by_cases a:l=[]
 .subst a;exact C5 Nz Nx
 .exact Ny l b a
theorem Ex {P:Program}{H:AHeap}{f:FuncId}{args:List D}{ty:TypeId}{sz:Nat}{es:List (List D)}{Q:D->AHeap->Prop}(A:Own P f (args.map (iP H)) ty sz es)(x:D.clL (args.map (iP H))=true)(K:∀ d∈es.flatten,d.flat=true)(N:Q (.list es) H):ACalls P f args H Q:=by
 refine ⟨A.1,λE σ w k o M=>?_⟩
 obtain ⟨V,f2,Z,Y⟩:=fH (args.flatMap dK) o
 refine (A.2 (cX E (fE (args.flatMap dK) H) σ) w k (tV V) (gC (λ_ h=>h) (BF o M _ λi h=>h) x)).mono λe G ⟨v,F,L,b,O,c,C,r,m⟩=>?_
 obtain ⟨U,T,S⟩:=o.grow m.os m.tape m.output m.size m.block
 have I:RepV (cX E H σ) gQ p5 G v (.list es):=by
  rcases b.2 with ⟨l,R⟩|⟨g,y,W,a,X,n,s,t,z,q⟩
  .rw [l,bJ R];exact .listN
  .rw [a]
   refine .list ⟨g,0,none⟩ y sz F es s t r c.len O (λj u p=>⟨λJ=>?_,b.cells (g:=g) (by simp [a,Value.ownBlock]) j u p⟩) (λj u d p B=>y0 (c.rep j u d p B) (K d (aI B)))
   have:=tV o g J
   omega
 exact ⟨v,.list es,H,σ,L,U,I.keep yR,T,S,N⟩
theorem j6 {P:Program}{md:Nat->Bool}{ops:Array Oper}{g:List (Nat × Nat)}{l i:Nat}{a:List Oper}{b:List (Nat × List Nat)}{e:dA}{c:Option Tmp}{K:dA->AHeap->Prop}{f:FuncId}{args args':List D}{H:AHeap}{ty:TypeId}{sz:Nat}{es:List (List D)}
  (o:Own P f args' ty sz es) (r:args.map (iP H)=args') (j:D.clL args'=true) (p:∀ d∈es.flatten,d.flat=true) {S:List Nat} (s:args.flatMap dK=S) (q:KM g i S b)
  (h:kL P md ops g l (i+1) a ((i,S) :: b) (nZ e c (.list es)) H K):wH P md ops g l i a b e c K f args H:=by
 subst r s
 unfold wH
 refine .inl ⟨.list es,_,λt k=>?_,q,h⟩
 have m:=Bk k λx n=>n
 exact Ex (by rw [m];exact o) (by rw [m];exact j) p ⟨rfl,rfl⟩
theorem iQ {β:Type}(f:β->Nat->β)(b:β)(n:Nat):(List.range (n+1)).foldl f b=f ((List.range n).foldl f b) n:=by
 rw [bK,jO];rfl
theorem RG {t:Types}(b:t.valid){a:Nat}(c:a<t.nodes.length):mem (t.line a) a=true:=by
 rw [yP t a c (b.parentsOK a),uW];simp
def cL (l:List Int):List D:=[dLI l]
@[go_sem] theorem Yz (l:List (List Int)):D.clLL (l.map cL)=true:=c8 cL (λx=>by simp [cL,go_sem]) l
attribute [go_sem] cL
@[go_sem] theorem ZU (o:Option Rule)(A z y x w v u t s r q p n m l k j i h g f e d b a:D):((Option.map Rule.c o).getD [A,z,y,x,w,v,u,t,s,r,q,p,n,m,l,k,j,i,h,g,f,e,d,b,a]).length=25:=by cases o<;>rfl
def Vb (mask:List Bool):List Nat:=(List.range mask.length).filter λi=>mask[i]?.getD false
theorem u9 (a b:List Int):Pure Tryz.prog 161 [dLI a,dLI b] (.bool (decide (a=b))):=by
 refine Tz.pK ⟨λ_=>false,λ_=>[]⟩ Tryz.func161 rfl (λQ g=>?_)
 have Y:=trivial
 refine wv (h:=?_)
 repeat first|intro _|refine ⟨gL,?_⟩
 refine wq (λm=>?_) λm=>?_
 .refine wv (h:=?_)
  have c:a≠b:=by intro h;subst h;omega
  exact g _ _ (by simp [go_sem,c])
 .refine wo (h:=bV (λi e H=>(e 0=dLI a/\e 1=dLI b/\e 12=dI a.length/\e 13=dI i)/\(i<=a.length)/\(a.take i=b.take i)) (λi=>a.length - i) 0 ⟨wg,wi,(by rfl)⟩ λp j i e H d=>?_)
  obtain ⟨n,o,f⟩:=d
  have Y:=wa Y n
  refine d7 (λl=>?_) λl=>?_
  .have hib:i<b.length:=aD
   have Y:=wa Y (wa l hib)
   refine wv (h:=?_)
   repeat first|intro _|refine ⟨gL,?_⟩
   refine wq (λk=>?_) λk=>?_
   .refine wv (h:=?_)
    have c:a≠b:=by intro h;subst h;exact k rfl
    exact g _ _ (by simp [go_sem,c])
   .exact wo (h:=wx j (i+1) ⟨wg,wj,(by rw [List.take_succ_eq_append_getElem l,List.take_succ_eq_append_getElem hib,f,k])⟩)
  .rw [aY aD,aY aD] at f
   exact wv (h:=g _ _ (by simp [go_sem,f]))
theorem Qr {r:Rule}(h:fewR r=true):r.ok:=by
 simp only [fewR,aN,decide_eq_true_eq] at h
 obtain ⟨⟨⟨⟨⟨g,f⟩,e⟩,d⟩,c⟩,a⟩:=h
 simp [fewPart] at d c
 simp [fewC] at a
 have b:=GD r.cond 40 aD a
 exact ⟨aD,aD,aD,aD,aD,b.1,aD⟩
theorem PD {P:Program}{md:Nat->Bool}{ops:Array Oper}{a:List Oper}{e:dA}{b:Option Tmp}{K:dA->AHeap->Prop}{f:FuncId}{args args':List D}{H:AHeap}{ty:TypeId}{sz:Nat}{es:List (List D)}
  (g:Own P f args' ty sz es) (j:args.map (iP H)=args') (c:D.clL args'=true) (i:∀ d∈es.flatten,d.flat=true) (h:lM P md ops a (nZ e b (.list es)) H K):g5 P md ops a e b K f args H:=by
 subst j;unfold g5;exact Ex g c i h
theorem Eg (zs:List Int):∀ d∈(zs.map cI).flatten,d.flat=true:=by
 intro d a;rw [z7,aQ] at a;obtain ⟨x,_,rfl⟩:=a;rfl
def T1:List Int->Int
 | []=>0
 | a :: l=>if a≠0 then a else T1 l
theorem SS {l:List Int}{i:Nat}(h:i<l.length):T1 (l.drop i)=if l[i]≠0 then l[i] else T1 (l.drop (i+1)):=by
 rw [gJ h];rfl
theorem WG (l:List Int):Pure Tryz.prog 349 [dLI l] (dI (T1 l)):=by
 refine Tz.pK ⟨λ_=>false,λ_=>[]⟩ Tryz.func349 rfl (λQ f=>?_)
 have Y:=trivial
 refine wv (h:=?_)
 repeat first|intro _|refine ⟨gL,?_⟩
 refine bV (λi e H=>(e 6=dLI l/\e 7=dI l.length/\e 3=dI 0/\e 8=dI i)/\(i<=l.length)/\(T1 (l.drop i)=T1 l)) (λi=>l.length - i) 0 ⟨wg,wi,(by rfl)⟩ λm c i e H a=>?_
 obtain ⟨j,k,b⟩:=a
 have Y:=wa Y j
 refine d7 (λd=>?_) λd=>?_
 .have hst:=b
  rw [SS d] at hst
  have Y:=wa Y d
  refine wv (h:=?_)
  repeat first|intro _|refine ⟨gL,?_⟩
  refine wq (λg=>?_) λg=>?_
  .rw [if_pos aD] at hst
   exact wv (h:=f _ _ (by simp [go_sem,Y,<- hst]))
  .rw [if_neg aD] at hst
   refine wv (h:=?_)
   repeat first|intro _|refine ⟨gL,?_⟩
   exact wx c (i+1) ⟨wg,wj,(by exact hst)⟩
 .rw [gH aD] at b
  exact wv (h:=f _ _ (by simp [go_sem,<- b,T1]))
theorem HN {P:Program}(w:World)(u x ty b:TypeId)(sz:Nat)(g o e l:Nat)(a:Addr)(d f n:Nat)(c:Array Value)(t:TypeId)(cs:List Value)
  (y:P.underlying u=some (.slice b)) (r:(P.info? b).map (·.size)=some sz)
  (B:w.heap[g]?=some (.cells c t (0,0))) (z:n=Nat.min d e) (q:cs.length=n * sz)
  (h:∀ j v,cs[j]?=some v->w.cell? (a.add j)=some v) (k:o+cs.length<=c.size) (C:∀ v∈cs,v.oneCell'=true) :
  (Builtin.copy_ #[u,x] ty #[.slice (some ⟨g,o,none⟩) e l,.slice (some a) d f]).run P w =
   .ok (goInt n) (w.setRow g (c.toList.take o++cs++c.toList.drop (o+cs.length)).toArray):=by
 have s:=run_loadCells_list (P:=P) w a cs h
 have m:=run_storeCells_at P g o t cs 0 c w B (bS k) C
 cases p:P.info? b with
 | none=>simp [p] at r
 | some i =>
  have A:i.size=sz:=by simpa [p] using r
  rw [q] at s
  simp [Builtin.copy_,run_underlying y,Builtin.lenOf,Builtin.firstCells,sizeOf,typeInfo,p,A,<- z,s,m]
def cmp1 (a b:Int):Int:=if a<b then -1 else if b<a then 1 else 0
theorem Nw (a b:Int):Pure Tryz.prog 350 [dI a,dI b] (dI (cmp1 a b)):=by
 refine Tz.pK ⟨λ_=>false,λ_=>[]⟩ Tryz.func350 rfl (λQ e=>?_)
 have Y:=trivial
 refine wv (h:=aB (Ad a) wl ?_)
 refine wv (h:=aB (Ad b) wl ?_)
 refine d7 (λd=>?_) λd=>?_
 .have Y:=wa Y (wa d @cmp1.eq_1)
  exact wv (h:=e _ _ wy)
 .refine d7 (λc=>?_) λc=>?_
  .have Y:=wa Y (wa d (wa c @cmp1.eq_1))
   exact wv (h:=e _ _ wy)
  .have Y:=wa Y (wa d (wa c @cmp1.eq_1))
   exact wv (h:=e _ _ wy)
theorem S2 {n:Nat}{x:Int}(h:x∈e9 n):0<=x/\x<n:=by
 simp only [e9,aQ,aR] at h
 obtain ⟨k,hk,rfl⟩:=h;omega
theorem HW (n:Nat)(l:n<=100000):Own Tryz.prog 173 [dI 0,dI n] 3 1 ((e9 n).map cI):=by
 refine Tz.oK ⟨λt=>t==5,λ_=>[]⟩ Tryz.func173 rfl (λQ j=>?_)
 have Y:=trivial
 refine wv (h:=bV (λi e H=>(e 0=dI 0/\e 1=dI n/\e 5=.own 0 i/\e 6=dI i)/\(H.get 0=some ⟨3,1,(e9 i).map cI,false⟩)/\(0<H.next)/\(i<=n)/\((e9 i).length=i)) (λi=>n - i) 0 ⟨wg,(by rfl),wn,wi,(by exact gM _)⟩ λo d i e H c=>?_)
 obtain ⟨k,b,a,m,g⟩:=c
 have Y:=wa Y (wa k (wa b (wa (b8 a) g)))
 refine d7 (λf=>?_) λf=>?_
 .have Y:=wa Y f
  exact wo (h:=wx d (i+1) ⟨wg,(by simp [go_sem,Y,C9]),wn,wj,(by exact gM _)⟩)
 .have hie:i=n:=aD
  subst hie
  refine wv (h:=?_)
  exact j _ _ _ (by simp [go_sem,Y,gM]) (by simp [go_sem,Y,gM])
def k7 (t:Types)(i:Nat):Bool:=match t.nodes[i]? with|some n=>n.abs|none=>false
def iX (t:Types):List Int:=((List.range t.nodes.length).filter λi=>!k7 t i).map λ(i:Nat)=>(i:Int)
theorem Jv {t:Types}{x:Int}(h:x∈iX t):0<=x/\x<t.nodes.length:=by
 simp only [iX,aQ,dL,aR] at h
 obtain ⟨k,⟨hk,_⟩,rfl⟩:=h;omega
theorem FV (t:Types)(r:t.nodes.length<=100000):Pure Tryz.prog 265 [t.d] (dLI (iX t)):=by
 refine Tz.pK ⟨λt=>t==3,λ_=>[]⟩ Tryz.func265 rfl (λQ p=>?_)
 have Y:=trivial
 refine wv (h:=bV (λi e H=>∃ a:List Int,(e 1=.adr t.c/\e 3=.own 0 a.length/\e 4=dI i)/\(H.get 0=some ⟨3,1,a.map cI,false⟩)/\(0<H.next)/\(i<=t.nodes.length)/\(a.length<=i)/\(a=((List.range i).filter λi=>!k7 t i).map (λ(b:Nat)=>(b:Int)))) (λi=>t.nodes.length - i) 0 ⟨([]),wg,wn,wn,wi,aF,(by rfl)⟩ λu g i e H m=>?_)
 obtain ⟨a,q,j,f,s,o,l⟩:=m
 have Y:=wa Y (wa q (wa j (b8 f)))
 refine f9 (λk=>?_) λk=>?_
 .have hab:k7 t i=t.nodes[i].abs:=by simp [k7,aA k]
  have Y:=wa Y (wa k (wa (aA k) hab))
  refine f9 (λn=>?_) λn=>?_
  .have Y:=wa Y n
   exact wo (h:=wx g (i+1) ⟨(a++(if (!k7 t i)=true then [(i:Int)] else [])),wg,wn,wn,wj,(by rw [aJ];split<;>simp<;>omega),(by rw [cV,<- l])⟩)
  .have Y:=wa Y n
   exact wo (h:=wx g (i+1) ⟨(a++(if (!k7 t i)=true then [(i:Int)] else [])),wg,wn,wn,wj,(by rw [aJ];split<;>simp<;>omega),(by rw [cV,<- l])⟩)
 .have hY:iX t=a:=by rw [l,(aD:i=t.nodes.length)];rfl
  exact wv (h:=p _ _ (by simp [go_sem,Y,hY]))
theorem FX (t:Types)(r:t.nodes.length<=100000):Pure Tryz.prog 171 [t.d] (dLI (iX t)):=by
 refine Tz.pK ⟨λt=>t==3,λ_=>[]⟩ Tryz.func171 rfl (λQ p=>?_)
 have Y:=trivial
 refine wv (h:=bV (λi e H=>∃ a:List Int,(e 1=.adr t.c/\e 3=.own 0 a.length/\e 4=dI i)/\(H.get 0=some ⟨3,1,a.map cI,false⟩)/\(0<H.next)/\(i<=t.nodes.length)/\(a.length<=i)/\(a=((List.range i).filter λi=>!k7 t i).map (λ(b:Nat)=>(b:Int)))) (λi=>t.nodes.length - i) 0 ⟨([]),wg,wn,wn,wi,aF,(by rfl)⟩ λu g i e H m=>?_)
 obtain ⟨a,q,j,f,s,o,l⟩:=m
 have Y:=wa Y (wa q (wa j (b8 f)))
 refine f9 (λk=>?_) λk=>?_
 .have hab:k7 t i=t.nodes[i].abs:=by simp [k7,aA k]
  have Y:=wa Y (wa k (wa (aA k) hab))
  refine f9 (λn=>?_) λn=>?_
  .have Y:=wa Y n
   exact wo (h:=wx g (i+1) ⟨(a++(if (!k7 t i)=true then [(i:Int)] else [])),wg,wn,wn,wj,(by rw [aJ];split<;>simp<;>omega),(by rw [cV,<- l])⟩)
  .have Y:=wa Y n
   exact wo (h:=wx g (i+1) ⟨(a++(if (!k7 t i)=true then [(i:Int)] else [])),wg,wn,wn,wj,(by rw [aJ];split<;>simp<;>omega),(by rw [cV,<- l])⟩)
 .have hY:iX t=a:=by rw [l,(aD:i=t.nodes.length)];rfl
  exact wv (h:=p _ _ (by simp [go_sem,Y,hY]))
def AK (b:List Bool):List Int:=(Vb b).map λ(i:Nat)=>(i:Int)
theorem BL (b:List Bool)(p:b.length<=100000):Pure Tryz.prog 344 [.list (b.map cB)] (dLI (AK b)):=by
 refine Tz.pK ⟨λt=>t==3,λ_=>[]⟩ Tryz.func344 rfl (λQ n=>?_)
 have Y:=trivial
 refine wv (h:=bV (λi e H=>∃ a:List Int,(e 0=.list (b.map cB)/\e 3=.own 0 a.length/\e 4=dI i)/\(H.get 0=some ⟨3,1,a.map cI,false⟩)/\(0<H.next)/\(i<=b.length)/\(a.length<=i)/\(a=((List.range i).filter λi=>b[i]?.getD false).map (λ(b:Nat)=>(b:Int)))) (λi=>b.length - i) 0 ⟨([]),wg,wn,wn,wi,aF,(by rfl)⟩ λr d i e H k=>?_)
 obtain ⟨a,o,f,c,q,m,j⟩:=k
 have Y:=wa Y (wa o (wa f (b8 c)))
 refine f9 (λg=>?_) λg=>?_
 .have hgd:b[i]?.getD false=b[i]:=by rw [aA g];rfl
  have Y:=wa Y (wa g (wa (aA g) hgd))
  refine f9 (λl=>?_) λl=>?_
  .have Y:=wa Y l
   exact wo (h:=wx d (i+1) ⟨(a++(if b[i]?.getD false=true then [(i:Int)] else [])),wg,wn,wn,wj,(by rw [aJ];split<;>simp<;>omega),(by rw [cV,<- j])⟩)
  .have Y:=wa Y l
   exact wo (h:=wx d (i+1) ⟨(a++(if b[i]?.getD false=true then [(i:Int)] else [])),wg,wn,wn,wj,(by rw [aJ];split<;>simp<;>omega),(by rw [cV,<- j])⟩)
 .have hY:AK b=a:=by rw [j,(aD:i=b.length)];rfl
  exact wv (h:=n _ _ (by simp [go_sem,Y,hY]))
theorem AI (g:Graph)(b:g.nodes.length<=100000)(c:g.edges.length<=100000):Pure Tryz.prog 157 [g.d] g.d:=by
 refine Tz.pK ⟨λt=>t==2||t==3||t==7,λr=>match r with|1=>[(0,1),(0,2),(0,4),(1,4),(2,4),(3,4),(0,5),(3,5),(4,5),(0,6),(3,6),(4,6)]|_=>[]⟩ Tryz.func157 rfl (λQ a=>?_)
 have Y:=trivial
 exact wo (h:=a _ _ wy)
theorem sU (l:List Int)(v:∀ x∈l,0<=x/\x<l.length)(u:∀ a b,a<b->b<l.length->l[a]?≠l[b]?):Pure Tryz.prog 175 [dLI l] (dI 0):=by
 refine Tz.pK ⟨λ_=>false,λ_=>[]⟩ Tryz.func175 rfl (λQ w=>?_)
 have Y:=trivial
 refine wv (h:=bV (λi e H=>(e 0=dLI l/\e 3=dI i)/\(i<=l.length)) (λi=>l.length - i) 0 ⟨wg,wi⟩ λG r i e H o=>?_)
 obtain ⟨A,D⟩:=o
 have Y:=wa Y A
 refine wv (h:=?_)
 repeat first|intro _|refine ⟨gL,?_⟩
 refine wq (λg=>?_) λg=>?_
 .have hx:=v _ (aC g)
  have Y:=wa Y (wa g (aA g))
  refine wv (h:=?_)
  repeat first|intro _|refine ⟨gL,?_⟩
  refine aP (λs=>?_) (λs=>?_)
  .simp [aA g] at s;omega
  .try simp [go_sem] at s
   exact wo (h:=wx r (i+1) ⟨wg,wj⟩)
 .refine wv (h:=bV (λk e H=>(e 0=dLI l/\e 4=dI k)/\(k<=l.length)) (λk=>l.length - k) 0 ⟨wg,wi⟩ λF q k e H n=>?_)
  obtain ⟨z,C⟩:=n
  have Y:=wa Y z
  refine wv (h:=?_)
  repeat first|intro _|refine ⟨gL,?_⟩
  refine wq (λc=>?_) λc=>?_
  .have Y:=wa Y (wa c (aA c))
   refine wv (h:=bV (λm e H=>(e 0=dLI l/\e 4=dI k/\e 5=dI m)/\(m<=k)) (λm=>k - m) 0 ⟨wg,wi⟩ λE p m e H j=>?_)
   obtain ⟨y,B⟩:=j
   have Y:=wa Y y
   refine d7 (λf=>?_) λf=>?_
   .have hml:m<l.length:=aD
    have Y:=wa Y (wa f (wa (aA hml) hml))
    refine wv (h:=?_)
    repeat first|intro _|refine ⟨gL,?_⟩
    refine aP (λd=>?_) (λd=>?_)
    .exact absurd (show l[k]=l[m] by simpa [aA c,aA hml] using d) (λt=>u m k f c (by rw [aA hml,aA c,t]))
    .try simp [go_sem] at d
     exact wo (h:=wx p (m+1) ⟨wg,wj⟩)
   .exact wo (h:=wx q (k+1) ⟨wg,wj⟩)
  .have Y:=wa Y (wa g c)
   exact wv (h:=w _ _ wy)
def JT (xs:List Int)(i j:Nat):List Int:=(xs.set i (xs[j]?.getD 0)).set j (xs[i]?.getD 0)
theorem LB (xs:List Int)(i j:Nat):(JT xs i j).length=xs.length:=by simp [JT]
abbrev B2:=UInt8 × UInt8
def cP (x:B2):List D:=[.int .u8 (x.1.toNat:Int),.int .u8 (x.2.toNat:Int)]
theorem jW (x:UInt8):(x.toNat:Int)<256:=by have:=x.toNat_lt;omega
@[go_sem] theorem TE (l:List B2):D.clLL (l.map cP)=true:=c8 _ (λ_=>rfl) l
def tyA:ByteArray:=⟨#[65,66,67,68,69,70]⟩
def tyU:ByteArray:=⟨#[117,118,119,120,121,122]⟩
def tyE:ByteArray:=⟨#[101,102,103,104,105]⟩
def l5 (i:Nat)(x:B2):NodeTy :=
 ⟨tyA.extract i (i+1),(x.1.toNat:Int).tmod ((i:Int)+1) - 1,((x.1.toNat:Int) / 16).tmod 4==3,
  if (x.2.toNat:Int).tmod 4=1 then [⟨tyU.extract i (i+1),-3,3+((x.2.toNat:Int) / 4).tmod 9,[]⟩]
  else if (x.2.toNat:Int).tmod 4=2 then [⟨tyU.extract i (i+1),0,1,[⟨#[111,102,102]⟩,⟨#[111,110]⟩]⟩] else []⟩
def wY (i:Nat)(x:B2):List D :=
 [.str (tyA.extract i (i+1)),dI ((x.1.toNat:Int).tmod ((i:Int)+1) - 1),.bool (((x.1.toNat:Int) / 16).tmod 4==3),
  if (x.2.toNat:Int).tmod 4=1 then .list [[.str (tyU.extract i (i+1)),dI (-3),dI (3+((x.2.toNat:Int) / 4).tmod 9),.nil]]
  else if (x.2.toNat:Int).tmod 4=2 then .list [[.str (tyU.extract i (i+1)),dI 0,dI 1,.list [[.str ⟨#[111,102,102]⟩],[.str ⟨#[111,110]⟩]]]] else .nil]
theorem S9 (i:Nat)(x:B2):kJ (wY i x)=(l5 i x).c:=by
 unfold wY l5 NodeTy.c
 by_cases a:(x.2.toNat:Int).tmod 4=1
 .simp [a,oM,kJ,eI,Attr.c,dI,qA,cS]
 .by_cases h2:(x.2.toNat:Int).tmod 4=2
  .simp [h2,oM,kJ,eI,Attr.c,dI,qA,cS]
  .simp [a,h2,oM,kJ,eI,Attr.c,dI,qA,cS]
def i5 (ns:List B2)(i:Nat):B2:=ns[i]?.getD (0,0)
def rR (ns:List B2)(n:Nat):List NodeTy:=(List.range n).map λi=>l5 i (i5 ns i)
def BZ (n:Int)(i:Nat)(x:B2):EdgeTy:=⟨tyE.extract i (i+1),(x.1.toNat:Int).tmod n,(x.2.toNat:Int).tmod n,0,-1,0,-1⟩
def rS (n:Int)(es:List B2)(k:Nat):List EdgeTy:=(List.range k).map λi=>BZ n i (i5 es i)
def lG (ns:List B2):Nat:=max 1 (min ns.length 6)
def jE (ns es:List B2):Types:=⟨rR ns (lG ns),rS (lG ns) es (min es.length 5)⟩
def tW (ns:List B2)(n:Nat):List (List D):=(List.range n).map λi=>wY i (i5 ns i)
theorem s9 (ns:List B2)(i:Nat):tW ns (i+1)=tW ns i++[wY i (i5 ns i)]:=by simp [tW,bK]
theorem rQ (ns:List B2)(i:Nat):(tW ns i).length=i:=by simp [tW]
theorem Ry (ns:List B2)(i:Nat):eI (tW ns i)=(rR ns i).map NodeTy.c:=by
 rw [uT];simp only [tW,rR,List.map_map]
 exact bW λj _=>S9 j _
theorem kI {l:List (List D)}(h:∀ c∈l,kJ c=c):eI l=l:=by
 rw [uT];conv=>rhs;rw [<- List.map_id l]
 exact bW h
theorem Gk (l:List EdgeTy):eI (l.map EdgeTy.c)=l.map EdgeTy.c:=kI λc hc=>by
 rw [aQ] at hc;obtain ⟨x,_,rfl⟩:=hc;rfl
theorem O0 (ns:List B2)(i:Nat):(rR ns i).length=i:=by simp [rR]
theorem MK (n:Int)(es:List B2)(i:Nat):rS n es (i+1)=rS n es i++[BZ n i (i5 es i)]:=by simp [rS,bK]
theorem A3 (n:Int)(es:List B2)(i:Nat):(rS n es i).length=i:=by simp [rS]
theorem b7 {a n:Int}(h:0<=a)(hn:0<n):0<=a.tmod n/\a.tmod n<n:=⟨Int.tmod_nonneg _ h,Int.tmod_lt_of_pos _ hn⟩
theorem Ue {a n:Int}(h:0<=a)(hn:0<n):0<=a.tdiv n/\a.tdiv n<=a:=⟨Int.tdiv_nonneg h aD,by rw [Int.tdiv_eq_ediv_of_nonneg h];exact Int.ediv_le_self _ h⟩
theorem O8 {n:Int}(b:0<=n)(a:n<=255):QF .u8 n:=by
 unfold QF;simp [IntKind.min,IntKind.max,IntKind.signed,IntKind.bits];omega
theorem OP (ns es:List B2):Pure Tryz.prog 73 [.list (ns.map cP),.list (es.map cP)] (jE ns es).d:=by
 refine tT (by first|rfl|(simp [go_sem];done)) (λQ hQ=>(aG (cfg:=⟨λt=>t==4||t==5||t==7||t==8,λr=>match r with|8=>[(3,17),(4,17),(5,17),(11,17),(12,17)]|20=>[(0,23),(1,23)]|_=>[]⟩) Tz.mixed Tryz.func73 rfl rfl (aE rfl) (by kernel_rfl) ?_))
 have Y:=trivial
 refine wv (h:=tX (Ghosts.step (Ghosts.refl _) 1 0 0 172 4 _ _ (rfl) rfl rfl rfl) (λi e H=>(e 0=.list (ns.map cP)/\e 1=.list (es.map cP)/\e 4=.ptr 0 1 0 0/\e 5=.ptr 1 1 0 0/\e 6=dI i)/\(H.get 0=some ⟨25,2,[[.nil,.nil]],false⟩)/\(0<H.next)/\(H.get 1=some ⟨25,2,[[.own 2 i,.nil]],false⟩)/\(1<H.next)/\(H.get 2=some ⟨172,4,tW ns i,false⟩)/\(2<H.next)/\(i<=6)/\(i<=1\/i<=ns.length)/\((tW ns i).length=i)) (λi=>6 - i) 0 ⟨wg,wn,wn,wn,wn,(by rfl),wn,wi,aD,(by exact rQ _ _)⟩ λI0 hI0 i e H hi0=>?_)
 obtain ⟨E0,g0_0,n0_0,g1_0,n1_0,g2_0,n2_0,hi,hi2,hl⟩:=hi0
 have Y:=wa Y (wa E0 (wa g0_0 (wa (b8 n0_0) (wa g1_0 (wa (b8 n1_0) (wa g2_0 (wa (b8 n2_0) hl)))))))
 refine vJ (λh3=>?_) λh3=>?_
 .obtain ⟨x,hx⟩:=eX (i5 ns i)
  have hx1:=jW x.1
  have hx2:=jW x.2
  have hi5:i<6:=aD
  have hm1:=b7 (aD:0<=(x.1.toNat:Int)) (aD:0<(i:Int)+1)
  have hm2:=b7 (aD:0<=(x.2.toNat:Int) / 4) (aD:(0:Int)<9)
  have hu1:=O8 (aD:0<=(x.1.toNat:Int) / 16) aD
  have hu2:=O8 (aD:0<=(x.2.toNat:Int) / 4) aD
  have hsz:(⟨#[65,66,67,68,69,70]⟩:ByteArray).size=6:=rfl
  have hsz2:(⟨#[117,118,119,120,121,122]⟩:ByteArray).size=6:=rfl
  have nx:=Lf H.next
  have Y:=wa Y (wa h3 (wa hsz (wa hsz2 nx)))
  refine vJ (λh6=>?_) λh6=>?_
  .have hx0:ns[i]=x:=by rw [<- hx];simp [i5,aA h6]
   have Y:=wa Y (wa (aA h6) (wa hx0 @cP.eq_1))
   refine vJ (λh11=>?_) λh11=>?_
   .have hmn:wY i (i5 ns i)=[.str (tyA.extract i (i+1)),dI ((x.1.toNat:Int).tmod ((i:Int)+1) - 1),.bool (((x.1.toNat:Int) / 16).tmod 4==3),.list [[.str (tyU.extract i (i+1)),dI (-3),dI (3+((x.2.toNat:Int) / 4).tmod 9),.nil]]]:=by rw [hx];simp [wY,h11]
    exact wp (h:=wx hI0 (i+1) ⟨wg,wn,wn,wn,wn,(by simp [go_sem,Y,s9,hmn,tyA,tyU,NodeTy.c,Attr.c,qA,cS,dI]),wn,wj,aD,(by exact rQ _ _)⟩)
   .refine d7 (λh13=>?_) λh13=>?_
    .have hmn:wY i (i5 ns i)=[.str (tyA.extract i (i+1)),dI ((x.1.toNat:Int).tmod ((i:Int)+1) - 1),.bool (((x.1.toNat:Int) / 16).tmod 4==3),.list [[.str (tyU.extract i (i+1)),dI 0,dI 1,.list [[.str ⟨#[111,102,102]⟩],[.str ⟨#[111,110]⟩]]]]]:=by rw [hx];simp [wY,h13]
     exact wp (h:=wx hI0 (i+1) ⟨wg,wn,wn,wn,wn,(by simp [go_sem,Y,s9,hmn,tyA,tyU,NodeTy.c,Attr.c,qA,cS,dI]),wn,wj,aD,(by exact rQ _ _)⟩)
    .have hmn:wY i (i5 ns i)=[.str (tyA.extract i (i+1)),dI ((x.1.toNat:Int).tmod ((i:Int)+1) - 1),.bool (((x.1.toNat:Int) / 16).tmod 4==3),.nil]:=by rw [hx];simp [wY,h11,h13]
     exact wp (h:=wx hI0 (i+1) ⟨wg,wn,wn,wn,wn,(by simp [go_sem,Y,s9,hmn,tyA,tyU,NodeTy.c,Attr.c,qA,cS,dI]),wn,wj,aD,(by exact rQ _ _)⟩)
  .have hx0:x=(0,0):=by rw [<- hx];simp [i5,bE h6]
   subst hx0
   have hmn:wY i (i5 ns i)=[.str (tyA.extract i (i+1)),dI (-1),.bool false,.nil]:=by rw [hx];simp [wY]
   exact wp (h:=wx hI0 (i+1) ⟨wg,wn,wn,wn,wn,(by simp [go_sem,Y,s9,hmn,tyA,tyU,NodeTy.c,Attr.c,qA,cS,dI]),wn,wj,aD,(by exact rQ _ _)⟩)
 .have hN:i=lG ns:=by unfold lG;omega
  refine wv (h:=tX (Ghosts.step (Ghosts.refl _) 1 0 1 174 7 _ _ (g1_0) rfl rfl rfl) (λk e H=>∃ j:Nat,(e 0=.list (ns.map cP)/\e 1=.list (es.map cP)/\e 4=.ptr 0 1 0 0/\e 5=.ptr 1 1 0 0/\e 10=dI k)/\(H.get 0=some ⟨25,2,[[.nil,.nil]],false⟩)/\(0<H.next)/\(H.get 1=some ⟨25,2,[[.own 2 i,.own j k]],false⟩)/\(1<H.next)/\(H.get 2=some ⟨172,4,tW ns i,false⟩)/\(2<H.next)/\(H.get j=some ⟨174,7,(rS i es k).map EdgeTy.c,false⟩)/\(j<H.next)/\(k<=5)/\(k<=es.length)/\(j≠0)/\(j≠1)/\(j≠2)/\((rS i es k).length=k)) (λk=>5 - k) 0 ⟨H.next,wg,wn,wn,wn,wn,wn,wn,(by simp [go_sem,rS,Y]),wn,wi,wi,aD,aD,aD,(by exact A3 _ _ _)⟩ λI3 hI3 k e H hi3=>?_)
  obtain ⟨j,E3,g0_3,n0_3,g1_3,n1_3,g2_3,n2_3,gj_3,nj_3,hk,hk2,j0,j1,j2,hle⟩:=hi3
  have Y:=wa Y (wa E3 (wa g0_3 (wa (b8 n0_3) (wa g1_3 (wa (b8 n1_3) (wa g2_3 (wa (b8 n2_3) (wa gj_3 (wa (b8 nj_3) (wa hle (wa j0 (wa j1 (wa j2 (wa j0.symm (wa j1.symm j2.symm)))))))))))))))
  refine vJ (λh17=>?_) λh17=>?_
  .obtain ⟨x,hx⟩:=eX (i5 es k)
   have hk5:k<es.length/\k<5:=aD
   have hx0:es[k]'hk5.1=x:=by rw [<- hx];simp [i5,aA hk5.1]
   have hi0:0<i:=by rw [hN];unfold lG;omega
   have hx1:=jW x.1
   have hx2:=jW x.2
   have hszE:(⟨#[101,102,103,104,105]⟩:ByteArray).size=5:=rfl
   have nx:=Lf H.next
   have Y:=wa Y (wa h17 (wa (aA hk5.1) (wa hx0 (wa @cP.eq_1 (wa hszE nx)))))
   exact wp (h:=wx hI3 (k+1) ⟨j,wg,wn,wn,wn,wn,wn,wn,(by simp [go_sem,Y,MK,BZ,hx,tyE,EdgeTy.c,dI]),wn,wj,wj,wj,wj,wj,(by exact A3 _ _ _)⟩)
  .have hK:k=min es.length 5:=aD
   refine wv (h:=?_)
   exact hQ _ _ (by simp [go_sem,Y,jE,<- hN,<- hK,Ry,Gk,Types.d,Types.c])
def cU (x:UInt8):List D:=[.int .u8 (x.toNat:Int)]
@[go_sem] theorem PF (l:List UInt8):D.clLL (l.map cU)=true:=c8 _ (λ_=>rfl) l
def LK (n:Nat)(l:List UInt8)(i:Nat):Nat:=((i:Int)+((l[i]?.getD 0).toNat:Int).tmod ((n:Int) - i)).toNat
def LI (n:Nat)(l:List UInt8)(xs:List Int)(i:Nat):List Int:=JT xs i (LK n l i)
def jD (n:Nat)(l:List UInt8):List Int:=(List.range (min n l.length)).foldl (LI n l) (e9 n)
def lK (n:Nat)(xs:List Int):Prop:=xs.length=n/\(∀ x∈xs,0<=x/\x<n)/\∀ a b,a<b->b<xs.length->xs[a]?≠xs[b]?
theorem uG {xs:List Int}{i j:Nat}(d:i<xs.length)(c:j<xs.length)(k:Nat):(JT xs i j)[k]?=if k=j then xs[i]? else if k=i then xs[j]? else xs[k]?:=by
 unfold JT
 rw [cE,cE]
 by_cases b:j=k
 .subst b;simp [c,aA d]
 .rw [if_neg b,if_neg (Ne.symm b)]
  by_cases a:i=k
  .subst a;simp [d,aA c]
  .rw [if_neg a,if_neg (Ne.symm a)]
theorem IM {n:Nat}{xs:List Int}{i j:Nat}(h:lK n xs)(t:i<n)(s:j<n):lK n (JT xs i j):=by
 obtain ⟨r,m,o⟩:=h
 have e:i<xs.length:=aD
 have d:j<xs.length:=aD
 have c:∀ a b,a≠b->a<xs.length->b<xs.length->xs[a]?≠xs[b]?:=λa b l q g=>by
  rcases bX a b with h|h
  .exact o a b h g
  .exact Ne.symm (o b a aD q)
 refine ⟨by rw [LB,r],λx p=>?_,λa b l g=>?_⟩
 .obtain ⟨k,f⟩:=List.getElem?_of_mem p
  rw [uG e d] at f
  split at f
  .exact m x (aI f)
  .split at f
   .exact m x (aI f)
   .exact m x (aI f)
 .rw [LB] at g
  rw [uG e d,uG e d]
  split
  .split
   .omega
   .split
    .exact c i j aD e d
    .exact c i b aD e g
  .split
   .split
    .exact c j i aD d e
    .split
     .omega
     .exact c j b aD d g
   .split
    .exact c a i aD aD e
    .split
     .exact c a j aD aD d
     .exact c a b aD aD g
theorem yK {n a:Nat}(h:a<n):(e9 n)[a]?=some (a:Int):=by
 simp [e9,aH,dZ h]
theorem Da (n:Nat):lK n (e9 n):=⟨gM n,λx hx=>S2 hx,λa b hab hb=>by
 rw [gM] at hb
 rw [yK aD,yK hb]
 simp;omega⟩
theorem LJ {n:Nat}{l:List UInt8}{i:Nat}(hi:i<n):LK n l i<n:=by
 have:=b7 (show 0<=((l[i]?.getD 0).toNat:Int) by omega) (aD:0<(n:Int) - i)
 unfold LK;omega
theorem CV (n:Nat)(l:List UInt8):∀ k,k<=n->lK n ((List.range k).foldl (LI n l) (e9 n))
 | 0,_=>Da n
 | k+1,h=>by
  rw [bK,jO]
  exact IM (CV n l k aD) aD (LJ aD)
theorem lQ (n:Nat)(l:List UInt8):lK n (jD n l):=CV n l _ aD
theorem pI (n:Nat)(A:n<=100000)(l:List UInt8):Pure Tryz.prog 77 [dI n,.list (l.map cU)] (dLI (jD n l)):=by
 refine Tz.pK ⟨λt=>t==5,λ_=>[]⟩ Tryz.func77 rfl (λQ C=>?_)
 have Y:=@gM
 refine wv (h:=kY (HW n A) wl ?_)
 refine wv (h:=bV (λi e H=>∃ a:List Int,(e 0=dI n/\e 1=.list (l.map cU)/\e 5=.own 0 n/\e 6=dI i)/\(H.get 0=some ⟨3,1,a.map cI,false⟩)/\(0<H.next)/\(i<=n)/\(i<=l.length)/\(lK n a)/\(a=(List.range i).foldl (LI n l) (e9 n))) (λi=>n - i) 0 ⟨(e9 n),wg,(by simp [go_sem]),wn,wi,wi,(by exact Da n),(by rfl)⟩ λI w i e H v=>?_)
 obtain ⟨a,F,o,f,G,B,s,x⟩:=v
 have Y:=wa Y (wa F (wa o (b8 f)))
 refine vJ (λm=>?_) λm=>?_
 .have hx1:=jW l[i]
  have b:=s.1
  have z:=b7 (aD:0<=(l[i].toNat:Int)) (aD:0<(n:Int) - i)
  obtain ⟨j,y⟩:∃ j:Nat,(i:Int)+(l[i].toNat:Int).tmod ((n:Int) - i)=(j:Int):=⟨((i:Int)+(l[i].toNat:Int).tmod ((n:Int) - i)).toNat,(Int.toNat_of_nonneg aD).symm⟩
  have u:j<n:=aD
  have D:LK n l i=j:=by unfold LK;rw [aA m.2,Option.getD_some,y];rfl
  have d:i<a.length:=aD
  have c:j<a.length:=aD
  have r:a[i]?.getD 0=a[i]:=by rw [aA d];rfl
  have q:a[j]?.getD 0=a[j]:=by rw [aA c];rfl
  have g:(n:Int) - i≠0:=aD
  have p:((a.map cI).set i [.int .i64 a[j]])[j]?=some [.int .i64 a[j]]:=by
   rw [cE]
   by_cases k:i=j
   .subst k;simp [d]
   .rw [if_neg k,aH,aA c];rfl
  have Y:=wa Y (wa m (wa p (wa y (wa b (wa (aA m.2) (wa (aA d) (wa (aA c) (wa g @cU.eq_1))))))))
  exact wp (h:=wx w (i+1) ⟨(JT a i j),wg,(by simp [go_sem,Y,JT,dU,r,q]),wn,wj,wj,(by exact IM s m.1 u),(by rw [bK,jO,<- x];simp [LI,D])⟩)
 .have hI:i=min n l.length:=aD
  have b:=s.1
  have E:jD n l=a:=by rw [x,hI];rfl
  exact wv (h:=C _ _ (by simp [go_sem,Y,E,b]))
def C2 (p xs:List Int)(k:Nat):List Int:=(List.range k).foldl (λacc i=>acc.set (p[i]?.getD 0).toNat (xs[i]?.getD 0)) xs
def Kd (p:List Int)(x:Edge):Edge:=⟨x.type,p[x.from_.toNat]?.getD 0,p[x.to_.toNat]?.getD 0⟩
def ED (p q:List Int)(es:List Edge)(k:Nat):List Edge:=(List.range k).foldl (λacc i=>acc.set (q[i]?.getD 0).toNat (Kd p (es[i]?.getD ⟨0,0,0⟩))) es
def qD (g:Graph)(p q:List Int):Graph:=if graphF g=0 then ⟨C2 p g.nodes g.nodes.length,ED p q g.edges g.edges.length⟩ else ⟨[],[]⟩
theorem C1 (p xs:List Int)(k:Nat):C2 p xs (k+1)=(C2 p xs k).set (p[k]?.getD 0).toNat (xs[k]?.getD 0):=by simp [C2,bK]
theorem uN (p xs:List Int):∀ k,(C2 p xs k).length=xs.length
 | 0=>rfl
 | k+1=>by rw [C1,c7,uN p xs k]
theorem C3 (p q:List Int)(es:List Edge)(k:Nat):ED p q es (k+1)=(ED p q es k).set (q[k]?.getD 0).toNat (Kd p (es[k]?.getD ⟨0,0,0⟩)):=by simp [ED,bK]
theorem uO (p q:List Int)(es:List Edge):∀ k,(ED p q es k).length=es.length
 | 0=>rfl
 | k+1=>by rw [C3,c7,uO p q es k]
end Go.Abs
end
