/- The abstraction layer: after a call, the numbers of its new  -/
import Derived.Test.YtjfaalokjnmdoaaGreatZaF
import Derived.Test.YtjfaalokjnmdoaaGreatProg
import Derived.Laws.Externs
import Derived.WalkKit
set_option linter.unusedVariables false
set_option linter.unusedSimpArgs false
section
namespace Go.Abs
theorem RepV.both {M : Nat → Prop} {σ : Nat → Option Ow} {N : Nat → Prop} {w : World} {M' : Nat → Prop} {σ' : Nat → Option Ow} {N' : Nat → Prop} {w' : World} {v : Value} {d : D} (h : RepV M σ N w v d) :
    ∀ v', RepV M' σ' N' w' v' d → RepV M σ (fun i => N i ∧ N' i) w v d := by
  induction h with
  | int => exact fun _ _ => .int _ _
  | bool => exact fun _ _ => .bool _
  | str => exact fun _ _ => .str _
  | agg vs ds hl h1 hr ih =>
    intro v' h'
    cases h' with
    | agg vs' _ hl' h1' hr' =>
      exact .agg vs ds hl h1 fun j u x hu hx => by
        have hj : j < vs'.length := by rw [hl']; exact (aL.1 hx).1
        exact ih j u x hu hx vs'[j] (hr' j _ x (aA hj) hx)
  | tup vs ds hl hr ih =>
    intro v' h'
    cases h' with
    | tup vs' _ hl' hr' =>
      exact .tup vs ds hl fun j u x hu hx => by
        have hj : j < vs'.length := by rw [hl']; exact (aL.1 hx).1
        exact ih j u x hu hx vs'[j] (hr' j _ x (aA hj) hx)
  | nil => exact fun _ _ => .nil
  | listN => exact fun _ _ => .listN
  | list ad cap sz xs es hc hm hsz hl h1 hcell hr ih =>
    intro v' h'
    cases h' with
    | listN => exact .list ad cap sz xs [] hc hm hsz hl h1 hcell fun j u x hu hx => by simp at hx
    | list ad' cap' sz' xs' _ hc' hm' hsz' hl' h1' hcell' hr' =>
      exact .list ad cap sz xs es hc hm hsz hl h1 hcell fun j u x hu hx => by
        have hj : j < xs'.length := by rw [hl']; exact (aL.1 hx).1
        exact ih j u x hu hx xs'[j] (hr' j _ x (aA hj) hx)
  | adr ad xs ds hl h1 hcell hr ih =>
    intro v' h'
    cases h' with
    | adr ad' xs' _ hl' h1' hcell' hr' =>
      exact .adr ad xs ds hl h1 hcell fun j u x hu hx => by
        have hj : j < xs'.length := by rw [hl']; exact (aL.1 hx).1
        exact ih j u x hu hx xs'[j] (hr' j _ x (aA hj) hx)
  | ne ad cap hm => exact fun _ _ => .ne ad cap hm
  | nilp => exact fun _ _ => .nilp
  | ptr v id ver i off hN h1 h =>
    intro v' h'
    cases h' with
    | ptr _ _ _ _ _ hN' _ _ => exact .ptr v id ver i off ⟨hN, hN'⟩ h1 h
  | own v id n hN h1 h =>
    intro v' h'
    cases h' with
    | own _ _ _ hN' _ _ => exact .own v id n ⟨hN, hN'⟩ h1 h
  | win v id ver lo hi hN h1 hlh h =>
    intro v' h'
    cases h' with
    | win _ _ _ _ _ hN' _ _ _ => exact .win v id ver lo hi ⟨hN, hN'⟩ h1 hlh h
  | fn f vs ds hl hr ih =>
    intro v' h'
    cases h' with
    | fn _ vs' _ hl' hr' =>
      exact .fn f vs ds hl fun j u x hu hx => by
        have hj : j < vs'.length := by rw [hl']; exact (aL.1 hx).1
        exact ih j u x hu hx vs'[j] (hr' j _ x (aA hj) hx)
  | nilf => exact fun _ _ => .nilf
  | opt v g d hf h ih =>
    intro v' h'
    cases h' with
    | opt _ _ _ hf' h'' => exact .opt v g d hf fun hg => ih hg v' (h'' hg)
  | cst v => exact fun _ _ => .cst v
  | junk v => exact fun _ _ => .junk v
def xZ (τ:Nat→Nat):D→D
 | .own id n=>.own (τ id) n
 | d=>d
def Ru (A:Nat→Prop):D→Prop
 | .own id _=>A id
 | d=>d.cl=true
def NG (τ:Nat→Nat):D→D
 | .agg cs=>.agg (cs.map (xZ τ))
 | d=>xZ τ d
def TR (A:Nat→Prop):D→Prop
 | .agg cs=>∀ c∈cs,Ru A c
 | d=>Ru A d
theorem RepV.unren {M M':Nat→Prop}{σ1 σE:Nat→Option Ow}{N1 A:Nat→Prop}{w:World}{τ:Nat→Nat}{v:Value}{d:D}(h:RepV M σ1 N1 w v (xZ τ d))(ho:Ru A d)(hs:∀ j,A j→σE j=σ1 (τ j))(hM:∀ b,¬ M b→¬ M' b):RepV M' σE A w v d:=by
 by_cases hd:∃ id n,d=.own id n
 ·obtain ⟨id,n,rfl⟩:=hd
  cases h with
  | own _ _ _ hN h1 h=>exact .own v id n ho h1 fun o he=>h o (by rw [← hs id ho];exact he)
 ·have e:xZ τ d=d:=by cases d<;>first|rfl|exact absurd ⟨_,_,rfl⟩ hd
  have hc:d.cl=true:=by cases d<;>first|exact ho|exact absurd ⟨_,_,rfl⟩ hd
  rw [e] at h
  exact h.closed (fun ad u hm hu=>⟨hM _ hm,hu⟩) hc
theorem RepV.unrenC {M M' : Nat → Prop} {σ1 σE : Nat → Option Ow} {N1 A : Nat → Prop} {w : World} {τ : Nat → Nat} {v : Value} {d : D} (h : RepV M σ1 N1 w v (NG τ d)) (ho : TR A d) (hs : ∀ j, A j → σE j = σ1 (τ j)) (hM : ∀ b, ¬ M b → ¬ M' b) : RepV M' σE A w v d := by
  by_cases hd : ∃ cs, d = .agg cs
  · obtain ⟨cs, rfl⟩ := hd
    cases h with
    | agg vs _ hl h1 hr =>
      exact .agg vs cs (by simpa using hl) h1 fun j u x hu hx => (hr j u (xZ τ x) hu (by rw [aQ, hx]; rfl)).unren (ho x (aH hx)) hs hM
  · have e : NG τ d = xZ τ d := by cases d <;> first | rfl | exact absurd ⟨_, rfl⟩ hd
    have e2 : TR A d = Ru A d := by cases d <;> first | rfl | exact absurd ⟨_, rfl⟩ hd
    rw [e] at h; rw [e2] at ho
    exact h.unren ho hs hM
structure Exact (H H1 E:AHeap) (τ:Nat→Nat):Prop where
 nx:∀ j,E.al j→j<E.next
 inj:∀ i j,E.al i→E.al j→τ i=τ j→i=j
 old:∀ j,H.al j→E.al j∧τ j=j
 non:∀ j,¬ E.al j→E.get j=none
 blk:∀ j k,E.get j=some k→(H.al j∧H.get j=some k∧H1.get j=some k) ∨
  (∃ k0,H1.get (τ j)=some k0∧k0.ty=k.ty∧k0.sz=k.sz∧k0.fz=k.fz∧k0.es=k.es.map (·.map (xZ τ))∧∀ c∈k.es,∀ y∈c,Ru E.al y)
theorem ACalls.exact {P:Program}{f:FuncId}{args:List D}{H E:AHeap}{r:D}{Q:D→AHeap→Prop}(h:ACalls P f args H Q)
  (hQ:(∀ j,H.al j→j<H.next)→(∀ j,¬ H.al j→H.get j=none)→∀ d H1,Q d H1→∃ τ,Exact H H1 E τ∧d=NG τ r∧TR E.al r):ACalls P f args H fun d H1=>d=r∧H1=E :=
 ⟨h.1,fun M0 σ w vals hR ha=>(h.2 M0 σ w vals hR ha).mono fun e w' ⟨v,d,H1,σ1,he,hR1,hv,hst,hk,hq⟩=>by
  obtain ⟨τ,X,rfl,hok⟩:=hQ hR.nxt (fun j hj=>(hR.top j hj).2) d H1 hq
  classical
  obtain ⟨σE,hσ⟩:∃ σE:Nat→Option Ow,∀ j,σE j=if E.al j then σ1 (τ j) else none:=⟨fun j=>if E.al j then σ1 (τ j) else none,fun _=>rfl⟩
  have hs:∀ j,E.al j→σE j=σ1 (τ j):=fun j hj=>by rw [hσ,if_pos hj]
  have hsn:∀ j,¬ E.al j→σE j=none:=fun j hj=>by rw [hσ,if_neg hj]
  have hal:∀ j o,σE j=some o→E.al j:=fun j o ho=>bD fun hn=>by rw [hsn j hn] at ho;cases ho
  have halg:∀ j k,E.get j=some k→E.al j:=fun j k ho=>bD fun hn=>by rw [X.non j hn] at ho;cases ho
  have hmut:∀ b,¬ cE M0 H1 σ1 b→¬ cE M0 E σE b:=by
   rintro b hm (h0|⟨j,k,o,hk',hf,ho,hb⟩)
   ·exact hm (.inl h0)
   ·rw [hs j (halg j k hk')] at ho
    rcases X.blk j k hk' with ⟨h1,h2,h3⟩|⟨k0,h1,h2,h3,h4,_⟩
    ·rw [(X.old j h1).2] at ho
     exact hm (.inr ⟨j,k,o,h3,hf,ho,hb⟩)
    ·exact hm (.inr ⟨τ j,k0,o,h1,h4.trans hf,ho,hb⟩)
  have hkE:Keeps (cE M0 H σ) σ H.al w (cE M0 E σE) σE E.al w':=by
   refine ⟨fun ad u hm hu=>?_,fun id o' hid ho'=>?_,fun id hid=>(X.old id hid).1⟩
   ·obtain ⟨a1,a2⟩:=hk.cell ad u hm hu;exact ⟨hmut _ a1,a2⟩
   ·rw [hs id (X.old id hid).1,(X.old id hid).2] at ho';exact hk.own id o' hid ho'
  have hkS:Keeps (cE M0 H1 σ1) σ1 (fun i=>H1.al i∧H.al i) w' (cE M0 E σE) σE E.al w':=by
   refine ⟨fun ad u hm hu=>⟨hmut _ hm,hu⟩,fun id o' hid ho'=>?_,fun id hid=>(X.old id hid.2).1⟩
   rw [hs id (X.old id hid.2).1,(X.old id hid.2).2] at ho';exact ⟨o',ho',.inl rfl⟩
  have hRE:Rel M0 E σE w':=by
   refine ⟨fun j hj=>⟨hsn j hj,X.non j hj⟩,X.nx,fun j k hk'=>?_,fun i j o o' b hi hj hb hb'=>?_,fun i o b hi hb=>?_,hR1.m0⟩
   ·have hj:=halg j k hk'
    rcases X.blk j k hk' with ⟨h1,h2,h3⟩|⟨k0,h1,h2,h3,h4,h5,h6⟩
    ·obtain ⟨o,ho,l⟩:=hR1.lies j k h3
     obtain ⟨o0,ho0,l0⟩:=hR.lies j k h2
     obtain ⟨xs,a1,a2,a3⟩:=l.row
     obtain ⟨ys,b1,b2,b3⟩:=l0.row
     refine ⟨o,by rw [hs j hj,(X.old j h1).2];exact ho,l.ver,l.ty,l.sz,l.esz,xs,a1,a2,a3.len,fun q u d hu hd=>?_⟩
     have hq':q<ys.length:=by rw [b3.len];exact (aL.1 hd).1
     exact ((a3.rep q u d hu hd).both _ (b3.rep q ys[q] d (aA hq') hd)).keep hkS
    ·obtain ⟨o,ho,l⟩:=hR1.lies (τ j) k0 h1
     obtain ⟨xs,a1,a2,a3⟩:=l.row
     have hlen:k0.es.length=k.es.length:=by rw [h5,bW]
     have hfl:k0.es.flatten=k.es.flatten.map (xZ τ):=by rw [h5];exact List.map_flatten.symm
     refine ⟨o,by rw [hs j hj];exact ho,by rw [l.ver,hlen],by rw [l.ty,h2],by rw [l.sz,h3],fun c hc=>?_,xs,by rw [← h2,← hlen];exact a1,a2,by rw [a3.len,hfl,bW],fun q u d hu hd=>?_⟩
     ·have:=l.esz (c.map (xZ τ)) (by rw [h5];exact l6 hc)
      rwa [bW] at this
     ·have hd2:k0.es.flatten[q]?=some (xZ τ d):=by rw [hfl,aQ,hd];rfl
      obtain ⟨c,hc,hdc⟩:=gZ.1 (aH hd)
      exact (a3.rep q u _ hu hd2).unren (h6 c hc d hdc) hs hmut
   ·have hi':=hal i o hi
    have hj':=hal j o' hj
    rw [hs i hi'] at hi;rw [hs j hj'] at hj
    exact X.inj i j hi' hj' (hR1.inj _ _ o o' b hi hj hb hb')
   ·rw [hs i (hal i o hi)] at hi
    exact hR1.lt (τ i) o b hi hb
  refine ⟨v,r,E,σE,he,hRE,hv.unrenC hok hs hmut,⟨hst.os,hst.tape,hst.output,hst.size,hst.old,fun i o' b ho hb=>?_⟩,hkE,rfl,rfl⟩
  rw [hs i (hal i o' ho)] at ho
  exact hst.new (τ i) o' b ho hb⟩
end Go.Abs
end
section
set_option maxRecDepth 100000
open Go Go.Proofs Go.Abs
namespace Go.Abs.Tz
@[go_sem] theorem Wn:sl Tryz.prog 22=some ⟨180,2,2,[.int .u8 (0),.int .u8 (0)]⟩:=rfl
@[go_sem] theorem Wm:sl Tryz.prog 23=some ⟨84,15,208,[.nil,.nil,.nil,.nil,.int .u64 (0),.nil,.nil,.nil,.bool false,.bool false,.int .u8 (0),.int .u8 (0),.int .u8 (0),.int .u8 (0),.nil]⟩:=rfl
@[go_sem] theorem Wl:sl Tryz.prog 24=some ⟨192,3,3,[.int .u8 (0),.int .u8 (0),.int .u8 (0)]⟩:=rfl
@[go_sem] theorem Wk:sl Tryz.prog 29=some ⟨183,4,56,[.str ⟨#[]⟩,.int .i64 (0),.bool false,.nil]⟩:=rfl
@[go_sem] theorem Wj:sl Tryz.prog 30=some ⟨188,7,64,[.str ⟨#[]⟩,.int .i64 (0),.int .i64 (0),.int .i64 (0),.int .i64 (0),.int .i64 (0),.int .i64 (0)]⟩:=rfl
@[go_sem] theorem Wi:sl Tryz.prog 33=some ⟨61,25,512,[.str ⟨#[]⟩,.nil,.nil,.nil,.int .i64 (0),.nil,.nil,.nil,.nil,.int .i64 (0),.nil,.nil,.nil,.nil,.nil,.bool false,.int .i64 (0),.nil,.nil,.nil,.nil,.nil,.nil,.int .i64 (0),.nil]⟩:=rfl
@[go_sem] theorem Wg:sl Tryz.prog 34=some ⟨3,1,8,[.int .i64 (0)]⟩:=rfl
@[go_sem] theorem Wf:sl Tryz.prog 35=some ⟨101,3,24,[.int .i64 (0),.int .i64 (0),.int .i64 (0)]⟩:=rfl
@[go_sem] theorem We:sl Tryz.prog 38=some ⟨34,1,24,[.nil]⟩:=rfl
@[go_sem] theorem Wd:sl Tryz.prog 44=some ⟨130,2,48,[.nil,.nil]⟩:=rfl
@[go_sem] theorem Wc:sl Tryz.prog 50=some ⟨99,4,32,[.int .i64 (0),.int .i64 (0),.int .i64 (0),.int .i64 (0)]⟩:=rfl
@[go_sem] theorem Wb:sl Tryz.prog 51=some ⟨292,5,40,[.int .i64 (0),.int .i64 (0),.int .i64 (0),.int .i64 (0),.int .i64 (0)]⟩:=rfl
@[go_sem] theorem Wa:sl Tryz.prog 57=some ⟨59,9,184,[.int .i64 (0),.nil,.nil,.nil,.nil,.nil,.nil,.int .i64 (0),.nil]⟩:=rfl
@[go_sem] theorem V9:sl Tryz.prog 62=some ⟨67,38,824,[.str ⟨#[]⟩,.nil,.nil,.nil,.int .i64 (0),.nil,.nil,.nil,.nil,.int .i64 (0),.nil,.nil,.nil,.nil,.nil,.bool false,.int .i64 (0),.nil,.nil,.nil,.nil,.nil,.nil,.int .i64 (0),.nil,.nil,.nil,.nil,.nil,.nil,.nil,.nil,.nil,.nil,.nil,.nil,.nil,.nil]⟩:=rfl
@[go_sem] theorem V8:sl Tryz.prog 71=some ⟨65,3,72,[.nil,.nil,.nil]⟩:=rfl
@[go_sem] theorem V7:sl Tryz.prog 75=some ⟨5,1,1,[.int .u8 (0)]⟩:=rfl
@[go_sem] theorem V6:sl Tryz.prog 78=some ⟨322,4,4,[.int .i8 (0),.int .i8 (0),.int .i8 (0),.int .i8 (0)]⟩:=rfl
@[go_sem] theorem VB:Hb Tryz.prog 97=some 2:=by kernel_rfl
@[go_sem] theorem Ua:Hb Tryz.prog 101=some 3:=by kernel_rfl
@[go_sem] theorem VZ:sl Tryz.prog 135=some ⟨210,4,32,[.int .i64 (0),.int .i64 (0),.int .i64 (0),.int .i64 (0)]⟩:=rfl
@[go_sem] theorem VY:sl Tryz.prog 157=some ⟨4,1,1,[.bool false]⟩:=rfl
@[go_sem] theorem VX:sl Tryz.prog 181=some ⟨186,4,56,[.str ⟨#[]⟩,.int .i64 (0),.int .i64 (0),.nil]⟩:=rfl
@[go_sem] theorem VW:sl Tryz.prog 184=some ⟨9,1,16,[.str ⟨#[]⟩]⟩:=rfl
@[go_sem] theorem T9:Hb Tryz.prog 210=some 4:=by kernel_rfl
@[go_sem] theorem VV:sl Tryz.prog 219=some ⟨56,2,48,[.nil,.nil]⟩:=rfl
@[go_sem] theorem VU:sl Tryz.prog 299=some ⟨395,2,16,[.int .i64 (0),.int .i64 (0)]⟩:=rfl
@[go_sem] theorem VT:sl Tryz.prog 304=some ⟨306,5,104,[.int .i64 (0),.nil,.nil,.nil,.nil]⟩:=rfl
@[go_sem] theorem T8:Hb Tryz.prog 315=some 2:=by kernel_rfl
@[go_sem] theorem VS:sl Tryz.prog 318=some ⟨319,2,16,[.int .i64 (0),.int .i64 (0)]⟩:=rfl
@[go_sem] theorem VR:sl Tryz.prog 367=some ⟨37,2,48,[.nil,.nil]⟩:=rfl
@[go_sem] theorem VQ:sl Tryz.prog 373=some ⟨157,1,24,[.nil]⟩:=rfl
@[go_sem] theorem T7:Hb Tryz.prog 395=some 2:=by kernel_rfl
@[go_sem] theorem V5:tk Tryz.prog 3=.one∧zd Tryz.prog 3=some [.int .i64 (0)]∧yE Tryz.prog 3=some .i64∧(Tryz.prog.info? 3).isSome=true∧Tryz.prog.cellsOf 3=1∧tk Tryz.prog 4=.one∧zd Tryz.prog 4=some [.bool false]∧(Tryz.prog.info? 4).isSome=true∧Tryz.prog.cellsOf 4=1∧tk Tryz.prog 5=.one∧zd Tryz.prog 5=some [.int .u8 (0)]∧yE Tryz.prog 5=some .u8∧(Tryz.prog.info? 5).isSome=true∧Tryz.prog.cellsOf 5=1∧tk Tryz.prog 9=.one∧zd Tryz.prog 9=some [.str ⟨#[]⟩]∧(Tryz.prog.info? 9).isSome=true∧Tryz.prog.cellsOf 9=1∧tk Tryz.prog 22=.one∧zd Tryz.prog 22=some [.nil]∧(Tryz.prog.info? 22).isSome=true∧Tryz.prog.cellsOf 22=1∧tk Tryz.prog 23=.one∧zd Tryz.prog 23=some [.nil]:=⟨rfl,rfl,rfl,rfl,rfl,rfl,rfl,rfl,rfl,rfl,rfl,rfl,rfl,rfl,rfl,rfl,rfl,rfl,rfl,rfl,rfl,rfl,rfl,rfl⟩
@[go_sem] theorem VP:(Tryz.prog.info? 23).isSome=true∧Tryz.prog.cellsOf 23=1∧tk Tryz.prog 24=.one∧zd Tryz.prog 24=some [.nil]∧(Tryz.prog.info? 24).isSome=true∧Tryz.prog.cellsOf 24=1∧tk Tryz.prog 26=.agg 2∧zd Tryz.prog 26=some [.nil,.nil]∧bk Tryz.prog 26=some (.st [(0,1),(1,1)])∧(Tryz.prog.info? 26).isSome=true∧Tryz.prog.cellsOf 26=2∧tk Tryz.prog 28=.agg 5∧zd Tryz.prog 28=some [.nil,.nil,.nil,.nil,.nil]∧bk Tryz.prog 28=some (.st [(0,1),(1,1),(2,1),(3,2)])∧(Tryz.prog.info? 28).isSome=true∧Tryz.prog.cellsOf 28=5∧tk Tryz.prog 29=.one∧zd Tryz.prog 29=some [.nil]∧(Tryz.prog.info? 29).isSome=true∧Tryz.prog.cellsOf 29=1∧tk Tryz.prog 30=.one∧zd Tryz.prog 30=some [.nil]∧(Tryz.prog.info? 30).isSome=true∧Tryz.prog.cellsOf 30=1:=⟨rfl,rfl,rfl,rfl,rfl,rfl,rfl,rfl,rfl,rfl,rfl,rfl,rfl,rfl,rfl,rfl,rfl,rfl,rfl,rfl,rfl,rfl,rfl,rfl⟩
@[go_sem] theorem VO:tk Tryz.prog 32=.agg 2∧zd Tryz.prog 32=some [.nil,.nil]∧bk Tryz.prog 32=some (.st [(0,1),(1,1)])∧(Tryz.prog.info? 32).isSome=true∧Tryz.prog.cellsOf 32=2∧tk Tryz.prog 33=.one∧zd Tryz.prog 33=some [.nil]∧(Tryz.prog.info? 33).isSome=true∧Tryz.prog.cellsOf 33=1∧tk Tryz.prog 34=.one∧zd Tryz.prog 34=some [.nil]∧(Tryz.prog.info? 34).isSome=true∧Tryz.prog.cellsOf 34=1∧tk Tryz.prog 35=.one∧zd Tryz.prog 35=some [.nil]∧(Tryz.prog.info? 35).isSome=true∧Tryz.prog.cellsOf 35=1∧tk Tryz.prog 37=.agg 2∧zd Tryz.prog 37=some [.nil,.nil]∧bk Tryz.prog 37=some (.st [(0,1),(1,1)])∧(Tryz.prog.info? 37).isSome=true∧Tryz.prog.cellsOf 37=2∧tk Tryz.prog 38=.one∧zd Tryz.prog 38=some [.nil]:=⟨rfl,rfl,rfl,rfl,rfl,rfl,rfl,rfl,rfl,rfl,rfl,rfl,rfl,rfl,rfl,rfl,rfl,rfl,rfl,rfl,rfl,rfl,rfl,rfl⟩
@[go_sem] theorem VN:(Tryz.prog.info? 38).isSome=true∧Tryz.prog.cellsOf 38=1∧tk Tryz.prog 40=.agg 3∧zd Tryz.prog 40=some [.nil,.nil,.nil]∧bk Tryz.prog 40=some (.st [(0,2),(2,1)])∧(Tryz.prog.info? 40).isSome=true∧Tryz.prog.cellsOf 40=3∧tk Tryz.prog 41=.one∧(Tryz.prog.info? 41).isSome=true∧Tryz.prog.cellsOf 41=1∧tk Tryz.prog 44=.one∧zd Tryz.prog 44=some [.nil]∧(Tryz.prog.info? 44).isSome=true∧Tryz.prog.cellsOf 44=1∧tk Tryz.prog 45=.one∧zd Tryz.prog 45=some [.int .i64 (0)]∧yE Tryz.prog 45=some .i64∧(Tryz.prog.info? 45).isSome=true∧Tryz.prog.cellsOf 45=1∧tk Tryz.prog 46=.one∧(Tryz.prog.info? 46).isSome=true∧Tryz.prog.cellsOf 46=1∧tk Tryz.prog 48=.one∧(Tryz.prog.info? 48).isSome=true:=⟨rfl,rfl,rfl,rfl,rfl,rfl,rfl,rfl,rfl,rfl,rfl,rfl,rfl,rfl,rfl,rfl,rfl,rfl,rfl,rfl,rfl,rfl,rfl,rfl⟩
@[go_sem] theorem VM:Tryz.prog.cellsOf 48=1∧tk Tryz.prog 50=.one∧zd Tryz.prog 50=some [.nil]∧(Tryz.prog.info? 50).isSome=true∧Tryz.prog.cellsOf 50=1∧tk Tryz.prog 51=.one∧zd Tryz.prog 51=some [.nil]∧(Tryz.prog.info? 51).isSome=true∧Tryz.prog.cellsOf 51=1∧tk Tryz.prog 53=.agg 5∧zd Tryz.prog 53=some [.nil,.nil,.nil,.int .i64 (0),.nil]∧bk Tryz.prog 53=some (.st [(0,2),(2,1),(3,1),(4,1)])∧(Tryz.prog.info? 53).isSome=true∧Tryz.prog.cellsOf 53=5∧tk Tryz.prog 55=.agg 2∧zd Tryz.prog 55=some [.nil,.nil]∧bk Tryz.prog 55=some (.st [(0,1),(1,1)])∧(Tryz.prog.info? 55).isSome=true∧Tryz.prog.cellsOf 55=2∧tk Tryz.prog 56=.agg 2∧zd Tryz.prog 56=some [.nil,.nil]∧bk Tryz.prog 56=some (.st [(0,1),(1,1)])∧(Tryz.prog.info? 56).isSome=true∧Tryz.prog.cellsOf 56=2:=⟨rfl,rfl,rfl,rfl,rfl,rfl,rfl,rfl,rfl,rfl,rfl,rfl,rfl,rfl,rfl,rfl,rfl,rfl,rfl,rfl,rfl,rfl,rfl,rfl⟩
@[go_sem] theorem U9:tk Tryz.prog 57=.one∧zd Tryz.prog 57=some [.nil]∧(Tryz.prog.info? 57).isSome=true∧Tryz.prog.cellsOf 57=1∧tk Tryz.prog 59=.agg 9∧zd Tryz.prog 59=some [.int .i64 (0),.nil,.nil,.nil,.nil,.nil,.nil,.int .i64 (0),.nil]∧bk Tryz.prog 59=some (.st [(0,1),(1,1),(2,2),(4,5)])∧(Tryz.prog.info? 59).isSome=true∧Tryz.prog.cellsOf 59=9∧tk Tryz.prog 61=.agg 25∧zd Tryz.prog 61=some [.str ⟨#[]⟩,.nil,.nil,.nil,.int .i64 (0),.nil,.nil,.nil,.nil,.int .i64 (0),.nil,.nil,.nil,.nil,.nil,.bool false,.int .i64 (0),.nil,.nil,.nil,.nil,.nil,.nil,.int .i64 (0),.nil]∧bk Tryz.prog 61=some (.st [(0,1),(1,5),(6,5),(11,2),(13,2),(15,1),(16,9)])∧(Tryz.prog.info? 61).isSome=true∧Tryz.prog.cellsOf 61=25∧tk Tryz.prog 62=.one∧zd Tryz.prog 62=some [.nil]∧(Tryz.prog.info? 62).isSome=true∧Tryz.prog.cellsOf 62=1∧tk Tryz.prog 65=.agg 3∧zd Tryz.prog 65=some [.nil,.nil,.nil]∧bk Tryz.prog 65=some (.st [(0,2),(2,1)])∧(Tryz.prog.info? 65).isSome=true∧Tryz.prog.cellsOf 65=3∧tk Tryz.prog 67=.agg 38:=⟨rfl,rfl,rfl,rfl,rfl,rfl,rfl,rfl,rfl,rfl,rfl,rfl,rfl,rfl,rfl,rfl,rfl,rfl,rfl,rfl,rfl,rfl,rfl,rfl⟩
@[go_sem] theorem U8:zd Tryz.prog 67=some [.str ⟨#[]⟩,.nil,.nil,.nil,.int .i64 (0),.nil,.nil,.nil,.nil,.int .i64 (0),.nil,.nil,.nil,.nil,.nil,.bool false,.int .i64 (0),.nil,.nil,.nil,.nil,.nil,.nil,.int .i64 (0),.nil,.nil,.nil,.nil,.nil,.nil,.nil,.nil,.nil,.nil,.nil,.nil,.nil,.nil]∧bk Tryz.prog 67=some (.st [(0,25),(25,3),(28,3),(31,3),(34,2),(36,2)])∧(Tryz.prog.info? 67).isSome=true∧Tryz.prog.cellsOf 67=38∧tk Tryz.prog 71=.one∧zd Tryz.prog 71=some [.nil]∧(Tryz.prog.info? 71).isSome=true∧Tryz.prog.cellsOf 71=1∧tk Tryz.prog 72=.one∧(Tryz.prog.info? 72).isSome=true∧Tryz.prog.cellsOf 72=1∧tk Tryz.prog 75=.one∧zd Tryz.prog 75=some [.nil]∧(Tryz.prog.info? 75).isSome=true∧Tryz.prog.cellsOf 75=1∧tk Tryz.prog 77=.agg 2∧zd Tryz.prog 77=some [.nil,.nil]∧bk Tryz.prog 77=some (.st [(0,1),(1,1)])∧(Tryz.prog.info? 77).isSome=true∧Tryz.prog.cellsOf 77=2∧tk Tryz.prog 78=.one∧zd Tryz.prog 78=some [.nil]∧(Tryz.prog.info? 78).isSome=true∧Tryz.prog.cellsOf 78=1:=⟨rfl,rfl,rfl,rfl,rfl,rfl,rfl,rfl,rfl,rfl,rfl,rfl,rfl,rfl,rfl,rfl,rfl,rfl,rfl,rfl,rfl,rfl,rfl,rfl⟩
@[go_sem] theorem U7:tk Tryz.prog 80=.agg 4∧zd Tryz.prog 80=some [.nil,.nil,.nil,.nil]∧bk Tryz.prog 80=some (.st [(0,2),(2,1),(3,1)])∧(Tryz.prog.info? 80).isSome=true∧Tryz.prog.cellsOf 80=4∧tk Tryz.prog 81=.one∧zd Tryz.prog 81=some [.int .u64 (0)]∧yE Tryz.prog 81=some .u64∧(Tryz.prog.info? 81).isSome=true∧Tryz.prog.cellsOf 81=1∧tk Tryz.prog 82=.agg 4∧zd Tryz.prog 82=some [.int .u8 (0),.int .u8 (0),.int .u8 (0),.int .u8 (0)]∧bk Tryz.prog 82=some (.ar 1)∧Ln Tryz.prog 82=some (4,1)∧(Tryz.prog.info? 82).isSome=true∧Tryz.prog.cellsOf 82=4∧tk Tryz.prog 84=.agg 15∧zd Tryz.prog 84=some [.nil,.nil,.nil,.nil,.int .u64 (0),.nil,.nil,.nil,.bool false,.bool false,.int .u8 (0),.int .u8 (0),.int .u8 (0),.int .u8 (0),.nil]∧bk Tryz.prog 84=some (.st [(0,4),(4,1),(5,1),(6,1),(7,1),(8,1),(9,1),(10,4),(14,1)])∧(Tryz.prog.info? 84).isSome=true∧Tryz.prog.cellsOf 84=15∧tk Tryz.prog 86=.agg 19∧zd Tryz.prog 86=some [.nil,.nil,.nil,.nil,.nil,.nil,.int .u64 (0),.nil,.nil,.nil,.bool false,.bool false,.int .u8 (0),.int .u8 (0),.int .u8 (0),.int .u8 (0),.nil,.nil,.nil]∧bk Tryz.prog 86=some (.st [(0,1),(1,1),(2,15),(17,2)]):=⟨rfl,rfl,rfl,rfl,rfl,rfl,rfl,rfl,rfl,rfl,rfl,rfl,rfl,rfl,rfl,rfl,rfl,rfl,rfl,rfl,rfl,rfl,rfl,rfl⟩
@[go_sem] theorem U6:(Tryz.prog.info? 86).isSome=true∧Tryz.prog.cellsOf 86=19∧tk Tryz.prog 87=.one∧(Tryz.prog.info? 87).isSome=true∧Tryz.prog.cellsOf 87=1∧tk Tryz.prog 89=.one∧(Tryz.prog.info? 89).isSome=true∧Tryz.prog.cellsOf 89=1∧tk Tryz.prog 93=.one∧(Tryz.prog.info? 93).isSome=true∧Tryz.prog.cellsOf 93=1∧tk Tryz.prog 97=.agg 2∧zd Tryz.prog 97=some [.int .i64 (0),.int .i64 (0)]∧bk Tryz.prog 97=some (.st [(0,1),(1,1)])∧(Tryz.prog.info? 97).isSome=true∧Tryz.prog.cellsOf 97=2∧tk Tryz.prog 99=.agg 4∧zd Tryz.prog 99=some [.int .i64 (0),.int .i64 (0),.int .i64 (0),.int .i64 (0)]∧bk Tryz.prog 99=some (.st [(0,1),(1,1),(2,2)])∧(Tryz.prog.info? 99).isSome=true∧Tryz.prog.cellsOf 99=4∧tk Tryz.prog 101=.agg 3∧zd Tryz.prog 101=some [.int .i64 (0),.int .i64 (0),.int .i64 (0)]∧bk Tryz.prog 101=some (.st [(0,1),(1,1),(2,1)]):=⟨rfl,rfl,rfl,rfl,rfl,rfl,rfl,rfl,rfl,rfl,rfl,rfl,rfl,rfl,rfl,rfl,rfl,rfl,rfl,rfl,rfl,rfl,rfl,rfl⟩
@[go_sem] theorem U5:(Tryz.prog.info? 101).isSome=true∧Tryz.prog.cellsOf 101=3∧tk Tryz.prog 108=.agg 6∧zd Tryz.prog 108=some [.nil,.nil,.nil,.nil,.nil,.nil]∧bk Tryz.prog 108=some (.st [(0,3),(3,3)])∧(Tryz.prog.info? 108).isSome=true∧Tryz.prog.cellsOf 108=6∧tk Tryz.prog 114=.one∧(Tryz.prog.info? 114).isSome=true∧Tryz.prog.cellsOf 114=1∧tk Tryz.prog 117=.one∧(Tryz.prog.info? 117).isSome=true∧Tryz.prog.cellsOf 117=1∧tk Tryz.prog 125=.one∧zd Tryz.prog 125=some [.nilf]∧(Tryz.prog.info? 125).isSome=true∧Tryz.prog.cellsOf 125=1∧tk Tryz.prog 130=.agg 2∧zd Tryz.prog 130=some [.nil,.nil]∧bk Tryz.prog 130=some (.st [(0,1),(1,1)])∧(Tryz.prog.info? 130).isSome=true∧Tryz.prog.cellsOf 130=2∧tk Tryz.prog 131=.one∧zd Tryz.prog 131=some [.nilf]:=⟨rfl,rfl,rfl,rfl,rfl,rfl,rfl,rfl,rfl,rfl,rfl,rfl,rfl,rfl,rfl,rfl,rfl,rfl,rfl,rfl,rfl,rfl,rfl,rfl⟩
@[go_sem] theorem U4:(Tryz.prog.info? 131).isSome=true∧Tryz.prog.cellsOf 131=1∧tk Tryz.prog 133=.one∧(Tryz.prog.info? 133).isSome=true∧Tryz.prog.cellsOf 133=1∧tk Tryz.prog 135=.one∧zd Tryz.prog 135=some [.nil]∧(Tryz.prog.info? 135).isSome=true∧Tryz.prog.cellsOf 135=1∧tk Tryz.prog 137=.agg 2∧zd Tryz.prog 137=some [.nil,.nil]∧bk Tryz.prog 137=some (.st [(0,1),(1,1)])∧(Tryz.prog.info? 137).isSome=true∧Tryz.prog.cellsOf 137=2∧tk Tryz.prog 138=.one∧(Tryz.prog.info? 138).isSome=true∧Tryz.prog.cellsOf 138=1∧tk Tryz.prog 150=.one∧zd Tryz.prog 150=some [.nilf]∧(Tryz.prog.info? 150).isSome=true∧Tryz.prog.cellsOf 150=1∧tk Tryz.prog 151=.one∧(Tryz.prog.info? 151).isSome=true∧Tryz.prog.cellsOf 151=1:=⟨rfl,rfl,rfl,rfl,rfl,rfl,rfl,rfl,rfl,rfl,rfl,rfl,rfl,rfl,rfl,rfl,rfl,rfl,rfl,rfl,rfl,rfl,rfl,rfl⟩
@[go_sem] theorem U3:tk Tryz.prog 157=.one∧zd Tryz.prog 157=some [.nil]∧(Tryz.prog.info? 157).isSome=true∧Tryz.prog.cellsOf 157=1∧tk Tryz.prog 162=.one∧(Tryz.prog.info? 162).isSome=true∧Tryz.prog.cellsOf 162=1∧tk Tryz.prog 168=.one∧(Tryz.prog.info? 168).isSome=true∧Tryz.prog.cellsOf 168=1∧tk Tryz.prog 173=.one∧(Tryz.prog.info? 173).isSome=true∧Tryz.prog.cellsOf 173=1∧tk Tryz.prog 176=.one∧zd Tryz.prog 176=some [.nilp]∧(Tryz.prog.info? 176).isSome=true∧Tryz.prog.cellsOf 176=1∧tk Tryz.prog 178=.agg 7∧zd Tryz.prog 178=some [.nil,.nil,.nil,.nil,.nil,.nil,.nil]∧bk Tryz.prog 178=some (.st [(0,3),(3,3),(6,1)])∧(Tryz.prog.info? 178).isSome=true∧Tryz.prog.cellsOf 178=7∧tk Tryz.prog 180=.agg 2∧zd Tryz.prog 180=some [.int .u8 (0),.int .u8 (0)]:=⟨rfl,rfl,rfl,rfl,rfl,rfl,rfl,rfl,rfl,rfl,rfl,rfl,rfl,rfl,rfl,rfl,rfl,rfl,rfl,rfl,rfl,rfl,rfl,rfl⟩
@[go_sem] theorem U2:bk Tryz.prog 180=some (.ar 1)∧Ln Tryz.prog 180=some (2,1)∧(Tryz.prog.info? 180).isSome=true∧Tryz.prog.cellsOf 180=2∧tk Tryz.prog 181=.one∧zd Tryz.prog 181=some [.nil]∧(Tryz.prog.info? 181).isSome=true∧Tryz.prog.cellsOf 181=1∧tk Tryz.prog 183=.agg 4∧zd Tryz.prog 183=some [.str ⟨#[]⟩,.int .i64 (0),.bool false,.nil]∧bk Tryz.prog 183=some (.st [(0,1),(1,1),(2,1),(3,1)])∧(Tryz.prog.info? 183).isSome=true∧Tryz.prog.cellsOf 183=4∧tk Tryz.prog 184=.one∧zd Tryz.prog 184=some [.nil]∧(Tryz.prog.info? 184).isSome=true∧Tryz.prog.cellsOf 184=1∧tk Tryz.prog 186=.agg 4∧zd Tryz.prog 186=some [.str ⟨#[]⟩,.int .i64 (0),.int .i64 (0),.nil]∧bk Tryz.prog 186=some (.st [(0,1),(1,1),(2,1),(3,1)])∧(Tryz.prog.info? 186).isSome=true∧Tryz.prog.cellsOf 186=4∧tk Tryz.prog 188=.agg 7∧zd Tryz.prog 188=some [.str ⟨#[]⟩,.int .i64 (0),.int .i64 (0),.int .i64 (0),.int .i64 (0),.int .i64 (0),.int .i64 (0)]:=⟨rfl,rfl,rfl,rfl,rfl,rfl,rfl,rfl,rfl,rfl,rfl,rfl,rfl,rfl,rfl,rfl,rfl,rfl,rfl,rfl,rfl,rfl,rfl,rfl⟩
@[go_sem] theorem U1:bk Tryz.prog 188=some (.st [(0,1),(1,1),(2,1),(3,1),(4,1),(5,1),(6,1)])∧(Tryz.prog.info? 188).isSome=true∧Tryz.prog.cellsOf 188=7∧tk Tryz.prog 190=.one∧(Tryz.prog.info? 190).isSome=true∧Tryz.prog.cellsOf 190=1∧tk Tryz.prog 192=.agg 3∧zd Tryz.prog 192=some [.int .u8 (0),.int .u8 (0),.int .u8 (0)]∧bk Tryz.prog 192=some (.ar 1)∧Ln Tryz.prog 192=some (3,1)∧(Tryz.prog.info? 192).isSome=true∧Tryz.prog.cellsOf 192=3∧tk Tryz.prog 194=.one∧(Tryz.prog.info? 194).isSome=true∧Tryz.prog.cellsOf 194=1∧tk Tryz.prog 200=.one∧zd Tryz.prog 200=some [.nilf]∧(Tryz.prog.info? 200).isSome=true∧Tryz.prog.cellsOf 200=1∧tk Tryz.prog 202=.one∧zd Tryz.prog 202=some [.nilp]∧(Tryz.prog.info? 202).isSome=true∧Tryz.prog.cellsOf 202=1∧tk Tryz.prog 204=.agg 7:=⟨rfl,rfl,rfl,rfl,rfl,rfl,rfl,rfl,rfl,rfl,rfl,rfl,rfl,rfl,rfl,rfl,rfl,rfl,rfl,rfl,rfl,rfl,rfl,rfl⟩
@[go_sem] theorem U0:zd Tryz.prog 204=some [.nil,.nil,.nil,.int .i64 (0),.nil,.int .i64 (0),.int .i64 (0)]∧bk Tryz.prog 204=some (.st [(0,1),(1,1),(2,1),(3,1),(4,1),(5,1),(6,1)])∧(Tryz.prog.info? 204).isSome=true∧Tryz.prog.cellsOf 204=7∧tk Tryz.prog 210=.agg 4∧zd Tryz.prog 210=some [.int .i64 (0),.int .i64 (0),.int .i64 (0),.int .i64 (0)]∧bk Tryz.prog 210=some (.st [(0,1),(1,1),(2,1),(3,1)])∧(Tryz.prog.info? 210).isSome=true∧Tryz.prog.cellsOf 210=4∧tk Tryz.prog 213=.one∧zd Tryz.prog 213=some [.nilf]∧(Tryz.prog.info? 213).isSome=true∧Tryz.prog.cellsOf 213=1∧tk Tryz.prog 219=.one∧zd Tryz.prog 219=some [.nil]∧(Tryz.prog.info? 219).isSome=true∧Tryz.prog.cellsOf 219=1∧tk Tryz.prog 220=.one∧(Tryz.prog.info? 220).isSome=true∧Tryz.prog.cellsOf 220=1∧tk Tryz.prog 226=.one∧(Tryz.prog.info? 226).isSome=true∧Tryz.prog.cellsOf 226=1∧tk Tryz.prog 232=.one:=⟨rfl,rfl,rfl,rfl,rfl,rfl,rfl,rfl,rfl,rfl,rfl,rfl,rfl,rfl,rfl,rfl,rfl,rfl,rfl,rfl,rfl,rfl,rfl,rfl⟩
@[go_sem] theorem UZ:zd Tryz.prog 232=some [.nilp]∧(Tryz.prog.info? 232).isSome=true∧Tryz.prog.cellsOf 232=1∧tk Tryz.prog 235=.one∧(Tryz.prog.info? 235).isSome=true∧Tryz.prog.cellsOf 235=1∧tk Tryz.prog 242=.one∧zd Tryz.prog 242=some [.nilf]∧(Tryz.prog.info? 242).isSome=true∧Tryz.prog.cellsOf 242=1∧tk Tryz.prog 245=.one∧zd Tryz.prog 245=some [.nilf]∧(Tryz.prog.info? 245).isSome=true∧Tryz.prog.cellsOf 245=1∧tk Tryz.prog 257=.one∧zd Tryz.prog 257=some [.nilf]∧(Tryz.prog.info? 257).isSome=true∧Tryz.prog.cellsOf 257=1∧tk Tryz.prog 275=.one∧(Tryz.prog.info? 275).isSome=true∧Tryz.prog.cellsOf 275=1∧tk Tryz.prog 277=.one∧zd Tryz.prog 277=some [.nilf]∧(Tryz.prog.info? 277).isSome=true:=⟨rfl,rfl,rfl,rfl,rfl,rfl,rfl,rfl,rfl,rfl,rfl,rfl,rfl,rfl,rfl,rfl,rfl,rfl,rfl,rfl,rfl,rfl,rfl,rfl⟩
@[go_sem] theorem UY:Tryz.prog.cellsOf 277=1∧tk Tryz.prog 286=.one∧(Tryz.prog.info? 286).isSome=true∧Tryz.prog.cellsOf 286=1∧tk Tryz.prog 292=.agg 5∧zd Tryz.prog 292=some [.int .i64 (0),.int .i64 (0),.int .i64 (0),.int .i64 (0),.int .i64 (0)]∧bk Tryz.prog 292=some (.st [(0,1),(1,2),(3,2)])∧(Tryz.prog.info? 292).isSome=true∧Tryz.prog.cellsOf 292=5∧tk Tryz.prog 297=.agg 8∧zd Tryz.prog 297=some [.nil,.nil,.nil,.nil,.nil,.nil,.nil,.nil]∧bk Tryz.prog 297=some (.st [(0,2),(2,2),(4,2),(6,2)])∧(Tryz.prog.info? 297).isSome=true∧Tryz.prog.cellsOf 297=8∧tk Tryz.prog 299=.one∧zd Tryz.prog 299=some [.nil]∧(Tryz.prog.info? 299).isSome=true∧Tryz.prog.cellsOf 299=1∧tk Tryz.prog 300=.one∧(Tryz.prog.info? 300).isSome=true∧Tryz.prog.cellsOf 300=1∧tk Tryz.prog 304=.one∧zd Tryz.prog 304=some [.nil]∧(Tryz.prog.info? 304).isSome=true:=⟨rfl,rfl,rfl,rfl,rfl,rfl,rfl,rfl,rfl,rfl,rfl,rfl,rfl,rfl,rfl,rfl,rfl,rfl,rfl,rfl,rfl,rfl,rfl,rfl⟩
@[go_sem] theorem UX:Tryz.prog.cellsOf 304=1∧tk Tryz.prog 306=.agg 5∧zd Tryz.prog 306=some [.int .i64 (0),.nil,.nil,.nil,.nil]∧bk Tryz.prog 306=some (.st [(0,1),(1,3),(4,1)])∧(Tryz.prog.info? 306).isSome=true∧Tryz.prog.cellsOf 306=5∧tk Tryz.prog 307=.one∧(Tryz.prog.info? 307).isSome=true∧Tryz.prog.cellsOf 307=1∧tk Tryz.prog 311=.one∧(Tryz.prog.info? 311).isSome=true∧Tryz.prog.cellsOf 311=1∧tk Tryz.prog 312=.one∧(Tryz.prog.info? 312).isSome=true∧Tryz.prog.cellsOf 312=1∧tk Tryz.prog 315=.agg 2∧zd Tryz.prog 315=some [.int .i64 (0),.int .i64 (0)]∧bk Tryz.prog 315=some (.st [(0,1),(1,1)])∧(Tryz.prog.info? 315).isSome=true∧Tryz.prog.cellsOf 315=2∧tk Tryz.prog 318=.one∧zd Tryz.prog 318=some [.nil]∧(Tryz.prog.info? 318).isSome=true∧Tryz.prog.cellsOf 318=1:=⟨rfl,rfl,rfl,rfl,rfl,rfl,rfl,rfl,rfl,rfl,rfl,rfl,rfl,rfl,rfl,rfl,rfl,rfl,rfl,rfl,rfl,rfl,rfl,rfl⟩
@[go_sem] theorem UW:tk Tryz.prog 319=.agg 2∧zd Tryz.prog 319=some [.int .i64 (0),.int .i64 (0)]∧bk Tryz.prog 319=some (.ar 1)∧Ln Tryz.prog 319=some (2,1)∧(Tryz.prog.info? 319).isSome=true∧Tryz.prog.cellsOf 319=2∧tk Tryz.prog 321=.one∧zd Tryz.prog 321=some [.int .i8 (0)]∧yE Tryz.prog 321=some .i8∧(Tryz.prog.info? 321).isSome=true∧Tryz.prog.cellsOf 321=1∧tk Tryz.prog 322=.agg 4∧zd Tryz.prog 322=some [.int .i8 (0),.int .i8 (0),.int .i8 (0),.int .i8 (0)]∧bk Tryz.prog 322=some (.ar 1)∧Ln Tryz.prog 322=some (4,1)∧(Tryz.prog.info? 322).isSome=true∧Tryz.prog.cellsOf 322=4∧tk Tryz.prog 325=.one∧zd Tryz.prog 325=some [.nilf]∧(Tryz.prog.info? 325).isSome=true∧Tryz.prog.cellsOf 325=1∧tk Tryz.prog 328=.one∧zd Tryz.prog 328=some [.nilf]∧(Tryz.prog.info? 328).isSome=true:=⟨rfl,rfl,rfl,rfl,rfl,rfl,rfl,rfl,rfl,rfl,rfl,rfl,rfl,rfl,rfl,rfl,rfl,rfl,rfl,rfl,rfl,rfl,rfl,rfl⟩
@[go_sem] theorem UV:Tryz.prog.cellsOf 328=1∧tk Tryz.prog 339=.one∧(Tryz.prog.info? 339).isSome=true∧Tryz.prog.cellsOf 339=1∧tk Tryz.prog 342=.one∧(Tryz.prog.info? 342).isSome=true∧Tryz.prog.cellsOf 342=1∧tk Tryz.prog 344=.one∧(Tryz.prog.info? 344).isSome=true∧Tryz.prog.cellsOf 344=1∧tk Tryz.prog 347=.one∧zd Tryz.prog 347=some [.int .u64 (0)]∧yE Tryz.prog 347=some .u64∧(Tryz.prog.info? 347).isSome=true∧Tryz.prog.cellsOf 347=1∧tk Tryz.prog 352=.one∧(Tryz.prog.info? 352).isSome=true∧Tryz.prog.cellsOf 352=1∧tk Tryz.prog 356=.one∧(Tryz.prog.info? 356).isSome=true∧Tryz.prog.cellsOf 356=1∧tk Tryz.prog 361=.one∧(Tryz.prog.info? 361).isSome=true∧Tryz.prog.cellsOf 361=1:=⟨rfl,rfl,rfl,rfl,rfl,rfl,rfl,rfl,rfl,rfl,rfl,rfl,rfl,rfl,rfl,rfl,rfl,rfl,rfl,rfl,rfl,rfl,rfl,rfl⟩
@[go_sem] theorem UU:tk Tryz.prog 364=.agg 3∧zd Tryz.prog 364=some [.int .i64 (0),.str ⟨#[]⟩,.int .i64 (0)]∧bk Tryz.prog 364=some (.st [(0,1),(1,1),(2,1)])∧(Tryz.prog.info? 364).isSome=true∧Tryz.prog.cellsOf 364=3∧tk Tryz.prog 367=.one∧zd Tryz.prog 367=some [.nil]∧(Tryz.prog.info? 367).isSome=true∧Tryz.prog.cellsOf 367=1∧tk Tryz.prog 368=.one∧(Tryz.prog.info? 368).isSome=true∧Tryz.prog.cellsOf 368=1∧tk Tryz.prog 370=.one∧zd Tryz.prog 370=some [.nilf]∧(Tryz.prog.info? 370).isSome=true∧Tryz.prog.cellsOf 370=1∧tk Tryz.prog 371=.one∧(Tryz.prog.info? 371).isSome=true∧Tryz.prog.cellsOf 371=1∧tk Tryz.prog 373=.one∧zd Tryz.prog 373=some [.nil]∧(Tryz.prog.info? 373).isSome=true∧Tryz.prog.cellsOf 373=1∧tk Tryz.prog 377=.agg 6:=⟨rfl,rfl,rfl,rfl,rfl,rfl,rfl,rfl,rfl,rfl,rfl,rfl,rfl,rfl,rfl,rfl,rfl,rfl,rfl,rfl,rfl,rfl,rfl,rfl⟩
@[go_sem] theorem UT:zd Tryz.prog 377=some [.nil,.nil,.nil,.nil,.nil,.bool false]∧bk Tryz.prog 377=some (.st [(0,2),(2,3),(5,1)])∧(Tryz.prog.info? 377).isSome=true∧Tryz.prog.cellsOf 377=6∧tk Tryz.prog 379=.one∧(Tryz.prog.info? 379).isSome=true∧Tryz.prog.cellsOf 379=1∧tk Tryz.prog 383=.one∧zd Tryz.prog 383=some [.nilp]∧(Tryz.prog.info? 383).isSome=true∧Tryz.prog.cellsOf 383=1∧tk Tryz.prog 385=.agg 11∧zd Tryz.prog 385=some [.nil,.nil,.nil,.nil,.nil,.nil,.nil,.nil,.bool false,.int .i64 (0),.nil]∧bk Tryz.prog 385=some (.st [(0,2),(2,2),(4,2),(6,2),(8,1),(9,1),(10,1)])∧(Tryz.prog.info? 385).isSome=true∧Tryz.prog.cellsOf 385=11∧tk Tryz.prog 391=.one∧zd Tryz.prog 391=some [.nilf]∧(Tryz.prog.info? 391).isSome=true∧Tryz.prog.cellsOf 391=1∧tk Tryz.prog 395=.agg 2∧zd Tryz.prog 395=some [.int .i64 (0),.int .i64 (0)]∧bk Tryz.prog 395=some (.st [(0,1),(1,1)])∧(Tryz.prog.info? 395).isSome=true:=⟨rfl,rfl,rfl,rfl,rfl,rfl,rfl,rfl,rfl,rfl,rfl,rfl,rfl,rfl,rfl,rfl,rfl,rfl,rfl,rfl,rfl,rfl,rfl,rfl⟩
@[go_sem] theorem US:Tryz.prog.cellsOf 395=2∧tk Tryz.prog 400=.one∧(Tryz.prog.info? 400).isSome=true∧Tryz.prog.cellsOf 400=1∧tk Tryz.prog 403=.one∧zd Tryz.prog 403=some [.nilf]∧(Tryz.prog.info? 403).isSome=true∧Tryz.prog.cellsOf 403=1∧tk Tryz.prog 404=.one∧zd Tryz.prog 404=some [.nilp]∧(Tryz.prog.info? 404).isSome=true∧Tryz.prog.cellsOf 404=1∧tk Tryz.prog 406=.agg 12∧zd Tryz.prog 406=some [.nil,.nil,.nil,.nil,.nil,.nil,.nil,.bool false,.int .i64 (0),.nil,.nil,.nil]∧bk Tryz.prog 406=some (.st [(0,2),(2,2),(4,1),(5,2),(7,1),(8,1),(9,1),(10,1),(11,1)])∧(Tryz.prog.info? 406).isSome=true∧Tryz.prog.cellsOf 406=12∧tk Tryz.prog 407=.one∧(Tryz.prog.info? 407).isSome=true∧Tryz.prog.cellsOf 407=1∧tk Tryz.prog 412=.one∧zd Tryz.prog 412=some [.nilf]∧(Tryz.prog.info? 412).isSome=true∧Tryz.prog.cellsOf 412=1:=⟨rfl,rfl,rfl,rfl,rfl,rfl,rfl,rfl,rfl,rfl,rfl,rfl,rfl,rfl,rfl,rfl,rfl,rfl,rfl,rfl,rfl,rfl,rfl,rfl⟩
@[go_sem] theorem UR:tk Tryz.prog 414=.one∧zd Tryz.prog 414=some [.int .u32 (0)]∧yE Tryz.prog 414=some .u32∧(Tryz.prog.info? 414).isSome=true∧Tryz.prog.cellsOf 414=1∧tk Tryz.prog 415=.one∧(Tryz.prog.info? 415).isSome=true∧Tryz.prog.cellsOf 415=1∧tk Tryz.prog 419=.one∧(Tryz.prog.info? 419).isSome=true∧Tryz.prog.cellsOf 419=1∧tk Tryz.prog 430=.one∧zd Tryz.prog 430=some [.nilf]∧(Tryz.prog.info? 430).isSome=true∧Tryz.prog.cellsOf 430=1∧tk Tryz.prog 444=.one∧zd Tryz.prog 444=some [.int .i64 (0)]∧yE Tryz.prog 444=some .i64∧(Tryz.prog.info? 444).isSome=true∧Tryz.prog.cellsOf 444=1∧tk Tryz.prog 445=.one∧(Tryz.prog.info? 445).isSome=true∧Tryz.prog.cellsOf 445=1∧tk Tryz.prog 455=.one:=⟨rfl,rfl,rfl,rfl,rfl,rfl,rfl,rfl,rfl,rfl,rfl,rfl,rfl,rfl,rfl,rfl,rfl,rfl,rfl,rfl,rfl,rfl,rfl,rfl⟩
@[go_sem] theorem UQ:zd Tryz.prog 455=some [.int .u64 (0)]∧yE Tryz.prog 455=some .u64∧(Tryz.prog.info? 455).isSome=true∧Tryz.prog.cellsOf 455=1∧tk Tryz.prog 459=.one∧zd Tryz.prog 459=some [.nilp]∧(Tryz.prog.info? 459).isSome=true∧Tryz.prog.cellsOf 459=1∧tk Tryz.prog 461=.one∧zd Tryz.prog 461=some [.nilp]∧(Tryz.prog.info? 461).isSome=true∧Tryz.prog.cellsOf 461=1∧Tryz.f4.results.toList=[.tmp 6]∧Tryz.f17.results.toList=[.tmp 0]∧Tryz.f18.results.toList=[.tmp 6]∧Tryz.f19.results.toList=[.tmp 6,.tmp 7]∧Tryz.f20.results.toList=[.tmp 6,.tmp 7]∧Tryz.f21.results.toList=[.tmp 4]∧Tryz.f23.results.toList=[.cell 8 67,.tmp 9]∧Tryz.f26.results.toList=[.tmp 4,.tmp 5]∧Tryz.f27.results.toList=[.tmp 4,.tmp 5]∧Tryz.f29.results.toList=[.cell 2 56]∧Tryz.f31.results.toList=[.tmp 4]∧Tryz.f33.results.toList=[.cell 8 67,.tmp 9]:=⟨rfl,rfl,rfl,rfl,rfl,rfl,rfl,rfl,rfl,rfl,rfl,rfl,rfl,rfl,rfl,rfl,rfl,rfl,rfl,rfl,rfl,rfl,rfl,rfl⟩
@[go_sem] theorem UP:Tryz.f51.results.toList=[.tmp 4]∧Tryz.f56.results.toList=[.tmp 4]∧Tryz.f57.results.toList=[.cell 0 32]∧Tryz.f58.results.toList=[.cell 0 61]∧Tryz.f59.results.toList=[.tmp 2]∧Tryz.f60.results.toList=[.tmp 2]∧Tryz.f61.results.toList=[.tmp 8]∧Tryz.f62.results.toList=[.tmp 6]∧Tryz.f63.results.toList=[.tmp 8,.tmp 9]∧Tryz.f64.results.toList=[.cell 8 67,.tmp 9]∧Tryz.f65.results.toList=[.tmp 6]∧Tryz.f66.results.toList=[.tmp 8,.tmp 9]∧Tryz.f67.results.toList=[.tmp 4]∧Tryz.f70.results.toList=[.tmp 2]∧Tryz.f71.results.toList=[.tmp 2,.tmp 3]∧Tryz.f72.results.toList=[.tmp 2]∧Tryz.f73.results.toList=[.tmp 6]∧Tryz.f74.results.toList=[.tmp 8]∧Tryz.f75.results.toList=[.tmp 4]∧Tryz.f77.results.toList=[.tmp 2]∧Tryz.f80.results.toList=[.tmp 4]∧Tryz.f81.results.toList=[.tmp 4]∧Tryz.f82.results.toList=[.cell 8 55,.tmp 9]∧Tryz.f83.results.toList=[.cell 6 40,.cell 7 56]:=⟨rfl,rfl,rfl,rfl,rfl,rfl,rfl,rfl,rfl,rfl,rfl,rfl,rfl,rfl,rfl,rfl,rfl,rfl,rfl,rfl,rfl,rfl,rfl,rfl⟩
@[go_sem] theorem UO:Tryz.f84.results.toList=[.tmp 4]∧Tryz.f85.results.toList=[.tmp 10]∧Tryz.f86.results.toList=[.cell 8 40]∧Tryz.f87.results.toList=[.cell 2 40]∧Tryz.f88.results.toList=[.cell 10 40,.tmp 11]∧Tryz.f90.results.toList=[.tmp 2]∧Tryz.f100.results.toList=[.tmp 4]∧Tryz.f102.results.toList=[.tmp 4,.tmp 5]∧Tryz.f103.results.toList=[.tmp 8]∧Tryz.f109.results.toList=[.tmp 4]∧Tryz.f111.results.toList=[.tmp 4]∧Tryz.f114.results.toList=[.tmp 4]∧Tryz.f122.results.toList=[.tmp 2]∧Tryz.f123.results.toList=[.tmp 2]∧Tryz.f124.results.toList=[.tmp 4]∧Tryz.f125.results.toList=[.tmp 2]∧Tryz.f126.results.toList=[.tmp 6]∧Tryz.f127.results.toList=[.tmp 6]∧Tryz.f128.results.toList=[.tmp 2]∧Tryz.f129.results.toList=[.tmp 8]∧Tryz.f130.results.toList=[.tmp 4]∧Tryz.f131.results.toList=[.tmp 6]∧Tryz.f132.results.toList=[.tmp 8,.tmp 9]∧Tryz.f133.results.toList=[.tmp 6,.tmp 7]:=⟨rfl,rfl,rfl,rfl,rfl,rfl,rfl,rfl,rfl,rfl,rfl,rfl,rfl,rfl,rfl,rfl,rfl,rfl,rfl,rfl,rfl,rfl,rfl,rfl⟩
@[go_sem] theorem UN:Tryz.f134.results.toList=[.tmp 8]∧Tryz.f135.results.toList=[.cell 8 37,.tmp 9]∧Tryz.f136.results.toList=[.cell 8 55,.tmp 9]∧Tryz.f137.results.toList=[.tmp 12,.tmp 13]∧Tryz.f138.results.toList=[.cell 2 65]∧Tryz.f139.results.toList=[.cell 2 40]∧Tryz.f140.results.toList=[.tmp 4]∧Tryz.f141.results.toList=[.tmp 12]∧Tryz.f142.results.toList=[]∧Tryz.f143.results.toList=[.tmp 4]∧Tryz.f144.results.toList=[.tmp 4]∧Tryz.f145.results.toList=[.tmp 4,.tmp 5]∧Tryz.f146.results.toList=[.tmp 6]∧Tryz.f147.results.toList=[.tmp 8,.tmp 9]∧Tryz.f148.results.toList=[.tmp 6,.tmp 7]∧Tryz.f150.results.toList=[.cell 4 37,.cell 5 56,.tmp 6]∧Tryz.f155.results.toList=[.tmp 4]∧Tryz.f156.results.toList=[.tmp 4]∧Tryz.f157.results.toList=[.tmp 2]∧Tryz.f158.results.toList=[.tmp 4]∧Tryz.f159.results.toList=[.tmp 4]∧Tryz.f160.results.toList=[.tmp 3]∧Tryz.f161.results.toList=[.tmp 4]∧Tryz.f162.results.toList=[.tmp 4,.tmp 5]:=⟨rfl,rfl,rfl,rfl,rfl,rfl,rfl,rfl,rfl,rfl,rfl,rfl,rfl,rfl,rfl,rfl,rfl,rfl,rfl,rfl,rfl,rfl,rfl,rfl⟩
@[go_sem] theorem UM:Tryz.f163.results.toList=[.tmp 4]∧Tryz.f164.results.toList=[.tmp 6]∧Tryz.f166.results.toList=[.tmp 10]∧Tryz.f167.results.toList=[.tmp 8,.tmp 9]∧Tryz.f168.results.toList=[.cell 8 37,.tmp 9]∧Tryz.f169.results.toList=[.cell 8 55,.tmp 9]∧Tryz.f170.results.toList=[.tmp 10,.tmp 11]∧Tryz.f171.results.toList=[.cell 6 40,.tmp 7]∧Tryz.f172.results.toList=[.tmp 4]∧Tryz.f173.results.toList=[.tmp 4]∧Tryz.f174.results.toList=[.tmp 4]∧Tryz.f175.results.toList=[.cell 2 37]∧Tryz.f179.results.toList=[.tmp 2]∧Tryz.f185.results.toList=[.tmp 2]∧Tryz.f188.results.toList=[.tmp 4]∧Tryz.f189.results.toList=[.tmp 6]∧Tryz.f190.results.toList=[.tmp 4]∧Tryz.f191.results.toList=[.tmp 6]∧Tryz.f192.results.toList=[.tmp 6]∧Tryz.f193.results.toList=[.tmp 2,.tmp 3]∧Tryz.f198.results.toList=[.tmp 4]∧Tryz.f199.results.toList=[.tmp 4]∧Tryz.f201.results.toList=[.tmp 2]∧Tryz.f208.results.toList=[.tmp 4]:=⟨rfl,rfl,rfl,rfl,rfl,rfl,rfl,rfl,rfl,rfl,rfl,rfl,rfl,rfl,rfl,rfl,rfl,rfl,rfl,rfl,rfl,rfl,rfl,rfl⟩
@[go_sem] theorem UL:Tryz.f209.results.toList=[.tmp 4]∧Tryz.f210.results.toList=[.tmp 2]∧Tryz.f211.results.toList=[.tmp 6]∧Tryz.f212.results.toList=[.tmp 6]∧Tryz.f213.results.toList=[.tmp 2]∧Tryz.f214.results.toList=[.tmp 4]∧Tryz.f215.results.toList=[.tmp 4]∧Tryz.f216.results.toList=[.tmp 2]∧Tryz.f217.results.toList=[.tmp 2,.tmp 3]∧Tryz.f218.results.toList=[.tmp 8]∧Tryz.f219.results.toList=[.tmp 6]∧Tryz.f220.results.toList=[.tmp 6]∧Tryz.f221.results.toList=[.tmp 10,.tmp 11]∧Tryz.f222.results.toList=[.tmp 4]∧Tryz.f223.results.toList=[.tmp 4]∧Tryz.f224.results.toList=[.tmp 10]∧Tryz.f225.results.toList=[.tmp 8,.tmp 9]∧Tryz.f226.results.toList=[.tmp 8]∧Tryz.f227.results.toList=[.tmp 2]∧Tryz.f228.results.toList=[.tmp 2]∧Tryz.f229.results.toList=[.tmp 2,.tmp 3]∧Tryz.f230.results.toList=[.tmp 2]∧Tryz.f231.results.toList=[.tmp 6]∧Tryz.f232.results.toList=[.cell 12 306,.tmp 13]:=⟨rfl,rfl,rfl,rfl,rfl,rfl,rfl,rfl,rfl,rfl,rfl,rfl,rfl,rfl,rfl,rfl,rfl,rfl,rfl,rfl,rfl,rfl,rfl,rfl⟩
@[go_sem] theorem UK:Tryz.f233.results.toList=[.tmp 4,.tmp 5]∧Tryz.f234.results.toList=[.tmp 4]∧Tryz.f235.results.toList=[.tmp 4]∧Tryz.f236.results.toList=[.tmp 2,.tmp 3]∧Tryz.f237.results.toList=[.tmp 2]∧Tryz.f238.results.toList=[.tmp 4]∧Tryz.f239.results.toList=[.tmp 2]∧Tryz.f240.results.toList=[.tmp 2,.tmp 3]∧Tryz.f241.results.toList=[.tmp 8]∧Tryz.f242.results.toList=[.tmp 6]∧Tryz.f243.results.toList=[.tmp 6]∧Tryz.f244.results.toList=[.tmp 12]∧Tryz.f245.results.toList=[.cell 2 56]∧Tryz.f246.results.toList=[.tmp 4]∧Tryz.f249.results.toList=[.tmp 4]∧Tryz.f250.results.toList=[.tmp 4]∧Tryz.f252.results.toList=[.tmp 4]∧Tryz.f253.results.toList=[.tmp 3]∧Tryz.f254.results.toList=[.tmp 4]∧Tryz.f255.results.toList=[.tmp 4]∧Tryz.f256.results.toList=[.tmp 3]∧Tryz.f257.results.toList=[.tmp 4]∧Tryz.f258.results.toList=[.tmp 3]∧Tryz.f259.results.toList=[.tmp 4]:=⟨rfl,rfl,rfl,rfl,rfl,rfl,rfl,rfl,rfl,rfl,rfl,rfl,rfl,rfl,rfl,rfl,rfl,rfl,rfl,rfl,rfl,rfl,rfl,rfl⟩
@[go_sem] theorem UJ:Tryz.f260.results.toList=[.tmp 4]∧Tryz.f261.results.toList=[.tmp 2]∧Tryz.f262.results.toList=[.tmp 3]∧Tryz.f263.results.toList=[.tmp 4]∧Tryz.f264.results.toList=[.tmp 10]∧Tryz.f265.results.toList=[.tmp 8]∧Tryz.f266.results.toList=[.tmp 4]∧Tryz.f267.results.toList=[.tmp 8]∧Tryz.f268.results.toList=[.tmp 4]∧Tryz.f269.results.toList=[.tmp 4]∧Tryz.f270.results.toList=[.cell 10 306,.tmp 11]∧Tryz.f275.results.toList=[.tmp 2]∧Tryz.f276.results.toList=[.tmp 4]∧Tryz.f278.results.toList=[.tmp 4]∧Tryz.f279.results.toList=[.tmp 4]∧Tryz.f288.results.toList=[.tmp 2]∧Tryz.f291.results.toList=[.tmp 4]∧Tryz.f292.results.toList=[.cell 8 186,.tmp 9]∧Tryz.f293.results.toList=[.tmp 2]∧Tryz.f294.results.toList=[.tmp 4]∧Tryz.f295.results.toList=[.tmp 4]∧Tryz.f296.results.toList=[.tmp 2]∧Tryz.f297.results.toList=[.tmp 2,.tmp 3]∧Tryz.f298.results.toList=[.tmp 6]:=⟨rfl,rfl,rfl,rfl,rfl,rfl,rfl,rfl,rfl,rfl,rfl,rfl,rfl,rfl,rfl,rfl,rfl,rfl,rfl,rfl,rfl,rfl,rfl,rfl⟩
@[go_sem] theorem UI:Tryz.f299.results.toList=[.tmp 6]∧Tryz.f300.results.toList=[.tmp 6]∧Tryz.f301.results.toList=[.tmp 2,.tmp 3]∧Tryz.f302.results.toList=[.tmp 3]∧Tryz.f303.results.toList=[.tmp 3]∧Tryz.f304.results.toList=[.tmp 6]∧Tryz.f305.results.toList=[.cell 6 186,.tmp 7]∧Tryz.f306.results.toList=[.tmp 4]∧Tryz.f307.results.toList=[.tmp 4]∧Tryz.f308.results.toList=[.tmp 6]∧Tryz.f309.results.toList=[.cell 4 37,.cell 5 56,.tmp 6]∧Tryz.f310.results.toList=[.tmp 6]∧Tryz.f311.results.toList=[.tmp 6]∧Tryz.f312.results.toList=[.tmp 4]∧Tryz.f313.results.toList=[.tmp 4]∧Tryz.f314.results.toList=[.tmp 4]∧Tryz.f315.results.toList=[.tmp 2]∧Tryz.f316.results.toList=[.tmp 6]∧Tryz.f317.results.toList=[.tmp 4]∧Tryz.f318.results.toList=[.tmp 12]∧Tryz.f319.results.toList=[.tmp 3,.tmp 4,.tmp 5]∧Tryz.f320.results.toList=[.tmp 4,.tmp 5]∧Tryz.f321.results.toList=[.tmp 4]∧Tryz.f322.results.toList=[.tmp 2]:=⟨rfl,rfl,rfl,rfl,rfl,rfl,rfl,rfl,rfl,rfl,rfl,rfl,rfl,rfl,rfl,rfl,rfl,rfl,rfl,rfl,rfl,rfl,rfl,rfl⟩
@[go_sem] theorem UH:Tryz.f323.results.toList=[.tmp 2]∧Tryz.f324.results.toList=[.tmp 4]∧Tryz.f325.results.toList=[.tmp 4]∧Tryz.f326.results.toList=[.tmp 2]∧Tryz.f327.results.toList=[.tmp 12]∧Tryz.f328.results.toList=[.cell 6 306,.tmp 7]∧Tryz.f329.results.toList=[.tmp 4]∧Tryz.f330.results.toList=[.tmp 2]∧Tryz.f331.results.toList=[.tmp 4,.tmp 5]∧Tryz.f332.results.toList=[.tmp 4,.tmp 5]∧Tryz.f333.results.toList=[.tmp 2]∧Tryz.f334.results.toList=[.tmp 6]∧Tryz.f335.results.toList=[.tmp 4]∧Tryz.f336.results.toList=[]∧Tryz.f337.results.toList=[.tmp 4,.tmp 5]∧Tryz.f340.results.toList=[.tmp 4]∧Tryz.f341.results.toList=[.tmp 4]∧Tryz.f342.results.toList=[.tmp 4]∧Tryz.f343.results.toList=[.tmp 3]∧Tryz.f344.results.toList=[.tmp 2]∧Tryz.f345.results.toList=[.tmp 4]∧Tryz.f346.results.toList=[]∧Tryz.f347.results.toList=[.tmp 2]∧Tryz.f348.results.toList=[.tmp 4]:=⟨rfl,rfl,rfl,rfl,rfl,rfl,rfl,rfl,rfl,rfl,rfl,rfl,rfl,rfl,rfl,rfl,rfl,rfl,rfl,rfl,rfl,rfl,rfl,rfl⟩
@[go_sem] theorem UG:Tryz.f349.results.toList=[.tmp 10,.tmp 11]∧Tryz.f350.results.toList=[]∧Tryz.f351.results.toList=[.tmp 2]∧Tryz.f352.results.toList=[.tmp 4]∧Tryz.f360.results.toList=[.tmp 4,.tmp 5]∧Tryz.f362.results.toList=[.tmp 4]∧Tryz.f363.results.toList=[.tmp 2]∧Tryz.f364.results.toList=[.tmp 4]∧Tryz.f365.results.toList=[.tmp 2,.tmp 3,.tmp 4]∧Tryz.f366.results.toList=[.tmp 4]∧Tryz.f367.results.toList=[.tmp 3]∧Tryz.f368.results.toList=[.tmp 3]∧Tryz.f369.results.toList=[.tmp 4]∧Tryz.f370.results.toList=[.tmp 3]∧Tryz.f371.results.toList=[.tmp 2]∧Tryz.f372.results.toList=[.tmp 2]∧Tryz.f373.results.toList=[.tmp 2,.tmp 3]∧Tryz.f374.results.toList=[.tmp 6]∧Tryz.f375.results.toList=[.tmp 3]∧Tryz.f376.results.toList=[.tmp 3]∧Tryz.f377.results.toList=[]∧Tryz.f379.results.toList=[.tmp 2]∧Tryz.f380.results.toList=[.tmp 2]∧Tryz.f381.results.toList=[.tmp 2]:=⟨rfl,rfl,rfl,rfl,rfl,rfl,rfl,rfl,rfl,rfl,rfl,rfl,rfl,rfl,rfl,rfl,rfl,rfl,rfl,rfl,rfl,rfl,rfl,rfl⟩
@[go_sem] theorem UF:Tryz.f382.results.toList=[.tmp 2]∧Tryz.f383.results.toList=[.tmp 4]∧Tryz.f384.results.toList=[.cell 6 306,.tmp 7]∧Tryz.f386.results.toList=[.tmp 4,.tmp 5]∧Tryz.f387.results.toList=[.tmp 2]∧Tryz.f388.results.toList=[.cell 4 364,.tmp 5,.tmp 6]∧Tryz.f389.results.toList=[.tmp 4]∧Tryz.f390.results.toList=[.tmp 4]∧Tryz.f391.results.toList=[]∧Tryz.f392.results.toList=[.tmp 6]∧Tryz.f393.results.toList=[.tmp 4]∧Tryz.f394.results.toList=[.tmp 4]∧Tryz.f395.results.toList=[.tmp 4]∧Tryz.f396.results.toList=[.tmp 4]∧Tryz.f397.results.toList=[.tmp 6]∧Tryz.f398.results.toList=[.tmp 10,.tmp 11]∧Tryz.f399.results.toList=[.tmp 8,.tmp 9]∧Tryz.f400.results.toList=[]∧Tryz.f401.results.toList=[.tmp 2]∧Tryz.f402.results.toList=[.tmp 2]∧Tryz.f405.results.toList=[.tmp 4]∧Tryz.f406.results.toList=[.tmp 2]∧Tryz.f407.results.toList=[.tmp 2]∧Tryz.f408.results.toList=[.tmp 4]:=⟨rfl,rfl,rfl,rfl,rfl,rfl,rfl,rfl,rfl,rfl,rfl,rfl,rfl,rfl,rfl,rfl,rfl,rfl,rfl,rfl,rfl,rfl,rfl,rfl⟩
@[go_sem] theorem UE:Tryz.f409.results.toList=[.tmp 2]∧Tryz.f410.results.toList=[.tmp 2]∧Tryz.f411.results.toList=[.tmp 2,.tmp 3]∧Tryz.f412.results.toList=[.tmp 2]∧Tryz.f413.results.toList=[.tmp 4]∧Tryz.f414.results.toList=[.tmp 4]∧Tryz.f415.results.toList=[.tmp 4]∧Tryz.f416.results.toList=[.tmp 2]∧Tryz.f417.results.toList=[.tmp 4]∧Tryz.f418.results.toList=[.tmp 2]∧Tryz.f419.results.toList=[.tmp 3]∧Tryz.f420.results.toList=[.tmp 4]∧Tryz.f421.results.toList=[.tmp 2]∧Tryz.f422.results.toList=[.tmp 6]∧Tryz.f423.results.toList=[.tmp 2]∧Tryz.f424.results.toList=[]∧Tryz.f425.results.toList=[.tmp 4]∧Tryz.f426.results.toList=[.tmp 4]∧Tryz.f427.results.toList=[.tmp 6,.tmp 7]∧Tryz.f428.results.toList=[.tmp 2]∧Tryz.f429.results.toList=[.tmp 2]∧Tryz.f430.results.toList=[.tmp 6]∧Tryz.f431.results.toList=[.tmp 4]∧Tryz.f432.results.toList=[.tmp 0]:=⟨rfl,rfl,rfl,rfl,rfl,rfl,rfl,rfl,rfl,rfl,rfl,rfl,rfl,rfl,rfl,rfl,rfl,rfl,rfl,rfl,rfl,rfl,rfl,rfl⟩
@[go_sem] theorem UD:Tryz.f433.results.toList=[.tmp 4]∧Tryz.f434.results.toList=[.tmp 6]∧Tryz.f435.results.toList=[]∧Tryz.f436.results.toList=[]∧Tryz.f437.results.toList=[]∧Tryz.f438.results.toList=[.tmp 6,.tmp 7]∧Tryz.f439.results.toList=[]∧Tryz.f440.results.toList=[.tmp 6]∧Tryz.f441.results.toList=[.tmp 8]∧Tryz.f442.results.toList=[.tmp 8,.tmp 9]∧Tryz.f443.results.toList=[.tmp 2]∧Tryz.f444.results.toList=[.tmp 2]∧Tryz.f445.results.toList=[.tmp 2]∧Tryz.f446.results.toList=[.tmp 4]∧Tryz.f447.results.toList=[.tmp 4]∧Tryz.f448.results.toList=[.tmp 4]∧Tryz.f449.results.toList=[.tmp 6]∧Tryz.f450.results.toList=[.tmp 10,.tmp 11]∧Tryz.f451.results.toList=[.tmp 8,.tmp 9]∧Tryz.f452.results.toList=[]∧Tryz.f453.results.toList=[.tmp 2]∧Tryz.f454.results.toList=[.tmp 2]∧Tryz.f455.results.toList=[.tmp 6]∧Tryz.f456.results.toList=[.tmp 10]:=⟨rfl,rfl,rfl,rfl,rfl,rfl,rfl,rfl,rfl,rfl,rfl,rfl,rfl,rfl,rfl,rfl,rfl,rfl,rfl,rfl,rfl,rfl,rfl,rfl⟩
@[go_sem] theorem UC:Tryz.f458.results.toList=[.tmp 4]∧Tryz.f459.results.toList=[.tmp 8,.tmp 9]∧Tryz.f460.results.toList=[.tmp 3]:=⟨rfl,rfl,rfl⟩
attribute [go_sem] Tryz.underlying3 Tryz.underlying4 Tryz.underlying5 Tryz.underlying9 Tryz.underlying22 Tryz.underlying23 Tryz.underlying24 Tryz.underlying26 Tryz.underlying28 Tryz.underlying29 Tryz.underlying30 Tryz.underlying32 Tryz.underlying33 Tryz.underlying34 Tryz.underlying35 Tryz.underlying37 Tryz.underlying38 Tryz.underlying40 Tryz.underlying41 Tryz.underlying44
attribute [go_sem] Tryz.underlying45 Tryz.underlying46 Tryz.underlying48 Tryz.underlying50 Tryz.underlying51 Tryz.underlying53 Tryz.underlying55 Tryz.underlying56 Tryz.underlying57 Tryz.underlying59 Tryz.underlying61 Tryz.underlying62 Tryz.underlying65 Tryz.underlying67 Tryz.underlying71 Tryz.underlying72 Tryz.underlying75 Tryz.underlying77 Tryz.underlying78 Tryz.underlying80
attribute [go_sem] Tryz.underlying81 Tryz.underlying82 Tryz.underlying84 Tryz.underlying86 Tryz.underlying87 Tryz.underlying89 Tryz.underlying93 Tryz.underlying97 Tryz.underlying99 Tryz.underlying101 Tryz.underlying108 Tryz.underlying114 Tryz.underlying117 Tryz.underlying125 Tryz.underlying130 Tryz.underlying131 Tryz.underlying133 Tryz.underlying135 Tryz.underlying137 Tryz.underlying138
attribute [go_sem] Tryz.underlying150 Tryz.underlying151 Tryz.underlying157 Tryz.underlying162 Tryz.underlying168 Tryz.underlying173 Tryz.underlying176 Tryz.underlying178 Tryz.underlying180 Tryz.underlying181 Tryz.underlying183 Tryz.underlying184 Tryz.underlying186 Tryz.underlying188 Tryz.underlying190 Tryz.underlying192 Tryz.underlying194 Tryz.underlying200 Tryz.underlying202 Tryz.underlying204
attribute [go_sem] Tryz.underlying210 Tryz.underlying213 Tryz.underlying219 Tryz.underlying220 Tryz.underlying226 Tryz.underlying232 Tryz.underlying235 Tryz.underlying242 Tryz.underlying245 Tryz.underlying257 Tryz.underlying275 Tryz.underlying277 Tryz.underlying286 Tryz.underlying292 Tryz.underlying297 Tryz.underlying299 Tryz.underlying300 Tryz.underlying304 Tryz.underlying306 Tryz.underlying307
attribute [go_sem] Tryz.underlying311 Tryz.underlying312 Tryz.underlying315 Tryz.underlying318 Tryz.underlying319 Tryz.underlying321 Tryz.underlying322 Tryz.underlying325 Tryz.underlying328 Tryz.underlying339 Tryz.underlying342 Tryz.underlying344 Tryz.underlying347 Tryz.underlying352 Tryz.underlying356 Tryz.underlying361 Tryz.underlying364 Tryz.underlying367 Tryz.underlying368 Tryz.underlying370
attribute [go_sem] Tryz.underlying371 Tryz.underlying373 Tryz.underlying377 Tryz.underlying379 Tryz.underlying383 Tryz.underlying385 Tryz.underlying391 Tryz.underlying395 Tryz.underlying400 Tryz.underlying403 Tryz.underlying404 Tryz.underlying406 Tryz.underlying407 Tryz.underlying412 Tryz.underlying414 Tryz.underlying415 Tryz.underlying419 Tryz.underlying430 Tryz.underlying444 Tryz.underlying445
attribute [go_sem] Tryz.underlying455 Tryz.underlying459 Tryz.underlying461
theorem mixed:Tryz.prog.follows .mixedOrders=true:=rfl
theorem pK {f:FuncId}{fn:Func}{x:Code}{args:List D}{r:D}(cfg:Cfg)(hf:Tryz.prog.funcs[f]?=some fn)(hb:fn.body=some x)
  (h:∀ Q:D→AHeap→Prop,(∀ d H',(n5 H' d=r∨No (n5 H' d)=r)→Q d H')→l7 Tryz.prog cfg x (Mo Tryz.prog fn.results.toList Q) (w4 args) .emp)
  (hcl:r.cl=true:=by first|rfl|(simp [go_sem];done)) (hnm:(fn.name=="runtime.NumGoroutine")=false:=by rfl) (hlen:args.length≤fn.ntmps:=by exact aE rfl) (hok:mQ cfg fn.ntmps x=true:=by kernel_rfl):Pure Tryz.prog f args r :=
 LA hcl fun Q hQ=>aG mixed hf hb hnm hlen hok (h Q hQ)
theorem oK {f:FuncId}{fn:Func}{x:Code}{args:List D}{ty:TypeId}{sz:Nat}{es:List (List D)}(cfg:Cfg)(hf:Tryz.prog.funcs[f]?=some fn)(hb:fn.body=some x)
  (h:∀ Q:D→AHeap→Prop,(∀ id n H',n=es.length→H'.get id=some ⟨ty,sz,es,false⟩→Q (.own id n) H')→l7 Tryz.prog cfg x (Mo Tryz.prog fn.results.toList Q) (w4 args) .emp)
  (hcl:D.clLL es=true:=by first|rfl|(simp [go_sem];done)) (hnm:(fn.name=="runtime.NumGoroutine")=false:=by rfl) (hlen:args.length≤fn.ntmps:=by exact aE rfl) (hok:mQ cfg fn.ntmps x=true:=by kernel_rfl):Own Tryz.prog f args ty sz es :=
 Vp hcl fun Q hQ=>aG mixed hf hb hnm hlen hok (h Q hQ)
end Go.Abs.Tz
end
section
namespace Go.Abs
variable {P:Program} {md:Nat→Bool} {ops:Array Oper} {sp:List (Nat × Nat)} {n0 i:Nat} {rest:List Oper} {acc:List (Nat × List Nat)} {e:cZ} {dst:Option Tmp} {K:cZ→AHeap→Prop} {f:FuncId} {args:List D} {H:AHeap} {r:D}
end Go.Abs
end
section
set_option maxRecDepth 4000
open Go Go.Proofs
namespace Go.Abs
def gS (c:Int):Bool:=decide (97≤c)&&decide (c≤122)||(decide (65≤c)&&decide (c≤90))
def iV (c:Int):Bool:=decide (48≤c)&&decide (c≤57)
def mM (c:Int):Bool:=gS c||iV c||c==95
theorem yX (c:Int):Pure Tryz.prog 407 [.int .u8 c] (.bool (gS c)):=by
 refine aM (aG (cfg:=⟨fun _=>false,fun _=>[]⟩) Tz.mixed Tryz.func407 rfl rfl (aE rfl) (by kernel_rfl) ?_)
 simp [go_sem,seval,gS,D.cl]
 omega
theorem uY (c:Int):Pure Tryz.prog 410 [.int .u8 c] (.bool (iV c)):=by
 refine aM (aG (cfg:=⟨fun _=>false,fun _=>[]⟩) Tz.mixed Tryz.func410 rfl rfl (aE rfl) (by kernel_rfl) ?_)
 simp [go_sem,seval,iV,D.cl]
theorem J2 (c:Int):Pure Tryz.prog 409 [.int .u8 c] (.bool (mM c)):=by
 refine aM (aG (cfg:=⟨fun _=>false,fun _=>[]⟩) Tz.mixed Tryz.func409 rfl rfl (aE rfl) (by kernel_rfl) ?_)
 simp [go_sem,seval]
 refine aB (yX c) rfl ?_
 simp [go_sem,seval]
 refine aK (fun _=>uY c) (fun _=>rfl) ?_
 simp [go_sem,seval,mM,D.cl]
def tU (s:ByteArray)(i:Nat):Int:=((s.data[i]?.getD 0).toNat:Int)
def fD (p:Int→Bool)(s:ByteArray):Nat:=(s.data.toList.takeWhile fun b=>p (b.toNat:Int)).length
theorem rN {α:Type}(p:α→Bool):∀ (l:List α) (n:Nat),(∀ j x,j<n→l[j]?=some x→p x=true)→n≤l.length→(∀ x,l[n]?=some x→p x=false)→(l.takeWhile p).length=n
 | [],n,_,h,_=>by simp at h;subst h;rfl
 | a :: l,0,_,_,h=>by have:=h a rfl;simp [List.takeWhile,this]
 | a :: l,n+1,h1,h2,h3=>by
  have ha:=h1 0 a (by omega) rfl
  simp only [List.takeWhile,ha,eC]
  rw [rN p l n (fun j x hj hx=>h1 (j+1) x (by omega) hx) (by simpa using h2) fun x hx=>h3 x hx]
theorem Fq (p:Int→Bool)(s:ByteArray)(n:Nat)(h1:∀ j,j<n→p (tU s j)=true)(h2:n≤s.size)(h3:n<s.size→p (tU s n)=false):fD p s=n:=by
 have hl:s.data.toList.length=s.size:=rfl
 have hb:∀ j x,s.data.toList[j]?=some x→tU s j=(x.toNat:Int):=fun j x hx=>by
  simp only [Array.getElem?_toList] at hx
  simp [tU,hx]
 refine rN _ _ _ (fun j x hj hx=>by rw [← hb j x hx];exact h1 j hj) (by rw [hl];exact h2) fun x hx=>?_
 rw [← hb n x hx]
 refine h3 ?_
 rw [← hl]
 exact (aL.1 hx).1
theorem Nf (s:ByteArray)(i:Nat):0≤tU s i∧tU s i≤255:=by
 unfold tU
 have:=(s.data[i]?.getD 0).toNat_lt
 omega
theorem Az (s:ByteArray)(g:FuncId)(p:Int→Bool)(hs:s.size≤1000000)(hg:∀ c,0≤c→c≤255→Pure Tryz.prog g [.int .u8 c] (.bool (p c))) :
  Pure Tryz.prog 408 [.str s,.fn g []] (dI (fD p s)):=by
 refine aM (aG (cfg:=⟨fun _=>false,fun _=>[]⟩) Tz.mixed Tryz.func408 rfl rfl (aE rfl) (by kernel_rfl) ?_)
 simp [go_sem,seval]
 refine eN (ι:=Nat) (fun n e H=>H=.emp∧n≤s.size∧e 0=.str s∧e 1=.fn g []∧e 5=dI n∧(∀ j,j<n→p (tU s j)=true)) (fun n=>s.size - n) 0 (by simp [go_sem,seval,dI]) ?_
 intro n e H ⟨hH,hn,h0,h1,h5,hp⟩
 subst hH
 simp [go_sem,seval,h0,h1,h5,dI]
 have hb:=Nf s n
 refine aK (r:=.bool (p (tU s n))) (fun _=>hg _ hb.1 hb.2) (fun _=>rfl) ?_
 simp [go_sem,seval,h0,h1,h5,dI]
 refine aO (fun h=>?_) (fun h=>?_)
 ·simp at h
  simp [go_sem,seval,h0,h1,h5,dI]
  refine ⟨cF (by omega) (by omega),n+1,by omega,by omega,by omega,fun j hj=>?_⟩
  rcases bN j n with hj'|hj'
  ·exact hp j hj'
  ·have:j=n:=by omega
   subst this;exact h.2
 ·simp at h
  simp [go_sem,seval,h0,h1,h5,dI,D.cl]
  rw [Fq p s n hp hn h]
def HJ {α:Type}[DecidableEq α](xs:List α)(v:α):Int:=match xs.findIdx? (fun x=>decide (x=v)) with|some i=>i|none=>-1
def mem {α:Type}[DecidableEq α](xs:List α)(v:α):Bool:=decide (0≤HJ xs v)
theorem sK {α:Type}[DecidableEq α]{xs:List α}{v:α}{i:Nat}(h:∀ j,j<i→xs[j]?≠some v)(hi:xs[i]?=some v):HJ xs v=i:=by
 have:xs.findIdx? (fun x=>decide (x=v))=some i:=by
  have hlt:=(aL.1 hi).1
  rw [gL]
  refine ⟨hlt,by simpa using (aL.1 hi).2,fun j hj=>?_⟩
  have:=h j hj
  rw [aA (by omega)] at this
  simpa using this
 simp [HJ,this]
theorem zZ {α:Type}[DecidableEq α]{xs:List α}{v:α}(h:∀ j,j<xs.length→xs[j]?≠some v):HJ xs v = -1:=by
 have:xs.findIdx? (fun x=>decide (x=v))=none:=by
  rw [pJ]
  intro x hx
  obtain ⟨j,hj,rfl⟩:=aN hx
  have:=h j hj
  rw [aA hj] at this
  simpa using this
 simp [HJ,this]
theorem Pb {α:Type}[DecidableEq α](xs:List α)(v:α):0≤HJ xs v↔v∈xs:=by
 unfold HJ
 cases h:xs.findIdx? (fun x=>decide (x=v)) with
 | none =>
  rw [pJ] at h
  constructor
  ·intro h';simp at h'
  ·intro hv;have:=h v hv;simp at this
 | some i =>
  rw [gL] at h
  obtain ⟨hi,hv,_⟩:=h
  have:xs[i]=v:=by simpa using hv
  constructor
  ·intro _;rw [← this];exact aC hi
  ·intro _;simp
theorem cW {α:Type}[DecidableEq α](xs:List α)(v:α):mem xs v=true↔v∈xs:=by simp [mem,Pb]
theorem MY (xs:List ByteArray)(v:ByteArray):Pure Tryz.prog 433 [qL xs,.str v] (dI (HJ xs v)):=by
 refine aM (aG (cfg:=⟨fun _=>false,fun _=>[]⟩) Tz.mixed Tryz.func433 rfl rfl (aE rfl) (by kernel_rfl) ?_)
 simp [go_sem,seval,dI,qL]
 intro hlen
 refine eN (ι:=Nat) (fun i e H=>H=.emp∧i≤xs.length∧e 0=qL xs∧e 1=.str v∧e 7=dI xs.length∧e 8=dI i∧(∀ j,j<i→xs[j]?≠some v)) (fun i=>xs.length - i) 0 (by simp [go_sem,seval,dI,qL]) ?_
 intro i e H ⟨hH,hi,h0,h1,h7,h8,hn⟩
 subst hH
 simp [go_sem,seval,h0,h1,h7,h8,dI,qL]
 refine eU (fun hlt=>?_) (fun hge=>?_)
 ·simp [go_sem,seval,h0,h1,h7,h8,dI,qL,cS,hlt]
  refine aO (fun h=>?_) (fun h=>?_)
  ·simp at h
   simp [go_sem,seval,h0,h1,h7,h8,dI,qL,D.cl]
   rw [sK hn (by rw [aA hlt,h])]
  ·simp at h
   simp [go_sem,seval,h0,h1,h7,h8,dI,qL,D.cl]
   refine ⟨cF (by omega) (by omega),i+1,by omega,by omega,by omega,fun j hj=>?_⟩
   rcases bN j i with hj'|hj'
   ·exact hn j hj'
   ·have:j=i:=by omega
    subst this;rw [aA hlt];simpa using fun e=>h e.symm
 ·simp [go_sem,seval,h0,h1,h7,h8,dI,qL,D.cl]
  rw [zZ fun j hj=>hn j (by omega)]
theorem Ab (xs:List ByteArray)(v:ByteArray):Pure Tryz.prog 396 [qL xs,.str v] (.bool (mem xs v)):=by
 refine aM (aG (cfg:=⟨fun _=>false,fun _=>[]⟩) Tz.mixed Tryz.func396 rfl rfl (aE rfl) (by kernel_rfl) ?_)
 simp [go_sem,seval]
 refine aB (MY xs v) (by simp [D.clL,go_sem,D.cl,dI]) ?_
 simp [go_sem,seval,D.cl,dI,mem]
theorem MZ (xs:List Int)(v:Int):Pure Tryz.prog 188 [dLI xs,dI v] (dI (HJ xs v)):=by
 refine aM (aG (cfg:=⟨fun _=>false,fun _=>[]⟩) Tz.mixed Tryz.func188 rfl rfl (aE rfl) (by kernel_rfl) ?_)
 simp [go_sem,seval,dI,dLI]
 intro hlen
 refine eN (ι:=Nat) (fun i e H=>H=.emp∧i≤xs.length∧e 0=dLI xs∧e 1=dI v∧e 7=dI xs.length∧e 8=dI i∧(∀ j,j<i→xs[j]?≠some v)) (fun i=>xs.length - i) 0 (by simp [go_sem,seval,dI,dLI]) ?_
 intro i e H ⟨hH,hi,h0,h1,h7,h8,hn⟩
 subst hH
 simp [go_sem,seval,h0,h1,h7,h8,dI,dLI]
 refine eU (fun hlt=>?_) (fun hge=>?_)
 ·simp [go_sem,seval,h0,h1,h7,h8,dI,dLI,cI,hlt]
  refine aO (fun h=>?_) (fun h=>?_)
  ·simp at h
   simp [go_sem,seval,h0,h1,h7,h8,dI,dLI,D.cl]
   rw [sK hn (by rw [aA hlt,h])]
  ·simp at h
   simp [go_sem,seval,h0,h1,h7,h8,dI,dLI,D.cl]
   refine ⟨cF (by omega) (by omega),i+1,by omega,by omega,by omega,fun j hj=>?_⟩
   rcases bN j i with hj'|hj'
   ·exact hn j hj'
   ·have:j=i:=by omega
    subst this;rw [aA hlt];simpa using fun e=>h e.symm
 ·simp [go_sem,seval,h0,h1,h7,h8,dI,dLI,D.cl]
  rw [zZ fun j hj=>hn j (by omega)]
theorem fK (xs:List Int)(v:Int):Pure Tryz.prog 100 [dLI xs,dI v] (.bool (mem xs v)):=by
 refine aM (aG (cfg:=⟨fun _=>false,fun _=>[]⟩) Tz.mixed Tryz.func100 rfl rfl (aE rfl) (by kernel_rfl) ?_)
 simp [go_sem,seval]
 refine aB (MZ xs v) (by simp [D.clL,go_sem,D.cl,dI]) ?_
 simp [go_sem,seval,D.cl,dI,mem]
def mK (c:Int):Bool:=decide (32≤c)&&decide (c≤126)&&c != 34
theorem Ev (c:Int):Pure Tryz.prog 445 [.int .u8 c] (.bool (mK c)):=by
 refine aM (aG (cfg:=⟨fun _=>false,fun _=>[]⟩) Tz.mixed Tryz.func445 rfl rfl (aE rfl) (by kernel_rfl) ?_)
 simp [go_sem,seval,mK,D.cl]
def tH (s:ByteArray):Int × Int :=
 let n:=fD mK (s.extract 1 s.size)
 if (1+(n:Int)=s.size)∨tU s (1+n)≠34 then (0,2) else if 60<n then (0,3) else (n+2,0)
theorem AI (p:Int→Bool)(s:ByteArray):fD p s≤s.size:=by
 have:=(List.takeWhile_sublist (l:=s.data.toList) (fun b:UInt8=>p (b.toNat:Int))).length_le
 exact this
theorem GB (s:ByteArray)(h1:1≤s.size)(h2:s.size≤100000):Pure Tryz.prog 411 [.str s] (.tup [dI (tH s).1,dI (tH s).2]):=by
 refine aM (aG (cfg:=⟨fun _=>false,fun _=>[]⟩) Tz.mixed Tryz.func411 rfl rfl (aE rfl) (by kernel_rfl) ?_)
 simp [go_sem,seval,h1]
 have hx:(s.extract 1 s.size).size≤1000000:=by rw [ByteArray.size_extract];omega
 refine ⟨by omega,aB (Az (s.extract 1 s.size) _ _ hx (fun c _ _=>Ev c)) rfl ?_⟩
 have hl:=AI mK (s.extract 1 s.size)
 rw [ByteArray.size_extract] at hl
 simp [go_sem,seval,dI]
 unfold tH
 generalize fD mK (s.extract 1 s.size)=n at *
 have hb:((s.data[(1+(n:Int)).toNat]?.getD 0).toNat:Int)=tU s (1+n):=by
  unfold tU;congr 3
 rw [hb]
 refine ⟨cF (by omega) (by omega),fun _=>cF (by omega) (by omega),fun h=>by omega,aO (fun h=>?_) (fun h=>?_)⟩
 ·simp at h
  simp [go_sem,seval,h]
 ·simp at h
  simp [go_sem,seval,h]
  refine aO (fun h6=>?_) (fun h6=>?_)
  ·simp at h6
   simp [go_sem,seval,show 60<n by omega]
  ·simp at h6
   simp [go_sem,seval,show ¬ 60<n by omega]
   exact cF (by omega) (by omega)
def FC:List ByteArray:=[⟨#[45,62]⟩,⟨#[60,61]⟩,⟨#[62,61]⟩,⟨#[61,61]⟩,⟨#[33,61]⟩]
theorem J3 (s:ByteArray):Pure Tryz.prog 412 [.str s] (.bool (decide ((2:Int)≤s.size)&&mem FC (s.extract 0 2))):=by
 refine aM (aG (cfg:=⟨fun _=>false,fun _=>[]⟩) Tz.mixed Tryz.func412 rfl rfl (aE rfl) (by kernel_rfl) ?_)
 simp [go_sem,seval]
 refine aK (r:=.bool (mem FC (s.extract 0 2))) (fun _=>Ab FC (s.extract 0 2)) (fun _=>rfl) ?_
 simp [go_sem,seval]
def Ls:ByteArray:=⟨#[123,125,40,41,91,93,44,59,58,61,43,45,42,60,62,33,38,124,46,63]⟩
def Hd (s:ByteArray)(c:Int):Int:=firstIdx s c.toNat.toUInt8
theorem JE (s:ByteArray)(c:Int)(w:World):(callFunc 457 #[.string s,.int .u8 c]).run Tryz.prog w=.ok (.value (.int .i64 (firstIdx s c.toNat.toUInt8))) w:=by
 rw [run_callFunc_extern Tryz.func457 (by kernel_rfl) (by kernel_rfl) (by kernel_rfl) (e:=Extern.BytealgIndexByte.indexByte) (by kernel_rfl),run_indexByte_string]
 rfl
set_option maxHeartbeats 400000 in
open RowKit in
theorem yZ (s:ByteArray)(c:Int)(w:World) :
  Calls Tryz.prog 446 #[.string s,.int .u8 c] w fun e w'=>e=.returned (.int .i64 (firstIdx s c.toNat.toUInt8))∧w'=w:=by
 have h:=JE s c
 go_enter Tryz.func446,Tryz.ntmps446
 go_wp2
 go_ret
 exact ⟨rfl,rfl⟩
theorem uN (s : ByteArray) (c : Int) : Pure Tryz.prog 446 [.str s, .int .u8 c] (dI (Hd s c)) := by
  refine ⟨⟨Tryz.f446, Tryz.func446, rfl, rfl⟩, fun M w vals hM ha => ?_⟩
  have hv : vals = [.string s, .int .u8 c] := by
    obtain ⟨hl, hr⟩ := ha
    match vals, hl with
    | [a, b], _ =>
      have h0 := hr 0 a _ rfl rfl
      have h1 := hr 1 b _ rfl rfl
      cases h0
      cases h1
      rfl
  subst hv
  exact (yZ s c w).mono fun e w' ⟨h1, h2⟩ => ⟨_, h1, .int _ _, by subst h2; exact ⟨rfl, rfl, rfl, bC _, fun _ _ => rfl⟩⟩
theorem y0 (s:ByteArray)(c:Int):Pure Tryz.prog 413 [.str s,.int .u8 c] (dI (Hd s c)):=by
 refine aM (aG (cfg:=⟨fun _=>false,fun _=>[]⟩) Tz.mixed Tryz.func413 rfl rfl (aE rfl) (by kernel_rfl) ?_)
 simp [go_sem,seval]
 refine aB (uN s c) rfl ?_
 simp [go_sem,seval,dI]
def oR (s:ByteArray):Int × Int × Int :=
 if gS (tU s 0)=true then (if 20<fD mM s then (0,0,3) else (1,fD mM s,0))
 else if iV (tU s 0)=true then (if 9<fD iV s then (0,0,3) else (2,fD iV s,0))
 else if tU s 0=34 then (3,(tH s).1,(tH s).2)
 else if (decide ((2:Int)≤s.size)&&mem FC (s.extract 0 2))=true then (4,2,0)
 else if 0≤Hd Ls (tU s 0) then (4,1,0) else (0,0,2)
theorem J4 (s:ByteArray)(h1:1≤s.size)(h2:s.size≤100000):Pure Tryz.prog 365 [.str s] (.tup [dI (oR s).1,dI (oR s).2.1,dI (oR s).2.2]):=by
 refine aM (aG (cfg:=⟨fun _=>false,fun _=>[]⟩) Tz.mixed Tryz.func365 rfl rfl (aE rfl) (by kernel_rfl) ?_)
 simp [go_sem,seval]
 have hb:((s.data[0]?.getD 0).toNat:Int)=tU s 0:=rfl
 simp only [hb]
 refine ⟨by omega,aB (yX _) rfl ?_⟩
 simp [go_sem,seval]
 refine aO (fun hl=>?_) (fun hl=>?_)
 ·simp [go_sem,seval]
  refine aB (Az s _ _ (by omega) (fun c _ _=>J2 c)) rfl ?_
  simp [go_sem,seval,dI]
  refine aO (fun h=>?_) (fun h=>?_)
  ·simp at h
   simp [go_sem,seval,oR,hl,show 20<fD mM s by omega]
  ·simp at h
   simp [go_sem,seval,oR,hl,show ¬ 20<fD mM s by omega]
 ·simp [go_sem,seval]
  refine aB (uY _) rfl ?_
  simp [go_sem,seval]
  refine aO (fun hd=>?_) (fun hd=>?_)
  ·simp [go_sem,seval]
   refine aB (Az s _ _ (by omega) (fun c _ _=>uY c)) rfl ?_
   simp [go_sem,seval,dI]
   refine aO (fun h=>?_) (fun h=>?_)
   ·simp at h
    simp [go_sem,seval,oR,hl,hd,show 9<fD iV s by omega]
   ·simp at h
    simp [go_sem,seval,oR,hl,hd,show ¬ 9<fD iV s by omega]
  ·simp [go_sem,seval]
   refine aO (fun hq=>?_) (fun hq=>?_)
   ·simp at hq
    simp [go_sem,seval]
    refine aB (GB s h1 h2) rfl ?_
    have e:oR s=(3,(tH s).1,(tH s).2):=by unfold oR;rw [if_neg (by simp [hl]),if_neg (by simp [hd]),if_pos hq]
    simp [go_sem,seval,dI,e]
   ·simp at hq
    simp [go_sem,seval]
    refine aB (J3 s) rfl ?_
    simp [go_sem,seval]
    refine aO (fun hp=>?_) (fun hp=>?_)
    ·simp [go_sem,seval,oR,hl,hd,hq,hp,dI]
    ·simp [go_sem,seval]
     refine aB (y0 Ls _) rfl ?_
     simp [go_sem,seval,dI]
     refine eU (fun hi=>?_) (fun hi=>?_)
     ·simp [go_sem,seval,oR,hl,hd,hq,hp,hi]
     ·simp [go_sem,seval,oR,hl,hd,hq,hp,hi]
def jY (s:ByteArray):Bool:=decide (s.size≠0)&&gS (tU s 0)&&decide (fD mM s≤20)&&decide (fD mM s=s.size)
theorem nS (s:ByteArray):s=⟨#[]⟩↔s.size=0:=by
 constructor
 ·intro h;subst h;rfl
 ·intro h
  cases s with
  | mk d=>congr 1;exact Array.size_eq_zero_iff.1 h
theorem MO (s:ByteArray)(hz:¬ s.size=0):(decide ((oR s).2.2=0)&&decide ((oR s).1=1)&&(oR s).2.1==(s.size:Int))=jY s:=by
 unfold oR jY
 by_cases hl:gS (tU s 0)=true
 ·simp only [if_pos hl,hl]
  by_cases h:20<fD mM s
  ·simp [h];intros;omega
  ·simp [h,hz,show fD mM s≤20 by omega]
   rw [aV];simp;omega
 ·simp only [if_neg hl]
  have hl':gS (tU s 0)=false:=by simpa using hl
  simp only [hl']
  repeat' split
  all_goals simp
theorem HV (s:ByteArray)(h2:s.size≤100000):∃ s',Pure Tryz.prog 301 [.agg [dI 1,.str s,dI 0]] (.tup [.str s',.bool (jY s)]):=by
 by_cases hz:s.size=0
 ·refine ⟨⟨#[]⟩,aM (aG (cfg:=⟨fun _=>false,fun _=>[]⟩) Tz.mixed Tryz.func301 rfl rfl (aE rfl) (by kernel_rfl) ?_)⟩
  simp [go_sem,seval,dI]
  refine aO (fun h=>?_) (fun h=>?_)
  ·simp [go_sem,seval,jY,hz]
  ·simp [nS,hz] at h
 ·refine ⟨s,aM (aG (cfg:=⟨fun _=>false,fun _=>[]⟩) Tz.mixed Tryz.func301 rfl rfl (aE rfl) (by kernel_rfl) ?_)⟩
  simp [go_sem,seval,dI]
  refine aO (fun h=>?_) (fun h=>?_)
  ·simp [nS,hz] at h
  ·simp [go_sem,seval]
   refine aB (J4 s (by omega) h2) rfl ?_
   simp [go_sem,seval,dI]
   exact MO s hz
theorem mD (s:ByteArray)(h2:s.size≤100000):Pure Tryz.prog 213 [.str s] (.bool (jY s)):=by
 obtain ⟨s',hw⟩:=HV s h2
 refine aM (aG (cfg:=⟨fun _=>false,fun _=>[]⟩) Tz.mixed Tryz.func213 rfl rfl (aE rfl) (by kernel_rfl) ?_)
 simp [go_sem,seval,dI]
 refine aB hw rfl ?_
 simp [go_sem,seval,dI]
end Go.Abs
end
