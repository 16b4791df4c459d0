/- Hosts of the program: node, Valid. · Values of the program:  -/
import Derived.Test.YtjfaalokjnmdoaaGreatZcAF
import Derived.Test.YtjfaalokjnmdoaaGreatZcAP
import Derived.Test.YtjfaalokjnmdoaaGreatZcAA
import Derived.Laws.Externs
set_option linter.unusedVariables false
set_option linter.unusedSimpArgs false
section
set_option maxRecDepth 100000
set_option maxHeartbeats 4000000
open Go Go.Proofs
namespace Go.Abs
theorem QG (t:Types)(ht:t.ok)(kind:Int)(hk:0≤kind)(vs:List Int):Pure Tryz.prog 73 [t.d,dI kind,dLI vs] (dI (iT t kind vs)):=by
 refine Tz.pK ⟨fun t=>t==10,fun _=>[]⟩ Tryz.func73 rfl (fun Q hQ=>?_)
 have Y:=trivial
 refine wv (h:=?_)
 repeat first|intro _|refine ⟨fF,?_⟩
 refine wq (fun h1=>?_) fun h1=>?_
 ·have hE:iT t kind vs=6:=by unfold iT;rw [if_pos (by omega)]
  exact wv (h:=hQ _ _ (by simp [go_sem,hE]))
 ·have hkn:kind.toNat<t.nodes.length:=by omega
  have hA:j6 t kind.toNat=t.nodes[kind.toNat].abs:=by simp [j6,aA hkn]
  have hE0:iT t kind vs=if j6 t kind.toNat=true then 13 else if vs.length≠(bI t kind).length then 20 else bR (Hr (bI t kind) vs) 0 (bI t kind).length:=by unfold iT;rw [if_neg (by omega)]
  rw [hA] at hE0
  have Y:=wa Y (wa (aA hkn) @NodeTy.c.eq_1)
  refine wv (h:=?_)
  repeat first|intro _|refine ⟨fF,?_⟩
  refine wq (fun h3=>?_) fun h3=>?_
  ·rw [if_pos (by simpa using h3)] at hE0
   exact wv (h:=hQ _ _ (by simp [go_sem,hE0]))
  ·rw [if_neg (by simpa using h3)] at hE0
   refine wv (h:=aB (oO t ht kind) wl ?_)
   refine wv (h:=?_)
   repeat first|intro _|refine ⟨fF,?_⟩
   refine wq (fun h6=>?_) fun h6=>?_
   ·rw [if_pos (by omega)] at hE0
    exact wv (h:=hQ _ _ (by simp [go_sem,hE0]))
   ·rw [if_neg (by omega)] at hE0
    have hln:vs.length=(bI t kind).length:=by omega
    refine wo (h:=bP (fun k e H=>(e 3=.adr t.c∧e 2=dLI vs∧e 33=.list ((bI t kind).map Attr.c)∧e 34=dI (bI t kind).length∧e 35=dI k)∧(k≤(bI t kind).length)∧(bR (Hr (bI t kind) vs) k ((bI t kind).length - k)=iT t kind vs)) (fun k=>(bI t kind).length - k) 0 ⟨wg,wi,(by exact hE0.symm)⟩ fun I0 hI0 k e H hi0=>?_)
    obtain ⟨E0,hkl,hF⟩:=hi0
    have Y:=wa Y E0
    refine dO (fun h9=>?_) fun h9=>?_
    ·have hv:k<vs.length:=by omega
     have hst:=fS (Hr (bI t kind) vs) h9
     rw [hF] at hst
     have hLE:Hr (bI t kind) vs k=if vs[k]<(bI t kind)[k].low∨(bI t kind)[k].high<vs[k] then 6 else 0:=by simp only [Hr,aA hv,aA h9,aD]
     have Y:=wa Y (wa h9 (wa (aA hv) (wa (aA h9) @Attr.c.eq_1)))
     refine wv (h:=?_)
     repeat first|intro _|refine ⟨fF,?_⟩
     refine wq (fun h11=>?_) fun h11=>?_
     ·rw [if_pos (by omega)] at hLE
      rw [hLE,if_pos (by omega)] at hst
      exact wv (h:=hQ _ _ (by simp [go_sem,hst]))
     ·rw [if_neg (by omega)] at hLE
      rw [hLE,if_neg (by omega)] at hst
      exact wo (h:=wx hI0 (k+1) ⟨wg,wj,(by exact hst.symm)⟩)
    ·have hZ:iT t kind vs=0:=by rw [← hF,show (bI t kind).length - k=0 by omega];rfl
     exact wv (h:=hQ _ _ (by simp [go_sem,hZ]))
theorem u4 (t:Types)(ht:t.ok)(h:Host):Pure Tryz.prog 26 [t.d,h.d] (.tup [dI (vW t h).1,dI (vW t h).2]):=by
 refine Tz.pK ⟨fun t=>t==13,fun _=>[]⟩ Tryz.func26 rfl (fun Q hQ=>?_)
 have Y:=wa @Host.d.eq_1 @Host.c.eq_1
 refine wv (h:=aB (mE t ht) wl ?_)
 refine dO (fun h2=>?_) fun h2=>?_
 ·have hE:vW t h=(-1,(b9 t).2):=by unfold vW;rw [if_pos (by simpa using h2)]
  exact wv (h:=hQ _ _ (by simp [go_sem,hE]))
 ·have hE0:vW t h=if graphF h.graph≠0 then (-1,graphF h.graph) else if h.values.length≠h.graph.nodes.length then (-1,20) else if (jK (Oe t h) 0 h.graph.nodes.length).2≠0 then jK (Oe t h) 0 h.graph.nodes.length else jK (TP t h) 0 h.graph.edges.length:=by unfold vW;rw [if_neg (by simpa using h2)]
  refine wv (h:=aB (k8 h.graph) wl ?_)
  refine dO (fun h5=>?_) fun h5=>?_
  ·rw [if_pos (by simpa using h5)] at hE0
   exact wv (h:=hQ _ _ (by simp [go_sem,hE0]))
  ·rw [if_neg (by simpa using h5)] at hE0
   have hg0:graphF h.graph=0:=by simpa using h5
   have hgi:=dL hg0
   have hgl:=cC hg0
   refine fJ (fun h7=>?_) fun h7=>?_
   ·rw [if_pos (by omega)] at hE0
    exact wv (h:=hQ _ _ (by simp [go_sem,hE0]))
   ·rw [if_neg (by omega)] at hE0
    refine wo (h:=bP (fun i e H=>(e 2=.adr t.c∧e 3=.adr h.c∧e 38=dLI h.graph.nodes∧e 39=dI h.graph.nodes.length∧e 40=dI i)∧(i≤h.graph.nodes.length)∧(jK (Oe t h) i (h.graph.nodes.length - i)=jK (Oe t h) 0 h.graph.nodes.length)) (fun i=>h.graph.nodes.length - i) 0 ⟨wg,wi,(by rfl)⟩ fun I0 hI0 i e H hi0=>?_)
    obtain ⟨E0,hi,hF⟩:=hi0
    have Y:=wa Y E0
    refine dO (fun h10=>?_) fun h10=>?_
    ·have hv:i<h.values.length:=by omega
     have hn0:0≤h.graph.nodes[i]:=(hgi.1 _ (aC h10)).1
     have hst:=BB (Oe t h) h10
     rw [hF] at hst
     have hNE:Oe t h i=iT t h.graph.nodes[i] h.values[i]:=by simp only [Oe,aA hv,aA h10,aD]
     have Y:=wa Y (wa h10 (wa (aA hv) (wa (aA h10) @cL.eq_1)))
     refine wo (h:=aQ (QG t ht h.graph.nodes[i] hn0 h.values[i]) wl ?_)
     refine fJ (fun h13=>?_) fun h13=>?_
     ·rw [hNE,if_pos (by simpa using h13)] at hst
      rw [hst,if_pos (by simpa using h13)] at hE0
      exact wv (h:=hQ _ _ (by simp [go_sem,hE0]))
     ·rw [hNE,if_neg (by simpa using h13)] at hst
      exact wo (h:=wx hI0 (i+1) ⟨wg,wj,(by exact hst.symm)⟩)
    ·have hN0:jK (Oe t h) 0 h.graph.nodes.length=(-1,0):=by rw [← hF,show h.graph.nodes.length - i=0 by omega];rfl
     rw [hN0,if_neg (by simp)] at hE0
     refine wo (h:=bP (fun j e H=>(e 2=.adr t.c∧e 3=.adr h.c∧e 60=.list (h.graph.edges.map Edge.c)∧e 61=dI h.graph.edges.length∧e 62=dI j)∧(j≤h.graph.edges.length)∧(jK (TP t h) j (h.graph.edges.length - j)=vW t h)) (fun j=>h.graph.edges.length - j) 0 ⟨wg,wi,(by exact hE0.symm)⟩ fun I2 hI2 j e H hi2=>?_)
     obtain ⟨E2,hj,hG⟩:=hi2
     have Y:=wa Y E2
     refine dO (fun h17=>?_) fun h17=>?_
     ·obtain ⟨x,hx⟩:∃ x,x=h.graph.edges[j]:=⟨_,rfl⟩
      have hxi:=(hgi.2 _ (aC h17)).2
      rw [← hx] at hxi
      have hxf:x.from_.toNat<h.graph.nodes.length:=by omega
      have hxt:x.to_.toNat<h.graph.nodes.length:=by omega
      have hst:=BB (TP t h) h17
      rw [hG] at hst
      have hEE:TP t h j=if (t.edges.length:Int)≤x.type then 6 else if j4 t x.type h.graph.nodes[x.from_.toNat] h.graph.nodes[x.to_.toNat]=true then 0 else 13:=by simp only [TP,gN,aA h17,aD,← hx,aA hxf,aA hxt]
      have Y:=wa Y (wa h17 (wa (aA h17) (wa (Eq.symm hx) (wa (aA hxf) (aA hxt)))))
      refine fJ (fun h19=>?_) fun h19=>?_
      ·rw [if_pos (by omega)] at hEE
       rw [hEE,if_pos (by omega)] at hst
       exact wv (h:=hQ _ _ (by simp [go_sem,hst]))
      ·rw [if_neg (by omega)] at hEE
       refine wo (h:=aQ (EF t ht x.type h.graph.nodes[x.from_.toNat] h.graph.nodes[x.to_.toNat]) wl ?_)
       refine fJ (fun h21=>?_) fun h21=>?_
       ·rw [if_neg (by simpa using h21)] at hEE
        rw [hEE,if_pos (by omega)] at hst
        exact wv (h:=hQ _ _ (by simp [go_sem,hst]))
       ·rw [if_pos (by simpa using h21)] at hEE
        rw [hEE,if_neg (by omega)] at hst
        exact wo (h:=wx hI2 (j+1) ⟨wg,wj,(by exact hst.symm)⟩)
     ·have hZ:vW t h=(-1,0):=by rw [← hG,show h.graph.edges.length - j=0 by omega];rfl
      exact wv (h:=hQ _ _ (by simp [go_sem,hZ]))
end Go.Abs
end
section
set_option maxRecDepth 60000
set_option maxHeartbeats 4000000
open Go Go.Proofs
namespace Go.Abs
def Pn (s:Int):Int:=if s<0 then -1 else 0
def L5 (s:Int):Int:=s % 18446744073709551616
theorem Q4 (x y:Int)(hx:0≤x)(hy:0≤y)(w:World):(callFunc 378 #[.int .u64 x,.int .u64 y,.int .u64 0]).run Tryz.prog w =
  .ok (.value (.tuple #[.int .u64 ((x+y+0) % 18446744073709551616),.int .u64 ((x+y+0) / 18446744073709551616)])) w:=by
 rw [run_callFunc_extern Tryz.func378 (by kernel_rfl) (by kernel_rfl) (by kernel_rfl) (e:=add64Entry) (by kernel_rfl),run_add64 x y 0 hx hy (by omega) (by omega)]
 rfl
open RowKit in
theorem M8 (a b:Int)(ha : -4000000≤a∧a≤4000000)(hb : -4000000≤b∧b≤4000000)(w:World) :
  Calls Tryz.prog 320 #[.int .i64 a,.int .i64 b] w fun e w'=>e=.returned (.tuple #[.int .i64 (Pn (a+b)),.int .u64 (L5 (a+b))])∧w'=w:=by
 have h:=Q4 (IntKind.u64.wrap a) (IntKind.u64.wrap b) (by rw [IntKind.wrap_u64];omega) (by rw [IntKind.wrap_u64];omega) w
 simp only [Int.add_zero] at h
 go_enter Tryz.func320,Tryz.ntmps320
 go_wp2
 have wa:IntKind.u64.wrap a=if a<0 then a+18446744073709551616 else a:=by rw [IntKind.wrap_u64];split<;>omega
 have wb:IntKind.u64.wrap b=if b<0 then b+18446744073709551616 else b:=by rw [IntKind.wrap_u64];split<;>omega
 have e1:wrap64 (a / 9223372036854775808+b / 9223372036854775808+wrap64 ((IntKind.u64.wrap a+IntKind.u64.wrap b) / 18446744073709551616))=Pn (a+b):=by
  rw [wa,wb];unfold Pn wrap64
  repeat' split
  all_goals omega
 have e2:(IntKind.u64.wrap a+IntKind.u64.wrap b) % 18446744073709551616=L5 (a+b):=by
  rw [wa,wb];unfold L5
  repeat' split
  all_goals omega
 rw [e1,e2]
 go_ret2
 exact ⟨rfl,rfl⟩
theorem vX (a b : Int) (ha : -4000000 ≤ a ∧ a ≤ 4000000) (hb : -4000000 ≤ b ∧ b ≤ 4000000) : Pure Tryz.prog 320 [dI a, dI b] (.tup [dI (Pn (a + b)), .int .u64 (L5 (a + b))]) := by
  refine ⟨⟨Tryz.f320, Tryz.func320, rfl, rfl⟩, fun M w vals hM ha' => ?_⟩
  have hv : vals = [.int .i64 a, .int .i64 b] := by
    obtain ⟨hl, hr⟩ := ha'
    match vals, hl with
    | [x, y], _ =>
      have h0 := hr 0 x _ rfl rfl
      have h1 := hr 1 y _ rfl rfl
      cases h0
      cases h1
      rfl
  subst hv
  exact (M8 a b ha hb w).mono fun e w' ⟨h1, h2⟩ => ⟨_, h1, .tup _ _ rfl (fun j u d hu hd => by
    match j with
    | 0 => simp at hu hd; subst hu; subst hd; exact .int _ _
    | 1 => simp at hu hd; subst hu; subst hd; exact .int _ _
    | j + 2 => simp at hu), by subst h2; exact ⟨rfl, rfl, rfl, aY _, fun _ _ => rfl⟩⟩
theorem sB (x:Term)(vs:List Int)(hx:nI x vs.length)(hs:Sm vs):Pure Tryz.prog 319 [.agg x.c,.adr [dLI vs]] (.tup [dI (Pn (c5 x vs)),.int .u64 (L5 (c5 x vs)),.bool true]):=by
 have hx0:=hx
 obtain ⟨⟨a1,a2⟩,a3,a4⟩:=hx0
 refine Tz.pK ⟨fun _=>false,fun _=>[]⟩ Tryz.func319 rfl (fun Q hQ=>?_)
 have Y:=@Term.c.eq_1
 refine dO (fun h1=>?_) fun h1=>?_
 ·have hT:c5 x vs=0+x.add:=by unfold c5;rw [if_pos (by omega)];omega
  refine wv (h:=aB (vX 0 x.add (by omega) (by omega)) wl ?_)
  exact wv (h:=hQ _ _ (by simp [go_sem,hT]))
 ·have hk:x.var.toNat<vs.length:=by omega
  have hb:=hs.get hk
  have hT:c5 x vs=vs[x.var.toNat]+x.add:=by unfold c5;rw [if_neg (by omega),aA hk];rfl
  have w1:¬ x.var<0:=by omega
  have w2:¬ (vs.length:Int)≤x.var:=by omega
  have Y:=wa Y (wa (aA hk) (wa w1 w2))
  refine wo (h:=aQ (vX vs[x.var.toNat] x.add hb (by omega)) wl ?_)
  exact wo (h:=hQ _ _ (by simp [go_sem,hT]))
theorem GC (a:Int):Pure Tryz.prog 379 [.int .u64 a] (.bool false):=by
 refine Tz.pK ⟨fun _=>false,fun _=>[]⟩ Tryz.func379 rfl (fun Q hQ=>?_)
 have Y:=trivial
 exact wv (h:=hQ _ _ wy)
theorem J3 (a b:Int):Pure Tryz.prog 321 [.int .u64 a,.int .u64 b] (dI (cmp1 a b)):=by
 refine Tz.pK ⟨fun _=>false,fun _=>[]⟩ Tryz.func321 rfl (fun Q hQ=>?_)
 have Y:=trivial
 refine wv (h:=aB (GC a) wl ?_)
 refine wv (h:=aB (GC b) wl ?_)
 refine dO (fun h9=>?_) fun h9=>?_
 ·have Y:=wa Y (wa h9 @cmp1.eq_1)
  exact wv (h:=hQ _ _ wy)
 ·refine dO (fun h11=>?_) fun h11=>?_
  ·have Y:=wa Y (wa h9 (wa h11 @cmp1.eq_1))
   exact wv (h:=hQ _ _ wy)
  ·have Y:=wa Y (wa h9 (wa h11 @cmp1.eq_1))
   exact wv (h:=hQ _ _ wy)
def SR (a b:Int):Int:=Sw [cmp1 (Pn a) (Pn b),cmp1 (L5 a) (L5 b)]
theorem SQ {a b:Int}(ha : -10000000≤a∧a≤10000000)(hb : -10000000≤b∧b≤10000000):SR a b=if a<b then -1 else if b<a then 1 else 0:=by
 have la:L5 a=if a<0 then a+18446744073709551616 else a:=by unfold L5;split<;>omega
 have lb:L5 b=if b<0 then b+18446744073709551616 else b:=by unfold L5;split<;>omega
 unfold SR
 simp only [Sw,cmp1,Pn,la,lb]
 repeat' split
 all_goals omega
theorem EL {x:Term}{vs:List Int}(hx:nI x vs.length)(hs:Sm vs) : -10000000≤c5 x vs∧c5 x vs≤10000000:=by
 obtain ⟨⟨a1,a2⟩,a3,a4⟩:=hx
 unfold c5
 split
 ·omega
 ·have hk:x.var.toNat<vs.length:=by omega
  have hb:=hs.get hk
  rw [aA hk,aD]
  omega
theorem t8 (x:Test)(vs:List Int)(hx:OS x vs.length)(hs:Sm vs):Pure Tryz.prog 223 [.agg x.c,dLI vs] (.bool (Nf x vs)):=by
 obtain ⟨hk,hl,hr⟩:=hx
 have hO:=SQ (EL hl hs) (EL hr hs)
 have hOe:SR (c5 x.left vs) (c5 x.right vs)=Sw [cmp1 (Pn (c5 x.left vs)) (Pn (c5 x.right vs)),cmp1 (L5 (c5 x.left vs)) (L5 (c5 x.right vs))]:=rfl
 obtain ⟨o,ho⟩:∃ o,o=SR (c5 x.left vs) (c5 x.right vs):=⟨_,rfl⟩
 rw [← ho] at hO hOe
 have hT:Nf x vs=(decide (x.kind=1)&&decide (o≤0)||decide (x.kind=2)&&decide (o=0)):=by
  unfold Nf
  rw [hO,aS]
  simp
  constructor
  ·rintro (⟨h1,h2⟩|⟨h1,h2⟩)
   ·left;refine ⟨h1,?_⟩;split<;>(try split)<;>omega
   ·right;refine ⟨h1,?_⟩;rw [h2];simp
  ·rintro (⟨h1,h2⟩|⟨h1,h2⟩)
   ·left;refine ⟨h1,?_⟩;split at h2<;>(try split at h2)<;>omega
   ·right;refine ⟨h1,?_⟩;split at h2<;>(try split at h2)<;>omega
 refine Tz.pK ⟨fun _=>false,fun _=>[]⟩ Tryz.func223 rfl (fun Q hQ=>?_)
 have Y:=@Test.c.eq_1
 refine wv (h:=?_)
 refine aB (sB x.left vs hl hs) wl ?_
 refine wv (h:=?_)
 refine aB (sB x.right vs hr hs) wl ?_
 refine wv (h:=?_)
 repeat first|intro _|refine ⟨fF,?_⟩
 refine aB (MC (Pn (c5 x.left vs)) (Pn (c5 x.right vs))) wl ?_
 refine wv (h:=?_)
 repeat first|intro _|refine ⟨fF,?_⟩
 refine aB (J3 (L5 (c5 x.left vs)) (L5 (c5 x.right vs))) wl ?_
 refine wv (h:=?_)
 repeat first|intro _|refine ⟨fF,?_⟩
 refine aB ((by have hq:=U3 [cmp1 (Pn (c5 x.left vs)) (Pn (c5 x.right vs)),cmp1 (L5 (c5 x.left vs)) (L5 (c5 x.right vs))];rw [← hOe] at hq;exact hq)) wl ?_
 refine wv (h:=?_)
 repeat first|intro _|refine ⟨fF,?_⟩
 exact hQ _ _ (by simp [go_sem,hT]<;>(first|rfl|(rw [aS];simp)))
theorem j5 (x:Term)(vs:List Int)(hx:nI x vs.length)(hs:Sm vs):Pure Tryz.prog 222 [.agg x.c,dLI vs] (dI (c5 x vs)):=by
 have hx0:=hx
 obtain ⟨⟨a1,a2⟩,a3,a4⟩:=hx0
 refine Tz.pK ⟨fun _=>false,fun _=>[]⟩ Tryz.func222 rfl (fun Q hQ=>?_)
 have Y:=@Term.c.eq_1
 refine dO (fun h1=>?_) fun h1=>?_
 ·exact wv (h:=hQ _ _ (by simp [go_sem,c5,h1]))
 ·have hk:x.var.toNat<vs.length:=by omega
  have hb:=hs.get hk
  have Y:=wa Y (aA hk)
  exact wo (h:=hQ _ _ (by simp [go_sem,c5,show ¬ x.var<0 by omega,aA hk]))
theorem lC (x:Term)(vs:List Int)(hx:nI x vs.length)(hs:Sm vs):Pure Tryz.prog 332 [.agg x.c,dLI vs] (.tup [dI (c5 x vs),dI 0]):=by
 have hx0:=hx
 obtain ⟨⟨a1,a2⟩,a3,a4⟩:=hx0
 have hin:inF x.var (-1) ((vs.length:Int) - 1)=true:=by unfold inF;simp;omega
 refine Tz.pK ⟨fun _=>false,fun _=>[]⟩ Tryz.func332 rfl (fun Q hQ=>?_)
 have Y:=wa @Term.c.eq_1 hin
 refine wo (h:=aB (iK x.var (-1) ((vs.length:Int) - 1)) wl ?_)
 refine wo (h:=aB (j5 x vs hx hs) wl ?_)
 exact wo (h:=hQ _ _ wy)
end Go.Abs
end
section
set_option maxRecDepth 100000
set_option maxHeartbeats 4000000
open Go Go.Proofs
namespace Go.Abs
theorem EX (t:Types)(a:Int):Pure Tryz.prog 375 [dI a,.adr t.c] (.bool (decide ((t.nodes.length:Int)≤a))):=by
 refine Tz.pK ⟨fun _=>false,fun _=>[]⟩ Tryz.func375 rfl (fun Q hQ=>?_)
 have Y:=trivial
 exact wo (h:=hQ _ _ wy)
theorem EW (t:Types)(x:Edge):Pure Tryz.prog 376 [.agg x.c,.adr t.c] (.bool (decide ((t.edges.length:Int)≤x.type))):=by
 refine Tz.pK ⟨fun _=>false,fun _=>[]⟩ Tryz.func376 rfl (fun Q hQ=>?_)
 have Y:=trivial
 exact wo (h:=hQ _ _ wy)
theorem zS (t:Types)(g:Graph):Pure Tryz.prog 317 [t.d,g.d] (.bool (dP t g)):=by
 refine Tz.pK ⟨fun _=>false,fun _=>[]⟩ Tryz.func317 rfl (fun Q hQ=>?_)
 have Y:=trivial
 refine wo (h:=aB (fB g.nodes 375 [.adr t.c] (fun a=>decide ((t.nodes.length:Int)≤a)) (by simp [go_sem]) (by simp [go_sem]) (fun a _=>EX t a)) wl ?_)
 refine wo (h:=aO (fun hg=>jY g.edges 376 [.adr t.c] (fun x=>decide ((t.edges.length:Int)≤x.type)) (by simp [go_sem]) (by simp [go_sem]) (fun x _=>EW t x)) (fun hg=>wl) ?_)
 exact wo (h:=hQ _ _ (by simp [go_sem,dP];rw [aS];simp))
theorem HO (t:Types){g:Graph}(hg:graphF g=0):dP t g=kF t g:=by
 have hi:=dL hg
 have h1:(g.nodes.any fun n=>decide ((t.nodes.length:Int)≤n))=g.nodes.any fun a=>!insideF t a:=by
  rw [aS,aX,aX]
  constructor<;>rintro ⟨a,ha,h⟩<;>refine ⟨a,ha,?_⟩<;>have:=hi.1 a ha<;>simp [insideF] at h ⊢<;>omega
 have h2:(g.edges.any fun x=>decide ((t.edges.length:Int)≤x.type))=g.edges.any fun x=>!mG t x:=by
  rw [aS,aX,aX]
  constructor<;>rintro ⟨a,ha,h⟩<;>refine ⟨a,ha,?_⟩<;>have:=(hi.2 a ha).1<;>simp [mG] at h ⊢<;>omega
 unfold dP kF
 rw [h1,h2]
def UO (p g:Graph)(i:Nat):Int:=if i=0 then graphF p else graphF g
theorem UN (p g:Graph):bR (UO p g) 0 2=if graphF p≠0 then graphF p else if graphF g≠0 then graphF g else 0:=by simp [bR,UO]
theorem pJ (t:Types)(ht:t.ok)(p g:Graph):Pure Tryz.prog 220 [t.d,p.d,g.d] (dI (eB t p g)):=by
 refine Tz.pK ⟨fun t=>t==10,fun _=>[]⟩ Tryz.func220 rfl (fun Q hQ=>?_)
 have Y:=trivial
 refine wv (h:=aB (mE t ht) wl ?_)
 refine dO (fun h2=>?_) fun h2=>?_
 ·have hA:eB t p g=(b9 t).2:=by unfold eB;rw [if_pos (by simpa using h2)]
  exact wv (h:=hQ _ _ (by simp [go_sem,hA]))
 ·have hA:eB t p g=if graphF p≠0 then graphF p else if graphF g≠0 then graphF g else if (!kF t p||!kF t g)=true then 13 else 0:=by unfold eB;rw [if_neg (by simpa using h2)]
  refine wo (h:=bP (fun i e H=>(e 3=.adr t.c∧e 4=.adr p.c∧e 5=.adr g.c∧e 22=.list [p.c,g.c]∧e 23=dI 2∧e 24=dI i)∧(i≤2)∧(bR (UO p g) i (2 - i)=bR (UO p g) 0 2)) (fun i=>2 - i) 0 ⟨wg,wi,(by rfl)⟩ fun I0 hI0 i e H hi0=>?_)
  obtain ⟨E0,hi,hF⟩:=hi0
  have Y:=wa Y E0
  refine dO (fun h5=>?_) fun h5=>?_
  ·have hi2:i<2:=by omega
   have hst:=fS (UO p g) hi2
   rw [hF] at hst
   obtain ⟨x,hx,hgx⟩:∃ x:Graph,[[D.list (p.nodes.map cI),D.list (p.edges.map Edge.c)],[D.list (g.nodes.map cI),D.list (g.edges.map Edge.c)]][i]?=some [D.list (x.nodes.map cI),D.list (x.edges.map Edge.c)]∧UO p g i=graphF x:=by
    rcases bZ i 1 with h|h
    ·obtain rfl:i=0:=by omega
     exact ⟨p,rfl,rfl⟩
    ·obtain rfl:i=1:=by omega
     exact ⟨g,rfl,rfl⟩
   have hgr:=k8 x
   have Y:=wa Y (wa h5 hx)
   refine wo (h:=aB (hgr) wl ?_)
   refine fJ (fun h8=>?_) fun h8=>?_
   ·have hR:eB t p g=graphF x:=by
     rw [hgx,if_pos (by simpa using h8),UN] at hst
     rw [hA]
     by_cases h1:graphF p=0
     ·rw [if_neg (by simp [h1])] at hst ⊢
      by_cases h2':graphF g=0
      ·rw [if_neg (by simp [h2'])] at hst;exact absurd hst.symm h8
      ·rw [if_pos h2'] at hst ⊢;exact hst
     ·rw [if_pos h1] at hst ⊢;exact hst
    exact wv (h:=hQ _ _ (by simp [go_sem,hR]))
   ·rw [hgx,if_neg (by simpa using h8)] at hst
    exact wo (h:=wx hI0 (i+1) ⟨wg,wj,(by exact hst.symm)⟩)
  ·have hz:bR (UO p g) 0 2=0:=by rw [← hF,show 2 - i=0 by omega];rfl
   have hp0:graphF p=0:=dY _ _ hz 0 (by omega) (by omega)
   have hg0:graphF g=0:=dY _ _ hz 1 (by omega) (by omega)
   rw [if_neg (by simpa using hp0),if_neg (by simpa using hg0),← HO t hp0,← HO t hg0] at hA
   refine wo (h:=aB (zS t p) wl ?_)
   refine wo (h:=aO (fun hg=>zS t g) (fun hg=>wl) ?_)
   refine fJ (fun h11=>?_) fun h11=>?_
   ·rw [if_pos (by simpa [Classical.or_iff_not_imp_left] using h11)] at hA
    exact wv (h:=hQ _ _ (by simp [go_sem,hA]))
   ·rw [if_neg (by simpa [Classical.or_iff_not_imp_left] using h11)] at hA
    exact wv (h:=hQ _ _ (by simp [go_sem,hA]))
/-! ### below -/
def pD (n:Nat)(l:List Int):List Bool:=(List.range n).map fun (b:Nat)=>mem l (b:Int)
@[go_sem] theorem Qs (n:Nat)(l:List Int):(pD n l).length=n:=by simp [pD]
theorem Qr (n:Nat):pD n []=List.replicate n false:=by
 apply dJ (by simp [pD]);intro i h1 h2;simp [pD,pP]
theorem NY (n:Nat)(l:List Int)(x:Int)(h0:0≤x):pD n (l++[x])=(pD n l).set x.toNat true:=by
 apply dJ (by simp [pD]);intro i h2 h3
 rw [rB]
 simp only [pD,jG,kQ,tP]
 split
 ·rename_i h;rw [cG];right;simp;omega
 ·rename_i h;rw [show decide ((i:Int)=x)=false by simp;omega,mM]
def Jv (t:Types)(a:Nat):List Bool:=pD t.nodes.length (iU t a)
def pB (t:Types)(n:Nat):List (List D):=(List.range n).map fun a=>[.list ((Jv t a).map cB)]
def belowD (t:Types):D:=.list (pB t t.nodes.length)
theorem NC (t:Types)(n:Nat):pB t (n+1)=pB t n++[[.list ((Jv t n).map cB)]]:=by simp [pB,bJ]
@[go_sem] theorem Vz (t:Types)(n:Nat):(pB t n).length=n:=by simp [pB]
@[go_sem] theorem Rq (t:Types)(n:Nat):D.clLL (pB t n)=true:=by
 unfold pB;exact c4 (fun a=>[.list ((Jv t a).map cB)]) (fun a=>by simp [D.clL,go_sem]) _
theorem QW {t:Types}{a:Int}{x:Int}(h:x∈iU t a):0≤x∧x<t.nodes.length:=by
 unfold iU at h
 split at h
 ·simp at h;omega
 ·cases h
theorem OL (t:Types)(a:Int):(iU t a).length≤t.nodes.length:=by
 unfold iU
 split
 ·rw [bA];exact c6 (e9 _ _) (by simp)
 ·simp
@[go_sem] theorem VV (t:Types):(belowD t).cl=true:=Rq t _
theorem A1 (t:Types)(ht:t.ok):Pure Tryz.prog 323 [t.d] (belowD t):=by
 have hfew:=ht.fewN
 refine Tz.pK ⟨fun t=>t==3||t==5||t==19,fun _=>[]⟩ Tryz.func323 rfl (fun Q hQ=>?_)
 have Y:=trivial
 refine wo (h:=bP (fun i e H=>(e 1=.adr t.c∧e 11=.list (t.nodes.map NodeTy.c)∧e 12=dI t.nodes.length∧e 3=.own 0 i∧e 13=dI i)∧(H.get 0=some ⟨157,1,pB t i,false⟩)∧(0<H.next)∧(i≤t.nodes.length)) (fun i=>t.nodes.length - i) 0 ⟨wg,(by (simp [go_sem,pB])),wn,wi⟩ fun I0 hI0 i e H hi0=>?_)
 obtain ⟨E0,g0_0,n0_0,hi⟩:=hi0
 have Y:=wa Y (wa E0 (wa g0_0 (b5 n0_0)))
 refine dO (fun h3=>?_) fun h3=>?_
 ·have hll:=OL t i
  have Y:=wa Y h3
  refine wo (h:=aB (KE t ht i) wl ?_)
  refine wo (h:=bP (fun k e H=>∃ q:Nat,(e 1=.adr t.c∧e 11=.list (t.nodes.map NodeTy.c)∧e 12=dI t.nodes.length∧e 3=.own 0 i∧e 13=dI i∧e 4=dI i∧e 5=.own q t.nodes.length∧e 26=dLI (iU t i)∧e 27=dI (iU t i).length∧e 28=dI k)∧(H.get 0=some ⟨157,1,pB t i,false⟩)∧(0<H.next)∧(H.get q=some ⟨4,1,(pD t.nodes.length ((iU t i).take k)).map cB,false⟩)∧(q<H.next)∧(k≤(iU t i).length)∧(0<q)) (fun k=>(iU t i).length - k) 0 ⟨H.next,wg,wn,wn,(by (simp [go_sem,Qr])),wn,wi,wi⟩ fun I2 hI2 k e H hi2=>?_)
  obtain ⟨q,E2,g0_2,n0_2,gq_2,nq_2,hk,hq0⟩:=hi2
  have di1:=cY (show q≠0 by omega)
  have Y:=wa Y (wa E2 (wa g0_2 (wa (b5 n0_2) (wa gq_2 (wa (b5 nq_2) di1)))))
  refine dO (fun h8=>?_) fun h8=>?_
  ·have hbx:=QW (aC h8)
   have hbl:(iU t i)[k].toNat<(pD t.nodes.length ((iU t i).take k)).length:=by rw [Qs];omega
   have hms:pD t.nodes.length ((iU t i).take (k+1))=(pD t.nodes.length ((iU t i).take k)).set (iU t i)[k].toNat true:=by rw [aF h8,NY _ _ _ hbx.1]
   have Y:=wa Y (wa h8 (wa (aA h8) (wa (aA hbl) (wa hbx.1 hbx.2))))
   exact wo (h:=wx hI2 (k+1) ⟨q,wg,wn,wn,(by (simp [go_sem,Y,hms,dR,cB])),wn,wj,wj⟩)
  ·have hke:(iU t i).take k=iU t i:=aP (by omega)
   have Y:=wa Y hke
   exact wo (h:=wx hI0 (i+1) ⟨wg,(by (simp [go_sem,Y,NC,Jv])),wn,wj⟩)
 ·exact wv (h:=hQ _ _ (by simp [go_sem,Y,belowD,show i=t.nodes.length by omega]))
theorem JU {t:Types}(hv:(b9 t).2=0){k:Int}(h:0≤k∧k<t.nodes.length):given2F t k k=0:=by
 unfold given2F;rw [if_neg (by rw [hv];simp),if_pos (by simp [insideF];omega)]
@[go_sem] theorem Wy (t:Types)(a:Nat):(Jv t a).length=t.nodes.length:=by simp [Jv,pD]
theorem HY {t:Types}{a:Int}(h:0≤a∧a<t.nodes.length):(pB t t.nodes.length)[a.toNat]?=some [.list ((Jv t a.toNat).map cB)]:=by
 unfold pB
 rw [aM,eM (by omega)];rfl
theorem OK {t:Types}(hv:(b9 t).2=0){a b:Int}(ha:0≤a∧a<t.nodes.length)(hb:0≤b∧b<t.nodes.length):mem (iU t a) b=zK t a b:=by
 unfold iU zK
 rw [if_pos (JU hv ha),aS,dA,aT]
 constructor
 ·rintro ⟨k,hk,rfl⟩
  rw [dN] at hk
  simpa using hk.2
 ·intro h
  exact ⟨b.toNat,by rw [dN];exact ⟨by simp;omega,h⟩,by omega⟩
theorem K7 {t:Types}(hv:(b9 t).2=0){a b:Int}(ha:0≤a∧a<t.nodes.length)(hb:0≤b∧b<t.nodes.length):(Jv t a.toNat)[b.toNat]?=some (zK t a b):=by
 unfold Jv pD
 rw [aM,eM (by omega),cZ,Int.toNat_of_nonneg ha.1,Int.toNat_of_nonneg hb.1,OK hv ha hb]
theorem A0 (t:Types)(ht:t.ok)(p g:Graph)(hG:G17 t p g)(hv:(b9 t).2=0)(m:Part):Pure Tryz.prog 226 [t.d,p.d,g.d,m.d] (dI (jO t p g m false)):=by
 have hga:=cC hG.gp
 have hgb:=cC hG.gg
 have hia:=(dL hG.gp).2
 refine Tz.pK ⟨fun t=>t==14||t==15,fun r=>match r with|17=>[(0,10),(1,10),(3,10),(4,10),(5,10),(6,10),(8,10),(9,10),(0,11),(1,11),(3,11),(4,11),(5,11),(6,11),(8,11),(9,11),(10,11),(5,12),(6,12),(8,12),(9,12)]|_=>[]⟩ Tryz.func226 rfl (fun Q hQ=>?_)
 have Y:=@belowD.eq_1
 refine fJ (fun h1=>?_) fun h1=>?_
 ·have hM:jO t p g m false=20:=by unfold jO;rw [if_pos (by omega)]
  exact wv (h:=hQ _ _ (by simp [go_sem,hM]))
 ·have hM:jO t p g m false=(if bR (Ra t p g m) 0 p.nodes.length≠0 then bR (Ra t p g m) 0 p.nodes.length else if bR (jF p g m) 0 p.edges.length≠0 then bR (jF p g m) 0 p.edges.length else if false=true∧(¬ m.nodes.Nodup∨¬ m.edges.Nodup) then 5 else 0):=by unfold jO;rw [if_neg (by omega)]
  have hl1:m.nodes.length=p.nodes.length:=by omega
  have hl2:m.edges.length=p.edges.length:=by omega
  refine wv (h:=aB (A1 t ht) wl ?_)
  refine wo (h:=bP (fun i e H=>(e 4=.adr t.c∧e 5=.adr p.c∧e 6=.adr g.c∧e 7=.adr m.c∧e 9=.list (pB t t.nodes.length)∧e 35=dLI m.nodes∧e 36=dI m.nodes.length∧e 37=dI i)∧(i≤m.nodes.length)∧(bR (Ra t p g m) i (p.nodes.length - i)=bR (Ra t p g m) 0 p.nodes.length)) (fun i=>m.nodes.length - i) 0 ⟨wg,wi,(by rfl)⟩ fun I0 hI0 i e H hi0=>?_)
  obtain ⟨E0,hi,hF⟩:=hi0
  have Y:=wa Y E0
  refine dO (fun h5=>?_) fun h5=>?_
  ·have hn:i<p.nodes.length:=by omega
   have hst:=fS (Ra t p g m) hn
   rw [hF] at hst
   have hNE:Ra t p g m i=(if m.nodes[i]<0∨(g.nodes.length:Int)≤m.nodes[i] then 6 else if zK t p.nodes[i] (g.nodes[m.nodes[i].toNat]?.getD 0)=true then 0 else 13):=by simp only [Ra,aA h5,aA hn,aD]
   have hbp:=hG.tp _ (aC hn)
   have Y:=wa Y (wa h5 (wa (aA h5) (aA hn)))
   refine fJ (fun h7=>?_) fun h7=>?_
   ·rw [if_pos (by omega)] at hNE
    rw [hNE,if_pos (by omega)] at hst
    rw [hst,if_pos (by omega)] at hM
    exact wv (h:=hQ _ _ (by simp [go_sem,hM]))
   ·have hkb:m.nodes[i].toNat<g.nodes.length:=by omega
    rw [if_neg (by omega),aA hkb,aD] at hNE
    have hbg:=hG.tg _ (aC hkb)
    have hrw:=HY hbp
    have hrb:=K7 hv hbp hbg
    have Y:=wa Y (wa (aA hkb) (wa hrw hrb))
    refine fJ (fun h9=>?_) fun h9=>?_
    ·rw [if_neg (by simpa using h9)] at hNE
     rw [hNE,if_pos (by omega)] at hst
     rw [hst,if_pos (by omega)] at hM
     exact wv (h:=hQ _ _ (by simp [go_sem,hM]))
    ·rw [if_pos (by simpa using h9)] at hNE
     rw [hNE,if_neg (by omega)] at hst
     exact wo (h:=wx hI0 (i+1) ⟨wg,wj,(by exact hst.symm)⟩)
  ·have hN0:bR (Ra t p g m) 0 p.nodes.length=0:=by rw [← hF,show p.nodes.length - i=0 by omega];rfl
   rw [hN0,if_neg (by omega)] at hM
   refine wo (h:=bP (fun k e H=>(e 4=.adr t.c∧e 5=.adr p.c∧e 6=.adr g.c∧e 7=.adr m.c∧e 9=.list (pB t t.nodes.length)∧e 69=dLI m.edges∧e 70=dI m.edges.length∧e 71=dI k)∧(k≤m.edges.length)∧(bR (jF p g m) k (p.edges.length - k)=bR (jF p g m) 0 p.edges.length)) (fun k=>m.edges.length - k) 0 ⟨wg,wi,(by rfl)⟩ fun I2 hI2 k e H hi2=>?_)
   obtain ⟨E2,hk,hE⟩:=hi2
   have Y:=wa Y E2
   refine dO (fun h13=>?_) fun h13=>?_
   ·have hn:k<p.edges.length:=by omega
    have hst:=fS (jF p g m) hn
    rw [hE] at hst
    have hx:=hia _ (aC hn)
    have hxf:p.edges[k].from_.toNat<m.nodes.length:=by omega
    have hxt:p.edges[k].to_.toNat<m.nodes.length:=by omega
    have hEE:jF p g m k=(if m.edges[k]<0∨(g.edges.length:Int)≤m.edges[k] then 6 else if p.edges[k].type≠(g.edges[m.edges[k].toNat]?.getD b7).type then 13 else if m.nodes[p.edges[k].from_.toNat]≠(g.edges[m.edges[k].toNat]?.getD b7).from_∨m.nodes[p.edges[k].to_.toNat]≠(g.edges[m.edges[k].toNat]?.getD b7).to_ then 11 else 0):=by
     simp only [jF,aA h13,aA hn,aD,aA hxf,aA hxt]
    have Y:=wa Y (wa h13 (wa (aA h13) (wa (aA hn) (wa (aA hxf) (aA hxt)))))
    refine fJ (fun h15=>?_) fun h15=>?_
    ·rw [if_pos (by omega)] at hEE
     rw [hEE,if_pos (by omega)] at hst
     rw [hst,if_pos (by omega)] at hM
     exact wv (h:=hQ _ _ (by simp [go_sem,hM]))
    ·have hkb:m.edges[k].toNat<g.edges.length:=by omega
     rw [if_neg (by omega),aA hkb,aD] at hEE
     have Y:=wa Y (aA hkb)
     refine fJ (fun h18=>?_) fun h18=>?_
     ·rw [if_pos h18] at hEE
      rw [hEE,if_pos (by omega)] at hst
      rw [hst,if_pos (by omega)] at hM
      exact wv (h:=hQ _ _ (by simp [go_sem,hM]))
     ·rw [if_neg (by simpa using h18)] at hEE
      refine fJ (fun h20=>?_) fun h20=>?_
      ·rw [if_pos (by omega)] at hEE
       rw [hEE,if_pos (by omega)] at hst
       rw [hst,if_pos (by omega)] at hM
       exact wv (h:=hQ _ _ (by simp [go_sem,hM]))
      ·rw [if_neg (by omega)] at hEE
       rw [hEE,if_neg (by omega)] at hst
       exact wo (h:=wx hI2 (k+1) ⟨wg,wj,(by exact hst.symm)⟩)
   ·have hE0:bR (jF p g m) 0 p.edges.length=0:=by rw [← hE,show p.edges.length - k=0 by omega];rfl
    rw [hE0,if_neg (by omega)] at hM
    rw [if_neg (by simp)] at hM
    exact wv (h:=hQ _ _ (by simp [go_sem,hM]))
/-! ### the finder -/
theorem Hd (i:Nat):Pure Tryz.prog 420 [.nil,dI i] (dI (-1)):=by
 refine Tz.pK ⟨fun _=>false,fun _=>[]⟩ Tryz.func420 rfl (fun Q hQ=>?_)
 have Y:=trivial
 exact wv (h:=hQ _ _ wy)
theorem Jm (l:List Int){i:Nat}(h:i<l.length):Pure Tryz.prog 420 [dLI l,dI i] (dI l[i]):=by
 have hne:l≠[]:=fun e=>by rw [e] at h;simp at h
 refine Tz.pK ⟨fun _=>false,fun _=>[]⟩ Tryz.func420 rfl (fun Q hQ=>?_)
 have Y:=wa (aA h) hne
 exact wo (h:=hQ _ _ wy)
def GivD (d:D)(l:List Int)(n:Nat):Prop:=d.cl=true∧∀ i,i<n→Pure Tryz.prog 420 [d,dI i] (dI (l[i]?.getD (-1)))
theorem GivD.nil (n:Nat):GivD .nil (List.replicate n (-1)) n:=⟨rfl,fun i hi=>by
 have:=Hd i
 rw [mL,if_pos hi];exact this⟩
theorem GivD.list (l:List Int):GivD (dLI l) l l.length:=⟨nC l,fun i hi=>by rw [aA hi];exact Jm l hi⟩
theorem Jl (k n:Int):Pure Tryz.prog 460 [dI k,.adr [dI n]] (.bool (decide (k < -1)||decide (n≤k))):=by
 refine Tz.pK ⟨fun _=>false,fun _=>[]⟩ Tryz.func460 rfl (fun Q hQ=>?_)
 have Y:=trivial
 exact wo (h:=hQ _ _ wy)
theorem IG {f:Nat→Int}{c:Int}(h:∀ j,f j=0∨f j=c):∀ n k,bR f k n=0∨bR f k n=c
 | 0,k=>.inl rfl
 | n+1,k=>by
  unfold bR
  split
  ·rename_i h1;exact .inr ((h k).resolve_left h1)
  ·exact IG h n (k+1)
theorem LL (l:List Int)(n:Int):vR l n=if (l.any fun k=>decide (k < -1)||decide (n≤k))=true then 6 else 0:=by
 by_cases h:(l.any fun k=>decide (k < -1)||decide (n≤k))=true
 ·rw [if_pos h]
  rcases IG (f:=LK n l) (c:=6) (fun j=>by unfold LK;split<;>simp) l.length 0 with h0|h0
  ·obtain ⟨x,hx,hk⟩:=aX.1 h
   obtain ⟨i,hi,rfl⟩:=aN hx
   have:=dY _ _ h0 i (by omega) (by omega)
   unfold LK at this
   rw [aA hi,aD] at this
   simp only [cG,decide_eq_true_eq] at hk
   rw [if_pos hk] at this;cases this
  ·exact h0
 ·rw [if_neg h]
  refine jP _ _ fun j _ hj=>?_
  unfold LK
  rw [if_neg]
  intro hk
  have hj':j<l.length:=by omega
  rw [aA hj',aD] at hk
  exact h (aX.2 ⟨_,aC hj',by simpa using hk⟩)
theorem Di (l:List Int)(n:Int):Pure Tryz.prog 458 [dLI l,dI n] (dI (vR l n)):=by
 refine Tz.pK ⟨fun _=>false,fun _=>[]⟩ Tryz.func458 rfl (fun Q hQ=>?_)
 have Y:=trivial
 refine wv (h:=aB (fB l 460 [.adr [dI n]] (fun k=>decide (k < -1)||decide (n≤k)) (by simp [go_sem]) (by simp [go_sem]) (fun k _=>Jl k n)) wl ?_)
 refine dO (fun h1=>?_) fun h1=>?_
 ·have hO:vR l n=6:=by rw [LL,if_pos (by simpa using h1)]
  exact wv (h:=hQ _ _ (by simp [go_sem,hO]))
 ·have hO:vR l n=0:=by rw [LL,if_neg (by simpa using h1)]
  exact wv (h:=hQ _ _ (by simp [go_sem,hO]))
def Srch.cellP (S:Srch)(most:Int)(pn pe ns es ou:D):List D:=[dLI S.p.nodes,.list (S.p.edges.map Edge.c),dLI S.g.nodes,.list (S.g.edges.map Edge.c),.list (pB S.t S.t.nodes.length),pn,pe,.bool S.inj,dI most,ns,es,ou]
def Ee (S:Srch)(l:List Int)(i k:Nat):Bool:=Bz S.pe i k&&JR S l i k
theorem Dj (S:Srch)(most:Int)(pn pe es ou:D)(hpn:pn.cl=true)(hes:es.cl=true)(hou:ou.cl=true)(l:List Int)(i k:Nat)(hi:i<S.p.edges.length)(hk:k<S.g.edges.length)
  (hpe:GivD pe S.pe S.p.edges.length) (hf0:0≤S.p.edges[i].from_) (hf:S.p.edges[i].from_.toNat<l.length) (hf0':0≤S.p.edges[i].to_) (hft:S.p.edges[i].to_.toNat<l.length) :
  Pure Tryz.prog 422 [.adr (S.cellP most pn pe (dLI l) es ou),dI i,dI k] (.bool (Ee S l i k)):=by
 have hpc:=hpe.1
 obtain ⟨v,hv⟩:∃ v,v=S.pe[i]?.getD (-1):=⟨_,rfl⟩
 have hgv:=hpe.2 i hi
 rw [← hv] at hgv
 have hFr:Bz S.pe i k=(decide (v<0)||decide (v=(k:Int))):=by unfold Bz;rw [← hv]
 have hH:JR S l i k=(decide (S.g.edges[k].type=S.p.edges[i].type)&&(decide (S.g.edges[k].from_=l[S.p.edges[i].from_.toNat])&&decide (S.g.edges[k].to_=l[S.p.edges[i].to_.toNat]))):=by
  simp only [JR,Xc,UV,aA hk,aA hi,aD,aA hf,aA hft]
  simp
 refine Tz.pK ⟨fun t=>t==7,fun _=>[]⟩ Tryz.func422 rfl (fun Q hQ=>?_)
 have Y:=wa @Srch.cellP.eq_1 (wa (aA hi) (wa (aA hk) (wa (aA hf) (wa (aA hft) (wa @Edge.c.eq_1 (wa hpn (wa hes (wa hou hpc))))))))
 refine wo (h:=aB (hgv) wl ?_)
 refine fJ (fun h3=>?_) fun h3=>?_
 ·have hE:Ee S l i k=false:=by unfold Ee;rw [hFr,show decide (v<0)=false by simp;omega,show decide (v=(k:Int))=false by simp;omega];rfl
  exact wv (h:=hQ _ _ (by simp [go_sem,hE]))
 ·have hE:Ee S l i k=JR S l i k:=by
   unfold Ee;rw [hFr]
   rcases Int.lt_or_le v 0 with h|h
   ·simp [h]
   ·simp [h3 h]
  exact wo (h:=hQ _ _ (by simp [go_sem,hE,hH,Pk,D0]))
theorem D4 (S:Srch)(hp:graphF S.p=0)(hg:graphF S.g=0)(most:Int)(pn pe es ou:D)(hpn:pn.cl=true)(hes:es.cl=true)(hou:ou.cl=true)(l:List Int)(hpe:GivD pe S.pe S.p.edges.length) :
  Pure Tryz.prog 421 [.adr (S.cellP most pn pe (dLI l) es ou)] (.bool (rO S l)):=by
 have hpc:=hpe.1
 have hpi:=(dL hp).2
 have hla:=cC hp
 have hlb:=cC hg
 have hcl:D.clL (S.cellP most pn pe (dLI l) es ou)=true:=by simp [go_sem,Srch.cellP,D.clL,hpn,hes,hou,hpc]
 refine Tz.pK ⟨fun t=>t==5,fun _=>[]⟩ Tryz.func421 rfl (fun Q hQ=>?_)
 have Y:=wa @Srch.cellP.eq_1 (wa hpn (wa hes (wa hou hpc)))
 refine wo (h:=bP (fun i e H=>(e 0=.adr (S.cellP most pn pe (dLI l) es ou)∧e 3=dI ((l.length:Int) - 1)∧e 18=.list (S.p.edges.map Edge.c)∧e 19=dI S.p.edges.length∧e 20=dI i)∧(i≤S.p.edges.length)∧(∀ j,j<i→Fw S l j=true)) (fun i=>S.p.edges.length - i) 0 ⟨wg,wi,(by (intro j hj;omega))⟩ fun I0 hI0 i e H hi0=>?_)
 obtain ⟨E0,hi,hK⟩:=hi0
 have Y:=wa Y E0
 refine dO (fun h3=>?_) fun h3=>?_
 ·have hxi:=(hpi _ (aC h3)).2
  have hKe:Fw S l i=(decide (max S.p.edges[i].from_ S.p.edges[i].to_≠(l.length:Int) - 1)||(List.range S.g.edges.length).any (Ee S l i)):=by
   unfold Fw;rw [aA h3,aD];rfl
  have Y:=wa Y (wa h3 (wa (aA h3) @Edge.c.eq_1))
  refine fJ (fun h5=>?_) fun h5=>?_
  ·have hKi:Fw S l i=true:=by rw [hKe];simp;omega
   exact wo (h:=wx hI0 (i+1) ⟨wg,wj,(by (intro j hj;rcases bZ j i with hji|hji;exact hK j hji;(obtain rfl:j=i:=(by omega);exact hKi)))⟩)
  ·have hf:S.p.edges[i].from_.toNat<l.length:=by omega
   have hft:S.p.edges[i].to_.toNat<l.length:=by omega
   have hx0:=hxi.1.1
   have hx1:=hxi.2.1
   have h2:=h3
   have Y:=wa Y h5
   refine wo (h:=bP (fun k e H=>(e 0=.adr (S.cellP most pn pe (dLI l) es ou)∧e 3=dI ((l.length:Int) - 1)∧e 18=.list (S.p.edges.map Edge.c)∧e 19=dI S.p.edges.length∧e 20=dI i∧e 4=dI i∧e 6=.bool false∧e 37=dI S.g.edges.length∧e 38=dI k)∧(k≤S.g.edges.length)∧((List.range k).any (Ee S l i)=false)) (fun k=>S.g.edges.length - k) 0 ⟨wg,wi,(by rfl)⟩ fun I2 hI2 k e H hi2=>?_)
   obtain ⟨E2,hk,hb⟩:=hi2
   have Y:=wa Y E2
   refine dO (fun h8=>?_) fun h8=>?_
   ·obtain ⟨fb,hfb0⟩:∃ b,b=Ee S l i k:=⟨_,rfl⟩
    have Y:=wa Y h8
    refine wv (h:=aB (Dj S most pn pe es ou hpn hes hou l i k h2 h8 hpe hx0 hf hx1 hft) wl ?_)
    refine dO (fun h10=>?_) fun h10=>?_
    ·have hKi:Fw S l i=true:=by
      rw [hKe,cG];right
      exact aX.2 ⟨k,by simpa using h8,by simpa using h10⟩
     exact wo (h:=wx hI0 (i+1) ⟨wg,wj,(by (intro j hj;rcases bZ j i with hji|hji;exact hK j hji;(obtain rfl:j=i:=(by omega);exact hKi)))⟩)
    ·have hfb:Ee S l i k=false:=by simpa using h10
     have Y:=wa Y h10
     exact wo (h:=wx hI2 (k+1) ⟨wg,wj,(by (rw [GS,hb,hfb];rfl))⟩)
   ·have hb0:(List.range S.g.edges.length).any (Ee S l i)=false:=by rw [show S.g.edges.length=k by omega];exact hb
    have hE:rO S l=false:=by
     simp only [rO,List.all_eq_false,bK]
     exact ⟨i,h3,by rw [hKe,hb0];simp;omega⟩
    exact wo (h:=hQ _ _ (by simp [go_sem,hE]))
 ·have hE:rO S l=true:=by
   simp only [rO,cH,bK]
   exact fun j hj=>hK j (by omega)
  exact wv (h:=hQ _ _ (by simp [go_sem,hE]))
def II (S:Srch)(N:Nat)(ns es:List Int)(out:List Part):List Part:=if ns.length<S.p.nodes.length then O9 S N (S.p.nodes.length - ns.length) ns out else OX S N ns (S.p.edges.length - es.length) es out
theorem Rw (S:Srch){N:Nat}(d:Nat)(l:List Int){ou:List Part}(h:N≤ou.length):O9 S N d l ou=ou:=by cases d<;>simp only [O9,if_pos h]
theorem Gl (S:Srch){N:Nat}(ns es:List Int){ou:List Part}(h:N≤ou.length):II S N ns es ou=ou:=by
 unfold II;split;exact Rw S _ _ h;exact KM _ _ _ h
theorem Gk (S:Srch)(N:Nat)(ns:List Int)(ou:List Part):II S N ns [] ou=O9 S N (S.p.nodes.length - ns.length) ns ou:=by
 unfold II
 split
 ·rfl
 ·rename_i h
  rw [show S.p.nodes.length - ns.length=0 by omega]
  simp only [O9,oL,Nat.sub_zero]
  split
  ·rename_i h2;exact KM _ _ _ h2
  ·rfl
structure FdS (f a b o:Nat) (S:Srch) (N:Nat) (pn pe:D) (ns es:List Int) (out:List Part) (H:AHeap):Prop where
 bf:H.get f=some ⟨406,12,[S.cellP N pn pe (.own a ns.length) (.own b es.length) (.own o out.length)],false⟩
 ba:H.get a=some ⟨3,1,ns.map cI,false⟩
 bb:H.get b=some ⟨3,1,es.map cI,false⟩
 bo:H.get o=some ⟨56,2,out.map Part.c,false⟩
 le:out.length≤N
 nf:f<H.next∧a<H.next∧b<H.next∧o<H.next
 d:(f≠a∧f≠b∧f≠o)∧(a≠b∧a≠o)∧b≠o
@[go_sem] theorem UX (H:AHeap)(i:Nat):(H.drop i).next=H.next:=rfl
@[go_sem] theorem VS (H:AHeap)(i j:Nat):(H.drop i).get j=if j=i then none else H.get j:=rfl
theorem tD {H:AHeap}{d:D}(h:d.cl=true):eK H d=d:=by cases d<;>first|rfl|simp [D.cl] at h
def Sr (S:Srch)(N:Nat)(pn pe:D)(f o m:Nat):Prop :=
  ∀ (ns es:List Int) (out:List Part) (a b:Nat) (G:AHeap) (Q:D→AHeap→Prop),(S.p.nodes.length - ns.length)+(S.p.edges.length - es.length)=m→ns.length≤S.p.nodes.length→es.length≤S.p.edges.length→(ns.length<S.p.nodes.length→es=[])→FdS f a b o S N pn pe ns es out G →
  (∀ a' b' H',FdS f a' b' o S N pn pe ns es (II S N ns es out) H'→Q (.tup []) H')→ACalls Tryz.prog 377 [.ptr f 1 0 0] G Q
theorem Jq (S:Srch)(hG:G17 S.t S.p S.g)(hv:(b9 S.t).2=0)(N:Nat)(hN:N≤5001)(pn pe:D)(hpn:GivD pn S.pn S.p.nodes.length)(hpe:GivD pe S.pe S.p.edges.length)(f o:Nat)(m:Nat)(ih:∀ k,k<m→Sr S N pn pe f o k)(ns es:List Int)(out:List Part)(a b:Nat)(G:AHeap)(Q:D→AHeap→Prop)(hm:(S.p.nodes.length - ns.length)+(S.p.edges.length - es.length)=m)(hnl:ns.length≤S.p.nodes.length)(hel0:es.length≤S.p.edges.length)(hes:ns.length<S.p.nodes.length→es=[])(hF:FdS f a b o S N pn pe ns es out G)
  (hQ:∀ a' b' H',FdS f a' b' o S N pn pe ns es (II S N ns es out) H'→Q (.tup []) H') (hc1:ns.length<S.p.nodes.length) :
  ACalls Tryz.prog 377 [.ptr f 1 0 0] G Q:=by
 have hla:=cC hG.gp
 have hlb:=cC hG.gg
 have hib:∀ x∈S.p.edges,(0≤x.from_∧x.from_<S.p.nodes.length)∧(0≤x.to_∧x.to_<S.p.nodes.length):=fun x hx=>((dL hG.gp).2 x hx).2
 obtain ⟨gf,ga,gb,go,hle,⟨lf,la,lb,lo⟩,⟨d1,d2,d3⟩,⟨d4,d5⟩,d6⟩:=hF
 have ff:=b5 lf
 have fa:=b5 la
 have fb:=b5 lb
 have fo:=b5 lo
 have hpnc:=hpn.1
 have hpec:=hpe.1
 have hpr:∀ H:AHeap,eK H pn=pn:=fun H=>tD hpnc
 have hpr2:∀ H:AHeap,eK H pe=pe:=fun H=>tD hpec
 refine (aG (cfg:=⟨fun _=>false,fun r=>match r with|0=>[(2,16),(3,16),(4,16)]|_=>[]⟩) Tz.mixed Tryz.func377 rfl rfl (aE rfl) (by kernel_rfl) ?_)
 have di1:=And.intro (cY (show o≠b by omega)) (And.intro (cY (show o≠a by omega)) (And.intro (cY (show o≠f by omega)) (And.intro (cY (show b≠a by omega)) (And.intro (cY (show b≠f by omega)) (cY (show a≠f by omega))))))
 have Y:=wa gf (wa ga (wa gb (wa go (wa ff (wa fa (wa fb (wa fo (wa @Part.c.eq_1 (wa @Srch.cellP.eq_1 (wa hpnc (wa hpec (wa hpr (wa hpr2 (wa hc1 di1))))))))))))))
 refine yE (fun h1=>?_) fun h1=>?_
 ·have hX:II S N ns es out=out:=Gl S _ _ (by omega)
  refine wv (h:=?_)
  exact hQ a b _ (by rw [hX];exact ⟨gf,ga,gb,go,hle,⟨by first|exact lf|(simp;omega),by first|exact la|(simp;omega),by first|exact lb|(simp;omega),by first|exact lo|(simp;omega)⟩,⟨d1,d2,d3⟩,⟨d4,d5⟩,d6⟩)
 ·have hnf:¬ N≤out.length:=by omega
  have hE0:=hes (by omega)
  subst hE0
  obtain ⟨k',hk'⟩:∃ k',S.p.nodes.length - ns.length=k'+1:=⟨S.p.nodes.length - ns.length - 1,by omega⟩
  have hel:ns.length<S.p.nodes.length:=by omega
  have hbp:=hG.tp _ (aC hel)
  have hrw:=HY hbp
  obtain ⟨v,hv0⟩:∃ v,v=S.pn[ns.length]?.getD (-1):=⟨_,rfl⟩
  have hgv:=hpn.2 ns.length hel
  rw [← hv0] at hgv
  have hokN:∀ j (hj:j<S.g.nodes.length),Qk S ns j=((decide (v<0)||decide (v=(j:Int)))&&(!(S.inj&&mem ns j)&&zK S.t S.p.nodes[ns.length] S.g.nodes[j])):=fun j hj=>by
   simp only [Qk,Bz,← hv0,aA hj,aA hel,aD]
  have Y:=wa Y (wa (aA hel) hrw)
  refine wp (h:=bP (fun j e H=>∃ a1:Nat,∃ b1:Nat,∃ ou:List Part,(e 0=.ptr f 1 0 0∧e 2=dI ns.length∧e 61=dLI S.g.nodes∧e 62=dI S.g.nodes.length∧e 63=dI j)∧(H.get f=some ⟨406,12,[S.cellP N pn pe (.own a1 ns.length) (.own b1 0) (.own o ou.length)],false⟩)∧(f<H.next)∧(H.get a1=some ⟨3,1,ns.map cI,false⟩)∧(a1<H.next)∧(H.get b1=some ⟨3,1,[],false⟩)∧(b1<H.next)∧(H.get o=some ⟨56,2,ou.map Part.c,false⟩)∧(o<H.next)∧(f≠a1)∧(f≠b1)∧(a1≠b1)∧(a1≠o)∧(b1≠o)∧(j≤S.g.nodes.length)∧(ou.length≤N)∧(ou=(List.range j).foldl (fun ou k=>if (Qk S ns k&&rO S (ns++[(k:Int)]))=true then O9 S N k' (ns++[(k:Int)]) ou else ou) out)) (fun j=>S.g.nodes.length - j) 0 ⟨a,b,out,wg,wn,wn,wn,wn,wn,wn,wn,wn,wi,wi,wi,wi,wi,wi,(by (exact hle)),(by rfl)⟩ fun I1 hI1 j e H hi1=>?_)
  obtain ⟨a1,b1,ou,E1,gf_1,nf_1,ga1_1,na1_1,gb1_1,nb1_1,go_1,no_1,e1,e2,e3,e4,e5,hj,hou,hst⟩:=hi1
  have di2:=And.intro (cY (show o≠b1 by omega)) (And.intro (cY (show o≠a1 by omega)) (And.intro (cY (show o≠f by omega)) (And.intro (cY (show b1≠a1 by omega)) (And.intro (cY (show b1≠f by omega)) (cY (show a1≠f by omega))))))
  have Y:=wa Y (wa E1 (wa gf_1 (wa (b5 nf_1) (wa ga1_1 (wa (b5 na1_1) (wa gb1_1 (wa (b5 nb1_1) (wa go_1 (wa (b5 no_1) di2)))))))))
  refine dO (fun h5=>?_) fun h5=>?_
  ·have hEj:=hokN j h5
   have hbg:=hG.tg _ (aC h5)
   have hrb:=K7 hv hbp hbg
   have Y:=wa Y (wa h5 (wa (aA h5) hrb))
   refine wp (h:=aB (hgv) wl ?_)
   refine wp (h:=Hx (fun hg=>fL ns j) wr (fun hg=>wl) (fun hg=> rfl) rfl ZW ?_)
   refine yE (fun h8=>?_) fun h8=>?_
   ·have hE:(Qk S ns j&&rO S (ns++[(j:Int)]))=false:=by
     have:Qk S ns j=false:=by
      rw [hEj,bX];intro hT;simp at hT
      obtain ⟨c1,c2,c3⟩:=hT
      rcases h8 with (⟨k1,k2⟩|k1)|⟨k1,k2⟩
      ·rcases c1 with c1|c1
       ·omega
       ·exact k2 c1
      ·rw [k1] at c3;cases c3
      ·rcases c2 with c2|c2
       ·rw [k1] at c2;cases c2
       ·rw [k2] at c2;cases c2
     rw [this];rfl
    obtain ⟨ou2,hou2⟩:∃ x,x=ou:=⟨_,rfl⟩
    obtain ⟨a2,ha2⟩:∃ x,x=a1:=⟨_,rfl⟩
    obtain ⟨b2,hb2⟩:∃ x,x=b1:=⟨_,rfl⟩
    have Y:=wa Y (wa hou2 (wa ha2 hb2))
    exact wp (h:=wx hI1 (j+1) ⟨a2,b2,ou2,wg,wn,wn,wn,wn,wn,wn,wn,wn,wj,wj,wj,wj,wj,wj,(by (rw [hou2];first|exact hou|exact NR hG.gp _ _ hou)),(by (rw [gY,← hst,hou2];first|rw [if_pos hE]|rw [if_neg (by rw [hE];simp)]))⟩)
   ·have hO:Qk S ns j=true:=by
     obtain ⟨⟨k1,k2⟩,k3⟩:=h8
     have c1:(decide (v<0)||decide (v=(j:Int)))=true:=by simp;omega
     have c2:(S.inj&&mem ns (j:Int))=false:=by cases hI:S.inj;rfl;simp [k3 hI]
     rw [hEj,c1,k2,c2];rfl
    have hm1:(S.p.nodes.length - (ns++[(j:Int)]).length)+(S.p.edges.length - ([]:List Int).length)=m - 1:=by simp at hm ⊢;omega
    obtain ⟨m',hm'⟩:∃ x,x=m - 1:=⟨_,rfl⟩
    rw [← hm'] at hm1
    have Y:=wa Y h8
    refine wp (h:=DU (D4 S hG.gp hG.gg N pn pe (dLI []) (.list (ou.map Part.c)) hpnc (by simp [D.cl,go_sem]) (by simp [D.cl,FB]) (ns++[(j:Int)]) hpe) Zz wl rfl ?_)
    refine yE (fun h10=>?_) fun h10=>?_
    ·have hE:(Qk S ns j&&rO S (ns++[(j:Int)]))=true:=by rw [hO,h10];rfl
     obtain ⟨ou2,hou2⟩:∃ x,x=O9 S N k' (ns++[(j:Int)]) ou:=⟨_,rfl⟩
     have hk2:S.p.nodes.length - (ns.length+1)=k':=by omega
     have Y:=wa Y (wa hk2 (Eq.symm hou2))
     refine wv (h:=?_)
     unfold gU
     refine ih m' (by omega) (ns++[(j:Int)]) [] ou a1 b1 _ _ hm1 (by simp;omega) (by simp) (fun _=>rfl) ⟨by simp [go_sem,Y],by simp [go_sem,Y],by simp [go_sem,Y],by simp [go_sem,Y],hou,⟨by simp [go_sem];omega,by simp [go_sem];omega,by simp [go_sem];omega,by simp [go_sem];omega⟩,⟨e1,e2,d3⟩,⟨e3,e4⟩,e5⟩ (fun a3 b3 H3 hF3=>?_)
     rw [Gk] at hF3
     obtain ⟨gf3,ga3,gb3,go3,hle3,⟨lf3,la3,lb3,lo3⟩,⟨x1,x2,x3⟩,⟨x4,x5⟩,x6⟩:=hF3
     have fr3:=And.intro (b5 (show f<H3.next by omega)) (And.intro (b5 (show a3<H3.next by omega)) (And.intro (b5 (show b3<H3.next by omega)) (b5 (show o<H3.next by omega))))
     have di4:=And.intro (cY (show o≠b3 by omega)) (And.intro (cY (show o≠a3 by omega)) (And.intro (cY (show o≠f by omega)) (And.intro (cY (show b3≠a3 by omega)) (And.intro (cY (show b3≠f by omega)) (cY (show a3≠f by omega))))))
     obtain ⟨a2,ha2⟩:∃ x,x=H3.next:=⟨_,rfl⟩
     obtain ⟨b2,hb2⟩:∃ x,x=b3:=⟨_,rfl⟩
     have Y:=wa Y (wa gf3 (wa ga3 (wa gb3 (wa go3 (wa fr3 (wa di4 (wa ha2 hb2)))))))
     exact wp (h:=FI (Ghosts.trunc (.refl _) f 0 9 a3 ns.length _ _ _ (by simp [go_sem,Y];rfl) rfl rfl (by simp [go_sem,Y];rfl) (by simp [go_sem,Y]) rfl (by omega)) (j+1) (by omega) ((hI1 _ _ _).2 ⟨a2,b2,ou2,wg,wn,wn,wn,wn,wn,wn,wn,wn,wj,wj,wj,wj,wj,wj,(by (rw [hou2];first|exact hou|exact NR hG.gp _ _ hou)),(by (rw [gY,← hst,hou2];first|rw [if_pos hE]|rw [if_neg (by rw [hE];simp)]))⟩))
    ·have hE:(Qk S ns j&&rO S (ns++[(j:Int)]))=false:=by rw [hO,h10];rfl
     obtain ⟨ou2,hou2⟩:∃ x,x=ou:=⟨_,rfl⟩
     obtain ⟨a2,ha2⟩:∃ x,x=H.next+41:=⟨_,rfl⟩
     obtain ⟨b2,hb2⟩:∃ x,x=b1:=⟨_,rfl⟩
     have Y:=wa Y (wa hou2 (wa ha2 hb2))
     exact wp (h:=FI (Ghosts.trunc (.refl _) f 0 9 a1 ns.length _ _ _ (by simp [go_sem,Y];rfl) rfl rfl (by simp [go_sem,Y];rfl) (by simp [go_sem,Y]) rfl (by omega)) (j+1) (by omega) ((hI1 _ _ _).2 ⟨a2,b2,ou2,wg,wn,wn,wn,wn,wn,wn,wn,wn,wj,wj,wj,wj,wj,wj,(by (rw [hou2];first|exact hou|exact NR hG.gp _ _ hou)),(by (rw [gY,← hst,hou2];first|rw [if_pos hE]|rw [if_neg (by rw [hE];simp)]))⟩))
  ·have hJ:j=S.g.nodes.length:=by omega
   have hOV:II S N ns [] out=ou:=by rw [Gk,hk'];simp only [O9];rw [if_neg hnf,hst,hJ]
   refine wv (h:=?_)
   exact hQ a1 b1 _ (by rw [hOV];exact ⟨by assumption,by assumption,by assumption,by assumption,hou,⟨by assumption,by assumption,by assumption,by assumption⟩,⟨e1,e2,d3⟩,⟨e3,e4⟩,e5⟩)
theorem Zi (a k:Nat):a+(k+1) - (a+1)=k+1 - 1:=by omega
theorem Zh (a k:Nat):a+(k+1) - (a+1)=k:=by omega
theorem Zg (a k:Nat):a+(k+1) - a=k+1:=by omega
theorem Jp (S:Srch)(hG:G17 S.t S.p S.g)(hv:(b9 S.t).2=0)(N:Nat)(hN:N≤5001)(pn pe:D)(hpn:GivD pn S.pn S.p.nodes.length)(hpe:GivD pe S.pe S.p.edges.length)(f o:Nat)(m:Nat)(ih:∀ k,k<m→Sr S N pn pe f o k)(ns es:List Int)(out:List Part)(a b:Nat)(G:AHeap)(Q:D→AHeap→Prop)(hm:(S.p.nodes.length - ns.length)+(S.p.edges.length - es.length)=m)(hnl:ns.length≤S.p.nodes.length)(hel0:es.length≤S.p.edges.length)(hes:ns.length<S.p.nodes.length→es=[])(hF:FdS f a b o S N pn pe ns es out G)
  (hQ:∀ a' b' H',FdS f a' b' o S N pn pe ns es (II S N ns es out) H'→Q (.tup []) H') (hc1:¬ ns.length<S.p.nodes.length) (hc2:es.length<S.p.edges.length) :
  ACalls Tryz.prog 377 [.ptr f 1 0 0] G Q:=by
 have hla:=cC hG.gp
 have hlb:=cC hG.gg
 have hib:∀ x∈S.p.edges,(0≤x.from_∧x.from_<S.p.nodes.length)∧(0≤x.to_∧x.to_<S.p.nodes.length):=fun x hx=>((dL hG.gp).2 x hx).2
 obtain ⟨gf,ga,gb,go,hle,⟨lf,la,lb,lo⟩,⟨d1,d2,d3⟩,⟨d4,d5⟩,d6⟩:=hF
 have ff:=b5 lf
 have fa:=b5 la
 have fb:=b5 lb
 have fo:=b5 lo
 have hpnc:=hpn.1
 have hpec:=hpe.1
 have hpr:∀ H:AHeap,eK H pn=pn:=fun H=>tD hpnc
 have hpr2:∀ H:AHeap,eK H pe=pe:=fun H=>tD hpec
 refine (aG (cfg:=⟨fun _=>false,fun r=>match r with|0=>[(2,16),(3,16),(4,16)]|_=>[]⟩) Tz.mixed Tryz.func377 rfl rfl (aE rfl) (by kernel_rfl) ?_)
 have di1:=And.intro (cY (show o≠b by omega)) (And.intro (cY (show o≠a by omega)) (And.intro (cY (show o≠f by omega)) (And.intro (cY (show b≠a by omega)) (And.intro (cY (show b≠f by omega)) (cY (show a≠f by omega))))))
 have Y:=wa gf (wa ga (wa gb (wa go (wa ff (wa fa (wa fb (wa fo (wa @Part.c.eq_1 (wa @Srch.cellP.eq_1 (wa hpnc (wa hpec (wa hpr (wa hpr2 (wa hc1 (wa hc2 di1)))))))))))))))
 refine yE (fun h1=>?_) fun h1=>?_
 ·have hX:II S N ns es out=out:=Gl S _ _ (by omega)
  refine wv (h:=?_)
  exact hQ a b _ (by rw [hX];exact ⟨gf,ga,gb,go,hle,⟨by first|exact lf|(simp;omega),by first|exact la|(simp;omega),by first|exact lb|(simp;omega),by first|exact lo|(simp;omega)⟩,⟨d1,d2,d3⟩,⟨d4,d5⟩,d6⟩)
 ·have hnf:¬ N≤out.length:=by omega
  obtain ⟨k',hk'⟩:∃ k',S.p.edges.length - es.length=k'+1:=⟨S.p.edges.length - es.length - 1,by omega⟩
  have hmk:m=k'+1:=by rw [← hm,Nat.sub_eq_zero_of_le (Nat.not_lt.1 hc1),dU,hk']
  have hks:S.p.edges.length=es.length+(k'+1):=by omega
  clear hm hk'
  have hel2:es.length<S.p.edges.length:=by omega
  have hbx:=hib _ (aC hel2)
  have hf1:S.p.edges[es.length].from_.toNat<ns.length:=by omega
  have hft:S.p.edges[es.length].to_.toNat<ns.length:=by omega
  refine wp (h:=bP (fun j e H=>∃ a1:Nat,∃ b1:Nat,∃ ou:List Part,(e 0=.ptr f 1 0 0∧e 6=dI es.length∧e 162=.list (S.g.edges.map Edge.c)∧e 163=dI S.g.edges.length∧e 164=dI j)∧(H.get f=some ⟨406,12,[S.cellP N pn pe (.own a1 ns.length) (.own b1 es.length) (.own o ou.length)],false⟩)∧(f<H.next)∧(H.get a1=some ⟨3,1,ns.map cI,false⟩)∧(a1<H.next)∧(H.get b1=some ⟨3,1,es.map cI,false⟩)∧(b1<H.next)∧(H.get o=some ⟨56,2,ou.map Part.c,false⟩)∧(o<H.next)∧(f≠a1)∧(f≠b1)∧(a1≠b1)∧(a1≠o)∧(b1≠o)∧(j≤S.g.edges.length)∧(ou.length≤N)∧(ou=(List.range j).foldl (fun ou k=>if SS S ns es k=true then OX S N ns k' (es++[(k:Int)]) ou else ou) out)) (fun j=>S.g.edges.length - j) 0 ⟨a,b,out,wg,wn,wn,wn,wn,wn,wn,wn,wn,wi,wi,wi,wi,wi,wi,(by (exact hle)),(by rfl)⟩ fun I3 hI3 j e H hi3=>?_)
  obtain ⟨a1,b1,ou,E3,gf_3,nf_3,ga1_3,na1_3,gb1_3,nb1_3,go_3,no_3,e1,e2,e3,e4,e5,hj,hou,hst⟩:=hi3
  have di2:=And.intro (cY (show o≠b1 by omega)) (And.intro (cY (show o≠a1 by omega)) (And.intro (cY (show o≠f by omega)) (And.intro (cY (show b1≠a1 by omega)) (And.intro (cY (show b1≠f by omega)) (cY (show a1≠f by omega))))))
  have Y:=wa Y (wa E3 (wa gf_3 (wa (b5 nf_3) (wa ga1_3 (wa (b5 na1_3) (wa gb1_3 (wa (b5 nb1_3) (wa go_3 (wa (b5 no_3) di2)))))))))
  refine dO (fun h17=>?_) fun h17=>?_
  ·have hEj:SS S ns es j=(Ee S ns es.length j&&!(S.inj&&mem es j)):=by
    simp only [SS,Ee]
    cases Bz S.pe es.length j<;>cases JR S ns es.length j<;>cases (S.inj&&mem es j)<;>rfl
   have Y:=wa Y h17
   refine wp (h:=DU (Dj S N pn pe (dLI es) (.list (ou.map Part.c)) hpnc (by simp [D.cl,go_sem]) (by simp [D.cl,FB]) ns es.length j hel2 h17 hpe hbx.1.1 hf1 hbx.2.1 hft) Zz wl rfl ?_)
   refine wp (h:=JW (fun hg=>fL es j) wr (fun hg=>wl) (fun hg=> rfl) ?_)
   refine yE (fun h19=>?_) fun h19=>?_
   ·have hE:SS S ns es j=false:=by
     rw [hEj]
     rcases h19 with k1|⟨k1,k2⟩
     ·rw [k1];rfl
     ·rw [k1,k2];simp
    obtain ⟨ou2,hou2⟩:∃ x,x=ou:=⟨_,rfl⟩
    obtain ⟨a2,ha2⟩:∃ x,x=a1:=⟨_,rfl⟩
    obtain ⟨b2,hb2⟩:∃ x,x=b1:=⟨_,rfl⟩
    have Y:=wa Y (wa hou2 (wa ha2 hb2))
    exact wp (h:=wx hI3 (j+1) ⟨a2,b2,ou2,wg,wn,wn,wn,wn,wn,wn,wn,wn,wj,wj,wj,wj,wj,wj,(by (rw [hou2];first|exact hou|exact Rn _ _ _ _ hou)),(by (rw [gY,← hst,hou2];first|rw [if_pos hE]|rw [if_neg (by rw [hE];simp)]))⟩)
   ·have hE:SS S ns es j=true:=by
     obtain ⟨k1,k2⟩:=h19
     have c2:(S.inj&&mem es (j:Int))=false:=by cases hI:S.inj;rfl;simp [k2 hI]
     rw [hEj,k1,c2];rfl
    have hm1:(S.p.nodes.length - ns.length)+(S.p.edges.length - (es++[(j:Int)]).length)=m - 1:=by
     rw [Nat.sub_eq_zero_of_le (Nat.not_lt.1 hc1),aI,oI,dU,hks,hmk];exact Zi _ _
    have hmm:m - 1<m:=by rw [hmk];exact Nat.lt_succ_self k'
    obtain ⟨m',hm'⟩:∃ x,x=m - 1:=⟨_,rfl⟩
    rw [← hm'] at hm1 hmm
    obtain ⟨ou2,hou2⟩:∃ x,x=OX S N ns k' (es++[(j:Int)]) ou:=⟨_,rfl⟩
    have hfd:II S N ns (es++[(j:Int)]) ou=ou2:=by
     have hk3:S.p.edges.length - (es++[(j:Int)]).length=k':=by
      rw [aI,oI,hks];exact Zh _ _
     rw [hou2];unfold II;rw [if_neg (show ¬ ns.length<S.p.nodes.length by omega),hk3]
    have Y:=wa Y (wa h19 hfd)
    refine wp (h:=?_)
    unfold gU
    refine ih m' hmm ns (es++[(j:Int)]) ou a1 b1 _ _ hm1 (by omega) (by simp;omega) (fun h=>absurd h (by omega)) ⟨by simp [go_sem,Y],by simp [go_sem,Y],by simp [go_sem,Y],by simp [go_sem,Y],hou,⟨by simp [go_sem];omega,by simp [go_sem];omega,by simp [go_sem];omega,by simp [go_sem];omega⟩,⟨e1,e2,d3⟩,⟨e3,e4⟩,e5⟩ (fun a3 b3 H3 hF3=>?_)
    obtain ⟨gf3,ga3,gb3,go3,hle3,⟨lf3,la3,lb3,lo3⟩,⟨x1,x2,x3⟩,⟨x4,x5⟩,x6⟩:=hF3
    have fr3:=And.intro (b5 (show f<H3.next by omega)) (And.intro (b5 (show a3<H3.next by omega)) (And.intro (b5 (show b3<H3.next by omega)) (b5 (show o<H3.next by omega))))
    have di4:=And.intro (cY (show o≠b3 by omega)) (And.intro (cY (show o≠a3 by omega)) (And.intro (cY (show o≠f by omega)) (And.intro (cY (show b3≠a3 by omega)) (And.intro (cY (show b3≠f by omega)) (cY (show a3≠f by omega))))))
    obtain ⟨a2,ha2⟩:∃ x,x=a3:=⟨_,rfl⟩
    obtain ⟨b2,hb2⟩:∃ x,x=H3.next:=⟨_,rfl⟩
    have Y:=wa Y (wa gf3 (wa ga3 (wa gb3 (wa go3 (wa fr3 (wa di4 (wa ha2 hb2)))))))
    exact wp (h:=FI (Ghosts.trunc (.refl _) f 0 10 b3 es.length _ _ _ (by simp [go_sem,Y];rfl) rfl rfl (by simp [go_sem,Y];rfl) (by simp [go_sem,Y]) rfl (by omega)) (j+1) (by omega) ((hI3 _ _ _).2 ⟨a2,b2,ou2,wg,wn,wn,wn,wn,wn,wn,wn,wn,wj,wj,wj,wj,wj,wj,(by (rw [hou2];first|exact hou|exact Rn _ _ _ _ hou)),(by (rw [gY,← hst,hou2];first|rw [if_pos hE]|rw [if_neg (by rw [hE];simp)]))⟩))
  ·have hJ:j=S.g.edges.length:=by omega
   have hk2:S.p.edges.length - es.length=k'+1:=by
    rw [hks];exact Zg _ _
   have hOV:II S N ns es out=ou:=by unfold II;rw [if_neg hc1,hk2];simp only [OX];rw [if_neg hnf,hst,hJ]
   refine wv (h:=?_)
   exact hQ a1 b1 _ (by rw [hOV];exact ⟨by assumption,by assumption,by assumption,by assumption,hou,⟨by assumption,by assumption,by assumption,by assumption⟩,⟨e1,e2,d3⟩,⟨e3,e4⟩,e5⟩)
theorem Jo (S:Srch)(hG:G17 S.t S.p S.g)(hv:(b9 S.t).2=0)(N:Nat)(hN:N≤5001)(pn pe:D)(hpn:GivD pn S.pn S.p.nodes.length)(hpe:GivD pe S.pe S.p.edges.length)(f o:Nat)(m:Nat)(ih:∀ k,k<m→Sr S N pn pe f o k)(ns es:List Int)(out:List Part)(a b:Nat)(G:AHeap)(Q:D→AHeap→Prop)(hm:(S.p.nodes.length - ns.length)+(S.p.edges.length - es.length)=m)(hnl:ns.length≤S.p.nodes.length)(hel0:es.length≤S.p.edges.length)(hes:ns.length<S.p.nodes.length→es=[])(hF:FdS f a b o S N pn pe ns es out G)
  (hQ:∀ a' b' H',FdS f a' b' o S N pn pe ns es (II S N ns es out) H'→Q (.tup []) H') (hc1:¬ ns.length<S.p.nodes.length) (hc2:¬ es.length<S.p.edges.length) :
  ACalls Tryz.prog 377 [.ptr f 1 0 0] G Q:=by
 have hla:=cC hG.gp
 have hlb:=cC hG.gg
 have hib:∀ x∈S.p.edges,(0≤x.from_∧x.from_<S.p.nodes.length)∧(0≤x.to_∧x.to_<S.p.nodes.length):=fun x hx=>((dL hG.gp).2 x hx).2
 obtain ⟨gf,ga,gb,go,hle,⟨lf,la,lb,lo⟩,⟨d1,d2,d3⟩,⟨d4,d5⟩,d6⟩:=hF
 have ff:=b5 lf
 have fa:=b5 la
 have fb:=b5 lb
 have fo:=b5 lo
 have hpnc:=hpn.1
 have hpec:=hpe.1
 have hpr:∀ H:AHeap,eK H pn=pn:=fun H=>tD hpnc
 have hpr2:∀ H:AHeap,eK H pe=pe:=fun H=>tD hpec
 refine (aG (cfg:=⟨fun _=>false,fun r=>match r with|0=>[(2,16),(3,16),(4,16)]|_=>[]⟩) Tz.mixed Tryz.func377 rfl rfl (aE rfl) (by kernel_rfl) ?_)
 have di1:=And.intro (cY (show o≠b by omega)) (And.intro (cY (show o≠a by omega)) (And.intro (cY (show o≠f by omega)) (And.intro (cY (show b≠a by omega)) (And.intro (cY (show b≠f by omega)) (cY (show a≠f by omega))))))
 have Y:=wa gf (wa ga (wa gb (wa go (wa ff (wa fa (wa fb (wa fo (wa @Part.c.eq_1 (wa @Srch.cellP.eq_1 (wa hpnc (wa hpec (wa hpr (wa hpr2 (wa hc1 (wa hc2 di1)))))))))))))))
 refine yE (fun h1=>?_) fun h1=>?_
 ·have hX:II S N ns es out=out:=Gl S _ _ (by omega)
  refine wv (h:=?_)
  exact hQ a b _ (by rw [hX];exact ⟨gf,ga,gb,go,hle,⟨by first|exact lf|(simp;omega),by first|exact la|(simp;omega),by first|exact lb|(simp;omega),by first|exact lo|(simp;omega)⟩,⟨d1,d2,d3⟩,⟨d4,d5⟩,d6⟩)
 ·have hnf:¬ N≤out.length:=by omega
  have hX:II S N ns es out=out++[⟨ns,es⟩]:=by
   unfold II;rw [if_neg (by omega),show S.p.edges.length - es.length=0 by omega];simp only [OX];rw [if_neg hnf]
  refine wp (h:=?_)
  refine jA (kB ns (by omega)) (by simp [go_sem,Y,dLI]) (by simp [go_sem]) (DL _) rfl (by simp [go_sem]) ?_
  refine wp (h:=?_)
  refine jA (kB es (by omega)) (by simp [go_sem,Y,dLI]) (by simp [go_sem]) (DL _) rfl (by simp [go_sem]) ?_
  refine wp (h:=?_)
  exact hQ a b _ (by rw [hX];exact ⟨by simp [go_sem,Y],by simp [go_sem,Y],by simp [go_sem,Y],by simp [go_sem,Y],by simp;omega,⟨by simp [go_sem];omega,by simp [go_sem];omega,by simp [go_sem];omega,by simp [go_sem];omega⟩,⟨d1,d2,d3⟩,⟨d4,d5⟩,d6⟩)
theorem KV (S:Srch)(hG:G17 S.t S.p S.g)(hv:(b9 S.t).2=0)(N:Nat)(hN:N≤5001)(pn pe:D)(hpn:GivD pn S.pn S.p.nodes.length)(hpe:GivD pe S.pe S.p.edges.length)(f o:Nat) :
  ∀ (m:Nat) (ns es:List Int) (out:List Part) (a b:Nat) (G:AHeap) (Q:D→AHeap→Prop),(S.p.nodes.length - ns.length)+(S.p.edges.length - es.length)=m→ns.length≤S.p.nodes.length→es.length≤S.p.edges.length→(ns.length<S.p.nodes.length→es=[])→FdS f a b o S N pn pe ns es out G →
  (∀ a' b' H',FdS f a' b' o S N pn pe ns es (II S N ns es out) H'→Q (.tup []) H')→ACalls Tryz.prog 377 [.ptr f 1 0 0] G Q:=by
 intro m
 induction m using Nat.strongRecOn with
 | _ m ih =>
 intro ns es out a b G Q hm hnl hel0 hes hF hQ
 by_cases hc1:ns.length<S.p.nodes.length
 ·exact Jq S hG hv N hN pn pe hpn hpe f o m ih ns es out a b G Q hm hnl hel0 hes hF hQ hc1
 ·by_cases hc2:es.length<S.p.edges.length
  ·exact Jp S hG hv N hN pn pe hpn hpe f o m ih ns es out a b G Q hm hnl hel0 hes hF hQ hc1 hc2
  ·exact Jo S hG hv N hN pn pe hpn hpe f o m ih ns es out a b G Q hm hnl hel0 hes hF hQ hc1 hc2
theorem Jn (S:Srch)(hG:G17 S.t S.p S.g)(ht:S.t.ok)(hv:(b9 S.t).2=0)(N:Nat)(hN:N≤5001)(pn pe:D)(hpn:GivD pn S.pn S.p.nodes.length)(hpe:GivD pe S.pe S.p.edges.length)(hcn:pn.cell=true)(hce:pe.cell=true){L:List Part}(hL:L=(HG S).take N) :
  Pure Tryz.prog 318 [S.t.d,S.p.d,S.g.d,.agg [pn,pe],.bool S.inj,dI N] (.list (L.map Part.c)):=by
 have hRn:II S N [] [] []=L:=by rw [Gk,NS hG.gp N _ _ _ (by simp),hL];simp [HG]
 have hpnc:=hpn.1
 have hpec:=hpe.1
 have hcn':=hcn
 have hce':=hce
 unfold D.cell at hcn' hce'
 refine sM (by first|rfl|(simp [go_sem];done)) (fun Q hQ=>(aG (cfg:=⟨fun t=>t==22,fun _=>[]⟩) Tz.mixed Tryz.func318 rfl rfl (aE rfl) (by kernel_rfl) ?_))
 have Y:=wa hpnc (wa hpec (wa @belowD.eq_1 (wa hcn' hce')))
 refine wv (h:=aQ (A1 S.t ht) wl ?_)
 refine wv (h:=?_)
 refine BQ (.step (.step (.step (.refl _) 8 0 9 3 1 _ _ (by simp [go_sem];rfl) rfl rfl rfl) 8 0 10 3 1 _ _ (by simp [go_sem];rfl) rfl rfl rfl) 8 0 11 56 2 _ _ (by simp [go_sem];rfl) rfl rfl rfl) ?_
 simp [go_sem]
 unfold gU
 refine KV S hG hv N hN pn pe hpn hpe 8 12 _ [] [] [] 10 11 _ _ rfl (by simp) (by simp) (fun _=>rfl) ⟨by simp [go_sem,Srch.cellP,Graph.c,dLI,dI],by simp [go_sem],by simp [go_sem],by simp [go_sem],by simp,by simp [go_sem],by simp,by simp,by simp⟩ (fun a3 b3 H3 hF3=>?_)
 rw [hRn] at hF3
 obtain ⟨gf3,ga3,gb3,go3,hle3,hn3,hd3⟩:=hF3
 have Y:=wa Y (wa gf3 (wa go3 @Srch.cellP.eq_1))
 refine wv (h:=?_)
 exact hQ _ _ (by simp [go_sem,Y,mO,RG])
theorem EY (t:Types)(ht:t.ok)(hv:(b9 t).2=0)(p g:Graph)(hG:G17 t p g)(pl el:List Int)(inj:Bool)(pn pe:D)(hpn:GivD pn pl p.nodes.length)(hpe:GivD pe el p.edges.length)(hcn:pn.cell=true)(hce:pe.cell=true){w:List Part × Int}(hw:w=Gv (HG ⟨t,p,g,pl,el,inj⟩)) :
  Pure Tryz.prog 221 [t.d,p.d,g.d,.agg [pn,pe],.bool inj] (.tup [.list (w.1.map Part.c),dI w.2]):=by
 obtain ⟨L,hL⟩:∃ L,L=(HG ⟨t,p,g,pl,el,inj⟩).take 5001:=⟨_,rfl⟩
 have hA:w=if 5000<L.length then ([],3) else (L,0):=by rw [hw];unfold Gv;rw [← hL]
 have hpnc:=hpn.1
 have hpec:=hpe.1
 have hcn':=hcn
 have hce':=hce
 unfold D.cell at hcn' hce'
 refine Tz.pK ⟨fun _=>false,fun _=>[]⟩ Tryz.func221 rfl (fun Q hQ=>?_)
 have Y:=wa hpnc (wa hpec (wa hcn' hce'))
 refine wv (h:=aB (Jn ⟨t,p,g,pl,el,inj⟩ hG ht hv 5001 (by omega) pn pe hpn hpe hcn hce hL) wl ?_)
 refine fJ (fun h2=>?_) fun h2=>?_
 ·rw [if_pos (by omega)] at hA
  exact wv (h:=hQ _ _ (by simp [go_sem,hA]))
 ·rw [if_neg (by omega)] at hA
  exact wv (h:=hQ _ _ (by simp [go_sem,hA]))
theorem yT {t:Types}{p g:Graph}(h:eB t p g=0):(b9 t).2=0:=by
 unfold eB at h
 split at h
 ·exact absurd h (by assumption)
 ·rename_i h1;simpa using h1
theorem Nt (t:Types)(ht:t.ok)(p g:Graph)(inj:Bool):Pure Tryz.prog 132 [t.d,p.d,g.d,.bool inj] (.tup [.list ((mI t p g inj).1.map Part.c),dI (mI t p g inj).2]):=by
 refine Tz.pK ⟨fun _=>false,fun _=>[]⟩ Tryz.func132 rfl (fun Q hQ=>?_)
 have Y:=trivial
 refine wv (h:=aB (pJ t ht p g) wl ?_)
 refine dO (fun h2=>?_) fun h2=>?_
 ·have hA:mI t p g inj=([],eB t p g):=by unfold mI;rw [if_pos (by simpa using h2)]
  exact wv (h:=hQ _ _ (by simp [go_sem,hA]))
 ·have hG:=qQ (by simpa using h2)
  have hv:=yT (by simpa using h2)
  obtain ⟨w,hw⟩:∃ w,w=Gv (HG ⟨t,p,g,List.replicate p.nodes.length (-1),List.replicate p.edges.length (-1),inj⟩):=⟨_,rfl⟩
  have hA:mI t p g inj=w:=by unfold mI;rw [if_neg (by simpa using h2),hw]
  refine wv (h:=aB (EY t ht hv p g hG _ _ inj .nil .nil (GivD.nil _) (GivD.nil _) rfl rfl hw) wl ?_)
  exact wv (h:=hQ _ _ (by simp [go_sem,hA]))
theorem He (t:Types)(ht:t.ok)(p g:Graph)(q:Part)(inj:Bool):Pure Tryz.prog 450 [t.d,p.d,g.d,q.d,.bool inj] (.tup [.list ((tZ t p g q inj).1.map Part.c),dI (tZ t p g q inj).2]):=by
 refine Tz.pK ⟨fun _=>false,fun _=>[]⟩ Tryz.func450 rfl (fun Q hQ=>?_)
 have Y:=trivial
 refine wv (h:=aB (pJ t ht p g) wl ?_)
 refine dO (fun h2=>?_) fun h2=>?_
 ·have hA:tZ t p g q inj=([],eB t p g):=by unfold tZ;rw [if_pos (by simpa using h2)]
  exact wv (h:=hQ _ _ (by simp [go_sem,hA]))
 ·have hG:=qQ (by simpa using h2)
  have hv:=yT (by simpa using h2)
  refine fJ (fun h4=>?_) fun h4=>?_
  ·have hA:tZ t p g q inj=([],20):=by unfold tZ;rw [if_neg (by simpa using h2),if_pos (by omega)]
   exact wv (h:=hQ _ _ (by simp [go_sem,hA]))
  ·have hq:q.nodes.length=p.nodes.length∧q.edges.length=p.edges.length:=by omega
   refine wo (h:=aB (Di q.nodes g.nodes.length) wl ?_)
   refine fJ (fun h7=>?_) fun h7=>?_
   ·have hA:tZ t p g q inj=([],vR q.nodes g.nodes.length):=by unfold tZ;rw [if_neg (by simpa using h2),if_neg (by omega),if_pos (by simpa using h7)]
    exact wv (h:=hQ _ _ (by simp [go_sem,hA]))
   ·have h7':vR q.nodes g.nodes.length=0:=by simpa using h7
    refine wo (h:=aB (Di q.edges g.edges.length) wl ?_)
    refine fJ (fun h10=>?_) fun h10=>?_
    ·have hA:tZ t p g q inj=([],vR q.edges g.edges.length):=by unfold tZ;rw [if_neg (by simpa using h2),if_neg (by omega),if_neg (by omega),if_pos (by simpa using h10)]
     exact wv (h:=hQ _ _ (by simp [go_sem,hA]))
    ·have h10':vR q.edges g.edges.length=0:=by simpa using h10
     obtain ⟨w,hw⟩:∃ w,w=Gv (HG ⟨t,p,g,q.nodes,q.edges,inj⟩):=⟨_,rfl⟩
     have hA:tZ t p g q inj=w:=by unfold tZ;rw [if_neg (by simpa using h2),if_neg (by omega),if_neg (by omega),if_neg (by omega),hw]
     refine wv (h:=aB (EY t ht hv p g hG q.nodes q.edges inj (dLI q.nodes) (dLI q.edges) (hq.1 ▸ GivD.list q.nodes) (hq.2 ▸ GivD.list q.edges) rfl rfl hw) wl ?_)
     exact wv (h:=hQ _ _ (by simp [go_sem,hA]))
theorem TS (l:List Edge):∀ d∈(l.map Edge.c).flatten,d.flat=true:=by
 intro d hd
 rw [iG] at hd
 obtain ⟨c,hc,hd⟩:=hd
 rw [aT] at hc
 obtain ⟨x,_,rfl⟩:=hc
 simp only [Edge.c,bM,iF,or_false] at hd
 rcases hd with rfl|rfl|rfl<;>rfl
theorem D5 (t:Types)(ht:t.ok)(p g:Graph)(m:Part):Pure Tryz.prog 135 [t.d,p.d,g.d,m.d] (.tup [(JO t p g m).d,dI (fM t p g m false)]):=by
 refine Tz.pK ⟨fun t=>t==8||t==12,fun r=>match r with|11=>[(0,7),(1,7)]|_=>[]⟩ Tryz.func135 rfl (fun Q hQ=>?_)
 have Y:=trivial
 refine wv (h:=aB (pJ t ht p g) wl ?_)
 refine dO (fun h2=>?_) fun h2=>?_
 ·have hC:fM t p g m false=eB t p g:=by unfold fM;rw [if_pos (by simpa using h2)]
  have hI:JO t p g m=⟨[],[]⟩:=by unfold JO;rw [if_neg (by rw [hC];simpa using h2)]
  exact wv (h:=hQ _ _ (by simp [go_sem,hI,hC]))
 ·have hG:=qQ (by simpa using h2)
  have hv:=yT (by simpa using h2)
  have hla:=cC hG.gp
  have hlb:=cC hG.gg
  have hC:fM t p g m false=jO t p g m false:=by unfold fM;rw [if_neg (by simpa using h2)]
  refine wv (h:=aB (A0 t ht p g hG hv m) wl ?_)
  refine dO (fun h5=>?_) fun h5=>?_
  ·have hI:JO t p g m=⟨[],[]⟩:=by unfold JO;rw [if_neg (by rw [hC];simpa using h5)]
   exact wv (h:=hQ _ _ (by simp [go_sem,hI,hC]))
  ·have hM:jO t p g m false=0:=by simpa using h5
   obtain ⟨⟨hl1,hl2⟩,hmn,hme⟩:=CA hM
   have hI:JO t p g m=xN p g m:=by unfold JO;rw [if_pos (by rw [hC];exact hM)]
   refine wv (h:=?_)
   refine OF (GE p.edges (by omega)) (by simp [go_sem]) (by simp [go_sem]) (TS _) ?_
   refine wp (h:=uZ (Ghosts.step (Ghosts.refl _) 1 0 0 3 1 _ _ (rfl) rfl rfl rfl) (fun i e H=>∃ xs:List Int,(e 4=.adr t.c∧e 5=.adr p.c∧e 6=.adr g.c∧e 7=.adr m.c∧e 8=.ptr 0 1 0 0∧e 12=.ptr 1 1 0 0∧e 37=dLI m.nodes∧e 38=dI m.nodes.length∧e 39=dI i)∧(H.get 0=some ⟨37,2,[[.nil,.nil]],false⟩)∧(0<H.next)∧(H.get 1=some ⟨37,2,[[.own 2 xs.length,.list (p.edges.map Edge.c)]],false⟩)∧(1<H.next)∧(H.get 2=some ⟨3,1,xs.map cI,false⟩)∧(2<H.next)∧(i≤m.nodes.length)∧(xs=(m.nodes.take i).map (gN g))) (fun i=>m.nodes.length - i) 0 ⟨([]),wg,wn,wn,wn,wn,wn,wn,wi,(by rfl)⟩ fun I0 hI0 i e H hi0=>?_)
   obtain ⟨xs,E0,g0_0,n0_0,g1_0,n1_0,g2_0,n2_0,hi,hx⟩:=hi0
   have Y:=wa Y (wa E0 (wa g0_0 (wa (b5 n0_0) (wa g1_0 (wa (b5 n1_0) (wa g2_0 (b5 n2_0)))))))
   refine dO (fun h9=>?_) fun h9=>?_
   ·have hmi:=hmn _ (aC h9)
    have hk:m.nodes[i].toNat<g.nodes.length:=by omega
    have hxl:xs.length=i:=by rw [hx];simp;omega
    have Y:=wa Y (wa h9 (wa (aA h9) (wa (aA hk) @gN.eq_1)))
    exact wp (h:=wx hI0 (i+1) ⟨(xs++[gN g m.nodes[i]]),wg,wn,wn,wn,wn,wn,wn,wj,(by (rw [j9 _ h9,← hx]))⟩)
   ·have hX:xs=m.nodes.map (gN g):=by rw [hx,lM _ (by omega)]
    exact wv (h:=hQ _ _ (by simp [go_sem,Y,hI,hC,hM,xN,Graph.d,Graph.c,hX,dLI]))
end Go.Abs
end
