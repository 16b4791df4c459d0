/- Hosts of the program: node, Valid. · Values of the program:  -/
import Derived.Test.YthalajhajpjjeaaGreatZeF
import Derived.Test.YthalajhajpjjeaaGreatZeQ
import Derived.Test.YthalajhajpjjeaaGreatZeA
import Derived.Laws.Externs
set_option linter.unusedVariables false
set_option linter.unusedSimpArgs false
section
set_option maxRecDepth 100000
set_option maxHeartbeats 4000000
open Go Go.Proofs
namespace Go.Abs
theorem N8 (t:Types)(ht:t.ok)(kind:Int)(hk:0≤kind)(vs:List Int):Pure Tryz.prog 228 [t.d,dI kind,dLI vs] (dI (f9 t kind vs)):=by
 refine Tz.pK ⟨fun t=>t==10,fun _=>[]⟩ Tryz.func228 rfl (fun Q hQ=>?_)
 have Y:=trivial
 refine wv (h:=?_)
 repeat first|intro _|refine ⟨dR,?_⟩
 refine wq (fun h1=>?_) fun h1=>?_
 ·have hE:f9 t kind vs=6:=by unfold f9;rw [if_pos (by omega)]
  exact wv (h:=hQ _ _ (by simp [go_sem,hE]))
 ·have hkn:kind.toNat<t.nodes.length:=by omega
  have hA:uW t kind.toNat=t.nodes[kind.toNat].abs:=by simp [uW,aA hkn]
  have hE0:f9 t kind vs=if uW t kind.toNat=true then 13 else if vs.length≠(bI t kind).length then 20 else bJ (Al (bI t kind) vs) 0 (bI t kind).length:=by unfold f9;rw [if_neg (by omega)]
  rw [hA] at hE0
  have Y:=wa Y (wa (aA hkn) @NodeTy.c.eq_1)
  refine wv (h:=?_)
  repeat first|intro _|refine ⟨dR,?_⟩
  refine wq (fun h3=>?_) fun h3=>?_
  ·rw [if_pos (by simpa using h3)] at hE0
   exact wv (h:=hQ _ _ (by simp [go_sem,hE0]))
  ·rw [if_neg (by simpa using h3)] at hE0
   refine wv (h:=aB (oE t ht kind) wl ?_)
   refine wv (h:=?_)
   repeat first|intro _|refine ⟨dR,?_⟩
   refine wq (fun h6=>?_) fun h6=>?_
   ·rw [if_pos (by omega)] at hE0
    exact wv (h:=hQ _ _ (by simp [go_sem,hE0]))
   ·rw [if_neg (by omega)] at hE0
    have hln:vs.length=(bI t kind).length:=by omega
    refine wo (h:=bA (fun k e H=>(e 3=.adr t.c∧e 2=dLI vs∧e 33=.list ((bI t kind).map Attr.c)∧e 34=dI (bI t kind).length∧e 35=dI k)∧(k≤(bI t kind).length)∧(bJ (Al (bI t kind) vs) k ((bI t kind).length - k)=f9 t kind vs)) (fun k=>(bI t kind).length - k) 0 ⟨wg,wi,(by exact hE0.symm)⟩ fun I0 hI0 k e H hi0=>?_)
    obtain ⟨E0,hkl,hF⟩:=hi0
    have Y:=wa Y E0
    refine c4 (fun h9=>?_) fun h9=>?_
    ·have hv:k<vs.length:=by omega
     have hst:=d7 (Al (bI t kind) vs) h9
     rw [hF] at hst
     have hLE:Al (bI t kind) vs k=if vs[k]<(bI t kind)[k].low∨(bI t kind)[k].high<vs[k] then 6 else 0:=by simp only [Al,aA hv,aA h9,aD]
     have Y:=wa Y (wa h9 (wa (aA hv) (wa (aA h9) @Attr.c.eq_1)))
     refine wv (h:=?_)
     repeat first|intro _|refine ⟨dR,?_⟩
     refine wq (fun h11=>?_) fun h11=>?_
     ·rw [if_pos (by omega)] at hLE
      rw [hLE,if_pos (by omega)] at hst
      exact wv (h:=hQ _ _ (by simp [go_sem,hst]))
     ·rw [if_neg (by omega)] at hLE
      rw [hLE,if_neg (by omega)] at hst
      exact wo (h:=wx hI0 (k+1) ⟨wg,wj,(by exact hst.symm)⟩)
    ·have hZ:f9 t kind vs=0:=by rw [← hF,show (bI t kind).length - k=0 by omega];rfl
     exact wv (h:=hQ _ _ (by simp [go_sem,hZ]))
theorem y0 (t:Types)(ht:t.ok)(h:Host):Pure Tryz.prog 137 [t.d,h.d] (.tup [dI (l8 t h).1,dI (l8 t h).2]):=by
 refine Tz.pK ⟨fun t=>t==13,fun _=>[]⟩ Tryz.func137 rfl (fun Q hQ=>?_)
 have Y:=wa @Host.d.eq_1 @Host.c.eq_1
 refine wv (h:=aB (l5 t ht) wl ?_)
 refine c4 (fun h2=>?_) fun h2=>?_
 ·have hE:l8 t h=(-1,(b8 t).2):=by unfold l8;rw [if_pos (by simpa using h2)]
  exact wv (h:=hQ _ _ (by simp [go_sem,hE]))
 ·have hE0:l8 t h=if graphF h.graph≠0 then (-1,graphF h.graph) else if h.values.length≠h.graph.nodes.length then (-1,20) else if (fS (Ep t h) 0 h.graph.nodes.length).2≠0 then fS (Ep t h) 0 h.graph.nodes.length else fS (N9 t h) 0 h.graph.edges.length:=by unfold l8;rw [if_neg (by simpa using h2)]
  refine wv (h:=aB (kW h.graph) wl ?_)
  refine c4 (fun h5=>?_) fun h5=>?_
  ·rw [if_pos (by simpa using h5)] at hE0
   exact wv (h:=hQ _ _ (by simp [go_sem,hE0]))
  ·rw [if_neg (by simpa using h5)] at hE0
   have hg0:graphF h.graph=0:=by simpa using h5
   have hgi:=dP hg0
   have hgl:=bK hg0
   refine eF (fun h7=>?_) fun h7=>?_
   ·rw [if_pos (by omega)] at hE0
    exact wv (h:=hQ _ _ (by simp [go_sem,hE0]))
   ·rw [if_neg (by omega)] at hE0
    refine wo (h:=bA (fun i e H=>(e 2=.adr t.c∧e 3=.adr h.c∧e 38=dLI h.graph.nodes∧e 39=dI h.graph.nodes.length∧e 40=dI i)∧(i≤h.graph.nodes.length)∧(fS (Ep t h) i (h.graph.nodes.length - i)=fS (Ep t h) 0 h.graph.nodes.length)) (fun i=>h.graph.nodes.length - i) 0 ⟨wg,wi,(by rfl)⟩ fun I0 hI0 i e H hi0=>?_)
    obtain ⟨E0,hi,hF⟩:=hi0
    have Y:=wa Y E0
    refine c4 (fun h10=>?_) fun h10=>?_
    ·have hv:i<h.values.length:=by omega
     have hn0:0≤h.graph.nodes[i]:=(hgi.1 _ (aC h10)).1
     have hst:=pF (Ep t h) h10
     rw [hF] at hst
     have hNE:Ep t h i=f9 t h.graph.nodes[i] h.values[i]:=by simp only [Ep,aA hv,aA h10,aD]
     have Y:=wa Y (wa h10 (wa (aA hv) (wa (aA h10) @cL.eq_1)))
     refine wo (h:=aK (N8 t ht h.graph.nodes[i] hn0 h.values[i]) wl ?_)
     refine eF (fun h13=>?_) fun h13=>?_
     ·rw [hNE,if_pos (by simpa using h13)] at hst
      rw [hst,if_pos (by simpa using h13)] at hE0
      exact wv (h:=hQ _ _ (by simp [go_sem,hE0]))
     ·rw [hNE,if_neg (by simpa using h13)] at hst
      exact wo (h:=wx hI0 (i+1) ⟨wg,wj,(by exact hst.symm)⟩)
    ·have hN0:fS (Ep t h) 0 h.graph.nodes.length=(-1,0):=by rw [← hF,show h.graph.nodes.length - i=0 by omega];rfl
     rw [hN0,if_neg (by simp)] at hE0
     refine wo (h:=bA (fun j e H=>(e 2=.adr t.c∧e 3=.adr h.c∧e 60=.list (h.graph.edges.map Edge.c)∧e 61=dI h.graph.edges.length∧e 62=dI j)∧(j≤h.graph.edges.length)∧(fS (N9 t h) j (h.graph.edges.length - j)=l8 t h)) (fun j=>h.graph.edges.length - j) 0 ⟨wg,wi,(by exact hE0.symm)⟩ fun I2 hI2 j e H hi2=>?_)
     obtain ⟨E2,hj,hG⟩:=hi2
     have Y:=wa Y E2
     refine c4 (fun h17=>?_) fun h17=>?_
     ·obtain ⟨x,hx⟩:∃ x,x=h.graph.edges[j]:=⟨_,rfl⟩
      have hxi:=(hgi.2 _ (aC h17)).2
      rw [← hx] at hxi
      have hxf:x.from_.toNat<h.graph.nodes.length:=by omega
      have hxt:x.to_.toNat<h.graph.nodes.length:=by omega
      have hst:=pF (N9 t h) h17
      rw [hG] at hst
      have hEE:N9 t h j=if (t.edges.length:Int)≤x.type then 6 else if l9 t x.type h.graph.nodes[x.from_.toNat] h.graph.nodes[x.to_.toNat]=true then 0 else 13:=by simp only [N9,gN,aA h17,aD,← hx,aA hxf,aA hxt]
      have Y:=wa Y (wa h17 (wa (aA h17) (wa (Eq.symm hx) (wa (aA hxf) (aA hxt)))))
      refine eF (fun h19=>?_) fun h19=>?_
      ·rw [if_pos (by omega)] at hEE
       rw [hEE,if_pos (by omega)] at hst
       exact wv (h:=hQ _ _ (by simp [go_sem,hst]))
      ·rw [if_neg (by omega)] at hEE
       refine wo (h:=aK (De t ht x.type h.graph.nodes[x.from_.toNat] h.graph.nodes[x.to_.toNat]) wl ?_)
       refine eF (fun h21=>?_) fun h21=>?_
       ·rw [if_neg (by simpa using h21)] at hEE
        rw [hEE,if_pos (by omega)] at hst
        exact wv (h:=hQ _ _ (by simp [go_sem,hst]))
       ·rw [if_pos (by simpa using h21)] at hEE
        rw [hEE,if_neg (by omega)] at hst
        exact wo (h:=wx hI2 (j+1) ⟨wg,wj,(by exact hst.symm)⟩)
     ·have hZ:l8 t h=(-1,0):=by rw [← hG,show h.graph.edges.length - j=0 by omega];rfl
      exact wv (h:=hQ _ _ (by simp [go_sem,hZ]))
end Go.Abs
end
section
set_option maxRecDepth 60000
set_option maxHeartbeats 4000000
open Go Go.Proofs
namespace Go.Abs
def MV (s:Int):Int:=if s<0 then -1 else 0
def J2 (s:Int):Int:=s % 18446744073709551616
theorem Oq (x y:Int)(hx:0≤x)(hy:0≤y)(w:World):(callFunc 399 #[.int .u64 x,.int .u64 y,.int .u64 0]).run Tryz.prog w =
  .ok (.value (.tuple #[.int .u64 ((x+y+0) % 18446744073709551616),.int .u64 ((x+y+0) / 18446744073709551616)])) w:=by
 rw [run_callFunc_extern Tryz.func399 (by kernel_rfl) (by kernel_rfl) (by kernel_rfl) (e:=add64Entry) (by kernel_rfl),run_add64 x y 0 hx hy (by omega) (by omega)]
 rfl
open RowKit in
theorem KU (a b:Int)(ha : -4000000≤a∧a≤4000000)(hb : -4000000≤b∧b≤4000000)(w:World) :
  Calls Tryz.prog 348 #[.int .i64 a,.int .i64 b] w fun e w'=>e=.returned (.tuple #[.int .i64 (MV (a+b)),.int .u64 (J2 (a+b))])∧w'=w:=by
 have h:=Oq (IntKind.u64.wrap a) (IntKind.u64.wrap b) (by rw [IntKind.wrap_u64];omega) (by rw [IntKind.wrap_u64];omega) w
 simp only [Int.add_zero] at h
 go_enter Tryz.func348,Tryz.ntmps348
 go_wp2
 have wa:IntKind.u64.wrap a=if a<0 then a+18446744073709551616 else a:=by rw [IntKind.wrap_u64];split<;>omega
 have wb:IntKind.u64.wrap b=if b<0 then b+18446744073709551616 else b:=by rw [IntKind.wrap_u64];split<;>omega
 have e1:wrap64 (a / 9223372036854775808+b / 9223372036854775808+wrap64 ((IntKind.u64.wrap a+IntKind.u64.wrap b) / 18446744073709551616))=MV (a+b):=by
  rw [wa,wb];unfold MV wrap64
  repeat' split
  all_goals omega
 have e2:(IntKind.u64.wrap a+IntKind.u64.wrap b) % 18446744073709551616=J2 (a+b):=by
  rw [wa,wb];unfold J2
  repeat' split
  all_goals omega
 rw [e1,e2]
 go_ret2
 exact ⟨rfl,rfl⟩
theorem uO (a b : Int) (ha : -4000000 ≤ a ∧ a ≤ 4000000) (hb : -4000000 ≤ b ∧ b ≤ 4000000) : Pure Tryz.prog 348 [dI a, dI b] (.tup [dI (MV (a + b)), .int .u64 (J2 (a + b))]) := by
  refine ⟨⟨Tryz.f348, Tryz.func348, rfl, rfl⟩, fun M w vals hM ha' => ?_⟩
  have hv : vals = [.int .i64 a, .int .i64 b] := by
    obtain ⟨hl, hr⟩ := ha'
    match vals, hl with
    | [x, y], _ =>
      have h0 := hr 0 x _ rfl rfl
      have h1 := hr 1 y _ rfl rfl
      cases h0
      cases h1
      rfl
  subst hv
  exact (KU a b ha hb w).mono fun e w' ⟨h1, h2⟩ => ⟨_, h1, .tup _ _ rfl (fun j u d hu hd => by
    match j with
    | 0 => simp at hu hd; subst hu; subst hd; exact .int _ _
    | 1 => simp at hu hd; subst hu; subst hd; exact .int _ _
    | j + 2 => simp at hu), by subst h2; exact ⟨rfl, rfl, rfl, bC _, fun _ _ => rfl⟩⟩
theorem rM (x:Term)(vs:List Int)(hx:nB x vs.length)(hs:Sm vs):Pure Tryz.prog 347 [.agg x.c,.adr [dLI vs]] (.tup [dI (MV (cD x vs)),.int .u64 (J2 (cD x vs)),.bool true]):=by
 have hx0:=hx
 obtain ⟨⟨a1,a2⟩,a3,a4⟩:=hx0
 refine Tz.pK ⟨fun _=>false,fun _=>[]⟩ Tryz.func347 rfl (fun Q hQ=>?_)
 have Y:=@Term.c.eq_1
 refine c4 (fun h1=>?_) fun h1=>?_
 ·have hT:cD x vs=0+x.add:=by unfold cD;rw [if_pos (by omega)];omega
  refine wv (h:=aB (uO 0 x.add (by omega) (by omega)) wl ?_)
  exact wv (h:=hQ _ _ (by simp [go_sem,hT]))
 ·have hk:x.var.toNat<vs.length:=by omega
  have hb:=hs.get hk
  have hT:cD x vs=vs[x.var.toNat]+x.add:=by unfold cD;rw [if_neg (by omega),aA hk];rfl
  have w1:¬ x.var<0:=by omega
  have w2:¬ (vs.length:Int)≤x.var:=by omega
  have Y:=wa Y (wa (aA hk) (wa w1 w2))
  refine wo (h:=aK (uO vs[x.var.toNat] x.add hb (by omega)) wl ?_)
  exact wo (h:=hQ _ _ (by simp [go_sem,hT]))
theorem EN (a:Int):Pure Tryz.prog 400 [.int .u64 a] (.bool false):=by
 refine Tz.pK ⟨fun _=>false,fun _=>[]⟩ Tryz.func400 rfl (fun Q hQ=>?_)
 have Y:=trivial
 exact wv (h:=hQ _ _ wy)
theorem Ii (a b:Int):Pure Tryz.prog 351 [.int .u64 a,.int .u64 b] (dI (cmp1 a b)):=by
 refine Tz.pK ⟨fun _=>false,fun _=>[]⟩ Tryz.func351 rfl (fun Q hQ=>?_)
 have Y:=trivial
 refine wv (h:=aB (EN a) wl ?_)
 refine wv (h:=aB (EN b) wl ?_)
 refine c4 (fun h9=>?_) fun h9=>?_
 ·have Y:=wa Y (wa h9 @cmp1.eq_1)
  exact wv (h:=hQ _ _ wy)
 ·refine c4 (fun h11=>?_) fun h11=>?_
  ·have Y:=wa Y (wa h9 (wa h11 @cmp1.eq_1))
   exact wv (h:=hQ _ _ wy)
  ·have Y:=wa Y (wa h9 (wa h11 @cmp1.eq_1))
   exact wv (h:=hQ _ _ wy)
def Qd (a b:Int):Int:=PS [cmp1 (MV a) (MV b),cmp1 (J2 a) (J2 b)]
theorem Qc {a b:Int}(ha : -10000000≤a∧a≤10000000)(hb : -10000000≤b∧b≤10000000):Qd a b=if a<b then -1 else if b<a then 1 else 0:=by
 have la:J2 a=if a<0 then a+18446744073709551616 else a:=by unfold J2;split<;>omega
 have lb:J2 b=if b<0 then b+18446744073709551616 else b:=by unfold J2;split<;>omega
 unfold Qd
 simp only [PS,cmp1,MV,la,lb]
 repeat' split
 all_goals omega
theorem Dj {x:Term}{vs:List Int}(hx:nB x vs.length)(hs:Sm vs) : -10000000≤cD x vs∧cD x vs≤10000000:=by
 obtain ⟨⟨a1,a2⟩,a3,a4⟩:=hx
 unfold cD
 split
 ·omega
 ·have hk:x.var.toNat<vs.length:=by omega
  have hb:=hs.get hk
  rw [aA hk,aD]
  omega
theorem tA (x:Test)(vs:List Int)(hx:Fb x vs.length)(hs:Sm vs):Pure Tryz.prog 271 [.agg x.c,dLI vs] (.bool (xK x vs)):=by
 obtain ⟨hk,hl,hr⟩:=hx
 have hO:=Qc (Dj hl hs) (Dj hr hs)
 have hOe:Qd (cD x.left vs) (cD x.right vs)=PS [cmp1 (MV (cD x.left vs)) (MV (cD x.right vs)),cmp1 (J2 (cD x.left vs)) (J2 (cD x.right vs))]:=rfl
 obtain ⟨o,ho⟩:∃ o,o=Qd (cD x.left vs) (cD x.right vs):=⟨_,rfl⟩
 rw [← ho] at hO hOe
 have hT:xK x vs=(decide (x.kind=1)&&decide (o≤0)||decide (x.kind=2)&&decide (o=0)):=by
  unfold xK
  rw [hO,aQ]
  simp
  constructor
  ·rintro (⟨h1,h2⟩|⟨h1,h2⟩)
   ·left;refine ⟨h1,?_⟩;split<;>(try split)<;>omega
   ·right;refine ⟨h1,?_⟩;rw [h2];simp
  ·rintro (⟨h1,h2⟩|⟨h1,h2⟩)
   ·left;refine ⟨h1,?_⟩;split at h2<;>(try split at h2)<;>omega
   ·right;refine ⟨h1,?_⟩;split at h2<;>(try split at h2)<;>omega
 refine Tz.pK ⟨fun _=>false,fun _=>[]⟩ Tryz.func271 rfl (fun Q hQ=>?_)
 have Y:=@Test.c.eq_1
 refine wv (h:=?_)
 refine aB (rM x.left vs hl hs) wl ?_
 refine wv (h:=?_)
 refine aB (rM x.right vs hr hs) wl ?_
 refine wv (h:=?_)
 repeat first|intro _|refine ⟨dR,?_⟩
 refine aB (Ku (MV (cD x.left vs)) (MV (cD x.right vs))) wl ?_
 refine wv (h:=?_)
 repeat first|intro _|refine ⟨dR,?_⟩
 refine aB (Ii (J2 (cD x.left vs)) (J2 (cD x.right vs))) wl ?_
 refine wv (h:=?_)
 repeat first|intro _|refine ⟨dR,?_⟩
 refine aB ((by have hq:=Si [cmp1 (MV (cD x.left vs)) (MV (cD x.right vs)),cmp1 (J2 (cD x.left vs)) (J2 (cD x.right vs))];rw [← hOe] at hq;exact hq)) wl ?_
 refine wv (h:=?_)
 repeat first|intro _|refine ⟨dR,?_⟩
 exact hQ _ _ (by simp [go_sem,hT]<;>(first|rfl|(rw [aQ];simp)))
theorem kA (x:Term)(vs:List Int)(hx:nB x vs.length)(hs:Sm vs):Pure Tryz.prog 270 [.agg x.c,dLI vs] (dI (cD x vs)):=by
 have hx0:=hx
 obtain ⟨⟨a1,a2⟩,a3,a4⟩:=hx0
 refine Tz.pK ⟨fun _=>false,fun _=>[]⟩ Tryz.func270 rfl (fun Q hQ=>?_)
 have Y:=@Term.c.eq_1
 refine c4 (fun h1=>?_) fun h1=>?_
 ·exact wv (h:=hQ _ _ (by simp [go_sem,cD,h1]))
 ·have hk:x.var.toNat<vs.length:=by omega
  have hb:=hs.get hk
  have Y:=wa Y (aA hk)
  exact wo (h:=hQ _ _ (by simp [go_sem,cD,show ¬ x.var<0 by omega,aA hk]))
theorem k7 (x:Term)(vs:List Int)(hx:nB x vs.length)(hs:Sm vs):Pure Tryz.prog 336 [.agg x.c,dLI vs] (.tup [dI (cD x vs),dI 0]):=by
 have hx0:=hx
 obtain ⟨⟨a1,a2⟩,a3,a4⟩:=hx0
 have hin:inF x.var (-1) ((vs.length:Int) - 1)=true:=by unfold inF;simp;omega
 refine Tz.pK ⟨fun _=>false,fun _=>[]⟩ Tryz.func336 rfl (fun Q hQ=>?_)
 have Y:=wa @Term.c.eq_1 hin
 refine wo (h:=aB (iH x.var (-1) ((vs.length:Int) - 1)) wl ?_)
 refine wo (h:=aB (kA x vs hx hs) wl ?_)
 exact wo (h:=hQ _ _ wy)
end Go.Abs
end
section
set_option maxRecDepth 100000
set_option maxHeartbeats 4000000
open Go Go.Proofs
namespace Go.Abs
theorem Dv (t:Types)(a:Int):Pure Tryz.prog 384 [dI a,.adr t.c] (.bool (decide ((t.nodes.length:Int)≤a))):=by
 refine Tz.pK ⟨fun _=>false,fun _=>[]⟩ Tryz.func384 rfl (fun Q hQ=>?_)
 have Y:=trivial
 exact wo (h:=hQ _ _ wy)
theorem Du (t:Types)(x:Edge):Pure Tryz.prog 385 [.agg x.c,.adr t.c] (.bool (decide ((t.edges.length:Int)≤x.type))):=by
 refine Tz.pK ⟨fun _=>false,fun _=>[]⟩ Tryz.func385 rfl (fun Q hQ=>?_)
 have Y:=trivial
 exact wo (h:=hQ _ _ wy)
theorem xV (t:Types)(g:Graph):Pure Tryz.prog 326 [t.d,g.d] (.bool (f8 t g)):=by
 refine Tz.pK ⟨fun _=>false,fun _=>[]⟩ Tryz.func326 rfl (fun Q hQ=>?_)
 have Y:=trivial
 refine wo (h:=aB (fI g.nodes 384 [.adr t.c] (fun a=>decide ((t.nodes.length:Int)≤a)) (by simp [go_sem]) (by simp [go_sem]) (fun a _=>Dv t a)) wl ?_)
 refine wo (h:=aG (fun hg=>j7 g.edges 385 [.adr t.c] (fun x=>decide ((t.edges.length:Int)≤x.type)) (by simp [go_sem]) (by simp [go_sem]) (fun x _=>Du t x)) (fun hg=>wl) ?_)
 exact wo (h:=hQ _ _ (by simp [go_sem,f8];rw [aQ];simp))
theorem F8 (t:Types){g:Graph}(hg:graphF g=0):f8 t g=kI t g:=by
 have hi:=dP hg
 have h1:(g.nodes.any fun n=>decide ((t.nodes.length:Int)≤n))=g.nodes.any fun a=>!insideF t a:=by
  rw [aQ,aW,aW]
  constructor<;>rintro ⟨a,ha,h⟩<;>refine ⟨a,ha,?_⟩<;>have:=hi.1 a ha<;>simp [insideF] at h ⊢<;>omega
 have h2:(g.edges.any fun x=>decide ((t.edges.length:Int)≤x.type))=g.edges.any fun x=>!mA t x:=by
  rw [aQ,aW,aW]
  constructor<;>rintro ⟨a,ha,h⟩<;>refine ⟨a,ha,?_⟩<;>have:=(hi.2 a ha).1<;>simp [mA] at h ⊢<;>omega
 unfold f8 kI
 rw [h1,h2]
def R2 (p g:Graph)(i:Nat):Int:=if i=0 then graphF p else graphF g
theorem R1 (p g:Graph):bJ (R2 p g) 0 2=if graphF p≠0 then graphF p else if graphF g≠0 then graphF g else 0:=by simp [bJ,R2]
theorem pB (t:Types)(ht:t.ok)(p g:Graph):Pure Tryz.prog 232 [t.d,p.d,g.d] (dI (eP t p g)):=by
 refine Tz.pK ⟨fun t=>t==10,fun _=>[]⟩ Tryz.func232 rfl (fun Q hQ=>?_)
 have Y:=trivial
 refine wv (h:=aB (l5 t ht) wl ?_)
 refine c4 (fun h2=>?_) fun h2=>?_
 ·have hA:eP t p g=(b8 t).2:=by unfold eP;rw [if_pos (by simpa using h2)]
  exact wv (h:=hQ _ _ (by simp [go_sem,hA]))
 ·have hA:eP t p g=if graphF p≠0 then graphF p else if graphF g≠0 then graphF g else if (!kI t p||!kI t g)=true then 13 else 0:=by unfold eP;rw [if_neg (by simpa using h2)]
  refine wo (h:=bA (fun i e H=>(e 3=.adr t.c∧e 4=.adr p.c∧e 5=.adr g.c∧e 22=.list [p.c,g.c]∧e 23=dI 2∧e 24=dI i)∧(i≤2)∧(bJ (R2 p g) i (2 - i)=bJ (R2 p g) 0 2)) (fun i=>2 - i) 0 ⟨wg,wi,(by rfl)⟩ fun I0 hI0 i e H hi0=>?_)
  obtain ⟨E0,hi,hF⟩:=hi0
  have Y:=wa Y E0
  refine c4 (fun h5=>?_) fun h5=>?_
  ·have hi2:i<2:=by omega
   have hst:=d7 (R2 p g) hi2
   rw [hF] at hst
   obtain ⟨x,hx,hgx⟩:∃ x:Graph,[[D.list (p.nodes.map cI),D.list (p.edges.map Edge.c)],[D.list (g.nodes.map cI),D.list (g.edges.map Edge.c)]][i]?=some [D.list (x.nodes.map cI),D.list (x.edges.map Edge.c)]∧R2 p g i=graphF x:=by
    rcases bN i 1 with h|h
    ·obtain rfl:i=0:=by omega
     exact ⟨p,rfl,rfl⟩
    ·obtain rfl:i=1:=by omega
     exact ⟨g,rfl,rfl⟩
   have hgr:=kW x
   have Y:=wa Y (wa h5 hx)
   refine wo (h:=aB (hgr) wl ?_)
   refine eF (fun h8=>?_) fun h8=>?_
   ·have hR:eP t p g=graphF x:=by
     rw [hgx,if_pos (by simpa using h8),R1] at hst
     rw [hA]
     by_cases h1:graphF p=0
     ·rw [if_neg (by simp [h1])] at hst ⊢
      by_cases h2':graphF g=0
      ·rw [if_neg (by simp [h2'])] at hst;exact absurd hst.symm h8
      ·rw [if_pos h2'] at hst ⊢;exact hst
     ·rw [if_pos h1] at hst ⊢;exact hst
    exact wv (h:=hQ _ _ (by simp [go_sem,hR]))
   ·rw [hgx,if_neg (by simpa using h8)] at hst
    exact wo (h:=wx hI0 (i+1) ⟨wg,wj,(by exact hst.symm)⟩)
  ·have hz:bJ (R2 p g) 0 2=0:=by rw [← hF,show 2 - i=0 by omega];rfl
   have hp0:graphF p=0:=dZ _ _ hz 0 (by omega) (by omega)
   have hg0:graphF g=0:=dZ _ _ hz 1 (by omega) (by omega)
   rw [if_neg (by simpa using hp0),if_neg (by simpa using hg0),← F8 t hp0,← F8 t hg0] at hA
   refine wo (h:=aB (xV t p) wl ?_)
   refine wo (h:=aG (fun hg=>xV t g) (fun hg=>wl) ?_)
   refine eF (fun h11=>?_) fun h11=>?_
   ·rw [if_pos (by simpa [mG] using h11)] at hA
    exact wv (h:=hQ _ _ (by simp [go_sem,hA]))
   ·rw [if_neg (by simpa [mG] using h11)] at hA
    exact wv (h:=hQ _ _ (by simp [go_sem,hA]))
/-! ### below -/
def o6 (n:Nat)(l:List Int):List Bool:=(List.range n).map fun (b:Nat)=>mem l (b:Int)
@[go_sem] theorem NY (n:Nat)(l:List Int):(o6 n l).length=n:=by simp [o6]
theorem NX (n:Nat):o6 n []=List.replicate n false:=by
 apply f7 (by simp [o6]);intro i h1 h2;simp [o6,Ak]
theorem LK (n:Nat)(l:List Int)(x:Int)(h0:0≤x):o6 n (l++[x])=(o6 n l).set x.toNat true:=by
 apply f7 (by simp [o6]);intro i h2 h3
 rw [xJ]
 simp only [o6,qP,nE,sW]
 split
 ·rename_i h;rw [b7];right;simp;omega
 ·rename_i h;rw [show decide ((i:Int)=x)=false by simp;omega,sD]
def HE (t:Types)(a:Nat):List Bool:=o6 t.nodes.length (iZ t a)
def oX (t:Types)(n:Nat):List (List D):=(List.range n).map fun a=>[.list ((HE t a).map cB)]
def belowD (t:Types):D:=.list (oX t t.nodes.length)
theorem Ln (t:Types)(n:Nat):oX t (n+1)=oX t n++[[.list ((HE t n).map cB)]]:=by simp [oX,fG]
@[go_sem] theorem ST (t:Types)(n:Nat):(oX t n).length=n:=by simp [oX]
@[go_sem] theorem OP (t:Types)(n:Nat):D.clLL (oX t n)=true:=by
 unfold oX;exact cQ (fun a=>[.list ((HE t a).map cB)]) (fun a=>by simp [D.clL,go_sem]) _
theorem Oj {t:Types}{a:Int}{x:Int}(h:x∈iZ t a):0≤x∧x<t.nodes.length:=by
 unfold iZ at h
 split at h
 ·simp at h;omega
 ·cases h
theorem Mk (t:Types)(a:Int):(iZ t a).length≤t.nodes.length:=by
 unfold iZ
 split
 ·rw [bW];exact dW (oC _ _) (by simp)
 ·simp
@[go_sem] theorem Tc (t:Types):(belowD t).cl=true:=OP t _
theorem zU (t:Types)(ht:t.ok):Pure Tryz.prog 327 [t.d] (belowD t):=by
 have hfew:=ht.fewN
 refine Tz.pK ⟨fun t=>t==3||t==5||t==19,fun _=>[]⟩ Tryz.func327 rfl (fun Q hQ=>?_)
 have Y:=trivial
 refine wo (h:=bA (fun i e H=>(e 1=.adr t.c∧e 11=.list (t.nodes.map NodeTy.c)∧e 12=dI t.nodes.length∧e 3=.own 0 i∧e 13=dI i)∧(H.get 0=some ⟨306,1,oX t i,false⟩)∧(0<H.next)∧(i≤t.nodes.length)) (fun i=>t.nodes.length - i) 0 ⟨wg,(by (simp [go_sem,oX])),wn,wi⟩ fun I0 hI0 i e H hi0=>?_)
 obtain ⟨E0,g0_0,n0_0,hi⟩:=hi0
 have Y:=wa Y (wa E0 (wa g0_0 (bZ n0_0)))
 refine c4 (fun h3=>?_) fun h3=>?_
 ·have hll:=Mk t i
  have Y:=wa Y h3
  refine wo (h:=aB (IN t ht i) wl ?_)
  refine wo (h:=bA (fun k e H=>∃ q:Nat,(e 1=.adr t.c∧e 11=.list (t.nodes.map NodeTy.c)∧e 12=dI t.nodes.length∧e 3=.own 0 i∧e 13=dI i∧e 4=dI i∧e 5=.own q t.nodes.length∧e 26=dLI (iZ t i)∧e 27=dI (iZ t i).length∧e 28=dI k)∧(H.get 0=some ⟨306,1,oX t i,false⟩)∧(0<H.next)∧(H.get q=some ⟨4,1,(o6 t.nodes.length ((iZ t i).take k)).map cB,false⟩)∧(q<H.next)∧(k≤(iZ t i).length)∧(0<q)) (fun k=>(iZ t i).length - k) 0 ⟨H.next,wg,wn,wn,(by (simp [go_sem,NX])),wn,wi,wi⟩ fun I2 hI2 k e H hi2=>?_)
  obtain ⟨q,E2,g0_2,n0_2,gq_2,nq_2,hk,hq0⟩:=hi2
  have di1:=cW (show q≠0 by omega)
  have Y:=wa Y (wa E2 (wa g0_2 (wa (bZ n0_2) (wa gq_2 (wa (bZ nq_2) di1)))))
  refine c4 (fun h8=>?_) fun h8=>?_
  ·have hbx:=Oj (aC h8)
   have hbl:(iZ t i)[k].toNat<(o6 t.nodes.length ((iZ t i).take k)).length:=by rw [NY];omega
   have hms:o6 t.nodes.length ((iZ t i).take (k+1))=(o6 t.nodes.length ((iZ t i).take k)).set (iZ t i)[k].toNat true:=by rw [aE h8,LK _ _ _ hbx.1]
   have Y:=wa Y (wa h8 (wa (aA h8) (wa (aA hbl) (wa hbx.1 hbx.2))))
   exact wo (h:=wx hI2 (k+1) ⟨q,wg,wn,wn,(by (simp [go_sem,Y,hms,c8,cB])),wn,wj,wj⟩)
  ·have hke:(iZ t i).take k=iZ t i:=aH (by omega)
   have Y:=wa Y hke
   exact wo (h:=wx hI0 (i+1) ⟨wg,(by (simp [go_sem,Y,Ln,HE])),wn,wj⟩)
 ·exact wv (h:=hQ _ _ (by simp [go_sem,Y,belowD,show i=t.nodes.length by omega]))
theorem Ic {t:Types}(hv:(b8 t).2=0){k:Int}(h:0≤k∧k<t.nodes.length):given2F t k k=0:=by
 unfold given2F;rw [if_neg (by rw [hv];simp),if_pos (by simp [insideF];omega)]
@[go_sem] theorem TU (t:Types)(a:Nat):(HE t a).length=t.nodes.length:=by simp [HE,o6]
theorem Gg {t:Types}{a:Int}(h:0≤a∧a<t.nodes.length):(oX t t.nodes.length)[a.toNat]?=some [.list ((HE t a.toNat).map cB)]:=by
 unfold oX
 rw [aR,qT (by omega)];rfl
theorem Mj {t:Types}(hv:(b8 t).2=0){a b:Int}(ha:0≤a∧a<t.nodes.length)(hb:0≤b∧b<t.nodes.length):mem (iZ t a) b=uD t a b:=by
 unfold iZ uD
 rw [if_pos (Ic hv ha),aQ,c6,bG]
 constructor
 ·rintro ⟨k,hk,rfl⟩
  rw [fZ] at hk
  simpa using hk.2
 ·intro h
  exact ⟨b.toNat,by rw [fZ];exact ⟨by simp;omega,h⟩,by omega⟩
theorem Ja {t:Types}(hv:(b8 t).2=0){a b:Int}(ha:0≤a∧a<t.nodes.length)(hb:0≤b∧b<t.nodes.length):(HE t a.toNat)[b.toNat]?=some (uD t a b):=by
 unfold HE o6
 rw [aR,qT (by omega),eM,Int.toNat_of_nonneg ha.1,Int.toNat_of_nonneg hb.1,Mj hv ha hb]
theorem zT (t:Types)(ht:t.ok)(p g:Graph)(hG:G17 t p g)(hv:(b8 t).2=0)(m:Part):Pure Tryz.prog 233 [t.d,p.d,g.d,m.d] (dI (gX t p g m false)):=by
 have hga:=bK hG.gp
 have hgb:=bK hG.gg
 have hia:=(dP hG.gp).2
 refine Tz.pK ⟨fun t=>t==14||t==15,fun r=>match r with|17=>[(0,10),(1,10),(3,10),(4,10),(5,10),(6,10),(8,10),(9,10),(0,11),(1,11),(3,11),(4,11),(5,11),(6,11),(8,11),(9,11),(10,11),(5,12),(6,12),(8,12),(9,12)]|_=>[]⟩ Tryz.func233 rfl (fun Q hQ=>?_)
 have Y:=@belowD.eq_1
 refine eF (fun h1=>?_) fun h1=>?_
 ·have hM:gX t p g m false=20:=by unfold gX;rw [if_pos (by omega)]
  exact wv (h:=hQ _ _ (by simp [go_sem,hM]))
 ·have hM:gX t p g m false=(if bJ (GF t p g m) 0 p.nodes.length≠0 then bJ (GF t p g m) 0 p.nodes.length else if bJ (gL p g m) 0 p.edges.length≠0 then bJ (gL p g m) 0 p.edges.length else if false=true∧(¬ m.nodes.Nodup∨¬ m.edges.Nodup) then 5 else 0):=by unfold gX;rw [if_neg (by omega)]
  have hl1:m.nodes.length=p.nodes.length:=by omega
  have hl2:m.edges.length=p.edges.length:=by omega
  refine wv (h:=aB (zU t ht) wl ?_)
  refine wo (h:=bA (fun i e H=>(e 4=.adr t.c∧e 5=.adr p.c∧e 6=.adr g.c∧e 7=.adr m.c∧e 9=.list (oX t t.nodes.length)∧e 35=dLI m.nodes∧e 36=dI m.nodes.length∧e 37=dI i)∧(i≤m.nodes.length)∧(bJ (GF t p g m) i (p.nodes.length - i)=bJ (GF t p g m) 0 p.nodes.length)) (fun i=>m.nodes.length - i) 0 ⟨wg,wi,(by rfl)⟩ fun I0 hI0 i e H hi0=>?_)
  obtain ⟨E0,hi,hF⟩:=hi0
  have Y:=wa Y E0
  refine c4 (fun h5=>?_) fun h5=>?_
  ·have hn:i<p.nodes.length:=by omega
   have hst:=d7 (GF t p g m) hn
   rw [hF] at hst
   have hNE:GF t p g m i=(if m.nodes[i]<0∨(g.nodes.length:Int)≤m.nodes[i] then 6 else if uD t p.nodes[i] (g.nodes[m.nodes[i].toNat]?.getD 0)=true then 0 else 13):=by simp only [GF,aA h5,aA hn,aD]
   have hbp:=hG.tp _ (aC hn)
   have Y:=wa Y (wa h5 (wa (aA h5) (aA hn)))
   refine eF (fun h7=>?_) fun h7=>?_
   ·rw [if_pos (by omega)] at hNE
    rw [hNE,if_pos (by omega)] at hst
    rw [hst,if_pos (by omega)] at hM
    exact wv (h:=hQ _ _ (by simp [go_sem,hM]))
   ·have hkb:m.nodes[i].toNat<g.nodes.length:=by omega
    rw [if_neg (by omega),aA hkb,aD] at hNE
    have hbg:=hG.tg _ (aC hkb)
    have hrw:=Gg hbp
    have hrb:=Ja hv hbp hbg
    have Y:=wa Y (wa (aA hkb) (wa hrw hrb))
    refine eF (fun h9=>?_) fun h9=>?_
    ·rw [if_neg (by simpa using h9)] at hNE
     rw [hNE,if_pos (by omega)] at hst
     rw [hst,if_pos (by omega)] at hM
     exact wv (h:=hQ _ _ (by simp [go_sem,hM]))
    ·rw [if_pos (by simpa using h9)] at hNE
     rw [hNE,if_neg (by omega)] at hst
     exact wo (h:=wx hI0 (i+1) ⟨wg,wj,(by exact hst.symm)⟩)
  ·have hN0:bJ (GF t p g m) 0 p.nodes.length=0:=by rw [← hF,show p.nodes.length - i=0 by omega];rfl
   rw [hN0,if_neg (by omega)] at hM
   refine wo (h:=bA (fun k e H=>(e 4=.adr t.c∧e 5=.adr p.c∧e 6=.adr g.c∧e 7=.adr m.c∧e 9=.list (oX t t.nodes.length)∧e 69=dLI m.edges∧e 70=dI m.edges.length∧e 71=dI k)∧(k≤m.edges.length)∧(bJ (gL p g m) k (p.edges.length - k)=bJ (gL p g m) 0 p.edges.length)) (fun k=>m.edges.length - k) 0 ⟨wg,wi,(by rfl)⟩ fun I2 hI2 k e H hi2=>?_)
   obtain ⟨E2,hk,hE⟩:=hi2
   have Y:=wa Y E2
   refine c4 (fun h13=>?_) fun h13=>?_
   ·have hn:k<p.edges.length:=by omega
    have hst:=d7 (gL p g m) hn
    rw [hE] at hst
    have hx:=hia _ (aC hn)
    have hxf:p.edges[k].from_.toNat<m.nodes.length:=by omega
    have hxt:p.edges[k].to_.toNat<m.nodes.length:=by omega
    have hEE:gL p g m k=(if m.edges[k]<0∨(g.edges.length:Int)≤m.edges[k] then 6 else if p.edges[k].type≠(g.edges[m.edges[k].toNat]?.getD bS).type then 13 else if m.nodes[p.edges[k].from_.toNat]≠(g.edges[m.edges[k].toNat]?.getD bS).from_∨m.nodes[p.edges[k].to_.toNat]≠(g.edges[m.edges[k].toNat]?.getD bS).to_ then 11 else 0):=by
     simp only [gL,aA h13,aA hn,aD,aA hxf,aA hxt]
    have Y:=wa Y (wa h13 (wa (aA h13) (wa (aA hn) (wa (aA hxf) (aA hxt)))))
    refine eF (fun h15=>?_) fun h15=>?_
    ·rw [if_pos (by omega)] at hEE
     rw [hEE,if_pos (by omega)] at hst
     rw [hst,if_pos (by omega)] at hM
     exact wv (h:=hQ _ _ (by simp [go_sem,hM]))
    ·have hkb:m.edges[k].toNat<g.edges.length:=by omega
     rw [if_neg (by omega),aA hkb,aD] at hEE
     have Y:=wa Y (aA hkb)
     refine eF (fun h18=>?_) fun h18=>?_
     ·rw [if_pos h18] at hEE
      rw [hEE,if_pos (by omega)] at hst
      rw [hst,if_pos (by omega)] at hM
      exact wv (h:=hQ _ _ (by simp [go_sem,hM]))
     ·rw [if_neg (by simpa using h18)] at hEE
      refine eF (fun h20=>?_) fun h20=>?_
      ·rw [if_pos (by omega)] at hEE
       rw [hEE,if_pos (by omega)] at hst
       rw [hst,if_pos (by omega)] at hM
       exact wv (h:=hQ _ _ (by simp [go_sem,hM]))
      ·rw [if_neg (by omega)] at hEE
       rw [hEE,if_neg (by omega)] at hst
       exact wo (h:=wx hI2 (k+1) ⟨wg,wj,(by exact hst.symm)⟩)
   ·have hE0:bJ (gL p g m) 0 p.edges.length=0:=by rw [← hE,show p.edges.length - k=0 by omega];rfl
    rw [hE0,if_neg (by omega)] at hM
    rw [if_neg (by simp)] at hM
    exact wv (h:=hQ _ _ (by simp [go_sem,hM]))
/-! ### the finder -/
theorem Fp (i:Nat):Pure Tryz.prog 441 [.nil,dI i] (dI (-1)):=by
 refine Tz.pK ⟨fun _=>false,fun _=>[]⟩ Tryz.func441 rfl (fun Q hQ=>?_)
 have Y:=trivial
 exact wv (h:=hQ _ _ wy)
theorem Hv (l:List Int){i:Nat}(h:i<l.length):Pure Tryz.prog 441 [dLI l,dI i] (dI l[i]):=by
 have hne:l≠[]:=fun e=>by rw [e] at h;simp at h
 refine Tz.pK ⟨fun _=>false,fun _=>[]⟩ Tryz.func441 rfl (fun Q hQ=>?_)
 have Y:=wa (aA h) hne
 exact wo (h:=hQ _ _ wy)
def GivD (d:D)(l:List Int)(n:Nat):Prop:=d.cl=true∧∀ i,i<n→Pure Tryz.prog 441 [d,dI i] (dI (l[i]?.getD (-1)))
theorem GivD.nil (n:Nat):GivD .nil (List.replicate n (-1)) n:=⟨rfl,fun i hi=>by
 have:=Fp i
 rw [sC,if_pos hi];exact this⟩
theorem GivD.list (l:List Int):GivD (dLI l) l l.length:=⟨mV l,fun i hi=>by rw [aA hi];exact Hv l hi⟩
theorem Hu (k n:Int):Pure Tryz.prog 463 [dI k,.adr [dI n]] (.bool (decide (k < -1)||decide (n≤k))):=by
 refine Tz.pK ⟨fun _=>false,fun _=>[]⟩ Tryz.func463 rfl (fun Q hQ=>?_)
 have Y:=trivial
 exact wo (h:=hQ _ _ wy)
theorem GU {f:Nat→Int}{c:Int}(h:∀ j,f j=0∨f j=c):∀ n k,bJ f k n=0∨bJ f k n=c
 | 0,k=>.inl rfl
 | n+1,k=>by
  unfold bJ
  split
  ·rename_i h1;exact .inr ((h k).resolve_left h1)
  ·exact GU h n (k+1)
theorem JQ (l:List Int)(n:Int):lG l n=if (l.any fun k=>decide (k < -1)||decide (n≤k))=true then 6 else 0:=by
 by_cases h:(l.any fun k=>decide (k < -1)||decide (n≤k))=true
 ·rw [if_pos h]
  rcases GU (f:=Ag n l) (c:=6) (fun j=>by unfold Ag;split<;>simp) l.length 0 with h0|h0
  ·obtain ⟨x,hx,hk⟩:=aW.1 h
   obtain ⟨i,hi,rfl⟩:=aO hx
   have:=dZ _ _ h0 i (by omega) (by omega)
   unfold Ag at this
   rw [aA hi,aD] at this
   simp only [b7,decide_eq_true_eq] at hk
   rw [if_pos hk] at this;cases this
  ·exact h0
 ·rw [if_neg h]
  refine nR _ _ fun j _ hj=>?_
  unfold Ag
  rw [if_neg]
  intro hk
  have hj':j<l.length:=by omega
  rw [aA hj',aD] at hk
  exact h (aW.2 ⟨_,aC hj',by simpa using hk⟩)
theorem BO (l:List Int)(n:Int):Pure Tryz.prog 462 [dLI l,dI n] (dI (lG l n)):=by
 refine Tz.pK ⟨fun _=>false,fun _=>[]⟩ Tryz.func462 rfl (fun Q hQ=>?_)
 have Y:=trivial
 refine wv (h:=aB (fI l 463 [.adr [dI n]] (fun k=>decide (k < -1)||decide (n≤k)) (by simp [go_sem]) (by simp [go_sem]) (fun k _=>Hu k n)) wl ?_)
 refine c4 (fun h1=>?_) fun h1=>?_
 ·have hO:lG l n=6:=by rw [JQ,if_pos (by simpa using h1)]
  exact wv (h:=hQ _ _ (by simp [go_sem,hO]))
 ·have hO:lG l n=0:=by rw [JQ,if_neg (by simpa using h1)]
  exact wv (h:=hQ _ _ (by simp [go_sem,hO]))
def Srch.cellP (S:Srch)(most:Int)(pn pe ns es ou:D):List D:=[dLI S.p.nodes,.list (S.p.edges.map Edge.c),dLI S.g.nodes,.list (S.g.edges.map Edge.c),.list (oX S.t S.t.nodes.length),pn,pe,.bool S.inj,dI most,ns,es,ou]
def CK (S:Srch)(l:List Int)(i k:Nat):Bool:=wH S.pe i k&&wE S l i k
theorem BP (S:Srch)(most:Int)(pn pe es ou:D)(hpn:pn.cl=true)(hes:es.cl=true)(hou:ou.cl=true)(l:List Int)(i k:Nat)(hi:i<S.p.edges.length)(hk:k<S.g.edges.length)
  (hpe:GivD pe S.pe S.p.edges.length) (hf0:0≤S.p.edges[i].from_) (hf:S.p.edges[i].from_.toNat<l.length) (hf0':0≤S.p.edges[i].to_) (hft:S.p.edges[i].to_.toNat<l.length) :
  Pure Tryz.prog 443 [.adr (S.cellP most pn pe (dLI l) es ou),dI i,dI k] (.bool (CK S l i k)):=by
 have hpc:=hpe.1
 obtain ⟨v,hv⟩:∃ v,v=S.pe[i]?.getD (-1):=⟨_,rfl⟩
 have hgv:=hpe.2 i hi
 rw [← hv] at hgv
 have hFr:wH S.pe i k=(decide (v<0)||decide (v=(k:Int))):=by unfold wH;rw [← hv]
 have hH:wE S l i k=(decide (S.g.edges[k].type=S.p.edges[i].type)&&(decide (S.g.edges[k].from_=l[S.p.edges[i].from_.toNat])&&decide (S.g.edges[k].to_=l[S.p.edges[i].to_.toNat]))):=by
  simp only [wE,Sa,Pm,aA hk,aA hi,aD,aA hf,aA hft]
  simp
 refine Tz.pK ⟨fun t=>t==7,fun _=>[]⟩ Tryz.func443 rfl (fun Q hQ=>?_)
 have Y:=wa @Srch.cellP.eq_1 (wa (aA hi) (wa (aA hk) (wa (aA hf) (wa (aA hft) (wa @Edge.c.eq_1 (wa hpn (wa hes (wa hou hpc))))))))
 refine wo (h:=aB (hgv) wl ?_)
 refine eF (fun h3=>?_) fun h3=>?_
 ·have hE:CK S l i k=false:=by unfold CK;rw [hFr,show decide (v<0)=false by simp;omega,show decide (v=(k:Int))=false by simp;omega];rfl
  exact wv (h:=hQ _ _ (by simp [go_sem,hE]))
 ·have hE:CK S l i k=wE S l i k:=by
   unfold CK;rw [hFr]
   rcases Int.lt_or_le v 0 with h|h
   ·simp [h]
   ·simp [h3 h]
  exact wo (h:=hQ _ _ (by simp [go_sem,hE,hH,Ao,jT]))
theorem CB (S:Srch)(hp:graphF S.p=0)(hg:graphF S.g=0)(most:Int)(pn pe es ou:D)(hpn:pn.cl=true)(hes:es.cl=true)(hou:ou.cl=true)(l:List Int)(hpe:GivD pe S.pe S.p.edges.length) :
  Pure Tryz.prog 442 [.adr (S.cellP most pn pe (dLI l) es ou)] (.bool (rD S l)):=by
 have hpc:=hpe.1
 have hpi:=(dP hp).2
 have hla:=bK hp
 have hlb:=bK hg
 have hcl:D.clL (S.cellP most pn pe (dLI l) es ou)=true:=by simp [go_sem,Srch.cellP,D.clL,hpn,hes,hou,hpc]
 refine Tz.pK ⟨fun t=>t==5,fun _=>[]⟩ Tryz.func442 rfl (fun Q hQ=>?_)
 have Y:=wa @Srch.cellP.eq_1 (wa hpn (wa hes (wa hou hpc)))
 refine wo (h:=bA (fun i e H=>(e 0=.adr (S.cellP most pn pe (dLI l) es ou)∧e 3=dI ((l.length:Int) - 1)∧e 18=.list (S.p.edges.map Edge.c)∧e 19=dI S.p.edges.length∧e 20=dI i)∧(i≤S.p.edges.length)∧(∀ j,j<i→DY S l j=true)) (fun i=>S.p.edges.length - i) 0 ⟨wg,wi,(by (intro j hj;omega))⟩ fun I0 hI0 i e H hi0=>?_)
 obtain ⟨E0,hi,hK⟩:=hi0
 have Y:=wa Y E0
 refine c4 (fun h3=>?_) fun h3=>?_
 ·have hxi:=(hpi _ (aC h3)).2
  have hKe:DY S l i=(decide (max S.p.edges[i].from_ S.p.edges[i].to_≠(l.length:Int) - 1)||(List.range S.g.edges.length).any (CK S l i)):=by
   unfold DY;rw [aA h3,aD];rfl
  have Y:=wa Y (wa h3 (wa (aA h3) @Edge.c.eq_1))
  refine eF (fun h5=>?_) fun h5=>?_
  ·have hKi:DY S l i=true:=by rw [hKe];simp;omega
   exact wo (h:=wx hI0 (i+1) ⟨wg,wj,(by (intro j hj;rcases bN j i with hji|hji;exact hK j hji;(obtain rfl:j=i:=(by omega);exact hKi)))⟩)
  ·have hf:S.p.edges[i].from_.toNat<l.length:=by omega
   have hft:S.p.edges[i].to_.toNat<l.length:=by omega
   have hx0:=hxi.1.1
   have hx1:=hxi.2.1
   have h2:=h3
   have Y:=wa Y h5
   refine wo (h:=bA (fun k e H=>(e 0=.adr (S.cellP most pn pe (dLI l) es ou)∧e 3=dI ((l.length:Int) - 1)∧e 18=.list (S.p.edges.map Edge.c)∧e 19=dI S.p.edges.length∧e 20=dI i∧e 4=dI i∧e 6=.bool false∧e 37=dI S.g.edges.length∧e 38=dI k)∧(k≤S.g.edges.length)∧((List.range k).any (CK S l i)=false)) (fun k=>S.g.edges.length - k) 0 ⟨wg,wi,(by rfl)⟩ fun I2 hI2 k e H hi2=>?_)
   obtain ⟨E2,hk,hb⟩:=hi2
   have Y:=wa Y E2
   refine c4 (fun h8=>?_) fun h8=>?_
   ·obtain ⟨fb,hfb0⟩:∃ b,b=CK S l i k:=⟨_,rfl⟩
    have Y:=wa Y h8
    refine wv (h:=aB (BP S most pn pe es ou hpn hes hou l i k h2 h8 hpe hx0 hf hx1 hft) wl ?_)
    refine c4 (fun h10=>?_) fun h10=>?_
    ·have hKi:DY S l i=true:=by
      rw [hKe,b7];right
      exact aW.2 ⟨k,by simpa using h8,by simpa using h10⟩
     exact wo (h:=wx hI0 (i+1) ⟨wg,wj,(by (intro j hj;rcases bN j i with hji|hji;exact hK j hji;(obtain rfl:j=i:=(by omega);exact hKi)))⟩)
    ·have hfb:CK S l i k=false:=by simpa using h10
     have Y:=wa Y h10
     exact wo (h:=wx hI2 (k+1) ⟨wg,wj,(by (rw [wQ,hb,hfb];rfl))⟩)
   ·have hb0:(List.range S.g.edges.length).any (CK S l i)=false:=by rw [show S.g.edges.length=k by omega];exact hb
    have hE:rD S l=false:=by
     simp only [rD,C9,b6]
     exact ⟨i,h3,by rw [hKe,hb0];simp;omega⟩
    exact wo (h:=hQ _ _ (by simp [go_sem,hE]))
 ·have hE:rD S l=true:=by
   simp only [rD,bX,b6]
   exact fun j hj=>hK j (by omega)
  exact wv (h:=hQ _ _ (by simp [go_sem,hE]))
def GW (S:Srch)(N:Nat)(ns es:List Int)(out:List Part):List Part:=if ns.length<S.p.nodes.length then ME S N (S.p.nodes.length - ns.length) ns out else Fm S N ns (S.p.edges.length - es.length) es out
theorem OT (S:Srch){N:Nat}(d:Nat)(l:List Int){ou:List Part}(h:N≤ou.length):ME S N d l ou=ou:=by cases d<;>simp only [ME,if_pos h]
theorem Ex (S:Srch){N:Nat}(ns es:List Int){ou:List Part}(h:N≤ou.length):GW S N ns es ou=ou:=by
 unfold GW;split;exact OT S _ _ h;exact Dp _ _ _ h
theorem Ew (S:Srch)(N:Nat)(ns:List Int)(ou:List Part):GW S N ns [] ou=ME S N (S.p.nodes.length - ns.length) ns ou:=by
 unfold GW
 split
 ·rfl
 ·rename_i h
  rw [show S.p.nodes.length - ns.length=0 by omega]
  simp only [ME,oB,Nat.sub_zero]
  split
  ·rename_i h2;exact Dp _ _ _ h2
  ·rfl
structure FdS (f a b o:Nat) (S:Srch) (N:Nat) (pn pe:D) (ns es:List Int) (out:List Part) (H:AHeap):Prop where
 bf:H.get f=some ⟨400,12,[S.cellP N pn pe (.own a ns.length) (.own b es.length) (.own o out.length)],false⟩
 ba:H.get a=some ⟨3,1,ns.map cI,false⟩
 bb:H.get b=some ⟨3,1,es.map cI,false⟩
 bo:H.get o=some ⟨36,2,out.map Part.c,false⟩
 le:out.length≤N
 nf:f<H.next∧a<H.next∧b<H.next∧o<H.next
 d:(f≠a∧f≠b∧f≠o)∧(a≠b∧a≠o)∧b≠o
@[go_sem] theorem Sc (H:AHeap)(i:Nat):(H.drop i).next=H.next:=rfl
@[go_sem] theorem S9 (H:AHeap)(i j:Nat):(H.drop i).get j=if j=i then none else H.get j:=rfl
theorem sI {H:AHeap}{d:D}(h:d.cl=true):eJ H d=d:=by cases d<;>first|rfl|simp [D.cl] at h
def PM (S:Srch)(N:Nat)(pn pe:D)(f o m:Nat):Prop :=
  ∀ (ns es:List Int) (out:List Part) (a b:Nat) (G:AHeap) (Q:D→AHeap→Prop),(S.p.nodes.length - ns.length)+(S.p.edges.length - es.length)=m→ns.length≤S.p.nodes.length→es.length≤S.p.edges.length→(ns.length<S.p.nodes.length→es=[])→FdS f a b o S N pn pe ns es out G →
  (∀ a' b' H',FdS f a' b' o S N pn pe ns es (GW S N ns es out) H'→Q (.tup []) H')→ACalls Tryz.prog 398 [.ptr f 1 0 0] G Q
theorem Hz (S:Srch)(hG:G17 S.t S.p S.g)(hv:(b8 S.t).2=0)(N:Nat)(hN:N≤5001)(pn pe:D)(hpn:GivD pn S.pn S.p.nodes.length)(hpe:GivD pe S.pe S.p.edges.length)(f o:Nat)(m:Nat)(ih:∀ k,k<m→PM S N pn pe f o k)(ns es:List Int)(out:List Part)(a b:Nat)(G:AHeap)(Q:D→AHeap→Prop)(hm:(S.p.nodes.length - ns.length)+(S.p.edges.length - es.length)=m)(hnl:ns.length≤S.p.nodes.length)(hel0:es.length≤S.p.edges.length)(hes:ns.length<S.p.nodes.length→es=[])(hF:FdS f a b o S N pn pe ns es out G)
  (hQ:∀ a' b' H',FdS f a' b' o S N pn pe ns es (GW S N ns es out) H'→Q (.tup []) H') (hc1:ns.length<S.p.nodes.length) :
  ACalls Tryz.prog 398 [.ptr f 1 0 0] G Q:=by
 have hla:=bK hG.gp
 have hlb:=bK hG.gg
 have hib:∀ x∈S.p.edges,(0≤x.from_∧x.from_<S.p.nodes.length)∧(0≤x.to_∧x.to_<S.p.nodes.length):=fun x hx=>((dP hG.gp).2 x hx).2
 obtain ⟨gf,ga,gb,go,hle,⟨lf,la,lb,lo⟩,⟨d1,d2,d3⟩,⟨d4,d5⟩,d6⟩:=hF
 have ff:=bZ lf
 have fa:=bZ la
 have fb:=bZ lb
 have fo:=bZ lo
 have hpnc:=hpn.1
 have hpec:=hpe.1
 have hpr:∀ H:AHeap,eJ H pn=pn:=fun H=>sI hpnc
 have hpr2:∀ H:AHeap,eJ H pe=pe:=fun H=>sI hpec
 refine (aI (cfg:=⟨fun _=>false,fun r=>match r with|0=>[(2,16),(3,16),(4,16)]|_=>[]⟩) Tz.mixed Tryz.func398 rfl rfl (aF rfl) (by kernel_rfl) ?_)
 have di1:=And.intro (cW (show o≠b by omega)) (And.intro (cW (show o≠a by omega)) (And.intro (cW (show o≠f by omega)) (And.intro (cW (show b≠a by omega)) (And.intro (cW (show b≠f by omega)) (cW (show a≠f by omega))))))
 have Y:=wa gf (wa ga (wa gb (wa go (wa ff (wa fa (wa fb (wa fo (wa @Part.c.eq_1 (wa @Srch.cellP.eq_1 (wa hpnc (wa hpec (wa hpr (wa hpr2 (wa hc1 di1))))))))))))))
 refine tG (fun h1=>?_) fun h1=>?_
 ·have hX:GW S N ns es out=out:=Ex S _ _ (by omega)
  refine wv (h:=?_)
  exact hQ a b _ (by rw [hX];exact ⟨gf,ga,gb,go,hle,⟨by first|exact lf|(simp;omega),by first|exact la|(simp;omega),by first|exact lb|(simp;omega),by first|exact lo|(simp;omega)⟩,⟨d1,d2,d3⟩,⟨d4,d5⟩,d6⟩)
 ·have hnf:¬ N≤out.length:=by omega
  have hE0:=hes (by omega)
  subst hE0
  obtain ⟨k',hk'⟩:∃ k',S.p.nodes.length - ns.length=k'+1:=⟨S.p.nodes.length - ns.length - 1,by omega⟩
  have hel:ns.length<S.p.nodes.length:=by omega
  have hbp:=hG.tp _ (aC hel)
  have hrw:=Gg hbp
  obtain ⟨v,hv0⟩:∃ v,v=S.pn[ns.length]?.getD (-1):=⟨_,rfl⟩
  have hgv:=hpn.2 ns.length hel
  rw [← hv0] at hgv
  have hokN:∀ j (hj:j<S.g.nodes.length),Gu S ns j=((decide (v<0)||decide (v=(j:Int)))&&(!(S.inj&&mem ns j)&&uD S.t S.p.nodes[ns.length] S.g.nodes[j])):=fun j hj=>by
   simp only [Gu,wH,← hv0,aA hj,aA hel,aD]
  have Y:=wa Y (wa (aA hel) hrw)
  refine wp (h:=bA (fun j e H=>∃ a1:Nat,∃ b1:Nat,∃ ou:List Part,(e 0=.ptr f 1 0 0∧e 2=dI ns.length∧e 61=dLI S.g.nodes∧e 62=dI S.g.nodes.length∧e 63=dI j)∧(H.get f=some ⟨400,12,[S.cellP N pn pe (.own a1 ns.length) (.own b1 0) (.own o ou.length)],false⟩)∧(f<H.next)∧(H.get a1=some ⟨3,1,ns.map cI,false⟩)∧(a1<H.next)∧(H.get b1=some ⟨3,1,[],false⟩)∧(b1<H.next)∧(H.get o=some ⟨36,2,ou.map Part.c,false⟩)∧(o<H.next)∧(f≠a1)∧(f≠b1)∧(a1≠b1)∧(a1≠o)∧(b1≠o)∧(j≤S.g.nodes.length)∧(ou.length≤N)∧(ou=(List.range j).foldl (fun ou k=>if (Gu S ns k&&rD S (ns++[(k:Int)]))=true then ME S N k' (ns++[(k:Int)]) ou else ou) out)) (fun j=>S.g.nodes.length - j) 0 ⟨a,b,out,wg,wn,wn,wn,wn,wn,wn,wn,wn,wi,wi,wi,wi,wi,wi,(by (exact hle)),(by rfl)⟩ fun I1 hI1 j e H hi1=>?_)
  obtain ⟨a1,b1,ou,E1,gf_1,nf_1,ga1_1,na1_1,gb1_1,nb1_1,go_1,no_1,e1,e2,e3,e4,e5,hj,hou,hst⟩:=hi1
  have di2:=And.intro (cW (show o≠b1 by omega)) (And.intro (cW (show o≠a1 by omega)) (And.intro (cW (show o≠f by omega)) (And.intro (cW (show b1≠a1 by omega)) (And.intro (cW (show b1≠f by omega)) (cW (show a1≠f by omega))))))
  have Y:=wa Y (wa E1 (wa gf_1 (wa (bZ nf_1) (wa ga1_1 (wa (bZ na1_1) (wa gb1_1 (wa (bZ nb1_1) (wa go_1 (wa (bZ no_1) di2)))))))))
  refine c4 (fun h5=>?_) fun h5=>?_
  ·have hEj:=hokN j h5
   have hbg:=hG.tg _ (aC h5)
   have hrb:=Ja hv hbp hbg
   have Y:=wa Y (wa h5 (wa (aA h5) hrb))
   refine wp (h:=aB (hgv) wl ?_)
   refine wp (h:=FK (fun hg=>fT ns j) wr (fun hg=>wl) (fun hg=> rfl) rfl X1 ?_)
   refine tG (fun h8=>?_) fun h8=>?_
   ·have hE:(Gu S ns j&&rD S (ns++[(j:Int)]))=false:=by
     have:Gu S ns j=false:=by
      rw [hEj,bH];intro hT;simp at hT
      obtain ⟨c1,c2,c3⟩:=hT
      rcases h8 with (⟨k1,k2⟩|k1)|⟨k1,k2⟩
      ·rcases c1 with c1|c1
       ·omega
       ·exact k2 c1
      ·rw [k1] at c3;cases c3
      ·rcases c2 with c2|c2
       ·rw [k1] at c2;cases c2
       ·rw [k2] at c2;cases c2
     rw [this];rfl
    obtain ⟨ou2,hou2⟩:∃ x,x=ou:=⟨_,rfl⟩
    obtain ⟨a2,ha2⟩:∃ x,x=a1:=⟨_,rfl⟩
    obtain ⟨b2,hb2⟩:∃ x,x=b1:=⟨_,rfl⟩
    have Y:=wa Y (wa hou2 (wa ha2 hb2))
    exact wp (h:=wx hI1 (j+1) ⟨a2,b2,ou2,wg,wn,wn,wn,wn,wn,wn,wn,wn,wj,wj,wj,wj,wj,wj,(by (rw [hou2];first|exact hou|exact LB hG.gp _ _ hou)),(by (rw [dK,← hst,hou2];first|rw [if_pos hE]|rw [if_neg (by rw [hE];simp)]))⟩)
   ·have hO:Gu S ns j=true:=by
     obtain ⟨⟨k1,k2⟩,k3⟩:=h8
     have c1:(decide (v<0)||decide (v=(j:Int)))=true:=by simp;omega
     have c2:(S.inj&&mem ns (j:Int))=false:=by cases hI:S.inj;rfl;simp [k3 hI]
     rw [hEj,c1,k2,c2];rfl
    have hm1:(S.p.nodes.length - (ns++[(j:Int)]).length)+(S.p.edges.length - ([]:List Int).length)=m - 1:=by simp at hm ⊢;omega
    obtain ⟨m',hm'⟩:∃ x,x=m - 1:=⟨_,rfl⟩
    rw [← hm'] at hm1
    have Y:=wa Y h8
    refine wp (h:=Cm (CB S hG.gp hG.gg N pn pe (dLI []) (.list (ou.map Part.c)) hpnc (by simp [D.cl,go_sem]) (by simp [D.cl,sR]) (ns++[(j:Int)]) hpe) Th wl rfl ?_)
    refine tG (fun h10=>?_) fun h10=>?_
    ·have hE:(Gu S ns j&&rD S (ns++[(j:Int)]))=true:=by rw [hO,h10];rfl
     obtain ⟨ou2,hou2⟩:∃ x,x=ME S N k' (ns++[(j:Int)]) ou:=⟨_,rfl⟩
     have hk2:S.p.nodes.length - (ns.length+1)=k':=by omega
     have Y:=wa Y (wa hk2 (Eq.symm hou2))
     refine wv (h:=?_)
     unfold fE
     refine ih m' (by omega) (ns++[(j:Int)]) [] ou a1 b1 _ _ hm1 (by simp;omega) (by simp) (fun _=>rfl) ⟨by simp [go_sem,Y],by simp [go_sem,Y],by simp [go_sem,Y],by simp [go_sem,Y],hou,⟨by simp [go_sem];omega,by simp [go_sem];omega,by simp [go_sem];omega,by simp [go_sem];omega⟩,⟨e1,e2,d3⟩,⟨e3,e4⟩,e5⟩ (fun a3 b3 H3 hF3=>?_)
     rw [Ew] at hF3
     obtain ⟨gf3,ga3,gb3,go3,hle3,⟨lf3,la3,lb3,lo3⟩,⟨x1,x2,x3⟩,⟨x4,x5⟩,x6⟩:=hF3
     have fr3:=And.intro (bZ (show f<H3.next by omega)) (And.intro (bZ (show a3<H3.next by omega)) (And.intro (bZ (show b3<H3.next by omega)) (bZ (show o<H3.next by omega))))
     have di4:=And.intro (cW (show o≠b3 by omega)) (And.intro (cW (show o≠a3 by omega)) (And.intro (cW (show o≠f by omega)) (And.intro (cW (show b3≠a3 by omega)) (And.intro (cW (show b3≠f by omega)) (cW (show a3≠f by omega))))))
     obtain ⟨a2,ha2⟩:∃ x,x=H3.next:=⟨_,rfl⟩
     obtain ⟨b2,hb2⟩:∃ x,x=b3:=⟨_,rfl⟩
     have Y:=wa Y (wa gf3 (wa ga3 (wa gb3 (wa go3 (wa fr3 (wa di4 (wa ha2 hb2)))))))
     exact wp (h:=D4 (Ghosts.trunc (.refl _) f 0 9 a3 ns.length _ _ _ (by simp [go_sem,Y];rfl) rfl rfl (by simp [go_sem,Y];rfl) (by simp [go_sem,Y]) rfl (by omega)) (j+1) (by omega) ((hI1 _ _ _).2 ⟨a2,b2,ou2,wg,wn,wn,wn,wn,wn,wn,wn,wn,wj,wj,wj,wj,wj,wj,(by (rw [hou2];first|exact hou|exact LB hG.gp _ _ hou)),(by (rw [dK,← hst,hou2];first|rw [if_pos hE]|rw [if_neg (by rw [hE];simp)]))⟩))
    ·have hE:(Gu S ns j&&rD S (ns++[(j:Int)]))=false:=by rw [hO,h10];rfl
     obtain ⟨ou2,hou2⟩:∃ x,x=ou:=⟨_,rfl⟩
     obtain ⟨a2,ha2⟩:∃ x,x=H.next+41:=⟨_,rfl⟩
     obtain ⟨b2,hb2⟩:∃ x,x=b1:=⟨_,rfl⟩
     have Y:=wa Y (wa hou2 (wa ha2 hb2))
     exact wp (h:=D4 (Ghosts.trunc (.refl _) f 0 9 a1 ns.length _ _ _ (by simp [go_sem,Y];rfl) rfl rfl (by simp [go_sem,Y];rfl) (by simp [go_sem,Y]) rfl (by omega)) (j+1) (by omega) ((hI1 _ _ _).2 ⟨a2,b2,ou2,wg,wn,wn,wn,wn,wn,wn,wn,wn,wj,wj,wj,wj,wj,wj,(by (rw [hou2];first|exact hou|exact LB hG.gp _ _ hou)),(by (rw [dK,← hst,hou2];first|rw [if_pos hE]|rw [if_neg (by rw [hE];simp)]))⟩))
  ·have hJ:j=S.g.nodes.length:=by omega
   have hOV:GW S N ns [] out=ou:=by rw [Ew,hk'];simp only [ME];rw [if_neg hnf,hst,hJ]
   refine wv (h:=?_)
   exact hQ a1 b1 _ (by rw [hOV];exact ⟨by assumption,by assumption,by assumption,by assumption,hou,⟨by assumption,by assumption,by assumption,by assumption⟩,⟨e1,e2,d3⟩,⟨e3,e4⟩,e5⟩)
theorem Xb (a k:Nat):a+(k+1) - (a+1)=k+1 - 1:=by omega
theorem Xa (a k:Nat):a+(k+1) - (a+1)=k:=by omega
theorem W9 (a k:Nat):a+(k+1) - a=k+1:=by omega
theorem Hy (S:Srch)(hG:G17 S.t S.p S.g)(hv:(b8 S.t).2=0)(N:Nat)(hN:N≤5001)(pn pe:D)(hpn:GivD pn S.pn S.p.nodes.length)(hpe:GivD pe S.pe S.p.edges.length)(f o:Nat)(m:Nat)(ih:∀ k,k<m→PM S N pn pe f o k)(ns es:List Int)(out:List Part)(a b:Nat)(G:AHeap)(Q:D→AHeap→Prop)(hm:(S.p.nodes.length - ns.length)+(S.p.edges.length - es.length)=m)(hnl:ns.length≤S.p.nodes.length)(hel0:es.length≤S.p.edges.length)(hes:ns.length<S.p.nodes.length→es=[])(hF:FdS f a b o S N pn pe ns es out G)
  (hQ:∀ a' b' H',FdS f a' b' o S N pn pe ns es (GW S N ns es out) H'→Q (.tup []) H') (hc1:¬ ns.length<S.p.nodes.length) (hc2:es.length<S.p.edges.length) :
  ACalls Tryz.prog 398 [.ptr f 1 0 0] G Q:=by
 have hla:=bK hG.gp
 have hlb:=bK hG.gg
 have hib:∀ x∈S.p.edges,(0≤x.from_∧x.from_<S.p.nodes.length)∧(0≤x.to_∧x.to_<S.p.nodes.length):=fun x hx=>((dP hG.gp).2 x hx).2
 obtain ⟨gf,ga,gb,go,hle,⟨lf,la,lb,lo⟩,⟨d1,d2,d3⟩,⟨d4,d5⟩,d6⟩:=hF
 have ff:=bZ lf
 have fa:=bZ la
 have fb:=bZ lb
 have fo:=bZ lo
 have hpnc:=hpn.1
 have hpec:=hpe.1
 have hpr:∀ H:AHeap,eJ H pn=pn:=fun H=>sI hpnc
 have hpr2:∀ H:AHeap,eJ H pe=pe:=fun H=>sI hpec
 refine (aI (cfg:=⟨fun _=>false,fun r=>match r with|0=>[(2,16),(3,16),(4,16)]|_=>[]⟩) Tz.mixed Tryz.func398 rfl rfl (aF rfl) (by kernel_rfl) ?_)
 have di1:=And.intro (cW (show o≠b by omega)) (And.intro (cW (show o≠a by omega)) (And.intro (cW (show o≠f by omega)) (And.intro (cW (show b≠a by omega)) (And.intro (cW (show b≠f by omega)) (cW (show a≠f by omega))))))
 have Y:=wa gf (wa ga (wa gb (wa go (wa ff (wa fa (wa fb (wa fo (wa @Part.c.eq_1 (wa @Srch.cellP.eq_1 (wa hpnc (wa hpec (wa hpr (wa hpr2 (wa hc1 (wa hc2 di1)))))))))))))))
 refine tG (fun h1=>?_) fun h1=>?_
 ·have hX:GW S N ns es out=out:=Ex S _ _ (by omega)
  refine wv (h:=?_)
  exact hQ a b _ (by rw [hX];exact ⟨gf,ga,gb,go,hle,⟨by first|exact lf|(simp;omega),by first|exact la|(simp;omega),by first|exact lb|(simp;omega),by first|exact lo|(simp;omega)⟩,⟨d1,d2,d3⟩,⟨d4,d5⟩,d6⟩)
 ·have hnf:¬ N≤out.length:=by omega
  obtain ⟨k',hk'⟩:∃ k',S.p.edges.length - es.length=k'+1:=⟨S.p.edges.length - es.length - 1,by omega⟩
  have hmk:m=k'+1:=by rw [← hm,Nat.sub_eq_zero_of_le (Nat.not_lt.1 hc1),dQ,hk']
  have hks:S.p.edges.length=es.length+(k'+1):=by omega
  clear hm hk'
  have hel2:es.length<S.p.edges.length:=by omega
  have hbx:=hib _ (aC hel2)
  have hf1:S.p.edges[es.length].from_.toNat<ns.length:=by omega
  have hft:S.p.edges[es.length].to_.toNat<ns.length:=by omega
  refine wp (h:=bA (fun j e H=>∃ a1:Nat,∃ b1:Nat,∃ ou:List Part,(e 0=.ptr f 1 0 0∧e 6=dI es.length∧e 162=.list (S.g.edges.map Edge.c)∧e 163=dI S.g.edges.length∧e 164=dI j)∧(H.get f=some ⟨400,12,[S.cellP N pn pe (.own a1 ns.length) (.own b1 es.length) (.own o ou.length)],false⟩)∧(f<H.next)∧(H.get a1=some ⟨3,1,ns.map cI,false⟩)∧(a1<H.next)∧(H.get b1=some ⟨3,1,es.map cI,false⟩)∧(b1<H.next)∧(H.get o=some ⟨36,2,ou.map Part.c,false⟩)∧(o<H.next)∧(f≠a1)∧(f≠b1)∧(a1≠b1)∧(a1≠o)∧(b1≠o)∧(j≤S.g.edges.length)∧(ou.length≤N)∧(ou=(List.range j).foldl (fun ou k=>if MJ S ns es k=true then Fm S N ns k' (es++[(k:Int)]) ou else ou) out)) (fun j=>S.g.edges.length - j) 0 ⟨a,b,out,wg,wn,wn,wn,wn,wn,wn,wn,wn,wi,wi,wi,wi,wi,wi,(by (exact hle)),(by rfl)⟩ fun I3 hI3 j e H hi3=>?_)
  obtain ⟨a1,b1,ou,E3,gf_3,nf_3,ga1_3,na1_3,gb1_3,nb1_3,go_3,no_3,e1,e2,e3,e4,e5,hj,hou,hst⟩:=hi3
  have di2:=And.intro (cW (show o≠b1 by omega)) (And.intro (cW (show o≠a1 by omega)) (And.intro (cW (show o≠f by omega)) (And.intro (cW (show b1≠a1 by omega)) (And.intro (cW (show b1≠f by omega)) (cW (show a1≠f by omega))))))
  have Y:=wa Y (wa E3 (wa gf_3 (wa (bZ nf_3) (wa ga1_3 (wa (bZ na1_3) (wa gb1_3 (wa (bZ nb1_3) (wa go_3 (wa (bZ no_3) di2)))))))))
  refine c4 (fun h17=>?_) fun h17=>?_
  ·have hEj:MJ S ns es j=(CK S ns es.length j&&!(S.inj&&mem es j)):=by
    simp only [MJ,CK]
    cases wH S.pe es.length j<;>cases wE S ns es.length j<;>cases (S.inj&&mem es j)<;>rfl
   have Y:=wa Y h17
   refine wp (h:=Cm (BP S N pn pe (dLI es) (.list (ou.map Part.c)) hpnc (by simp [D.cl,go_sem]) (by simp [D.cl,sR]) ns es.length j hel2 h17 hpe hbx.1.1 hf1 hbx.2.1 hft) Th wl rfl ?_)
   refine wp (h:=Ie (fun hg=>fT es j) wr (fun hg=>wl) (fun hg=> rfl) ?_)
   refine tG (fun h19=>?_) fun h19=>?_
   ·have hE:MJ S ns es j=false:=by
     rw [hEj]
     rcases h19 with k1|⟨k1,k2⟩
     ·rw [k1];rfl
     ·rw [k1,k2];simp
    obtain ⟨ou2,hou2⟩:∃ x,x=ou:=⟨_,rfl⟩
    obtain ⟨a2,ha2⟩:∃ x,x=a1:=⟨_,rfl⟩
    obtain ⟨b2,hb2⟩:∃ x,x=b1:=⟨_,rfl⟩
    have Y:=wa Y (wa hou2 (wa ha2 hb2))
    exact wp (h:=wx hI3 (j+1) ⟨a2,b2,ou2,wg,wn,wn,wn,wn,wn,wn,wn,wn,wj,wj,wj,wj,wj,wj,(by (rw [hou2];first|exact hou|exact A4 _ _ _ _ hou)),(by (rw [dK,← hst,hou2];first|rw [if_pos hE]|rw [if_neg (by rw [hE];simp)]))⟩)
   ·have hE:MJ S ns es j=true:=by
     obtain ⟨k1,k2⟩:=h19
     have c2:(S.inj&&mem es (j:Int))=false:=by cases hI:S.inj;rfl;simp [k2 hI]
     rw [hEj,k1,c2];rfl
    have hm1:(S.p.nodes.length - ns.length)+(S.p.edges.length - (es++[(j:Int)]).length)=m - 1:=by
     rw [Nat.sub_eq_zero_of_le (Nat.not_lt.1 hc1),aV,List.length_singleton,dQ,hks,hmk];exact Xb _ _
    have hmm:m - 1<m:=by rw [hmk];exact Nat.lt_succ_self k'
    obtain ⟨m',hm'⟩:∃ x,x=m - 1:=⟨_,rfl⟩
    rw [← hm'] at hm1 hmm
    obtain ⟨ou2,hou2⟩:∃ x,x=Fm S N ns k' (es++[(j:Int)]) ou:=⟨_,rfl⟩
    have hfd:GW S N ns (es++[(j:Int)]) ou=ou2:=by
     have hk3:S.p.edges.length - (es++[(j:Int)]).length=k':=by
      rw [aV,List.length_singleton,hks];exact Xa _ _
     rw [hou2];unfold GW;rw [if_neg (show ¬ ns.length<S.p.nodes.length by omega),hk3]
    have Y:=wa Y (wa h19 hfd)
    refine wp (h:=?_)
    unfold fE
    refine ih m' hmm ns (es++[(j:Int)]) ou a1 b1 _ _ hm1 (by omega) (by simp;omega) (fun h=>absurd h (by omega)) ⟨by simp [go_sem,Y],by simp [go_sem,Y],by simp [go_sem,Y],by simp [go_sem,Y],hou,⟨by simp [go_sem];omega,by simp [go_sem];omega,by simp [go_sem];omega,by simp [go_sem];omega⟩,⟨e1,e2,d3⟩,⟨e3,e4⟩,e5⟩ (fun a3 b3 H3 hF3=>?_)
    obtain ⟨gf3,ga3,gb3,go3,hle3,⟨lf3,la3,lb3,lo3⟩,⟨x1,x2,x3⟩,⟨x4,x5⟩,x6⟩:=hF3
    have fr3:=And.intro (bZ (show f<H3.next by omega)) (And.intro (bZ (show a3<H3.next by omega)) (And.intro (bZ (show b3<H3.next by omega)) (bZ (show o<H3.next by omega))))
    have di4:=And.intro (cW (show o≠b3 by omega)) (And.intro (cW (show o≠a3 by omega)) (And.intro (cW (show o≠f by omega)) (And.intro (cW (show b3≠a3 by omega)) (And.intro (cW (show b3≠f by omega)) (cW (show a3≠f by omega))))))
    obtain ⟨a2,ha2⟩:∃ x,x=a3:=⟨_,rfl⟩
    obtain ⟨b2,hb2⟩:∃ x,x=H3.next:=⟨_,rfl⟩
    have Y:=wa Y (wa gf3 (wa ga3 (wa gb3 (wa go3 (wa fr3 (wa di4 (wa ha2 hb2)))))))
    exact wp (h:=D4 (Ghosts.trunc (.refl _) f 0 10 b3 es.length _ _ _ (by simp [go_sem,Y];rfl) rfl rfl (by simp [go_sem,Y];rfl) (by simp [go_sem,Y]) rfl (by omega)) (j+1) (by omega) ((hI3 _ _ _).2 ⟨a2,b2,ou2,wg,wn,wn,wn,wn,wn,wn,wn,wn,wj,wj,wj,wj,wj,wj,(by (rw [hou2];first|exact hou|exact A4 _ _ _ _ hou)),(by (rw [dK,← hst,hou2];first|rw [if_pos hE]|rw [if_neg (by rw [hE];simp)]))⟩))
  ·have hJ:j=S.g.edges.length:=by omega
   have hk2:S.p.edges.length - es.length=k'+1:=by
    rw [hks];exact W9 _ _
   have hOV:GW S N ns es out=ou:=by unfold GW;rw [if_neg hc1,hk2];simp only [Fm];rw [if_neg hnf,hst,hJ]
   refine wv (h:=?_)
   exact hQ a1 b1 _ (by rw [hOV];exact ⟨by assumption,by assumption,by assumption,by assumption,hou,⟨by assumption,by assumption,by assumption,by assumption⟩,⟨e1,e2,d3⟩,⟨e3,e4⟩,e5⟩)
theorem Hx (S:Srch)(hG:G17 S.t S.p S.g)(hv:(b8 S.t).2=0)(N:Nat)(hN:N≤5001)(pn pe:D)(hpn:GivD pn S.pn S.p.nodes.length)(hpe:GivD pe S.pe S.p.edges.length)(f o:Nat)(m:Nat)(ih:∀ k,k<m→PM S N pn pe f o k)(ns es:List Int)(out:List Part)(a b:Nat)(G:AHeap)(Q:D→AHeap→Prop)(hm:(S.p.nodes.length - ns.length)+(S.p.edges.length - es.length)=m)(hnl:ns.length≤S.p.nodes.length)(hel0:es.length≤S.p.edges.length)(hes:ns.length<S.p.nodes.length→es=[])(hF:FdS f a b o S N pn pe ns es out G)
  (hQ:∀ a' b' H',FdS f a' b' o S N pn pe ns es (GW S N ns es out) H'→Q (.tup []) H') (hc1:¬ ns.length<S.p.nodes.length) (hc2:¬ es.length<S.p.edges.length) :
  ACalls Tryz.prog 398 [.ptr f 1 0 0] G Q:=by
 have hla:=bK hG.gp
 have hlb:=bK hG.gg
 have hib:∀ x∈S.p.edges,(0≤x.from_∧x.from_<S.p.nodes.length)∧(0≤x.to_∧x.to_<S.p.nodes.length):=fun x hx=>((dP hG.gp).2 x hx).2
 obtain ⟨gf,ga,gb,go,hle,⟨lf,la,lb,lo⟩,⟨d1,d2,d3⟩,⟨d4,d5⟩,d6⟩:=hF
 have ff:=bZ lf
 have fa:=bZ la
 have fb:=bZ lb
 have fo:=bZ lo
 have hpnc:=hpn.1
 have hpec:=hpe.1
 have hpr:∀ H:AHeap,eJ H pn=pn:=fun H=>sI hpnc
 have hpr2:∀ H:AHeap,eJ H pe=pe:=fun H=>sI hpec
 refine (aI (cfg:=⟨fun _=>false,fun r=>match r with|0=>[(2,16),(3,16),(4,16)]|_=>[]⟩) Tz.mixed Tryz.func398 rfl rfl (aF rfl) (by kernel_rfl) ?_)
 have di1:=And.intro (cW (show o≠b by omega)) (And.intro (cW (show o≠a by omega)) (And.intro (cW (show o≠f by omega)) (And.intro (cW (show b≠a by omega)) (And.intro (cW (show b≠f by omega)) (cW (show a≠f by omega))))))
 have Y:=wa gf (wa ga (wa gb (wa go (wa ff (wa fa (wa fb (wa fo (wa @Part.c.eq_1 (wa @Srch.cellP.eq_1 (wa hpnc (wa hpec (wa hpr (wa hpr2 (wa hc1 (wa hc2 di1)))))))))))))))
 refine tG (fun h1=>?_) fun h1=>?_
 ·have hX:GW S N ns es out=out:=Ex S _ _ (by omega)
  refine wv (h:=?_)
  exact hQ a b _ (by rw [hX];exact ⟨gf,ga,gb,go,hle,⟨by first|exact lf|(simp;omega),by first|exact la|(simp;omega),by first|exact lb|(simp;omega),by first|exact lo|(simp;omega)⟩,⟨d1,d2,d3⟩,⟨d4,d5⟩,d6⟩)
 ·have hnf:¬ N≤out.length:=by omega
  have hX:GW S N ns es out=out++[⟨ns,es⟩]:=by
   unfold GW;rw [if_neg (by omega),show S.p.edges.length - es.length=0 by omega];simp only [Fm];rw [if_neg hnf]
  refine wp (h:=?_)
  refine kY (kC ns (by omega)) (by simp [go_sem,Y,dLI]) (by simp [go_sem]) (GR _) rfl (by simp [go_sem]) ?_
  refine wp (h:=?_)
  refine kY (kC es (by omega)) (by simp [go_sem,Y,dLI]) (by simp [go_sem]) (GR _) rfl (by simp [go_sem]) ?_
  refine wp (h:=?_)
  exact hQ a b _ (by rw [hX];exact ⟨by simp [go_sem,Y],by simp [go_sem,Y],by simp [go_sem,Y],by simp [go_sem,Y],by simp;omega,⟨by simp [go_sem];omega,by simp [go_sem];omega,by simp [go_sem];omega,by simp [go_sem];omega⟩,⟨d1,d2,d3⟩,⟨d4,d5⟩,d6⟩)
theorem IX (S:Srch)(hG:G17 S.t S.p S.g)(hv:(b8 S.t).2=0)(N:Nat)(hN:N≤5001)(pn pe:D)(hpn:GivD pn S.pn S.p.nodes.length)(hpe:GivD pe S.pe S.p.edges.length)(f o:Nat) :
  ∀ (m:Nat) (ns es:List Int) (out:List Part) (a b:Nat) (G:AHeap) (Q:D→AHeap→Prop),(S.p.nodes.length - ns.length)+(S.p.edges.length - es.length)=m→ns.length≤S.p.nodes.length→es.length≤S.p.edges.length→(ns.length<S.p.nodes.length→es=[])→FdS f a b o S N pn pe ns es out G →
  (∀ a' b' H',FdS f a' b' o S N pn pe ns es (GW S N ns es out) H'→Q (.tup []) H')→ACalls Tryz.prog 398 [.ptr f 1 0 0] G Q:=by
 intro m
 induction m using Nat.strongRecOn with
 | _ m ih =>
 intro ns es out a b G Q hm hnl hel0 hes hF hQ
 by_cases hc1:ns.length<S.p.nodes.length
 ·exact Hz S hG hv N hN pn pe hpn hpe f o m ih ns es out a b G Q hm hnl hel0 hes hF hQ hc1
 ·by_cases hc2:es.length<S.p.edges.length
  ·exact Hy S hG hv N hN pn pe hpn hpe f o m ih ns es out a b G Q hm hnl hel0 hes hF hQ hc1 hc2
  ·exact Hx S hG hv N hN pn pe hpn hpe f o m ih ns es out a b G Q hm hnl hel0 hes hF hQ hc1 hc2
theorem Hw (S:Srch)(hG:G17 S.t S.p S.g)(ht:S.t.ok)(hv:(b8 S.t).2=0)(N:Nat)(hN:N≤5001)(pn pe:D)(hpn:GivD pn S.pn S.p.nodes.length)(hpe:GivD pe S.pe S.p.edges.length)(hcn:pn.cell=true)(hce:pe.cell=true){L:List Part}(hL:L=(wR S).take N) :
  Pure Tryz.prog 346 [S.t.d,S.p.d,S.g.d,.agg [pn,pe],.bool S.inj,dI N] (.list (L.map Part.c)):=by
 have hRn:GW S N [] [] []=L:=by rw [Ew,LC hG.gp N _ _ _ (by simp),hL];simp [wR]
 have hpnc:=hpn.1
 have hpec:=hpe.1
 have hcn':=hcn
 have hce':=hce
 unfold D.cell at hcn' hce'
 refine vY (by first|rfl|(simp [go_sem];done)) (fun Q hQ=>(aI (cfg:=⟨fun t=>t==22,fun _=>[]⟩) Tz.mixed Tryz.func346 rfl rfl (aF rfl) (by kernel_rfl) ?_))
 have Y:=wa hpnc (wa hpec (wa @belowD.eq_1 (wa hcn' hce')))
 refine wv (h:=aK (zU S.t ht) wl ?_)
 refine wv (h:=?_)
 refine uC (.step (.step (.step (.refl _) 8 0 9 3 1 _ _ (by simp [go_sem];rfl) rfl rfl rfl) 8 0 10 3 1 _ _ (by simp [go_sem];rfl) rfl rfl rfl) 8 0 11 36 2 _ _ (by simp [go_sem];rfl) rfl rfl rfl) ?_
 simp [go_sem]
 unfold fE
 refine IX S hG hv N hN pn pe hpn hpe 8 12 _ [] [] [] 10 11 _ _ rfl (by simp) (by simp) (fun _=>rfl) ⟨by simp [go_sem,Srch.cellP,Graph.c,dLI,dI],by simp [go_sem],by simp [go_sem],by simp [go_sem],by simp,by simp [go_sem],by simp,by simp,by simp⟩ (fun a3 b3 H3 hF3=>?_)
 rw [hRn] at hF3
 obtain ⟨gf3,ga3,gb3,go3,hle3,hn3,hd3⟩:=hF3
 have Y:=wa Y (wa gf3 (wa go3 @Srch.cellP.eq_1))
 refine wv (h:=?_)
 exact hQ _ _ (by simp [go_sem,Y,lR,JR])
theorem Dw (t:Types)(ht:t.ok)(hv:(b8 t).2=0)(p g:Graph)(hG:G17 t p g)(pl el:List Int)(inj:Bool)(pn pe:D)(hpn:GivD pn pl p.nodes.length)(hpe:GivD pe el p.edges.length)(hcn:pn.cell=true)(hce:pe.cell=true){w:List Part × Int}(hw:w=EI (wR ⟨t,p,g,pl,el,inj⟩)) :
  Pure Tryz.prog 269 [t.d,p.d,g.d,.agg [pn,pe],.bool inj] (.tup [.list (w.1.map Part.c),dI w.2]):=by
 obtain ⟨L,hL⟩:∃ L,L=(wR ⟨t,p,g,pl,el,inj⟩).take 5001:=⟨_,rfl⟩
 have hA:w=if 5000<L.length then ([],3) else (L,0):=by rw [hw];unfold EI;rw [← hL]
 have hpnc:=hpn.1
 have hpec:=hpe.1
 have hcn':=hcn
 have hce':=hce
 unfold D.cell at hcn' hce'
 refine Tz.pK ⟨fun _=>false,fun _=>[]⟩ Tryz.func269 rfl (fun Q hQ=>?_)
 have Y:=wa hpnc (wa hpec (wa hcn' hce'))
 refine wv (h:=aB (Hw ⟨t,p,g,pl,el,inj⟩ hG ht hv 5001 (by omega) pn pe hpn hpe hcn hce hL) wl ?_)
 refine eF (fun h2=>?_) fun h2=>?_
 ·rw [if_pos (by omega)] at hA
  exact wv (h:=hQ _ _ (by simp [go_sem,hA]))
 ·rw [if_neg (by omega)] at hA
  exact wv (h:=hQ _ _ (by simp [go_sem,hA]))
theorem w8 {t:Types}{p g:Graph}(h:eP t p g=0):(b8 t).2=0:=by
 unfold eP at h
 split at h
 ·exact absurd h (by assumption)
 ·rename_i h1;simpa using h1
theorem Lf (t:Types)(ht:t.ok)(p g:Graph)(inj:Bool):Pure Tryz.prog 177 [t.d,p.d,g.d,.bool inj] (.tup [.list ((oQ t p g inj).1.map Part.c),dI (oQ t p g inj).2]):=by
 refine Tz.pK ⟨fun _=>false,fun _=>[]⟩ Tryz.func177 rfl (fun Q hQ=>?_)
 have Y:=trivial
 refine wv (h:=aB (pB t ht p g) wl ?_)
 refine c4 (fun h2=>?_) fun h2=>?_
 ·have hA:oQ t p g inj=([],eP t p g):=by unfold oQ;rw [if_pos (by simpa using h2)]
  exact wv (h:=hQ _ _ (by simp [go_sem,hA]))
 ·have hG:=l3 (by simpa using h2)
  have hv:=w8 (by simpa using h2)
  obtain ⟨w,hw⟩:∃ w,w=EI (wR ⟨t,p,g,List.replicate p.nodes.length (-1),List.replicate p.edges.length (-1),inj⟩):=⟨_,rfl⟩
  have hA:oQ t p g inj=w:=by unfold oQ;rw [if_neg (by simpa using h2),hw]
  refine wv (h:=aB (Dw t ht hv p g hG _ _ inj .nil .nil (GivD.nil _) (GivD.nil _) rfl rfl hw) wl ?_)
  exact wv (h:=hQ _ _ (by simp [go_sem,hA]))
theorem Fq (t:Types)(ht:t.ok)(p g:Graph)(q:Part)(inj:Bool):Pure Tryz.prog 458 [t.d,p.d,g.d,q.d,.bool inj] (.tup [.list ((lK t p g q inj).1.map Part.c),dI (lK t p g q inj).2]):=by
 refine Tz.pK ⟨fun _=>false,fun _=>[]⟩ Tryz.func458 rfl (fun Q hQ=>?_)
 have Y:=trivial
 refine wv (h:=aB (pB t ht p g) wl ?_)
 refine c4 (fun h2=>?_) fun h2=>?_
 ·have hA:lK t p g q inj=([],eP t p g):=by unfold lK;rw [if_pos (by simpa using h2)]
  exact wv (h:=hQ _ _ (by simp [go_sem,hA]))
 ·have hG:=l3 (by simpa using h2)
  have hv:=w8 (by simpa using h2)
  refine eF (fun h4=>?_) fun h4=>?_
  ·have hA:lK t p g q inj=([],20):=by unfold lK;rw [if_neg (by simpa using h2),if_pos (by omega)]
   exact wv (h:=hQ _ _ (by simp [go_sem,hA]))
  ·have hq:q.nodes.length=p.nodes.length∧q.edges.length=p.edges.length:=by omega
   refine wo (h:=aB (BO q.nodes g.nodes.length) wl ?_)
   refine eF (fun h7=>?_) fun h7=>?_
   ·have hA:lK t p g q inj=([],lG q.nodes g.nodes.length):=by unfold lK;rw [if_neg (by simpa using h2),if_neg (by omega),if_pos (by simpa using h7)]
    exact wv (h:=hQ _ _ (by simp [go_sem,hA]))
   ·have h7':lG q.nodes g.nodes.length=0:=by simpa using h7
    refine wo (h:=aB (BO q.edges g.edges.length) wl ?_)
    refine eF (fun h10=>?_) fun h10=>?_
    ·have hA:lK t p g q inj=([],lG q.edges g.edges.length):=by unfold lK;rw [if_neg (by simpa using h2),if_neg (by omega),if_neg (by omega),if_pos (by simpa using h10)]
     exact wv (h:=hQ _ _ (by simp [go_sem,hA]))
    ·have h10':lG q.edges g.edges.length=0:=by simpa using h10
     obtain ⟨w,hw⟩:∃ w,w=EI (wR ⟨t,p,g,q.nodes,q.edges,inj⟩):=⟨_,rfl⟩
     have hA:lK t p g q inj=w:=by unfold lK;rw [if_neg (by simpa using h2),if_neg (by omega),if_neg (by omega),if_neg (by omega),hw]
     refine wv (h:=aB (Dw t ht hv p g hG q.nodes q.edges inj (dLI q.nodes) (dLI q.edges) (hq.1 ▸ GivD.list q.nodes) (hq.2 ▸ GivD.list q.edges) rfl rfl hw) wl ?_)
     exact wv (h:=hQ _ _ (by simp [go_sem,hA]))
theorem Q4 (l:List Edge):∀ d∈(l.map Edge.c).flatten,d.flat=true:=by
 intro d hd
 rw [iD] at hd
 obtain ⟨c,hc,hd⟩:=hd
 rw [bG] at hc
 obtain ⟨x,_,rfl⟩:=hc
 simp only [Edge.c,aT,eY,or_false] at hd
 rcases hd with rfl|rfl|rfl<;>rfl
theorem CC (t:Types)(ht:t.ok)(p g:Graph)(m:Part):Pure Tryz.prog 139 [t.d,p.d,g.d,m.d] (.tup [(xM t p g m).d,dI (eR t p g m false)]):=by
 refine Tz.pK ⟨fun t=>t==8||t==12,fun r=>match r with|11=>[(0,7),(1,7)]|_=>[]⟩ Tryz.func139 rfl (fun Q hQ=>?_)
 have Y:=trivial
 refine wv (h:=aB (pB t ht p g) wl ?_)
 refine c4 (fun h2=>?_) fun h2=>?_
 ·have hC:eR t p g m false=eP t p g:=by unfold eR;rw [if_pos (by simpa using h2)]
  have hI:xM t p g m=⟨[],[]⟩:=by unfold xM;rw [if_neg (by rw [hC];simpa using h2)]
  exact wv (h:=hQ _ _ (by simp [go_sem,hI,hC]))
 ·have hG:=l3 (by simpa using h2)
  have hv:=w8 (by simpa using h2)
  have hla:=bK hG.gp
  have hlb:=bK hG.gg
  have hC:eR t p g m false=gX t p g m false:=by unfold eR;rw [if_neg (by simpa using h2)]
  refine wv (h:=aB (zT t ht p g hG hv m) wl ?_)
  refine c4 (fun h5=>?_) fun h5=>?_
  ·have hI:xM t p g m=⟨[],[]⟩:=by unfold xM;rw [if_neg (by rw [hC];simpa using h5)]
   exact wv (h:=hQ _ _ (by simp [go_sem,hI,hC]))
  ·have hM:gX t p g m false=0:=by simpa using h5
   obtain ⟨⟨hl1,hl2⟩,hmn,hme⟩:=w4 hM
   have hI:xM t p g m=oL p g m:=by unfold xM;rw [if_pos (by rw [hC];exact hM)]
   refine wv (h:=?_)
   refine Me (ER p.edges (by omega)) (by simp [go_sem]) (by simp [go_sem]) (Q4 _) ?_
   refine wp (h:=wB (Ghosts.step (Ghosts.refl _) 1 0 0 3 1 _ _ (rfl) rfl rfl rfl) (fun i e H=>∃ xs:List Int,(e 4=.adr t.c∧e 5=.adr p.c∧e 6=.adr g.c∧e 7=.adr m.c∧e 8=.ptr 0 1 0 0∧e 12=.ptr 1 1 0 0∧e 37=dLI m.nodes∧e 38=dI m.nodes.length∧e 39=dI i)∧(H.get 0=some ⟨29,2,[[.nil,.nil]],false⟩)∧(0<H.next)∧(H.get 1=some ⟨29,2,[[.own 2 xs.length,.list (p.edges.map Edge.c)]],false⟩)∧(1<H.next)∧(H.get 2=some ⟨3,1,xs.map cI,false⟩)∧(2<H.next)∧(i≤m.nodes.length)∧(xs=(m.nodes.take i).map (gN g))) (fun i=>m.nodes.length - i) 0 ⟨([]),wg,wn,wn,wn,wn,wn,wn,wi,(by rfl)⟩ fun I0 hI0 i e H hi0=>?_)
   obtain ⟨xs,E0,g0_0,n0_0,g1_0,n1_0,g2_0,n2_0,hi,hx⟩:=hi0
   have Y:=wa Y (wa E0 (wa g0_0 (wa (bZ n0_0) (wa g1_0 (wa (bZ n1_0) (wa g2_0 (bZ n2_0)))))))
   refine c4 (fun h9=>?_) fun h9=>?_
   ·have hmi:=hmn _ (aC h9)
    have hk:m.nodes[i].toNat<g.nodes.length:=by omega
    have hxl:xs.length=i:=by rw [hx];simp;omega
    have Y:=wa Y (wa h9 (wa (aA h9) (wa (aA hk) @gN.eq_1)))
    exact wp (h:=wx hI0 (i+1) ⟨(xs++[gN g m.nodes[i]]),wg,wn,wn,wn,wn,wn,wn,wj,(by (rw [jF _ h9,← hx]))⟩)
   ·have hX:xs=m.nodes.map (gN g):=by rw [hx,j6 _ (by omega)]
    exact wv (h:=hQ _ _ (by simp [go_sem,Y,hI,hC,hM,oL,Graph.d,Graph.c,hX,dLI]))
end Go.Abs
end
