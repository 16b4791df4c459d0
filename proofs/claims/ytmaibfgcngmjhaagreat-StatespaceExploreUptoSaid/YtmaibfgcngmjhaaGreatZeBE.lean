/- The theorem -/
import Derived.Test.YtmaibfgcngmjhaaGreatZeBD
import Derived.Test.YtmaibfgcngmjhaaGreatRows
import Derived.WalkKit
import Derived.ProofKit
import Derived.OpenShut
import Derived.JoinedCond
import Derived.Test.YtmaibfgcngmjhaaGreatZeCE
import Derived.Test.YtmaibfgcngmjhaaGreatZeCF
import Derived.Test.YtmaibfgcngmjhaaGreatZeCG
set_option linter.unusedVariables false
set_option linter.unusedSimpArgs false
section
namespace Go.Proofs.YtmaibfgcngmjhaaGreat.statespaceExplore
open Go.ChangeShapes Go.WideShapes Go.ChangeAt Go.RowKit Go.Abs
theorem own:ownKnob Tryz.prog.godebug=none:=by kernel_rfl
theorem laidOk:laidOutB Tryz.prog=true:=by kernel_rfl
theorem reads25:Tryz.prog.readableRec 25=true∧25<Tryz.prog.types.size:=⟨by kernel_rfl,of_decide_eq_true en⟩
theorem reads26:Tryz.prog.readableRec 26=true∧26<Tryz.prog.types.size:=⟨by kernel_rfl,of_decide_eq_true en⟩
theorem reads35:Tryz.prog.readableRec 35=true∧35<Tryz.prog.types.size:=⟨by kernel_rfl,of_decide_eq_true en⟩
set_option maxRecDepth 100000 in
theorem contract (H:Type)(enc:TypeId × Value→H)(W:World)(base:Nat)(args:Array Value)(ds gs:List (DataW H))(before:List MemPlace)
  (hval:∀ (j:Nat) t v,Tryz.f3.params[j]?=some t→args[j]?=some v→Value.okWide Tryz.prog W .any base t v)
  (hW:DataW.Whole enc Tryz.prog Tryz.f3.params.toList Rows.statespaceExploreSpec.vars false W args.toList ds gs before) (hk:Rows.uptoSmall H (ds++gs)=true) :
  Calls Tryz.prog 3 args W fun e W'=>∃ v,e=.returned v∧Rows.statespaceExploreSpec.post enc Tryz.prog Tryz.f3 false true false false W args v W':=by
 have hW':=hW;obtain ⟨p,q,hA0,hV,rfl,hfz,hnd⟩:=hW;have hA:DataW.TrodAll enc Tryz.prog W 0 (fun _=>true) true Tryz.f3.params.toList args.toList ds p:=hA0;rw [Tryz.params3] at hA hval;obtain ⟨v0,vs0,d0,ds0,p0,q0,hargs,rfl,rfl,h0,r0⟩:=trodAll_cons hA;obtain ⟨v1,vs1,d1,ds1,p1,q1,rfl,rfl,rfl,h1,r1⟩:=trodAll_cons r0;obtain ⟨v2,vs2,d2,ds2,p2,q2,rfl,rfl,rfl,h2,r2⟩:=trodAll_cons r1;obtain ⟨rfl,rfl,rfl⟩:=trodAll_nil r2;obtain rfl:args=#[v0,v1,v2]:=by cases args;simp_all
 obtain ⟨rfl,rfl⟩:=trodVars_none hV;have hb:=bulks.bound hk;obtain ⟨t,gt,rt⟩:=JZ (bulk:=Rows.uptoBulk) (B:=1048576) Tryz.underlying25 (aiL bulks.ok) (hval 0 25 v0 rfl rfl) h0 (hb _ (by simp));obtain ⟨rs,grs,rrs⟩:=VO (bulk:=Rows.uptoBulk) (B:=1048576) (c:=fun l:List Rule=>D.list (l.map Rule.c)) Tryz.underlying26 (aiK bulks.ok) (hval 1 26 v1 rfl rfl) h1 (hb _ (by simp));obtain ⟨x,gx,rx⟩:=JZ (bulk:=Rows.uptoBulk) (B:=1048576) Tryz.underlying35 (aiG bulks.ok) (hval 2 35 v2 rfl rfl) h2 (hb _ (by simp));have hp:=(yO t (fun n hn=>dA (gt.2.2 n hn) (by omega)) rs (fun r hr=>Rule.bnd_le (by omega) (grs.2 r hr)) x.h x.most).2 TD W [v0,v1,v2] (fun _ h=>h.elim) (DA (sN rt) (DA (sN rrs) (sN rx)));refine hp.mono fun e W' ⟨v,he,hv,hbl⟩=>⟨v,he,?_⟩;cases hv
 refine KF laidOk (fun t ht=>?_) rfl hW' (fun _ _ _=>trodAll_cons_mk (shut_bool Tryz.underlying4 _) trodAll_mk0) rfl rfl hbl (ok_one en rfl (okWide_bool_mk Tryz.underlying4 _));rw [Tryz.params3] at ht;simp at ht;rcases ht with rfl|rfl|rfl
 ·exact reads25
 ·exact reads26
 ·exact reads35
set_option maxRecDepth 100000 in
theorem lifted (os:Os)(started:os.Started)(H:Type)(enc:TypeId × Value→H)(F:Stop.Interp) :
  ReturnsInHanded {} Tryz.checked os 3 .any ((Rows.OpenSpec.upto Rows.statespaceExploreSpec).pre6 enc Tryz.prog Tryz.f3 Rows.statespaceExploreUptoRow.domain false) (((Rows.OpenSpec.upto Rows.statespaceExploreSpec).at F).post enc Tryz.prog Tryz.f3 false true false false):=by
 refine returnsInHanded_of_cond (C:=Tryz.checked) (s:=Rows.OpenSpec.upto Rows.statespaceExploreSpec) (k:=Rows.uptoSmall) rfl own started en Tryz.func3
  (OpenSpec.witness (enc:=enc) (C:=Tryz.checked) (s:=Rows.OpenSpec.upto Rows.statespaceExploreSpec) (k:=Rows.uptoSmall) rfl false ⟨#[],#[.agg #[.slice none 0 0,.slice none 0 0],.slice none 0 0,.agg #[.slice none 0 0,.slice none 0 0,.slice none 0 0,.int .i64 0]],[]⟩ 8 en en en
   (x:=([.agg [.nil,.nil],.nil,.agg [.agg [.agg [.nil,.nil],.nil],.lit (.int .i64 0)]],[],[])) en rfl en) ?_
 intro W base args ds gs before hval hW _ hk _;exact contract H enc W base args ds gs before hval hW hk
theorem factsOf {P:Program}{f:FuncId}{fn:Func}{s:ChangeSpec}{c:OpenClaim}
  (h0:k0 P f fn s c=true)
  (h1:k1 P f fn s c=true)
  (h2:k2 P f fn s c=true)
  (h3:k3 P f fn s c=true)
  (h4:k4 P f fn s c=true)
  (h5:k5 P f fn s c=true)
  (h6:k6 P f fn s c=true)
  (h7:k7 P f fn s c=true)
  (h8:k8 P f fn s c=true)
  (h9:k9 P f fn s c=true)
  (h10:k10 P f fn s c=true)
  (h11:k11 P f fn s c=true)
  (h12:k12 P f fn s c=true)
  (h13:k13 P f fn s c=true)
  (h14:k14 P f fn s c=true)
  (h15:k15 P f fn s c=true)
  (h16:k16 P f fn s c=true)
  (h17:k17 P f fn s c=true)
  (h18:k18 P f fn s c=true)
  (h19:k19 P f fn s c=true)
  (h20:k20 P f fn s c=true)
  (h21:k21 P f fn s c=true)
  (h22:k22 P f fn s c=true)
  (h23:k23 P f fn s c=true)
  (h24:k24 P f fn s c=true)
  (h25:k25 P f fn s c=true)
  (h26:k26 P f fn s c=true)
  (h27:k27 P f fn s c=true)
  (h28:k28 P f fn s c=true)
  (h29:k29 P f fn s c=true)
  (h30:k30 P f fn s c=true)
  (h31:k31 P f fn s c=true)
  : joinedFacts P f fn s c=true:=by
 unfold joinedFacts;simp only [aR];exact ⟨⟨⟨⟨⟨⟨⟨⟨⟨⟨⟨⟨⟨⟨⟨⟨⟨⟨⟨⟨⟨⟨⟨⟨⟨⟨⟨⟨⟨⟨⟨h0,h1⟩,h2⟩,h3⟩,h4⟩,h5⟩,h6⟩,h7⟩,h8⟩,h9⟩,h10⟩,h11⟩,h12⟩,h13⟩,h14⟩,h15⟩,h16⟩,h17⟩,h18⟩,h19⟩,h20⟩,h21⟩,h22⟩,h23⟩,h24⟩,h25⟩,h26⟩,h27⟩,(by unfold k28 at h28;rw [aR] at h28;rw [if_pos h28.1];exact h28.2)⟩,h29⟩,h30⟩,h31⟩
theorem joined:joinedFacts Tryz.prog 3 Tryz.f3 (Rows.OpenSpec.upto Rows.statespaceExploreSpec).bare Rows.statespaceExploreUptoRow=true :=
 factsOf fact0 fact1 fact2 fact3 fact4 fact5 fact6 fact7 fact8 fact9 fact10 fact11 fact12 fact13 fact14 fact15 fact16 fact17 fact18 fact19 fact20 fact21 fact22 fact23 fact24 fact25 fact26 fact27 fact28 fact29 fact30 fact31
theorem prog0:Tryz.pinned.checked.prog=Tryz.prog:=rfl
theorem joinedP:joinedFacts Tryz.pinned.checked.prog 3 Tryz.f3 (Rows.OpenSpec.upto Rows.statespaceExploreSpec).bare Rows.statespaceExploreUptoRow=true:=by
 rw [prog0];exact joined
theorem named0:Tryz.pinned.checked.prog.funcNamed Rows.statespaceExploreUptoRow.func=some 3:=by kernel_rfl
theorem instance0:Tryz.f3.isInstance Tryz.pinned.checked.prog Rows.statespaceExploreUptoRow.origin Rows.statespaceExploreUptoRow.targs:=of_decide_eq_true en
theorem wrapper0:Tryz.f3.isWrapper Tryz.pinned.checked.prog Rows.statespaceExploreUptoRow.wrapper Rows.statespaceExploreUptoRow.mainSum:=by
 unfold Func.isWrapper;first|(rw [if_pos (by decide +kernel)];kernel_rfl)|(rw [if_neg (by decide +kernel)];exact ⟨rfl,rfl⟩)
theorem proved:Rows.StatespaceExploreUptoSaid :=
 OpenClaim.holds_of_cond 3 Tryz.f3 rfl rfl rfl rfl rfl rfl rfl ⟨rfl,rfl,rfl,rfl,rfl⟩ rfl rfl rfl rfl rfl named0 Tryz.func3 joinedP instance0 wrapper0
  (fun os started H enc _ F=>lifted os started H enc F)
end Go.Proofs.YtmaibfgcngmjhaaGreat.statespaceExplore
end
