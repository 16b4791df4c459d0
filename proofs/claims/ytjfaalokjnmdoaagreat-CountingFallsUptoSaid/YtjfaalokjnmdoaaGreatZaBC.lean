/- CountingFalls: at every draft, each step by a rule lowers th -/
import Derived.Test.YtjfaalokjnmdoaaGreatZaAW
import Derived.Test.YtjfaalokjnmdoaaGreatZaAX
import Derived.Test.YtjfaalokjnmdoaaGreatZaAY
import Derived.Test.YtjfaalokjnmdoaaGreatZaAZ
import Derived.Test.YtjfaalokjnmdoaaGreatZaBA
import Derived.Test.YtjfaalokjnmdoaaGreatZaBB
import Derived.Test.YtjfaalokjnmdoaaGreatRows
import Derived.WalkKit
import Derived.ProofKit
import Derived.OpenShut
import Derived.JoinedCond
set_option linter.unusedVariables false
set_option linter.unusedSimpArgs false
section
namespace Go.Proofs.YtjfaalokjnmdoaaGreat.countingFalls
open Go.ChangeShapes Go.WideShapes Go.ChangeAt Go.RowKit Go.Abs
theorem own:ownKnob Tryz.prog.godebug=none:=by kernel_rfl
theorem laidOk:laidOutB Tryz.prog=true:=by kernel_rfl
theorem reads28:Tryz.prog.readableRec 28=true∧28<Tryz.prog.types.size:=⟨by kernel_rfl,of_decide_eq_true (by kernel_rfl)⟩
set_option maxRecDepth 100000 in
theorem contract (H:Type)(enc:TypeId × Value→H)(W:World)(base:Nat)(args:Array Value)(ds gs:List (DataW H))(before:List MemPlace)
  (hval:∀ (j:Nat) t v,Tryz.f3.params[j]?=some t→args[j]?=some v→Value.okWide Tryz.prog W .any base t v)
  (hW:DataW.Whole enc Tryz.prog Tryz.f3.params.toList Rows.countingFallsSpec.vars false W args.toList ds gs before) (hk:Rows.uptoSmall H (ds++gs)=true) :
  Calls Tryz.prog 3 args W fun e W'=>∃ v,e=.returned v∧Rows.countingFallsSpec.post enc Tryz.prog Tryz.f3 false true false false W args v W':=by
 have hW':=hW
 obtain ⟨p,q,hA0,hV,rfl,hfz,hnd⟩:=hW
 have hA:DataW.TrodAll enc Tryz.prog W 0 (fun _=>true) true Tryz.f3.params.toList args.toList ds p:=hA0
 rw [Tryz.params3] at hA hval
 obtain ⟨v0,vs0,d0,ds0,p0,q0,hargs,rfl,rfl,h0,r0⟩:=trodAll_cons hA
 obtain ⟨rfl,rfl,rfl⟩:=trodAll_nil r0
 obtain rfl:args=#[v0]:=by cases args;simp_all
 obtain ⟨rfl,rfl⟩:=trodVars_none hV
 have hb:=bulks.bound hk
 obtain ⟨d,gd,rd⟩:=OV (bulk:=Rows.uptoBulk) (B:=1048576) Tryz.underlying28 (Y7 bulks.ok) (hval 0 28 v0 rfl rfl) h0 (hb _ (by simp))
 have hp:=(yW d).2 N5 W [v0] (fun _ h=>h.elim) (qH rd)
 refine hp.mono fun e W' ⟨v,he,hv,hbl⟩=>⟨v,he,?_⟩
 cases hv
 refine Hb laidOk (fun t ht=>?_) rfl hW' (fun _ _ _=>trodAll_cons_mk (shut_bool Tryz.underlying4 _) trodAll_mk0) rfl rfl hbl (ok_one (by kernel_rfl) rfl (okWide_bool_mk Tryz.underlying4 _))
 rw [Tryz.params3] at ht
 simp at ht
 subst ht;exact reads28
set_option maxRecDepth 100000 in
theorem lifted (os:Os)(started:os.Started)(H:Type)(enc:TypeId × Value→H)(F:Stop.Interp) :
  ReturnsInHanded {} Tryz.checked os 3 .any ((Rows.OpenSpec.upto Rows.countingFallsSpec).pre6 enc Tryz.prog Tryz.f3 Rows.countingFallsUptoRow.domain false) (((Rows.OpenSpec.upto Rows.countingFallsSpec).at F).post enc Tryz.prog Tryz.f3 false true false false):=by
 refine returnsInHanded_of_cond (C:=Tryz.checked) (s:=Rows.OpenSpec.upto Rows.countingFallsSpec) (k:=Rows.uptoSmall) rfl own started (by kernel_rfl) Tryz.func3
  (OpenSpec.witness (enc:=enc) (C:=Tryz.checked) (s:=Rows.OpenSpec.upto Rows.countingFallsSpec) (k:=Rows.uptoSmall) rfl false ⟨#[],#[.agg #[.slice none 0 0,.slice none 0 0,.slice none 0 0,.slice none 0 0,.slice none 0 0]],[]⟩ 8 (by kernel_rfl) (by kernel_rfl) (by kernel_rfl)
   (x:=([.agg [.nil,.nil,.nil,.agg [.nil,.nil]]],[],[])) (by kernel_rfl) rfl (by kernel_rfl)) ?_
 intro W base args ds gs before hval hW _ hk _
 exact contract H enc W base args ds gs before hval hW hk
theorem factsOf {P:Program}{f:FuncId}{fn:Func}{s:ChangeSpec}{c:OpenClaim}
  (h0:(c.wf (OpenSpec.ofChange s))=true)
  (h1:(laidOutB P)=true)
  (h2:(mapsRowed P)=true)
  (h3:(fn.params.all (P.readableRec ·))=true)
  (h4:(namedTie P c.named s.vars)=true)
  (h5:((c.stops==[]))=true)
  (h6:((P.stops==[]))=true)
  (h7:((c.knobs==[]))=true)
  (h8:((P.stopKnobs==[]))=true)
  (h9:((c.inPlace==P.inPlace f))=true)
  (h10:((c.unfollowed==P.unfollowed f))=true)
  (h11:((c.recurses==P.recurses f))=true)
  (h12:((c.named==P.varsNamed f))=true)
  (h13:((c.maps==(fn.params.toList++s.plain.varTypes P).any (P.mapsRec ·)))=true)
  (h14:((c.ifaces==(fn.params.toList++s.plain.varTypes P).any (P.ifacesRec ·)))=true)
  (h15:((c.mapsOut==P.mapsAmong fn.resultTypes.toList))=true)
  (h16:((c.loops==(fn.params.toList++s.plain.varTypes P).any (P.loopsFrom ·)))=true)
  (h17:((c.wideKeys==(fn.params.toList++s.plain.varTypes P++fn.resultTypes.toList).any (P.wideKeysFrom ·)))=true)
  (h18:(s.vars.all (P.varReadable ·))=true)
  (h19:(fn.resultTypes.all (fun t=>P.readableRec t&&decide (t<P.types.size)))=true)
  (h20:((c.ifacesOut==fn.resultTypes.toList.any (P.ifacesRec ·)))=true)
  (h21:((c.loopsOut==fn.resultTypes.toList.any (P.loopsFrom ·)))=true)
  (h22:((c.plainKeys==P.plainKeys))=true)
  (h23:(c.shortTexts.isNone)=true)
  (h24:(P.stopsHeard)=true)
  (h25:(P.mayEnter)=true)
  (h26:((c.lifted==P.liftsFinal))=true)
  (h27:((P.make==some c.make))=true)
  (h28:((c.domain.isEmpty&&(c.kinds==[])))=true)
  (h29:((c.pinned==c.pinnedBy))=true)
  (h30:((c.veiled==(fn.params.toList++s.plain.varTypes P++fn.resultTypes.toList).any (P.veiledRec ·)))=true)
  (h31:(c.veiledFits P fn.params.toList (fn.params.toList++s.plain.varTypes P++fn.resultTypes.toList))=true)
  : joinedFacts P f fn s c=true:=by
 unfold joinedFacts
 simp only [aL]
 exact ⟨⟨⟨⟨⟨⟨⟨⟨⟨⟨⟨⟨⟨⟨⟨⟨⟨⟨⟨⟨⟨⟨⟨⟨⟨⟨⟨⟨⟨⟨⟨h0,h1⟩,h2⟩,h3⟩,h4⟩,h5⟩,h6⟩,h7⟩,h8⟩,h9⟩,h10⟩,h11⟩,h12⟩,h13⟩,h14⟩,h15⟩,h16⟩,h17⟩,h18⟩,h19⟩,h20⟩,h21⟩,h22⟩,h23⟩,h24⟩,h25⟩,h26⟩,h27⟩,(by rw [aL] at h28;rw [if_pos h28.1];exact h28.2)⟩,h29⟩,h30⟩,h31⟩
theorem joined:joinedFacts Tryz.prog 3 Tryz.f3 (Rows.OpenSpec.upto Rows.countingFallsSpec).bare Rows.countingFallsUptoRow=true :=
 factsOf fact0 fact1 fact2 fact3 fact4 fact5 fact6 fact7 fact8 fact9 fact10 fact11 fact12 fact13 fact14 fact15 fact16 fact17 fact18 fact19 fact20 fact21 fact22 fact23 fact24 fact25 fact26 fact27 fact28 fact29 fact30 fact31
theorem prog0:Tryz.pinned.checked.prog=Tryz.prog:=rfl
theorem joinedP:joinedFacts Tryz.pinned.checked.prog 3 Tryz.f3 (Rows.OpenSpec.upto Rows.countingFallsSpec).bare Rows.countingFallsUptoRow=true:=by
 rw [prog0];exact joined
theorem named0:Tryz.pinned.checked.prog.funcNamed Rows.countingFallsUptoRow.func=some 3:=by kernel_rfl
theorem instance0:Tryz.f3.isInstance Tryz.pinned.checked.prog Rows.countingFallsUptoRow.origin Rows.countingFallsUptoRow.targs:=of_decide_eq_true (by kernel_rfl)
theorem wrapper0:Tryz.f3.isWrapper Tryz.pinned.checked.prog Rows.countingFallsUptoRow.wrapper Rows.countingFallsUptoRow.mainSum:=by
 unfold Func.isWrapper
 first|(rw [if_pos (by decide +kernel)];kernel_rfl)|(rw [if_neg (by decide +kernel)];exact ⟨rfl,rfl⟩)
theorem proved:Rows.CountingFallsUptoSaid :=
 OpenClaim.holds_of_cond 3 Tryz.f3 rfl rfl rfl rfl rfl rfl rfl ⟨rfl,rfl,rfl,rfl,rfl⟩ rfl rfl rfl rfl rfl named0 Tryz.func3 joinedP instance0 wrapper0
  (fun os started H enc _ F=>lifted os started H enc F)
end Go.Proofs.YtjfaalokjnmdoaaGreat.countingFalls
end
