/- The closed facts that the row reverseInverseUptoRow asks of  -/
import Derived.Test.YtbgbahlipnaflaaGreatZvBB
import Derived.Test.YtbgbahlipnaflaaGreatRows
import Derived.WalkKit
import Derived.ProofKit
import Derived.OpenShut
import Derived.JoinedCond
set_option linter.unusedVariables false
set_option linter.unusedSimpArgs false
section
set_option maxRecDepth 100000
namespace Go.Proofs.YtbgbahlipnaflaaGreat.reverseInverse
open Go Go.ChangeShapes Go.WideShapes Go.ChangeAt Go.RowKit
abbrev Zf:=Program→FuncId→Func→ChangeSpec→OpenClaim→Bool
noncomputable abbrev Kf (b:Zf):Bool:=b Tryz.prog 4 Tryz.f4 (Rows.OpenSpec.upto Rows.reverseInverseSpec).bare Rows.reverseInverseUptoRow
def k0:Zf:=fun P f fn s c=>c.wf (OpenSpec.ofChange s)
theorem fact0:Kf k0=true:=by kernel_rfl
def k1:Zf:=fun P f fn s c=>laidOutB P
theorem fact1:Kf k1=true:=by kernel_rfl
def k2:Zf:=fun P f fn s c=>mapsRowed P
theorem fact2:Kf k2=true:=by kernel_rfl
def k3:Zf:=fun P f fn s c=>fn.params.all (P.readableRec ·)
theorem fact3:Kf k3=true:=by kernel_rfl
def k4:Zf:=fun P f fn s c=>namedTie P c.named s.vars
theorem fact4:Kf k4=true:=by kernel_rfl
def k5:Zf:=fun P f fn s c=>(c.stops==[])
theorem fact5:Kf k5=true:=by kernel_rfl
def k6:Zf:=fun P f fn s c=>(P.stops==[])
theorem fact6:Kf k6=true:=by kernel_rfl
def k7:Zf:=fun P f fn s c=>(c.knobs==[])
theorem fact7:Kf k7=true:=by kernel_rfl
def k8:Zf:=fun P f fn s c=>(P.stopKnobs==[])
theorem fact8:Kf k8=true:=by kernel_rfl
def k9:Zf:=fun P f fn s c=>(c.inPlace==P.inPlace f)
theorem fact9:Kf k9=true:=by kernel_rfl
end Go.Proofs.YtbgbahlipnaflaaGreat.reverseInverse
end
section
set_option maxRecDepth 100000
namespace Go.Proofs.YtbgbahlipnaflaaGreat.reverseInverse
open Go Go.ChangeShapes Go.WideShapes Go.ChangeAt Go.RowKit
def k10:Zf:=fun P f fn s c=>(c.unfollowed==P.unfollowed f)
theorem fact10:Kf k10=true:=by kernel_rfl
def k11:Zf:=fun P f fn s c=>(c.recurses==P.recurses f)
theorem fact11:Kf k11=true:=by kernel_rfl
def k12:Zf:=fun P f fn s c=>(c.named==P.varsNamed f)
theorem fact12:Kf k12=true:=by kernel_rfl
end Go.Proofs.YtbgbahlipnaflaaGreat.reverseInverse
end
section
set_option maxRecDepth 100000
namespace Go.Proofs.YtbgbahlipnaflaaGreat.reverseInverse
open Go Go.ChangeShapes Go.WideShapes Go.ChangeAt Go.RowKit
def k13:Zf:=fun P f fn s c=>(c.maps==(fn.params.toList++s.plain.varTypes P).any (P.mapsRec ·))
theorem fact13:Kf k13=true:=by kernel_rfl
def k14:Zf:=fun P f fn s c=>(c.ifaces==(fn.params.toList++s.plain.varTypes P).any (P.ifacesRec ·))
theorem fact14:Kf k14=true:=by kernel_rfl
def k15:Zf:=fun P f fn s c=>(c.mapsOut==P.mapsAmong fn.resultTypes.toList)
theorem fact15:Kf k15=true:=by kernel_rfl
def k16:Zf:=fun P f fn s c=>(c.loops==(fn.params.toList++s.plain.varTypes P).any (P.loopsFrom ·))
theorem fact16:Kf k16=true:=by kernel_rfl
def k17:Zf:=fun P f fn s c=>(c.wideKeys==(fn.params.toList++s.plain.varTypes P++fn.resultTypes.toList).any (P.wideKeysFrom ·))
theorem fact17:Kf k17=true:=by kernel_rfl
def k18:Zf:=fun P f fn s c=>s.vars.all (P.varReadable ·)
theorem fact18:Kf k18=true:=by kernel_rfl
def k19:Zf:=fun P f fn s c=>fn.resultTypes.all (fun t=>P.readableRec t&&decide (t<P.types.size))
theorem fact19:Kf k19=true:=by kernel_rfl
def k20:Zf:=fun P f fn s c=>(c.ifacesOut==fn.resultTypes.toList.any (P.ifacesRec ·))
theorem fact20:Kf k20=true:=by kernel_rfl
def k21:Zf:=fun P f fn s c=>(c.loopsOut==fn.resultTypes.toList.any (P.loopsFrom ·))
theorem fact21:Kf k21=true:=by kernel_rfl
def k22:Zf:=fun P f fn s c=>(c.plainKeys==P.plainKeys)
theorem fact22:Kf k22=true:=by kernel_rfl
def k23:Zf:=fun P f fn s c=>c.shortTexts.isNone
theorem fact23:Kf k23=true:=by kernel_rfl
def k24:Zf:=fun P f fn s c=>P.stopsHeard
theorem fact24:Kf k24=true:=by kernel_rfl
end Go.Proofs.YtbgbahlipnaflaaGreat.reverseInverse
end
section
set_option maxRecDepth 100000
namespace Go.Proofs.YtbgbahlipnaflaaGreat.reverseInverse
open Go Go.ChangeShapes Go.WideShapes Go.ChangeAt Go.RowKit
def k25:Zf:=fun P f fn s c=>P.mayEnter
theorem fact25:Kf k25=true:=by kernel_rfl
def k26:Zf:=fun P f fn s c=>(c.lifted==P.liftsFinal)
theorem fact26:Kf k26=true:=by kernel_rfl
def k27:Zf:=fun P f fn s c=>(P.make==some c.make)
theorem fact27:Kf k27=true:=by kernel_rfl
def k28:Zf:=fun P f fn s c=>(c.domain.isEmpty&&(c.kinds==[]))
theorem fact28:Kf k28=true:=by kernel_rfl
def k29:Zf:=fun P f fn s c=>(c.pinned==c.pinnedBy)
theorem fact29:Kf k29=true:=by kernel_rfl
def k30:Zf:=fun P f fn s c=>(c.veiled==(fn.params.toList++s.plain.varTypes P++fn.resultTypes.toList).any (P.veiledRec ·))
theorem fact30:Kf k30=true:=by kernel_rfl
def k31:Zf:=fun P f fn s c=>c.veiledFits P fn.params.toList (fn.params.toList++s.plain.varTypes P++fn.resultTypes.toList)
theorem fact31:Kf k31=true:=by kernel_rfl
end Go.Proofs.YtbgbahlipnaflaaGreat.reverseInverse
end
section
namespace Go.Proofs.YtbgbahlipnaflaaGreat.reverseInverse
open Go.ChangeShapes Go.WideShapes Go.ChangeAt Go.RowKit Go.Abs
theorem own:ownKnob Tryz.prog.godebug=none:=by kernel_rfl
theorem laidOk:laidOutB Tryz.prog=true:=by kernel_rfl
theorem reads78:Tryz.prog.readableRec 78=true∧78<Tryz.prog.types.size:=⟨by kernel_rfl,of_decide_eq_true ia⟩
set_option maxRecDepth 100000 in
theorem contract (H:Type)(enc:TypeId × Value→H)(W:World)(base:Nat)(args:Array Value)(ds gs:List (DataW H))(before:List MemPlace)
  (hval:∀ (j:Nat) t v,Tryz.f4.params[j]?=some t→args[j]?=some v→Value.okWide Tryz.prog W .any base t v)
  (hW:DataW.Whole enc Tryz.prog Tryz.f4.params.toList Rows.reverseInverseSpec.vars false W args.toList ds gs before) (hk:Rows.uptoSmall H (ds++gs)=true) :
  Calls Tryz.prog 4 args W fun e W'=>∃ v,e=.returned v∧Rows.reverseInverseSpec.post enc Tryz.prog Tryz.f4 false true false false W args v W':=by
 have hW':=hW;obtain ⟨p,q,hA0,hV,rfl,hfz,hnd⟩:=hW;have hA:DataW.TrodAll enc Tryz.prog W 0 (fun _=>true) true Tryz.f4.params.toList args.toList ds p:=hA0;rw [Tryz.params4] at hA hval;obtain ⟨v0,vs0,d0,ds0,p0,q0,hargs,rfl,rfl,h0,r0⟩:=trodAll_cons hA;obtain ⟨rfl,rfl,rfl⟩:=trodAll_nil r0;obtain rfl:args=#[v0]:=by cases args;simp_all
 obtain ⟨rfl,rfl⟩:=trodVars_none hV;have hb:=bulks.bound hk;obtain ⟨d,gd,rd⟩:=T1 (bulk:=Rows.uptoBulk) (B:=1048576) Tryz.underlying78 (ajC bulks.ok) (hval 0 78 v0 rfl rfl) h0 (hb _ (by simp));have hp:=(A3 d).2 Tf W [v0] (fun _ h=>h.elim) (uT rd);refine hp.mono fun e W' ⟨v,he,hv,hbl⟩=>⟨v,he,?_⟩;cases hv
 refine Lx laidOk (fun t ht=>?_) rfl hW' (fun _ _ _=>trodAll_cons_mk (shut_bool Tryz.underlying4 _) trodAll_mk0) rfl rfl hbl (ok_one ia rfl (okWide_bool_mk Tryz.underlying4 _));rw [Tryz.params4] at ht;simp at ht;subst ht;exact reads78
set_option maxRecDepth 100000 in
theorem lifted (os:Os)(started:os.Started)(H:Type)(enc:TypeId × Value→H)(F:Stop.Interp) :
  ReturnsInHanded {} Tryz.checked os 4 .any ((Rows.OpenSpec.upto Rows.reverseInverseSpec).pre6 enc Tryz.prog Tryz.f4 Rows.reverseInverseUptoRow.domain false) (((Rows.OpenSpec.upto Rows.reverseInverseSpec).at F).post enc Tryz.prog Tryz.f4 false true false false):=by
 refine returnsInHanded_of_cond (C:=Tryz.checked) (s:=Rows.OpenSpec.upto Rows.reverseInverseSpec) (k:=Rows.uptoSmall) rfl own started ia Tryz.func4
  (OpenSpec.witness (enc:=enc) (C:=Tryz.checked) (s:=Rows.OpenSpec.upto Rows.reverseInverseSpec) (k:=Rows.uptoSmall) rfl false ⟨#[],#[.agg #[.slice none 0 0,.slice none 0 0,.slice none 0 0,.slice none 0 0,.slice none 0 0,.slice none 0 0,.int .u64 0,.slice none 0 0,.slice none 0 0,.slice none 0 0,.bool false,.bool false,.int .u8 0,.int .u8 0,.int .u8 0,.int .u8 0,.slice none 0 0,.slice none 0 0,.slice none 0 0,.slice none 0 0,.slice none 0 0,.slice none 0 0,.slice none 0 0,.int .u64 0,.slice none 0 0,.slice none 0 0,.slice none 0 0,.bool false,.bool false,.int .u8 0,.int .u8 0,.int .u8 0,.int .u8 0,.slice none 0 0,.slice none 0 0]],[]⟩ 8 ia ia ia
   (x:=([.agg [.agg [.nil,.nil,.agg [.agg [.agg [.nil,.nil],.nil,.nil],.lit (.int .u64 0),.nil,.nil,.nil,.lit (.bool false),.lit (.bool false),.agg [.lit (.int .u8 0),.lit (.int .u8 0),.lit (.int .u8 0),.lit (.int .u8 0)],.nil],.agg [.nil,.nil]],.agg [.agg [.agg [.nil,.nil],.nil,.nil],.lit (.int .u64 0),.nil,.nil,.nil,.lit (.bool false),.lit (.bool false),.agg [.lit (.int .u8 0),.lit (.int .u8 0),.lit (.int .u8 0),.lit (.int .u8 0)],.nil],.nil]],[],[])) ia rfl ia) ?_
 intro W base args ds gs before hval hW _ hk _;exact contract H enc W base args ds gs before hval hW hk
theorem factsOf {P:Program}{f:FuncId}{fn:Func}{s:ChangeSpec}{c:OpenClaim}
  (h0:k0 P f fn s c=true)
  (h1:k1 P f fn s c=true)
  (h2:k2 P f fn s c=true)
  (h3:k3 P f fn s c=true)
  (h4:k4 P f fn s c=true)
  (h5:k5 P f fn s c=true)
  (h6:k6 P f fn s c=true)
  (h7:k7 P f fn s c=true)
  (h8:k8 P f fn s c=true)
  (h9:k9 P f fn s c=true)
  (h10:k10 P f fn s c=true)
  (h11:k11 P f fn s c=true)
  (h12:k12 P f fn s c=true)
  (h13:k13 P f fn s c=true)
  (h14:k14 P f fn s c=true)
  (h15:k15 P f fn s c=true)
  (h16:k16 P f fn s c=true)
  (h17:k17 P f fn s c=true)
  (h18:k18 P f fn s c=true)
  (h19:k19 P f fn s c=true)
  (h20:k20 P f fn s c=true)
  (h21:k21 P f fn s c=true)
  (h22:k22 P f fn s c=true)
  (h23:k23 P f fn s c=true)
  (h24:k24 P f fn s c=true)
  (h25:k25 P f fn s c=true)
  (Rn:k26 P f fn s c=true)
  (h27:k27 P f fn s c=true)
  (h28:k28 P f fn s c=true)
  (h29:k29 P f fn s c=true)
  (h30:k30 P f fn s c=true)
  (h31:k31 P f fn s c=true)
  : joinedFacts P f fn s c=true:=by
 unfold joinedFacts;simp only [aM];exact ⟨⟨⟨⟨⟨⟨⟨⟨⟨⟨⟨⟨⟨⟨⟨⟨⟨⟨⟨⟨⟨⟨⟨⟨⟨⟨⟨⟨⟨⟨⟨h0,h1⟩,h2⟩,h3⟩,h4⟩,h5⟩,h6⟩,h7⟩,h8⟩,h9⟩,h10⟩,h11⟩,h12⟩,h13⟩,h14⟩,h15⟩,h16⟩,h17⟩,h18⟩,h19⟩,h20⟩,h21⟩,h22⟩,h23⟩,h24⟩,h25⟩,Rn⟩,h27⟩,(by unfold k28 at h28;rw [aM] at h28;rw [if_pos h28.1];exact h28.2)⟩,h29⟩,h30⟩,h31⟩
theorem joined:joinedFacts Tryz.prog 4 Tryz.f4 (Rows.OpenSpec.upto Rows.reverseInverseSpec).bare Rows.reverseInverseUptoRow=true :=
 factsOf fact0 fact1 fact2 fact3 fact4 fact5 fact6 fact7 fact8 fact9 fact10 fact11 fact12 fact13 fact14 fact15 fact16 fact17 fact18 fact19 fact20 fact21 fact22 fact23 fact24 fact25 fact26 fact27 fact28 fact29 fact30 fact31
theorem prog0:Tryz.pinned.checked.prog=Tryz.prog:=rfl
theorem joinedP:joinedFacts Tryz.pinned.checked.prog 4 Tryz.f4 (Rows.OpenSpec.upto Rows.reverseInverseSpec).bare Rows.reverseInverseUptoRow=true:=by
 rw [prog0];exact joined
theorem named0:Tryz.pinned.checked.prog.funcNamed Rows.reverseInverseUptoRow.func=some 4:=by kernel_rfl
theorem instance0:Tryz.f4.isInstance Tryz.pinned.checked.prog Rows.reverseInverseUptoRow.origin Rows.reverseInverseUptoRow.targs:=of_decide_eq_true ia
theorem wrapper0:Tryz.f4.isWrapper Tryz.pinned.checked.prog Rows.reverseInverseUptoRow.wrapper Rows.reverseInverseUptoRow.mainSum:=by
 unfold Func.isWrapper;first|(rw [if_pos (by decide +kernel)];kernel_rfl)|(rw [if_neg (by decide +kernel)];exact ⟨rfl,rfl⟩)
theorem proved:Rows.ReverseInverseUptoSaid :=
 OpenClaim.holds_of_cond 4 Tryz.f4 rfl rfl rfl rfl rfl rfl rfl ⟨rfl,rfl,rfl,rfl,rfl⟩ rfl rfl rfl rfl rfl named0 Tryz.func4 joinedP instance0 wrapper0
  (fun os started H enc _ F=>lifted os started H enc F)
end Go.Proofs.YtbgbahlipnaflaaGreat.reverseInverse
end
