/- The closed facts that the row stepIsomorphicUptoRow asks of  -/
import Derived.Test.YthalajhajpjjeaaGreatZhX
import Derived.Test.YthalajhajpjjeaaGreatRows
import Derived.WalkKit
import Derived.ProofKit
import Derived.OpenShut
import Derived.JoinedCond
set_option linter.unusedVariables false
set_option linter.unusedSimpArgs false
section
set_option maxRecDepth 100000
namespace Go.Proofs.YthalajhajpjjeaaGreat.stepIsomorphic
open Go Go.ChangeShapes Go.WideShapes Go.ChangeAt Go.RowKit
theorem fact0:(fun (P:Program) (f:FuncId) (fn:Func) (s:ChangeSpec) (c:OpenClaim)=>((c.wf (OpenSpec.ofChange s)):Bool)) Tryz.prog 5 Tryz.f5 (Rows.OpenSpec.upto Rows.stepIsomorphicSpec).bare Rows.stepIsomorphicUptoRow=true:=by kernel_rfl
theorem fact1:(fun (P:Program) (f:FuncId) (fn:Func) (s:ChangeSpec) (c:OpenClaim)=>((laidOutB P):Bool)) Tryz.prog 5 Tryz.f5 (Rows.OpenSpec.upto Rows.stepIsomorphicSpec).bare Rows.stepIsomorphicUptoRow=true:=by kernel_rfl
theorem fact2:(fun (P:Program) (f:FuncId) (fn:Func) (s:ChangeSpec) (c:OpenClaim)=>((mapsRowed P):Bool)) Tryz.prog 5 Tryz.f5 (Rows.OpenSpec.upto Rows.stepIsomorphicSpec).bare Rows.stepIsomorphicUptoRow=true:=by kernel_rfl
theorem fact3:(fun (P:Program) (f:FuncId) (fn:Func) (s:ChangeSpec) (c:OpenClaim)=>((fn.params.all (P.readableRec ·)):Bool)) Tryz.prog 5 Tryz.f5 (Rows.OpenSpec.upto Rows.stepIsomorphicSpec).bare Rows.stepIsomorphicUptoRow=true:=by kernel_rfl
theorem fact4:(fun (P:Program) (f:FuncId) (fn:Func) (s:ChangeSpec) (c:OpenClaim)=>((namedTie P c.named s.vars):Bool)) Tryz.prog 5 Tryz.f5 (Rows.OpenSpec.upto Rows.stepIsomorphicSpec).bare Rows.stepIsomorphicUptoRow=true:=by kernel_rfl
theorem fact5:(fun (P:Program) (f:FuncId) (fn:Func) (s:ChangeSpec) (c:OpenClaim)=>(((c.stops==[])):Bool)) Tryz.prog 5 Tryz.f5 (Rows.OpenSpec.upto Rows.stepIsomorphicSpec).bare Rows.stepIsomorphicUptoRow=true:=by kernel_rfl
theorem fact6:(fun (P:Program) (f:FuncId) (fn:Func) (s:ChangeSpec) (c:OpenClaim)=>(((P.stops==[])):Bool)) Tryz.prog 5 Tryz.f5 (Rows.OpenSpec.upto Rows.stepIsomorphicSpec).bare Rows.stepIsomorphicUptoRow=true:=by kernel_rfl
theorem fact7:(fun (P:Program) (f:FuncId) (fn:Func) (s:ChangeSpec) (c:OpenClaim)=>(((c.knobs==[])):Bool)) Tryz.prog 5 Tryz.f5 (Rows.OpenSpec.upto Rows.stepIsomorphicSpec).bare Rows.stepIsomorphicUptoRow=true:=by kernel_rfl
theorem fact8:(fun (P:Program) (f:FuncId) (fn:Func) (s:ChangeSpec) (c:OpenClaim)=>(((P.stopKnobs==[])):Bool)) Tryz.prog 5 Tryz.f5 (Rows.OpenSpec.upto Rows.stepIsomorphicSpec).bare Rows.stepIsomorphicUptoRow=true:=by kernel_rfl
theorem fact9:(fun (P:Program) (f:FuncId) (fn:Func) (s:ChangeSpec) (c:OpenClaim)=>(((c.inPlace==P.inPlace f)):Bool)) Tryz.prog 5 Tryz.f5 (Rows.OpenSpec.upto Rows.stepIsomorphicSpec).bare Rows.stepIsomorphicUptoRow=true:=by kernel_rfl
end Go.Proofs.YthalajhajpjjeaaGreat.stepIsomorphic
end
section
set_option maxRecDepth 100000
namespace Go.Proofs.YthalajhajpjjeaaGreat.stepIsomorphic
open Go Go.ChangeShapes Go.WideShapes Go.ChangeAt Go.RowKit
theorem fact10:(fun (P:Program) (f:FuncId) (fn:Func) (s:ChangeSpec) (c:OpenClaim)=>(((c.unfollowed==P.unfollowed f)):Bool)) Tryz.prog 5 Tryz.f5 (Rows.OpenSpec.upto Rows.stepIsomorphicSpec).bare Rows.stepIsomorphicUptoRow=true:=by kernel_rfl
theorem fact11:(fun (P:Program) (f:FuncId) (fn:Func) (s:ChangeSpec) (c:OpenClaim)=>(((c.recurses==P.recurses f)):Bool)) Tryz.prog 5 Tryz.f5 (Rows.OpenSpec.upto Rows.stepIsomorphicSpec).bare Rows.stepIsomorphicUptoRow=true:=by kernel_rfl
theorem fact12:(fun (P:Program) (f:FuncId) (fn:Func) (s:ChangeSpec) (c:OpenClaim)=>(((c.named==P.varsNamed f)):Bool)) Tryz.prog 5 Tryz.f5 (Rows.OpenSpec.upto Rows.stepIsomorphicSpec).bare Rows.stepIsomorphicUptoRow=true:=by kernel_rfl
end Go.Proofs.YthalajhajpjjeaaGreat.stepIsomorphic
end
section
set_option maxRecDepth 100000
namespace Go.Proofs.YthalajhajpjjeaaGreat.stepIsomorphic
open Go Go.ChangeShapes Go.WideShapes Go.ChangeAt Go.RowKit
theorem fact13:(fun (P:Program) (f:FuncId) (fn:Func) (s:ChangeSpec) (c:OpenClaim)=>(((c.maps==(fn.params.toList++s.plain.varTypes P).any (P.mapsRec ·))):Bool)) Tryz.prog 5 Tryz.f5 (Rows.OpenSpec.upto Rows.stepIsomorphicSpec).bare Rows.stepIsomorphicUptoRow=true:=by kernel_rfl
theorem fact14:(fun (P:Program) (f:FuncId) (fn:Func) (s:ChangeSpec) (c:OpenClaim)=>(((c.ifaces==(fn.params.toList++s.plain.varTypes P).any (P.ifacesRec ·))):Bool)) Tryz.prog 5 Tryz.f5 (Rows.OpenSpec.upto Rows.stepIsomorphicSpec).bare Rows.stepIsomorphicUptoRow=true:=by kernel_rfl
theorem fact15:(fun (P:Program) (f:FuncId) (fn:Func) (s:ChangeSpec) (c:OpenClaim)=>(((c.mapsOut==P.mapsAmong fn.resultTypes.toList)):Bool)) Tryz.prog 5 Tryz.f5 (Rows.OpenSpec.upto Rows.stepIsomorphicSpec).bare Rows.stepIsomorphicUptoRow=true:=by kernel_rfl
theorem fact16:(fun (P:Program) (f:FuncId) (fn:Func) (s:ChangeSpec) (c:OpenClaim)=>(((c.loops==(fn.params.toList++s.plain.varTypes P).any (P.loopsFrom ·))):Bool)) Tryz.prog 5 Tryz.f5 (Rows.OpenSpec.upto Rows.stepIsomorphicSpec).bare Rows.stepIsomorphicUptoRow=true:=by kernel_rfl
theorem fact17:(fun (P:Program) (f:FuncId) (fn:Func) (s:ChangeSpec) (c:OpenClaim)=>(((c.wideKeys==(fn.params.toList++s.plain.varTypes P++fn.resultTypes.toList).any (P.wideKeysFrom ·))):Bool)) Tryz.prog 5 Tryz.f5 (Rows.OpenSpec.upto Rows.stepIsomorphicSpec).bare Rows.stepIsomorphicUptoRow=true:=by kernel_rfl
theorem fact18:(fun (P:Program) (f:FuncId) (fn:Func) (s:ChangeSpec) (c:OpenClaim)=>((s.vars.all (P.varReadable ·)):Bool)) Tryz.prog 5 Tryz.f5 (Rows.OpenSpec.upto Rows.stepIsomorphicSpec).bare Rows.stepIsomorphicUptoRow=true:=by kernel_rfl
theorem fact19:(fun (P:Program) (f:FuncId) (fn:Func) (s:ChangeSpec) (c:OpenClaim)=>((fn.resultTypes.all (fun t=>P.readableRec t&&decide (t<P.types.size))):Bool)) Tryz.prog 5 Tryz.f5 (Rows.OpenSpec.upto Rows.stepIsomorphicSpec).bare Rows.stepIsomorphicUptoRow=true:=by kernel_rfl
theorem fact20:(fun (P:Program) (f:FuncId) (fn:Func) (s:ChangeSpec) (c:OpenClaim)=>(((c.ifacesOut==fn.resultTypes.toList.any (P.ifacesRec ·))):Bool)) Tryz.prog 5 Tryz.f5 (Rows.OpenSpec.upto Rows.stepIsomorphicSpec).bare Rows.stepIsomorphicUptoRow=true:=by kernel_rfl
theorem fact21:(fun (P:Program) (f:FuncId) (fn:Func) (s:ChangeSpec) (c:OpenClaim)=>(((c.loopsOut==fn.resultTypes.toList.any (P.loopsFrom ·))):Bool)) Tryz.prog 5 Tryz.f5 (Rows.OpenSpec.upto Rows.stepIsomorphicSpec).bare Rows.stepIsomorphicUptoRow=true:=by kernel_rfl
theorem fact22:(fun (P:Program) (f:FuncId) (fn:Func) (s:ChangeSpec) (c:OpenClaim)=>(((c.plainKeys==P.plainKeys)):Bool)) Tryz.prog 5 Tryz.f5 (Rows.OpenSpec.upto Rows.stepIsomorphicSpec).bare Rows.stepIsomorphicUptoRow=true:=by kernel_rfl
theorem fact23:(fun (P:Program) (f:FuncId) (fn:Func) (s:ChangeSpec) (c:OpenClaim)=>((c.shortTexts.isNone):Bool)) Tryz.prog 5 Tryz.f5 (Rows.OpenSpec.upto Rows.stepIsomorphicSpec).bare Rows.stepIsomorphicUptoRow=true:=by kernel_rfl
theorem fact24:(fun (P:Program) (f:FuncId) (fn:Func) (s:ChangeSpec) (c:OpenClaim)=>((P.stopsHeard):Bool)) Tryz.prog 5 Tryz.f5 (Rows.OpenSpec.upto Rows.stepIsomorphicSpec).bare Rows.stepIsomorphicUptoRow=true:=by kernel_rfl
end Go.Proofs.YthalajhajpjjeaaGreat.stepIsomorphic
end
section
set_option maxRecDepth 100000
namespace Go.Proofs.YthalajhajpjjeaaGreat.stepIsomorphic
open Go Go.ChangeShapes Go.WideShapes Go.ChangeAt Go.RowKit
theorem fact25:(fun (P:Program) (f:FuncId) (fn:Func) (s:ChangeSpec) (c:OpenClaim)=>((P.mayEnter):Bool)) Tryz.prog 5 Tryz.f5 (Rows.OpenSpec.upto Rows.stepIsomorphicSpec).bare Rows.stepIsomorphicUptoRow=true:=by kernel_rfl
theorem fact26:(fun (P:Program) (f:FuncId) (fn:Func) (s:ChangeSpec) (c:OpenClaim)=>(((c.lifted==P.liftsFinal)):Bool)) Tryz.prog 5 Tryz.f5 (Rows.OpenSpec.upto Rows.stepIsomorphicSpec).bare Rows.stepIsomorphicUptoRow=true:=by kernel_rfl
theorem fact27:(fun (P:Program) (f:FuncId) (fn:Func) (s:ChangeSpec) (c:OpenClaim)=>(((P.make==some c.make)):Bool)) Tryz.prog 5 Tryz.f5 (Rows.OpenSpec.upto Rows.stepIsomorphicSpec).bare Rows.stepIsomorphicUptoRow=true:=by kernel_rfl
theorem fact28:(fun (P:Program) (f:FuncId) (fn:Func) (s:ChangeSpec) (c:OpenClaim)=>(((c.domain.isEmpty&&(c.kinds==[]))):Bool)) Tryz.prog 5 Tryz.f5 (Rows.OpenSpec.upto Rows.stepIsomorphicSpec).bare Rows.stepIsomorphicUptoRow=true:=by kernel_rfl
theorem fact29:(fun (P:Program) (f:FuncId) (fn:Func) (s:ChangeSpec) (c:OpenClaim)=>(((c.pinned==c.pinnedBy)):Bool)) Tryz.prog 5 Tryz.f5 (Rows.OpenSpec.upto Rows.stepIsomorphicSpec).bare Rows.stepIsomorphicUptoRow=true:=by kernel_rfl
theorem fact30:(fun (P:Program) (f:FuncId) (fn:Func) (s:ChangeSpec) (c:OpenClaim)=>(((c.veiled==(fn.params.toList++s.plain.varTypes P++fn.resultTypes.toList).any (P.veiledRec ·))):Bool)) Tryz.prog 5 Tryz.f5 (Rows.OpenSpec.upto Rows.stepIsomorphicSpec).bare Rows.stepIsomorphicUptoRow=true:=by kernel_rfl
theorem fact31:(fun (P:Program) (f:FuncId) (fn:Func) (s:ChangeSpec) (c:OpenClaim)=>((c.veiledFits P fn.params.toList (fn.params.toList++s.plain.varTypes P++fn.resultTypes.toList)):Bool)) Tryz.prog 5 Tryz.f5 (Rows.OpenSpec.upto Rows.stepIsomorphicSpec).bare Rows.stepIsomorphicUptoRow=true:=by kernel_rfl
end Go.Proofs.YthalajhajpjjeaaGreat.stepIsomorphic
end
section
namespace Go.Proofs.YthalajhajpjjeaaGreat.stepIsomorphic
open Go.ChangeShapes Go.WideShapes Go.ChangeAt Go.RowKit Go.Abs
theorem own:ownKnob Tryz.prog.godebug=none:=by kernel_rfl
theorem laidOk:laidOutB Tryz.prog=true:=by kernel_rfl
theorem reads62:Tryz.prog.readableRec 62=true∧62<Tryz.prog.types.size:=⟨by kernel_rfl,of_decide_eq_true (by kernel_rfl)⟩
theorem reads76:Tryz.prog.readableRec 76=true∧76<Tryz.prog.types.size:=⟨by kernel_rfl,of_decide_eq_true (by kernel_rfl)⟩
set_option maxRecDepth 100000 in
theorem contract (H:Type)(enc:TypeId × Value→H)(W:World)(base:Nat)(args:Array Value)(ds gs:List (DataW H))(before:List MemPlace)
  (hval:∀ (j:Nat) t v,Tryz.f5.params[j]?=some t→args[j]?=some v→Value.okWide Tryz.prog W .any base t v)
  (hW:DataW.Whole enc Tryz.prog Tryz.f5.params.toList Rows.stepIsomorphicSpec.vars false W args.toList ds gs before) (hk:Rows.uptoSmall H (ds++gs)=true) :
  Calls Tryz.prog 5 args W fun e W'=>∃ v,e=.returned v∧Rows.stepIsomorphicSpec.post enc Tryz.prog Tryz.f5 false true false false W args v W':=by
 have hW':=hW
 obtain ⟨p,q,hA0,hV,rfl,hfz,hnd⟩:=hW
 have hA:DataW.TrodAll enc Tryz.prog W 0 (fun _=>true) true Tryz.f5.params.toList args.toList ds p:=hA0
 rw [Tryz.params5] at hA hval
 obtain ⟨v0,vs0,d0,ds0,p0,q0,hargs,rfl,rfl,h0,r0⟩:=trodAll_cons hA
 obtain ⟨v1,vs1,d1,ds1,p1,q1,rfl,rfl,rfl,h1,r1⟩:=trodAll_cons r0
 obtain ⟨rfl,rfl,rfl⟩:=trodAll_nil r1
 obtain rfl:args=#[v0,v1]:=by cases args;simp_all
 obtain ⟨rfl,rfl⟩:=trodVars_none hV
 have hb:=bulks.bound hk
 obtain ⟨d,gd,rd⟩:=PP (bulk:=Rows.uptoBulk) (B:=1048576) Tryz.underlying76 (abR bulks.ok) (hval 0 76 v0 rfl rfl) h0 (hb _ (by simp))
 obtain ⟨l,gl,rl⟩:=R7 (bulk:=Rows.uptoBulk) (B:=1048576) (c:=fun l:List UInt8=>D.list (l.map cU)) Tryz.underlying62 (Um bulks.ok) (hval 1 62 v1 rfl rfl) h1 (hb _ (by simp))
 have hp:=(yQ d l).2 N3 W [v0,v1] (fun _ h=>h.elim) (FR (pV rd) (pV rl))
 refine hp.mono fun e W' ⟨v,he,hv,hbl⟩=>⟨v,he,?_⟩
 cases hv
 refine HX laidOk (fun t ht=>?_) rfl hW' (fun _ _ _=>trodAll_cons_mk (shut_bool Tryz.underlying4 _) trodAll_mk0) rfl rfl hbl (ok_one (by kernel_rfl) rfl (okWide_bool_mk Tryz.underlying4 _))
 rw [Tryz.params5] at ht
 simp at ht
 rcases ht with rfl|rfl
 ·exact reads76
 ·exact reads62
set_option maxRecDepth 100000 in
theorem lifted (os:Os)(started:os.Started)(H:Type)(enc:TypeId × Value→H)(F:Stop.Interp) :
  ReturnsInHanded {} Tryz.checked os 5 .any ((Rows.OpenSpec.upto Rows.stepIsomorphicSpec).pre6 enc Tryz.prog Tryz.f5 Rows.stepIsomorphicUptoRow.domain false) (((Rows.OpenSpec.upto Rows.stepIsomorphicSpec).at F).post enc Tryz.prog Tryz.f5 false true false false):=by
 refine returnsInHanded_of_cond (C:=Tryz.checked) (s:=Rows.OpenSpec.upto Rows.stepIsomorphicSpec) (k:=Rows.uptoSmall) rfl own started (by kernel_rfl) Tryz.func5
  (OpenSpec.witness (enc:=enc) (C:=Tryz.checked) (s:=Rows.OpenSpec.upto Rows.stepIsomorphicSpec) (k:=Rows.uptoSmall) rfl false ⟨#[],#[.agg #[.slice none 0 0,.slice none 0 0,.slice none 0 0,.slice none 0 0,.slice none 0 0,.slice none 0 0,.int .u64 0,.slice none 0 0,.slice none 0 0,.slice none 0 0,.bool false,.bool false,.int .u8 0,.int .u8 0,.int .u8 0,.int .u8 0,.slice none 0 0,.slice none 0 0,.slice none 0 0],.slice none 0 0],[]⟩ 8 (by kernel_rfl) (by kernel_rfl) (by kernel_rfl)
   (x:=([.agg [.nil,.nil,.agg [.agg [.agg [.nil,.nil],.nil,.nil],.lit (.int .u64 0),.nil,.nil,.nil,.lit (.bool false),.lit (.bool false),.agg [.lit (.int .u8 0),.lit (.int .u8 0),.lit (.int .u8 0),.lit (.int .u8 0)],.nil],.agg [.nil,.nil]],.nil],[],[])) (by kernel_rfl) rfl (by kernel_rfl)) ?_
 intro W base args ds gs before hval hW _ hk _
 exact contract H enc W base args ds gs before hval hW hk
theorem factsOf {P:Program}{f:FuncId}{fn:Func}{s:ChangeSpec}{c:OpenClaim}
  (h0:(c.wf (OpenSpec.ofChange s))=true)
  (h1:(laidOutB P)=true)
  (h2:(mapsRowed P)=true)
  (h3:(fn.params.all (P.readableRec ·))=true)
  (h4:(namedTie P c.named s.vars)=true)
  (h5:((c.stops==[]))=true)
  (h6:((P.stops==[]))=true)
  (h7:((c.knobs==[]))=true)
  (h8:((P.stopKnobs==[]))=true)
  (h9:((c.inPlace==P.inPlace f))=true)
  (h10:((c.unfollowed==P.unfollowed f))=true)
  (h11:((c.recurses==P.recurses f))=true)
  (h12:((c.named==P.varsNamed f))=true)
  (h13:((c.maps==(fn.params.toList++s.plain.varTypes P).any (P.mapsRec ·)))=true)
  (h14:((c.ifaces==(fn.params.toList++s.plain.varTypes P).any (P.ifacesRec ·)))=true)
  (h15:((c.mapsOut==P.mapsAmong fn.resultTypes.toList))=true)
  (h16:((c.loops==(fn.params.toList++s.plain.varTypes P).any (P.loopsFrom ·)))=true)
  (h17:((c.wideKeys==(fn.params.toList++s.plain.varTypes P++fn.resultTypes.toList).any (P.wideKeysFrom ·)))=true)
  (h18:(s.vars.all (P.varReadable ·))=true)
  (h19:(fn.resultTypes.all (fun t=>P.readableRec t&&decide (t<P.types.size)))=true)
  (h20:((c.ifacesOut==fn.resultTypes.toList.any (P.ifacesRec ·)))=true)
  (h21:((c.loopsOut==fn.resultTypes.toList.any (P.loopsFrom ·)))=true)
  (h22:((c.plainKeys==P.plainKeys))=true)
  (h23:(c.shortTexts.isNone)=true)
  (h24:(P.stopsHeard)=true)
  (h25:(P.mayEnter)=true)
  (GO:((c.lifted==P.liftsFinal))=true)
  (h27:((P.make==some c.make))=true)
  (h28:((c.domain.isEmpty&&(c.kinds==[])))=true)
  (h29:((c.pinned==c.pinnedBy))=true)
  (h30:((c.veiled==(fn.params.toList++s.plain.varTypes P++fn.resultTypes.toList).any (P.veiledRec ·)))=true)
  (h31:(c.veiledFits P fn.params.toList (fn.params.toList++s.plain.varTypes P++fn.resultTypes.toList))=true)
  : joinedFacts P f fn s c=true:=by
 unfold joinedFacts
 simp only [aN]
 exact ⟨⟨⟨⟨⟨⟨⟨⟨⟨⟨⟨⟨⟨⟨⟨⟨⟨⟨⟨⟨⟨⟨⟨⟨⟨⟨⟨⟨⟨⟨⟨h0,h1⟩,h2⟩,h3⟩,h4⟩,h5⟩,h6⟩,h7⟩,h8⟩,h9⟩,h10⟩,h11⟩,h12⟩,h13⟩,h14⟩,h15⟩,h16⟩,h17⟩,h18⟩,h19⟩,h20⟩,h21⟩,h22⟩,h23⟩,h24⟩,h25⟩,GO⟩,h27⟩,(by rw [aN] at h28;rw [if_pos h28.1];exact h28.2)⟩,h29⟩,h30⟩,h31⟩
theorem joined:joinedFacts Tryz.prog 5 Tryz.f5 (Rows.OpenSpec.upto Rows.stepIsomorphicSpec).bare Rows.stepIsomorphicUptoRow=true :=
 factsOf fact0 fact1 fact2 fact3 fact4 fact5 fact6 fact7 fact8 fact9 fact10 fact11 fact12 fact13 fact14 fact15 fact16 fact17 fact18 fact19 fact20 fact21 fact22 fact23 fact24 fact25 fact26 fact27 fact28 fact29 fact30 fact31
theorem prog0:Tryz.pinned.checked.prog=Tryz.prog:=rfl
theorem joinedP:joinedFacts Tryz.pinned.checked.prog 5 Tryz.f5 (Rows.OpenSpec.upto Rows.stepIsomorphicSpec).bare Rows.stepIsomorphicUptoRow=true:=by
 rw [prog0];exact joined
theorem named0:Tryz.pinned.checked.prog.funcNamed Rows.stepIsomorphicUptoRow.func=some 5:=by kernel_rfl
theorem instance0:Tryz.f5.isInstance Tryz.pinned.checked.prog Rows.stepIsomorphicUptoRow.origin Rows.stepIsomorphicUptoRow.targs:=of_decide_eq_true (by kernel_rfl)
theorem wrapper0:Tryz.f5.isWrapper Tryz.pinned.checked.prog Rows.stepIsomorphicUptoRow.wrapper Rows.stepIsomorphicUptoRow.mainSum:=by
 unfold Func.isWrapper
 first|(rw [if_pos (by decide +kernel)];kernel_rfl)|(rw [if_neg (by decide +kernel)];exact ⟨rfl,rfl⟩)
theorem proved:Rows.StepIsomorphicUptoSaid :=
 OpenClaim.holds_of_cond 5 Tryz.f5 rfl rfl rfl rfl rfl rfl rfl ⟨rfl,rfl,rfl,rfl,rfl⟩ rfl rfl rfl rfl rfl named0 Tryz.func5 joinedP instance0 wrapper0
  (fun os started H enc _ F=>lifted os started H enc F)
end Go.Proofs.YthalajhajpjjeaaGreat.stepIsomorphic
end
