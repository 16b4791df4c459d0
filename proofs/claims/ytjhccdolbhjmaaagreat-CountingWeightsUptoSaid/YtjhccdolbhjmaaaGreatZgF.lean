/- Facts about the types and results of the seat's program, pri -/
import Derived.Test.YtjhccdolbhjmaaaGreatZgE
import Derived.Test.YtjhccdolbhjmaaaGreatProg
set_option linter.unusedVariables false
set_option linter.unusedSimpArgs false
section
namespace Go.Abs
theorem mkI (J : Nat → Env → AHeap → Prop) : ∃ I : Nat → Env → AHeap → Prop, ∀ (i : Nat) (e : Env) (H : AHeap), I i e H ↔ J i e H := ⟨J, fun _ _ _ => Iff.rfl⟩
end Go.Abs
set_option maxRecDepth 100000
open Go Go.Proofs Go.Abs
namespace Go.Abs.Tz
@[go_sem] theorem tk3 : tk Tryz.prog 3 = .one := rfl
@[go_sem] theorem zd3 : zd Tryz.prog 3 = some [.int .i64 (0)] := rfl
@[go_sem] theorem intK3 : intK Tryz.prog 3 = some .i64 := rfl
@[go_sem] theorem info3 : (Tryz.prog.info? 3).isSome = true := rfl
@[go_sem] theorem cells3 : Tryz.prog.cellsOf 3 = 1 := rfl
attribute [go_sem] Tryz.underlying3
@[go_sem] theorem tk4 : tk Tryz.prog 4 = .one := rfl
@[go_sem] theorem zd4 : zd Tryz.prog 4 = some [.bool false] := rfl
@[go_sem] theorem info4 : (Tryz.prog.info? 4).isSome = true := rfl
@[go_sem] theorem cells4 : Tryz.prog.cellsOf 4 = 1 := rfl
attribute [go_sem] Tryz.underlying4
@[go_sem] theorem tk5 : tk Tryz.prog 5 = .one := rfl
@[go_sem] theorem zd5 : zd Tryz.prog 5 = some [.int .u8 (0)] := rfl
@[go_sem] theorem intK5 : intK Tryz.prog 5 = some .u8 := rfl
@[go_sem] theorem info5 : (Tryz.prog.info? 5).isSome = true := rfl
@[go_sem] theorem cells5 : Tryz.prog.cellsOf 5 = 1 := rfl
attribute [go_sem] Tryz.underlying5
@[go_sem] theorem tk9 : tk Tryz.prog 9 = .one := rfl
@[go_sem] theorem zd9 : zd Tryz.prog 9 = some [.str ⟨#[]⟩] := rfl
@[go_sem] theorem info9 : (Tryz.prog.info? 9).isSome = true := rfl
@[go_sem] theorem cells9 : Tryz.prog.cellsOf 9 = 1 := rfl
attribute [go_sem] Tryz.underlying9
@[go_sem] theorem tk22 : tk Tryz.prog 22 = .one := rfl
@[go_sem] theorem sl22 : sl Tryz.prog 22 = some ⟨98, 4, 56, [.str ⟨#[]⟩, .int .i64 (0), .bool false, .nil]⟩ := rfl
@[go_sem] theorem zd22 : zd Tryz.prog 22 = some [.nil] := rfl
@[go_sem] theorem info22 : (Tryz.prog.info? 22).isSome = true := rfl
@[go_sem] theorem cells22 : Tryz.prog.cellsOf 22 = 1 := rfl
attribute [go_sem] Tryz.underlying22
@[go_sem] theorem tk23 : tk Tryz.prog 23 = .one := rfl
@[go_sem] theorem sl23 : sl Tryz.prog 23 = some ⟨103, 7, 64, [.str ⟨#[]⟩, .int .i64 (0), .int .i64 (0), .int .i64 (0), .int .i64 (0), .int .i64 (0), .int .i64 (0)]⟩ := rfl
@[go_sem] theorem zd23 : zd Tryz.prog 23 = some [.nil] := rfl
@[go_sem] theorem info23 : (Tryz.prog.info? 23).isSome = true := rfl
@[go_sem] theorem cells23 : Tryz.prog.cellsOf 23 = 1 := rfl
attribute [go_sem] Tryz.underlying23
@[go_sem] theorem tk25 : tk Tryz.prog 25 = .agg 2 := rfl
@[go_sem] theorem zd25 : zd Tryz.prog 25 = some [.nil, .nil] := rfl
@[go_sem] theorem bk25 : bk Tryz.prog 25 = some (.st [(0, 1), (1, 1)]) := rfl
@[go_sem] theorem info25 : (Tryz.prog.info? 25).isSome = true := rfl
@[go_sem] theorem cells25 : Tryz.prog.cellsOf 25 = 2 := rfl
attribute [go_sem] Tryz.underlying25
@[go_sem] theorem tk26 : tk Tryz.prog 26 = .one := rfl
@[go_sem] theorem sl26 : sl Tryz.prog 26 = some ⟨74, 25, 512, [.str ⟨#[]⟩, .nil, .nil, .nil, .int .i64 (0), .nil, .nil, .nil, .nil, .int .i64 (0), .nil, .nil, .nil, .nil, .nil, .bool false, .int .i64 (0), .nil, .nil, .nil, .nil, .nil, .nil, .int .i64 (0), .nil]⟩ := rfl
@[go_sem] theorem zd26 : zd Tryz.prog 26 = some [.nil] := rfl
@[go_sem] theorem info26 : (Tryz.prog.info? 26).isSome = true := rfl
@[go_sem] theorem cells26 : Tryz.prog.cellsOf 26 = 1 := rfl
attribute [go_sem] Tryz.underlying26
@[go_sem] theorem tk27 : tk Tryz.prog 27 = .one := rfl
@[go_sem] theorem sl27 : sl Tryz.prog 27 = some ⟨33, 2, 48, [.nil, .nil]⟩ := rfl
@[go_sem] theorem zd27 : zd Tryz.prog 27 = some [.nil] := rfl
@[go_sem] theorem info27 : (Tryz.prog.info? 27).isSome = true := rfl
@[go_sem] theorem cells27 : Tryz.prog.cellsOf 27 = 1 := rfl
attribute [go_sem] Tryz.underlying27
@[go_sem] theorem tk31 : tk Tryz.prog 31 = .one := rfl
@[go_sem] theorem sl31 : sl Tryz.prog 31 = some ⟨3, 1, 8, [.int .i64 (0)]⟩ := rfl
@[go_sem] theorem zd31 : zd Tryz.prog 31 = some [.nil] := rfl
@[go_sem] theorem info31 : (Tryz.prog.info? 31).isSome = true := rfl
@[go_sem] theorem cells31 : Tryz.prog.cellsOf 31 = 1 := rfl
attribute [go_sem] Tryz.underlying31
@[go_sem] theorem tk33 : tk Tryz.prog 33 = .agg 2 := rfl
@[go_sem] theorem zd33 : zd Tryz.prog 33 = some [.nil, .nil] := rfl
@[go_sem] theorem bk33 : bk Tryz.prog 33 = some (.st [(0, 1), (1, 1)]) := rfl
@[go_sem] theorem info33 : (Tryz.prog.info? 33).isSome = true := rfl
@[go_sem] theorem cells33 : Tryz.prog.cellsOf 33 = 2 := rfl
attribute [go_sem] Tryz.underlying33
@[go_sem] theorem tk34 : tk Tryz.prog 34 = .one := rfl
@[go_sem] theorem zd34 : zd Tryz.prog 34 = some [.nilf] := rfl
@[go_sem] theorem info34 : (Tryz.prog.info? 34).isSome = true := rfl
@[go_sem] theorem cells34 : Tryz.prog.cellsOf 34 = 1 := rfl
attribute [go_sem] Tryz.underlying34
@[go_sem] theorem tk37 : tk Tryz.prog 37 = .one := rfl
@[go_sem] theorem sl37 : sl Tryz.prog 37 = some ⟨146, 3, 24, [.int .i64 (0), .int .i64 (0), .int .i64 (0)]⟩ := rfl
@[go_sem] theorem zd37 : zd Tryz.prog 37 = some [.nil] := rfl
@[go_sem] theorem info37 : (Tryz.prog.info? 37).isSome = true := rfl
@[go_sem] theorem cells37 : Tryz.prog.cellsOf 37 = 1 := rfl
attribute [go_sem] Tryz.underlying37
@[go_sem] theorem tk39 : tk Tryz.prog 39 = .agg 2 := rfl
@[go_sem] theorem zd39 : zd Tryz.prog 39 = some [.nil, .nil] := rfl
@[go_sem] theorem bk39 : bk Tryz.prog 39 = some (.st [(0, 1), (1, 1)]) := rfl
@[go_sem] theorem info39 : (Tryz.prog.info? 39).isSome = true := rfl
@[go_sem] theorem cells39 : Tryz.prog.cellsOf 39 = 2 := rfl
attribute [go_sem] Tryz.underlying39
@[go_sem] theorem tk41 : tk Tryz.prog 41 = .one := rfl
@[go_sem] theorem zd41 : zd Tryz.prog 41 = some [.int .i64 (0)] := rfl
@[go_sem] theorem intK41 : intK Tryz.prog 41 = some .i64 := rfl
@[go_sem] theorem info41 : (Tryz.prog.info? 41).isSome = true := rfl
@[go_sem] theorem cells41 : Tryz.prog.cellsOf 41 = 1 := rfl
attribute [go_sem] Tryz.underlying41
@[go_sem] theorem tk42 : tk Tryz.prog 42 = .one := rfl
@[go_sem] theorem info42 : (Tryz.prog.info? 42).isSome = true := rfl
@[go_sem] theorem cells42 : Tryz.prog.cellsOf 42 = 1 := rfl
attribute [go_sem] Tryz.underlying42
@[go_sem] theorem tk46 : tk Tryz.prog 46 = .one := rfl
@[go_sem] theorem sl46 : sl Tryz.prog 46 = some ⟨149, 2, 2, [.int .u8 (0), .int .u8 (0)]⟩ := rfl
@[go_sem] theorem zd46 : zd Tryz.prog 46 = some [.nil] := rfl
@[go_sem] theorem info46 : (Tryz.prog.info? 46).isSome = true := rfl
@[go_sem] theorem cells46 : Tryz.prog.cellsOf 46 = 1 := rfl
attribute [go_sem] Tryz.underlying46
@[go_sem] theorem tk47 : tk Tryz.prog 47 = .one := rfl
@[go_sem] theorem sl47 : sl Tryz.prog 47 = some ⟨160, 15, 208, [.nil, .nil, .nil, .nil, .int .u64 (0), .nil, .nil, .nil, .bool false, .bool false, .int .u8 (0), .int .u8 (0), .int .u8 (0), .int .u8 (0), .nil]⟩ := rfl
@[go_sem] theorem zd47 : zd Tryz.prog 47 = some [.nil] := rfl
@[go_sem] theorem info47 : (Tryz.prog.info? 47).isSome = true := rfl
@[go_sem] theorem cells47 : Tryz.prog.cellsOf 47 = 1 := rfl
attribute [go_sem] Tryz.underlying47
@[go_sem] theorem tk48 : tk Tryz.prog 48 = .one := rfl
@[go_sem] theorem sl48 : sl Tryz.prog 48 = some ⟨164, 3, 3, [.int .u8 (0), .int .u8 (0), .int .u8 (0)]⟩ := rfl
@[go_sem] theorem zd48 : zd Tryz.prog 48 = some [.nil] := rfl
@[go_sem] theorem info48 : (Tryz.prog.info? 48).isSome = true := rfl
@[go_sem] theorem cells48 : Tryz.prog.cellsOf 48 = 1 := rfl
attribute [go_sem] Tryz.underlying48
@[go_sem] theorem tk50 : tk Tryz.prog 50 = .agg 2 := rfl
@[go_sem] theorem zd50 : zd Tryz.prog 50 = some [.nil, .nil] := rfl
@[go_sem] theorem bk50 : bk Tryz.prog 50 = some (.st [(0, 1), (1, 1)]) := rfl
@[go_sem] theorem info50 : (Tryz.prog.info? 50).isSome = true := rfl
@[go_sem] theorem cells50 : Tryz.prog.cellsOf 50 = 2 := rfl
attribute [go_sem] Tryz.underlying50
@[go_sem] theorem tk52 : tk Tryz.prog 52 = .agg 5 := rfl
@[go_sem] theorem zd52 : zd Tryz.prog 52 = some [.nil, .nil, .nil, .nil, .nil] := rfl
@[go_sem] theorem bk52 : bk Tryz.prog 52 = some (.st [(0, 1), (1, 1), (2, 1), (3, 2)]) := rfl
@[go_sem] theorem info52 : (Tryz.prog.info? 52).isSome = true := rfl
@[go_sem] theorem cells52 : Tryz.prog.cellsOf 52 = 5 := rfl
attribute [go_sem] Tryz.underlying52
@[go_sem] theorem tk53 : tk Tryz.prog 53 = .one := rfl
@[go_sem] theorem sl53 : sl Tryz.prog 53 = some ⟨31, 1, 24, [.nil]⟩ := rfl
@[go_sem] theorem zd53 : zd Tryz.prog 53 = some [.nil] := rfl
@[go_sem] theorem info53 : (Tryz.prog.info? 53).isSome = true := rfl
@[go_sem] theorem cells53 : Tryz.prog.cellsOf 53 = 1 := rfl
attribute [go_sem] Tryz.underlying53
@[go_sem] theorem tk55 : tk Tryz.prog 55 = .agg 3 := rfl
@[go_sem] theorem zd55 : zd Tryz.prog 55 = some [.nil, .nil, .nil] := rfl
@[go_sem] theorem bk55 : bk Tryz.prog 55 = some (.st [(0, 2), (2, 1)]) := rfl
@[go_sem] theorem info55 : (Tryz.prog.info? 55).isSome = true := rfl
@[go_sem] theorem cells55 : Tryz.prog.cellsOf 55 = 3 := rfl
attribute [go_sem] Tryz.underlying55
@[go_sem] theorem tk56 : tk Tryz.prog 56 = .one := rfl
@[go_sem] theorem info56 : (Tryz.prog.info? 56).isSome = true := rfl
@[go_sem] theorem cells56 : Tryz.prog.cellsOf 56 = 1 := rfl
attribute [go_sem] Tryz.underlying56
@[go_sem] theorem tk59 : tk Tryz.prog 59 = .one := rfl
@[go_sem] theorem info59 : (Tryz.prog.info? 59).isSome = true := rfl
@[go_sem] theorem cells59 : Tryz.prog.cellsOf 59 = 1 := rfl
attribute [go_sem] Tryz.underlying59
@[go_sem] theorem tk63 : tk Tryz.prog 63 = .one := rfl
@[go_sem] theorem sl63 : sl Tryz.prog 63 = some ⟨245, 4, 32, [.int .i64 (0), .int .i64 (0), .int .i64 (0), .int .i64 (0)]⟩ := rfl
@[go_sem] theorem zd63 : zd Tryz.prog 63 = some [.nil] := rfl
@[go_sem] theorem info63 : (Tryz.prog.info? 63).isSome = true := rfl
@[go_sem] theorem cells63 : Tryz.prog.cellsOf 63 = 1 := rfl
attribute [go_sem] Tryz.underlying63
@[go_sem] theorem tk64 : tk Tryz.prog 64 = .one := rfl
@[go_sem] theorem sl64 : sl Tryz.prog 64 = some ⟨268, 5, 40, [.int .i64 (0), .int .i64 (0), .int .i64 (0), .int .i64 (0), .int .i64 (0)]⟩ := rfl
@[go_sem] theorem zd64 : zd Tryz.prog 64 = some [.nil] := rfl
@[go_sem] theorem info64 : (Tryz.prog.info? 64).isSome = true := rfl
@[go_sem] theorem cells64 : Tryz.prog.cellsOf 64 = 1 := rfl
attribute [go_sem] Tryz.underlying64
@[go_sem] theorem tk66 : tk Tryz.prog 66 = .agg 5 := rfl
@[go_sem] theorem zd66 : zd Tryz.prog 66 = some [.nil, .nil, .nil, .int .i64 (0), .nil] := rfl
@[go_sem] theorem bk66 : bk Tryz.prog 66 = some (.st [(0, 2), (2, 1), (3, 1), (4, 1)]) := rfl
@[go_sem] theorem info66 : (Tryz.prog.info? 66).isSome = true := rfl
@[go_sem] theorem cells66 : Tryz.prog.cellsOf 66 = 5 := rfl
attribute [go_sem] Tryz.underlying66
@[go_sem] theorem tk68 : tk Tryz.prog 68 = .agg 2 := rfl
@[go_sem] theorem zd68 : zd Tryz.prog 68 = some [.nil, .nil] := rfl
@[go_sem] theorem bk68 : bk Tryz.prog 68 = some (.st [(0, 1), (1, 1)]) := rfl
@[go_sem] theorem info68 : (Tryz.prog.info? 68).isSome = true := rfl
@[go_sem] theorem cells68 : Tryz.prog.cellsOf 68 = 2 := rfl
attribute [go_sem] Tryz.underlying68
@[go_sem] theorem tk69 : tk Tryz.prog 69 = .agg 2 := rfl
@[go_sem] theorem zd69 : zd Tryz.prog 69 = some [.nil, .nil] := rfl
@[go_sem] theorem bk69 : bk Tryz.prog 69 = some (.st [(0, 1), (1, 1)]) := rfl
@[go_sem] theorem info69 : (Tryz.prog.info? 69).isSome = true := rfl
@[go_sem] theorem cells69 : Tryz.prog.cellsOf 69 = 2 := rfl
attribute [go_sem] Tryz.underlying69
@[go_sem] theorem tk70 : tk Tryz.prog 70 = .one := rfl
@[go_sem] theorem sl70 : sl Tryz.prog 70 = some ⟨72, 9, 184, [.int .i64 (0), .nil, .nil, .nil, .nil, .nil, .nil, .int .i64 (0), .nil]⟩ := rfl
@[go_sem] theorem zd70 : zd Tryz.prog 70 = some [.nil] := rfl
@[go_sem] theorem info70 : (Tryz.prog.info? 70).isSome = true := rfl
@[go_sem] theorem cells70 : Tryz.prog.cellsOf 70 = 1 := rfl
attribute [go_sem] Tryz.underlying70
@[go_sem] theorem tk72 : tk Tryz.prog 72 = .agg 9 := rfl
@[go_sem] theorem zd72 : zd Tryz.prog 72 = some [.int .i64 (0), .nil, .nil, .nil, .nil, .nil, .nil, .int .i64 (0), .nil] := rfl
@[go_sem] theorem bk72 : bk Tryz.prog 72 = some (.st [(0, 1), (1, 1), (2, 2), (4, 5)]) := rfl
@[go_sem] theorem info72 : (Tryz.prog.info? 72).isSome = true := rfl
@[go_sem] theorem cells72 : Tryz.prog.cellsOf 72 = 9 := rfl
attribute [go_sem] Tryz.underlying72
@[go_sem] theorem tk74 : tk Tryz.prog 74 = .agg 25 := rfl
@[go_sem] theorem zd74 : zd Tryz.prog 74 = some [.str ⟨#[]⟩, .nil, .nil, .nil, .int .i64 (0), .nil, .nil, .nil, .nil, .int .i64 (0), .nil, .nil, .nil, .nil, .nil, .bool false, .int .i64 (0), .nil, .nil, .nil, .nil, .nil, .nil, .int .i64 (0), .nil] := rfl
@[go_sem] theorem bk74 : bk Tryz.prog 74 = some (.st [(0, 1), (1, 5), (6, 5), (11, 2), (13, 2), (15, 1), (16, 9)]) := rfl
@[go_sem] theorem info74 : (Tryz.prog.info? 74).isSome = true := rfl
@[go_sem] theorem cells74 : Tryz.prog.cellsOf 74 = 25 := rfl
attribute [go_sem] Tryz.underlying74
@[go_sem] theorem tk76 : tk Tryz.prog 76 = .one := rfl
@[go_sem] theorem sl76 : sl Tryz.prog 76 = some ⟨81, 38, 824, [.str ⟨#[]⟩, .nil, .nil, .nil, .int .i64 (0), .nil, .nil, .nil, .nil, .int .i64 (0), .nil, .nil, .nil, .nil, .nil, .bool false, .int .i64 (0), .nil, .nil, .nil, .nil, .nil, .nil, .int .i64 (0), .nil, .nil, .nil, .nil, .nil, .nil, .nil, .nil, .nil, .nil, .nil, .nil, .nil, .nil]⟩ := rfl
@[go_sem] theorem zd76 : zd Tryz.prog 76 = some [.nil] := rfl
@[go_sem] theorem info76 : (Tryz.prog.info? 76).isSome = true := rfl
@[go_sem] theorem cells76 : Tryz.prog.cellsOf 76 = 1 := rfl
attribute [go_sem] Tryz.underlying76
@[go_sem] theorem tk79 : tk Tryz.prog 79 = .agg 3 := rfl
@[go_sem] theorem zd79 : zd Tryz.prog 79 = some [.nil, .nil, .nil] := rfl
@[go_sem] theorem bk79 : bk Tryz.prog 79 = some (.st [(0, 2), (2, 1)]) := rfl
@[go_sem] theorem info79 : (Tryz.prog.info? 79).isSome = true := rfl
@[go_sem] theorem cells79 : Tryz.prog.cellsOf 79 = 3 := rfl
attribute [go_sem] Tryz.underlying79
@[go_sem] theorem tk81 : tk Tryz.prog 81 = .agg 38 := rfl
@[go_sem] theorem zd81 : zd Tryz.prog 81 = some [.str ⟨#[]⟩, .nil, .nil, .nil, .int .i64 (0), .nil, .nil, .nil, .nil, .int .i64 (0), .nil, .nil, .nil, .nil, .nil, .bool false, .int .i64 (0), .nil, .nil, .nil, .nil, .nil, .nil, .int .i64 (0), .nil, .nil, .nil, .nil, .nil, .nil, .nil, .nil, .nil, .nil, .nil, .nil, .nil, .nil] := rfl
@[go_sem] theorem bk81 : bk Tryz.prog 81 = some (.st [(0, 25), (25, 3), (28, 3), (31, 3), (34, 2), (36, 2)]) := rfl
@[go_sem] theorem info81 : (Tryz.prog.info? 81).isSome = true := rfl
@[go_sem] theorem cells81 : Tryz.prog.cellsOf 81 = 38 := rfl
attribute [go_sem] Tryz.underlying81
@[go_sem] theorem tk86 : tk Tryz.prog 86 = .one := rfl
@[go_sem] theorem info86 : (Tryz.prog.info? 86).isSome = true := rfl
@[go_sem] theorem cells86 : Tryz.prog.cellsOf 86 = 1 := rfl
attribute [go_sem] Tryz.underlying86
@[go_sem] theorem tk88 : tk Tryz.prog 88 = .one := rfl
@[go_sem] theorem sl88 : sl Tryz.prog 88 = some ⟨4, 1, 1, [.bool false]⟩ := rfl
@[go_sem] theorem zd88 : zd Tryz.prog 88 = some [.nil] := rfl
@[go_sem] theorem info88 : (Tryz.prog.info? 88).isSome = true := rfl
@[go_sem] theorem cells88 : Tryz.prog.cellsOf 88 = 1 := rfl
attribute [go_sem] Tryz.underlying88
@[go_sem] theorem tk93 : tk Tryz.prog 93 = .one := rfl
@[go_sem] theorem zd93 : zd Tryz.prog 93 = some [.nilf] := rfl
@[go_sem] theorem info93 : (Tryz.prog.info? 93).isSome = true := rfl
@[go_sem] theorem cells93 : Tryz.prog.cellsOf 93 = 1 := rfl
attribute [go_sem] Tryz.underlying93
@[go_sem] theorem tk96 : tk Tryz.prog 96 = .one := rfl
@[go_sem] theorem sl96 : sl Tryz.prog 96 = some ⟨101, 4, 56, [.str ⟨#[]⟩, .int .i64 (0), .int .i64 (0), .nil]⟩ := rfl
@[go_sem] theorem zd96 : zd Tryz.prog 96 = some [.nil] := rfl
@[go_sem] theorem info96 : (Tryz.prog.info? 96).isSome = true := rfl
@[go_sem] theorem cells96 : Tryz.prog.cellsOf 96 = 1 := rfl
attribute [go_sem] Tryz.underlying96
@[go_sem] theorem tk98 : tk Tryz.prog 98 = .agg 4 := rfl
@[go_sem] theorem zd98 : zd Tryz.prog 98 = some [.str ⟨#[]⟩, .int .i64 (0), .bool false, .nil] := rfl
@[go_sem] theorem bk98 : bk Tryz.prog 98 = some (.st [(0, 1), (1, 1), (2, 1), (3, 1)]) := rfl
@[go_sem] theorem info98 : (Tryz.prog.info? 98).isSome = true := rfl
@[go_sem] theorem cells98 : Tryz.prog.cellsOf 98 = 4 := rfl
attribute [go_sem] Tryz.underlying98
@[go_sem] theorem tk99 : tk Tryz.prog 99 = .one := rfl
@[go_sem] theorem sl99 : sl Tryz.prog 99 = some ⟨9, 1, 16, [.str ⟨#[]⟩]⟩ := rfl
@[go_sem] theorem zd99 : zd Tryz.prog 99 = some [.nil] := rfl
@[go_sem] theorem info99 : (Tryz.prog.info? 99).isSome = true := rfl
@[go_sem] theorem cells99 : Tryz.prog.cellsOf 99 = 1 := rfl
attribute [go_sem] Tryz.underlying99
@[go_sem] theorem tk101 : tk Tryz.prog 101 = .agg 4 := rfl
@[go_sem] theorem zd101 : zd Tryz.prog 101 = some [.str ⟨#[]⟩, .int .i64 (0), .int .i64 (0), .nil] := rfl
@[go_sem] theorem bk101 : bk Tryz.prog 101 = some (.st [(0, 1), (1, 1), (2, 1), (3, 1)]) := rfl
@[go_sem] theorem info101 : (Tryz.prog.info? 101).isSome = true := rfl
@[go_sem] theorem cells101 : Tryz.prog.cellsOf 101 = 4 := rfl
attribute [go_sem] Tryz.underlying101
@[go_sem] theorem tk103 : tk Tryz.prog 103 = .agg 7 := rfl
@[go_sem] theorem zd103 : zd Tryz.prog 103 = some [.str ⟨#[]⟩, .int .i64 (0), .int .i64 (0), .int .i64 (0), .int .i64 (0), .int .i64 (0), .int .i64 (0)] := rfl
@[go_sem] theorem bk103 : bk Tryz.prog 103 = some (.st [(0, 1), (1, 1), (2, 1), (3, 1), (4, 1), (5, 1), (6, 1)]) := rfl
@[go_sem] theorem info103 : (Tryz.prog.info? 103).isSome = true := rfl
@[go_sem] theorem cells103 : Tryz.prog.cellsOf 103 = 7 := rfl
attribute [go_sem] Tryz.underlying103
@[go_sem] theorem tk104 : tk Tryz.prog 104 = .one := rfl
@[go_sem] theorem sl104 : sl Tryz.prog 104 = some ⟨144, 4, 32, [.int .i64 (0), .int .i64 (0), .int .i64 (0), .int .i64 (0)]⟩ := rfl
@[go_sem] theorem zd104 : zd Tryz.prog 104 = some [.nil] := rfl
@[go_sem] theorem info104 : (Tryz.prog.info? 104).isSome = true := rfl
@[go_sem] theorem cells104 : Tryz.prog.cellsOf 104 = 1 := rfl
attribute [go_sem] Tryz.underlying104
@[go_sem] theorem tk106 : tk Tryz.prog 106 = .agg 2 := rfl
@[go_sem] theorem zd106 : zd Tryz.prog 106 = some [.nil, .nil] := rfl
@[go_sem] theorem bk106 : bk Tryz.prog 106 = some (.st [(0, 1), (1, 1)]) := rfl
@[go_sem] theorem info106 : (Tryz.prog.info? 106).isSome = true := rfl
@[go_sem] theorem cells106 : Tryz.prog.cellsOf 106 = 2 := rfl
attribute [go_sem] Tryz.underlying106
@[go_sem] theorem tk107 : tk Tryz.prog 107 = .one := rfl
@[go_sem] theorem info107 : (Tryz.prog.info? 107).isSome = true := rfl
@[go_sem] theorem cells107 : Tryz.prog.cellsOf 107 = 1 := rfl
attribute [go_sem] Tryz.underlying107
@[go_sem] theorem tk109 : tk Tryz.prog 109 = .one := rfl
@[go_sem] theorem info109 : (Tryz.prog.info? 109).isSome = true := rfl
@[go_sem] theorem cells109 : Tryz.prog.cellsOf 109 = 1 := rfl
attribute [go_sem] Tryz.underlying109
@[go_sem] theorem tk117 : tk Tryz.prog 117 = .one := rfl
@[go_sem] theorem zd117 : zd Tryz.prog 117 = some [.nilf] := rfl
@[go_sem] theorem info117 : (Tryz.prog.info? 117).isSome = true := rfl
@[go_sem] theorem cells117 : Tryz.prog.cellsOf 117 = 1 := rfl
attribute [go_sem] Tryz.underlying117
@[go_sem] theorem tk120 : tk Tryz.prog 120 = .one := rfl
@[go_sem] theorem zd120 : zd Tryz.prog 120 = some [.nilf] := rfl
@[go_sem] theorem info120 : (Tryz.prog.info? 120).isSome = true := rfl
@[go_sem] theorem cells120 : Tryz.prog.cellsOf 120 = 1 := rfl
attribute [go_sem] Tryz.underlying120
@[go_sem] theorem tk124 : tk Tryz.prog 124 = .one := rfl
@[go_sem] theorem info124 : (Tryz.prog.info? 124).isSome = true := rfl
@[go_sem] theorem cells124 : Tryz.prog.cellsOf 124 = 1 := rfl
attribute [go_sem] Tryz.underlying124
@[go_sem] theorem tk126 : tk Tryz.prog 126 = .one := rfl
@[go_sem] theorem info126 : (Tryz.prog.info? 126).isSome = true := rfl
@[go_sem] theorem cells126 : Tryz.prog.cellsOf 126 = 1 := rfl
attribute [go_sem] Tryz.underlying126
@[go_sem] theorem tk129 : tk Tryz.prog 129 = .one := rfl
@[go_sem] theorem sl129 : sl Tryz.prog 129 = some ⟨79, 3, 72, [.nil, .nil, .nil]⟩ := rfl
@[go_sem] theorem zd129 : zd Tryz.prog 129 = some [.nil] := rfl
@[go_sem] theorem info129 : (Tryz.prog.info? 129).isSome = true := rfl
@[go_sem] theorem cells129 : Tryz.prog.cellsOf 129 = 1 := rfl
attribute [go_sem] Tryz.underlying129
@[go_sem] theorem tk130 : tk Tryz.prog 130 = .one := rfl
@[go_sem] theorem info130 : (Tryz.prog.info? 130).isSome = true := rfl
@[go_sem] theorem cells130 : Tryz.prog.cellsOf 130 = 1 := rfl
attribute [go_sem] Tryz.underlying130
@[go_sem] theorem tk132 : tk Tryz.prog 132 = .one := rfl
@[go_sem] theorem info132 : (Tryz.prog.info? 132).isSome = true := rfl
@[go_sem] theorem cells132 : Tryz.prog.cellsOf 132 = 1 := rfl
attribute [go_sem] Tryz.underlying132
@[go_sem] theorem tk135 : tk Tryz.prog 135 = .one := rfl
@[go_sem] theorem info135 : (Tryz.prog.info? 135).isSome = true := rfl
@[go_sem] theorem cells135 : Tryz.prog.cellsOf 135 = 1 := rfl
attribute [go_sem] Tryz.underlying135
@[go_sem] theorem tk140 : tk Tryz.prog 140 = .one := rfl
@[go_sem] theorem info140 : (Tryz.prog.info? 140).isSome = true := rfl
@[go_sem] theorem cells140 : Tryz.prog.cellsOf 140 = 1 := rfl
attribute [go_sem] Tryz.underlying140
@[go_sem] theorem tk144 : tk Tryz.prog 144 = .agg 4 := rfl
@[go_sem] theorem zd144 : zd Tryz.prog 144 = some [.int .i64 (0), .int .i64 (0), .int .i64 (0), .int .i64 (0)] := rfl
@[go_sem] theorem bk144 : bk Tryz.prog 144 = some (.st [(0, 1), (1, 1), (2, 1), (3, 1)]) := rfl
@[go_sem] theorem info144 : (Tryz.prog.info? 144).isSome = true := rfl
@[go_sem] theorem cells144 : Tryz.prog.cellsOf 144 = 4 := rfl
attribute [go_sem] Tryz.underlying144
@[go_sem] theorem tk146 : tk Tryz.prog 146 = .agg 3 := rfl
@[go_sem] theorem zd146 : zd Tryz.prog 146 = some [.int .i64 (0), .int .i64 (0), .int .i64 (0)] := rfl
@[go_sem] theorem bk146 : bk Tryz.prog 146 = some (.st [(0, 1), (1, 1), (2, 1)]) := rfl
@[go_sem] theorem info146 : (Tryz.prog.info? 146).isSome = true := rfl
@[go_sem] theorem cells146 : Tryz.prog.cellsOf 146 = 3 := rfl
attribute [go_sem] Tryz.underlying146
@[go_sem] theorem tk149 : tk Tryz.prog 149 = .agg 2 := rfl
@[go_sem] theorem zd149 : zd Tryz.prog 149 = some [.int .u8 (0), .int .u8 (0)] := rfl
@[go_sem] theorem bk149 : bk Tryz.prog 149 = some (.ar 1) := rfl
@[go_sem] theorem arr149 : arr Tryz.prog 149 = some (2, 1) := rfl
@[go_sem] theorem info149 : (Tryz.prog.info? 149).isSome = true := rfl
@[go_sem] theorem cells149 : Tryz.prog.cellsOf 149 = 2 := rfl
attribute [go_sem] Tryz.underlying149
@[go_sem] theorem tk151 : tk Tryz.prog 151 = .one := rfl
@[go_sem] theorem sl151 : sl Tryz.prog 151 = some ⟨5, 1, 1, [.int .u8 (0)]⟩ := rfl
@[go_sem] theorem zd151 : zd Tryz.prog 151 = some [.nil] := rfl
@[go_sem] theorem info151 : (Tryz.prog.info? 151).isSome = true := rfl
@[go_sem] theorem cells151 : Tryz.prog.cellsOf 151 = 1 := rfl
attribute [go_sem] Tryz.underlying151
@[go_sem] theorem tk153 : tk Tryz.prog 153 = .agg 2 := rfl
@[go_sem] theorem zd153 : zd Tryz.prog 153 = some [.nil, .nil] := rfl
@[go_sem] theorem bk153 : bk Tryz.prog 153 = some (.st [(0, 1), (1, 1)]) := rfl
@[go_sem] theorem info153 : (Tryz.prog.info? 153).isSome = true := rfl
@[go_sem] theorem cells153 : Tryz.prog.cellsOf 153 = 2 := rfl
attribute [go_sem] Tryz.underlying153
@[go_sem] theorem tk154 : tk Tryz.prog 154 = .one := rfl
@[go_sem] theorem sl154 : sl Tryz.prog 154 = some ⟨271, 4, 4, [.int .i8 (0), .int .i8 (0), .int .i8 (0), .int .i8 (0)]⟩ := rfl
@[go_sem] theorem zd154 : zd Tryz.prog 154 = some [.nil] := rfl
@[go_sem] theorem info154 : (Tryz.prog.info? 154).isSome = true := rfl
@[go_sem] theorem cells154 : Tryz.prog.cellsOf 154 = 1 := rfl
attribute [go_sem] Tryz.underlying154
@[go_sem] theorem tk156 : tk Tryz.prog 156 = .agg 4 := rfl
@[go_sem] theorem zd156 : zd Tryz.prog 156 = some [.nil, .nil, .nil, .nil] := rfl
@[go_sem] theorem bk156 : bk Tryz.prog 156 = some (.st [(0, 2), (2, 1), (3, 1)]) := rfl
@[go_sem] theorem info156 : (Tryz.prog.info? 156).isSome = true := rfl
@[go_sem] theorem cells156 : Tryz.prog.cellsOf 156 = 4 := rfl
attribute [go_sem] Tryz.underlying156
@[go_sem] theorem tk157 : tk Tryz.prog 157 = .one := rfl
@[go_sem] theorem zd157 : zd Tryz.prog 157 = some [.int .u64 (0)] := rfl
@[go_sem] theorem intK157 : intK Tryz.prog 157 = some .u64 := rfl
@[go_sem] theorem info157 : (Tryz.prog.info? 157).isSome = true := rfl
@[go_sem] theorem cells157 : Tryz.prog.cellsOf 157 = 1 := rfl
attribute [go_sem] Tryz.underlying157
@[go_sem] theorem tk158 : tk Tryz.prog 158 = .agg 4 := rfl
@[go_sem] theorem zd158 : zd Tryz.prog 158 = some [.int .u8 (0), .int .u8 (0), .int .u8 (0), .int .u8 (0)] := rfl
@[go_sem] theorem bk158 : bk Tryz.prog 158 = some (.ar 1) := rfl
@[go_sem] theorem arr158 : arr Tryz.prog 158 = some (4, 1) := rfl
@[go_sem] theorem info158 : (Tryz.prog.info? 158).isSome = true := rfl
@[go_sem] theorem cells158 : Tryz.prog.cellsOf 158 = 4 := rfl
attribute [go_sem] Tryz.underlying158
@[go_sem] theorem tk160 : tk Tryz.prog 160 = .agg 15 := rfl
@[go_sem] theorem zd160 : zd Tryz.prog 160 = some [.nil, .nil, .nil, .nil, .int .u64 (0), .nil, .nil, .nil, .bool false, .bool false, .int .u8 (0), .int .u8 (0), .int .u8 (0), .int .u8 (0), .nil] := rfl
@[go_sem] theorem bk160 : bk Tryz.prog 160 = some (.st [(0, 4), (4, 1), (5, 1), (6, 1), (7, 1), (8, 1), (9, 1), (10, 4), (14, 1)]) := rfl
@[go_sem] theorem info160 : (Tryz.prog.info? 160).isSome = true := rfl
@[go_sem] theorem cells160 : Tryz.prog.cellsOf 160 = 15 := rfl
attribute [go_sem] Tryz.underlying160
@[go_sem] theorem tk162 : tk Tryz.prog 162 = .one := rfl
@[go_sem] theorem info162 : (Tryz.prog.info? 162).isSome = true := rfl
@[go_sem] theorem cells162 : Tryz.prog.cellsOf 162 = 1 := rfl
attribute [go_sem] Tryz.underlying162
@[go_sem] theorem tk164 : tk Tryz.prog 164 = .agg 3 := rfl
@[go_sem] theorem zd164 : zd Tryz.prog 164 = some [.int .u8 (0), .int .u8 (0), .int .u8 (0)] := rfl
@[go_sem] theorem bk164 : bk Tryz.prog 164 = some (.ar 1) := rfl
@[go_sem] theorem arr164 : arr Tryz.prog 164 = some (3, 1) := rfl
@[go_sem] theorem info164 : (Tryz.prog.info? 164).isSome = true := rfl
@[go_sem] theorem cells164 : Tryz.prog.cellsOf 164 = 3 := rfl
attribute [go_sem] Tryz.underlying164
@[go_sem] theorem tk167 : tk Tryz.prog 167 = .one := rfl
@[go_sem] theorem zd167 : zd Tryz.prog 167 = some [.nilp] := rfl
@[go_sem] theorem info167 : (Tryz.prog.info? 167).isSome = true := rfl
@[go_sem] theorem cells167 : Tryz.prog.cellsOf 167 = 1 := rfl
attribute [go_sem] Tryz.underlying167
@[go_sem] theorem tk169 : tk Tryz.prog 169 = .agg 7 := rfl
@[go_sem] theorem zd169 : zd Tryz.prog 169 = some [.nil, .nil, .nil, .int .i64 (0), .nil, .int .i64 (0), .int .i64 (0)] := rfl
@[go_sem] theorem bk169 : bk Tryz.prog 169 = some (.st [(0, 1), (1, 1), (2, 1), (3, 1), (4, 1), (5, 1), (6, 1)]) := rfl
@[go_sem] theorem info169 : (Tryz.prog.info? 169).isSome = true := rfl
@[go_sem] theorem cells169 : Tryz.prog.cellsOf 169 = 7 := rfl
attribute [go_sem] Tryz.underlying169
@[go_sem] theorem tk175 : tk Tryz.prog 175 = .one := rfl
@[go_sem] theorem info175 : (Tryz.prog.info? 175).isSome = true := rfl
@[go_sem] theorem cells175 : Tryz.prog.cellsOf 175 = 1 := rfl
attribute [go_sem] Tryz.underlying175
@[go_sem] theorem tk177 : tk Tryz.prog 177 = .one := rfl
@[go_sem] theorem info177 : (Tryz.prog.info? 177).isSome = true := rfl
@[go_sem] theorem cells177 : Tryz.prog.cellsOf 177 = 1 := rfl
attribute [go_sem] Tryz.underlying177
@[go_sem] theorem tk182 : tk Tryz.prog 182 = .one := rfl
@[go_sem] theorem info182 : (Tryz.prog.info? 182).isSome = true := rfl
@[go_sem] theorem cells182 : Tryz.prog.cellsOf 182 = 1 := rfl
attribute [go_sem] Tryz.underlying182
@[go_sem] theorem tk187 : tk Tryz.prog 187 = .one := rfl
@[go_sem] theorem zd187 : zd Tryz.prog 187 = some [.nilf] := rfl
@[go_sem] theorem info187 : (Tryz.prog.info? 187).isSome = true := rfl
@[go_sem] theorem cells187 : Tryz.prog.cellsOf 187 = 1 := rfl
attribute [go_sem] Tryz.underlying187
@[go_sem] theorem tk190 : tk Tryz.prog 190 = .one := rfl
@[go_sem] theorem info190 : (Tryz.prog.info? 190).isSome = true := rfl
@[go_sem] theorem cells190 : Tryz.prog.cellsOf 190 = 1 := rfl
attribute [go_sem] Tryz.underlying190
@[go_sem] theorem tk193 : tk Tryz.prog 193 = .one := rfl
@[go_sem] theorem info193 : (Tryz.prog.info? 193).isSome = true := rfl
@[go_sem] theorem cells193 : Tryz.prog.cellsOf 193 = 1 := rfl
attribute [go_sem] Tryz.underlying193
@[go_sem] theorem tk198 : tk Tryz.prog 198 = .one := rfl
@[go_sem] theorem info198 : (Tryz.prog.info? 198).isSome = true := rfl
@[go_sem] theorem cells198 : Tryz.prog.cellsOf 198 = 1 := rfl
attribute [go_sem] Tryz.underlying198
@[go_sem] theorem tk200 : tk Tryz.prog 200 = .one := rfl
@[go_sem] theorem zd200 : zd Tryz.prog 200 = some [.nilf] := rfl
@[go_sem] theorem info200 : (Tryz.prog.info? 200).isSome = true := rfl
@[go_sem] theorem cells200 : Tryz.prog.cellsOf 200 = 1 := rfl
attribute [go_sem] Tryz.underlying200
@[go_sem] theorem tk209 : tk Tryz.prog 209 = .one := rfl
@[go_sem] theorem info209 : (Tryz.prog.info? 209).isSome = true := rfl
@[go_sem] theorem cells209 : Tryz.prog.cellsOf 209 = 1 := rfl
attribute [go_sem] Tryz.underlying209
@[go_sem] theorem tk213 : tk Tryz.prog 213 = .one := rfl
@[go_sem] theorem info213 : (Tryz.prog.info? 213).isSome = true := rfl
@[go_sem] theorem cells213 : Tryz.prog.cellsOf 213 = 1 := rfl
attribute [go_sem] Tryz.underlying213
@[go_sem] theorem tk227 : tk Tryz.prog 227 = .one := rfl
@[go_sem] theorem sl227 : sl Tryz.prog 227 = some ⟨69, 2, 48, [.nil, .nil]⟩ := rfl
@[go_sem] theorem zd227 : zd Tryz.prog 227 = some [.nil] := rfl
@[go_sem] theorem info227 : (Tryz.prog.info? 227).isSome = true := rfl
@[go_sem] theorem cells227 : Tryz.prog.cellsOf 227 = 1 := rfl
attribute [go_sem] Tryz.underlying227
@[go_sem] theorem tk228 : tk Tryz.prog 228 = .one := rfl
@[go_sem] theorem info228 : (Tryz.prog.info? 228).isSome = true := rfl
@[go_sem] theorem cells228 : Tryz.prog.cellsOf 228 = 1 := rfl
attribute [go_sem] Tryz.underlying228
@[go_sem] theorem tk235 : tk Tryz.prog 235 = .one := rfl
@[go_sem] theorem info235 : (Tryz.prog.info? 235).isSome = true := rfl
@[go_sem] theorem cells235 : Tryz.prog.cellsOf 235 = 1 := rfl
attribute [go_sem] Tryz.underlying235
@[go_sem] theorem tk243 : tk Tryz.prog 243 = .agg 2 := rfl
@[go_sem] theorem zd243 : zd Tryz.prog 243 = some [.int .i64 (0), .int .i64 (0)] := rfl
@[go_sem] theorem bk243 : bk Tryz.prog 243 = some (.st [(0, 1), (1, 1)]) := rfl
@[go_sem] theorem info243 : (Tryz.prog.info? 243).isSome = true := rfl
@[go_sem] theorem cells243 : Tryz.prog.cellsOf 243 = 2 := rfl
attribute [go_sem] Tryz.underlying243
@[go_sem] theorem tk245 : tk Tryz.prog 245 = .agg 4 := rfl
@[go_sem] theorem zd245 : zd Tryz.prog 245 = some [.int .i64 (0), .int .i64 (0), .int .i64 (0), .int .i64 (0)] := rfl
@[go_sem] theorem bk245 : bk Tryz.prog 245 = some (.st [(0, 1), (1, 1), (2, 2)]) := rfl
@[go_sem] theorem info245 : (Tryz.prog.info? 245).isSome = true := rfl
@[go_sem] theorem cells245 : Tryz.prog.cellsOf 245 = 4 := rfl
attribute [go_sem] Tryz.underlying245
@[go_sem] theorem tk250 : tk Tryz.prog 250 = .one := rfl
@[go_sem] theorem zd250 : zd Tryz.prog 250 = some [.nilf] := rfl
@[go_sem] theorem info250 : (Tryz.prog.info? 250).isSome = true := rfl
@[go_sem] theorem cells250 : Tryz.prog.cellsOf 250 = 1 := rfl
attribute [go_sem] Tryz.underlying250
@[go_sem] theorem tk253 : tk Tryz.prog 253 = .one := rfl
@[go_sem] theorem info253 : (Tryz.prog.info? 253).isSome = true := rfl
@[go_sem] theorem cells253 : Tryz.prog.cellsOf 253 = 1 := rfl
attribute [go_sem] Tryz.underlying253
@[go_sem] theorem tk258 : tk Tryz.prog 258 = .one := rfl
@[go_sem] theorem zd258 : zd Tryz.prog 258 = some [.nilf] := rfl
@[go_sem] theorem info258 : (Tryz.prog.info? 258).isSome = true := rfl
@[go_sem] theorem cells258 : Tryz.prog.cellsOf 258 = 1 := rfl
attribute [go_sem] Tryz.underlying258
@[go_sem] theorem tk260 : tk Tryz.prog 260 = .one := rfl
@[go_sem] theorem zd260 : zd Tryz.prog 260 = some [.int .u64 (0)] := rfl
@[go_sem] theorem intK260 : intK Tryz.prog 260 = some .u64 := rfl
@[go_sem] theorem info260 : (Tryz.prog.info? 260).isSome = true := rfl
@[go_sem] theorem cells260 : Tryz.prog.cellsOf 260 = 1 := rfl
attribute [go_sem] Tryz.underlying260
@[go_sem] theorem tk265 : tk Tryz.prog 265 = .one := rfl
@[go_sem] theorem sl265 : sl Tryz.prog 265 = some ⟨266, 2, 16, [.int .i64 (0), .int .i64 (0)]⟩ := rfl
@[go_sem] theorem zd265 : zd Tryz.prog 265 = some [.nil] := rfl
@[go_sem] theorem info265 : (Tryz.prog.info? 265).isSome = true := rfl
@[go_sem] theorem cells265 : Tryz.prog.cellsOf 265 = 1 := rfl
attribute [go_sem] Tryz.underlying265
@[go_sem] theorem tk266 : tk Tryz.prog 266 = .agg 2 := rfl
@[go_sem] theorem zd266 : zd Tryz.prog 266 = some [.int .i64 (0), .int .i64 (0)] := rfl
@[go_sem] theorem bk266 : bk Tryz.prog 266 = some (.ar 1) := rfl
@[go_sem] theorem arr266 : arr Tryz.prog 266 = some (2, 1) := rfl
@[go_sem] theorem info266 : (Tryz.prog.info? 266).isSome = true := rfl
@[go_sem] theorem cells266 : Tryz.prog.cellsOf 266 = 2 := rfl
attribute [go_sem] Tryz.underlying266
@[go_sem] theorem tk268 : tk Tryz.prog 268 = .agg 5 := rfl
@[go_sem] theorem zd268 : zd Tryz.prog 268 = some [.int .i64 (0), .int .i64 (0), .int .i64 (0), .int .i64 (0), .int .i64 (0)] := rfl
@[go_sem] theorem bk268 : bk Tryz.prog 268 = some (.st [(0, 1), (1, 2), (3, 2)]) := rfl
@[go_sem] theorem info268 : (Tryz.prog.info? 268).isSome = true := rfl
@[go_sem] theorem cells268 : Tryz.prog.cellsOf 268 = 5 := rfl
attribute [go_sem] Tryz.underlying268
@[go_sem] theorem tk270 : tk Tryz.prog 270 = .one := rfl
@[go_sem] theorem zd270 : zd Tryz.prog 270 = some [.int .i8 (0)] := rfl
@[go_sem] theorem intK270 : intK Tryz.prog 270 = some .i8 := rfl
@[go_sem] theorem info270 : (Tryz.prog.info? 270).isSome = true := rfl
@[go_sem] theorem cells270 : Tryz.prog.cellsOf 270 = 1 := rfl
attribute [go_sem] Tryz.underlying270
@[go_sem] theorem tk271 : tk Tryz.prog 271 = .agg 4 := rfl
@[go_sem] theorem zd271 : zd Tryz.prog 271 = some [.int .i8 (0), .int .i8 (0), .int .i8 (0), .int .i8 (0)] := rfl
@[go_sem] theorem bk271 : bk Tryz.prog 271 = some (.ar 1) := rfl
@[go_sem] theorem arr271 : arr Tryz.prog 271 = some (4, 1) := rfl
@[go_sem] theorem info271 : (Tryz.prog.info? 271).isSome = true := rfl
@[go_sem] theorem cells271 : Tryz.prog.cellsOf 271 = 4 := rfl
attribute [go_sem] Tryz.underlying271
@[go_sem] theorem tk285 : tk Tryz.prog 285 = .one := rfl
@[go_sem] theorem sl285 : sl Tryz.prog 285 = some ⟨324, 2, 16, [.int .i64 (0), .int .i64 (0)]⟩ := rfl
@[go_sem] theorem zd285 : zd Tryz.prog 285 = some [.nil] := rfl
@[go_sem] theorem info285 : (Tryz.prog.info? 285).isSome = true := rfl
@[go_sem] theorem cells285 : Tryz.prog.cellsOf 285 = 1 := rfl
attribute [go_sem] Tryz.underlying285
@[go_sem] theorem tk288 : tk Tryz.prog 288 = .one := rfl
@[go_sem] theorem sl288 : sl Tryz.prog 288 = some ⟨290, 5, 104, [.int .i64 (0), .nil, .nil, .nil, .nil]⟩ := rfl
@[go_sem] theorem zd288 : zd Tryz.prog 288 = some [.nil] := rfl
@[go_sem] theorem info288 : (Tryz.prog.info? 288).isSome = true := rfl
@[go_sem] theorem cells288 : Tryz.prog.cellsOf 288 = 1 := rfl
attribute [go_sem] Tryz.underlying288
@[go_sem] theorem tk290 : tk Tryz.prog 290 = .agg 5 := rfl
@[go_sem] theorem zd290 : zd Tryz.prog 290 = some [.int .i64 (0), .nil, .nil, .nil, .nil] := rfl
@[go_sem] theorem bk290 : bk Tryz.prog 290 = some (.st [(0, 1), (1, 3), (4, 1)]) := rfl
@[go_sem] theorem info290 : (Tryz.prog.info? 290).isSome = true := rfl
@[go_sem] theorem cells290 : Tryz.prog.cellsOf 290 = 5 := rfl
attribute [go_sem] Tryz.underlying290
@[go_sem] theorem tk291 : tk Tryz.prog 291 = .one := rfl
@[go_sem] theorem info291 : (Tryz.prog.info? 291).isSome = true := rfl
@[go_sem] theorem cells291 : Tryz.prog.cellsOf 291 = 1 := rfl
attribute [go_sem] Tryz.underlying291
@[go_sem] theorem tk295 : tk Tryz.prog 295 = .agg 3 := rfl
@[go_sem] theorem zd295 : zd Tryz.prog 295 = some [.int .i64 (0), .str ⟨#[]⟩, .int .i64 (0)] := rfl
@[go_sem] theorem bk295 : bk Tryz.prog 295 = some (.st [(0, 1), (1, 1), (2, 1)]) := rfl
@[go_sem] theorem info295 : (Tryz.prog.info? 295).isSome = true := rfl
@[go_sem] theorem cells295 : Tryz.prog.cellsOf 295 = 3 := rfl
attribute [go_sem] Tryz.underlying295
@[go_sem] theorem tk298 : tk Tryz.prog 298 = .one := rfl
@[go_sem] theorem info298 : (Tryz.prog.info? 298).isSome = true := rfl
@[go_sem] theorem cells298 : Tryz.prog.cellsOf 298 = 1 := rfl
attribute [go_sem] Tryz.underlying298
@[go_sem] theorem tk305 : tk Tryz.prog 305 = .one := rfl
@[go_sem] theorem zd305 : zd Tryz.prog 305 = some [.nilf] := rfl
@[go_sem] theorem info305 : (Tryz.prog.info? 305).isSome = true := rfl
@[go_sem] theorem cells305 : Tryz.prog.cellsOf 305 = 1 := rfl
attribute [go_sem] Tryz.underlying305
@[go_sem] theorem tk308 : tk Tryz.prog 308 = .one := rfl
@[go_sem] theorem zd308 : zd Tryz.prog 308 = some [.nilf] := rfl
@[go_sem] theorem info308 : (Tryz.prog.info? 308).isSome = true := rfl
@[go_sem] theorem cells308 : Tryz.prog.cellsOf 308 = 1 := rfl
attribute [go_sem] Tryz.underlying308
@[go_sem] theorem tk314 : tk Tryz.prog 314 = .one := rfl
@[go_sem] theorem info314 : (Tryz.prog.info? 314).isSome = true := rfl
@[go_sem] theorem cells314 : Tryz.prog.cellsOf 314 = 1 := rfl
attribute [go_sem] Tryz.underlying314
@[go_sem] theorem tk318 : tk Tryz.prog 318 = .one := rfl
@[go_sem] theorem zd318 : zd Tryz.prog 318 = some [.nilp] := rfl
@[go_sem] theorem info318 : (Tryz.prog.info? 318).isSome = true := rfl
@[go_sem] theorem cells318 : Tryz.prog.cellsOf 318 = 1 := rfl
attribute [go_sem] Tryz.underlying318
@[go_sem] theorem tk320 : tk Tryz.prog 320 = .agg 11 := rfl
@[go_sem] theorem zd320 : zd Tryz.prog 320 = some [.nil, .nil, .nil, .nil, .nil, .nil, .nil, .nil, .bool false, .int .i64 (0), .nil] := rfl
@[go_sem] theorem bk320 : bk Tryz.prog 320 = some (.st [(0, 2), (2, 2), (4, 2), (6, 2), (8, 1), (9, 1), (10, 1)]) := rfl
@[go_sem] theorem info320 : (Tryz.prog.info? 320).isSome = true := rfl
@[go_sem] theorem cells320 : Tryz.prog.cellsOf 320 = 11 := rfl
attribute [go_sem] Tryz.underlying320
@[go_sem] theorem tk324 : tk Tryz.prog 324 = .agg 2 := rfl
@[go_sem] theorem zd324 : zd Tryz.prog 324 = some [.int .i64 (0), .int .i64 (0)] := rfl
@[go_sem] theorem bk324 : bk Tryz.prog 324 = some (.st [(0, 1), (1, 1)]) := rfl
@[go_sem] theorem info324 : (Tryz.prog.info? 324).isSome = true := rfl
@[go_sem] theorem cells324 : Tryz.prog.cellsOf 324 = 2 := rfl
attribute [go_sem] Tryz.underlying324
@[go_sem] theorem tk327 : tk Tryz.prog 327 = .one := rfl
@[go_sem] theorem info327 : (Tryz.prog.info? 327).isSome = true := rfl
@[go_sem] theorem cells327 : Tryz.prog.cellsOf 327 = 1 := rfl
attribute [go_sem] Tryz.underlying327
@[go_sem] theorem tk330 : tk Tryz.prog 330 = .one := rfl
@[go_sem] theorem info330 : (Tryz.prog.info? 330).isSome = true := rfl
@[go_sem] theorem cells330 : Tryz.prog.cellsOf 330 = 1 := rfl
attribute [go_sem] Tryz.underlying330
@[go_sem] theorem tk334 : tk Tryz.prog 334 = .one := rfl
@[go_sem] theorem zd334 : zd Tryz.prog 334 = some [.nilf] := rfl
@[go_sem] theorem info334 : (Tryz.prog.info? 334).isSome = true := rfl
@[go_sem] theorem cells334 : Tryz.prog.cellsOf 334 = 1 := rfl
attribute [go_sem] Tryz.underlying334
@[go_sem] theorem tk341 : tk Tryz.prog 341 = .one := rfl
@[go_sem] theorem zd341 : zd Tryz.prog 341 = some [.nilf] := rfl
@[go_sem] theorem info341 : (Tryz.prog.info? 341).isSome = true := rfl
@[go_sem] theorem cells341 : Tryz.prog.cellsOf 341 = 1 := rfl
attribute [go_sem] Tryz.underlying341
@[go_sem] theorem tk346 : tk Tryz.prog 346 = .one := rfl
@[go_sem] theorem info346 : (Tryz.prog.info? 346).isSome = true := rfl
@[go_sem] theorem cells346 : Tryz.prog.cellsOf 346 = 1 := rfl
attribute [go_sem] Tryz.underlying346
@[go_sem] theorem tk358 : tk Tryz.prog 358 = .one := rfl
@[go_sem] theorem zd358 : zd Tryz.prog 358 = some [.nilf] := rfl
@[go_sem] theorem info358 : (Tryz.prog.info? 358).isSome = true := rfl
@[go_sem] theorem cells358 : Tryz.prog.cellsOf 358 = 1 := rfl
attribute [go_sem] Tryz.underlying358
@[go_sem] theorem tk368 : tk Tryz.prog 368 = .one := rfl
@[go_sem] theorem zd368 : zd Tryz.prog 368 = some [.int .i64 (0)] := rfl
@[go_sem] theorem intK368 : intK Tryz.prog 368 = some .i64 := rfl
@[go_sem] theorem info368 : (Tryz.prog.info? 368).isSome = true := rfl
@[go_sem] theorem cells368 : Tryz.prog.cellsOf 368 = 1 := rfl
attribute [go_sem] Tryz.underlying368
@[go_sem] theorem tk369 : tk Tryz.prog 369 = .one := rfl
@[go_sem] theorem info369 : (Tryz.prog.info? 369).isSome = true := rfl
@[go_sem] theorem cells369 : Tryz.prog.cellsOf 369 = 1 := rfl
attribute [go_sem] Tryz.underlying369
@[go_sem] theorem tk375 : tk Tryz.prog 375 = .one := rfl
@[go_sem] theorem zd375 : zd Tryz.prog 375 = some [.int .u32 (0)] := rfl
@[go_sem] theorem intK375 : intK Tryz.prog 375 = some .u32 := rfl
@[go_sem] theorem info375 : (Tryz.prog.info? 375).isSome = true := rfl
@[go_sem] theorem cells375 : Tryz.prog.cellsOf 375 = 1 := rfl
attribute [go_sem] Tryz.underlying375
@[go_sem] theorem tk377 : tk Tryz.prog 377 = .one := rfl
@[go_sem] theorem zd377 : zd Tryz.prog 377 = some [.int .u64 (0)] := rfl
@[go_sem] theorem intK377 : intK Tryz.prog 377 = some .u64 := rfl
@[go_sem] theorem info377 : (Tryz.prog.info? 377).isSome = true := rfl
@[go_sem] theorem cells377 : Tryz.prog.cellsOf 377 = 1 := rfl
attribute [go_sem] Tryz.underlying377
@[go_sem] theorem tk381 : tk Tryz.prog 381 = .one := rfl
@[go_sem] theorem zd381 : zd Tryz.prog 381 = some [.nilp] := rfl
@[go_sem] theorem info381 : (Tryz.prog.info? 381).isSome = true := rfl
@[go_sem] theorem cells381 : Tryz.prog.cellsOf 381 = 1 := rfl
attribute [go_sem] Tryz.underlying381
@[go_sem] theorem tk383 : tk Tryz.prog 383 = .one := rfl
@[go_sem] theorem zd383 : zd Tryz.prog 383 = some [.nilp] := rfl
@[go_sem] theorem info383 : (Tryz.prog.info? 383).isSome = true := rfl
@[go_sem] theorem cells383 : Tryz.prog.cellsOf 383 = 1 := rfl
attribute [go_sem] Tryz.underlying383
@[go_sem] theorem res5 : Tryz.f5.results.toList = [.tmp 2] := rfl
@[go_sem] theorem res9 : Tryz.f9.results.toList = [.tmp 0] := rfl
@[go_sem] theorem res10 : Tryz.f10.results.toList = [.tmp 4] := rfl
@[go_sem] theorem res13 : Tryz.f13.results.toList = [.tmp 6] := rfl
@[go_sem] theorem res16 : Tryz.f16.results.toList = [.tmp 2] := rfl
@[go_sem] theorem res18 : Tryz.f18.results.toList = [.tmp 6, .tmp 7] := rfl
@[go_sem] theorem res20 : Tryz.f20.results.toList = [.tmp 4] := rfl
@[go_sem] theorem res21 : Tryz.f21.results.toList = [.cell 2 25, .tmp 3, .cell 4 55, .tmp 5] := rfl
@[go_sem] theorem res22 : Tryz.f22.results.toList = [.tmp 4, .tmp 5] := rfl
@[go_sem] theorem res23 : Tryz.f23.results.toList = [.tmp 4, .tmp 5] := rfl
@[go_sem] theorem res27 : Tryz.f27.results.toList = [.tmp 4] := rfl
@[go_sem] theorem res28 : Tryz.f28.results.toList = [.tmp 4] := rfl
@[go_sem] theorem res31 : Tryz.f31.results.toList = [.cell 0 25] := rfl
@[go_sem] theorem res32 : Tryz.f32.results.toList = [.tmp 0] := rfl
@[go_sem] theorem res33 : Tryz.f33.results.toList = [.tmp 2] := rfl
@[go_sem] theorem res34 : Tryz.f34.results.toList = [.tmp 4, .tmp 5] := rfl
@[go_sem] theorem res35 : Tryz.f35.results.toList = [.tmp 6] := rfl
@[go_sem] theorem res36 : Tryz.f36.results.toList = [.tmp 2] := rfl
@[go_sem] theorem res38 : Tryz.f38.results.toList = [.tmp 4, .tmp 5] := rfl
@[go_sem] theorem res39 : Tryz.f39.results.toList = [.tmp 4] := rfl
@[go_sem] theorem res40 : Tryz.f40.results.toList = [.tmp 2] := rfl
@[go_sem] theorem res41 : Tryz.f41.results.toList = [.tmp 4] := rfl
@[go_sem] theorem res42 : Tryz.f42.results.toList = [.tmp 4] := rfl
@[go_sem] theorem res44 : Tryz.f44.results.toList = [.cell 4 106, .tmp 5] := rfl
@[go_sem] theorem res45 : Tryz.f45.results.toList = [.tmp 6, .tmp 7] := rfl
@[go_sem] theorem res48 : Tryz.f48.results.toList = [.cell 4 25] := rfl
@[go_sem] theorem res49 : Tryz.f49.results.toList = [.tmp 4] := rfl
@[go_sem] theorem res50 : Tryz.f50.results.toList = [.cell 4 55] := rfl
@[go_sem] theorem res51 : Tryz.f51.results.toList = [.tmp 4] := rfl
@[go_sem] theorem res52 : Tryz.f52.results.toList = [.tmp 4] := rfl
@[go_sem] theorem res53 : Tryz.f53.results.toList = [.tmp 6] := rfl
@[go_sem] theorem res54 : Tryz.f54.results.toList = [.tmp 4] := rfl
@[go_sem] theorem res55 : Tryz.f55.results.toList = [.tmp 4] := rfl
@[go_sem] theorem res56 : Tryz.f56.results.toList = [.tmp 2] := rfl
@[go_sem] theorem res57 : Tryz.f57.results.toList = [.tmp 2] := rfl
@[go_sem] theorem res58 : Tryz.f58.results.toList = [.tmp 4] := rfl
@[go_sem] theorem res59 : Tryz.f59.results.toList = [.tmp 6] := rfl
@[go_sem] theorem res60 : Tryz.f60.results.toList = [.tmp 4, .tmp 5, .tmp 6] := rfl
@[go_sem] theorem res62 : Tryz.f62.results.toList = [.tmp 4] := rfl
@[go_sem] theorem res63 : Tryz.f63.results.toList = [.tmp 4] := rfl
@[go_sem] theorem res67 : Tryz.f67.results.toList = [.tmp 2] := rfl
@[go_sem] theorem res68 : Tryz.f68.results.toList = [.tmp 2, .tmp 3] := rfl
@[go_sem] theorem res69 : Tryz.f69.results.toList = [.tmp 4, .tmp 5] := rfl
@[go_sem] theorem res70 : Tryz.f70.results.toList = [.tmp 4, .tmp 5] := rfl
@[go_sem] theorem res71 : Tryz.f71.results.toList = [.tmp 4, .tmp 5] := rfl
@[go_sem] theorem res72 : Tryz.f72.results.toList = [.tmp 4] := rfl
@[go_sem] theorem res73 : Tryz.f73.results.toList = [.tmp 4] := rfl
@[go_sem] theorem res76 : Tryz.f76.results.toList = [.tmp 4] := rfl
@[go_sem] theorem res77 : Tryz.f77.results.toList = [.tmp 4] := rfl
@[go_sem] theorem res78 : Tryz.f78.results.toList = [.tmp 4] := rfl
@[go_sem] theorem res79 : Tryz.f79.results.toList = [.tmp 4] := rfl
@[go_sem] theorem res80 : Tryz.f80.results.toList = [.tmp 2] := rfl
@[go_sem] theorem res81 : Tryz.f81.results.toList = [.tmp 8] := rfl
@[go_sem] theorem res83 : Tryz.f83.results.toList = [.cell 4 74] := rfl
@[go_sem] theorem res84 : Tryz.f84.results.toList = [.tmp 2] := rfl
@[go_sem] theorem res85 : Tryz.f85.results.toList = [.tmp 4, .tmp 5] := rfl
@[go_sem] theorem res86 : Tryz.f86.results.toList = [.tmp 4] := rfl
@[go_sem] theorem res87 : Tryz.f87.results.toList = [.tmp 8] := rfl
@[go_sem] theorem res88 : Tryz.f88.results.toList = [.tmp 4] := rfl
@[go_sem] theorem res89 : Tryz.f89.results.toList = [.tmp 4] := rfl
@[go_sem] theorem res90 : Tryz.f90.results.toList = [.tmp 3] := rfl
@[go_sem] theorem res91 : Tryz.f91.results.toList = [] := rfl
@[go_sem] theorem res102 : Tryz.f102.results.toList = [.tmp 2] := rfl
@[go_sem] theorem res103 : Tryz.f103.results.toList = [.tmp 2] := rfl
@[go_sem] theorem res104 : Tryz.f104.results.toList = [.tmp 4] := rfl
@[go_sem] theorem res105 : Tryz.f105.results.toList = [.tmp 4] := rfl
@[go_sem] theorem res106 : Tryz.f106.results.toList = [.tmp 2] := rfl
@[go_sem] theorem res107 : Tryz.f107.results.toList = [.tmp 4] := rfl
@[go_sem] theorem res108 : Tryz.f108.results.toList = [.tmp 4] := rfl
@[go_sem] theorem res109 : Tryz.f109.results.toList = [.tmp 4] := rfl
@[go_sem] theorem res110 : Tryz.f110.results.toList = [.tmp 4, .tmp 5, .tmp 6] := rfl
@[go_sem] theorem res111 : Tryz.f111.results.toList = [.tmp 4] := rfl
@[go_sem] theorem res112 : Tryz.f112.results.toList = [.tmp 4, .tmp 5, .tmp 6] := rfl
@[go_sem] theorem res113 : Tryz.f113.results.toList = [.tmp 4, .tmp 5, .tmp 6] := rfl
@[go_sem] theorem res114 : Tryz.f114.results.toList = [.tmp 4, .tmp 5] := rfl
@[go_sem] theorem res115 : Tryz.f115.results.toList = [.tmp 5] := rfl
@[go_sem] theorem res116 : Tryz.f116.results.toList = [.tmp 4] := rfl
@[go_sem] theorem res117 : Tryz.f117.results.toList = [.tmp 2, .tmp 3] := rfl
@[go_sem] theorem res118 : Tryz.f118.results.toList = [.tmp 4, .tmp 5] := rfl
@[go_sem] theorem res119 : Tryz.f119.results.toList = [.tmp 2] := rfl
@[go_sem] theorem res120 : Tryz.f120.results.toList = [.tmp 8] := rfl
@[go_sem] theorem res121 : Tryz.f121.results.toList = [.tmp 2] := rfl
@[go_sem] theorem res122 : Tryz.f122.results.toList = [.tmp 6, .tmp 7] := rfl
@[go_sem] theorem res123 : Tryz.f123.results.toList = [.tmp 4] := rfl
@[go_sem] theorem res124 : Tryz.f124.results.toList = [.tmp 6] := rfl
@[go_sem] theorem res126 : Tryz.f126.results.toList = [.tmp 2] := rfl
@[go_sem] theorem res127 : Tryz.f127.results.toList = [.tmp 2] := rfl
@[go_sem] theorem res128 : Tryz.f128.results.toList = [.tmp 4] := rfl
@[go_sem] theorem res129 : Tryz.f129.results.toList = [.tmp 6] := rfl
@[go_sem] theorem res130 : Tryz.f130.results.toList = [.tmp 6] := rfl
@[go_sem] theorem res131 : Tryz.f131.results.toList = [.tmp 6] := rfl
@[go_sem] theorem res132 : Tryz.f132.results.toList = [.cell 4 66] := rfl
@[go_sem] theorem res133 : Tryz.f133.results.toList = [.cell 4 68] := rfl
@[go_sem] theorem res134 : Tryz.f134.results.toList = [.cell 4 39, .cell 5 69, .tmp 6] := rfl
@[go_sem] theorem res135 : Tryz.f135.results.toList = [.cell 6 39] := rfl
@[go_sem] theorem res136 : Tryz.f136.results.toList = [.tmp 4] := rfl
@[go_sem] theorem res137 : Tryz.f137.results.toList = [.cell 4 39, .tmp 5] := rfl
@[go_sem] theorem res138 : Tryz.f138.results.toList = [.tmp 8] := rfl
@[go_sem] theorem res139 : Tryz.f139.results.toList = [.cell 6 72] := rfl
@[go_sem] theorem res140 : Tryz.f140.results.toList = [.cell 2 74] := rfl
@[go_sem] theorem res141 : Tryz.f141.results.toList = [.tmp 4] := rfl
@[go_sem] theorem res142 : Tryz.f142.results.toList = [.tmp 2] := rfl
@[go_sem] theorem res143 : Tryz.f143.results.toList = [.tmp 6] := rfl
@[go_sem] theorem res144 : Tryz.f144.results.toList = [.tmp 6] := rfl
@[go_sem] theorem res145 : Tryz.f145.results.toList = [.tmp 2] := rfl
@[go_sem] theorem res146 : Tryz.f146.results.toList = [.tmp 8] := rfl
@[go_sem] theorem res147 : Tryz.f147.results.toList = [.tmp 4] := rfl
@[go_sem] theorem res148 : Tryz.f148.results.toList = [.tmp 2] := rfl
@[go_sem] theorem res165 : Tryz.f165.results.toList = [.cell 2 39] := rfl
@[go_sem] theorem res167 : Tryz.f167.results.toList = [.tmp 2] := rfl
@[go_sem] theorem res168 : Tryz.f168.results.toList = [.tmp 4] := rfl
@[go_sem] theorem res169 : Tryz.f169.results.toList = [.tmp 2] := rfl
@[go_sem] theorem res170 : Tryz.f170.results.toList = [.tmp 2] := rfl
@[go_sem] theorem res171 : Tryz.f171.results.toList = [.tmp 4] := rfl
@[go_sem] theorem res172 : Tryz.f172.results.toList = [.tmp 4] := rfl
@[go_sem] theorem res173 : Tryz.f173.results.toList = [.tmp 4] := rfl
@[go_sem] theorem res174 : Tryz.f174.results.toList = [.tmp 2] := rfl
@[go_sem] theorem res175 : Tryz.f175.results.toList = [.tmp 2] := rfl
@[go_sem] theorem res176 : Tryz.f176.results.toList = [.tmp 2, .tmp 3] := rfl
@[go_sem] theorem res177 : Tryz.f177.results.toList = [.tmp 8] := rfl
@[go_sem] theorem res178 : Tryz.f178.results.toList = [.tmp 2, .tmp 3] := rfl
@[go_sem] theorem res179 : Tryz.f179.results.toList = [.tmp 3] := rfl
@[go_sem] theorem res180 : Tryz.f180.results.toList = [.tmp 8] := rfl
@[go_sem] theorem res181 : Tryz.f181.results.toList = [.tmp 3] := rfl
@[go_sem] theorem res182 : Tryz.f182.results.toList = [.tmp 4] := rfl
@[go_sem] theorem res183 : Tryz.f183.results.toList = [.tmp 4] := rfl
@[go_sem] theorem res184 : Tryz.f184.results.toList = [.tmp 4] := rfl
@[go_sem] theorem res185 : Tryz.f185.results.toList = [.tmp 4, .tmp 5, .tmp 6] := rfl
@[go_sem] theorem res186 : Tryz.f186.results.toList = [.tmp 4, .tmp 5, .tmp 6] := rfl
@[go_sem] theorem res187 : Tryz.f187.results.toList = [.tmp 4, .tmp 5] := rfl
@[go_sem] theorem res188 : Tryz.f188.results.toList = [.tmp 2] := rfl
@[go_sem] theorem res189 : Tryz.f189.results.toList = [.tmp 4] := rfl
@[go_sem] theorem res190 : Tryz.f190.results.toList = [.tmp 4] := rfl
@[go_sem] theorem res191 : Tryz.f191.results.toList = [.tmp 3] := rfl
@[go_sem] theorem res192 : Tryz.f192.results.toList = [.tmp 4] := rfl
@[go_sem] theorem res193 : Tryz.f193.results.toList = [.tmp 4] := rfl
@[go_sem] theorem res194 : Tryz.f194.results.toList = [.tmp 6] := rfl
@[go_sem] theorem res195 : Tryz.f195.results.toList = [.tmp 2] := rfl
@[go_sem] theorem res198 : Tryz.f198.results.toList = [.cell 6 39] := rfl
@[go_sem] theorem res199 : Tryz.f199.results.toList = [.cell 4 268] := rfl
@[go_sem] theorem res200 : Tryz.f200.results.toList = [.cell 6 68] := rfl
@[go_sem] theorem res201 : Tryz.f201.results.toList = [.tmp 4] := rfl
@[go_sem] theorem res202 : Tryz.f202.results.toList = [.tmp 4] := rfl
@[go_sem] theorem res203 : Tryz.f203.results.toList = [.tmp 2] := rfl
@[go_sem] theorem res204 : Tryz.f204.results.toList = [.tmp 4] := rfl
@[go_sem] theorem res205 : Tryz.f205.results.toList = [.tmp 2] := rfl
@[go_sem] theorem res206 : Tryz.f206.results.toList = [.cell 2 69] := rfl
@[go_sem] theorem res207 : Tryz.f207.results.toList = [.tmp 2] := rfl
@[go_sem] theorem res208 : Tryz.f208.results.toList = [.tmp 6] := rfl
@[go_sem] theorem res209 : Tryz.f209.results.toList = [.tmp 6] := rfl
@[go_sem] theorem res211 : Tryz.f211.results.toList = [.tmp 6] := rfl
@[go_sem] theorem res223 : Tryz.f223.results.toList = [.tmp 2] := rfl
@[go_sem] theorem res224 : Tryz.f224.results.toList = [.tmp 2] := rfl
@[go_sem] theorem res225 : Tryz.f225.results.toList = [.tmp 4] := rfl
@[go_sem] theorem res226 : Tryz.f226.results.toList = [.cell 8 101, .tmp 9] := rfl
@[go_sem] theorem res227 : Tryz.f227.results.toList = [.tmp 2] := rfl
@[go_sem] theorem res228 : Tryz.f228.results.toList = [.tmp 4] := rfl
@[go_sem] theorem res229 : Tryz.f229.results.toList = [.tmp 4] := rfl
@[go_sem] theorem res230 : Tryz.f230.results.toList = [.tmp 6] := rfl
@[go_sem] theorem res231 : Tryz.f231.results.toList = [.tmp 6] := rfl
@[go_sem] theorem res232 : Tryz.f232.results.toList = [.tmp 4] := rfl
@[go_sem] theorem res233 : Tryz.f233.results.toList = [.tmp 2] := rfl
@[go_sem] theorem res234 : Tryz.f234.results.toList = [.tmp 4] := rfl
@[go_sem] theorem res235 : Tryz.f235.results.toList = [.tmp 3] := rfl
@[go_sem] theorem res236 : Tryz.f236.results.toList = [.tmp 4] := rfl
@[go_sem] theorem res237 : Tryz.f237.results.toList = [.tmp 4] := rfl
@[go_sem] theorem res238 : Tryz.f238.results.toList = [.tmp 3] := rfl
@[go_sem] theorem res239 : Tryz.f239.results.toList = [.tmp 4] := rfl
@[go_sem] theorem res240 : Tryz.f240.results.toList = [.tmp 3] := rfl
@[go_sem] theorem res241 : Tryz.f241.results.toList = [.tmp 4] := rfl
@[go_sem] theorem res242 : Tryz.f242.results.toList = [.tmp 4] := rfl
@[go_sem] theorem res243 : Tryz.f243.results.toList = [.tmp 2, .tmp 3] := rfl
@[go_sem] theorem res244 : Tryz.f244.results.toList = [.tmp 2, .tmp 3] := rfl
@[go_sem] theorem res245 : Tryz.f245.results.toList = [.tmp 4] := rfl
@[go_sem] theorem res246 : Tryz.f246.results.toList = [.tmp 3] := rfl
@[go_sem] theorem res247 : Tryz.f247.results.toList = [.tmp 4] := rfl
@[go_sem] theorem res249 : Tryz.f249.results.toList = [.tmp 6] := rfl
@[go_sem] theorem res250 : Tryz.f250.results.toList = [.tmp 4] := rfl
@[go_sem] theorem res251 : Tryz.f251.results.toList = [.tmp 2] := rfl
@[go_sem] theorem res252 : Tryz.f252.results.toList = [.tmp 4] := rfl
@[go_sem] theorem res253 : Tryz.f253.results.toList = [.tmp 2] := rfl
@[go_sem] theorem res254 : Tryz.f254.results.toList = [.tmp 2] := rfl
@[go_sem] theorem res255 : Tryz.f255.results.toList = [.tmp 2, .tmp 3] := rfl
@[go_sem] theorem res256 : Tryz.f256.results.toList = [.tmp 6] := rfl
@[go_sem] theorem res257 : Tryz.f257.results.toList = [.tmp 6] := rfl
@[go_sem] theorem res263 : Tryz.f263.results.toList = [.tmp 2] := rfl
@[go_sem] theorem res264 : Tryz.f264.results.toList = [.cell 4 295, .tmp 5, .tmp 6] := rfl
@[go_sem] theorem res265 : Tryz.f265.results.toList = [.tmp 4] := rfl
@[go_sem] theorem res266 : Tryz.f266.results.toList = [.tmp 4] := rfl
@[go_sem] theorem res267 : Tryz.f267.results.toList = [.tmp 2, .tmp 3] := rfl
@[go_sem] theorem res268 : Tryz.f268.results.toList = [.tmp 4] := rfl
@[go_sem] theorem res269 : Tryz.f269.results.toList = [.tmp 4] := rfl
@[go_sem] theorem res270 : Tryz.f270.results.toList = [.tmp 3] := rfl
@[go_sem] theorem res271 : Tryz.f271.results.toList = [.tmp 2] := rfl
@[go_sem] theorem res272 : Tryz.f272.results.toList = [.tmp 4] := rfl
@[go_sem] theorem res273 : Tryz.f273.results.toList = [.tmp 4] := rfl
@[go_sem] theorem res274 : Tryz.f274.results.toList = [.tmp 4] := rfl
@[go_sem] theorem res275 : Tryz.f275.results.toList = [.tmp 2] := rfl
@[go_sem] theorem res276 : Tryz.f276.results.toList = [.tmp 8] := rfl
@[go_sem] theorem res277 : Tryz.f277.results.toList = [.tmp 6] := rfl
@[go_sem] theorem res278 : Tryz.f278.results.toList = [.tmp 4] := rfl
@[go_sem] theorem res279 : Tryz.f279.results.toList = [] := rfl
@[go_sem] theorem res281 : Tryz.f281.results.toList = [.tmp 4] := rfl
@[go_sem] theorem res282 : Tryz.f282.results.toList = [.tmp 4] := rfl
@[go_sem] theorem res283 : Tryz.f283.results.toList = [.tmp 2] := rfl
@[go_sem] theorem res284 : Tryz.f284.results.toList = [.tmp 4] := rfl
@[go_sem] theorem res291 : Tryz.f291.results.toList = [.tmp 2] := rfl
@[go_sem] theorem res292 : Tryz.f292.results.toList = [.tmp 2] := rfl
@[go_sem] theorem res293 : Tryz.f293.results.toList = [.tmp 6] := rfl
@[go_sem] theorem res294 : Tryz.f294.results.toList = [.tmp 4] := rfl
@[go_sem] theorem res295 : Tryz.f295.results.toList = [.tmp 0] := rfl
@[go_sem] theorem res296 : Tryz.f296.results.toList = [.tmp 4] := rfl
@[go_sem] theorem res297 : Tryz.f297.results.toList = [.tmp 2, .tmp 3, .tmp 4] := rfl
@[go_sem] theorem res298 : Tryz.f298.results.toList = [.tmp 4] := rfl
@[go_sem] theorem res299 : Tryz.f299.results.toList = [.tmp 4] := rfl
@[go_sem] theorem res300 : Tryz.f300.results.toList = [.tmp 3] := rfl
@[go_sem] theorem res301 : Tryz.f301.results.toList = [.tmp 3] := rfl
@[go_sem] theorem res302 : Tryz.f302.results.toList = [.tmp 6] := rfl
@[go_sem] theorem res303 : Tryz.f303.results.toList = [.cell 6 101, .tmp 7] := rfl
@[go_sem] theorem res304 : Tryz.f304.results.toList = [.tmp 4] := rfl
@[go_sem] theorem res305 : Tryz.f305.results.toList = [.tmp 4] := rfl
@[go_sem] theorem res306 : Tryz.f306.results.toList = [.tmp 6] := rfl
@[go_sem] theorem res307 : Tryz.f307.results.toList = [.cell 4 39, .cell 5 69, .tmp 6] := rfl
@[go_sem] theorem res308 : Tryz.f308.results.toList = [.tmp 6] := rfl
@[go_sem] theorem res309 : Tryz.f309.results.toList = [.tmp 6] := rfl
@[go_sem] theorem res310 : Tryz.f310.results.toList = [.tmp 4] := rfl
@[go_sem] theorem res311 : Tryz.f311.results.toList = [.tmp 4] := rfl
@[go_sem] theorem res312 : Tryz.f312.results.toList = [.tmp 2] := rfl
@[go_sem] theorem res313 : Tryz.f313.results.toList = [.tmp 6] := rfl
@[go_sem] theorem res314 : Tryz.f314.results.toList = [.tmp 2] := rfl
@[go_sem] theorem res316 : Tryz.f316.results.toList = [.tmp 2] := rfl
@[go_sem] theorem res317 : Tryz.f317.results.toList = [.tmp 4] := rfl
@[go_sem] theorem res318 : Tryz.f318.results.toList = [.tmp 2] := rfl
@[go_sem] theorem res319 : Tryz.f319.results.toList = [.tmp 2] := rfl
@[go_sem] theorem res320 : Tryz.f320.results.toList = [.tmp 2, .tmp 3] := rfl
@[go_sem] theorem res321 : Tryz.f321.results.toList = [.tmp 2] := rfl
@[go_sem] theorem res322 : Tryz.f322.results.toList = [.tmp 4] := rfl
@[go_sem] theorem res323 : Tryz.f323.results.toList = [.tmp 4] := rfl
@[go_sem] theorem res324 : Tryz.f324.results.toList = [.tmp 4, .tmp 5] := rfl
@[go_sem] theorem res325 : Tryz.f325.results.toList = [.tmp 4] := rfl
@[go_sem] theorem res326 : Tryz.f326.results.toList = [.tmp 3] := rfl
@[go_sem] theorem res327 : Tryz.f327.results.toList = [.tmp 3] := rfl
@[go_sem] theorem res328 : Tryz.f328.results.toList = [.tmp 4] := rfl
@[go_sem] theorem res329 : Tryz.f329.results.toList = [.tmp 3] := rfl
@[go_sem] theorem res330 : Tryz.f330.results.toList = [.tmp 4] := rfl
@[go_sem] theorem res331 : Tryz.f331.results.toList = [.tmp 4, .tmp 5] := rfl
@[go_sem] theorem res332 : Tryz.f332.results.toList = [.tmp 2] := rfl
@[go_sem] theorem res333 : Tryz.f333.results.toList = [.tmp 2] := rfl
@[go_sem] theorem res334 : Tryz.f334.results.toList = [.tmp 2, .tmp 3] := rfl
@[go_sem] theorem res335 : Tryz.f335.results.toList = [.tmp 6] := rfl
@[go_sem] theorem res336 : Tryz.f336.results.toList = [.tmp 2] := rfl
@[go_sem] theorem res337 : Tryz.f337.results.toList = [.tmp 4] := rfl
@[go_sem] theorem res338 : Tryz.f338.results.toList = [.tmp 2] := rfl
@[go_sem] theorem res339 : Tryz.f339.results.toList = [.tmp 4] := rfl
@[go_sem] theorem res340 : Tryz.f340.results.toList = [.tmp 4] := rfl
@[go_sem] theorem res341 : Tryz.f341.results.toList = [.tmp 4] := rfl
@[go_sem] theorem res342 : Tryz.f342.results.toList = [.tmp 4] := rfl
@[go_sem] theorem res343 : Tryz.f343.results.toList = [.tmp 2] := rfl
@[go_sem] theorem res344 : Tryz.f344.results.toList = [] := rfl
@[go_sem] theorem res345 : Tryz.f345.results.toList = [.tmp 2] := rfl
@[go_sem] theorem res346 : Tryz.f346.results.toList = [.tmp 2] := rfl
@[go_sem] theorem res347 : Tryz.f347.results.toList = [.tmp 4] := rfl
@[go_sem] theorem res348 : Tryz.f348.results.toList = [.tmp 2] := rfl
@[go_sem] theorem res349 : Tryz.f349.results.toList = [.tmp 3] := rfl
@[go_sem] theorem res351 : Tryz.f351.results.toList = [.tmp 4] := rfl
@[go_sem] theorem res352 : Tryz.f352.results.toList = [.tmp 4] := rfl
@[go_sem] theorem res353 : Tryz.f353.results.toList = [] := rfl
@[go_sem] theorem res354 : Tryz.f354.results.toList = [.tmp 2] := rfl
@[go_sem] theorem res355 : Tryz.f355.results.toList = [.tmp 4] := rfl
@[go_sem] theorem res356 : Tryz.f356.results.toList = [] := rfl
@[go_sem] theorem res357 : Tryz.f357.results.toList = [] := rfl
@[go_sem] theorem res358 : Tryz.f358.results.toList = [] := rfl
@[go_sem] theorem res359 : Tryz.f359.results.toList = [.tmp 6, .tmp 7] := rfl
@[go_sem] theorem res360 : Tryz.f360.results.toList = [] := rfl
@[go_sem] theorem res361 : Tryz.f361.results.toList = [.tmp 6] := rfl
@[go_sem] theorem res362 : Tryz.f362.results.toList = [.tmp 8] := rfl
@[go_sem] theorem res363 : Tryz.f363.results.toList = [.tmp 8, .tmp 9] := rfl
@[go_sem] theorem res364 : Tryz.f364.results.toList = [.tmp 2] := rfl
@[go_sem] theorem res365 : Tryz.f365.results.toList = [.tmp 2] := rfl
@[go_sem] theorem res366 : Tryz.f366.results.toList = [] := rfl
@[go_sem] theorem res367 : Tryz.f367.results.toList = [.tmp 2] := rfl
@[go_sem] theorem res368 : Tryz.f368.results.toList = [.tmp 2] := rfl
@[go_sem] theorem res369 : Tryz.f369.results.toList = [.tmp 6] := rfl
@[go_sem] theorem res370 : Tryz.f370.results.toList = [.tmp 10] := rfl
@[go_sem] theorem res371 : Tryz.f371.results.toList = [.tmp 8, .tmp 9] := rfl
theorem mixed : Tryz.prog.follows .mixedOrders = true := rfl
theorem pK {f : FuncId} {fn : Func} {x : Code} {args : List D} {r : D} (cfg : Cfg) (hf : Tryz.prog.funcs[f]? = some fn) (hb : fn.body = some x)
    (h : ∀ Q : D → AHeap → Prop, (∀ d H', (rsvT H' d = r ∨ nzT (rsvT H' d) = r) → Q d H') → AWp Tryz.prog cfg x (retQ Tryz.prog fn.results.toList Q) (envP args) .emp)
    (hcl : r.cl = true := by first | rfl | (simp [go_sem]; done)) (hnm : (fn.name == "runtime.NumGoroutine") = false := by rfl) (hlen : args.length ≤ fn.ntmps := by exact nlb rfl) (hok : codeOK cfg fn.ntmps x = true := by kernel_rfl) : Pure Tryz.prog f args r :=
  pureK hcl fun Q hQ => acalls_of_body mixed hf hb hnm hlen hok (h Q hQ)
theorem oK {f : FuncId} {fn : Func} {x : Code} {args : List D} {ty : TypeId} {sz : Nat} {es : List (List D)} (cfg : Cfg) (hf : Tryz.prog.funcs[f]? = some fn) (hb : fn.body = some x)
    (h : ∀ Q : D → AHeap → Prop, (∀ id n H', n = es.length → H'.get id = some ⟨ty, sz, es, false⟩ → Q (.own id n) H') → AWp Tryz.prog cfg x (retQ Tryz.prog fn.results.toList Q) (envP args) .emp)
    (hcl : D.clLL es = true := by first | rfl | (simp [go_sem]; done)) (hnm : (fn.name == "runtime.NumGoroutine") = false := by rfl) (hlen : args.length ≤ fn.ntmps := by exact nlb rfl) (hok : codeOK cfg fn.ntmps x = true := by kernel_rfl) : Own Tryz.prog f args ty sz es :=
  ownK hcl fun Q hQ => acalls_of_body mixed hf hb hnm hlen hok (h Q hQ)
end Go.Abs.Tz
end
