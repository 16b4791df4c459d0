/- Facts about the types and results of the seat's program, pri -/
import Derived.Test.YthalajhajpjjeaaGreatZhF
import Derived.Test.YthalajhajpjjeaaGreatProg
import Derived.Laws.Externs
import Derived.WalkKit
set_option linter.unusedVariables false
set_option linter.unusedSimpArgs false
section
set_option maxRecDepth 100000
open Go Go.Proofs Go.Abs
namespace Go.Abs.Tz
@[go_sem] theorem adA:sl Tryz.prog 22=some ⟨172,4,56,[.str ⟨#[]⟩,.int .i64 (0),.bool false,.nil]⟩:=rfl
@[go_sem] theorem ac9:sl Tryz.prog 23=some ⟨174,7,64,[.str ⟨#[]⟩,.int .i64 (0),.int .i64 (0),.int .i64 (0),.int .i64 (0),.int .i64 (0),.int .i64 (0)]⟩:=rfl
@[go_sem] theorem ac8:sl Tryz.prog 26=some ⟨3,1,8,[.int .i64 (0)]⟩:=rfl
@[go_sem] theorem ac7:sl Tryz.prog 27=some ⟨122,3,24,[.int .i64 (0),.int .i64 (0),.int .i64 (0)]⟩:=rfl
@[go_sem] theorem ac6:sl Tryz.prog 30=some ⟨159,4,32,[.int .i64 (0),.int .i64 (0),.int .i64 (0),.int .i64 (0)]⟩:=rfl
@[go_sem] theorem ac5:sl Tryz.prog 31=some ⟨254,5,40,[.int .i64 (0),.int .i64 (0),.int .i64 (0),.int .i64 (0),.int .i64 (0)]⟩:=rfl
@[go_sem] theorem ac4:sl Tryz.prog 37=some ⟨39,9,184,[.int .i64 (0),.nil,.nil,.nil,.nil,.nil,.nil,.int .i64 (0),.nil]⟩:=rfl
@[go_sem] theorem ac3:sl Tryz.prog 42=some ⟨26,1,24,[.nil]⟩:=rfl
@[go_sem] theorem ac2:sl Tryz.prog 61=some ⟨227,2,2,[.int .u8 (0),.int .u8 (0)]⟩:=rfl
@[go_sem] theorem ac1:sl Tryz.prog 62=some ⟨5,1,1,[.int .u8 (0)]⟩:=rfl
@[go_sem] theorem ac0:sl Tryz.prog 63=some ⟨236,3,3,[.int .u8 (0),.int .u8 (0),.int .u8 (0)]⟩:=rfl
@[go_sem] theorem acZ:sl Tryz.prog 66=some ⟨305,4,4,[.int .i8 (0),.int .i8 (0),.int .i8 (0),.int .i8 (0)]⟩:=rfl
@[go_sem] theorem acY:sl Tryz.prog 81=some ⟨46,3,72,[.nil,.nil,.nil]⟩:=rfl
@[go_sem] theorem acX:sl Tryz.prog 97=some ⟨53,38,824,[.str ⟨#[]⟩,.nil,.nil,.nil,.int .i64 (0),.nil,.nil,.nil,.nil,.int .i64 (0),.nil,.nil,.nil,.nil,.nil,.bool false,.int .i64 (0),.nil,.nil,.nil,.nil,.nil,.nil,.int .i64 (0),.nil,.nil,.nil,.nil,.nil,.nil,.nil,.nil,.nil,.nil,.nil,.nil,.nil,.nil]⟩:=rfl
@[go_sem] theorem acM:sl Tryz.prog 113=some ⟨118,4,56,[.str ⟨#[]⟩,.int .i64 (0),.int .i64 (0),.nil]⟩:=rfl
@[go_sem] theorem acL:sl Tryz.prog 116=some ⟨9,1,16,[.str ⟨#[]⟩]⟩:=rfl
@[go_sem] theorem ZQ:H6 Tryz.prog 122=some 3:=by kernel_rfl
@[go_sem] theorem ZP:H6 Tryz.prog 157=some 2:=by kernel_rfl
@[go_sem] theorem ZO:H6 Tryz.prog 159=some 4:=by kernel_rfl
@[go_sem] theorem acK:sl Tryz.prog 170=some ⟨41,25,512,[.str ⟨#[]⟩,.nil,.nil,.nil,.int .i64 (0),.nil,.nil,.nil,.nil,.int .i64 (0),.nil,.nil,.nil,.nil,.nil,.bool false,.int .i64 (0),.nil,.nil,.nil,.nil,.nil,.nil,.int .i64 (0),.nil]⟩:=rfl
@[go_sem] theorem acJ:sl Tryz.prog 242=some ⟨36,2,48,[.nil,.nil]⟩:=rfl
@[go_sem] theorem ZN:H6 Tryz.prog 254=some 5:=by kernel_rfl
@[go_sem] theorem acI:sl Tryz.prog 275=some ⟨354,2,16,[.int .i64 (0),.int .i64 (0)]⟩:=rfl
@[go_sem] theorem acH:sl Tryz.prog 280=some ⟨282,5,104,[.int .i64 (0),.nil,.nil,.nil,.nil]⟩:=rfl
@[go_sem] theorem ZM:H6 Tryz.prog 292=some 2:=by kernel_rfl
@[go_sem] theorem acG:sl Tryz.prog 301=some ⟨302,2,16,[.int .i64 (0),.int .i64 (0)]⟩:=rfl
@[go_sem] theorem acF:sl Tryz.prog 306=some ⟨4,1,1,[.bool false]⟩:=rfl
@[go_sem] theorem acE:sl Tryz.prog 342=some ⟨29,2,48,[.nil,.nil]⟩:=rfl
@[go_sem] theorem acD:sl Tryz.prog 343=some ⟨306,1,24,[.nil]⟩:=rfl
@[go_sem] theorem ZL:H6 Tryz.prog 354=some 2:=by kernel_rfl
@[go_sem] theorem acW:tk Tryz.prog 3=.one/\zd Tryz.prog 3=some [.int .i64 (0)]/\A8 Tryz.prog 3=some .i64/\(Tryz.prog.info? 3).isSome=true/\Tryz.prog.cellsOf 3=1/\tk Tryz.prog 4=.one/\zd Tryz.prog 4=some [.bool false]/\(Tryz.prog.info? 4).isSome=true/\Tryz.prog.cellsOf 4=1/\tk Tryz.prog 5=.one/\zd Tryz.prog 5=some [.int .u8 (0)]/\A8 Tryz.prog 5=some .u8/\(Tryz.prog.info? 5).isSome=true/\Tryz.prog.cellsOf 5=1/\tk Tryz.prog 9=.one/\zd Tryz.prog 9=some [.str ⟨#[]⟩]/\(Tryz.prog.info? 9).isSome=true/\Tryz.prog.cellsOf 9=1/\tk Tryz.prog 22=.one/\zd Tryz.prog 22=some [.nil]/\(Tryz.prog.info? 22).isSome=true/\Tryz.prog.cellsOf 22=1/\tk Tryz.prog 23=.one/\zd Tryz.prog 23=some [.nil]:=⟨rfl,rfl,rfl,rfl,rfl,rfl,rfl,rfl,rfl,rfl,rfl,rfl,rfl,rfl,rfl,rfl,rfl,rfl,rfl,rfl,rfl,rfl,rfl,rfl⟩
@[go_sem] theorem acC:(Tryz.prog.info? 23).isSome=true/\Tryz.prog.cellsOf 23=1/\tk Tryz.prog 25=.agg 2/\zd Tryz.prog 25=some [.nil,.nil]/\bk Tryz.prog 25=some (.st [(0,1),(1,1)])/\(Tryz.prog.info? 25).isSome=true/\Tryz.prog.cellsOf 25=2/\tk Tryz.prog 26=.one/\zd Tryz.prog 26=some [.nil]/\(Tryz.prog.info? 26).isSome=true/\Tryz.prog.cellsOf 26=1/\tk Tryz.prog 27=.one/\zd Tryz.prog 27=some [.nil]/\(Tryz.prog.info? 27).isSome=true/\Tryz.prog.cellsOf 27=1/\tk Tryz.prog 29=.agg 2/\zd Tryz.prog 29=some [.nil,.nil]/\bk Tryz.prog 29=some (.st [(0,1),(1,1)])/\(Tryz.prog.info? 29).isSome=true/\Tryz.prog.cellsOf 29=2/\tk Tryz.prog 30=.one/\zd Tryz.prog 30=some [.nil]/\(Tryz.prog.info? 30).isSome=true/\Tryz.prog.cellsOf 30=1:=⟨rfl,rfl,rfl,rfl,rfl,rfl,rfl,rfl,rfl,rfl,rfl,rfl,rfl,rfl,rfl,rfl,rfl,rfl,rfl,rfl,rfl,rfl,rfl,rfl⟩
@[go_sem] theorem acB:tk Tryz.prog 31=.one/\zd Tryz.prog 31=some [.nil]/\(Tryz.prog.info? 31).isSome=true/\Tryz.prog.cellsOf 31=1/\tk Tryz.prog 33=.agg 5/\zd Tryz.prog 33=some [.nil,.nil,.nil,.int .i64 (0),.nil]/\bk Tryz.prog 33=some (.st [(0,2),(2,1),(3,1),(4,1)])/\(Tryz.prog.info? 33).isSome=true/\Tryz.prog.cellsOf 33=5/\tk Tryz.prog 35=.agg 2/\zd Tryz.prog 35=some [.nil,.nil]/\bk Tryz.prog 35=some (.st [(0,1),(1,1)])/\(Tryz.prog.info? 35).isSome=true/\Tryz.prog.cellsOf 35=2/\tk Tryz.prog 36=.agg 2/\zd Tryz.prog 36=some [.nil,.nil]/\bk Tryz.prog 36=some (.st [(0,1),(1,1)])/\(Tryz.prog.info? 36).isSome=true/\Tryz.prog.cellsOf 36=2/\tk Tryz.prog 37=.one/\zd Tryz.prog 37=some [.nil]/\(Tryz.prog.info? 37).isSome=true/\Tryz.prog.cellsOf 37=1/\tk Tryz.prog 39=.agg 9:=⟨rfl,rfl,rfl,rfl,rfl,rfl,rfl,rfl,rfl,rfl,rfl,rfl,rfl,rfl,rfl,rfl,rfl,rfl,rfl,rfl,rfl,rfl,rfl,rfl⟩
@[go_sem] theorem acA:zd Tryz.prog 39=some [.int .i64 (0),.nil,.nil,.nil,.nil,.nil,.nil,.int .i64 (0),.nil]/\bk Tryz.prog 39=some (.st [(0,1),(1,1),(2,2),(4,5)])/\(Tryz.prog.info? 39).isSome=true/\Tryz.prog.cellsOf 39=9/\tk Tryz.prog 41=.agg 25/\zd Tryz.prog 41=some [.str ⟨#[]⟩,.nil,.nil,.nil,.int .i64 (0),.nil,.nil,.nil,.nil,.int .i64 (0),.nil,.nil,.nil,.nil,.nil,.bool false,.int .i64 (0),.nil,.nil,.nil,.nil,.nil,.nil,.int .i64 (0),.nil]/\bk Tryz.prog 41=some (.st [(0,1),(1,5),(6,5),(11,2),(13,2),(15,1),(16,9)])/\(Tryz.prog.info? 41).isSome=true/\Tryz.prog.cellsOf 41=25/\tk Tryz.prog 42=.one/\zd Tryz.prog 42=some [.nil]/\(Tryz.prog.info? 42).isSome=true/\Tryz.prog.cellsOf 42=1/\tk Tryz.prog 44=.agg 3/\zd Tryz.prog 44=some [.nil,.nil,.nil]/\bk Tryz.prog 44=some (.st [(0,2),(2,1)])/\(Tryz.prog.info? 44).isSome=true/\Tryz.prog.cellsOf 44=3/\tk Tryz.prog 46=.agg 3/\zd Tryz.prog 46=some [.nil,.nil,.nil]/\bk Tryz.prog 46=some (.st [(0,2),(2,1)])/\(Tryz.prog.info? 46).isSome=true/\Tryz.prog.cellsOf 46=3/\tk Tryz.prog 48=.agg 6:=⟨rfl,rfl,rfl,rfl,rfl,rfl,rfl,rfl,rfl,rfl,rfl,rfl,rfl,rfl,rfl,rfl,rfl,rfl,rfl,rfl,rfl,rfl,rfl,rfl⟩
@[go_sem] theorem ab9:zd Tryz.prog 48=some [.nil,.nil,.nil,.nil,.nil,.nil]/\bk Tryz.prog 48=some (.st [(0,3),(3,3)])/\(Tryz.prog.info? 48).isSome=true/\Tryz.prog.cellsOf 48=6/\tk Tryz.prog 53=.agg 38/\zd Tryz.prog 53=some [.str ⟨#[]⟩,.nil,.nil,.nil,.int .i64 (0),.nil,.nil,.nil,.nil,.int .i64 (0),.nil,.nil,.nil,.nil,.nil,.bool false,.int .i64 (0),.nil,.nil,.nil,.nil,.nil,.nil,.int .i64 (0),.nil,.nil,.nil,.nil,.nil,.nil,.nil,.nil,.nil,.nil,.nil,.nil,.nil,.nil]/\bk Tryz.prog 53=some (.st [(0,25),(25,3),(28,3),(31,3),(34,2),(36,2)])/\(Tryz.prog.info? 53).isSome=true/\Tryz.prog.cellsOf 53=38/\tk Tryz.prog 54=.one/\zd Tryz.prog 54=some [.int .i64 (0)]/\A8 Tryz.prog 54=some .i64/\(Tryz.prog.info? 54).isSome=true/\Tryz.prog.cellsOf 54=1/\tk Tryz.prog 55=.one/\(Tryz.prog.info? 55).isSome=true/\Tryz.prog.cellsOf 55=1/\tk Tryz.prog 61=.one/\zd Tryz.prog 61=some [.nil]/\(Tryz.prog.info? 61).isSome=true/\Tryz.prog.cellsOf 61=1/\tk Tryz.prog 62=.one/\zd Tryz.prog 62=some [.nil]/\(Tryz.prog.info? 62).isSome=true:=⟨rfl,rfl,rfl,rfl,rfl,rfl,rfl,rfl,rfl,rfl,rfl,rfl,rfl,rfl,rfl,rfl,rfl,rfl,rfl,rfl,rfl,rfl,rfl,rfl⟩
@[go_sem] theorem aa9:Tryz.prog.cellsOf 62=1/\tk Tryz.prog 63=.one/\zd Tryz.prog 63=some [.nil]/\(Tryz.prog.info? 63).isSome=true/\Tryz.prog.cellsOf 63=1/\tk Tryz.prog 65=.agg 2/\zd Tryz.prog 65=some [.nil,.nil]/\bk Tryz.prog 65=some (.st [(0,1),(1,1)])/\(Tryz.prog.info? 65).isSome=true/\Tryz.prog.cellsOf 65=2/\tk Tryz.prog 66=.one/\zd Tryz.prog 66=some [.nil]/\(Tryz.prog.info? 66).isSome=true/\Tryz.prog.cellsOf 66=1/\tk Tryz.prog 68=.agg 4/\zd Tryz.prog 68=some [.nil,.nil,.nil,.nil]/\bk Tryz.prog 68=some (.st [(0,2),(2,1),(3,1)])/\(Tryz.prog.info? 68).isSome=true/\Tryz.prog.cellsOf 68=4/\tk Tryz.prog 69=.one/\zd Tryz.prog 69=some [.int .u64 (0)]/\A8 Tryz.prog 69=some .u64/\(Tryz.prog.info? 69).isSome=true/\Tryz.prog.cellsOf 69=1:=⟨rfl,rfl,rfl,rfl,rfl,rfl,rfl,rfl,rfl,rfl,rfl,rfl,rfl,rfl,rfl,rfl,rfl,rfl,rfl,rfl,rfl,rfl,rfl,rfl⟩
@[go_sem] theorem aa8:tk Tryz.prog 70=.agg 4/\zd Tryz.prog 70=some [.int .u8 (0),.int .u8 (0),.int .u8 (0),.int .u8 (0)]/\bk Tryz.prog 70=some (.ar 1)/\PO Tryz.prog 70=some (4,1)/\(Tryz.prog.info? 70).isSome=true/\Tryz.prog.cellsOf 70=4/\tk Tryz.prog 72=.agg 15/\zd Tryz.prog 72=some [.nil,.nil,.nil,.nil,.int .u64 (0),.nil,.nil,.nil,.bool false,.bool false,.int .u8 (0),.int .u8 (0),.int .u8 (0),.int .u8 (0),.nil]/\bk Tryz.prog 72=some (.st [(0,4),(4,1),(5,1),(6,1),(7,1),(8,1),(9,1),(10,4),(14,1)])/\(Tryz.prog.info? 72).isSome=true/\Tryz.prog.cellsOf 72=15/\tk Tryz.prog 74=.agg 2/\zd Tryz.prog 74=some [.nil,.nil]/\bk Tryz.prog 74=some (.st [(0,1),(1,1)])/\(Tryz.prog.info? 74).isSome=true/\Tryz.prog.cellsOf 74=2/\tk Tryz.prog 76=.agg 19/\zd Tryz.prog 76=some [.nil,.nil,.nil,.nil,.nil,.nil,.int .u64 (0),.nil,.nil,.nil,.bool false,.bool false,.int .u8 (0),.int .u8 (0),.int .u8 (0),.int .u8 (0),.nil,.nil,.nil]/\bk Tryz.prog 76=some (.st [(0,1),(1,1),(2,15),(17,2)])/\(Tryz.prog.info? 76).isSome=true/\Tryz.prog.cellsOf 76=19/\tk Tryz.prog 77=.one/\(Tryz.prog.info? 77).isSome=true/\Tryz.prog.cellsOf 77=1:=⟨rfl,rfl,rfl,rfl,rfl,rfl,rfl,rfl,rfl,rfl,rfl,rfl,rfl,rfl,rfl,rfl,rfl,rfl,rfl,rfl,rfl,rfl,rfl,rfl⟩
@[go_sem] theorem aa7:tk Tryz.prog 79=.one/\(Tryz.prog.info? 79).isSome=true/\Tryz.prog.cellsOf 79=1/\tk Tryz.prog 81=.one/\zd Tryz.prog 81=some [.nil]/\(Tryz.prog.info? 81).isSome=true/\Tryz.prog.cellsOf 81=1/\tk Tryz.prog 82=.one/\(Tryz.prog.info? 82).isSome=true/\Tryz.prog.cellsOf 82=1/\tk Tryz.prog 85=.one/\(Tryz.prog.info? 85).isSome=true/\Tryz.prog.cellsOf 85=1/\tk Tryz.prog 88=.one/\(Tryz.prog.info? 88).isSome=true/\Tryz.prog.cellsOf 88=1/\tk Tryz.prog 90=.one/\(Tryz.prog.info? 90).isSome=true/\Tryz.prog.cellsOf 90=1/\tk Tryz.prog 96=.agg 35/\zd Tryz.prog 96=some [.nil,.nil,.nil,.nil,.nil,.nil,.int .u64 (0),.nil,.nil,.nil,.bool false,.bool false,.int .u8 (0),.int .u8 (0),.int .u8 (0),.int .u8 (0),.nil,.nil,.nil,.nil,.nil,.nil,.nil,.int .u64 (0),.nil,.nil,.nil,.bool false,.bool false,.int .u8 (0),.int .u8 (0),.int .u8 (0),.int .u8 (0),.nil,.nil]/\bk Tryz.prog 96=some (.st [(0,19),(19,15),(34,1)])/\(Tryz.prog.info? 96).isSome=true/\Tryz.prog.cellsOf 96=35:=⟨rfl,rfl,rfl,rfl,rfl,rfl,rfl,rfl,rfl,rfl,rfl,rfl,rfl,rfl,rfl,rfl,rfl,rfl,rfl,rfl,rfl,rfl,rfl,rfl⟩
@[go_sem] theorem aa6:tk Tryz.prog 97=.one/\zd Tryz.prog 97=some [.nil]/\(Tryz.prog.info? 97).isSome=true/\Tryz.prog.cellsOf 97=1/\tk Tryz.prog 98=.one/\(Tryz.prog.info? 98).isSome=true/\Tryz.prog.cellsOf 98=1/\tk Tryz.prog 103=.one/\(Tryz.prog.info? 103).isSome=true/\Tryz.prog.cellsOf 103=1/\tk Tryz.prog 109=.one/\(Tryz.prog.info? 109).isSome=true/\Tryz.prog.cellsOf 109=1/\tk Tryz.prog 111=.one/\(Tryz.prog.info? 111).isSome=true/\Tryz.prog.cellsOf 111=1/\tk Tryz.prog 113=.one/\zd Tryz.prog 113=some [.nil]/\(Tryz.prog.info? 113).isSome=true/\Tryz.prog.cellsOf 113=1/\tk Tryz.prog 114=.one/\(Tryz.prog.info? 114).isSome=true/\Tryz.prog.cellsOf 114=1/\tk Tryz.prog 116=.one:=⟨rfl,rfl,rfl,rfl,rfl,rfl,rfl,rfl,rfl,rfl,rfl,rfl,rfl,rfl,rfl,rfl,rfl,rfl,rfl,rfl,rfl,rfl,rfl,rfl⟩
@[go_sem] theorem aa5:zd Tryz.prog 116=some [.nil]/\(Tryz.prog.info? 116).isSome=true/\Tryz.prog.cellsOf 116=1/\tk Tryz.prog 118=.agg 4/\zd Tryz.prog 118=some [.str ⟨#[]⟩,.int .i64 (0),.int .i64 (0),.nil]/\bk Tryz.prog 118=some (.st [(0,1),(1,1),(2,1),(3,1)])/\(Tryz.prog.info? 118).isSome=true/\Tryz.prog.cellsOf 118=4/\tk Tryz.prog 120=.one/\zd Tryz.prog 120=some [.nilf]/\(Tryz.prog.info? 120).isSome=true/\Tryz.prog.cellsOf 120=1/\tk Tryz.prog 122=.agg 3/\zd Tryz.prog 122=some [.int .i64 (0),.int .i64 (0),.int .i64 (0)]/\bk Tryz.prog 122=some (.st [(0,1),(1,1),(2,1)])/\(Tryz.prog.info? 122).isSome=true/\Tryz.prog.cellsOf 122=3/\tk Tryz.prog 130=.one/\(Tryz.prog.info? 130).isSome=true/\Tryz.prog.cellsOf 130=1/\tk Tryz.prog 137=.one/\(Tryz.prog.info? 137).isSome=true/\Tryz.prog.cellsOf 137=1/\tk Tryz.prog 146=.one:=⟨rfl,rfl,rfl,rfl,rfl,rfl,rfl,rfl,rfl,rfl,rfl,rfl,rfl,rfl,rfl,rfl,rfl,rfl,rfl,rfl,rfl,rfl,rfl,rfl⟩
@[go_sem] theorem aa4:(Tryz.prog.info? 146).isSome=true/\Tryz.prog.cellsOf 146=1/\tk Tryz.prog 150=.one/\zd Tryz.prog 150=some [.nilp]/\(Tryz.prog.info? 150).isSome=true/\Tryz.prog.cellsOf 150=1/\tk Tryz.prog 152=.agg 7/\zd Tryz.prog 152=some [.nil,.nil,.nil,.nil,.nil,.nil,.nil]/\bk Tryz.prog 152=some (.st [(0,3),(3,3),(6,1)])/\(Tryz.prog.info? 152).isSome=true/\Tryz.prog.cellsOf 152=7/\tk Tryz.prog 157=.agg 2/\zd Tryz.prog 157=some [.int .i64 (0),.int .i64 (0)]/\bk Tryz.prog 157=some (.st [(0,1),(1,1)])/\(Tryz.prog.info? 157).isSome=true/\Tryz.prog.cellsOf 157=2/\tk Tryz.prog 159=.agg 4/\zd Tryz.prog 159=some [.int .i64 (0),.int .i64 (0),.int .i64 (0),.int .i64 (0)]/\bk Tryz.prog 159=some (.st [(0,1),(1,1),(2,2)])/\(Tryz.prog.info? 159).isSome=true/\Tryz.prog.cellsOf 159=4/\tk Tryz.prog 166=.one/\zd Tryz.prog 166=some [.nilf]/\(Tryz.prog.info? 166).isSome=true:=⟨rfl,rfl,rfl,rfl,rfl,rfl,rfl,rfl,rfl,rfl,rfl,rfl,rfl,rfl,rfl,rfl,rfl,rfl,rfl,rfl,rfl,rfl,rfl,rfl⟩
@[go_sem] theorem aa3:Tryz.prog.cellsOf 166=1/\tk Tryz.prog 167=.one/\zd Tryz.prog 167=some [.nilf]/\(Tryz.prog.info? 167).isSome=true/\Tryz.prog.cellsOf 167=1/\tk Tryz.prog 170=.one/\zd Tryz.prog 170=some [.nil]/\(Tryz.prog.info? 170).isSome=true/\Tryz.prog.cellsOf 170=1/\tk Tryz.prog 172=.agg 4/\zd Tryz.prog 172=some [.str ⟨#[]⟩,.int .i64 (0),.bool false,.nil]/\bk Tryz.prog 172=some (.st [(0,1),(1,1),(2,1),(3,1)])/\(Tryz.prog.info? 172).isSome=true/\Tryz.prog.cellsOf 172=4/\tk Tryz.prog 174=.agg 7/\zd Tryz.prog 174=some [.str ⟨#[]⟩,.int .i64 (0),.int .i64 (0),.int .i64 (0),.int .i64 (0),.int .i64 (0),.int .i64 (0)]/\bk Tryz.prog 174=some (.st [(0,1),(1,1),(2,1),(3,1),(4,1),(5,1),(6,1)])/\(Tryz.prog.info? 174).isSome=true/\Tryz.prog.cellsOf 174=7/\tk Tryz.prog 176=.one/\(Tryz.prog.info? 176).isSome=true/\Tryz.prog.cellsOf 176=1/\tk Tryz.prog 182=.one/\(Tryz.prog.info? 182).isSome=true:=⟨rfl,rfl,rfl,rfl,rfl,rfl,rfl,rfl,rfl,rfl,rfl,rfl,rfl,rfl,rfl,rfl,rfl,rfl,rfl,rfl,rfl,rfl,rfl,rfl⟩
@[go_sem] theorem aa2:Tryz.prog.cellsOf 182=1/\tk Tryz.prog 191=.one/\(Tryz.prog.info? 191).isSome=true/\Tryz.prog.cellsOf 191=1/\tk Tryz.prog 193=.one/\(Tryz.prog.info? 193).isSome=true/\Tryz.prog.cellsOf 193=1/\tk Tryz.prog 202=.one/\zd Tryz.prog 202=some [.nilf]/\(Tryz.prog.info? 202).isSome=true/\Tryz.prog.cellsOf 202=1/\tk Tryz.prog 209=.one/\(Tryz.prog.info? 209).isSome=true/\Tryz.prog.cellsOf 209=1/\tk Tryz.prog 214=.one/\zd Tryz.prog 214=some [.nilp]/\(Tryz.prog.info? 214).isSome=true/\Tryz.prog.cellsOf 214=1/\tk Tryz.prog 217=.one/\(Tryz.prog.info? 217).isSome=true/\Tryz.prog.cellsOf 217=1/\tk Tryz.prog 227=.agg 2/\zd Tryz.prog 227=some [.int .u8 (0),.int .u8 (0)]/\bk Tryz.prog 227=some (.ar 1):=⟨rfl,rfl,rfl,rfl,rfl,rfl,rfl,rfl,rfl,rfl,rfl,rfl,rfl,rfl,rfl,rfl,rfl,rfl,rfl,rfl,rfl,rfl,rfl,rfl⟩
@[go_sem] theorem aa1:PO Tryz.prog 227=some (2,1)/\(Tryz.prog.info? 227).isSome=true/\Tryz.prog.cellsOf 227=2/\tk Tryz.prog 230=.one/\(Tryz.prog.info? 230).isSome=true/\Tryz.prog.cellsOf 230=1/\tk Tryz.prog 236=.agg 3/\zd Tryz.prog 236=some [.int .u8 (0),.int .u8 (0),.int .u8 (0)]/\bk Tryz.prog 236=some (.ar 1)/\PO Tryz.prog 236=some (3,1)/\(Tryz.prog.info? 236).isSome=true/\Tryz.prog.cellsOf 236=3/\tk Tryz.prog 242=.one/\zd Tryz.prog 242=some [.nil]/\(Tryz.prog.info? 242).isSome=true/\Tryz.prog.cellsOf 242=1/\tk Tryz.prog 243=.one/\(Tryz.prog.info? 243).isSome=true/\Tryz.prog.cellsOf 243=1/\tk Tryz.prog 246=.one/\zd Tryz.prog 246=some [.nilf]/\(Tryz.prog.info? 246).isSome=true/\Tryz.prog.cellsOf 246=1/\tk Tryz.prog 254=.agg 5:=⟨rfl,rfl,rfl,rfl,rfl,rfl,rfl,rfl,rfl,rfl,rfl,rfl,rfl,rfl,rfl,rfl,rfl,rfl,rfl,rfl,rfl,rfl,rfl,rfl⟩
@[go_sem] theorem aa0:zd Tryz.prog 254=some [.int .i64 (0),.int .i64 (0),.int .i64 (0),.int .i64 (0),.int .i64 (0)]/\bk Tryz.prog 254=some (.st [(0,1),(1,2),(3,2)])/\(Tryz.prog.info? 254).isSome=true/\Tryz.prog.cellsOf 254=5/\tk Tryz.prog 273=.agg 8/\zd Tryz.prog 273=some [.nil,.nil,.nil,.nil,.nil,.nil,.nil,.nil]/\bk Tryz.prog 273=some (.st [(0,2),(2,2),(4,2),(6,2)])/\(Tryz.prog.info? 273).isSome=true/\Tryz.prog.cellsOf 273=8/\tk Tryz.prog 275=.one/\zd Tryz.prog 275=some [.nil]/\(Tryz.prog.info? 275).isSome=true/\Tryz.prog.cellsOf 275=1/\tk Tryz.prog 276=.one/\(Tryz.prog.info? 276).isSome=true/\Tryz.prog.cellsOf 276=1/\tk Tryz.prog 280=.one/\zd Tryz.prog 280=some [.nil]/\(Tryz.prog.info? 280).isSome=true/\Tryz.prog.cellsOf 280=1/\tk Tryz.prog 282=.agg 5/\zd Tryz.prog 282=some [.int .i64 (0),.nil,.nil,.nil,.nil]/\bk Tryz.prog 282=some (.st [(0,1),(1,3),(4,1)])/\(Tryz.prog.info? 282).isSome=true:=⟨rfl,rfl,rfl,rfl,rfl,rfl,rfl,rfl,rfl,rfl,rfl,rfl,rfl,rfl,rfl,rfl,rfl,rfl,rfl,rfl,rfl,rfl,rfl,rfl⟩
@[go_sem] theorem aaZ:Tryz.prog.cellsOf 282=5/\tk Tryz.prog 283=.one/\(Tryz.prog.info? 283).isSome=true/\Tryz.prog.cellsOf 283=1/\tk Tryz.prog 285=.one/\(Tryz.prog.info? 285).isSome=true/\Tryz.prog.cellsOf 285=1/\tk Tryz.prog 288=.one/\(Tryz.prog.info? 288).isSome=true/\Tryz.prog.cellsOf 288=1/\tk Tryz.prog 289=.one/\(Tryz.prog.info? 289).isSome=true/\Tryz.prog.cellsOf 289=1/\tk Tryz.prog 292=.agg 2/\zd Tryz.prog 292=some [.int .i64 (0),.int .i64 (0)]/\bk Tryz.prog 292=some (.st [(0,1),(1,1)])/\(Tryz.prog.info? 292).isSome=true/\Tryz.prog.cellsOf 292=2/\tk Tryz.prog 301=.one/\zd Tryz.prog 301=some [.nil]/\(Tryz.prog.info? 301).isSome=true/\Tryz.prog.cellsOf 301=1/\tk Tryz.prog 302=.agg 2/\zd Tryz.prog 302=some [.int .i64 (0),.int .i64 (0)]:=⟨rfl,rfl,rfl,rfl,rfl,rfl,rfl,rfl,rfl,rfl,rfl,rfl,rfl,rfl,rfl,rfl,rfl,rfl,rfl,rfl,rfl,rfl,rfl,rfl⟩
@[go_sem] theorem aaY:bk Tryz.prog 302=some (.ar 1)/\PO Tryz.prog 302=some (2,1)/\(Tryz.prog.info? 302).isSome=true/\Tryz.prog.cellsOf 302=2/\tk Tryz.prog 304=.one/\zd Tryz.prog 304=some [.int .i8 (0)]/\A8 Tryz.prog 304=some .i8/\(Tryz.prog.info? 304).isSome=true/\Tryz.prog.cellsOf 304=1/\tk Tryz.prog 305=.agg 4/\zd Tryz.prog 305=some [.int .i8 (0),.int .i8 (0),.int .i8 (0),.int .i8 (0)]/\bk Tryz.prog 305=some (.ar 1)/\PO Tryz.prog 305=some (4,1)/\(Tryz.prog.info? 305).isSome=true/\Tryz.prog.cellsOf 305=4/\tk Tryz.prog 306=.one/\zd Tryz.prog 306=some [.nil]/\(Tryz.prog.info? 306).isSome=true/\Tryz.prog.cellsOf 306=1/\tk Tryz.prog 319=.agg 3/\zd Tryz.prog 319=some [.int .i64 (0),.str ⟨#[]⟩,.int .i64 (0)]/\bk Tryz.prog 319=some (.st [(0,1),(1,1),(2,1)])/\(Tryz.prog.info? 319).isSome=true/\Tryz.prog.cellsOf 319=3:=⟨rfl,rfl,rfl,rfl,rfl,rfl,rfl,rfl,rfl,rfl,rfl,rfl,rfl,rfl,rfl,rfl,rfl,rfl,rfl,rfl,rfl,rfl,rfl,rfl⟩
@[go_sem] theorem aaX:tk Tryz.prog 321=.one/\(Tryz.prog.info? 321).isSome=true/\Tryz.prog.cellsOf 321=1/\tk Tryz.prog 326=.one/\(Tryz.prog.info? 326).isSome=true/\Tryz.prog.cellsOf 326=1/\tk Tryz.prog 330=.one/\zd Tryz.prog 330=some [.nilf]/\(Tryz.prog.info? 330).isSome=true/\Tryz.prog.cellsOf 330=1/\tk Tryz.prog 333=.one/\zd Tryz.prog 333=some [.nilf]/\(Tryz.prog.info? 333).isSome=true/\Tryz.prog.cellsOf 333=1/\tk Tryz.prog 334=.one/\(Tryz.prog.info? 334).isSome=true/\Tryz.prog.cellsOf 334=1/\tk Tryz.prog 337=.one/\zd Tryz.prog 337=some [.nilf]/\(Tryz.prog.info? 337).isSome=true/\Tryz.prog.cellsOf 337=1/\tk Tryz.prog 342=.one/\zd Tryz.prog 342=some [.nil]/\(Tryz.prog.info? 342).isSome=true:=⟨rfl,rfl,rfl,rfl,rfl,rfl,rfl,rfl,rfl,rfl,rfl,rfl,rfl,rfl,rfl,rfl,rfl,rfl,rfl,rfl,rfl,rfl,rfl,rfl⟩
@[go_sem] theorem aaW:Tryz.prog.cellsOf 342=1/\tk Tryz.prog 343=.one/\zd Tryz.prog 343=some [.nil]/\(Tryz.prog.info? 343).isSome=true/\Tryz.prog.cellsOf 343=1/\tk Tryz.prog 347=.agg 6/\zd Tryz.prog 347=some [.nil,.nil,.nil,.nil,.nil,.bool false]/\bk Tryz.prog 347=some (.st [(0,2),(2,3),(5,1)])/\(Tryz.prog.info? 347).isSome=true/\Tryz.prog.cellsOf 347=6/\tk Tryz.prog 349=.one/\zd Tryz.prog 349=some [.int .u64 (0)]/\A8 Tryz.prog 349=some .u64/\(Tryz.prog.info? 349).isSome=true/\Tryz.prog.cellsOf 349=1/\tk Tryz.prog 350=.one/\(Tryz.prog.info? 350).isSome=true/\Tryz.prog.cellsOf 350=1/\tk Tryz.prog 354=.agg 2/\zd Tryz.prog 354=some [.int .i64 (0),.int .i64 (0)]/\bk Tryz.prog 354=some (.st [(0,1),(1,1)])/\(Tryz.prog.info? 354).isSome=true/\Tryz.prog.cellsOf 354=2/\tk Tryz.prog 360=.one:=⟨rfl,rfl,rfl,rfl,rfl,rfl,rfl,rfl,rfl,rfl,rfl,rfl,rfl,rfl,rfl,rfl,rfl,rfl,rfl,rfl,rfl,rfl,rfl,rfl⟩
@[go_sem] theorem aaV:(Tryz.prog.info? 360).isSome=true/\Tryz.prog.cellsOf 360=1/\tk Tryz.prog 362=.one/\zd Tryz.prog 362=some [.nilf]/\(Tryz.prog.info? 362).isSome=true/\Tryz.prog.cellsOf 362=1/\tk Tryz.prog 363=.one/\(Tryz.prog.info? 363).isSome=true/\Tryz.prog.cellsOf 363=1/\tk Tryz.prog 371=.one/\(Tryz.prog.info? 371).isSome=true/\Tryz.prog.cellsOf 371=1/\tk Tryz.prog 376=.one/\zd Tryz.prog 376=some [.nilf]/\(Tryz.prog.info? 376).isSome=true/\Tryz.prog.cellsOf 376=1/\tk Tryz.prog 378=.one/\(Tryz.prog.info? 378).isSome=true/\Tryz.prog.cellsOf 378=1/\tk Tryz.prog 383=.one/\zd Tryz.prog 383=some [.nilf]/\(Tryz.prog.info? 383).isSome=true/\Tryz.prog.cellsOf 383=1/\tk Tryz.prog 387=.one:=⟨rfl,rfl,rfl,rfl,rfl,rfl,rfl,rfl,rfl,rfl,rfl,rfl,rfl,rfl,rfl,rfl,rfl,rfl,rfl,rfl,rfl,rfl,rfl,rfl⟩
@[go_sem] theorem aaU:zd Tryz.prog 387=some [.nilf]/\(Tryz.prog.info? 387).isSome=true/\Tryz.prog.cellsOf 387=1/\tk Tryz.prog 390=.one/\zd Tryz.prog 390=some [.int .u32 (0)]/\A8 Tryz.prog 390=some .u32/\(Tryz.prog.info? 390).isSome=true/\Tryz.prog.cellsOf 390=1/\tk Tryz.prog 391=.one/\(Tryz.prog.info? 391).isSome=true/\Tryz.prog.cellsOf 391=1/\tk Tryz.prog 393=.one/\(Tryz.prog.info? 393).isSome=true/\Tryz.prog.cellsOf 393=1/\tk Tryz.prog 398=.one/\zd Tryz.prog 398=some [.nilp]/\(Tryz.prog.info? 398).isSome=true/\Tryz.prog.cellsOf 398=1/\tk Tryz.prog 400=.agg 12/\zd Tryz.prog 400=some [.nil,.nil,.nil,.nil,.nil,.nil,.nil,.bool false,.int .i64 (0),.nil,.nil,.nil]/\bk Tryz.prog 400=some (.st [(0,2),(2,2),(4,1),(5,2),(7,1),(8,1),(9,1),(10,1),(11,1)])/\(Tryz.prog.info? 400).isSome=true/\Tryz.prog.cellsOf 400=12/\tk Tryz.prog 404=.one:=⟨rfl,rfl,rfl,rfl,rfl,rfl,rfl,rfl,rfl,rfl,rfl,rfl,rfl,rfl,rfl,rfl,rfl,rfl,rfl,rfl,rfl,rfl,rfl,rfl⟩
@[go_sem] theorem aaT:zd Tryz.prog 404=some [.int .i64 (0)]/\A8 Tryz.prog 404=some .i64/\(Tryz.prog.info? 404).isSome=true/\Tryz.prog.cellsOf 404=1/\tk Tryz.prog 405=.one/\(Tryz.prog.info? 405).isSome=true/\Tryz.prog.cellsOf 405=1/\tk Tryz.prog 412=.one/\zd Tryz.prog 412=some [.nilp]/\(Tryz.prog.info? 412).isSome=true/\Tryz.prog.cellsOf 412=1/\tk Tryz.prog 414=.agg 11/\zd Tryz.prog 414=some [.nil,.nil,.nil,.nil,.nil,.nil,.nil,.nil,.bool false,.int .i64 (0),.nil]/\bk Tryz.prog 414=some (.st [(0,2),(2,2),(4,2),(6,2),(8,1),(9,1),(10,1)])/\(Tryz.prog.info? 414).isSome=true/\Tryz.prog.cellsOf 414=11/\tk Tryz.prog 415=.one/\zd Tryz.prog 415=some [.nilf]/\(Tryz.prog.info? 415).isSome=true/\Tryz.prog.cellsOf 415=1/\tk Tryz.prog 430=.one/\zd Tryz.prog 430=some [.int .u64 (0)]/\A8 Tryz.prog 430=some .u64/\(Tryz.prog.info? 430).isSome=true:=⟨rfl,rfl,rfl,rfl,rfl,rfl,rfl,rfl,rfl,rfl,rfl,rfl,rfl,rfl,rfl,rfl,rfl,rfl,rfl,rfl,rfl,rfl,rfl,rfl⟩
@[go_sem] theorem aaS:Tryz.prog.cellsOf 430=1/\tk Tryz.prog 434=.one/\zd Tryz.prog 434=some [.nilp]/\(Tryz.prog.info? 434).isSome=true/\Tryz.prog.cellsOf 434=1/\tk Tryz.prog 441=.one/\zd Tryz.prog 441=some [.nilp]/\(Tryz.prog.info? 441).isSome=true/\Tryz.prog.cellsOf 441=1/\Tryz.f5.results.toList=[.tmp 4]/\Tryz.f12.results.toList=[.tmp 0]/\Tryz.f13.results.toList=[.tmp 6]/\Tryz.f15.results.toList=[.cell 8 53,.tmp 9]/\Tryz.f22.results.toList=[.cell 2 25,.cell 3 41,.cell 4 44]/\Tryz.f23.results.toList=[.cell 6 44,.cell 7 36]/\Tryz.f24.results.toList=[.tmp 6,.tmp 7]/\Tryz.f25.results.toList=[.cell 4 36]/\Tryz.f26.results.toList=[.cell 6 36,.tmp 7]/\Tryz.f33.results.toList=[.tmp 4]/\Tryz.f36.results.toList=[.tmp 2]/\Tryz.f48.results.toList=[.tmp 4,.tmp 5]/\Tryz.f51.results.toList=[.cell 0 25]/\Tryz.f52.results.toList=[.cell 0 41]/\Tryz.f53.results.toList=[.cell 2 36]:=⟨rfl,rfl,rfl,rfl,rfl,rfl,rfl,rfl,rfl,rfl,rfl,rfl,rfl,rfl,rfl,rfl,rfl,rfl,rfl,rfl,rfl,rfl,rfl,rfl⟩
@[go_sem] theorem aaR:Tryz.f54.results.toList=[.tmp 2]/\Tryz.f55.results.toList=[.tmp 8]/\Tryz.f56.results.toList=[.tmp 4]/\Tryz.f57.results.toList=[.tmp 6]/\Tryz.f58.results.toList=[.cell 8 53,.tmp 9]/\Tryz.f68.results.toList=[.tmp 2]/\Tryz.f73.results.toList=[.cell 4 25]/\Tryz.f74.results.toList=[.cell 6 65]/\Tryz.f75.results.toList=[.cell 4 41]/\Tryz.f76.results.toList=[.cell 4 44]/\Tryz.f77.results.toList=[.tmp 4]/\Tryz.f78.results.toList=[.cell 4 29,.tmp 5]/\Tryz.f79.results.toList=[.tmp 8,.tmp 9]/\Tryz.f80.results.toList=[.tmp 4]/\Tryz.f81.results.toList=[.tmp 4]/\Tryz.f82.results.toList=[.tmp 2]/\Tryz.f83.results.toList=[.tmp 4]/\Tryz.f96.results.toList=[.tmp 4]/\Tryz.f97.results.toList=[.tmp 6]/\Tryz.f103.results.toList=[.tmp 2,.tmp 3]/\Tryz.f111.results.toList=[.cell 2 41]/\Tryz.f124.results.toList=[.tmp 6]/\Tryz.f125.results.toList=[.tmp 4]/\Tryz.f127.results.toList=[.tmp 2]:=⟨rfl,rfl,rfl,rfl,rfl,rfl,rfl,rfl,rfl,rfl,rfl,rfl,rfl,rfl,rfl,rfl,rfl,rfl,rfl,rfl,rfl,rfl,rfl,rfl⟩
@[go_sem] theorem aaQ:Tryz.f128.results.toList=[.tmp 2]/\Tryz.f129.results.toList=[.tmp 4]/\Tryz.f130.results.toList=[.tmp 2]/\Tryz.f131.results.toList=[.tmp 6]/\Tryz.f132.results.toList=[.tmp 6]/\Tryz.f133.results.toList=[.tmp 2]/\Tryz.f134.results.toList=[.tmp 8]/\Tryz.f135.results.toList=[.tmp 2,.tmp 3]/\Tryz.f136.results.toList=[.tmp 4]/\Tryz.f137.results.toList=[.tmp 4,.tmp 5]/\Tryz.f138.results.toList=[.tmp 8]/\Tryz.f139.results.toList=[.cell 8 29,.tmp 9]/\Tryz.f140.results.toList=[.cell 8 35,.tmp 9]/\Tryz.f141.results.toList=[.tmp 12,.tmp 13]/\Tryz.f142.results.toList=[.cell 2 46]/\Tryz.f143.results.toList=[.cell 2 44]/\Tryz.f144.results.toList=[.tmp 4]/\Tryz.f145.results.toList=[.tmp 12]/\Tryz.f146.results.toList=[]/\Tryz.f147.results.toList=[.tmp 4]/\Tryz.f157.results.toList=[.cell 2 29]/\Tryz.f159.results.toList=[.tmp 2]/\Tryz.f161.results.toList=[.tmp 4]/\Tryz.f165.results.toList=[.cell 4 33]:=⟨rfl,rfl,rfl,rfl,rfl,rfl,rfl,rfl,rfl,rfl,rfl,rfl,rfl,rfl,rfl,rfl,rfl,rfl,rfl,rfl,rfl,rfl,rfl,rfl⟩
@[go_sem] theorem aaP:Tryz.f166.results.toList=[.cell 4 35]/\Tryz.f167.results.toList=[.cell 4 29,.cell 5 36,.tmp 6]/\Tryz.f168.results.toList=[.cell 6 29]/\Tryz.f169.results.toList=[.tmp 8]/\Tryz.f170.results.toList=[.cell 6 39]/\Tryz.f171.results.toList=[.tmp 2]/\Tryz.f172.results.toList=[.tmp 8]/\Tryz.f173.results.toList=[.tmp 4]/\Tryz.f174.results.toList=[.tmp 2]/\Tryz.f175.results.toList=[.tmp 2]/\Tryz.f176.results.toList=[.tmp 6]/\Tryz.f177.results.toList=[.tmp 8,.tmp 9]/\Tryz.f178.results.toList=[.tmp 6,.tmp 7]/\Tryz.f179.results.toList=[.tmp 4]/\Tryz.f180.results.toList=[.tmp 4]/\Tryz.f185.results.toList=[.tmp 2]/\Tryz.f188.results.toList=[.tmp 6]/\Tryz.f195.results.toList=[.tmp 4]/\Tryz.f196.results.toList=[.tmp 4]/\Tryz.f201.results.toList=[.tmp 8]/\Tryz.f210.results.toList=[.tmp 2]/\Tryz.f211.results.toList=[.tmp 4]/\Tryz.f214.results.toList=[.tmp 6]/\Tryz.f215.results.toList=[.tmp 4]:=⟨rfl,rfl,rfl,rfl,rfl,rfl,rfl,rfl,rfl,rfl,rfl,rfl,rfl,rfl,rfl,rfl,rfl,rfl,rfl,rfl,rfl,rfl,rfl,rfl⟩
@[go_sem] theorem aaO:Tryz.f216.results.toList=[.tmp 2]/\Tryz.f217.results.toList=[.tmp 6]/\Tryz.f218.results.toList=[.tmp 6]/\Tryz.f219.results.toList=[.tmp 4]/\Tryz.f220.results.toList=[.tmp 4]/\Tryz.f221.results.toList=[.tmp 2]/\Tryz.f222.results.toList=[.tmp 4]/\Tryz.f223.results.toList=[.tmp 4]/\Tryz.f224.results.toList=[.tmp 2]/\Tryz.f225.results.toList=[.tmp 2,.tmp 3]/\Tryz.f226.results.toList=[.tmp 6]/\Tryz.f227.results.toList=[.tmp 2]/\Tryz.f228.results.toList=[.tmp 6]/\Tryz.f229.results.toList=[.tmp 8]/\Tryz.f230.results.toList=[.tmp 10]/\Tryz.f231.results.toList=[.tmp 8,.tmp 9]/\Tryz.f232.results.toList=[.tmp 6]/\Tryz.f233.results.toList=[.tmp 8]/\Tryz.f234.results.toList=[.tmp 2]/\Tryz.f235.results.toList=[.tmp 2]/\Tryz.f236.results.toList=[.tmp 2,.tmp 3]/\Tryz.f237.results.toList=[.tmp 2]/\Tryz.f238.results.toList=[.tmp 6]/\Tryz.f239.results.toList=[.cell 12 282,.tmp 13]:=⟨rfl,rfl,rfl,rfl,rfl,rfl,rfl,rfl,rfl,rfl,rfl,rfl,rfl,rfl,rfl,rfl,rfl,rfl,rfl,rfl,rfl,rfl,rfl,rfl⟩
@[go_sem] theorem aaN:Tryz.f240.results.toList=[.tmp 2]/\Tryz.f241.results.toList=[.tmp 4,.tmp 5]/\Tryz.f242.results.toList=[.tmp 4]/\Tryz.f243.results.toList=[.tmp 4]/\Tryz.f244.results.toList=[.tmp 2,.tmp 3]/\Tryz.f245.results.toList=[.tmp 4,.tmp 5]/\Tryz.f246.results.toList=[.tmp 6]/\Tryz.f260.results.toList=[.cell 6 29]/\Tryz.f261.results.toList=[.cell 4 254]/\Tryz.f262.results.toList=[.cell 6 35]/\Tryz.f263.results.toList=[.tmp 4]/\Tryz.f264.results.toList=[.tmp 4]/\Tryz.f265.results.toList=[.tmp 2]/\Tryz.f266.results.toList=[.tmp 6]/\Tryz.f267.results.toList=[.tmp 2]/\Tryz.f268.results.toList=[.tmp 4]/\Tryz.f269.results.toList=[.tmp 10,.tmp 11]/\Tryz.f270.results.toList=[.tmp 4]/\Tryz.f271.results.toList=[.tmp 4]/\Tryz.f272.results.toList=[.tmp 6]/\Tryz.f275.results.toList=[]/\Tryz.f276.results.toList=[.tmp 2]/\Tryz.f277.results.toList=[.tmp 2]/\Tryz.f278.results.toList=[.tmp 4]:=⟨rfl,rfl,rfl,rfl,rfl,rfl,rfl,rfl,rfl,rfl,rfl,rfl,rfl,rfl,rfl,rfl,rfl,rfl,rfl,rfl,rfl,rfl,rfl,rfl⟩
@[go_sem] theorem aaM:Tryz.f280.results.toList=[.tmp 4]/\Tryz.f281.results.toList=[.tmp 4]/\Tryz.f282.results.toList=[.tmp 4]/\Tryz.f283.results.toList=[.tmp 4]/\Tryz.f286.results.toList=[.tmp 2]/\Tryz.f287.results.toList=[.tmp 4]/\Tryz.f288.results.toList=[.cell 8 118,.tmp 9]/\Tryz.f289.results.toList=[.tmp 2]/\Tryz.f290.results.toList=[.tmp 4]/\Tryz.f291.results.toList=[.tmp 4]/\Tryz.f293.results.toList=[.tmp 2]/\Tryz.f294.results.toList=[.tmp 2,.tmp 3]/\Tryz.f295.results.toList=[.tmp 6]/\Tryz.f296.results.toList=[.tmp 4]/\Tryz.f297.results.toList=[.tmp 3]/\Tryz.f298.results.toList=[.tmp 4]/\Tryz.f299.results.toList=[.tmp 4]/\Tryz.f300.results.toList=[.tmp 3]/\Tryz.f301.results.toList=[.tmp 4]/\Tryz.f302.results.toList=[.tmp 3]/\Tryz.f303.results.toList=[.tmp 4]/\Tryz.f304.results.toList=[.tmp 2,.tmp 3]/\Tryz.f305.results.toList=[.tmp 3]/\Tryz.f306.results.toList=[.tmp 4]:=⟨rfl,rfl,rfl,rfl,rfl,rfl,rfl,rfl,rfl,rfl,rfl,rfl,rfl,rfl,rfl,rfl,rfl,rfl,rfl,rfl,rfl,rfl,rfl,rfl⟩
@[go_sem] theorem aaL:Tryz.f307.results.toList=[.tmp 3]/\Tryz.f308.results.toList=[.tmp 6]/\Tryz.f309.results.toList=[.cell 6 118,.tmp 7]/\Tryz.f310.results.toList=[.tmp 4]/\Tryz.f311.results.toList=[.tmp 4]/\Tryz.f312.results.toList=[.tmp 4]/\Tryz.f313.results.toList=[.tmp 6]/\Tryz.f314.results.toList=[.cell 4 29,.cell 5 36,.tmp 6]/\Tryz.f315.results.toList=[.tmp 6]/\Tryz.f316.results.toList=[.tmp 6]/\Tryz.f317.results.toList=[.tmp 2]/\Tryz.f318.results.toList=[.tmp 6]/\Tryz.f319.results.toList=[.tmp 2]/\Tryz.f320.results.toList=[.tmp 4]/\Tryz.f321.results.toList=[.tmp 3]/\Tryz.f322.results.toList=[.tmp 4]/\Tryz.f323.results.toList=[.tmp 4]/\Tryz.f324.results.toList=[.tmp 6]/\Tryz.f325.results.toList=[.tmp 2]/\Tryz.f326.results.toList=[.tmp 4]/\Tryz.f327.results.toList=[.tmp 2]/\Tryz.f328.results.toList=[.tmp 4]/\Tryz.f329.results.toList=[.tmp 4]/\Tryz.f330.results.toList=[.tmp 2]:=⟨rfl,rfl,rfl,rfl,rfl,rfl,rfl,rfl,rfl,rfl,rfl,rfl,rfl,rfl,rfl,rfl,rfl,rfl,rfl,rfl,rfl,rfl,rfl,rfl⟩
@[go_sem] theorem aaK:Tryz.f331.results.toList=[.tmp 12]/\Tryz.f332.results.toList=[.cell 6 282,.tmp 7]/\Tryz.f333.results.toList=[.tmp 4]/\Tryz.f334.results.toList=[.tmp 2]/\Tryz.f335.results.toList=[.tmp 4,.tmp 5]/\Tryz.f336.results.toList=[.tmp 4,.tmp 5]/\Tryz.f337.results.toList=[.tmp 2]/\Tryz.f342.results.toList=[.tmp 6]/\Tryz.f343.results.toList=[.tmp 4]/\Tryz.f344.results.toList=[.tmp 2]/\Tryz.f345.results.toList=[.tmp 4]/\Tryz.f346.results.toList=[.tmp 12]/\Tryz.f347.results.toList=[.tmp 3,.tmp 4,.tmp 5]/\Tryz.f348.results.toList=[.tmp 4,.tmp 5]/\Tryz.f349.results.toList=[.tmp 2]/\Tryz.f350.results.toList=[.tmp 4]/\Tryz.f351.results.toList=[.tmp 4]/\Tryz.f352.results.toList=[]/\Tryz.f353.results.toList=[.tmp 2]/\Tryz.f354.results.toList=[.tmp 2]/\Tryz.f355.results.toList=[.tmp 4]/\Tryz.f358.results.toList=[.tmp 2]/\Tryz.f359.results.toList=[.cell 4 319,.tmp 5,.tmp 6]/\Tryz.f360.results.toList=[.tmp 4]:=⟨rfl,rfl,rfl,rfl,rfl,rfl,rfl,rfl,rfl,rfl,rfl,rfl,rfl,rfl,rfl,rfl,rfl,rfl,rfl,rfl,rfl,rfl,rfl,rfl⟩
@[go_sem] theorem aaJ:Tryz.f361.results.toList=[.tmp 2]/\Tryz.f362.results.toList=[.tmp 4]/\Tryz.f363.results.toList=[.tmp 4]/\Tryz.f364.results.toList=[.tmp 4]/\Tryz.f365.results.toList=[.tmp 3]/\Tryz.f366.results.toList=[.tmp 2]/\Tryz.f367.results.toList=[.tmp 4]/\Tryz.f368.results.toList=[.tmp 2,.tmp 3,.tmp 4]/\Tryz.f369.results.toList=[.tmp 4]/\Tryz.f370.results.toList=[.tmp 4]/\Tryz.f371.results.toList=[.tmp 4]/\Tryz.f372.results.toList=[.tmp 3]/\Tryz.f373.results.toList=[.tmp 3]/\Tryz.f374.results.toList=[.tmp 4]/\Tryz.f375.results.toList=[.tmp 3]/\Tryz.f376.results.toList=[.tmp 2]/\Tryz.f377.results.toList=[.tmp 2]/\Tryz.f378.results.toList=[.tmp 2,.tmp 3]/\Tryz.f379.results.toList=[.tmp 6]/\Tryz.f380.results.toList=[.tmp 3]/\Tryz.f381.results.toList=[.tmp 4]/\Tryz.f382.results.toList=[.tmp 2]/\Tryz.f383.results.toList=[.tmp 2]/\Tryz.f384.results.toList=[.tmp 3]:=⟨rfl,rfl,rfl,rfl,rfl,rfl,rfl,rfl,rfl,rfl,rfl,rfl,rfl,rfl,rfl,rfl,rfl,rfl,rfl,rfl,rfl,rfl,rfl,rfl⟩
@[go_sem] theorem aaI:Tryz.f385.results.toList=[.tmp 3]/\Tryz.f386.results.toList=[.tmp 4,.tmp 5]/\Tryz.f387.results.toList=[.tmp 4]/\Tryz.f388.results.toList=[.cell 6 282,.tmp 7]/\Tryz.f389.results.toList=[.tmp 2]/\Tryz.f391.results.toList=[.tmp 4,.tmp 5]/\Tryz.f396.results.toList=[.tmp 4]/\Tryz.f397.results.toList=[.tmp 4]/\Tryz.f398.results.toList=[]/\Tryz.f400.results.toList=[.tmp 2]/\Tryz.f401.results.toList=[]/\Tryz.f402.results.toList=[]/\Tryz.f403.results.toList=[]/\Tryz.f404.results.toList=[.tmp 6,.tmp 7]/\Tryz.f405.results.toList=[]/\Tryz.f406.results.toList=[.tmp 6]/\Tryz.f407.results.toList=[.tmp 8]/\Tryz.f408.results.toList=[.tmp 8,.tmp 9]/\Tryz.f409.results.toList=[.tmp 2]/\Tryz.f410.results.toList=[.tmp 2]/\Tryz.f412.results.toList=[.tmp 2]/\Tryz.f413.results.toList=[.tmp 2]/\Tryz.f414.results.toList=[.tmp 6]/\Tryz.f415.results.toList=[.tmp 4]:=⟨rfl,rfl,rfl,rfl,rfl,rfl,rfl,rfl,rfl,rfl,rfl,rfl,rfl,rfl,rfl,rfl,rfl,rfl,rfl,rfl,rfl,rfl,rfl,rfl⟩
@[go_sem] theorem aaH:Tryz.f416.results.toList=[.tmp 0]/\Tryz.f417.results.toList=[.tmp 4]/\Tryz.f418.results.toList=[.tmp 2]/\Tryz.f419.results.toList=[.tmp 4]/\Tryz.f420.results.toList=[.tmp 4]/\Tryz.f421.results.toList=[.tmp 2]/\Tryz.f422.results.toList=[.tmp 4]/\Tryz.f423.results.toList=[.tmp 2]/\Tryz.f424.results.toList=[.tmp 2]/\Tryz.f425.results.toList=[.tmp 2,.tmp 3]/\Tryz.f426.results.toList=[.tmp 2]/\Tryz.f427.results.toList=[.tmp 4]/\Tryz.f428.results.toList=[.tmp 4]/\Tryz.f429.results.toList=[.tmp 4]/\Tryz.f430.results.toList=[.tmp 2]/\Tryz.f431.results.toList=[.tmp 4]/\Tryz.f432.results.toList=[.tmp 2]/\Tryz.f433.results.toList=[.tmp 3]/\Tryz.f434.results.toList=[]/\Tryz.f435.results.toList=[.tmp 2]/\Tryz.f436.results.toList=[]/\Tryz.f437.results.toList=[.tmp 4]/\Tryz.f438.results.toList=[.tmp 4]/\Tryz.f439.results.toList=[.tmp 6,.tmp 7]:=⟨rfl,rfl,rfl,rfl,rfl,rfl,rfl,rfl,rfl,rfl,rfl,rfl,rfl,rfl,rfl,rfl,rfl,rfl,rfl,rfl,rfl,rfl,rfl,rfl⟩
@[go_sem] theorem aaG:Tryz.f441.results.toList=[.tmp 4]/\Tryz.f442.results.toList=[.tmp 2]/\Tryz.f443.results.toList=[.tmp 6]/\Tryz.f444.results.toList=[]/\Tryz.f445.results.toList=[.tmp 2]/\Tryz.f446.results.toList=[.tmp 2]/\Tryz.f447.results.toList=[.tmp 6]/\Tryz.f448.results.toList=[.tmp 10]/\Tryz.f452.results.toList=[.tmp 4]/\Tryz.f453.results.toList=[.tmp 2]/\Tryz.f454.results.toList=[.tmp 4]/\Tryz.f455.results.toList=[.tmp 4]/\Tryz.f456.results.toList=[.tmp 4]/\Tryz.f457.results.toList=[.tmp 6]/\Tryz.f458.results.toList=[.tmp 10,.tmp 11]/\Tryz.f459.results.toList=[.tmp 8,.tmp 9]/\Tryz.f460.results.toList=[.tmp 8,.tmp 9]/\Tryz.f462.results.toList=[.tmp 4]/\Tryz.f463.results.toList=[.tmp 3]:=⟨rfl,rfl,rfl,rfl,rfl,rfl,rfl,rfl,rfl,rfl,rfl,rfl,rfl,rfl,rfl,rfl,rfl,rfl,rfl⟩
attribute [go_sem] Tryz.underlying3 Tryz.underlying4 Tryz.underlying5 Tryz.underlying9 Tryz.underlying22 Tryz.underlying23 Tryz.underlying25 Tryz.underlying26 Tryz.underlying27 Tryz.underlying29 Tryz.underlying30 Tryz.underlying31 Tryz.underlying33 Tryz.underlying35 Tryz.underlying36 Tryz.underlying37 Tryz.underlying39 Tryz.underlying41 Tryz.underlying42 Tryz.underlying44
attribute [go_sem] Tryz.underlying46 Tryz.underlying48 Tryz.underlying53 Tryz.underlying54 Tryz.underlying55 Tryz.underlying61 Tryz.underlying62 Tryz.underlying63 Tryz.underlying65 Tryz.underlying66 Tryz.underlying68 Tryz.underlying69 Tryz.underlying70 Tryz.underlying72 Tryz.underlying74 Tryz.underlying76 Tryz.underlying77 Tryz.underlying79 Tryz.underlying81 Tryz.underlying82
attribute [go_sem] Tryz.underlying85 Tryz.underlying88 Tryz.underlying90 Tryz.underlying96 Tryz.underlying97 Tryz.underlying98 Tryz.underlying103 Tryz.underlying109 Tryz.underlying111 Tryz.underlying113 Tryz.underlying114 Tryz.underlying116 Tryz.underlying118 Tryz.underlying120 Tryz.underlying122 Tryz.underlying130 Tryz.underlying137 Tryz.underlying146 Tryz.underlying150 Tryz.underlying152
attribute [go_sem] Tryz.underlying157 Tryz.underlying159 Tryz.underlying166 Tryz.underlying167 Tryz.underlying170 Tryz.underlying172 Tryz.underlying174 Tryz.underlying176 Tryz.underlying182 Tryz.underlying191 Tryz.underlying193 Tryz.underlying202 Tryz.underlying209 Tryz.underlying214 Tryz.underlying217 Tryz.underlying227 Tryz.underlying230 Tryz.underlying236 Tryz.underlying242 Tryz.underlying243
attribute [go_sem] Tryz.underlying246 Tryz.underlying254 Tryz.underlying273 Tryz.underlying275 Tryz.underlying276 Tryz.underlying280 Tryz.underlying282 Tryz.underlying283 Tryz.underlying285 Tryz.underlying288 Tryz.underlying289 Tryz.underlying292 Tryz.underlying301 Tryz.underlying302 Tryz.underlying304 Tryz.underlying305 Tryz.underlying306 Tryz.underlying319 Tryz.underlying321 Tryz.underlying326
attribute [go_sem] Tryz.underlying330 Tryz.underlying333 Tryz.underlying334 Tryz.underlying337 Tryz.underlying342 Tryz.underlying343 Tryz.underlying347 Tryz.underlying349 Tryz.underlying350 Tryz.underlying354 Tryz.underlying360 Tryz.underlying362 Tryz.underlying363 Tryz.underlying371 Tryz.underlying376 Tryz.underlying378 Tryz.underlying383 Tryz.underlying387 Tryz.underlying390 Tryz.underlying391
attribute [go_sem] Tryz.underlying393 Tryz.underlying398 Tryz.underlying400 Tryz.underlying404 Tryz.underlying405 Tryz.underlying412 Tryz.underlying414 Tryz.underlying415 Tryz.underlying430 Tryz.underlying434 Tryz.underlying441
theorem mixed:Tryz.prog.follows .mixedOrders=true:=rfl
theorem pK {f:FuncId}{fn:Func}{x:Code}{args:List D}{r:D}(cfg:Cfg)(hf:Tryz.prog.funcs[f]?=some fn)(hb:fn.body=some x)
  (h:∀ Q:D->AHeap->Prop,(∀ d H',(oX H' d=r\/Rl (oX H' d)=r)->Q d H')->nW Tryz.prog cfg x (Q0 Tryz.prog fn.results.toList Q) (Au args) .emp)
  (hcl:r.cl=true:=by first|rfl|(simp [go_sem];done)) (hnm:(fn.name=="runtime.NumGoroutine")=false:=by rfl) (hlen:args.length<=fn.ntmps:=by exact aE rfl) (hok:oG cfg fn.ntmps x=true:=by kernel_rfl):Pure Tryz.prog f args r :=
 SM hcl λQ hQ=>aG mixed hf hb hnm hlen hok (h Q hQ)
theorem oK {f:FuncId}{fn:Func}{x:Code}{args:List D}{ty:TypeId}{sz:Nat}{es:List (List D)}(cfg:Cfg)(hf:Tryz.prog.funcs[f]?=some fn)(hb:fn.body=some x)
  (h:∀ Q:D->AHeap->Prop,(∀ id n H',n=es.length->H'.get id=some ⟨ty,sz,es,false⟩->Q (.own id n) H')->nW Tryz.prog cfg x (Q0 Tryz.prog fn.results.toList Q) (Au args) .emp)
  (hcl:D.clLL es=true:=by first|rfl|(simp [go_sem];done)) (hnm:(fn.name=="runtime.NumGoroutine")=false:=by rfl) (hlen:args.length<=fn.ntmps:=by exact aE rfl) (hok:oG cfg fn.ntmps x=true:=by kernel_rfl):Own Tryz.prog f args ty sz es :=
 abQ hcl λQ hQ=>aG mixed hf hb hnm hlen hok (h Q hQ)
end Go.Abs.Tz
end
section
namespace Go.Abs
variable {P:Program} {md:Nat→Bool} {ops:Array Oper} {sp:List (Nat × Nat)} {n0 i:Nat} {rest:List Oper} {acc:List (Nat × List Nat)} {e:dA} {dst:Option Tmp} {K:dA→AHeap→Prop} {f:FuncId} {args:List D} {H:AHeap} {r:D}
end Go.Abs
end
section
set_option maxRecDepth 4000
open Go Go.Proofs
namespace Go.Abs
def iW (c:Int):Bool:=decide (97<=c)&&decide (c<=122)||(decide (65<=c)&&decide (c<=90))
def j4 (c:Int):Bool:=decide (48<=c)&&decide (c<=57)
def oB (c:Int):Bool:=iW c||j4 c||c==95
theorem Bq (c:Int):Pure Tryz.prog 421 [.int .u8 c] (.bool (iW c)):=by
 refine aU (aG (cfg:=⟨λ_=>false,λ_=>[]⟩) Tz.mixed Tryz.func421 rfl rfl (aE rfl) (by kernel_rfl) ?_)
 simp [go_sem,seval,iW,D.cl]
 omega
theorem xW (c:Int):Pure Tryz.prog 424 [.int .u8 c] (.bool (j4 c)):=by
 refine aU (aG (cfg:=⟨λ_=>false,λ_=>[]⟩) Tz.mixed Tryz.func424 rfl rfl (aE rfl) (by kernel_rfl) ?_)
 simp [go_sem,seval,j4,D.cl]
theorem Od (c:Int):Pure Tryz.prog 423 [.int .u8 c] (.bool (oB c)):=by
 refine aU (aG (cfg:=⟨λ_=>false,λ_=>[]⟩) Tz.mixed Tryz.func423 rfl rfl (aE rfl) (by kernel_rfl) ?_)
 simp [go_sem,seval]
 refine aB (Bq c) rfl ?_
 simp [go_sem,seval]
 refine aO (λ_=>xW c) (λ_=>rfl) ?_
 simp [go_sem,seval,oB]
def wL (s:ByteArray)(i:Nat):Int:=((s.data[i]?.getD 0).toNat:Int)
def fW (p:Int->Bool)(s:ByteArray):Nat:=(s.data.toList.takeWhile λb=>p (b.toNat:Int)).length
theorem tQ {α:Type}(p:α->Bool):∀ (l:List α) (n:Nat),(∀ j x,j<n->l[j]?=some x->p x=true)->n<=l.length->(∀ x,l[n]?=some x->p x=false)->(l.takeWhile p).length=n
 | [],n,_,h,_=>by simp at h;subst h;rfl
 | a :: l,0,_,_,h=>by have:=h a rfl;simp [List.takeWhile,this]
 | a :: l,n+1,h1,h2,h3=>by
  have ha:=h1 0 a aD rfl
  simp only [List.takeWhile,ha,eV]
  rw [tQ p l n (λj x hj hx=>h1 (j+1) x aD hx) (bS h2) λx hx=>h3 x hx]
theorem Ix (p:Int->Bool)(s:ByteArray)(n:Nat)(d:∀ j,j<n->p (wL s j)=true)(c:n<=s.size)(e:n<s.size->p (wL s n)=false):fW p s=n:=by
 have a:s.data.toList.length=s.size:=rfl
 have b:∀ j x,s.data.toList[j]?=some x->wL s j=(x.toNat:Int):=λj x hx=>by
  simp only [Array.getElem?_toList] at hx
  simp [wL,hx]
 refine tQ _ _ _ (λj x hj hx=>by rw [<- b j x hx];exact d j hj) (by rw [a];exact c) λx hx=>?_
 grind
theorem R5 (s:ByteArray)(i:Nat):0<=wL s i/\wL s i<=255:=by
 unfold wL
 have:=(s.data[i]?.getD 0).toNat_lt
 omega
theorem CO (s:ByteArray)(g:FuncId)(p:Int->Bool)(t:s.size<=1000000)(o:∀ c,0<=c->c<=255->Pure Tryz.prog g [.int .u8 c] (.bool (p c))) :
  Pure Tryz.prog 422 [.str s,.fn g []] (dI (fW p s)):=by
 refine aU (aG (cfg:=⟨λ_=>false,λ_=>[]⟩) Tz.mixed Tryz.func422 rfl rfl (aE rfl) (by kernel_rfl) ?_)
 simp [go_sem,seval]
 refine fD (ι:=Nat) (λn e H=>H=.emp/\n<=s.size/\e 0=.str s/\e 1=.fn g []/\e 5=dI n/\(∀ j,j<n->p (wL s j)=true)) (λn=>s.size - n) 0 (by simp [go_sem,seval,dI]) ?_
 intro n e H ⟨q,m,k,i,d,l⟩
 subst q
 simp [go_sem,seval,k,i,d,dI]
 have f:=R5 s n
 refine aO (r:=.bool (p (wL s n))) (λ_=>o _ f.1 f.2) (λ_=>rfl) ?_
 simp [go_sem,seval]
 refine aP (λh=>?_) (λh=>?_)
 .simp at h
  simp [go_sem,seval,k,i,d,dI]
  refine ⟨cZ aD aD,n+1,aD,aD,aD,λj hj=>?_⟩
  grind
 .simp at h
  simp [go_sem,seval,d,dI]
  rw [Ix p s n l m h]
def idx {α:Type}[DecidableEq α](xs:List α)(v:α):Int:=match xs.findIdx? (λx=>decide (x=v)) with|some i=>i|none=>-1
def mem {α:Type}[DecidableEq α](xs:List α)(v:α):Bool:=decide (0<=idx xs v)
theorem u3 {α:Type}[DecidableEq α]{xs:List α}{v:α}{i:Nat}(h:∀ j,j<i->xs[j]?≠some v)(hi:xs[i]?=some v):idx xs v=i:=by
 have:xs.findIdx? (λx=>decide (x=v))=some i:=by
  rw [iS]
  grind
 simp [idx,this]
theorem B9 {α:Type}[DecidableEq α]{xs:List α}{v:α}(h:∀ j,j<xs.length->xs[j]?≠some v):idx xs v = -1:=by
 have:xs.findIdx? (λx=>decide (x=v))=none:=by
  rw [rJ]
  intro x a
  obtain ⟨j,b,rfl⟩:=aK a
  grind
 simp [idx,this]
theorem UD {α:Type}[DecidableEq α](xs:List α)(v:α):0<=idx xs v↔v∈xs:=by
 unfold idx
 grind
theorem cQ {α:Type}[DecidableEq α](xs:List α)(v:α):mem xs v=true↔v∈xs:=by simp [mem,UD]
theorem RK (xs:List ByteArray)(v:ByteArray):Pure Tryz.prog 452 [qA xs,.str v] (dI (idx xs v)):=by
 refine aU (aG (cfg:=⟨λ_=>false,λ_=>[]⟩) Tz.mixed Tryz.func452 rfl rfl (aE rfl) (by kernel_rfl) ?_)
 simp [go_sem,seval,dI,qA]
 intro f
 refine fD (ι:=Nat) (λi e H=>H=.emp/\i<=xs.length/\e 0=qA xs/\e 1=.str v/\e 7=dI xs.length/\e 8=dI i/\(∀ j,j<i->xs[j]?≠some v)) (λi=>xs.length - i) 0 (by simp [go_sem,seval,dI,qA]) ?_
 intro i e H ⟨m,n,l,k,g,c,d⟩
 subst m
 simp [go_sem,seval,g,c,dI,qA]
 refine fL (λhlt=>?_) (λhge=>?_)
 .simp [go_sem,seval,l,k,c,dI,qA,cS,hlt]
  refine aP (λh=>?_) (λh=>?_)
  .simp at h
   simp [go_sem,seval]
   rw [u3 d (by rw [aA hlt,h])]
  .simp at h
   simp [go_sem,seval,l,k,g,c,dI,qA]
   refine ⟨cZ aD aD,i+1,aD,aD,aD,λj hj=>?_⟩
   grind
 .simp [go_sem,seval]
  rw [B9 λj hj=>d j aD]
theorem Cm (xs:List ByteArray)(v:ByteArray):Pure Tryz.prog 420 [qA xs,.str v] (.bool (mem xs v)):=by
 refine aU (aG (cfg:=⟨λ_=>false,λ_=>[]⟩) Tz.mixed Tryz.func420 rfl rfl (aE rfl) (by kernel_rfl) ?_)
 simp [go_sem,seval]
 refine aB (RK xs v) (by simp [D.clL,go_sem,D.cl]) ?_
 simp [go_sem,seval,dI,mem]
theorem RL (xs:List Int)(v:Int):Pure Tryz.prog 180 [dLI xs,dI v] (dI (idx xs v)):=by
 refine aU (aG (cfg:=⟨λ_=>false,λ_=>[]⟩) Tz.mixed Tryz.func180 rfl rfl (aE rfl) (by kernel_rfl) ?_)
 simp [go_sem,seval,dI,dLI]
 intro f
 refine fD (ι:=Nat) (λi e H=>H=.emp/\i<=xs.length/\e 0=dLI xs/\e 1=dI v/\e 7=dI xs.length/\e 8=dI i/\(∀ j,j<i->xs[j]?≠some v)) (λi=>xs.length - i) 0 (by simp [go_sem,seval,dI,dLI]) ?_
 intro i e H ⟨m,n,l,k,g,c,d⟩
 subst m
 simp [go_sem,seval,g,c,dI,dLI]
 refine fL (λhlt=>?_) (λhge=>?_)
 .simp [go_sem,seval,l,k,c,dI,dLI,cI,hlt]
  refine aP (λh=>?_) (λh=>?_)
  .simp at h
   simp [go_sem,seval]
   rw [u3 d (by rw [aA hlt,h])]
  .simp at h
   simp [go_sem,seval,l,k,g,c,dI,dLI]
   refine ⟨cZ aD aD,i+1,aD,aD,aD,λj hj=>?_⟩
   grind
 .simp [go_sem,seval]
  rw [B9 λj hj=>d j aD]
theorem fF (xs:List Int)(v:Int):Pure Tryz.prog 83 [dLI xs,dI v] (.bool (mem xs v)):=by
 refine aU (aG (cfg:=⟨λ_=>false,λ_=>[]⟩) Tz.mixed Tryz.func83 rfl rfl (aE rfl) (by kernel_rfl) ?_)
 simp [go_sem,seval]
 refine aB (RL xs v) (by simp [D.clL,go_sem,D.cl,dI]) ?_
 simp [go_sem,seval,dI,mem]
def n8 (c:Int):Bool:=decide (32<=c)&&decide (c<=126)&&c != 34
theorem HD (c:Int):Pure Tryz.prog 453 [.int .u8 c] (.bool (n8 c)):=by
 refine aU (aG (cfg:=⟨λ_=>false,λ_=>[]⟩) Tz.mixed Tryz.func453 rfl rfl (aE rfl) (by kernel_rfl) ?_)
 simp [go_sem,seval,n8,D.cl]
def vU (s:ByteArray):Int × Int :=
 let n:=fW n8 (s.extract 1 s.size)
 if (1+(n:Int)=s.size)\/wL s (1+n)≠34 then (0,2) else if 60<n then (0,3) else (n+2,0)
theorem CZ (p:Int->Bool)(s:ByteArray):fW p s<=s.size:=by
 have:=(List.takeWhile_sublist (l:=s.data.toList) (λb:UInt8=>p (b.toNat:Int))).length_le
 exact this
theorem JR (s:ByteArray)(i:1<=s.size)(g:s.size<=100000):Pure Tryz.prog 425 [.str s] (.tup [dI (vU s).1,dI (vU s).2]):=by
 refine aU (aG (cfg:=⟨λ_=>false,λ_=>[]⟩) Tz.mixed Tryz.func425 rfl rfl (aE rfl) (by kernel_rfl) ?_)
 simp [go_sem,seval]
 have d:(s.extract 1 s.size).size<=1000000:=by rw [ByteArray.size_extract];omega
 refine ⟨aD,aB (CO (s.extract 1 s.size) _ _ d (λc _ _=>HD c)) rfl ?_⟩
 have e:=CZ n8 (s.extract 1 s.size)
 rw [ByteArray.size_extract] at e
 simp [go_sem,seval,dI]
 unfold vU
 generalize fW n8 (s.extract 1 s.size)=n at *
 have f:((s.data[(1+(n:Int)).toNat]?.getD 0).toNat:Int)=wL s (1+n):=by
  unfold wL;congr 3
 rw [f]
 refine ⟨cZ aD aD,λ_=>cZ aD aD,λh=>by omega,aP (λh=>?_) (λh=>?_)⟩
 .simp at h
  simp [go_sem,seval,h]
 .simp at h
  simp [go_sem,seval,h]
  refine aP (λh6=>?_) (λh6=>?_)
  .simp at h6
   simp [go_sem,seval,(aD:60<n)]
  .simp at h6
   simp [go_sem,seval,(aD:¬ 60<n)]
   exact cZ aD aD
def IN:List ByteArray:=[⟨#[45,62]⟩,⟨#[60,61]⟩,⟨#[62,61]⟩,⟨#[61,61]⟩,⟨#[33,61]⟩]
theorem Oe (s:ByteArray):Pure Tryz.prog 426 [.str s] (.bool (decide ((2:Int)<=s.size)&&mem IN (s.extract 0 2))):=by
 refine aU (aG (cfg:=⟨λ_=>false,λ_=>[]⟩) Tz.mixed Tryz.func426 rfl rfl (aE rfl) (by kernel_rfl) ?_)
 simp [go_sem,seval]
 refine aO (r:=.bool (mem IN (s.extract 0 2))) (λ_=>Cm IN (s.extract 0 2)) (λ_=>rfl) ?_
 simp [go_sem,seval]
def PZ:ByteArray:=⟨#[123,125,40,41,91,93,44,59,58,61,43,45,42,60,62,33,38,124,46,63]⟩
def Ky (s:ByteArray)(c:Int):Int:=firstIdx s c.toNat.toUInt8
theorem NB (s:ByteArray)(c:Int)(w:World):(callFunc 461 #[.string s,.int .u8 c]).run Tryz.prog w=.ok (.value (.int .i64 (firstIdx s c.toNat.toUInt8))) w:=by
 rw [run_callFunc_extern Tryz.func461 (by kernel_rfl) (by kernel_rfl) (by kernel_rfl) (e:=Extern.BytealgIndexByte.indexByte) (by kernel_rfl),run_indexByte_string]
 rfl
set_option maxHeartbeats 400000 in
open RowKit in
theorem Bt (s:ByteArray)(c:Int)(w:World) :
  Calls Tryz.prog 454 #[.string s,.int .u8 c] w λe w'=>e=.returned (.int .i64 (firstIdx s c.toNat.toUInt8))/\w'=w:=by
 have h:=NB s c
 go_wp2
 go_ret
 simp_all
theorem xI (s:ByteArray)(c:Int):Pure Tryz.prog 454 [.str s,.int .u8 c] (dI (Ky s c)):=by
 refine ⟨⟨Tryz.f454,Tryz.func454,rfl,rfl⟩,λM w vals hM ha=>?_⟩
 have g:vals=[.string s,.int .u8 c]:=by
  obtain ⟨h,f⟩:=ha
  match vals,h with
  | [a,b],_ =>
   have j:=f 0 a _ rfl rfl
   have d:=f 1 b _ rfl rfl
   cases j
   cases d
   rfl
 subst g
 exact (Bt s c w).mono λe w' ⟨d,i⟩=>⟨_,d,.int _ _,by subst i;exact ⟨rfl,rfl,rfl,bC _,λ_ _=>rfl⟩⟩
theorem Bu (s:ByteArray)(c:Int):Pure Tryz.prog 427 [.str s,.int .u8 c] (dI (Ky s c)):=by
 refine aU (aG (cfg:=⟨λ_=>false,λ_=>[]⟩) Tz.mixed Tryz.func427 rfl rfl (aE rfl) (by kernel_rfl) ?_)
 simp [go_sem,seval]
 refine aB (xI s c) rfl ?_
 simp [go_sem,seval,dI]
def qO (s:ByteArray):Int × Int × Int :=
 if iW (wL s 0)=true then (if 20<fW oB s then (0,0,3) else (1,fW oB s,0))
 else if j4 (wL s 0)=true then (if 9<fW j4 s then (0,0,3) else (2,fW j4 s,0))
 else if wL s 0=34 then (3,(vU s).1,(vU s).2)
 else if (decide ((2:Int)<=s.size)&&mem IN (s.extract 0 2))=true then (4,2,0)
 else if 0<=Ky PZ (wL s 0) then (4,1,0) else (0,0,2)
theorem Of (s:ByteArray)(l:1<=s.size)(k:s.size<=100000):Pure Tryz.prog 368 [.str s] (.tup [dI (qO s).1,dI (qO s).2.1,dI (qO s).2.2]):=by
 refine aU (aG (cfg:=⟨λ_=>false,λ_=>[]⟩) Tz.mixed Tryz.func368 rfl rfl (aE rfl) (by kernel_rfl) ?_)
 simp [go_sem,seval]
 have j:((s.data[0]?.getD 0).toNat:Int)=wL s 0:=rfl
 simp only [j]
 refine ⟨aD,aB (Bq _) rfl ?_⟩
 simp [go_sem,seval]
 refine aP (λhl=>?_) (λhl=>?_)
 .simp [go_sem,seval]
  refine aB (CO s _ _ aD (λc _ _=>Od c)) rfl ?_
  simp [go_sem,seval,dI]
  refine aP (λh=>?_) (λh=>?_)
  .simp at h
   simp [go_sem,seval,qO,hl,(aD:20<fW oB s)]
  .simp at h
   simp [go_sem,seval,qO,hl,(aD:¬ 20<fW oB s)]
 .simp [go_sem,seval]
  refine aB (xW _) rfl ?_
  simp [go_sem,seval]
  refine aP (λhd=>?_) (λhd=>?_)
  .simp [go_sem,seval]
   refine aB (CO s _ _ aD (λc _ _=>xW c)) rfl ?_
   simp [go_sem,seval,dI]
   refine aP (λh=>?_) (λh=>?_)
   .simp at h
    simp [go_sem,seval,qO,hl,hd,(aD:9<fW j4 s)]
   .simp at h
    simp [go_sem,seval,qO,hl,hd,(aD:¬ 9<fW j4 s)]
  .simp [go_sem,seval]
   refine aP (λhq=>?_) (λhq=>?_)
   .simp at hq
    simp [go_sem,seval]
    refine aB (JR s l k) rfl ?_
    have e:qO s=(3,(vU s).1,(vU s).2):=by unfold qO;rw [if_neg (by simp [hl]),if_neg (by simp [hd]),if_pos hq]
    simp [go_sem,seval,dI,e]
   .simp at hq
    simp [go_sem,seval]
    refine aB (Oe s) rfl ?_
    simp [go_sem,seval]
    refine aP (λhp=>?_) (λhp=>?_)
    .simp [go_sem,seval,qO,hl,hd,hq,hp,dI]
    .simp [go_sem,seval]
     refine aB (Bu PZ _) rfl ?_
     simp [go_sem,seval,dI]
     refine fL (λhi=>?_) (λhi=>?_)
     .simp [go_sem,seval,qO,hl,hd,hq,hp,hi]
     .simp [go_sem,seval,qO,hl,hd,hq,hp,hi]
def gW (s:ByteArray):Bool:=decide (s.size≠0)&&iW (wL s 0)&&decide (fW oB s<=20)&&decide (fW oB s=s.size)
theorem pH (s:ByteArray):s=⟨#[]⟩↔s.size=0:=by
 constructor
 .intro h;subst h;rfl
 .intro h
  cases s with
  | mk d=>congr 1;exact Array.size_eq_zero_iff.1 h
theorem Rp (s:ByteArray)(hz:¬ s.size=0):(decide ((qO s).2.2=0)&&decide ((qO s).1=1)&&(qO s).2.1==(s.size:Int))=gW s:=by
 unfold qO gW
 grind
theorem Lx (s:ByteArray)(c:s.size<=100000):∃ s',Pure Tryz.prog 304 [.agg [dI 1,.str s,dI 0]] (.tup [.str s',.bool (gW s)]):=by
 by_cases b:s.size=0
 .refine ⟨⟨#[]⟩,aU (aG (cfg:=⟨λ_=>false,λ_=>[]⟩) Tz.mixed Tryz.func304 rfl rfl (aE rfl) (by kernel_rfl) ?_)⟩
  simp [go_sem,seval,dI]
  refine aP (λh=>?_) (λh=>?_)
  .simp [go_sem,seval,gW,b]
  .simp [pH,b] at h
 .refine ⟨s,aU (aG (cfg:=⟨λ_=>false,λ_=>[]⟩) Tz.mixed Tryz.func304 rfl rfl (aE rfl) (by kernel_rfl) ?_)⟩
  simp [go_sem,seval,dI]
  refine aP (λh=>?_) (λh=>?_)
  .simp [pH,b] at h
  .simp [go_sem,seval]
   refine aB (Of s aD c) rfl ?_
   simp [go_sem,seval,dI]
   exact Rp s b
theorem n4 (s:ByteArray)(b:s.size<=100000):Pure Tryz.prog 221 [.str s] (.bool (gW s)):=by
 obtain ⟨c,a⟩:=Lx s b
 refine aU (aG (cfg:=⟨λ_=>false,λ_=>[]⟩) Tz.mixed Tryz.func221 rfl rfl (aE rfl) (by kernel_rfl) ?_)
 simp [go_sem,seval]
 refine aB a rfl ?_
 simp [go_sem,seval]
end Go.Abs
end
section
set_option maxRecDepth 100000
set_option maxHeartbeats 4000000
open Go Go.Proofs
namespace Go.Abs
def Dk {α:Type}(xs:List α)(p:α->Bool):Int:=match xs.findIdx? p with|some i=>i|none=>-1
theorem o5 {α:Type}{xs:List α}{p:α->Bool}{i:Nat}(h:∀ j x,j<i->xs[j]?=some x->p x=false)(c:i<xs.length)(a:p xs[i]=true):Dk xs p=i:=by
 have:xs.findIdx? p=some i:=by
  rw [iS]
  exact ⟨c,a,λj b=>by simp [h j _ b (aA aD)]⟩
 simp [Dk,this]
theorem o6 {α:Type}{xs:List α}{p:α->Bool}(h:∀ j x,j<xs.length->xs[j]?=some x->p x=false):Dk xs p = -1:=by
 have:xs.findIdx? p=none:=by
  rw [rJ]
  intro x b
  obtain ⟨j,a,rfl⟩:=aK b
  exact h j _ a (aA a)
 simp [Dk,this]
theorem rW {α:Type}(xs:List α)(p:α->Bool):decide (0<=Dk xs p)=xs.any p:=by
 unfold Dk
 cases h:xs.findIdx? p with
 | none =>
  rw [rJ] at h
  have:xs.any p=false:=by simpa using h
  simp [this]
 | some i =>
  rw [iS] at h
  obtain ⟨b,a,_⟩:=h
  have:xs.any p=true:=aZ.2 ⟨xs[i],aC b,a⟩
  simp [this]
theorem GK (xs:List Attr)(g:FuncId)(a:List D)(p:Attr->Bool)(t:D.clL a=true)(s:∀ x∈xs,Pure Tryz.prog g (.agg x.c :: a) (.bool (p x))) :
  Pure Tryz.prog 419 [.list (xs.map Attr.c),.fn g a] (dI (Dk xs p)):=by
 refine aU (aG (cfg:=⟨λ_=>false,λ_=>[]⟩) Tz.mixed Tryz.func419 rfl rfl (aE rfl) (by kernel_rfl) ?_)
 simp [go_sem,seval,dI,dLI]
 intro o
 refine fD (ι:=Nat) (λi e H=>H=.emp/\i<=xs.length/\e 0=.list (xs.map Attr.c)/\e 1=.fn g a/\e 7=dI xs.length/\e 8=dI i/\(∀ j x,j<i->xs[j]?=some x->p x=false)) (λi=>xs.length - i) 0 (by simp [go_sem,seval,dI,dLI]) ?_
 intro i e H ⟨u,v,l,k,f,d,n⟩
 subst u
 simp [go_sem,seval,l,k,f,d,dI,dLI]
 refine fL (λb=>?_) (λr=>?_)
 .have hgx:=s xs[i] (aC b)
  simp [go_sem,seval,l,k,f,d,dI,dLI,b,Attr.c] at hgx ⊢
  refine aB hgx (by simp [go_sem,t]) ?_
  simp [go_sem,seval,l,k,f,d,dI,dLI]
  refine aP (λh=>?_) (λh=>?_)
  .simp [go_sem,seval,l,k,f,d,dI,dLI]
   rw [o5 n b h]
  .simp [go_sem,seval,l,k,f,d,dI,dLI]
   refine ⟨cZ aD aD,i+1,aD,aD,aD,λj x q m=>?_⟩
   rcases bX j i with hj'|hj'
   .exact n j x hj' m
   .have:j=i:=aD
    subst this
    rw [aA b] at m
    cases m;exact h
 .simp [go_sem,seval,l,k,f,d,dI,dLI]
  rw [o6 λj x q=>n j x aD]
theorem Cq (xs:List Attr)(g:FuncId)(a:List D)(p:Attr->Bool)(b:D.clL a=true)(d:D.cl (.list (xs.map Attr.c))=true)(e:∀ x∈xs,Pure Tryz.prog g (.agg x.c :: a) (.bool (p x))) :
  Pure Tryz.prog 364 [.list (xs.map Attr.c),.fn g a] (.bool (xs.any p)):=by
 refine aU (aG (cfg:=⟨λ_=>false,λ_=>[]⟩) Tz.mixed Tryz.func364 rfl rfl (aE rfl) (by kernel_rfl) ?_)
 simp [go_sem,seval]
 refine aB (GK xs g a p b e) (by simp only [D.clL,d,iT];simp [D.cl,b]) ?_
 simp [go_sem,seval,dI,rW]
theorem r8 (l:List Attr):D.clLL (l.map Attr.c)=true:=c8 _ Attr.cl l
def mN (l:List ByteArray):List ByteArray->Int
 | []=>0
 | s :: r=>if gW s=false then 2 else if mem l s=true then 5 else mN (l++[s]) r
def lY (l:List ByteArray):Int:=if 20<l.length then 3 else mN [] l
theorem Lq (l:List ByteArray)(r:∀ s∈l,s.size<=100000):Pure Tryz.prog 366 [qA l] (dI (lY l)):=by
 refine aU (aG (cfg:=⟨λ_=>false,λ_=>[]⟩) Tz.mixed Tryz.func366 rfl rfl (aE rfl) (by kernel_rfl) ?_)
 simp [go_sem,seval,dI,qA]
 intro q
 refine aP (λh=>?_) (λh=>?_)
 .simp at h
  simp [go_sem,seval,lY,(aD:20<l.length)]
 .simp at h
  simp [go_sem,seval,lY,(aD:¬ 20<l.length)]
  intro o
  refine fD (ι:=Nat) (λi e H=>H=.emp/\i<=l.length/\e 0=qA l/\e 8=qA l/\e 9=dI l.length/\e 10=dI i/\mN (l.take i) (l.drop i)=mN [] l) (λi=>l.length - i) 0 (by simp [go_sem,seval,dI,qA]) ?_
  intro i e H ⟨v,t,g,f,d,a,j⟩
  subst v
  simp [go_sem,seval,g,f,d,a,dI,qA]
  refine fL (λb=>?_) (λu=>?_)
  .rw [gJ b] at j
   have m:=r _ (aC b)
   simp [go_sem,seval,g,f,d,a,dI,qA,b,cS]
   refine aB (n4 _ m) rfl ?_
   simp [go_sem,seval]
   refine aP (λc=>?_) (λc=>?_)
   .simp at c
    simp [go_sem,seval]
    rw [<- j];simp [mN,c]
   .simp at c
    simp [go_sem,seval,g,f,d,a,dI,qA]
    have k:=Cm (l.take i) l[i]
    simp only [qA,List.map_take] at k
    have p:D.clLL (List.take i (List.map cS l))=true:=by rw [<- List.map_take];exact c8 cS (λ_=>rfl) _
    refine ⟨⟨t,by cases l<;>simp [cS]⟩,aB k (by simp [D.clL,D.cl,p]) ?_⟩
    simp [go_sem,seval,g,f,d,a,dI,qA]
    refine aP (λn=>?_) (λn=>?_)
    .simp [go_sem,seval]
     rw [<- j];simp [mN,c,n]
    .simp [go_sem,seval,g,f,d,a,dI,qA]
     refine ⟨cZ aD aD,i+1,aD,aD,aD,?_⟩
     rw [<- j,mN,if_neg (by simp [c]),if_neg (by simp [n]),List.take_succ_eq_append_getElem b]
  .simp [go_sem,seval,g,f,d,a,dI,qA]
   rw [<- j,(aD:i=l.length)];simp [mN]
theorem CN (x y:Attr):Pure Tryz.prog 365 [.agg y.c,.adr x.c] (.bool (decide (y.name=x.name))):=by
 refine aU (aG (cfg:=⟨λ_=>false,λ_=>[]⟩) Tz.mixed Tryz.func365 rfl rfl (aE rfl) (by kernel_rfl) ?_)
 simp [go_sem,seval,Attr.c,dI,qA]
structure Attr.ok (x:Attr):Prop where
 name:x.name.size<=100000
 names:∀ s∈x.names,s.size<=100000
 few:x.names.length<=1000
def dB (x:Attr)(before:List Attr):Int :=
 if gW x.name=false then 2
 else if (before.any λy=>decide (y.name=x.name))=true then 5
 else if lY x.names≠0 then lY x.names
 else if (if 0<x.names.length then decide (x.low=0)&&decide (x.high=x.names.length - 1) else decide (-1000000<=x.low)&&decide (x.low<=x.high)&&decide (x.high<=1000000))=true then 0 else 6
theorem Ey (x:Attr)(a:List Attr)(k:x.ok):Pure Tryz.prog 299 [.agg x.c,.list (a.map Attr.c)] (dI (dB x a)):=by
 refine aU (aG (cfg:=⟨λ_=>false,λ_=>[]⟩) Tz.mixed Tryz.func299 rfl rfl (aE rfl) (by kernel_rfl) ?_)
 simp [go_sem,seval,dI,qA,Attr.c]
 refine aB (n4 _ k.name) rfl ?_
 simp [go_sem,seval]
 refine aP (λb=>?_) (λb=>?_)
 .simp at b
  simp [go_sem,seval,dB,b]
 .simp at b
  simp [go_sem,seval]
  have n:=Cq a 365 [.adr x.c] (λy=>decide (y.name=x.name)) (by simp [D.clL,D.cl,Attr.cl]) (by simp [D.cl,r8]) (λy _=>CN x y)
  simp only [Attr.c,dI,qA] at n
  have i:D.clLL (List.map cS x.names)=true:=c8 cS (λ_=>rfl) _
  refine aB n (by simp [D.clL,D.cl,r8,i]) ?_
  simp [go_sem,seval]
  refine aP (λg=>?_) (λg=>?_)
  .simp [go_sem,seval,dB,b,g]
  .simp [go_sem,seval]
   have h:=Lq x.names k.names
   simp only [qA,dI] at h
   refine aB h (by simp [D.clL,D.cl,i]) ?_
   simp [go_sem,seval]
   have m:=k.few
   refine aP (λd=>?_) (λd=>?_)
   .simp at d
    simp [go_sem,seval,dB,b,g,d]
   .simp at d
    simp [go_sem,seval]
    intro l
    refine aP (λj=>?_) (λj=>?_)
    .have hp':0<x.names.length:=by simp at j;omega
     simp [go_sem,seval]
     refine λ_=>⟨λ_=>cZ aD aD,aP (λf=>?_) (λf=>?_)⟩
     .have e:dB x a=6:=by unfold dB;rw [if_neg (by simp [b]),if_neg (by simp [g]),if_neg (by simp [d]),if_pos hp',if_neg (by simp at f ⊢;omega)]
      simp [go_sem,seval,e]
     .have e:dB x a=0:=by unfold dB;rw [if_neg (by simp [b]),if_neg (by simp [g]),if_neg (by simp [d]),if_pos hp',if_pos (by simp at f ⊢;omega)]
      simp [go_sem,seval,e]
    .have hp':¬ 0<x.names.length:=by simp at j;simp [j]
     simp [go_sem,seval]
     refine aP (λf=>?_) (λf=>?_)
     .have e:dB x a=6:=by unfold dB;rw [if_neg (by simp [b]),if_neg (by simp [g]),if_neg (by simp [d]),if_neg hp',if_neg (by simp at f ⊢;omega)]
      simp [go_sem,seval,e]
     .have e:dB x a=0:=by unfold dB;rw [if_neg (by simp [b]),if_neg (by simp [g]),if_neg (by simp [d]),if_neg hp',if_pos (by simp at f ⊢;omega)]
      simp [go_sem,seval,e]
structure NodeTy.ok (n:NodeTy):Prop where
 name:n.name.size<=100000
 attrs:∀ x∈n.attrs,x.ok
 few:n.attrs.length<=1000
structure EdgeTy.ok (x:EdgeTy):Prop where
 name:x.name.size<=100000
structure Types.ok (t:Types):Prop where
 nodes:∀ n∈t.nodes,n.ok
 edges:∀ x∈t.edges,x.ok
 fewN:t.nodes.length<=1000
 fewE:t.edges.length<=1000
def gG (nodes:List NodeTy):Nat->Nat->List Attr
 | 0,_=>[]
 | f+1,a=>match nodes[a]? with
  | none=>[]
  | some n=>(if 0<=n.parent then gG nodes f n.parent.toNat else [])++n.attrs
def Types.attrs (t:Types)(a:Nat):List Attr:=gG t.nodes (a+1) a
theorem sA (nodes:List NodeTy)(h:∀ n∈nodes,n.attrs.length<=1000):∀ f a,(gG nodes f a).length<=1000 * f
 | 0,a=>by simp [gG]
 | f+1,a=>by
  unfold gG
  split
  .simp
  .rename_i n hn
   have:=h n (aI hn)
   have h2:=sA nodes h f n.parent.toNat
   simp only [aJ]
   split<;>simp<;>omega
@[go_sem] theorem Attr.len (a:Attr):a.c.length=4:=rfl
theorem Attr.cells (a:Attr):∀ x∈a.c,x.cell=true:=by simp [Attr.c,D.cell,dI,qA]
def parentsOK (nodes:List NodeTy)(a:Nat):Prop:=∀ j n,j<=a->nodes[j]?=some n->n.parent<j
theorem Er (b:List NodeTy):∀ a f g,parentsOK b a->a<f->a<g->gG b f a=gG b g a:=by
 intro a
 induction a using Nat.strongRecOn with
 | _ a ih =>
  intro f g c i h
  obtain ⟨f,rfl⟩:∃ f',f=f'+1:=⟨f - 1,aD⟩
  obtain ⟨g,rfl⟩:∃ g',g=g'+1:=⟨g - 1,aD⟩
  unfold gG
  split
  .rfl
  .rename_i n hn
   have:=c a n (bC _) hn
   congr 1
   split
   .exact ih n.parent.toNat aD f g (λj m e d=>c j m aD d) aD aD
   .rfl
theorem DK (t:Types)(i:t.ok):∀ a,a<t.nodes.length->parentsOK t.nodes a->Own Tryz.prog 298 [t.d,dI a] 118 4 ((t.attrs a).map Attr.c):=by
 intro a
 induction a using Nat.strongRecOn with
 | _ a ih =>
  intro b l
  have u:=l a _ (bC _) (aA b)
  have r:=sA t.nodes (λn o=>(i.nodes n o).few) (a+1) a
  have s:=i.fewN
  have v:=(i.nodes _ (aC b)).few
  refine BR (aG (cfg:=⟨λt=>t==5,λ_=>[]⟩) Tz.mixed Tryz.func298 rfl rfl (aE rfl) (by kernel_rfl) ?_)
  simp [go_sem,seval,dI,Types.d,Types.c,NodeTy.c,aA b,b]
  refine aP (λh=>?_) (λh=>?_)
  .have h':0<=t.nodes[a].parent:=by simpa using h
   have g:t.nodes[a].parent.toNat<a:=aD
   have q:=ih _ g aD (λj m z p=>l j m aD p)
   rw [Int.toNat_of_nonneg h'] at q
   have e:t.attrs a=t.attrs t.nodes[a].parent.toNat++t.nodes[a].attrs:=by
    have:=Er t.nodes t.nodes[a].parent.toNat a (t.nodes[a].parent.toNat+1) (λj m z p=>l j m aD p) g aD
    simp [Types.attrs,gG,aA b,h',this]
   have f:=sA t.nodes (λn o=>(i.nodes n o).few) (t.nodes[a].parent.toNat+1) t.nodes[a].parent.toNat
   have w:(t.attrs t.nodes[a].parent.toNat).length<=2000000:=by
    have:(t.attrs t.nodes[a].parent.toNat).length<=1000 * (t.nodes[a].parent.toNat+1):=f
    omega
   simp [go_sem,seval,dI,Types.d,Types.c,NodeTy.c,aA b,b] at q ⊢
   refine kY q (by simp [D.clL,D.cl,c8 _ NodeTy.cl,c8 _ EdgeTy.cl]) ?_
   simp [go_sem,seval,dI,Types.d,Types.c,NodeTy.c,aA b,b,e,r8]
   exact ⟨⟨aD,λx _ y k=>Attr.cells x y k⟩,by rw [<- List.map_append];exact r8 _⟩
  .have h':¬ 0<=t.nodes[a].parent:=by simpa using h
   have e:t.attrs a=t.nodes[a].attrs:=by simp [Types.attrs,gG,aA b,h']
   simp [go_sem,seval,dI,Types.d,Types.c,NodeTy.c,aA b,b,e,r8]
   exact ⟨aD,λx _ y k=>Attr.cells x y k⟩
end Go.Abs
end
