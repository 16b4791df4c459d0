/- Facts about the types and results of the seat's program, pri -/
import Derived.Test.YthalajhajpjjeaaGreatZeF
import Derived.Test.YthalajhajpjjeaaGreatProg
import Derived.Laws.Externs
import Derived.WalkKit
set_option linter.unusedVariables false
set_option linter.unusedSimpArgs false
section
set_option maxRecDepth 100000
open Go Go.Proofs Go.Abs
namespace Go.Abs.Tz
@[go_sem] theorem Yi:sl Tryz.prog 22=some ⟨172,4,56,[.str ⟨#[]⟩,.int .i64 (0),.bool false,.nil]⟩:=rfl
@[go_sem] theorem Yh:sl Tryz.prog 23=some ⟨174,7,64,[.str ⟨#[]⟩,.int .i64 (0),.int .i64 (0),.int .i64 (0),.int .i64 (0),.int .i64 (0),.int .i64 (0)]⟩:=rfl
@[go_sem] theorem Yg:sl Tryz.prog 26=some ⟨3,1,8,[.int .i64 (0)]⟩:=rfl
@[go_sem] theorem Yf:sl Tryz.prog 27=some ⟨122,3,24,[.int .i64 (0),.int .i64 (0),.int .i64 (0)]⟩:=rfl
@[go_sem] theorem Ye:sl Tryz.prog 30=some ⟨159,4,32,[.int .i64 (0),.int .i64 (0),.int .i64 (0),.int .i64 (0)]⟩:=rfl
@[go_sem] theorem Yd:sl Tryz.prog 31=some ⟨254,5,40,[.int .i64 (0),.int .i64 (0),.int .i64 (0),.int .i64 (0),.int .i64 (0)]⟩:=rfl
@[go_sem] theorem Yc:sl Tryz.prog 37=some ⟨39,9,184,[.int .i64 (0),.nil,.nil,.nil,.nil,.nil,.nil,.int .i64 (0),.nil]⟩:=rfl
@[go_sem] theorem Yb:sl Tryz.prog 42=some ⟨26,1,24,[.nil]⟩:=rfl
@[go_sem] theorem Ya:sl Tryz.prog 61=some ⟨227,2,2,[.int .u8 (0),.int .u8 (0)]⟩:=rfl
@[go_sem] theorem X9:sl Tryz.prog 62=some ⟨5,1,1,[.int .u8 (0)]⟩:=rfl
@[go_sem] theorem X8:sl Tryz.prog 63=some ⟨236,3,3,[.int .u8 (0),.int .u8 (0),.int .u8 (0)]⟩:=rfl
@[go_sem] theorem X7:sl Tryz.prog 66=some ⟨305,4,4,[.int .i8 (0),.int .i8 (0),.int .i8 (0),.int .i8 (0)]⟩:=rfl
@[go_sem] theorem X6:sl Tryz.prog 81=some ⟨46,3,72,[.nil,.nil,.nil]⟩:=rfl
@[go_sem] theorem X5:sl Tryz.prog 97=some ⟨53,38,824,[.str ⟨#[]⟩,.nil,.nil,.nil,.int .i64 (0),.nil,.nil,.nil,.nil,.int .i64 (0),.nil,.nil,.nil,.nil,.nil,.bool false,.int .i64 (0),.nil,.nil,.nil,.nil,.nil,.nil,.int .i64 (0),.nil,.nil,.nil,.nil,.nil,.nil,.nil,.nil,.nil,.nil,.nil,.nil,.nil,.nil]⟩:=rfl
@[go_sem] theorem XV:sl Tryz.prog 113=some ⟨118,4,56,[.str ⟨#[]⟩,.int .i64 (0),.int .i64 (0),.nil]⟩:=rfl
@[go_sem] theorem XU:sl Tryz.prog 116=some ⟨9,1,16,[.str ⟨#[]⟩]⟩:=rfl
@[go_sem] theorem VR:FF Tryz.prog 122=some 3:=by kernel_rfl
@[go_sem] theorem VQ:FF Tryz.prog 157=some 2:=by kernel_rfl
@[go_sem] theorem VP:FF Tryz.prog 159=some 4:=by kernel_rfl
@[go_sem] theorem XT:sl Tryz.prog 170=some ⟨41,25,512,[.str ⟨#[]⟩,.nil,.nil,.nil,.int .i64 (0),.nil,.nil,.nil,.nil,.int .i64 (0),.nil,.nil,.nil,.nil,.nil,.bool false,.int .i64 (0),.nil,.nil,.nil,.nil,.nil,.nil,.int .i64 (0),.nil]⟩:=rfl
@[go_sem] theorem XS:sl Tryz.prog 242=some ⟨36,2,48,[.nil,.nil]⟩:=rfl
@[go_sem] theorem VO:FF Tryz.prog 254=some 5:=by kernel_rfl
@[go_sem] theorem XR:sl Tryz.prog 275=some ⟨354,2,16,[.int .i64 (0),.int .i64 (0)]⟩:=rfl
@[go_sem] theorem XQ:sl Tryz.prog 280=some ⟨282,5,104,[.int .i64 (0),.nil,.nil,.nil,.nil]⟩:=rfl
@[go_sem] theorem VN:FF Tryz.prog 292=some 2:=by kernel_rfl
@[go_sem] theorem XP:sl Tryz.prog 301=some ⟨302,2,16,[.int .i64 (0),.int .i64 (0)]⟩:=rfl
@[go_sem] theorem XO:sl Tryz.prog 306=some ⟨4,1,1,[.bool false]⟩:=rfl
@[go_sem] theorem XN:sl Tryz.prog 342=some ⟨29,2,48,[.nil,.nil]⟩:=rfl
@[go_sem] theorem XM:sl Tryz.prog 343=some ⟨306,1,24,[.nil]⟩:=rfl
@[go_sem] theorem VM:FF Tryz.prog 354=some 2:=by kernel_rfl
@[go_sem] theorem X3:tk Tryz.prog 3=.one∧zd Tryz.prog 3=some [.int .i64 (0)]∧yY Tryz.prog 3=some .i64∧(Tryz.prog.info? 3).isSome=true∧Tryz.prog.cellsOf 3=1∧tk Tryz.prog 4=.one∧zd Tryz.prog 4=some [.bool false]∧(Tryz.prog.info? 4).isSome=true∧Tryz.prog.cellsOf 4=1∧tk Tryz.prog 5=.one∧zd Tryz.prog 5=some [.int .u8 (0)]∧yY Tryz.prog 5=some .u8∧(Tryz.prog.info? 5).isSome=true∧Tryz.prog.cellsOf 5=1∧tk Tryz.prog 9=.one∧zd Tryz.prog 9=some [.str ⟨#[]⟩]∧(Tryz.prog.info? 9).isSome=true∧Tryz.prog.cellsOf 9=1∧tk Tryz.prog 22=.one∧zd Tryz.prog 22=some [.nil]∧(Tryz.prog.info? 22).isSome=true∧Tryz.prog.cellsOf 22=1∧tk Tryz.prog 23=.one∧zd Tryz.prog 23=some [.nil]:=⟨rfl,rfl,rfl,rfl,rfl,rfl,rfl,rfl,rfl,rfl,rfl,rfl,rfl,rfl,rfl,rfl,rfl,rfl,rfl,rfl,rfl,rfl,rfl,rfl⟩
@[go_sem] theorem XL:(Tryz.prog.info? 23).isSome=true∧Tryz.prog.cellsOf 23=1∧tk Tryz.prog 25=.agg 2∧zd Tryz.prog 25=some [.nil,.nil]∧bk Tryz.prog 25=some (.st [(0,1),(1,1)])∧(Tryz.prog.info? 25).isSome=true∧Tryz.prog.cellsOf 25=2∧tk Tryz.prog 26=.one∧zd Tryz.prog 26=some [.nil]∧(Tryz.prog.info? 26).isSome=true∧Tryz.prog.cellsOf 26=1∧tk Tryz.prog 27=.one∧zd Tryz.prog 27=some [.nil]∧(Tryz.prog.info? 27).isSome=true∧Tryz.prog.cellsOf 27=1∧tk Tryz.prog 29=.agg 2∧zd Tryz.prog 29=some [.nil,.nil]∧bk Tryz.prog 29=some (.st [(0,1),(1,1)])∧(Tryz.prog.info? 29).isSome=true∧Tryz.prog.cellsOf 29=2∧tk Tryz.prog 30=.one∧zd Tryz.prog 30=some [.nil]∧(Tryz.prog.info? 30).isSome=true∧Tryz.prog.cellsOf 30=1:=⟨rfl,rfl,rfl,rfl,rfl,rfl,rfl,rfl,rfl,rfl,rfl,rfl,rfl,rfl,rfl,rfl,rfl,rfl,rfl,rfl,rfl,rfl,rfl,rfl⟩
@[go_sem] theorem XK:tk Tryz.prog 31=.one∧zd Tryz.prog 31=some [.nil]∧(Tryz.prog.info? 31).isSome=true∧Tryz.prog.cellsOf 31=1∧tk Tryz.prog 33=.agg 5∧zd Tryz.prog 33=some [.nil,.nil,.nil,.int .i64 (0),.nil]∧bk Tryz.prog 33=some (.st [(0,2),(2,1),(3,1),(4,1)])∧(Tryz.prog.info? 33).isSome=true∧Tryz.prog.cellsOf 33=5∧tk Tryz.prog 35=.agg 2∧zd Tryz.prog 35=some [.nil,.nil]∧bk Tryz.prog 35=some (.st [(0,1),(1,1)])∧(Tryz.prog.info? 35).isSome=true∧Tryz.prog.cellsOf 35=2∧tk Tryz.prog 36=.agg 2∧zd Tryz.prog 36=some [.nil,.nil]∧bk Tryz.prog 36=some (.st [(0,1),(1,1)])∧(Tryz.prog.info? 36).isSome=true∧Tryz.prog.cellsOf 36=2∧tk Tryz.prog 37=.one∧zd Tryz.prog 37=some [.nil]∧(Tryz.prog.info? 37).isSome=true∧Tryz.prog.cellsOf 37=1∧tk Tryz.prog 39=.agg 9:=⟨rfl,rfl,rfl,rfl,rfl,rfl,rfl,rfl,rfl,rfl,rfl,rfl,rfl,rfl,rfl,rfl,rfl,rfl,rfl,rfl,rfl,rfl,rfl,rfl⟩
@[go_sem] theorem XJ:zd Tryz.prog 39=some [.int .i64 (0),.nil,.nil,.nil,.nil,.nil,.nil,.int .i64 (0),.nil]∧bk Tryz.prog 39=some (.st [(0,1),(1,1),(2,2),(4,5)])∧(Tryz.prog.info? 39).isSome=true∧Tryz.prog.cellsOf 39=9∧tk Tryz.prog 41=.agg 25∧zd Tryz.prog 41=some [.str ⟨#[]⟩,.nil,.nil,.nil,.int .i64 (0),.nil,.nil,.nil,.nil,.int .i64 (0),.nil,.nil,.nil,.nil,.nil,.bool false,.int .i64 (0),.nil,.nil,.nil,.nil,.nil,.nil,.int .i64 (0),.nil]∧bk Tryz.prog 41=some (.st [(0,1),(1,5),(6,5),(11,2),(13,2),(15,1),(16,9)])∧(Tryz.prog.info? 41).isSome=true∧Tryz.prog.cellsOf 41=25∧tk Tryz.prog 42=.one∧zd Tryz.prog 42=some [.nil]∧(Tryz.prog.info? 42).isSome=true∧Tryz.prog.cellsOf 42=1∧tk Tryz.prog 44=.agg 3∧zd Tryz.prog 44=some [.nil,.nil,.nil]∧bk Tryz.prog 44=some (.st [(0,2),(2,1)])∧(Tryz.prog.info? 44).isSome=true∧Tryz.prog.cellsOf 44=3∧tk Tryz.prog 46=.agg 3∧zd Tryz.prog 46=some [.nil,.nil,.nil]∧bk Tryz.prog 46=some (.st [(0,2),(2,1)])∧(Tryz.prog.info? 46).isSome=true∧Tryz.prog.cellsOf 46=3∧tk Tryz.prog 48=.agg 6:=⟨rfl,rfl,rfl,rfl,rfl,rfl,rfl,rfl,rfl,rfl,rfl,rfl,rfl,rfl,rfl,rfl,rfl,rfl,rfl,rfl,rfl,rfl,rfl,rfl⟩
@[go_sem] theorem XI:zd Tryz.prog 48=some [.nil,.nil,.nil,.nil,.nil,.nil]∧bk Tryz.prog 48=some (.st [(0,3),(3,3)])∧(Tryz.prog.info? 48).isSome=true∧Tryz.prog.cellsOf 48=6∧tk Tryz.prog 53=.agg 38∧zd Tryz.prog 53=some [.str ⟨#[]⟩,.nil,.nil,.nil,.int .i64 (0),.nil,.nil,.nil,.nil,.int .i64 (0),.nil,.nil,.nil,.nil,.nil,.bool false,.int .i64 (0),.nil,.nil,.nil,.nil,.nil,.nil,.int .i64 (0),.nil,.nil,.nil,.nil,.nil,.nil,.nil,.nil,.nil,.nil,.nil,.nil,.nil,.nil]∧bk Tryz.prog 53=some (.st [(0,25),(25,3),(28,3),(31,3),(34,2),(36,2)])∧(Tryz.prog.info? 53).isSome=true∧Tryz.prog.cellsOf 53=38∧tk Tryz.prog 54=.one∧zd Tryz.prog 54=some [.int .i64 (0)]∧yY Tryz.prog 54=some .i64∧(Tryz.prog.info? 54).isSome=true∧Tryz.prog.cellsOf 54=1∧tk Tryz.prog 55=.one∧(Tryz.prog.info? 55).isSome=true∧Tryz.prog.cellsOf 55=1∧tk Tryz.prog 61=.one∧zd Tryz.prog 61=some [.nil]∧(Tryz.prog.info? 61).isSome=true∧Tryz.prog.cellsOf 61=1∧tk Tryz.prog 62=.one∧zd Tryz.prog 62=some [.nil]∧(Tryz.prog.info? 62).isSome=true:=⟨rfl,rfl,rfl,rfl,rfl,rfl,rfl,rfl,rfl,rfl,rfl,rfl,rfl,rfl,rfl,rfl,rfl,rfl,rfl,rfl,rfl,rfl,rfl,rfl⟩
@[go_sem] theorem WQ:Tryz.prog.cellsOf 62=1∧tk Tryz.prog 63=.one∧zd Tryz.prog 63=some [.nil]∧(Tryz.prog.info? 63).isSome=true∧Tryz.prog.cellsOf 63=1∧tk Tryz.prog 65=.agg 2∧zd Tryz.prog 65=some [.nil,.nil]∧bk Tryz.prog 65=some (.st [(0,1),(1,1)])∧(Tryz.prog.info? 65).isSome=true∧Tryz.prog.cellsOf 65=2∧tk Tryz.prog 66=.one∧zd Tryz.prog 66=some [.nil]∧(Tryz.prog.info? 66).isSome=true∧Tryz.prog.cellsOf 66=1∧tk Tryz.prog 68=.agg 4∧zd Tryz.prog 68=some [.nil,.nil,.nil,.nil]∧bk Tryz.prog 68=some (.st [(0,2),(2,1),(3,1)])∧(Tryz.prog.info? 68).isSome=true∧Tryz.prog.cellsOf 68=4∧tk Tryz.prog 69=.one∧zd Tryz.prog 69=some [.int .u64 (0)]∧yY Tryz.prog 69=some .u64∧(Tryz.prog.info? 69).isSome=true∧Tryz.prog.cellsOf 69=1:=⟨rfl,rfl,rfl,rfl,rfl,rfl,rfl,rfl,rfl,rfl,rfl,rfl,rfl,rfl,rfl,rfl,rfl,rfl,rfl,rfl,rfl,rfl,rfl,rfl⟩
@[go_sem] theorem WP:tk Tryz.prog 70=.agg 4∧zd Tryz.prog 70=some [.int .u8 (0),.int .u8 (0),.int .u8 (0),.int .u8 (0)]∧bk Tryz.prog 70=some (.ar 1)∧Mn Tryz.prog 70=some (4,1)∧(Tryz.prog.info? 70).isSome=true∧Tryz.prog.cellsOf 70=4∧tk Tryz.prog 72=.agg 15∧zd Tryz.prog 72=some [.nil,.nil,.nil,.nil,.int .u64 (0),.nil,.nil,.nil,.bool false,.bool false,.int .u8 (0),.int .u8 (0),.int .u8 (0),.int .u8 (0),.nil]∧bk Tryz.prog 72=some (.st [(0,4),(4,1),(5,1),(6,1),(7,1),(8,1),(9,1),(10,4),(14,1)])∧(Tryz.prog.info? 72).isSome=true∧Tryz.prog.cellsOf 72=15∧tk Tryz.prog 74=.agg 2∧zd Tryz.prog 74=some [.nil,.nil]∧bk Tryz.prog 74=some (.st [(0,1),(1,1)])∧(Tryz.prog.info? 74).isSome=true∧Tryz.prog.cellsOf 74=2∧tk Tryz.prog 76=.agg 19∧zd Tryz.prog 76=some [.nil,.nil,.nil,.nil,.nil,.nil,.int .u64 (0),.nil,.nil,.nil,.bool false,.bool false,.int .u8 (0),.int .u8 (0),.int .u8 (0),.int .u8 (0),.nil,.nil,.nil]∧bk Tryz.prog 76=some (.st [(0,1),(1,1),(2,15),(17,2)])∧(Tryz.prog.info? 76).isSome=true∧Tryz.prog.cellsOf 76=19∧tk Tryz.prog 77=.one∧(Tryz.prog.info? 77).isSome=true∧Tryz.prog.cellsOf 77=1:=⟨rfl,rfl,rfl,rfl,rfl,rfl,rfl,rfl,rfl,rfl,rfl,rfl,rfl,rfl,rfl,rfl,rfl,rfl,rfl,rfl,rfl,rfl,rfl,rfl⟩
@[go_sem] theorem WO:tk Tryz.prog 79=.one∧(Tryz.prog.info? 79).isSome=true∧Tryz.prog.cellsOf 79=1∧tk Tryz.prog 81=.one∧zd Tryz.prog 81=some [.nil]∧(Tryz.prog.info? 81).isSome=true∧Tryz.prog.cellsOf 81=1∧tk Tryz.prog 82=.one∧(Tryz.prog.info? 82).isSome=true∧Tryz.prog.cellsOf 82=1∧tk Tryz.prog 85=.one∧(Tryz.prog.info? 85).isSome=true∧Tryz.prog.cellsOf 85=1∧tk Tryz.prog 88=.one∧(Tryz.prog.info? 88).isSome=true∧Tryz.prog.cellsOf 88=1∧tk Tryz.prog 90=.one∧(Tryz.prog.info? 90).isSome=true∧Tryz.prog.cellsOf 90=1∧tk Tryz.prog 96=.agg 35∧zd Tryz.prog 96=some [.nil,.nil,.nil,.nil,.nil,.nil,.int .u64 (0),.nil,.nil,.nil,.bool false,.bool false,.int .u8 (0),.int .u8 (0),.int .u8 (0),.int .u8 (0),.nil,.nil,.nil,.nil,.nil,.nil,.nil,.int .u64 (0),.nil,.nil,.nil,.bool false,.bool false,.int .u8 (0),.int .u8 (0),.int .u8 (0),.int .u8 (0),.nil,.nil]∧bk Tryz.prog 96=some (.st [(0,19),(19,15),(34,1)])∧(Tryz.prog.info? 96).isSome=true∧Tryz.prog.cellsOf 96=35:=⟨rfl,rfl,rfl,rfl,rfl,rfl,rfl,rfl,rfl,rfl,rfl,rfl,rfl,rfl,rfl,rfl,rfl,rfl,rfl,rfl,rfl,rfl,rfl,rfl⟩
@[go_sem] theorem WN:tk Tryz.prog 97=.one∧zd Tryz.prog 97=some [.nil]∧(Tryz.prog.info? 97).isSome=true∧Tryz.prog.cellsOf 97=1∧tk Tryz.prog 98=.one∧(Tryz.prog.info? 98).isSome=true∧Tryz.prog.cellsOf 98=1∧tk Tryz.prog 103=.one∧(Tryz.prog.info? 103).isSome=true∧Tryz.prog.cellsOf 103=1∧tk Tryz.prog 109=.one∧(Tryz.prog.info? 109).isSome=true∧Tryz.prog.cellsOf 109=1∧tk Tryz.prog 111=.one∧(Tryz.prog.info? 111).isSome=true∧Tryz.prog.cellsOf 111=1∧tk Tryz.prog 113=.one∧zd Tryz.prog 113=some [.nil]∧(Tryz.prog.info? 113).isSome=true∧Tryz.prog.cellsOf 113=1∧tk Tryz.prog 114=.one∧(Tryz.prog.info? 114).isSome=true∧Tryz.prog.cellsOf 114=1∧tk Tryz.prog 116=.one:=⟨rfl,rfl,rfl,rfl,rfl,rfl,rfl,rfl,rfl,rfl,rfl,rfl,rfl,rfl,rfl,rfl,rfl,rfl,rfl,rfl,rfl,rfl,rfl,rfl⟩
@[go_sem] theorem WM:zd Tryz.prog 116=some [.nil]∧(Tryz.prog.info? 116).isSome=true∧Tryz.prog.cellsOf 116=1∧tk Tryz.prog 118=.agg 4∧zd Tryz.prog 118=some [.str ⟨#[]⟩,.int .i64 (0),.int .i64 (0),.nil]∧bk Tryz.prog 118=some (.st [(0,1),(1,1),(2,1),(3,1)])∧(Tryz.prog.info? 118).isSome=true∧Tryz.prog.cellsOf 118=4∧tk Tryz.prog 120=.one∧zd Tryz.prog 120=some [.nilf]∧(Tryz.prog.info? 120).isSome=true∧Tryz.prog.cellsOf 120=1∧tk Tryz.prog 122=.agg 3∧zd Tryz.prog 122=some [.int .i64 (0),.int .i64 (0),.int .i64 (0)]∧bk Tryz.prog 122=some (.st [(0,1),(1,1),(2,1)])∧(Tryz.prog.info? 122).isSome=true∧Tryz.prog.cellsOf 122=3∧tk Tryz.prog 130=.one∧(Tryz.prog.info? 130).isSome=true∧Tryz.prog.cellsOf 130=1∧tk Tryz.prog 137=.one∧(Tryz.prog.info? 137).isSome=true∧Tryz.prog.cellsOf 137=1∧tk Tryz.prog 146=.one:=⟨rfl,rfl,rfl,rfl,rfl,rfl,rfl,rfl,rfl,rfl,rfl,rfl,rfl,rfl,rfl,rfl,rfl,rfl,rfl,rfl,rfl,rfl,rfl,rfl⟩
@[go_sem] theorem WL:(Tryz.prog.info? 146).isSome=true∧Tryz.prog.cellsOf 146=1∧tk Tryz.prog 150=.one∧zd Tryz.prog 150=some [.nilp]∧(Tryz.prog.info? 150).isSome=true∧Tryz.prog.cellsOf 150=1∧tk Tryz.prog 152=.agg 7∧zd Tryz.prog 152=some [.nil,.nil,.nil,.nil,.nil,.nil,.nil]∧bk Tryz.prog 152=some (.st [(0,3),(3,3),(6,1)])∧(Tryz.prog.info? 152).isSome=true∧Tryz.prog.cellsOf 152=7∧tk Tryz.prog 157=.agg 2∧zd Tryz.prog 157=some [.int .i64 (0),.int .i64 (0)]∧bk Tryz.prog 157=some (.st [(0,1),(1,1)])∧(Tryz.prog.info? 157).isSome=true∧Tryz.prog.cellsOf 157=2∧tk Tryz.prog 159=.agg 4∧zd Tryz.prog 159=some [.int .i64 (0),.int .i64 (0),.int .i64 (0),.int .i64 (0)]∧bk Tryz.prog 159=some (.st [(0,1),(1,1),(2,2)])∧(Tryz.prog.info? 159).isSome=true∧Tryz.prog.cellsOf 159=4∧tk Tryz.prog 166=.one∧zd Tryz.prog 166=some [.nilf]∧(Tryz.prog.info? 166).isSome=true:=⟨rfl,rfl,rfl,rfl,rfl,rfl,rfl,rfl,rfl,rfl,rfl,rfl,rfl,rfl,rfl,rfl,rfl,rfl,rfl,rfl,rfl,rfl,rfl,rfl⟩
@[go_sem] theorem WK:Tryz.prog.cellsOf 166=1∧tk Tryz.prog 167=.one∧zd Tryz.prog 167=some [.nilf]∧(Tryz.prog.info? 167).isSome=true∧Tryz.prog.cellsOf 167=1∧tk Tryz.prog 170=.one∧zd Tryz.prog 170=some [.nil]∧(Tryz.prog.info? 170).isSome=true∧Tryz.prog.cellsOf 170=1∧tk Tryz.prog 172=.agg 4∧zd Tryz.prog 172=some [.str ⟨#[]⟩,.int .i64 (0),.bool false,.nil]∧bk Tryz.prog 172=some (.st [(0,1),(1,1),(2,1),(3,1)])∧(Tryz.prog.info? 172).isSome=true∧Tryz.prog.cellsOf 172=4∧tk Tryz.prog 174=.agg 7∧zd Tryz.prog 174=some [.str ⟨#[]⟩,.int .i64 (0),.int .i64 (0),.int .i64 (0),.int .i64 (0),.int .i64 (0),.int .i64 (0)]∧bk Tryz.prog 174=some (.st [(0,1),(1,1),(2,1),(3,1),(4,1),(5,1),(6,1)])∧(Tryz.prog.info? 174).isSome=true∧Tryz.prog.cellsOf 174=7∧tk Tryz.prog 176=.one∧(Tryz.prog.info? 176).isSome=true∧Tryz.prog.cellsOf 176=1∧tk Tryz.prog 182=.one∧(Tryz.prog.info? 182).isSome=true:=⟨rfl,rfl,rfl,rfl,rfl,rfl,rfl,rfl,rfl,rfl,rfl,rfl,rfl,rfl,rfl,rfl,rfl,rfl,rfl,rfl,rfl,rfl,rfl,rfl⟩
@[go_sem] theorem WJ:Tryz.prog.cellsOf 182=1∧tk Tryz.prog 191=.one∧(Tryz.prog.info? 191).isSome=true∧Tryz.prog.cellsOf 191=1∧tk Tryz.prog 193=.one∧(Tryz.prog.info? 193).isSome=true∧Tryz.prog.cellsOf 193=1∧tk Tryz.prog 202=.one∧zd Tryz.prog 202=some [.nilf]∧(Tryz.prog.info? 202).isSome=true∧Tryz.prog.cellsOf 202=1∧tk Tryz.prog 209=.one∧(Tryz.prog.info? 209).isSome=true∧Tryz.prog.cellsOf 209=1∧tk Tryz.prog 214=.one∧zd Tryz.prog 214=some [.nilp]∧(Tryz.prog.info? 214).isSome=true∧Tryz.prog.cellsOf 214=1∧tk Tryz.prog 217=.one∧(Tryz.prog.info? 217).isSome=true∧Tryz.prog.cellsOf 217=1∧tk Tryz.prog 227=.agg 2∧zd Tryz.prog 227=some [.int .u8 (0),.int .u8 (0)]∧bk Tryz.prog 227=some (.ar 1):=⟨rfl,rfl,rfl,rfl,rfl,rfl,rfl,rfl,rfl,rfl,rfl,rfl,rfl,rfl,rfl,rfl,rfl,rfl,rfl,rfl,rfl,rfl,rfl,rfl⟩
@[go_sem] theorem WI:Mn Tryz.prog 227=some (2,1)∧(Tryz.prog.info? 227).isSome=true∧Tryz.prog.cellsOf 227=2∧tk Tryz.prog 230=.one∧(Tryz.prog.info? 230).isSome=true∧Tryz.prog.cellsOf 230=1∧tk Tryz.prog 236=.agg 3∧zd Tryz.prog 236=some [.int .u8 (0),.int .u8 (0),.int .u8 (0)]∧bk Tryz.prog 236=some (.ar 1)∧Mn Tryz.prog 236=some (3,1)∧(Tryz.prog.info? 236).isSome=true∧Tryz.prog.cellsOf 236=3∧tk Tryz.prog 242=.one∧zd Tryz.prog 242=some [.nil]∧(Tryz.prog.info? 242).isSome=true∧Tryz.prog.cellsOf 242=1∧tk Tryz.prog 243=.one∧(Tryz.prog.info? 243).isSome=true∧Tryz.prog.cellsOf 243=1∧tk Tryz.prog 246=.one∧zd Tryz.prog 246=some [.nilf]∧(Tryz.prog.info? 246).isSome=true∧Tryz.prog.cellsOf 246=1∧tk Tryz.prog 254=.agg 5:=⟨rfl,rfl,rfl,rfl,rfl,rfl,rfl,rfl,rfl,rfl,rfl,rfl,rfl,rfl,rfl,rfl,rfl,rfl,rfl,rfl,rfl,rfl,rfl,rfl⟩
@[go_sem] theorem WH:zd Tryz.prog 254=some [.int .i64 (0),.int .i64 (0),.int .i64 (0),.int .i64 (0),.int .i64 (0)]∧bk Tryz.prog 254=some (.st [(0,1),(1,2),(3,2)])∧(Tryz.prog.info? 254).isSome=true∧Tryz.prog.cellsOf 254=5∧tk Tryz.prog 273=.agg 8∧zd Tryz.prog 273=some [.nil,.nil,.nil,.nil,.nil,.nil,.nil,.nil]∧bk Tryz.prog 273=some (.st [(0,2),(2,2),(4,2),(6,2)])∧(Tryz.prog.info? 273).isSome=true∧Tryz.prog.cellsOf 273=8∧tk Tryz.prog 275=.one∧zd Tryz.prog 275=some [.nil]∧(Tryz.prog.info? 275).isSome=true∧Tryz.prog.cellsOf 275=1∧tk Tryz.prog 276=.one∧(Tryz.prog.info? 276).isSome=true∧Tryz.prog.cellsOf 276=1∧tk Tryz.prog 280=.one∧zd Tryz.prog 280=some [.nil]∧(Tryz.prog.info? 280).isSome=true∧Tryz.prog.cellsOf 280=1∧tk Tryz.prog 282=.agg 5∧zd Tryz.prog 282=some [.int .i64 (0),.nil,.nil,.nil,.nil]∧bk Tryz.prog 282=some (.st [(0,1),(1,3),(4,1)])∧(Tryz.prog.info? 282).isSome=true:=⟨rfl,rfl,rfl,rfl,rfl,rfl,rfl,rfl,rfl,rfl,rfl,rfl,rfl,rfl,rfl,rfl,rfl,rfl,rfl,rfl,rfl,rfl,rfl,rfl⟩
@[go_sem] theorem WG:Tryz.prog.cellsOf 282=5∧tk Tryz.prog 283=.one∧(Tryz.prog.info? 283).isSome=true∧Tryz.prog.cellsOf 283=1∧tk Tryz.prog 285=.one∧(Tryz.prog.info? 285).isSome=true∧Tryz.prog.cellsOf 285=1∧tk Tryz.prog 288=.one∧(Tryz.prog.info? 288).isSome=true∧Tryz.prog.cellsOf 288=1∧tk Tryz.prog 289=.one∧(Tryz.prog.info? 289).isSome=true∧Tryz.prog.cellsOf 289=1∧tk Tryz.prog 292=.agg 2∧zd Tryz.prog 292=some [.int .i64 (0),.int .i64 (0)]∧bk Tryz.prog 292=some (.st [(0,1),(1,1)])∧(Tryz.prog.info? 292).isSome=true∧Tryz.prog.cellsOf 292=2∧tk Tryz.prog 301=.one∧zd Tryz.prog 301=some [.nil]∧(Tryz.prog.info? 301).isSome=true∧Tryz.prog.cellsOf 301=1∧tk Tryz.prog 302=.agg 2∧zd Tryz.prog 302=some [.int .i64 (0),.int .i64 (0)]:=⟨rfl,rfl,rfl,rfl,rfl,rfl,rfl,rfl,rfl,rfl,rfl,rfl,rfl,rfl,rfl,rfl,rfl,rfl,rfl,rfl,rfl,rfl,rfl,rfl⟩
@[go_sem] theorem WF:bk Tryz.prog 302=some (.ar 1)∧Mn Tryz.prog 302=some (2,1)∧(Tryz.prog.info? 302).isSome=true∧Tryz.prog.cellsOf 302=2∧tk Tryz.prog 304=.one∧zd Tryz.prog 304=some [.int .i8 (0)]∧yY Tryz.prog 304=some .i8∧(Tryz.prog.info? 304).isSome=true∧Tryz.prog.cellsOf 304=1∧tk Tryz.prog 305=.agg 4∧zd Tryz.prog 305=some [.int .i8 (0),.int .i8 (0),.int .i8 (0),.int .i8 (0)]∧bk Tryz.prog 305=some (.ar 1)∧Mn Tryz.prog 305=some (4,1)∧(Tryz.prog.info? 305).isSome=true∧Tryz.prog.cellsOf 305=4∧tk Tryz.prog 306=.one∧zd Tryz.prog 306=some [.nil]∧(Tryz.prog.info? 306).isSome=true∧Tryz.prog.cellsOf 306=1∧tk Tryz.prog 319=.agg 3∧zd Tryz.prog 319=some [.int .i64 (0),.str ⟨#[]⟩,.int .i64 (0)]∧bk Tryz.prog 319=some (.st [(0,1),(1,1),(2,1)])∧(Tryz.prog.info? 319).isSome=true∧Tryz.prog.cellsOf 319=3:=⟨rfl,rfl,rfl,rfl,rfl,rfl,rfl,rfl,rfl,rfl,rfl,rfl,rfl,rfl,rfl,rfl,rfl,rfl,rfl,rfl,rfl,rfl,rfl,rfl⟩
@[go_sem] theorem WE:tk Tryz.prog 321=.one∧(Tryz.prog.info? 321).isSome=true∧Tryz.prog.cellsOf 321=1∧tk Tryz.prog 326=.one∧(Tryz.prog.info? 326).isSome=true∧Tryz.prog.cellsOf 326=1∧tk Tryz.prog 330=.one∧zd Tryz.prog 330=some [.nilf]∧(Tryz.prog.info? 330).isSome=true∧Tryz.prog.cellsOf 330=1∧tk Tryz.prog 333=.one∧zd Tryz.prog 333=some [.nilf]∧(Tryz.prog.info? 333).isSome=true∧Tryz.prog.cellsOf 333=1∧tk Tryz.prog 334=.one∧(Tryz.prog.info? 334).isSome=true∧Tryz.prog.cellsOf 334=1∧tk Tryz.prog 337=.one∧zd Tryz.prog 337=some [.nilf]∧(Tryz.prog.info? 337).isSome=true∧Tryz.prog.cellsOf 337=1∧tk Tryz.prog 342=.one∧zd Tryz.prog 342=some [.nil]∧(Tryz.prog.info? 342).isSome=true:=⟨rfl,rfl,rfl,rfl,rfl,rfl,rfl,rfl,rfl,rfl,rfl,rfl,rfl,rfl,rfl,rfl,rfl,rfl,rfl,rfl,rfl,rfl,rfl,rfl⟩
@[go_sem] theorem WD:Tryz.prog.cellsOf 342=1∧tk Tryz.prog 343=.one∧zd Tryz.prog 343=some [.nil]∧(Tryz.prog.info? 343).isSome=true∧Tryz.prog.cellsOf 343=1∧tk Tryz.prog 347=.agg 6∧zd Tryz.prog 347=some [.nil,.nil,.nil,.nil,.nil,.bool false]∧bk Tryz.prog 347=some (.st [(0,2),(2,3),(5,1)])∧(Tryz.prog.info? 347).isSome=true∧Tryz.prog.cellsOf 347=6∧tk Tryz.prog 349=.one∧zd Tryz.prog 349=some [.int .u64 (0)]∧yY Tryz.prog 349=some .u64∧(Tryz.prog.info? 349).isSome=true∧Tryz.prog.cellsOf 349=1∧tk Tryz.prog 350=.one∧(Tryz.prog.info? 350).isSome=true∧Tryz.prog.cellsOf 350=1∧tk Tryz.prog 354=.agg 2∧zd Tryz.prog 354=some [.int .i64 (0),.int .i64 (0)]∧bk Tryz.prog 354=some (.st [(0,1),(1,1)])∧(Tryz.prog.info? 354).isSome=true∧Tryz.prog.cellsOf 354=2∧tk Tryz.prog 360=.one:=⟨rfl,rfl,rfl,rfl,rfl,rfl,rfl,rfl,rfl,rfl,rfl,rfl,rfl,rfl,rfl,rfl,rfl,rfl,rfl,rfl,rfl,rfl,rfl,rfl⟩
@[go_sem] theorem WC:(Tryz.prog.info? 360).isSome=true∧Tryz.prog.cellsOf 360=1∧tk Tryz.prog 362=.one∧zd Tryz.prog 362=some [.nilf]∧(Tryz.prog.info? 362).isSome=true∧Tryz.prog.cellsOf 362=1∧tk Tryz.prog 363=.one∧(Tryz.prog.info? 363).isSome=true∧Tryz.prog.cellsOf 363=1∧tk Tryz.prog 371=.one∧(Tryz.prog.info? 371).isSome=true∧Tryz.prog.cellsOf 371=1∧tk Tryz.prog 376=.one∧zd Tryz.prog 376=some [.nilf]∧(Tryz.prog.info? 376).isSome=true∧Tryz.prog.cellsOf 376=1∧tk Tryz.prog 378=.one∧(Tryz.prog.info? 378).isSome=true∧Tryz.prog.cellsOf 378=1∧tk Tryz.prog 383=.one∧zd Tryz.prog 383=some [.nilf]∧(Tryz.prog.info? 383).isSome=true∧Tryz.prog.cellsOf 383=1∧tk Tryz.prog 387=.one:=⟨rfl,rfl,rfl,rfl,rfl,rfl,rfl,rfl,rfl,rfl,rfl,rfl,rfl,rfl,rfl,rfl,rfl,rfl,rfl,rfl,rfl,rfl,rfl,rfl⟩
@[go_sem] theorem WB:zd Tryz.prog 387=some [.nilf]∧(Tryz.prog.info? 387).isSome=true∧Tryz.prog.cellsOf 387=1∧tk Tryz.prog 390=.one∧zd Tryz.prog 390=some [.int .u32 (0)]∧yY Tryz.prog 390=some .u32∧(Tryz.prog.info? 390).isSome=true∧Tryz.prog.cellsOf 390=1∧tk Tryz.prog 391=.one∧(Tryz.prog.info? 391).isSome=true∧Tryz.prog.cellsOf 391=1∧tk Tryz.prog 393=.one∧(Tryz.prog.info? 393).isSome=true∧Tryz.prog.cellsOf 393=1∧tk Tryz.prog 398=.one∧zd Tryz.prog 398=some [.nilp]∧(Tryz.prog.info? 398).isSome=true∧Tryz.prog.cellsOf 398=1∧tk Tryz.prog 400=.agg 12∧zd Tryz.prog 400=some [.nil,.nil,.nil,.nil,.nil,.nil,.nil,.bool false,.int .i64 (0),.nil,.nil,.nil]∧bk Tryz.prog 400=some (.st [(0,2),(2,2),(4,1),(5,2),(7,1),(8,1),(9,1),(10,1),(11,1)])∧(Tryz.prog.info? 400).isSome=true∧Tryz.prog.cellsOf 400=12∧tk Tryz.prog 404=.one:=⟨rfl,rfl,rfl,rfl,rfl,rfl,rfl,rfl,rfl,rfl,rfl,rfl,rfl,rfl,rfl,rfl,rfl,rfl,rfl,rfl,rfl,rfl,rfl,rfl⟩
@[go_sem] theorem WA:zd Tryz.prog 404=some [.int .i64 (0)]∧yY Tryz.prog 404=some .i64∧(Tryz.prog.info? 404).isSome=true∧Tryz.prog.cellsOf 404=1∧tk Tryz.prog 405=.one∧(Tryz.prog.info? 405).isSome=true∧Tryz.prog.cellsOf 405=1∧tk Tryz.prog 412=.one∧zd Tryz.prog 412=some [.nilp]∧(Tryz.prog.info? 412).isSome=true∧Tryz.prog.cellsOf 412=1∧tk Tryz.prog 414=.agg 11∧zd Tryz.prog 414=some [.nil,.nil,.nil,.nil,.nil,.nil,.nil,.nil,.bool false,.int .i64 (0),.nil]∧bk Tryz.prog 414=some (.st [(0,2),(2,2),(4,2),(6,2),(8,1),(9,1),(10,1)])∧(Tryz.prog.info? 414).isSome=true∧Tryz.prog.cellsOf 414=11∧tk Tryz.prog 415=.one∧zd Tryz.prog 415=some [.nilf]∧(Tryz.prog.info? 415).isSome=true∧Tryz.prog.cellsOf 415=1∧tk Tryz.prog 430=.one∧zd Tryz.prog 430=some [.int .u64 (0)]∧yY Tryz.prog 430=some .u64∧(Tryz.prog.info? 430).isSome=true:=⟨rfl,rfl,rfl,rfl,rfl,rfl,rfl,rfl,rfl,rfl,rfl,rfl,rfl,rfl,rfl,rfl,rfl,rfl,rfl,rfl,rfl,rfl,rfl,rfl⟩
@[go_sem] theorem Wz:Tryz.prog.cellsOf 430=1∧tk Tryz.prog 434=.one∧zd Tryz.prog 434=some [.nilp]∧(Tryz.prog.info? 434).isSome=true∧Tryz.prog.cellsOf 434=1∧tk Tryz.prog 441=.one∧zd Tryz.prog 441=some [.nilp]∧(Tryz.prog.info? 441).isSome=true∧Tryz.prog.cellsOf 441=1∧Tryz.f3.results.toList=[.tmp 6]∧Tryz.f4.results.toList=[.tmp 6]∧Tryz.f12.results.toList=[.tmp 0]∧Tryz.f13.results.toList=[.tmp 6]∧Tryz.f14.results.toList=[.tmp 4]∧Tryz.f15.results.toList=[.cell 8 53,.tmp 9]∧Tryz.f16.results.toList=[.cell 8 53,.tmp 9]∧Tryz.f17.results.toList=[.tmp 4]∧Tryz.f18.results.toList=[.tmp 4]∧Tryz.f19.results.toList=[.tmp 4]∧Tryz.f20.results.toList=[.tmp 4]∧Tryz.f21.results.toList=[.tmp 4]∧Tryz.f24.results.toList=[.tmp 6,.tmp 7]∧Tryz.f32.results.toList=[.tmp 4]∧Tryz.f33.results.toList=[.tmp 4]:=⟨rfl,rfl,rfl,rfl,rfl,rfl,rfl,rfl,rfl,rfl,rfl,rfl,rfl,rfl,rfl,rfl,rfl,rfl,rfl,rfl,rfl,rfl,rfl,rfl⟩
@[go_sem] theorem Wy:Tryz.f36.results.toList=[.tmp 2]∧Tryz.f42.results.toList=[.tmp 4]∧Tryz.f48.results.toList=[.tmp 4,.tmp 5]∧Tryz.f51.results.toList=[.cell 0 25]∧Tryz.f52.results.toList=[.cell 0 41]∧Tryz.f53.results.toList=[.cell 2 36]∧Tryz.f54.results.toList=[.tmp 2]∧Tryz.f55.results.toList=[.tmp 8]∧Tryz.f56.results.toList=[.tmp 4]∧Tryz.f57.results.toList=[.tmp 6]∧Tryz.f58.results.toList=[.cell 8 53,.tmp 9]∧Tryz.f59.results.toList=[.tmp 6]∧Tryz.f60.results.toList=[.cell 8 35,.tmp 9]∧Tryz.f61.results.toList=[.cell 6 44,.cell 7 36]∧Tryz.f62.results.toList=[.tmp 4]∧Tryz.f63.results.toList=[.tmp 10]∧Tryz.f64.results.toList=[.cell 8 44]∧Tryz.f65.results.toList=[.cell 2 44]∧Tryz.f66.results.toList=[.cell 10 44,.tmp 11]∧Tryz.f67.results.toList=[.tmp 4]∧Tryz.f68.results.toList=[.tmp 2]∧Tryz.f69.results.toList=[.tmp 4]∧Tryz.f70.results.toList=[.tmp 4]∧Tryz.f71.results.toList=[.tmp 4]:=⟨rfl,rfl,rfl,rfl,rfl,rfl,rfl,rfl,rfl,rfl,rfl,rfl,rfl,rfl,rfl,rfl,rfl,rfl,rfl,rfl,rfl,rfl,rfl,rfl⟩
@[go_sem] theorem Wx:Tryz.f72.results.toList=[.tmp 4]∧Tryz.f79.results.toList=[.tmp 8,.tmp 9]∧Tryz.f83.results.toList=[.tmp 4]∧Tryz.f85.results.toList=[.tmp 4]∧Tryz.f93.results.toList=[.tmp 4]∧Tryz.f94.results.toList=[.tmp 4]∧Tryz.f95.results.toList=[.tmp 4]∧Tryz.f96.results.toList=[.tmp 4]∧Tryz.f97.results.toList=[.tmp 6]∧Tryz.f99.results.toList=[.tmp 4]∧Tryz.f103.results.toList=[.tmp 2,.tmp 3]∧Tryz.f106.results.toList=[.tmp 4]∧Tryz.f107.results.toList=[.tmp 4]∧Tryz.f110.results.toList=[.tmp 8]∧Tryz.f112.results.toList=[.tmp 2,.tmp 3]∧Tryz.f113.results.toList=[.tmp 4]∧Tryz.f120.results.toList=[.tmp 4,.tmp 5]∧Tryz.f123.results.toList=[.tmp 4]∧Tryz.f124.results.toList=[.tmp 6]∧Tryz.f125.results.toList=[.tmp 4]∧Tryz.f127.results.toList=[.tmp 2]∧Tryz.f128.results.toList=[.tmp 2]∧Tryz.f129.results.toList=[.tmp 4]∧Tryz.f130.results.toList=[.tmp 2]:=⟨rfl,rfl,rfl,rfl,rfl,rfl,rfl,rfl,rfl,rfl,rfl,rfl,rfl,rfl,rfl,rfl,rfl,rfl,rfl,rfl,rfl,rfl,rfl,rfl⟩
@[go_sem] theorem Ww:Tryz.f131.results.toList=[.tmp 6]∧Tryz.f132.results.toList=[.tmp 6]∧Tryz.f133.results.toList=[.tmp 2]∧Tryz.f134.results.toList=[.tmp 8]∧Tryz.f135.results.toList=[.tmp 2,.tmp 3]∧Tryz.f136.results.toList=[.tmp 4]∧Tryz.f137.results.toList=[.tmp 4,.tmp 5]∧Tryz.f138.results.toList=[.tmp 8]∧Tryz.f139.results.toList=[.cell 8 29,.tmp 9]∧Tryz.f140.results.toList=[.cell 8 35,.tmp 9]∧Tryz.f141.results.toList=[.tmp 12,.tmp 13]∧Tryz.f142.results.toList=[.cell 2 46]∧Tryz.f143.results.toList=[.cell 2 44]∧Tryz.f144.results.toList=[.tmp 4]∧Tryz.f145.results.toList=[.tmp 12]∧Tryz.f146.results.toList=[]∧Tryz.f147.results.toList=[.tmp 4]∧Tryz.f148.results.toList=[.tmp 10]∧Tryz.f149.results.toList=[.tmp 8,.tmp 9]∧Tryz.f150.results.toList=[.cell 8 29,.tmp 9]∧Tryz.f151.results.toList=[.cell 8 35,.tmp 9]∧Tryz.f152.results.toList=[.tmp 10,.tmp 11]∧Tryz.f153.results.toList=[.cell 6 44,.tmp 7]∧Tryz.f154.results.toList=[.tmp 4]:=⟨rfl,rfl,rfl,rfl,rfl,rfl,rfl,rfl,rfl,rfl,rfl,rfl,rfl,rfl,rfl,rfl,rfl,rfl,rfl,rfl,rfl,rfl,rfl,rfl⟩
@[go_sem] theorem Wv:Tryz.f155.results.toList=[.tmp 4]∧Tryz.f156.results.toList=[.tmp 4]∧Tryz.f157.results.toList=[.cell 2 29]∧Tryz.f158.results.toList=[.tmp 4,.tmp 5]∧Tryz.f159.results.toList=[.tmp 2]∧Tryz.f160.results.toList=[.tmp 4]∧Tryz.f161.results.toList=[.tmp 4]∧Tryz.f162.results.toList=[.tmp 4]∧Tryz.f163.results.toList=[.tmp 4]∧Tryz.f164.results.toList=[.tmp 6]∧Tryz.f167.results.toList=[.cell 4 29,.cell 5 36,.tmp 6]∧Tryz.f172.results.toList=[.tmp 8]∧Tryz.f174.results.toList=[.tmp 2]∧Tryz.f176.results.toList=[.tmp 6]∧Tryz.f177.results.toList=[.tmp 8,.tmp 9]∧Tryz.f178.results.toList=[.tmp 6,.tmp 7]∧Tryz.f180.results.toList=[.tmp 4]∧Tryz.f185.results.toList=[.tmp 2]∧Tryz.f188.results.toList=[.tmp 6]∧Tryz.f195.results.toList=[.tmp 4]∧Tryz.f196.results.toList=[.tmp 4]∧Tryz.f198.results.toList=[.tmp 4]∧Tryz.f201.results.toList=[.tmp 8]∧Tryz.f207.results.toList=[.tmp 6]:=⟨rfl,rfl,rfl,rfl,rfl,rfl,rfl,rfl,rfl,rfl,rfl,rfl,rfl,rfl,rfl,rfl,rfl,rfl,rfl,rfl,rfl,rfl,rfl,rfl⟩
@[go_sem] theorem Wu:Tryz.f210.results.toList=[.tmp 2]∧Tryz.f211.results.toList=[.tmp 4]∧Tryz.f212.results.toList=[.tmp 4]∧Tryz.f213.results.toList=[.tmp 2]∧Tryz.f214.results.toList=[.tmp 6]∧Tryz.f215.results.toList=[.tmp 4]∧Tryz.f216.results.toList=[.tmp 2]∧Tryz.f217.results.toList=[.tmp 6]∧Tryz.f218.results.toList=[.tmp 6]∧Tryz.f219.results.toList=[.tmp 4]∧Tryz.f220.results.toList=[.tmp 4]∧Tryz.f221.results.toList=[.tmp 2]∧Tryz.f222.results.toList=[.tmp 4]∧Tryz.f223.results.toList=[.tmp 4]∧Tryz.f224.results.toList=[.tmp 2]∧Tryz.f225.results.toList=[.tmp 2,.tmp 3]∧Tryz.f226.results.toList=[.tmp 6]∧Tryz.f227.results.toList=[.tmp 2]∧Tryz.f228.results.toList=[.tmp 6]∧Tryz.f229.results.toList=[.tmp 8]∧Tryz.f230.results.toList=[.tmp 10]∧Tryz.f231.results.toList=[.tmp 8,.tmp 9]∧Tryz.f232.results.toList=[.tmp 6]∧Tryz.f233.results.toList=[.tmp 8]:=⟨rfl,rfl,rfl,rfl,rfl,rfl,rfl,rfl,rfl,rfl,rfl,rfl,rfl,rfl,rfl,rfl,rfl,rfl,rfl,rfl,rfl,rfl,rfl,rfl⟩
@[go_sem] theorem Wt:Tryz.f234.results.toList=[.tmp 2]∧Tryz.f235.results.toList=[.tmp 2]∧Tryz.f236.results.toList=[.tmp 2,.tmp 3]∧Tryz.f237.results.toList=[.tmp 2]∧Tryz.f238.results.toList=[.tmp 6]∧Tryz.f239.results.toList=[.cell 12 282,.tmp 13]∧Tryz.f240.results.toList=[.tmp 2]∧Tryz.f241.results.toList=[.tmp 4,.tmp 5]∧Tryz.f242.results.toList=[.tmp 4]∧Tryz.f243.results.toList=[.tmp 4]∧Tryz.f244.results.toList=[.tmp 2,.tmp 3]∧Tryz.f245.results.toList=[.tmp 4,.tmp 5]∧Tryz.f246.results.toList=[.tmp 6]∧Tryz.f247.results.toList=[.tmp 10]∧Tryz.f248.results.toList=[.tmp 6]∧Tryz.f249.results.toList=[.tmp 6,.tmp 7]∧Tryz.f250.results.toList=[.tmp 8]∧Tryz.f251.results.toList=[.tmp 4]∧Tryz.f252.results.toList=[.tmp 8]∧Tryz.f253.results.toList=[.tmp 4]∧Tryz.f254.results.toList=[.tmp 4]∧Tryz.f255.results.toList=[.cell 10 282,.tmp 11]∧Tryz.f256.results.toList=[.tmp 4]∧Tryz.f257.results.toList=[.tmp 4]:=⟨rfl,rfl,rfl,rfl,rfl,rfl,rfl,rfl,rfl,rfl,rfl,rfl,rfl,rfl,rfl,rfl,rfl,rfl,rfl,rfl,rfl,rfl,rfl,rfl⟩
@[go_sem] theorem Ws:Tryz.f258.results.toList=[.tmp 4]∧Tryz.f259.results.toList=[.tmp 6]∧Tryz.f263.results.toList=[.tmp 4]∧Tryz.f264.results.toList=[.tmp 4]∧Tryz.f266.results.toList=[.tmp 6]∧Tryz.f267.results.toList=[.tmp 2]∧Tryz.f268.results.toList=[.tmp 4]∧Tryz.f269.results.toList=[.tmp 10,.tmp 11]∧Tryz.f270.results.toList=[.tmp 4]∧Tryz.f271.results.toList=[.tmp 4]∧Tryz.f275.results.toList=[]∧Tryz.f276.results.toList=[.tmp 2]∧Tryz.f277.results.toList=[.tmp 2]∧Tryz.f278.results.toList=[.tmp 4]∧Tryz.f280.results.toList=[.tmp 4]∧Tryz.f281.results.toList=[.tmp 4]∧Tryz.f282.results.toList=[.tmp 4]∧Tryz.f283.results.toList=[.tmp 4]∧Tryz.f286.results.toList=[.tmp 2]∧Tryz.f287.results.toList=[.tmp 4]∧Tryz.f288.results.toList=[.cell 8 118,.tmp 9]∧Tryz.f289.results.toList=[.tmp 2]∧Tryz.f290.results.toList=[.tmp 4]∧Tryz.f291.results.toList=[.tmp 4]:=⟨rfl,rfl,rfl,rfl,rfl,rfl,rfl,rfl,rfl,rfl,rfl,rfl,rfl,rfl,rfl,rfl,rfl,rfl,rfl,rfl,rfl,rfl,rfl,rfl⟩
@[go_sem] theorem Wr:Tryz.f292.results.toList=[.tmp 6]∧Tryz.f293.results.toList=[.tmp 2]∧Tryz.f294.results.toList=[.tmp 2,.tmp 3]∧Tryz.f295.results.toList=[.tmp 6]∧Tryz.f296.results.toList=[.tmp 4]∧Tryz.f297.results.toList=[.tmp 3]∧Tryz.f298.results.toList=[.tmp 4]∧Tryz.f299.results.toList=[.tmp 4]∧Tryz.f300.results.toList=[.tmp 3]∧Tryz.f301.results.toList=[.tmp 4]∧Tryz.f302.results.toList=[.tmp 3]∧Tryz.f303.results.toList=[.tmp 4]∧Tryz.f304.results.toList=[.tmp 2,.tmp 3]∧Tryz.f305.results.toList=[.tmp 3]∧Tryz.f306.results.toList=[.tmp 4]∧Tryz.f307.results.toList=[.tmp 3]∧Tryz.f308.results.toList=[.tmp 6]∧Tryz.f309.results.toList=[.cell 6 118,.tmp 7]∧Tryz.f310.results.toList=[.tmp 4]∧Tryz.f311.results.toList=[.tmp 4]∧Tryz.f312.results.toList=[.tmp 4]∧Tryz.f313.results.toList=[.tmp 6]∧Tryz.f314.results.toList=[.cell 4 29,.cell 5 36,.tmp 6]∧Tryz.f315.results.toList=[.tmp 6]:=⟨rfl,rfl,rfl,rfl,rfl,rfl,rfl,rfl,rfl,rfl,rfl,rfl,rfl,rfl,rfl,rfl,rfl,rfl,rfl,rfl,rfl,rfl,rfl,rfl⟩
@[go_sem] theorem Wq:Tryz.f316.results.toList=[.tmp 6]∧Tryz.f317.results.toList=[.tmp 2]∧Tryz.f318.results.toList=[.tmp 6]∧Tryz.f319.results.toList=[.tmp 2]∧Tryz.f320.results.toList=[.tmp 4]∧Tryz.f321.results.toList=[.tmp 3]∧Tryz.f322.results.toList=[.tmp 4]∧Tryz.f323.results.toList=[.tmp 4]∧Tryz.f324.results.toList=[.tmp 6]∧Tryz.f325.results.toList=[.tmp 2]∧Tryz.f326.results.toList=[.tmp 4]∧Tryz.f327.results.toList=[.tmp 2]∧Tryz.f328.results.toList=[.tmp 4]∧Tryz.f329.results.toList=[.tmp 4]∧Tryz.f330.results.toList=[.tmp 2]∧Tryz.f331.results.toList=[.tmp 12]∧Tryz.f332.results.toList=[.cell 6 282,.tmp 7]∧Tryz.f333.results.toList=[.tmp 4]∧Tryz.f334.results.toList=[.tmp 2]∧Tryz.f335.results.toList=[.tmp 4,.tmp 5]∧Tryz.f336.results.toList=[.tmp 4,.tmp 5]∧Tryz.f337.results.toList=[.tmp 2]∧Tryz.f338.results.toList=[.tmp 2]∧Tryz.f339.results.toList=[.tmp 4]:=⟨rfl,rfl,rfl,rfl,rfl,rfl,rfl,rfl,rfl,rfl,rfl,rfl,rfl,rfl,rfl,rfl,rfl,rfl,rfl,rfl,rfl,rfl,rfl,rfl⟩
@[go_sem] theorem Wp:Tryz.f340.results.toList=[.tmp 4]∧Tryz.f341.results.toList=[.tmp 10,.tmp 11]∧Tryz.f345.results.toList=[.tmp 4]∧Tryz.f346.results.toList=[.tmp 12]∧Tryz.f347.results.toList=[.tmp 3,.tmp 4,.tmp 5]∧Tryz.f348.results.toList=[.tmp 4,.tmp 5]∧Tryz.f349.results.toList=[.tmp 2]∧Tryz.f350.results.toList=[.tmp 4]∧Tryz.f351.results.toList=[.tmp 4]∧Tryz.f352.results.toList=[]∧Tryz.f353.results.toList=[.tmp 2]∧Tryz.f354.results.toList=[.tmp 2]∧Tryz.f355.results.toList=[.tmp 4]∧Tryz.f356.results.toList=[.tmp 12]∧Tryz.f358.results.toList=[.tmp 2]∧Tryz.f359.results.toList=[.cell 4 319,.tmp 5,.tmp 6]∧Tryz.f360.results.toList=[.tmp 4]∧Tryz.f361.results.toList=[.tmp 2]∧Tryz.f362.results.toList=[.tmp 4]∧Tryz.f363.results.toList=[.tmp 4]∧Tryz.f364.results.toList=[.tmp 4]∧Tryz.f365.results.toList=[.tmp 3]∧Tryz.f366.results.toList=[.tmp 2]∧Tryz.f367.results.toList=[.tmp 4]:=⟨rfl,rfl,rfl,rfl,rfl,rfl,rfl,rfl,rfl,rfl,rfl,rfl,rfl,rfl,rfl,rfl,rfl,rfl,rfl,rfl,rfl,rfl,rfl,rfl⟩
@[go_sem] theorem Wo:Tryz.f368.results.toList=[.tmp 2,.tmp 3,.tmp 4]∧Tryz.f369.results.toList=[.tmp 4]∧Tryz.f370.results.toList=[.tmp 4]∧Tryz.f371.results.toList=[.tmp 4]∧Tryz.f372.results.toList=[.tmp 3]∧Tryz.f373.results.toList=[.tmp 3]∧Tryz.f374.results.toList=[.tmp 4]∧Tryz.f375.results.toList=[.tmp 3]∧Tryz.f376.results.toList=[.tmp 2]∧Tryz.f377.results.toList=[.tmp 2]∧Tryz.f378.results.toList=[.tmp 2,.tmp 3]∧Tryz.f379.results.toList=[.tmp 6]∧Tryz.f380.results.toList=[.tmp 3]∧Tryz.f381.results.toList=[.tmp 4]∧Tryz.f382.results.toList=[.tmp 2]∧Tryz.f383.results.toList=[.tmp 2]∧Tryz.f384.results.toList=[.tmp 3]∧Tryz.f385.results.toList=[.tmp 3]∧Tryz.f386.results.toList=[.tmp 4,.tmp 5]∧Tryz.f387.results.toList=[.tmp 4]∧Tryz.f388.results.toList=[.cell 6 282,.tmp 7]∧Tryz.f389.results.toList=[.tmp 2]∧Tryz.f391.results.toList=[.tmp 4,.tmp 5]∧Tryz.f392.results.toList=[.tmp 4,.tmp 5]:=⟨rfl,rfl,rfl,rfl,rfl,rfl,rfl,rfl,rfl,rfl,rfl,rfl,rfl,rfl,rfl,rfl,rfl,rfl,rfl,rfl,rfl,rfl,rfl,rfl⟩
@[go_sem] theorem Wn:Tryz.f393.results.toList=[.tmp 6]∧Tryz.f394.results.toList=[.tmp 10,.tmp 11]∧Tryz.f395.results.toList=[.tmp 8,.tmp 9]∧Tryz.f396.results.toList=[.tmp 4]∧Tryz.f397.results.toList=[.tmp 4]∧Tryz.f398.results.toList=[]∧Tryz.f400.results.toList=[.tmp 2]∧Tryz.f401.results.toList=[]∧Tryz.f402.results.toList=[]∧Tryz.f403.results.toList=[]∧Tryz.f404.results.toList=[.tmp 6,.tmp 7]∧Tryz.f405.results.toList=[]∧Tryz.f406.results.toList=[.tmp 6]∧Tryz.f407.results.toList=[.tmp 8]∧Tryz.f408.results.toList=[.tmp 8,.tmp 9]∧Tryz.f409.results.toList=[.tmp 2]∧Tryz.f410.results.toList=[.tmp 2]∧Tryz.f411.results.toList=[]∧Tryz.f412.results.toList=[.tmp 2]∧Tryz.f413.results.toList=[.tmp 2]∧Tryz.f414.results.toList=[.tmp 6]∧Tryz.f415.results.toList=[.tmp 4]∧Tryz.f416.results.toList=[.tmp 0]∧Tryz.f417.results.toList=[.tmp 4]:=⟨rfl,rfl,rfl,rfl,rfl,rfl,rfl,rfl,rfl,rfl,rfl,rfl,rfl,rfl,rfl,rfl,rfl,rfl,rfl,rfl,rfl,rfl,rfl,rfl⟩
@[go_sem] theorem Wm:Tryz.f418.results.toList=[.tmp 2]∧Tryz.f419.results.toList=[.tmp 4]∧Tryz.f420.results.toList=[.tmp 4]∧Tryz.f421.results.toList=[.tmp 2]∧Tryz.f422.results.toList=[.tmp 4]∧Tryz.f423.results.toList=[.tmp 2]∧Tryz.f424.results.toList=[.tmp 2]∧Tryz.f425.results.toList=[.tmp 2,.tmp 3]∧Tryz.f426.results.toList=[.tmp 2]∧Tryz.f427.results.toList=[.tmp 4]∧Tryz.f428.results.toList=[.tmp 4]∧Tryz.f429.results.toList=[.tmp 4]∧Tryz.f430.results.toList=[.tmp 2]∧Tryz.f431.results.toList=[.tmp 4]∧Tryz.f432.results.toList=[.tmp 2]∧Tryz.f433.results.toList=[.tmp 3]∧Tryz.f434.results.toList=[]∧Tryz.f435.results.toList=[.tmp 2]∧Tryz.f436.results.toList=[]∧Tryz.f437.results.toList=[.tmp 4]∧Tryz.f438.results.toList=[.tmp 4]∧Tryz.f439.results.toList=[.tmp 6,.tmp 7]∧Tryz.f440.results.toList=[.tmp 6]∧Tryz.f441.results.toList=[.tmp 4]:=⟨rfl,rfl,rfl,rfl,rfl,rfl,rfl,rfl,rfl,rfl,rfl,rfl,rfl,rfl,rfl,rfl,rfl,rfl,rfl,rfl,rfl,rfl,rfl,rfl⟩
@[go_sem] theorem Wl:Tryz.f442.results.toList=[.tmp 2]∧Tryz.f443.results.toList=[.tmp 6]∧Tryz.f444.results.toList=[]∧Tryz.f445.results.toList=[.tmp 2]∧Tryz.f446.results.toList=[.tmp 2]∧Tryz.f447.results.toList=[.tmp 6]∧Tryz.f448.results.toList=[.tmp 10]∧Tryz.f449.results.toList=[.tmp 4]∧Tryz.f450.results.toList=[]∧Tryz.f451.results.toList=[.tmp 6]∧Tryz.f452.results.toList=[.tmp 4]∧Tryz.f453.results.toList=[.tmp 2]∧Tryz.f454.results.toList=[.tmp 4]∧Tryz.f455.results.toList=[.tmp 4]∧Tryz.f456.results.toList=[.tmp 4]∧Tryz.f457.results.toList=[.tmp 6]∧Tryz.f458.results.toList=[.tmp 10,.tmp 11]∧Tryz.f459.results.toList=[.tmp 8,.tmp 9]∧Tryz.f460.results.toList=[.tmp 8,.tmp 9]∧Tryz.f462.results.toList=[.tmp 4]∧Tryz.f463.results.toList=[.tmp 3]:=⟨rfl,rfl,rfl,rfl,rfl,rfl,rfl,rfl,rfl,rfl,rfl,rfl,rfl,rfl,rfl,rfl,rfl,rfl,rfl,rfl,rfl⟩
attribute [go_sem] Tryz.underlying3 Tryz.underlying4 Tryz.underlying5 Tryz.underlying9 Tryz.underlying22 Tryz.underlying23 Tryz.underlying25 Tryz.underlying26 Tryz.underlying27 Tryz.underlying29 Tryz.underlying30 Tryz.underlying31 Tryz.underlying33 Tryz.underlying35 Tryz.underlying36 Tryz.underlying37 Tryz.underlying39 Tryz.underlying41 Tryz.underlying42 Tryz.underlying44
attribute [go_sem] Tryz.underlying46 Tryz.underlying48 Tryz.underlying53 Tryz.underlying54 Tryz.underlying55 Tryz.underlying61 Tryz.underlying62 Tryz.underlying63 Tryz.underlying65 Tryz.underlying66 Tryz.underlying68 Tryz.underlying69 Tryz.underlying70 Tryz.underlying72 Tryz.underlying74 Tryz.underlying76 Tryz.underlying77 Tryz.underlying79 Tryz.underlying81 Tryz.underlying82
attribute [go_sem] Tryz.underlying85 Tryz.underlying88 Tryz.underlying90 Tryz.underlying96 Tryz.underlying97 Tryz.underlying98 Tryz.underlying103 Tryz.underlying109 Tryz.underlying111 Tryz.underlying113 Tryz.underlying114 Tryz.underlying116 Tryz.underlying118 Tryz.underlying120 Tryz.underlying122 Tryz.underlying130 Tryz.underlying137 Tryz.underlying146 Tryz.underlying150 Tryz.underlying152
attribute [go_sem] Tryz.underlying157 Tryz.underlying159 Tryz.underlying166 Tryz.underlying167 Tryz.underlying170 Tryz.underlying172 Tryz.underlying174 Tryz.underlying176 Tryz.underlying182 Tryz.underlying191 Tryz.underlying193 Tryz.underlying202 Tryz.underlying209 Tryz.underlying214 Tryz.underlying217 Tryz.underlying227 Tryz.underlying230 Tryz.underlying236 Tryz.underlying242 Tryz.underlying243
attribute [go_sem] Tryz.underlying246 Tryz.underlying254 Tryz.underlying273 Tryz.underlying275 Tryz.underlying276 Tryz.underlying280 Tryz.underlying282 Tryz.underlying283 Tryz.underlying285 Tryz.underlying288 Tryz.underlying289 Tryz.underlying292 Tryz.underlying301 Tryz.underlying302 Tryz.underlying304 Tryz.underlying305 Tryz.underlying306 Tryz.underlying319 Tryz.underlying321 Tryz.underlying326
attribute [go_sem] Tryz.underlying330 Tryz.underlying333 Tryz.underlying334 Tryz.underlying337 Tryz.underlying342 Tryz.underlying343 Tryz.underlying347 Tryz.underlying349 Tryz.underlying350 Tryz.underlying354 Tryz.underlying360 Tryz.underlying362 Tryz.underlying363 Tryz.underlying371 Tryz.underlying376 Tryz.underlying378 Tryz.underlying383 Tryz.underlying387 Tryz.underlying390 Tryz.underlying391
attribute [go_sem] Tryz.underlying393 Tryz.underlying398 Tryz.underlying400 Tryz.underlying404 Tryz.underlying405 Tryz.underlying412 Tryz.underlying414 Tryz.underlying415 Tryz.underlying430 Tryz.underlying434 Tryz.underlying441
theorem mixed:Tryz.prog.follows .mixedOrders=true:=rfl
theorem pK {f:FuncId}{fn:Func}{x:Code}{args:List D}{r:D}(cfg:Cfg)(hf:Tryz.prog.funcs[f]?=some fn)(hb:fn.body=some x)
  (h:∀ Q:D→AHeap→Prop,(∀ d H',(oF H' d=r∨Oy (oF H' d)=r)→Q d H')→mE Tryz.prog cfg x (Nz Tryz.prog fn.results.toList Q) (xN args) .emp)
  (hcl:r.cl=true:=by first|rfl|(simp [go_sem];done)) (hnm:(fn.name=="runtime.NumGoroutine")=false:=by rfl) (hlen:args.length≤fn.ntmps:=by exact aF rfl) (hok:mW cfg fn.ntmps x=true:=by kernel_rfl):Pure Tryz.prog f args r :=
 MC hcl fun Q hQ=>aI mixed hf hb hnm hlen hok (h Q hQ)
theorem oK {f:FuncId}{fn:Func}{x:Code}{args:List D}{ty:TypeId}{sz:Nat}{es:List (List D)}(cfg:Cfg)(hf:Tryz.prog.funcs[f]?=some fn)(hb:fn.body=some x)
  (h:∀ Q:D→AHeap→Prop,(∀ id n H',n=es.length→H'.get id=some ⟨ty,sz,es,false⟩→Q (.own id n) H')→mE Tryz.prog cfg x (Nz Tryz.prog fn.results.toList Q) (xN args) .emp)
  (hcl:D.clLL es=true:=by first|rfl|(simp [go_sem];done)) (hnm:(fn.name=="runtime.NumGoroutine")=false:=by rfl) (hlen:args.length≤fn.ntmps:=by exact aF rfl) (hok:mW cfg fn.ntmps x=true:=by kernel_rfl):Own Tryz.prog f args ty sz es :=
 Xc hcl fun Q hQ=>aI mixed hf hb hnm hlen hok (h Q hQ)
end Go.Abs.Tz
end
section
namespace Go.Abs
variable {P:Program} {md:Nat→Bool} {ops:Array Oper} {sp:List (Nat × Nat)} {n0 i:Nat} {rest:List Oper} {acc:List (Nat × List Nat)} {e:dA} {dst:Option Tmp} {K:dA→AHeap→Prop} {f:FuncId} {args:List D} {H:AHeap} {r:D}
end Go.Abs
end
section
set_option maxRecDepth 4000
open Go Go.Proofs
namespace Go.Abs
def g8 (c:Int):Bool:=decide (97≤c)&&decide (c≤122)||(decide (65≤c)&&decide (c≤90))
def i9 (c:Int):Bool:=decide (48≤c)&&decide (c≤57)
def mT (c:Int):Bool:=g8 c||i9 c||c==95
theorem zK (c:Int):Pure Tryz.prog 421 [.int .u8 c] (.bool (g8 c)):=by
 refine aN (aI (cfg:=⟨fun _=>false,fun _=>[]⟩) Tz.mixed Tryz.func421 rfl rfl (aF rfl) (by kernel_rfl) ?_)
 simp [go_sem,seval,g8,D.cl]
 omega
theorem vG (c:Int):Pure Tryz.prog 424 [.int .u8 c] (.bool (i9 c)):=by
 refine aN (aI (cfg:=⟨fun _=>false,fun _=>[]⟩) Tz.mixed Tryz.func424 rfl rfl (aF rfl) (by kernel_rfl) ?_)
 simp [go_sem,seval,i9,D.cl]
theorem K6 (c:Int):Pure Tryz.prog 423 [.int .u8 c] (.bool (mT c)):=by
 refine aN (aI (cfg:=⟨fun _=>false,fun _=>[]⟩) Tz.mixed Tryz.func423 rfl rfl (aF rfl) (by kernel_rfl) ?_)
 simp [go_sem,seval]
 refine aB (zK c) rfl ?_
 simp [go_sem,seval]
 refine aG (fun _=>vG c) (fun _=>rfl) ?_
 simp [go_sem,seval,mT,D.cl]
def uE (s:ByteArray)(i:Nat):Int:=((s.data[i]?.getD 0).toNat:Int)
def fL (p:Int→Bool)(s:ByteArray):Nat:=(s.data.toList.takeWhile fun b=>p (b.toNat:Int)).length
theorem rW {α:Type}(p:α→Bool):∀ (l:List α) (n:Nat),(∀ j x,j<n→l[j]?=some x→p x=true)→n≤l.length→(∀ x,l[n]?=some x→p x=false)→(l.takeWhile p).length=n
 | [],n,_,h,_=>by simp at h;subst h;rfl
 | a :: l,0,_,_,h=>by have:=h a rfl;simp [List.takeWhile,this]
 | a :: l,n+1,h1,h2,h3=>by
  have ha:=h1 0 a (by omega) rfl
  simp only [List.takeWhile,ha,eK]
  rw [rW p l n (fun j x hj hx=>h1 (j+1) x (by omega) hx) (by simpa using h2) fun x hx=>h3 x hx]
theorem Gf (p:Int→Bool)(s:ByteArray)(n:Nat)(h1:∀ j,j<n→p (uE s j)=true)(h2:n≤s.size)(h3:n<s.size→p (uE s n)=false):fL p s=n:=by
 have hl:s.data.toList.length=s.size:=rfl
 have hb:∀ j x,s.data.toList[j]?=some x→uE s j=(x.toNat:Int):=fun j x hx=>by
  simp only [Array.getElem?_toList] at hx
  simp [uE,hx]
 refine rW _ _ _ (fun j x hj hx=>by rw [← hb j x hx];exact h1 j hj) (by rw [hl];exact h2) fun x hx=>?_
 rw [← hb n x hx]
 refine h3 ?_
 rw [← hl]
 exact (aL.1 hx).1
theorem Ok (s:ByteArray)(i:Nat):0≤uE s i∧uE s i≤255:=by
 unfold uE
 have:=(s.data[i]?.getD 0).toNat_lt
 omega
theorem AZ (s:ByteArray)(g:FuncId)(p:Int→Bool)(hs:s.size≤1000000)(hg:∀ c,0≤c→c≤255→Pure Tryz.prog g [.int .u8 c] (.bool (p c))) :
  Pure Tryz.prog 422 [.str s,.fn g []] (dI (fL p s)):=by
 refine aN (aI (cfg:=⟨fun _=>false,fun _=>[]⟩) Tz.mixed Tryz.func422 rfl rfl (aF rfl) (by kernel_rfl) ?_)
 simp [go_sem,seval]
 refine eX (ι:=Nat) (fun n e H=>H=.emp∧n≤s.size∧e 0=.str s∧e 1=.fn g []∧e 5=dI n∧(∀ j,j<n→p (uE s j)=true)) (fun n=>s.size - n) 0 (by simp [go_sem,seval,dI]) ?_
 intro n e H ⟨hH,hn,h0,h1,h5,hp⟩
 subst hH
 simp [go_sem,seval,h0,h1,h5,dI]
 have hb:=Ok s n
 refine aG (r:=.bool (p (uE s n))) (fun _=>hg _ hb.1 hb.2) (fun _=>rfl) ?_
 simp [go_sem,seval,h0,h1,h5,dI]
 refine aP (fun h=>?_) (fun h=>?_)
 ·simp at h
  simp [go_sem,seval,h0,h1,h5,dI]
  refine ⟨cG (by omega) (by omega),n+1,by omega,by omega,by omega,fun j hj=>?_⟩
  rcases bN j n with hj'|hj'
  ·exact hp j hj'
  ·have:j=n:=by omega
   subst this;exact h.2
 ·simp at h
  simp [go_sem,seval,h0,h1,h5,dI,D.cl]
  rw [Gf p s n hp hn h]
def IE {α:Type}[DecidableEq α](xs:List α)(v:α):Int:=match xs.findIdx? (fun x=>decide (x=v)) with|some i=>i|none=>-1
def mem {α:Type}[DecidableEq α](xs:List α)(v:α):Bool:=decide (0≤IE xs v)
theorem sX {α:Type}[DecidableEq α]{xs:List α}{v:α}{i:Nat}(h:∀ j,j<i→xs[j]?≠some v)(hi:xs[i]?=some v):IE xs v=i:=by
 have:xs.findIdx? (fun x=>decide (x=v))=some i:=by
  have hlt:=(aL.1 hi).1
  rw [gZ]
  refine ⟨hlt,by simpa using (aL.1 hi).2,fun j hj=>?_⟩
  have:=h j hj
  rw [aA (by omega)] at this
  simpa using this
 simp [IE,this]
theorem Aq {α:Type}[DecidableEq α]{xs:List α}{v:α}(h:∀ j,j<xs.length→xs[j]?≠some v):IE xs v = -1:=by
 have:xs.findIdx? (fun x=>decide (x=v))=none:=by
  rw [pT]
  intro x hx
  obtain ⟨j,hj,rfl⟩:=aO hx
  have:=h j hj
  rw [aA hj] at this
  simpa using this
 simp [IE,this]
theorem Qq {α:Type}[DecidableEq α](xs:List α)(v:α):0≤IE xs v↔v∈xs:=by
 unfold IE
 cases h:xs.findIdx? (fun x=>decide (x=v)) with
 | none =>
  rw [pT] at h
  constructor
  ·intro h';simp at h'
  ·intro hv;have:=h v hv;simp at this
 | some i =>
  rw [gZ] at h
  obtain ⟨hi,hv,_⟩:=h
  have:xs[i]=v:=by simpa using hv
  constructor
  ·intro _;rw [← this];exact aC hi
  ·intro _;simp
theorem c6 {α:Type}[DecidableEq α](xs:List α)(v:α):mem xs v=true↔v∈xs:=by simp [mem,Qq]
theorem N6 (xs:List ByteArray)(v:ByteArray):Pure Tryz.prog 452 [qV xs,.str v] (dI (IE xs v)):=by
 refine aN (aI (cfg:=⟨fun _=>false,fun _=>[]⟩) Tz.mixed Tryz.func452 rfl rfl (aF rfl) (by kernel_rfl) ?_)
 simp [go_sem,seval,dI,qV]
 intro hlen
 refine eX (ι:=Nat) (fun i e H=>H=.emp∧i≤xs.length∧e 0=qV xs∧e 1=.str v∧e 7=dI xs.length∧e 8=dI i∧(∀ j,j<i→xs[j]?≠some v)) (fun i=>xs.length - i) 0 (by simp [go_sem,seval,dI,qV]) ?_
 intro i e H ⟨hH,hi,h0,h1,h7,h8,hn⟩
 subst hH
 simp [go_sem,seval,h0,h1,h7,h8,dI,qV]
 refine fB (fun hlt=>?_) (fun hge=>?_)
 ·simp [go_sem,seval,h0,h1,h7,h8,dI,qV,cS,hlt]
  refine aP (fun h=>?_) (fun h=>?_)
  ·simp at h
   simp [go_sem,seval,h0,h1,h7,h8,dI,qV,D.cl]
   rw [sX hn (by rw [aA hlt,h])]
  ·simp at h
   simp [go_sem,seval,h0,h1,h7,h8,dI,qV,D.cl]
   refine ⟨cG (by omega) (by omega),i+1,by omega,by omega,by omega,fun j hj=>?_⟩
   rcases bN j i with hj'|hj'
   ·exact hn j hj'
   ·have:j=i:=by omega
    subst this;rw [aA hlt];simpa using fun e=>h e.symm
 ·simp [go_sem,seval,h0,h1,h7,h8,dI,qV,D.cl]
  rw [Aq fun j hj=>hn j (by omega)]
theorem Az (xs:List ByteArray)(v:ByteArray):Pure Tryz.prog 420 [qV xs,.str v] (.bool (mem xs v)):=by
 refine aN (aI (cfg:=⟨fun _=>false,fun _=>[]⟩) Tz.mixed Tryz.func420 rfl rfl (aF rfl) (by kernel_rfl) ?_)
 simp [go_sem,seval]
 refine aB (N6 xs v) (by simp [D.clL,go_sem,D.cl,dI]) ?_
 simp [go_sem,seval,D.cl,dI,mem]
theorem N7 (xs:List Int)(v:Int):Pure Tryz.prog 180 [dLI xs,dI v] (dI (IE xs v)):=by
 refine aN (aI (cfg:=⟨fun _=>false,fun _=>[]⟩) Tz.mixed Tryz.func180 rfl rfl (aF rfl) (by kernel_rfl) ?_)
 simp [go_sem,seval,dI,dLI]
 intro hlen
 refine eX (ι:=Nat) (fun i e H=>H=.emp∧i≤xs.length∧e 0=dLI xs∧e 1=dI v∧e 7=dI xs.length∧e 8=dI i∧(∀ j,j<i→xs[j]?≠some v)) (fun i=>xs.length - i) 0 (by simp [go_sem,seval,dI,dLI]) ?_
 intro i e H ⟨hH,hi,h0,h1,h7,h8,hn⟩
 subst hH
 simp [go_sem,seval,h0,h1,h7,h8,dI,dLI]
 refine fB (fun hlt=>?_) (fun hge=>?_)
 ·simp [go_sem,seval,h0,h1,h7,h8,dI,dLI,cI,hlt]
  refine aP (fun h=>?_) (fun h=>?_)
  ·simp at h
   simp [go_sem,seval,h0,h1,h7,h8,dI,dLI,D.cl]
   rw [sX hn (by rw [aA hlt,h])]
  ·simp at h
   simp [go_sem,seval,h0,h1,h7,h8,dI,dLI,D.cl]
   refine ⟨cG (by omega) (by omega),i+1,by omega,by omega,by omega,fun j hj=>?_⟩
   rcases bN j i with hj'|hj'
   ·exact hn j hj'
   ·have:j=i:=by omega
    subst this;rw [aA hlt];simpa using fun e=>h e.symm
 ·simp [go_sem,seval,h0,h1,h7,h8,dI,dLI,D.cl]
  rw [Aq fun j hj=>hn j (by omega)]
theorem fT (xs:List Int)(v:Int):Pure Tryz.prog 83 [dLI xs,dI v] (.bool (mem xs v)):=by
 refine aN (aI (cfg:=⟨fun _=>false,fun _=>[]⟩) Tz.mixed Tryz.func83 rfl rfl (aF rfl) (by kernel_rfl) ?_)
 simp [go_sem,seval]
 refine aB (N7 xs v) (by simp [D.clL,go_sem,D.cl,dI]) ?_
 simp [go_sem,seval,D.cl,dI,mem]
def mR (c:Int):Bool:=decide (32≤c)&&decide (c≤126)&&c != 34
theorem Fi (c:Int):Pure Tryz.prog 453 [.int .u8 c] (.bool (mR c)):=by
 refine aN (aI (cfg:=⟨fun _=>false,fun _=>[]⟩) Tz.mixed Tryz.func453 rfl rfl (aF rfl) (by kernel_rfl) ?_)
 simp [go_sem,seval,mR,D.cl]
def tU (s:ByteArray):Int × Int :=
 let n:=fL mR (s.extract 1 s.size)
 if (1+(n:Int)=s.size)∨uE s (1+n)≠34 then (0,2) else if 60<n then (0,3) else (n+2,0)
theorem A7 (p:Int→Bool)(s:ByteArray):fL p s≤s.size:=by
 have:=(List.takeWhile_sublist (l:=s.data.toList) (fun b:UInt8=>p (b.toNat:Int))).length_le
 exact this
theorem Hl (s:ByteArray)(h1:1≤s.size)(h2:s.size≤100000):Pure Tryz.prog 425 [.str s] (.tup [dI (tU s).1,dI (tU s).2]):=by
 refine aN (aI (cfg:=⟨fun _=>false,fun _=>[]⟩) Tz.mixed Tryz.func425 rfl rfl (aF rfl) (by kernel_rfl) ?_)
 simp [go_sem,seval,h1]
 have hx:(s.extract 1 s.size).size≤1000000:=by rw [ByteArray.size_extract];omega
 refine ⟨by omega,aB (AZ (s.extract 1 s.size) _ _ hx (fun c _ _=>Fi c)) rfl ?_⟩
 have hl:=A7 mR (s.extract 1 s.size)
 rw [ByteArray.size_extract] at hl
 simp [go_sem,seval,dI]
 unfold tU
 generalize fL mR (s.extract 1 s.size)=n at *
 have hb:((s.data[(1+(n:Int)).toNat]?.getD 0).toNat:Int)=uE s (1+n):=by
  unfold uE;congr 3
 rw [hb]
 refine ⟨cG (by omega) (by omega),fun _=>cG (by omega) (by omega),fun h=>by omega,aP (fun h=>?_) (fun h=>?_)⟩
 ·simp at h
  simp [go_sem,seval,h]
 ·simp at h
  simp [go_sem,seval,h]
  refine aP (fun h6=>?_) (fun h6=>?_)
  ·simp at h6
   simp [go_sem,seval,show 60<n by omega]
  ·simp at h6
   simp [go_sem,seval,show ¬ 60<n by omega]
   exact cG (by omega) (by omega)
def Gp:List ByteArray:=[⟨#[45,62]⟩,⟨#[60,61]⟩,⟨#[62,61]⟩,⟨#[61,61]⟩,⟨#[33,61]⟩]
theorem K7 (s:ByteArray):Pure Tryz.prog 426 [.str s] (.bool (decide ((2:Int)≤s.size)&&mem Gp (s.extract 0 2))):=by
 refine aN (aI (cfg:=⟨fun _=>false,fun _=>[]⟩) Tz.mixed Tryz.func426 rfl rfl (aF rfl) (by kernel_rfl) ?_)
 simp [go_sem,seval]
 refine aG (r:=.bool (mem Gp (s.extract 0 2))) (fun _=>Az Gp (s.extract 0 2)) (fun _=>rfl) ?_
 simp [go_sem,seval]
def Ms:ByteArray:=⟨#[123,125,40,41,91,93,44,59,58,61,43,45,42,60,62,33,38,124,46,63]⟩
def H8 (s:ByteArray)(c:Int):Int:=firstIdx s c.toNat.toUInt8
theorem KB (s:ByteArray)(c:Int)(w:World):(callFunc 461 #[.string s,.int .u8 c]).run Tryz.prog w=.ok (.value (.int .i64 (firstIdx s c.toNat.toUInt8))) w:=by
 rw [run_callFunc_extern Tryz.func461 (by kernel_rfl) (by kernel_rfl) (by kernel_rfl) (e:=Extern.BytealgIndexByte.indexByte) (by kernel_rfl),run_indexByte_string]
 rfl
set_option maxHeartbeats 400000 in
open RowKit in
theorem zM (s:ByteArray)(c:Int)(w:World) :
  Calls Tryz.prog 454 #[.string s,.int .u8 c] w fun e w'=>e=.returned (.int .i64 (firstIdx s c.toNat.toUInt8))∧w'=w:=by
 have h:=KB s c
 go_enter Tryz.func454,Tryz.ntmps454
 go_wp2
 go_ret
 exact ⟨rfl,rfl⟩
theorem u3 (s : ByteArray) (c : Int) : Pure Tryz.prog 454 [.str s, .int .u8 c] (dI (H8 s c)) := by
  refine ⟨⟨Tryz.f454, Tryz.func454, rfl, rfl⟩, fun M w vals hM ha => ?_⟩
  have hv : vals = [.string s, .int .u8 c] := by
    obtain ⟨hl, hr⟩ := ha
    match vals, hl with
    | [a, b], _ =>
      have h0 := hr 0 a _ rfl rfl
      have h1 := hr 1 b _ rfl rfl
      cases h0
      cases h1
      rfl
  subst hv
  exact (zM s c w).mono fun e w' ⟨h1, h2⟩ => ⟨_, h1, .int _ _, by subst h2; exact ⟨rfl, rfl, rfl, bC _, fun _ _ => rfl⟩⟩
theorem zN (s:ByteArray)(c:Int):Pure Tryz.prog 427 [.str s,.int .u8 c] (dI (H8 s c)):=by
 refine aN (aI (cfg:=⟨fun _=>false,fun _=>[]⟩) Tz.mixed Tryz.func427 rfl rfl (aF rfl) (by kernel_rfl) ?_)
 simp [go_sem,seval]
 refine aB (u3 s c) rfl ?_
 simp [go_sem,seval,dI]
def oZ (s:ByteArray):Int × Int × Int :=
 if g8 (uE s 0)=true then (if 20<fL mT s then (0,0,3) else (1,fL mT s,0))
 else if i9 (uE s 0)=true then (if 9<fL i9 s then (0,0,3) else (2,fL i9 s,0))
 else if uE s 0=34 then (3,(tU s).1,(tU s).2)
 else if (decide ((2:Int)≤s.size)&&mem Gp (s.extract 0 2))=true then (4,2,0)
 else if 0≤H8 Ms (uE s 0) then (4,1,0) else (0,0,2)
theorem K8 (s:ByteArray)(h1:1≤s.size)(h2:s.size≤100000):Pure Tryz.prog 368 [.str s] (.tup [dI (oZ s).1,dI (oZ s).2.1,dI (oZ s).2.2]):=by
 refine aN (aI (cfg:=⟨fun _=>false,fun _=>[]⟩) Tz.mixed Tryz.func368 rfl rfl (aF rfl) (by kernel_rfl) ?_)
 simp [go_sem,seval]
 have hb:((s.data[0]?.getD 0).toNat:Int)=uE s 0:=rfl
 simp only [hb]
 refine ⟨by omega,aB (zK _) rfl ?_⟩
 simp [go_sem,seval]
 refine aP (fun hl=>?_) (fun hl=>?_)
 ·simp [go_sem,seval]
  refine aB (AZ s _ _ (by omega) (fun c _ _=>K6 c)) rfl ?_
  simp [go_sem,seval,dI]
  refine aP (fun h=>?_) (fun h=>?_)
  ·simp at h
   simp [go_sem,seval,oZ,hl,show 20<fL mT s by omega]
  ·simp at h
   simp [go_sem,seval,oZ,hl,show ¬ 20<fL mT s by omega]
 ·simp [go_sem,seval]
  refine aB (vG _) rfl ?_
  simp [go_sem,seval]
  refine aP (fun hd=>?_) (fun hd=>?_)
  ·simp [go_sem,seval]
   refine aB (AZ s _ _ (by omega) (fun c _ _=>vG c)) rfl ?_
   simp [go_sem,seval,dI]
   refine aP (fun h=>?_) (fun h=>?_)
   ·simp at h
    simp [go_sem,seval,oZ,hl,hd,show 9<fL i9 s by omega]
   ·simp at h
    simp [go_sem,seval,oZ,hl,hd,show ¬ 9<fL i9 s by omega]
  ·simp [go_sem,seval]
   refine aP (fun hq=>?_) (fun hq=>?_)
   ·simp at hq
    simp [go_sem,seval]
    refine aB (Hl s h1 h2) rfl ?_
    have e:oZ s=(3,(tU s).1,(tU s).2):=by unfold oZ;rw [if_neg (by simp [hl]),if_neg (by simp [hd]),if_pos hq]
    simp [go_sem,seval,dI,e]
   ·simp at hq
    simp [go_sem,seval]
    refine aB (K7 s) rfl ?_
    simp [go_sem,seval]
    refine aP (fun hp=>?_) (fun hp=>?_)
    ·simp [go_sem,seval,oZ,hl,hd,hq,hp,dI]
    ·simp [go_sem,seval]
     refine aB (zN Ms _) rfl ?_
     simp [go_sem,seval,dI]
     refine fB (fun hi=>?_) (fun hi=>?_)
     ·simp [go_sem,seval,oZ,hl,hd,hq,hp,hi]
     ·simp [go_sem,seval,oZ,hl,hd,hq,hp,hi]
def kF (s:ByteArray):Bool:=decide (s.size≠0)&&g8 (uE s 0)&&decide (fL mT s≤20)&&decide (fL mT s=s.size)
theorem n5 (s:ByteArray):s=⟨#[]⟩↔s.size=0:=by
 constructor
 ·intro h;subst h;rfl
 ·intro h
  cases s with
  | mk d=>congr 1;exact Array.size_eq_zero_iff.1 h
theorem NV (s:ByteArray)(hz:¬ s.size=0):(decide ((oZ s).2.2=0)&&decide ((oZ s).1=1)&&(oZ s).2.1==(s.size:Int))=kF s:=by
 unfold oZ kF
 by_cases hl:g8 (uE s 0)=true
 ·simp only [if_pos hl,hl]
  by_cases h:20<fL mT s
  ·simp [h];intros;omega
  ·simp [h,hz,show fL mT s≤20 by omega]
   rw [aQ];simp;omega
 ·simp only [if_neg hl]
  have hl':g8 (uE s 0)=false:=by simpa using hl
  simp only [hl']
  repeat' split
  all_goals simp
theorem IP (s:ByteArray)(h2:s.size≤100000):∃ s',Pure Tryz.prog 304 [.agg [dI 1,.str s,dI 0]] (.tup [.str s',.bool (kF s)]):=by
 by_cases hz:s.size=0
 ·refine ⟨⟨#[]⟩,aN (aI (cfg:=⟨fun _=>false,fun _=>[]⟩) Tz.mixed Tryz.func304 rfl rfl (aF rfl) (by kernel_rfl) ?_)⟩
  simp [go_sem,seval,dI]
  refine aP (fun h=>?_) (fun h=>?_)
  ·simp [go_sem,seval,kF,hz]
  ·simp [n5,hz] at h
 ·refine ⟨s,aN (aI (cfg:=⟨fun _=>false,fun _=>[]⟩) Tz.mixed Tryz.func304 rfl rfl (aF rfl) (by kernel_rfl) ?_)⟩
  simp [go_sem,seval,dI]
  refine aP (fun h=>?_) (fun h=>?_)
  ·simp [n5,hz] at h
  ·simp [go_sem,seval]
   refine aB (K8 s (by omega) h2) rfl ?_
   simp [go_sem,seval,dI]
   exact NV s hz
theorem mK (s:ByteArray)(h2:s.size≤100000):Pure Tryz.prog 221 [.str s] (.bool (kF s)):=by
 obtain ⟨s',hw⟩:=IP s h2
 refine aN (aI (cfg:=⟨fun _=>false,fun _=>[]⟩) Tz.mixed Tryz.func221 rfl rfl (aF rfl) (by kernel_rfl) ?_)
 simp [go_sem,seval,dI]
 refine aB hw rfl ?_
 simp [go_sem,seval,dI]
end Go.Abs
end
section
set_option maxRecDepth 100000
set_option maxHeartbeats 4000000
open Go Go.Proofs
namespace Go.Abs
def Bl {α:Type}(xs:List α)(p:α→Bool):Int:=match xs.findIdx? p with|some i=>i|none=>-1
theorem nO {α:Type}{xs:List α}{p:α→Bool}{i:Nat}(h:∀ j x,j<i→xs[j]?=some x→p x=false)(hi:i<xs.length)(hp:p xs[i]=true):Bl xs p=i:=by
 have:xs.findIdx? p=some i:=by
  rw [gZ]
  exact ⟨hi,hp,fun j hj=>by simp [h j _ hj (aA (by omega))]⟩
 simp [Bl,this]
theorem nP {α:Type}{xs:List α}{p:α→Bool}(h:∀ j x,j<xs.length→xs[j]?=some x→p x=false):Bl xs p = -1:=by
 have:xs.findIdx? p=none:=by
  rw [pT]
  intro x hx
  obtain ⟨j,hj,rfl⟩:=aO hx
  exact h j _ hj (aA hj)
 simp [Bl,this]
theorem qB {α:Type}(xs:List α)(p:α→Bool):decide (0≤Bl xs p)=xs.any p:=by
 unfold Bl
 cases h:xs.findIdx? p with
 | none =>
  rw [pT] at h
  have:xs.any p=false:=by simpa using h
  simp [this]
 | some i =>
  rw [gZ] at h
  obtain ⟨hi,hv,_⟩:=h
  have:xs.any p=true:=aW.2 ⟨xs[i],aC hi,hv⟩
  simp [this]
theorem El (xs:List Attr)(g:FuncId)(caps:List D)(p:Attr→Bool)(hc:D.clL caps=true)(hg:∀ x∈xs,Pure Tryz.prog g (.agg x.c :: caps) (.bool (p x))) :
  Pure Tryz.prog 419 [.list (xs.map Attr.c),.fn g caps] (dI (Bl xs p)):=by
 refine aN (aI (cfg:=⟨fun _=>false,fun _=>[]⟩) Tz.mixed Tryz.func419 rfl rfl (aF rfl) (by kernel_rfl) ?_)
 simp [go_sem,seval,dI,dLI]
 intro hlen
 refine eX (ι:=Nat) (fun i e H=>H=.emp∧i≤xs.length∧e 0=.list (xs.map Attr.c)∧e 1=.fn g caps∧e 7=dI xs.length∧e 8=dI i∧(∀ j x,j<i→xs[j]?=some x→p x=false)) (fun i=>xs.length - i) 0 (by simp [go_sem,seval,dI,dLI]) ?_
 intro i e H ⟨hH,hi,h0,h1,h7,h8,hn⟩
 subst hH
 simp [go_sem,seval,h0,h1,h7,h8,dI,dLI]
 refine fB (fun hlt=>?_) (fun hge=>?_)
 ·have hgx:=hg xs[i] (aC hlt)
  simp [go_sem,seval,h0,h1,h7,h8,dI,dLI,hlt,Attr.c] at hgx ⊢
  refine aB hgx (by simp [go_sem,hc]) ?_
  simp [go_sem,seval,h0,h1,h7,h8,dI,dLI]
  refine aP (fun h=>?_) (fun h=>?_)
  ·simp [go_sem,seval,h0,h1,h7,h8,dI,dLI]
   rw [nO hn hlt h]
  ·simp [go_sem,seval,h0,h1,h7,h8,dI,dLI]
   refine ⟨cG (by omega) (by omega),i+1,by omega,by omega,by omega,fun j x hj hx=>?_⟩
   rcases bN j i with hj'|hj'
   ·exact hn j x hj' hx
   ·have:j=i:=by omega
    subst this
    rw [aA hlt] at hx
    cases hx;exact h
 ·simp [go_sem,seval,h0,h1,h7,h8,dI,dLI]
  rw [nP fun j x hj=>hn j x (by omega)]
theorem AD (xs:List Attr)(g:FuncId)(caps:List D)(p:Attr→Bool)(hc:D.clL caps=true)(hl:D.cl (.list (xs.map Attr.c))=true)(hg:∀ x∈xs,Pure Tryz.prog g (.agg x.c :: caps) (.bool (p x))) :
  Pure Tryz.prog 364 [.list (xs.map Attr.c),.fn g caps] (.bool (xs.any p)):=by
 refine aN (aI (cfg:=⟨fun _=>false,fun _=>[]⟩) Tz.mixed Tryz.func364 rfl rfl (aF rfl) (by kernel_rfl) ?_)
 simp [go_sem,seval]
 refine aB (El xs g caps p hc hg) (by simp only [D.clL,hl,fQ];simp [D.cl,hc]) ?_
 simp [go_sem,seval,dI,qB]
theorem qG (l:List Attr):D.clLL (l.map Attr.c)=true:=cQ _ Attr.cl l
def lJ (l:List ByteArray):List ByteArray→Int
 | []=>0
 | s :: r=>if kF s=false then 2 else if mem l s=true then 5 else lJ (l++[s]) r
def lW (l:List ByteArray):Int:=if 20<l.length then 3 else lJ [] l
theorem IK (l:List ByteArray)(hs:∀ s∈l,s.size≤100000):Pure Tryz.prog 366 [qV l] (dI (lW l)):=by
 refine aN (aI (cfg:=⟨fun _=>false,fun _=>[]⟩) Tz.mixed Tryz.func366 rfl rfl (aF rfl) (by kernel_rfl) ?_)
 simp [go_sem,seval,dI,qV]
 intro hlen
 refine aP (fun h=>?_) (fun h=>?_)
 ·simp at h
  simp [go_sem,seval,lW,show 20<l.length by omega]
 ·simp at h
  simp [go_sem,seval,lW,show ¬ 20<l.length by omega]
  intro hlen2
  refine eX (ι:=Nat) (fun i e H=>H=.emp∧i≤l.length∧e 0=qV l∧e 8=qV l∧e 9=dI l.length∧e 10=dI i∧lJ (l.take i) (l.drop i)=lJ [] l) (fun i=>l.length - i) 0 (by simp [go_sem,seval,dI,qV]) ?_
  intro i e H ⟨hH,hi,h0,h8,h9,h10,hn⟩
  subst hH
  simp [go_sem,seval,h0,h8,h9,h10,dI,qV]
  refine fB (fun hlt=>?_) (fun hge=>?_)
  ·rw [eE hlt] at hn
   have hsz:=hs _ (aC hlt)
   simp [go_sem,seval,h0,h8,h9,h10,dI,qV,hlt,cS]
   refine aB (mK _ hsz) rfl ?_
   simp [go_sem,seval]
   refine aP (fun hc=>?_) (fun hc=>?_)
   ·simp at hc
    simp [go_sem,seval]
    rw [← hn];simp [lJ,hc]
   ·simp at hc
    simp [go_sem,seval,h0,h8,h9,h10,dI,qV]
    have hcs:=Az (l.take i) l[i]
    simp only [qV,List.map_take] at hcs
    have hcl:D.clLL (List.take i (List.map cS l))=true:=by rw [← List.map_take];exact cQ cS (fun _=>rfl) _
    refine ⟨⟨hi,by cases l<;>simp [cS]⟩,aB hcs (by simp [D.clL,D.cl,hcl]) ?_⟩
    simp [go_sem,seval,h0,h8,h9,h10,dI,qV]
    refine aP (fun hm=>?_) (fun hm=>?_)
    ·simp [go_sem,seval]
     rw [← hn];simp [lJ,hc,hm]
    ·simp [go_sem,seval,h0,h8,h9,h10,dI,qV]
     refine ⟨cG (by omega) (by omega),i+1,by omega,by omega,by omega,?_⟩
     rw [← hn,lJ,if_neg (by simp [hc]),if_neg (by simp [hm]),aE hlt]
  ·simp [go_sem,seval,h0,h8,h9,h10,dI,qV]
   rw [← hn,show i=l.length by omega];simp [lJ]
theorem AY (x y:Attr):Pure Tryz.prog 365 [.agg y.c,.adr x.c] (.bool (decide (y.name=x.name))):=by
 refine aN (aI (cfg:=⟨fun _=>false,fun _=>[]⟩) Tz.mixed Tryz.func365 rfl rfl (aF rfl) (by kernel_rfl) ?_)
 simp [go_sem,seval,Attr.c,dI,qV]
structure Attr.ok (x:Attr):Prop where
 name:x.name.size≤100000
 names:∀ s∈x.names,s.size≤100000
 few:x.names.length≤1000
def cY (x:Attr)(before:List Attr):Int :=
 if kF x.name=false then 2
 else if (before.any fun y=>decide (y.name=x.name))=true then 5
 else if lW x.names≠0 then lW x.names
 else if (if 0<x.names.length then decide (x.low=0)&&decide (x.high=x.names.length - 1) else decide (-1000000≤x.low)&&decide (x.low≤x.high)&&decide (x.high≤1000000))=true then 0 else 6
theorem Cx (x:Attr)(before:List Attr)(hx:x.ok):Pure Tryz.prog 299 [.agg x.c,.list (before.map Attr.c)] (dI (cY x before)):=by
 refine aN (aI (cfg:=⟨fun _=>false,fun _=>[]⟩) Tz.mixed Tryz.func299 rfl rfl (aF rfl) (by kernel_rfl) ?_)
 simp [go_sem,seval,dI,qV,Attr.c]
 refine aB (mK _ hx.name) rfl ?_
 simp [go_sem,seval]
 refine aP (fun hn=>?_) (fun hn=>?_)
 ·simp at hn
  simp [go_sem,seval,cY,hn]
 ·simp at hn
  simp [go_sem,seval]
  have hc:=AD before 365 [.adr x.c] (fun y=>decide (y.name=x.name)) (by simp [D.clL,D.cl,Attr.cl]) (by simp [D.cl,qG]) (fun y _=>AY x y)
  simp only [Attr.c,dI,qV] at hc
  have hcS:D.clLL (List.map cS x.names)=true:=cQ cS (fun _=>rfl) _
  refine aB hc (by simp [D.clL,D.cl,qG,hcS]) ?_
  simp [go_sem,seval]
  refine aP (fun hb=>?_) (fun hb=>?_)
  ·simp [go_sem,seval,cY,hn,hb]
  ·simp [go_sem,seval]
   have hnm:=IK x.names hx.names
   simp only [qV,dI] at hnm
   refine aB hnm (by simp [D.clL,D.cl,hcS]) ?_
   simp [go_sem,seval]
   have hfew:=hx.few
   refine aP (fun hz=>?_) (fun hz=>?_)
   ·simp at hz
    simp [go_sem,seval,cY,hn,hb,hz]
   ·simp at hz
    simp [go_sem,seval]
    intro hlen
    refine aP (fun hp=>?_) (fun hp=>?_)
    ·have hp':0<x.names.length:=by simp at hp;omega
     simp [go_sem,seval]
     refine fun _=>⟨fun _=>cG (by omega) (by omega),aP (fun ho=>?_) (fun ho=>?_)⟩
     ·have e:cY x before=6:=by unfold cY;rw [if_neg (by simp [hn]),if_neg (by simp [hb]),if_neg (by simp [hz]),if_pos hp',if_neg (by simp at ho ⊢;omega)]
      simp [go_sem,seval,e]
     ·have e:cY x before=0:=by unfold cY;rw [if_neg (by simp [hn]),if_neg (by simp [hb]),if_neg (by simp [hz]),if_pos hp',if_pos (by simp at ho ⊢;omega)]
      simp [go_sem,seval,e]
    ·have hp':¬ 0<x.names.length:=by simp at hp;simp [hp]
     simp [go_sem,seval]
     refine aP (fun ho=>?_) (fun ho=>?_)
     ·have e:cY x before=6:=by unfold cY;rw [if_neg (by simp [hn]),if_neg (by simp [hb]),if_neg (by simp [hz]),if_neg hp',if_neg (by simp at ho ⊢;omega)]
      simp [go_sem,seval,e]
     ·have e:cY x before=0:=by unfold cY;rw [if_neg (by simp [hn]),if_neg (by simp [hb]),if_neg (by simp [hz]),if_neg hp',if_pos (by simp at ho ⊢;omega)]
      simp [go_sem,seval,e]
structure NodeTy.ok (n:NodeTy):Prop where
 name:n.name.size≤100000
 attrs:∀ x∈n.attrs,x.ok
 few:n.attrs.length≤1000
structure EdgeTy.ok (x:EdgeTy):Prop where
 name:x.name.size≤100000
structure Types.ok (t:Types):Prop where
 nodes:∀ n∈t.nodes,n.ok
 edges:∀ x∈t.edges,x.ok
 fewN:t.nodes.length≤1000
 fewE:t.edges.length≤1000
def k6 (nodes:List NodeTy):Nat→Nat→List Attr
 | 0,_=>[]
 | f+1,a=>match nodes[a]? with
  | none=>[]
  | some n=>(if 0≤n.parent then k6 nodes f n.parent.toNat else [])++n.attrs
def Types.attrs (t:Types)(a:Nat):List Attr:=k6 t.nodes (a+1) a
theorem qI (nodes:List NodeTy)(h:∀ n∈nodes,n.attrs.length≤1000):∀ f a,(k6 nodes f a).length≤1000 * f
 | 0,a=>by simp [k6]
 | f+1,a=>by
  unfold k6
  split
  ·simp
  ·rename_i n hn
   have:=h n (aJ hn)
   have h2:=qI nodes h f n.parent.toNat
   simp only [aV]
   split<;>simp<;>omega
@[go_sem] theorem Attr.len (a:Attr):a.c.length=4:=rfl
theorem Attr.cells (a:Attr):∀ x∈a.c,x.cell=true:=by simp [Attr.c,D.cell,dI,qV]
def parentsOK (nodes:List NodeTy)(a:Nat):Prop:=∀ j n,j≤a→nodes[j]?=some n→n.parent<j
theorem Cn (nodes:List NodeTy):∀ a f g,parentsOK nodes a→a<f→a<g→k6 nodes f a=k6 nodes g a:=by
 intro a
 induction a using Nat.strongRecOn with
 | _ a ih =>
  intro f g hp hf hg
  obtain ⟨f,rfl⟩:∃ f',f=f'+1:=⟨f - 1,by omega⟩
  obtain ⟨g,rfl⟩:∃ g',g=g'+1:=⟨g - 1,by omega⟩
  unfold k6
  split
  ·rfl
  ·rename_i n hn
   have:=hp a n (bC _) hn
   congr 1
   split
   ·exact ih n.parent.toNat (by omega) f g (fun j m hj hm=>hp j m (by omega) hm) (by omega) (by omega)
   ·rfl
theorem BJ (t:Types)(ht:t.ok):∀ a,a<t.nodes.length→parentsOK t.nodes a→Own Tryz.prog 298 [t.d,dI a] 118 4 ((t.attrs a).map Attr.c):=by
 intro a
 induction a using Nat.strongRecOn with
 | _ a ih =>
  intro ha hp
  have hpa:=hp a _ (bC _) (aA ha)
  have hlen:=qI t.nodes (fun n hn=>(ht.nodes n hn).few) (a+1) a
  have hfew:=ht.fewN
  have hna:=(ht.nodes _ (aC ha)).few
  refine Ae (aI (cfg:=⟨fun t=>t==5,fun _=>[]⟩) Tz.mixed Tryz.func298 rfl rfl (aF rfl) (by kernel_rfl) ?_)
  simp [go_sem,seval,dI,Types.d,Types.c,NodeTy.c,aA ha,ha]
  refine aP (fun h=>?_) (fun h=>?_)
  ·have h':0≤t.nodes[a].parent:=by simpa using h
   have hlt:t.nodes[a].parent.toNat<a:=by omega
   have hc:=ih _ hlt (by omega) (fun j m hj hm=>hp j m (by omega) hm)
   rw [Int.toNat_of_nonneg h'] at hc
   have e:t.attrs a=t.attrs t.nodes[a].parent.toNat++t.nodes[a].attrs:=by
    have:=Cn t.nodes t.nodes[a].parent.toNat a (t.nodes[a].parent.toNat+1) (fun j m hj hm=>hp j m (by omega) hm) hlt (by omega)
    simp [Types.attrs,k6,aA ha,h',this]
   have hlen2:=qI t.nodes (fun n hn=>(ht.nodes n hn).few) (t.nodes[a].parent.toNat+1) t.nodes[a].parent.toNat
   have hl3:(t.attrs t.nodes[a].parent.toNat).length≤2000000:=by
    have:(t.attrs t.nodes[a].parent.toNat).length≤1000 * (t.nodes[a].parent.toNat+1):=hlen2
    omega
   simp [go_sem,seval,dI,Types.d,Types.c,NodeTy.c,aA ha,ha] at hc ⊢
   refine l4 hc (by simp [D.clL,D.cl,cQ _ NodeTy.cl,cQ _ EdgeTy.cl]) ?_
   simp [go_sem,seval,dI,Types.d,Types.c,NodeTy.c,aA ha,ha,e,qG]
   exact ⟨⟨by omega,fun x _ y hy=>Attr.cells x y hy⟩,by rw [← List.map_append];exact qG _⟩
  ·have h':¬ 0≤t.nodes[a].parent:=by simpa using h
   have e:t.attrs a=t.nodes[a].attrs:=by simp [Types.attrs,k6,aA ha,h']
   simp [go_sem,seval,dI,Types.d,Types.c,NodeTy.c,aA ha,ha,e,qG]
   exact ⟨by omega,fun x _ y hy=>Attr.cells x y hy⟩
end Go.Abs
end
