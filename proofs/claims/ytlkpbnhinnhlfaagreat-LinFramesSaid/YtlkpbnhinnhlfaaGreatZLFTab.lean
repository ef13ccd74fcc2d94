/- What is proved: the table of the types that the program has. -/
import Derived.Test.YtlkpbnhinnhlfaaGreatProg
import Derived.Test.YtlkpbnhinnhlfaaGreatZLFSimE
import Derived.Test.YtlkpbnhinnhlfaaGreatZLFSimI
import Derived.Test.YtlkpbnhinnhlfaaGreatZLFBig

namespace Go.Sim.YtlkpbnhinnhlfaaGreat
open Go.RowKit Go.Proofs Go.Proofs.Tryz
set_option maxRecDepth 100000
theorem entK {t : TypeId} {te : TE} {d : TypeDesc} {z : Value} (i : TypeInfo) (h2 : prog.underlying t = some d) (h1 : prog.info? t = some i := by exact rfl) (h3 : te.d.ok d := by first | rfl | trivial | exact ⟨rfl, rfl⟩) (h4 : i.size = te.size := by exact rfl) (h5 : i.bytes = te.bytes := by exact rfl) (h6 : i.zero = some z := by exact rfl)
    (h7 : flat te.zero = some z.cells.toList := by exact rfl) (h8 : te.zero.agg = te.d.agg := by exact rfl) (h9 : aggOk te.d.agg z := by first | rfl | trivial) (h10 : te.zero.len = te.size := by exact rfl) : EntryOk prog t te := ⟨i, d, z, h1, h2, h3, h4, h5, h6, h7, h8, h9, h10⟩
def te1 : TE := ⟨.other, 1, 8, .v .nilFunc⟩
theorem ok1 : EntryOk prog 1 te1 := entK Tryz.t1 Tryz.underlying1
def te2 : TE := ⟨.int .i64, 1, 8, .v (.int .i64 0)⟩
theorem ok2 : EntryOk prog 2 te2 := entK Tryz.t2 Tryz.underlying2
def te3 : TE := ⟨.int .i64, 1, 8, .v (.int .i64 0)⟩
theorem ok3 : EntryOk prog 3 te3 := entK Tryz.t3 Tryz.underlying3
def te4 : TE := ⟨.bool, 1, 1, .v (.bool false)⟩
theorem ok4 : EntryOk prog 4 te4 := entK Tryz.t4 Tryz.underlying4
def te5 : TE := ⟨.int .u8, 1, 1, .v (.int .u8 0)⟩
theorem ok5 : EntryOk prog 5 te5 := entK Tryz.t5 Tryz.underlying5
def te6 : TE := ⟨.int .u8, 1, 1, .v (.int .u8 0)⟩
theorem ok6 : EntryOk prog 6 te6 := entK Tryz.t6 Tryz.underlying6
def te7 : TE := ⟨.struct [(0, 2), (1, 3), (2, 4), (3, 6)], 4, 24, .st [1, 1, 1, 1] [.v (.int .i64 0), .v (.int .i64 0), .v (.bool false), .v (.int .u8 0)]⟩
theorem ok7 : EntryOk prog 7 te7 := entK Tryz.t7 Tryz.underlying7
def te8 : TE := ⟨.struct [(0, 2), (1, 3), (2, 4), (3, 6)], 4, 24, .st [1, 1, 1, 1] [.v (.int .i64 0), .v (.int .i64 0), .v (.bool false), .v (.int .u8 0)]⟩
theorem ok8 : EntryOk prog 8 te8 := entK Tryz.t8 Tryz.underlying8
def te9 : TE := ⟨.str, 1, 16, .v (.string ⟨#[]⟩)⟩
theorem ok9 : EntryOk prog 9 te9 := entK Tryz.t9 Tryz.underlying9
def te10 : TE := ⟨.str, 1, 16, .v (.string ⟨#[]⟩)⟩
theorem ok10 : EntryOk prog 10 te10 := entK Tryz.t10 Tryz.underlying10
def te11 : TE := ⟨.str, 1, 16, .v (.string ⟨#[]⟩)⟩
theorem ok11 : EntryOk prog 11 te11 := entK Tryz.t11 Tryz.underlying11
def te12 : TE := ⟨.int .u64, 1, 8, .v (.int .u64 0)⟩
theorem ok12 : EntryOk prog 12 te12 := entK Tryz.t12 Tryz.underlying12
def te13 : TE := ⟨.struct [(0, 9), (1, 12)], 2, 24, .st [1, 1] [.v (.string ⟨#[]⟩), .v (.int .u64 0)]⟩
theorem ok13 : EntryOk prog 13 te13 := entK Tryz.t13 Tryz.underlying13
def te14 : TE := ⟨.struct [(0, 9), (1, 12)], 2, 24, .st [1, 1] [.v (.string ⟨#[]⟩), .v (.int .u64 0)]⟩
theorem ok14 : EntryOk prog 14 te14 := entK Tryz.t14 Tryz.underlying14
def te15 : TE := ⟨.ptr 139, 1, 8, .v (.pointer none)⟩
theorem ok15 : EntryOk prog 15 te15 := entK Tryz.t15 Tryz.underlying15
def te16 : TE := ⟨.ptr 142, 1, 8, .v (.pointer none)⟩
theorem ok16 : EntryOk prog 16 te16 := entK Tryz.t16 Tryz.underlying16
def te17 : TE := ⟨.ptr 150, 1, 8, .v (.pointer none)⟩
theorem ok17 : EntryOk prog 17 te17 := entK Tryz.t17 Tryz.underlying17
def te18 : TE := ⟨.struct [(0, 17)], 1, 8, .st [1] [.v (.pointer none)]⟩
theorem ok18 : EntryOk prog 18 te18 := entK Tryz.t18 Tryz.underlying18
def te19 : TE := ⟨.struct [(0, 17)], 1, 8, .st [1] [.v (.pointer none)]⟩
theorem ok19 : EntryOk prog 19 te19 := entK Tryz.t19 Tryz.underlying19
def te21 : TE := ⟨.int .i32, 1, 4, .v (.int .i32 0)⟩
theorem ok21 : EntryOk prog 21 te21 := entK Tryz.t21 Tryz.underlying21
def te22 : TE := ⟨.slice 27, 1, 24, .sl 27 1 []⟩
theorem ok22 : EntryOk prog 22 te22 := entK Tryz.t22 Tryz.underlying22
def te23 : TE := ⟨.int .i64, 1, 8, .v (.int .i64 0)⟩
theorem ok23 : EntryOk prog 23 te23 := entK Tryz.t23 Tryz.underlying23
def te25 : TE := ⟨.other, 1, 8, .v .nilFunc⟩
theorem ok25 : EntryOk prog 25 te25 := entK Tryz.t25 Tryz.underlying25
def te26 : TE := ⟨.other, 1, 8, .v .nilFunc⟩
theorem ok26 : EntryOk prog 26 te26 := entK Tryz.t26 Tryz.underlying26
def te27 : TE := ⟨.slice 28, 1, 24, .sl 28 1 []⟩
theorem ok27 : EntryOk prog 27 te27 := entK Tryz.t27 Tryz.underlying27
def te28 : TE := ⟨.flt .f64, 1, 8, .v (.float .f64 0)⟩
theorem ok28 : EntryOk prog 28 te28 := entK Tryz.t28 Tryz.underlying28
def te29 : TE := ⟨.slice 33, 1, 24, .sl 33 1 []⟩
theorem ok29 : EntryOk prog 29 te29 := entK Tryz.t29 Tryz.underlying29
def te30 : TE := ⟨.other, 1, 8, .v .nilFunc⟩
theorem ok30 : EntryOk prog 30 te30 := entK Tryz.t30 Tryz.underlying30
def te31 : TE := ⟨.other, 1, 8, .v .nilFunc⟩
theorem ok31 : EntryOk prog 31 te31 := entK Tryz.t31 Tryz.underlying31
def te32 : TE := ⟨.other, 1, 8, .v .nilFunc⟩
theorem ok32 : EntryOk prog 32 te32 := entK Tryz.t32 Tryz.underlying32
def te33 : TE := ⟨.slice 35, 1, 24, .sl 35 2 []⟩
theorem ok33 : EntryOk prog 33 te33 := entK Tryz.t33 Tryz.underlying33
def te34 : TE := ⟨.struct [(0, 28), (1, 28)], 2, 16, .st [1, 1] [.v (.float .f64 0), .v (.float .f64 0)]⟩
theorem ok34 : EntryOk prog 34 te34 := entK Tryz.t34 Tryz.underlying34
def te35 : TE := ⟨.struct [(0, 28), (1, 28)], 2, 16, .st [1, 1] [.v (.float .f64 0), .v (.float .f64 0)]⟩
theorem ok35 : EntryOk prog 35 te35 := entK Tryz.t35 Tryz.underlying35
def te36 : TE := ⟨.other, 1, 8, .v .nilFunc⟩
theorem ok36 : EntryOk prog 36 te36 := entK Tryz.t36 Tryz.underlying36
def te37 : TE := ⟨.other, 1, 8, .v .nilFunc⟩
theorem ok37 : EntryOk prog 37 te37 := entK Tryz.t37 Tryz.underlying37
def te38 : TE := ⟨.other, 1, 8, .v .nilFunc⟩
theorem ok38 : EntryOk prog 38 te38 := entK Tryz.t38 Tryz.underlying38
def te40 : TE := ⟨.other, 1, 8, .v .nilFunc⟩
theorem ok40 : EntryOk prog 40 te40 := entK Tryz.t40 Tryz.underlying40
def te41 : TE := ⟨.other, 1, 8, .v .nilFunc⟩
theorem ok41 : EntryOk prog 41 te41 := entK Tryz.t41 Tryz.underlying41
def te42 : TE := ⟨.other, 1, 8, .v .nilFunc⟩
theorem ok42 : EntryOk prog 42 te42 := entK Tryz.t42 Tryz.underlying42
def te43 : TE := ⟨.other, 1, 8, .v .nilFunc⟩
theorem ok43 : EntryOk prog 43 te43 := entK Tryz.t43 Tryz.underlying43
def te44 : TE := ⟨.slice 3, 1, 24, .sl 3 1 []⟩
theorem ok44 : EntryOk prog 44 te44 := entK Tryz.t44 Tryz.underlying44
def te46 : TE := ⟨.other, 1, 8, .v .nilFunc⟩
theorem ok46 : EntryOk prog 46 te46 := entK Tryz.t46 Tryz.underlying46
def te48 : TE := ⟨.other, 1, 8, .v .nilFunc⟩
theorem ok48 : EntryOk prog 48 te48 := entK Tryz.t48 Tryz.underlying48
def te49 : TE := ⟨.other, 1, 8, .v .nilFunc⟩
theorem ok49 : EntryOk prog 49 te49 := entK Tryz.t49 Tryz.underlying49
def te50 : TE := ⟨.other, 1, 8, .v .nilFunc⟩
theorem ok50 : EntryOk prog 50 te50 := entK Tryz.t50 Tryz.underlying50
def te51 : TE := ⟨.other, 1, 8, .v .nilFunc⟩
theorem ok51 : EntryOk prog 51 te51 := entK Tryz.t51 Tryz.underlying51
def te52 : TE := ⟨.other, 1, 8, .v .nilFunc⟩
theorem ok52 : EntryOk prog 52 te52 := entK Tryz.t52 Tryz.underlying52
def te53 : TE := ⟨.other, 1, 8, .v .nilFunc⟩
theorem ok53 : EntryOk prog 53 te53 := entK Tryz.t53 Tryz.underlying53
def te54 : TE := ⟨.other, 1, 8, .v .nilFunc⟩
theorem ok54 : EntryOk prog 54 te54 := entK Tryz.t54 Tryz.underlying54
def te55 : TE := ⟨.other, 1, 8, .v .nilFunc⟩
theorem ok55 : EntryOk prog 55 te55 := entK Tryz.t55 Tryz.underlying55
def te56 : TE := ⟨.other, 1, 8, .v .nilFunc⟩
theorem ok56 : EntryOk prog 56 te56 := entK Tryz.t56 Tryz.underlying56
def te57 : TE := ⟨.other, 1, 8, .v .nilFunc⟩
theorem ok57 : EntryOk prog 57 te57 := entK Tryz.t57 Tryz.underlying57
def te58 : TE := ⟨.other, 1, 8, .v .nilFunc⟩
theorem ok58 : EntryOk prog 58 te58 := entK Tryz.t58 Tryz.underlying58
def te60 : TE := ⟨.other, 1, 8, .v .nilFunc⟩
theorem ok60 : EntryOk prog 60 te60 := entK Tryz.t60 Tryz.underlying60
def te61 : TE := ⟨.other, 1, 8, .v .nilFunc⟩
theorem ok61 : EntryOk prog 61 te61 := entK Tryz.t61 Tryz.underlying61
def te62 : TE := ⟨.other, 1, 8, .v .nilFunc⟩
theorem ok62 : EntryOk prog 62 te62 := entK Tryz.t62 Tryz.underlying62
def te63 : TE := ⟨.other, 1, 8, .v .nilFunc⟩
theorem ok63 : EntryOk prog 63 te63 := entK Tryz.t63 Tryz.underlying63
def te64 : TE := ⟨.slice 104, 1, 24, .sl 104 1 []⟩
theorem ok64 : EntryOk prog 64 te64 := entK Tryz.t64 Tryz.underlying64
def te65 : TE := ⟨.other, 1, 8, .v .nilFunc⟩
theorem ok65 : EntryOk prog 65 te65 := entK Tryz.t65 Tryz.underlying65
def te66 : TE := ⟨.slice 132, 1, 24, .sl 132 1 []⟩
theorem ok66 : EntryOk prog 66 te66 := entK Tryz.t66 Tryz.underlying66
def te67 : TE := ⟨.slice 132, 1, 24, .sl 132 1 []⟩
theorem ok67 : EntryOk prog 67 te67 := entK Tryz.t67 Tryz.underlying67
def te68 : TE := ⟨.struct [(0, 4), (1, 67), (2, 3)], 3, 40, .st [1, 1, 1] [.v (.bool false), .sl 132 1 [], .v (.int .i64 0)]⟩
theorem ok68 : EntryOk prog 68 te68 := entK Tryz.t68 Tryz.underlying68
def te69 : TE := ⟨.struct [(0, 4), (1, 67), (2, 3)], 3, 40, .st [1, 1, 1] [.v (.bool false), .sl 132 1 [], .v (.int .i64 0)]⟩
theorem ok69 : EntryOk prog 69 te69 := entK Tryz.t69 Tryz.underlying69
def te70 : TE := ⟨.other, 1, 8, .v .nilFunc⟩
theorem ok70 : EntryOk prog 70 te70 := entK Tryz.t70 Tryz.underlying70
def te71 : TE := ⟨.other, 1, 8, .v .nilFunc⟩
theorem ok71 : EntryOk prog 71 te71 := entK Tryz.t71 Tryz.underlying71
def te72 : TE := ⟨.other, 1, 8, .v .nilFunc⟩
theorem ok72 : EntryOk prog 72 te72 := entK Tryz.t72 Tryz.underlying72
def te73 : TE := ⟨.other, 1, 8, .v .nilFunc⟩
theorem ok73 : EntryOk prog 73 te73 := entK Tryz.t73 Tryz.underlying73
def te74 : TE := ⟨.other, 1, 8, .v .nilFunc⟩
theorem ok74 : EntryOk prog 74 te74 := entK Tryz.t74 Tryz.underlying74
def te75 : TE := ⟨.other, 1, 8, .v .nilFunc⟩
theorem ok75 : EntryOk prog 75 te75 := entK Tryz.t75 Tryz.underlying75
def te76 : TE := ⟨.other, 1, 8, .v .nilFunc⟩
theorem ok76 : EntryOk prog 76 te76 := entK Tryz.t76 Tryz.underlying76
def te77 : TE := ⟨.other, 1, 8, .v .nilFunc⟩
theorem ok77 : EntryOk prog 77 te77 := entK Tryz.t77 Tryz.underlying77
def te78 : TE := ⟨.other, 1, 8, .v .nilFunc⟩
theorem ok78 : EntryOk prog 78 te78 := entK Tryz.t78 Tryz.underlying78
def te79 : TE := ⟨.other, 1, 8, .v .nilFunc⟩
theorem ok79 : EntryOk prog 79 te79 := entK Tryz.t79 Tryz.underlying79
def te80 : TE := ⟨.other, 1, 8, .v .nilFunc⟩
theorem ok80 : EntryOk prog 80 te80 := entK Tryz.t80 Tryz.underlying80
def te81 : TE := ⟨.other, 1, 8, .v .nilFunc⟩
theorem ok81 : EntryOk prog 81 te81 := entK Tryz.t81 Tryz.underlying81
def te82 : TE := ⟨.other, 1, 8, .v .nilFunc⟩
theorem ok82 : EntryOk prog 82 te82 := entK Tryz.t82 Tryz.underlying82
def te83 : TE := ⟨.other, 1, 8, .v .nilFunc⟩
theorem ok83 : EntryOk prog 83 te83 := entK Tryz.t83 Tryz.underlying83
def te85 : TE := ⟨.other, 1, 8, .v .nilFunc⟩
theorem ok85 : EntryOk prog 85 te85 := entK Tryz.t85 Tryz.underlying85
def te86 : TE := ⟨.int .u64, 1, 8, .v (.int .u64 0)⟩
theorem ok86 : EntryOk prog 86 te86 := entK Tryz.t86 Tryz.underlying86
def te87 : TE := ⟨.other, 1, 8, .v .nilFunc⟩
theorem ok87 : EntryOk prog 87 te87 := entK Tryz.t87 Tryz.underlying87
def te88 : TE := ⟨.int .u64, 1, 8, .v (.int .u64 0)⟩
theorem ok88 : EntryOk prog 88 te88 := entK Tryz.t88 Tryz.underlying88
def te89 : TE := ⟨.other, 1, 8, .v .nilFunc⟩
theorem ok89 : EntryOk prog 89 te89 := entK Tryz.t89 Tryz.underlying89
def te91 : TE := ⟨.other, 1, 8, .v .nilFunc⟩
theorem ok91 : EntryOk prog 91 te91 := entK Tryz.t91 Tryz.underlying91
def te92 : TE := ⟨.other, 1, 8, .v .nilFunc⟩
theorem ok92 : EntryOk prog 92 te92 := entK Tryz.t92 Tryz.underlying92
def te93 : TE := ⟨.struct [(0, 4), (1, 86), (2, 3)], 3, 24, .st [1, 1, 1] [.v (.bool false), .v (.int .u64 0), .v (.int .i64 0)]⟩
theorem ok93 : EntryOk prog 93 te93 := entK Tryz.t93 Tryz.underlying93
def te94 : TE := ⟨.struct [(0, 4), (1, 86), (2, 3)], 3, 24, .st [1, 1, 1] [.v (.bool false), .v (.int .u64 0), .v (.int .i64 0)]⟩
theorem ok94 : EntryOk prog 94 te94 := entK Tryz.t94 Tryz.underlying94
def te96 : TE := ⟨.other, 1, 8, .v .nilFunc⟩
theorem ok96 : EntryOk prog 96 te96 := entK Tryz.t96 Tryz.underlying96
def te97 : TE := ⟨.other, 1, 8, .v .nilFunc⟩
theorem ok97 : EntryOk prog 97 te97 := entK Tryz.t97 Tryz.underlying97
def te99 : TE := ⟨.other, 1, 8, .v .nilFunc⟩
theorem ok99 : EntryOk prog 99 te99 := entK Tryz.t99 Tryz.underlying99
def te100 : TE := ⟨.struct [(0, 4), (1, 86), (2, 86), (3, 3), (4, 4)], 5, 40, .st [1, 1, 1, 1, 1] [.v (.bool false), .v (.int .u64 0), .v (.int .u64 0), .v (.int .i64 0), .v (.bool false)]⟩
theorem ok100 : EntryOk prog 100 te100 := entK Tryz.t100 Tryz.underlying100
def te101 : TE := ⟨.struct [(0, 4), (1, 86), (2, 86), (3, 3), (4, 4)], 5, 40, .st [1, 1, 1, 1, 1] [.v (.bool false), .v (.int .u64 0), .v (.int .u64 0), .v (.int .i64 0), .v (.bool false)]⟩
theorem ok101 : EntryOk prog 101 te101 := entK Tryz.t101 Tryz.underlying101
def te102 : TE := ⟨.other, 1, 8, .v .nilFunc⟩
theorem ok102 : EntryOk prog 102 te102 := entK Tryz.t102 Tryz.underlying102
def te103 : TE := ⟨.other, 1, 8, .v .nilFunc⟩
theorem ok103 : EntryOk prog 103 te103 := entK Tryz.t103 Tryz.underlying103
def te104 : TE := ⟨.slice 69, 1, 24, .sl 69 3 []⟩
theorem ok104 : EntryOk prog 104 te104 := entK Tryz.t104 Tryz.underlying104
def te105 : TE := ⟨.other, 1, 8, .v .nilFunc⟩
theorem ok105 : EntryOk prog 105 te105 := entK Tryz.t105 Tryz.underlying105
def te106 : TE := ⟨.other, 1, 8, .v .nilFunc⟩
theorem ok106 : EntryOk prog 106 te106 := entK Tryz.t106 Tryz.underlying106
def te107 : TE := ⟨.other, 1, 8, .v .nilFunc⟩
theorem ok107 : EntryOk prog 107 te107 := entK Tryz.t107 Tryz.underlying107
def te109 : TE := ⟨.other, 1, 8, .v .nilFunc⟩
theorem ok109 : EntryOk prog 109 te109 := entK Tryz.t109 Tryz.underlying109
def te110 : TE := ⟨.other, 1, 8, .v .nilFunc⟩
theorem ok110 : EntryOk prog 110 te110 := entK Tryz.t110 Tryz.underlying110
def te111 : TE := ⟨.struct [(0, 69), (3, 69), (6, 4)], 7, 88, .st [3, 3, 1] [.st [1, 1, 1] [.v (.bool false), .sl 132 1 [], .v (.int .i64 0)], .st [1, 1, 1] [.v (.bool false), .sl 132 1 [], .v (.int .i64 0)], .v (.bool false)]⟩
theorem ok111 : EntryOk prog 111 te111 := entK Tryz.t111 Tryz.underlying111
def te112 : TE := ⟨.struct [(0, 69), (3, 69), (6, 4)], 7, 88, .st [3, 3, 1] [.st [1, 1, 1] [.v (.bool false), .sl 132 1 [], .v (.int .i64 0)], .st [1, 1, 1] [.v (.bool false), .sl 132 1 [], .v (.int .i64 0)], .v (.bool false)]⟩
theorem ok112 : EntryOk prog 112 te112 := entK Tryz.t112 Tryz.underlying112
def te114 : TE := ⟨.other, 1, 8, .v .nilFunc⟩
theorem ok114 : EntryOk prog 114 te114 := entK Tryz.t114 Tryz.underlying114
def te115 : TE := ⟨.other, 1, 8, .v .nilFunc⟩
theorem ok115 : EntryOk prog 115 te115 := entK Tryz.t115 Tryz.underlying115
def te116 : TE := ⟨.other, 1, 8, .v .nilFunc⟩
theorem ok116 : EntryOk prog 116 te116 := entK Tryz.t116 Tryz.underlying116
def te117 : TE := ⟨.other, 1, 8, .v .nilFunc⟩
theorem ok117 : EntryOk prog 117 te117 := entK Tryz.t117 Tryz.underlying117
def te118 : TE := ⟨.other, 1, 8, .v .nilFunc⟩
theorem ok118 : EntryOk prog 118 te118 := entK Tryz.t118 Tryz.underlying118
def te121 : TE := ⟨.other, 1, 8, .v .nilFunc⟩
theorem ok121 : EntryOk prog 121 te121 := entK Tryz.t121 Tryz.underlying121
def te123 : TE := ⟨.other, 1, 8, .v .nilFunc⟩
theorem ok123 : EntryOk prog 123 te123 := entK Tryz.t123 Tryz.underlying123
def te124 : TE := ⟨.other, 1, 8, .v .nilFunc⟩
theorem ok124 : EntryOk prog 124 te124 := entK Tryz.t124 Tryz.underlying124
def te125 : TE := ⟨.other, 1, 8, .v .nilFunc⟩
theorem ok125 : EntryOk prog 125 te125 := entK Tryz.t125 Tryz.underlying125
def te126 : TE := ⟨.other, 1, 8, .v .nilFunc⟩
theorem ok126 : EntryOk prog 126 te126 := entK Tryz.t126 Tryz.underlying126
def te127 : TE := ⟨.other, 1, 8, .v .nilFunc⟩
theorem ok127 : EntryOk prog 127 te127 := entK Tryz.t127 Tryz.underlying127
def te128 : TE := ⟨.other, 1, 8, .v .nilFunc⟩
theorem ok128 : EntryOk prog 128 te128 := entK Tryz.t128 Tryz.underlying128
def te129 : TE := ⟨.other, 1, 8, .v .nilFunc⟩
theorem ok129 : EntryOk prog 129 te129 := entK Tryz.t129 Tryz.underlying129
def te130 : TE := ⟨.other, 1, 8, .v .nilFunc⟩
theorem ok130 : EntryOk prog 130 te130 := entK Tryz.t130 Tryz.underlying130
def te131 : TE := ⟨.other, 1, 8, .v .nilFunc⟩
theorem ok131 : EntryOk prog 131 te131 := entK Tryz.t131 Tryz.underlying131
def te132 : TE := ⟨.int .u32, 1, 4, .v (.int .u32 0)⟩
theorem ok132 : EntryOk prog 132 te132 := entK Tryz.t132 Tryz.underlying132
def te133 : TE := ⟨.other, 1, 8, .v .nilFunc⟩
theorem ok133 : EntryOk prog 133 te133 := entK Tryz.t133 Tryz.underlying133
def te134 : TE := ⟨.other, 1, 8, .v .nilFunc⟩
theorem ok134 : EntryOk prog 134 te134 := entK Tryz.t134 Tryz.underlying134
def te135 : TE := ⟨.other, 1, 8, .v .nilFunc⟩
theorem ok135 : EntryOk prog 135 te135 := entK Tryz.t135 Tryz.underlying135
def te136 : TE := ⟨.other, 1, 8, .v .nilFunc⟩
theorem ok136 : EntryOk prog 136 te136 := entK Tryz.t136 Tryz.underlying136
def te137 : TE := ⟨.other, 1, 8, .v .nilFunc⟩
theorem ok137 : EntryOk prog 137 te137 := entK Tryz.t137 Tryz.underlying137
def te138 : TE := ⟨.struct [(0, 17), (1, 17), (2, 17), (3, 9)], 4, 40, .st [1, 1, 1, 1] [.v (.pointer none), .v (.pointer none), .v (.pointer none), .v (.string ⟨#[]⟩)]⟩
theorem ok138 : EntryOk prog 138 te138 := entK Tryz.t138 Tryz.underlying138
def te139 : TE := ⟨.struct [(0, 17), (1, 17), (2, 17), (3, 9)], 4, 40, .st [1, 1, 1, 1] [.v (.pointer none), .v (.pointer none), .v (.pointer none), .v (.string ⟨#[]⟩)]⟩
theorem ok139 : EntryOk prog 139 te139 := entK Tryz.t139 Tryz.underlying139
def te140 : TE := ⟨.arr 0 16, 0, 0, .ar 1 []⟩
theorem ok140 : EntryOk prog 140 te140 := entK Tryz.t140 Tryz.underlying140
def te141 : TE := ⟨.struct [(0, 140)], 0, 0, .st [0] [.ar 1 []]⟩
theorem ok141 : EntryOk prog 141 te141 := entK Tryz.t141 Tryz.underlying141
def te142 : TE := ⟨.struct [(0, 140)], 0, 0, .st [0] [.ar 1 []]⟩
theorem ok142 : EntryOk prog 142 te142 := entK Tryz.t142 Tryz.underlying142
def te143 : TE := ⟨.int .u8, 1, 1, .v (.int .u8 0)⟩
theorem ok143 : EntryOk prog 143 te143 := entK Tryz.t143 Tryz.underlying143
def te144 : TE := ⟨.int .u8, 1, 1, .v (.int .u8 0)⟩
theorem ok144 : EntryOk prog 144 te144 := entK Tryz.t144 Tryz.underlying144
def te145 : TE := ⟨.other, 1, 8, .v .nilFunc⟩
theorem ok145 : EntryOk prog 145 te145 := entK Tryz.t145 Tryz.underlying145
def te146 : TE := ⟨.ptr 5, 1, 8, .v (.pointer none)⟩
theorem ok146 : EntryOk prog 146 te146 := entK Tryz.t146 Tryz.underlying146
def te147 : TE := ⟨.int .i32, 1, 4, .v (.int .i32 0)⟩
theorem ok147 : EntryOk prog 147 te147 := entK Tryz.t147 Tryz.underlying147
def te148 : TE := ⟨.int .i32, 1, 4, .v (.int .i32 0)⟩
theorem ok148 : EntryOk prog 148 te148 := entK Tryz.t148 Tryz.underlying148
def te149 : TE := ⟨.struct [(0, 12), (1, 12), (2, 132), (3, 143), (4, 5), (5, 5), (6, 144), (7, 145), (8, 146), (9, 147), (10, 148)], 11, 48, .st [1, 1, 1, 1, 1, 1, 1, 1, 1, 1, 1] [.v (.int .u64 0), .v (.int .u64 0), .v (.int .u32 0), .v (.int .u8 0), .v (.int .u8 0), .v (.int .u8 0), .v (.int .u8 0), .v .nilFunc, .v (.pointer none), .v (.int .i32 0), .v (.int .i32 0)]⟩
theorem ok149 : EntryOk prog 149 te149 := entK Tryz.t149 Tryz.underlying149
def te150 : TE := ⟨.struct [(0, 12), (1, 12), (2, 132), (3, 143), (4, 5), (5, 5), (6, 144), (7, 145), (8, 146), (9, 147), (10, 148)], 11, 48, .st [1, 1, 1, 1, 1, 1, 1, 1, 1, 1, 1] [.v (.int .u64 0), .v (.int .u64 0), .v (.int .u32 0), .v (.int .u8 0), .v (.int .u8 0), .v (.int .u8 0), .v (.int .u8 0), .v .nilFunc, .v (.pointer none), .v (.int .i32 0), .v (.int .i32 0)]⟩
theorem ok150 : EntryOk prog 150 te150 := entK Tryz.t150 Tryz.underlying150
def tab : Tab := [none, some te1, some te2, some te3, some te4, some te5, some te6, some te7, some te8, some te9, some te10, some te11, some te12, some te13, some te14, some te15, some te16, some te17, some te18, some te19, none, some te21, some te22, some te23, none, some te25, some te26, some te27, some te28, some te29, some te30, some te31, some te32, some te33, some te34, some te35, some te36, some te37, some te38, none, some te40, some te41, some te42, some te43, some te44, none, some te46, none, some te48, some te49, some te50, some te51, some te52, some te53, some te54, some te55, some te56, some te57, some te58, none, some te60, some te61, some te62, some te63, some te64, some te65, some te66, some te67, some te68, some te69, some te70, some te71, some te72, some te73, some te74, some te75, some te76, some te77, some te78, some te79, some te80, some te81, some te82, some te83, none, some te85, some te86, some te87, some te88, some te89, none, some te91, some te92, some te93, some te94, none, some te96, some te97, none, some te99, some te100, some te101, some te102, some te103, some te104, some te105, some te106, some te107, none, some te109, some te110, some te111, some te112, none, some te114, some te115, some te116, some te117, some te118, none, none, some te121, none, some te123, some te124, some te125, some te126, some te127, some te128, some te129, some te130, some te131, some te132, some te133, some te134, some te135, some te136, some te137, some te138, some te139, some te140, some te141, some te142, some te143, some te144, some te145, some te146, some te147, some te148, some te149, some te150, none]
def TabL (P : Program) : Nat → Tab → Prop
  | _, [] => True
  | k, some te :: T => EntryOk P k te ∧ TabL P (k + 1) T
  | k, none :: T => TabL P (k + 1) T
theorem TabL.get {P : Program} : ∀ (T : Tab) (k t : Nat) (te : TE), TabL P k T → tget T t = some te → EntryOk P (k + t) te
  | [], _, t, _, _, h => by simp [tget] at h
  | some te' :: T, k, 0, te, hl, h => by simp [tget] at h; subst h; exact hl.1
  | none :: T, k, 0, te, hl, h => by simp [tget] at h
  | some te' :: T, k, t + 1, te, hl, h => by
    have := TabL.get T (k + 1) t te hl.2 (by simpa [tget] using h)
    rwa [Nat.add_right_comm] at this
  | none :: T, k, t + 1, te, hl, h => by
    have := TabL.get T (k + 1) t te hl (by simpa [tget] using h)
    rwa [Nat.add_right_comm] at this
theorem tabOk : TabOk prog tab := fun t te h => by
  have := TabL.get (P := prog) tab 0 t te ⟨ok1, ok2, ok3, ok4, ok5, ok6, ok7, ok8, ok9, ok10, ok11, ok12, ok13, ok14, ok15, ok16, ok17, ok18, ok19, ok21, ok22, ok23, ok25, ok26, ok27, ok28, ok29, ok30, ok31, ok32, ok33, ok34, ok35, ok36, ok37, ok38, ok40, ok41, ok42, ok43, ok44, ok46, ok48, ok49, ok50, ok51, ok52, ok53, ok54, ok55, ok56, ok57, ok58, ok60, ok61, ok62, ok63, ok64, ok65, ok66, ok67, ok68, ok69, ok70, ok71, ok72, ok73, ok74, ok75, ok76, ok77, ok78, ok79, ok80, ok81, ok82, ok83, ok85, ok86, ok87, ok88, ok89, ok91, ok92, ok93, ok94, ok96, ok97, ok99, ok100, ok101, ok102, ok103, ok104, ok105, ok106, ok107, ok109, ok110, ok111, ok112, ok114, ok115, ok116, ok117, ok118, ok121, ok123, ok124, ok125, ok126, ok127, ok128, ok129, ok130, ok131, ok132, ok133, ok134, ok135, ok136, ok137, ok138, ok139, ok140, ok141, ok142, ok143, ok144, ok145, ok146, ok147, ok148, ok149, ok150, trivial⟩ h
  rwa [Nat.zero_add] at this
section
variable {ops : Array Oper} {cf : Oper → Bool} {K : AExit → St → Prop} {o : Oper} {rest : List Oper} {L : List (Nat × AV)} {O : List (Nat × Obj)} {d : Nat}
theorem pI {κ : IntKind} {i : Int} (h : opD tab ops L O o = some (d, .dat (.v (.int κ i)))) (k : AOps prog ops cf K rest (mkSt ((d, .dat (.v (.int κ i))) :: L) O)) : AOps prog ops cf K (o :: rest) (mkSt L O) := AOps.pD tabOk h k
theorem pB {i : Bool} (h : opD tab ops L O o = some (d, .dat (.v (.bool i)))) (k : AOps prog ops cf K rest (mkSt ((d, .dat (.v (.bool i))) :: L) O)) : AOps prog ops cf K (o :: rest) (mkSt L O) := AOps.pD tabOk h k
theorem pF {κ : FloatKind} {i : Nat} (h : opD tab ops L O o = some (d, .dat (.v (.float κ i)))) (k : AOps prog ops cf K rest (mkSt ((d, .dat (.v (.float κ i))) :: L) O)) : AOps prog ops cf K (o :: rest) (mkSt L O) := AOps.pD tabOk h k
theorem pS {E : TypeId} {sz : Nat} {xs : List DV} (h : opD tab ops L O o = some (d, .dat (.sl E sz xs))) (k : AOps prog ops cf K rest (mkSt ((d, .dat (.sl E sz xs)) :: L) O)) : AOps prog ops cf K (o :: rest) (mkSt L O) := AOps.pD tabOk h k
theorem pT {ns : List Nat} {xs : List DV} (h : opD tab ops L O o = some (d, .dat (.st ns xs))) (k : AOps prog ops cf K rest (mkSt ((d, .dat (.st ns xs)) :: L) O)) : AOps prog ops cf K (o :: rest) (mkSt L O) := AOps.pD tabOk h k
theorem pU {xs : List DV} (h : opD tab ops L O o = some (d, .dat (.tup xs))) (k : AOps prog ops cf K rest (mkSt ((d, .dat (.tup xs)) :: L) O)) : AOps prog ops cf K (o :: rest) (mkSt L O) := AOps.pD tabOk h k
theorem pP {id off : Nat} {p : List Pa} (h : opD tab ops L O o = some (d, .pt id p off)) (k : AOps prog ops cf K rest (mkSt ((d, .pt id p off) :: L) O)) : AOps prog ops cf K (o :: rest) (mkSt L O) := AOps.pD tabOk h k
theorem pO {id : Nat} (h : opD tab ops L O o = some (d, .oref id)) (k : AOps prog ops cf K rest (mkSt ((d, .oref id) :: L) O)) : AOps prog ops cf K (o :: rest) (mkSt L O) := AOps.pD tabOk h k
theorem pW {x : DV} (h : opD tab ops L O o = some (d, .dat x)) (k : AOps prog ops cf K rest (mkSt ((d, .dat x) :: L) O)) : AOps prog ops cf K (o :: rest) (mkSt L O) := AOps.pD tabOk h k
theorem dn {σ : St} (h : K .normal σ) : AOps prog ops cf K [] σ := h
theorem ff (h : dstX ops L o = some d) (k : AOps prog ops cf K rest (mkSt ((d, .dat (.tup [])) :: L) O)) : AOps prog ops cf K (o :: rest) (mkSt L O) := AOps.off (dstX_ok h).1 (dstX_ok h).2 k
theorem ai {κ : IntKind} {i j : Int} (e : i = j) (h : opD tab ops L O o = some (d, .dat (.v (.int κ i)))) (k : AOps prog ops cf K rest (mkSt ((d, .dat (.v (.int κ j))) :: L) O)) : AOps prog ops cf K (o :: rest) (mkSt L O) := AOps.i tabOk (opD_ok h).1 (opD_ok h).2.1 (opD_ok h).2.2 e k
theorem al {κ : IntKind} {i : Int} (j : Int) (h : opD tab ops L O o = some (d, .dat (.v (.int κ i)))) (k : AOps prog ops cf K rest (mkSt ((d, .dat (.v (.int κ j))) :: L) O)) (e : i = j := by first | (rw [List.length_map]; done) | rfl) : AOps prog ops cf K (o :: rest) (mkSt L O) := AOps.i tabOk (opD_ok h).1 (opD_ok h).2.1 (opD_ok h).2.2 e k
theorem ca {f : FuncId} {args : List Operand} {ats : Array TypeId} {xs : List DV} {y : DV} {fr : Bool} (hc : AFn prog f xs y fr) (ho : o.op = .call { callee := .value (.func f), args := args.toArray, argTypes := ats }) (ha : argsOk (mkSt L O) fr args xs)
    (hd : dstG ops L o = some d) (k : AOps prog ops cf K rest (mkSt ((d, .dat y) :: L) O)) : AOps prog ops cf K (o :: rest) (mkSt L O) := AOps.call hc (dstG_ok hd).1 (dstG_ok hd).2 ho ha k
theorem st {t : TypeId} {te : TE} {x y : Operand} {id : Nat} {p : List Pa} {off : Nat} {T' : TypeId} {sz : Nat} {c c' z v : AV} (k : AOps prog ops cf K rest (mkSt L ((id, .box T' sz c') :: O))) (ho : o.op = .store t x y := by exact rfl) (hcf : cf o = true := by exact rfl) (hd : o.dst = none := by exact rfl) (hg : gOn ops L o = true := by exact rfl)
    (ht : tget tab t = some te := by exact rfl) (hx : ev (mkSt L O) x = .pt id p off := by exact rfl) (hob : lookO O id = some (.box T' sz c) := by exact rfl) (hl : locA c p 0 = some (off, z) := by exact rfl) (hz : Nat.beq z.len te.size = true := by exact rfl)
    (hv : nilT tab t (ev (mkSt L O) y) = v := by exact rfl) (hy1 : v.lies = true := by exact rfl) (hy2 : Nat.beq v.len te.size = true := by exact rfl) (hp : putA c p v = some c' := by exact rfl) : AOps prog ops cf K (o :: rest) (mkSt L O) := AOps.store tabOk ho hcf hd hg ht hx hob hl hz hv hy1 hy2 hp k
theorem bx {E : TypeId} {x : Operand} {v : AV} (k : AOps prog ops cf K rest (mkSt ((d, .pt d [] 0) :: L) ((d, .box E v.len v) :: O))) (ho : o.op = .box E x := by exact rfl) (hd : o.dst = some d := by exact rfl) (hg : gOn ops L o = true := by exact rfl) (hv : ev (mkSt L O) x = v := by exact rfl) (hl : v.lies = true := by exact rfl)
    (hn : lookO O d = none := by exact rfl) : AOps prog ops cf K (o :: rest) (mkSt L O) := AOps.box ho hd hg hv hl hn k
theorem al0 {E : TypeId} {te : TE} (k : AOps prog ops cf K rest (mkSt ((d, .pt d [] 0) :: L) ((d, .box E te.size (.dat te.zero)) :: O))) (ho : o.op = .alloc E := by exact rfl) (hd : o.dst = some d := by exact rfl) (hg : gOn ops L o = true := by exact rfl) (ht : tget tab E = some te := by exact rfl)
    (hn : lookO O d = none := by exact rfl) : AOps prog ops cf K (o :: rest) (mkSt L O) := AOps.alloc tabOk ho hd hg ht hn k
theorem kC {α : Type} {f : FuncId} {args : List Operand} {ats : Array TypeId} {xs : List DV} {y : α → DV} {fr : Bool} {q : α → Prop} (h : Call (fun x => AFn prog f xs (y x) fr) q) (ho : o.op = .call { callee := .value (.func f), args := args.toArray, argTypes := ats }) (ha : argsOk (mkSt L O) fr args xs)
    (hd : dstG ops L o = some d) (k : ∀ z, q z → AOps prog ops cf K rest (mkSt ((d, .dat (y z)) :: L) O)) : AOps prog ops cf K (o :: rest) (mkSt L O) := by
  obtain ⟨z, h1, h2⟩ := h
  exact ca h1 ho ha hd (k z h2)
theorem kI {α : Type} {t E E' : TypeId} {te : TE} {x y : Operand} {κ : IntKind} {i : Int} {sz : Nat} {ys : List α} {xs : List DV} {e : α → DV} {q : α → Prop} (h : At ys i q) (g : ∀ {m : Nat} {z : α}, ys[m]? = some z → xs[m]? = some (e z)) (ho : o.op = .indexAddr t x y) (hd : dstG ops L o = some d) (hs : slE tab t = some (E, te))
    (hx : ev (mkSt L O) x = .dat (.sl E' sz xs)) (hsz : Nat.beq sz te.size = true) (hy : ev (mkSt L O) y = .dat (.v (.int κ i))) (hp : Nat.ble 1 te.size = true) (k : ∀ z, q z → AOps prog ops cf K rest (mkSt ((d, .sp (e z)) :: L) O)) : AOps prog ops cf K (o :: rest) (mkSt L O) := by
  obtain ⟨h0, z, h1, h2⟩ := h
  exact AOps.idx tabOk ho (dstG_ok hd).1 (dstG_ok hd).2 hs hx hsz hy hp h0 (g h1) (k z h2)
def offN (ops : Array Oper) : Nat → List Oper → List (Nat × AV) → Option (List Oper × List (Nat × AV))
  | 0, l, L => some (l, L)
  | n + 1, l, L => match l with
    | [] => none
    | o :: l => match dstX ops L o with
      | some d => offN ops n l ((d, .dat (.tup [])) :: L)
      | none => none
theorem fo {l rest : List Oper} {L' : List (Nat × AV)} (n : Nat) (h : offN ops n l L = some (rest, L')) (k : AOps prog ops cf K rest (mkSt L' O)) : AOps prog ops cf K l (mkSt L O) := by
  induction n generalizing l L with
  | zero => simp only [offN, Option.some.injEq, Prod.mk.injEq] at h; obtain ⟨rfl, rfl⟩ := h; exact k
  | succ n ih =>
    match l, h with
    | o :: l, h =>
      simp only [offN] at h
      split at h
      · rename_i d hd; exact ff hd (ih h)
      · cases h
theorem sB {l : List Oper} (i : Nat) {b : Bool} {A C : Prop} (h : Br b A C) (ht : A → AOps prog ops cf K l (mkSt ((i, .dat (.v (.bool true))) :: L) O)) (hf : C → AOps prog ops cf K l (mkSt ((i, .dat (.v (.bool false))) :: L) O)) (hl : look L i = .dat (.v (.bool b)) := by exact rfl) :
    AOps prog ops cf K l (mkSt L O) := AOps.splitB i hl (fun e => ht (h.1 e)) (fun e => hf (h.2 e))
end
theorem mixed : prog.follows .mixedOrders = true := rfl
section
variable {B : Nat → Nat → Prop} {n id : Nat} {σ : St} {Q : AExit → St → Prop} {ops : Array Oper} {y : Code}
theorem rN (h : AOps prog ops (fun _ => false) Q ops.toList σ) (hd : dstOk n ops.toList = true := by exact rfl) : AWp prog B n (.region id ops false) σ Q := AWp.regionN _ hd h
theorem rW (h : AOps prog ops (fun o => writes o) Q ops.toList σ) (hd : dstOk n ops.toList = true := by exact rfl) : AWp prog B n (.region id ops false) σ Q := AWp.regionN _ hd h
theorem rD (h : AOps prog ops (fun _ => false) Q ops.toList σ) (hB : lexA (fun _ => false) ops = true := by decide +kernel) (hd : dstOk n ops.toList = true := by exact rfl) : AWp prog B n (.region id ops true) σ Q := AWp.regionD _ mixed hB hd h
theorem sN (h : AOps prog ops (fun _ => false) (thenQ (fun σ' => AWp prog B n y σ' Q) Q) ops.toList σ) (hd : dstOk n ops.toList = true := by exact rfl) : AWp prog B n (.seq (.region id ops false) y) σ Q := AWp.seq (AWp.regionN _ hd h)
theorem sW (h : AOps prog ops (fun o => writes o) (thenQ (fun σ' => AWp prog B n y σ' Q) Q) ops.toList σ) (hd : dstOk n ops.toList = true := by exact rfl) : AWp prog B n (.seq (.region id ops false) y) σ Q := AWp.seq (AWp.regionN _ hd h)
theorem sD (h : AOps prog ops (fun _ => false) (thenQ (fun σ' => AWp prog B n y σ' Q) Q) ops.toList σ) (hB : lexA (fun _ => false) ops = true := by decide +kernel) (hd : dstOk n ops.toList = true := by exact rfl) : AWp prog B n (.seq (.region id ops true) y) σ Q := AWp.seq (AWp.regionD _ mixed hB hd h)
theorem cB {c : Operand} {x : Code} {b : Bool} {A C : Prop} (h : Br b A C) (ht : A → AWp prog B n x σ Q) (hf : C → AWp prog B n y σ Q) (hc : ev σ c = .dat (.v (.bool b)) := by exact rfl) : AWp prog B n (.cond c x y) σ Q := AWp.cond hc (fun e => ht (h.1 e)) (fun e => hf (h.2 e))
theorem intr {f : FuncId} {fn : Func} {c : Code} {xs : List DV} {r : DV} {m : Nat} {rs : List ResultVar} {L : List (Nat × AV)} (hf : prog.funcs[f]? = some fn) (hn : fn.ntmps = m) (hw : AWp prog NoB m c (mkSt L []) (outQ tab rs r)) (hb : fn.body = some c := by exact rfl)
    (hname : (fn.name == "runtime.NumGoroutine") = false := by exact rfl) (hr : fn.results.toList = rs := by exact rfl) (hl : Nat.ble xs.length m = true := by exact rfl) (hL : argL 0 xs = L := by exact rfl) (hnl : m ≤ 1000000 := by decide) : AFn prog f xs r false := AFn.intro' tabOk hf hb hname hn hr hl hL hw hnl
theorem rE {L : List (Nat × AV)} {O : List (Nat × Obj)} (own : List (Nat × List Nat)) (h : AOps prog ops (fun o => writes o) Q ops.toList (mkSt L O)) (hB : lexS own (fun o => writes o) ops = true := by decide +kernel) (hd : dstOk n ops.toList = true := by exact rfl) (hf : fixB own L = true := by exact rfl) :
    AWp prog B n (.region id ops true) (mkSt L O) Q := AWp.regionS own _ mixed hB hd (fix_of hf) h
end
end Go.Sim.YtlkpbnhinnhlfaaGreat
