/- What is proved: the table of the types that the program has. -/
import Derived.Test.YtlkpbnhinnhlfaaProg
import Derived.Test.YtlkpbnhinnhlfaaZSHSimE
import Derived.Test.YtlkpbnhinnhlfaaZSHSimI
import Derived.Test.YtlkpbnhinnhlfaaZSHBig

namespace Go.Sim.Ytlkpbnhinnhlfaa
open Go.RowKit Go.Proofs Go.Proofs.Try
set_option maxRecDepth 100000
theorem entK {t : TypeId} {te : TE} {d : TypeDesc} {z : Value} (i : TypeInfo) (h2 : prog.underlying t = some d) (h1 : prog.info? t = some i := by exact rfl) (h3 : te.d.ok d := by first | rfl | trivial | exact ⟨rfl, rfl⟩) (h4 : i.size = te.size := by exact rfl) (h5 : i.bytes = te.bytes := by exact rfl) (h6 : i.zero = some z := by exact rfl)
    (h7 : flat te.zero = some z.cells.toList := by exact rfl) (h8 : te.zero.agg = te.d.agg := by exact rfl) (h9 : aggOk te.d.agg z := by first | rfl | trivial) (h10 : te.zero.len = te.size := by exact rfl) : EntryOk prog t te := ⟨i, d, z, h1, h2, h3, h4, h5, h6, h7, h8, h9, h10⟩
def te1 : TE := ⟨.other, 1, 8, .v .nilFunc⟩
theorem ok1 : EntryOk prog 1 te1 := entK Try.t1 Try.underlying1
def te2 : TE := ⟨.int .i64, 1, 8, .v (.int .i64 0)⟩
theorem ok2 : EntryOk prog 2 te2 := entK Try.t2 Try.underlying2
def te3 : TE := ⟨.int .i64, 1, 8, .v (.int .i64 0)⟩
theorem ok3 : EntryOk prog 3 te3 := entK Try.t3 Try.underlying3
def te4 : TE := ⟨.bool, 1, 1, .v (.bool false)⟩
theorem ok4 : EntryOk prog 4 te4 := entK Try.t4 Try.underlying4
def te5 : TE := ⟨.int .u8, 1, 1, .v (.int .u8 0)⟩
theorem ok5 : EntryOk prog 5 te5 := entK Try.t5 Try.underlying5
def te6 : TE := ⟨.int .u8, 1, 1, .v (.int .u8 0)⟩
theorem ok6 : EntryOk prog 6 te6 := entK Try.t6 Try.underlying6
def te7 : TE := ⟨.struct [(0, 2), (1, 3), (2, 4), (3, 6)], 4, 24, .st [1, 1, 1, 1] [.v (.int .i64 0), .v (.int .i64 0), .v (.bool false), .v (.int .u8 0)]⟩
theorem ok7 : EntryOk prog 7 te7 := entK Try.t7 Try.underlying7
def te8 : TE := ⟨.struct [(0, 2), (1, 3), (2, 4), (3, 6)], 4, 24, .st [1, 1, 1, 1] [.v (.int .i64 0), .v (.int .i64 0), .v (.bool false), .v (.int .u8 0)]⟩
theorem ok8 : EntryOk prog 8 te8 := entK Try.t8 Try.underlying8
def te9 : TE := ⟨.str, 1, 16, .v (.string ⟨#[]⟩)⟩
theorem ok9 : EntryOk prog 9 te9 := entK Try.t9 Try.underlying9
def te10 : TE := ⟨.str, 1, 16, .v (.string ⟨#[]⟩)⟩
theorem ok10 : EntryOk prog 10 te10 := entK Try.t10 Try.underlying10
def te11 : TE := ⟨.str, 1, 16, .v (.string ⟨#[]⟩)⟩
theorem ok11 : EntryOk prog 11 te11 := entK Try.t11 Try.underlying11
def te12 : TE := ⟨.int .u64, 1, 8, .v (.int .u64 0)⟩
theorem ok12 : EntryOk prog 12 te12 := entK Try.t12 Try.underlying12
def te13 : TE := ⟨.struct [(0, 9), (1, 12)], 2, 24, .st [1, 1] [.v (.string ⟨#[]⟩), .v (.int .u64 0)]⟩
theorem ok13 : EntryOk prog 13 te13 := entK Try.t13 Try.underlying13
def te14 : TE := ⟨.struct [(0, 9), (1, 12)], 2, 24, .st [1, 1] [.v (.string ⟨#[]⟩), .v (.int .u64 0)]⟩
theorem ok14 : EntryOk prog 14 te14 := entK Try.t14 Try.underlying14
def te15 : TE := ⟨.ptr 115, 1, 8, .v (.pointer none)⟩
theorem ok15 : EntryOk prog 15 te15 := entK Try.t15 Try.underlying15
def te16 : TE := ⟨.ptr 118, 1, 8, .v (.pointer none)⟩
theorem ok16 : EntryOk prog 16 te16 := entK Try.t16 Try.underlying16
def te17 : TE := ⟨.ptr 126, 1, 8, .v (.pointer none)⟩
theorem ok17 : EntryOk prog 17 te17 := entK Try.t17 Try.underlying17
def te18 : TE := ⟨.struct [(0, 17)], 1, 8, .st [1] [.v (.pointer none)]⟩
theorem ok18 : EntryOk prog 18 te18 := entK Try.t18 Try.underlying18
def te19 : TE := ⟨.struct [(0, 17)], 1, 8, .st [1] [.v (.pointer none)]⟩
theorem ok19 : EntryOk prog 19 te19 := entK Try.t19 Try.underlying19
def te21 : TE := ⟨.int .i32, 1, 4, .v (.int .i32 0)⟩
theorem ok21 : EntryOk prog 21 te21 := entK Try.t21 Try.underlying21
def te22 : TE := ⟨.slice 24, 1, 24, .sl 24 1 []⟩
theorem ok22 : EntryOk prog 22 te22 := entK Try.t22 Try.underlying22
def te23 : TE := ⟨.other, 1, 8, .v .nilFunc⟩
theorem ok23 : EntryOk prog 23 te23 := entK Try.t23 Try.underlying23
def te24 : TE := ⟨.slice 42, 1, 24, .sl 42 1 []⟩
theorem ok24 : EntryOk prog 24 te24 := entK Try.t24 Try.underlying24
def te25 : TE := ⟨.slice 50, 1, 24, .sl 50 1 []⟩
theorem ok25 : EntryOk prog 25 te25 := entK Try.t25 Try.underlying25
def te26 : TE := ⟨.int .i64, 1, 8, .v (.int .i64 0)⟩
theorem ok26 : EntryOk prog 26 te26 := entK Try.t26 Try.underlying26
def te28 : TE := ⟨.other, 1, 8, .v .nilFunc⟩
theorem ok28 : EntryOk prog 28 te28 := entK Try.t28 Try.underlying28
def te29 : TE := ⟨.other, 1, 8, .v .nilFunc⟩
theorem ok29 : EntryOk prog 29 te29 := entK Try.t29 Try.underlying29
def te30 : TE := ⟨.slice 106, 1, 24, .sl 106 1 []⟩
theorem ok30 : EntryOk prog 30 te30 := entK Try.t30 Try.underlying30
def te31 : TE := ⟨.slice 106, 1, 24, .sl 106 1 []⟩
theorem ok31 : EntryOk prog 31 te31 := entK Try.t31 Try.underlying31
def te32 : TE := ⟨.struct [(0, 4), (1, 31), (2, 3)], 3, 40, .st [1, 1, 1] [.v (.bool false), .sl 106 1 [], .v (.int .i64 0)]⟩
theorem ok32 : EntryOk prog 32 te32 := entK Try.t32 Try.underlying32
def te33 : TE := ⟨.struct [(0, 4), (1, 31), (2, 3)], 3, 40, .st [1, 1, 1] [.v (.bool false), .sl 106 1 [], .v (.int .i64 0)]⟩
theorem ok33 : EntryOk prog 33 te33 := entK Try.t33 Try.underlying33
def te34 : TE := ⟨.other, 1, 8, .v .nilFunc⟩
theorem ok34 : EntryOk prog 34 te34 := entK Try.t34 Try.underlying34
def te35 : TE := ⟨.slice 54, 1, 24, .sl 54 1 []⟩
theorem ok35 : EntryOk prog 35 te35 := entK Try.t35 Try.underlying35
def te36 : TE := ⟨.other, 1, 8, .v .nilFunc⟩
theorem ok36 : EntryOk prog 36 te36 := entK Try.t36 Try.underlying36
def te37 : TE := ⟨.other, 1, 8, .v .nilFunc⟩
theorem ok37 : EntryOk prog 37 te37 := entK Try.t37 Try.underlying37
def te38 : TE := ⟨.other, 1, 8, .v .nilFunc⟩
theorem ok38 : EntryOk prog 38 te38 := entK Try.t38 Try.underlying38
def te39 : TE := ⟨.other, 1, 8, .v .nilFunc⟩
theorem ok39 : EntryOk prog 39 te39 := entK Try.t39 Try.underlying39
def te40 : TE := ⟨.other, 1, 8, .v .nilFunc⟩
theorem ok40 : EntryOk prog 40 te40 := entK Try.t40 Try.underlying40
def te41 : TE := ⟨.other, 1, 8, .v .nilFunc⟩
theorem ok41 : EntryOk prog 41 te41 := entK Try.t41 Try.underlying41
def te42 : TE := ⟨.flt .f64, 1, 8, .v (.float .f64 0)⟩
theorem ok42 : EntryOk prog 42 te42 := entK Try.t42 Try.underlying42
def te44 : TE := ⟨.other, 1, 8, .v .nilFunc⟩
theorem ok44 : EntryOk prog 44 te44 := entK Try.t44 Try.underlying44
def te45 : TE := ⟨.other, 1, 8, .v .nilFunc⟩
theorem ok45 : EntryOk prog 45 te45 := entK Try.t45 Try.underlying45
def te46 : TE := ⟨.other, 1, 8, .v .nilFunc⟩
theorem ok46 : EntryOk prog 46 te46 := entK Try.t46 Try.underlying46
def te47 : TE := ⟨.struct [(0, 42), (1, 42)], 2, 16, .st [1, 1] [.v (.float .f64 0), .v (.float .f64 0)]⟩
theorem ok47 : EntryOk prog 47 te47 := entK Try.t47 Try.underlying47
def te48 : TE := ⟨.struct [(0, 42), (1, 42)], 2, 16, .st [1, 1] [.v (.float .f64 0), .v (.float .f64 0)]⟩
theorem ok48 : EntryOk prog 48 te48 := entK Try.t48 Try.underlying48
def te49 : TE := ⟨.other, 1, 8, .v .nilFunc⟩
theorem ok49 : EntryOk prog 49 te49 := entK Try.t49 Try.underlying49
def te50 : TE := ⟨.slice 48, 1, 24, .sl 48 2 []⟩
theorem ok50 : EntryOk prog 50 te50 := entK Try.t50 Try.underlying50
def te51 : TE := ⟨.other, 1, 8, .v .nilFunc⟩
theorem ok51 : EntryOk prog 51 te51 := entK Try.t51 Try.underlying51
def te52 : TE := ⟨.other, 1, 8, .v .nilFunc⟩
theorem ok52 : EntryOk prog 52 te52 := entK Try.t52 Try.underlying52
def te53 : TE := ⟨.other, 1, 8, .v .nilFunc⟩
theorem ok53 : EntryOk prog 53 te53 := entK Try.t53 Try.underlying53
def te54 : TE := ⟨.slice 33, 1, 24, .sl 33 3 []⟩
theorem ok54 : EntryOk prog 54 te54 := entK Try.t54 Try.underlying54
def te55 : TE := ⟨.other, 1, 8, .v .nilFunc⟩
theorem ok55 : EntryOk prog 55 te55 := entK Try.t55 Try.underlying55
def te56 : TE := ⟨.other, 1, 8, .v .nilFunc⟩
theorem ok56 : EntryOk prog 56 te56 := entK Try.t56 Try.underlying56
def te57 : TE := ⟨.other, 1, 8, .v .nilFunc⟩
theorem ok57 : EntryOk prog 57 te57 := entK Try.t57 Try.underlying57
def te58 : TE := ⟨.other, 1, 8, .v .nilFunc⟩
theorem ok58 : EntryOk prog 58 te58 := entK Try.t58 Try.underlying58
def te59 : TE := ⟨.other, 1, 8, .v .nilFunc⟩
theorem ok59 : EntryOk prog 59 te59 := entK Try.t59 Try.underlying59
def te60 : TE := ⟨.other, 1, 8, .v .nilFunc⟩
theorem ok60 : EntryOk prog 60 te60 := entK Try.t60 Try.underlying60
def te61 : TE := ⟨.other, 1, 8, .v .nilFunc⟩
theorem ok61 : EntryOk prog 61 te61 := entK Try.t61 Try.underlying61
def te63 : TE := ⟨.other, 1, 8, .v .nilFunc⟩
theorem ok63 : EntryOk prog 63 te63 := entK Try.t63 Try.underlying63
def te64 : TE := ⟨.other, 1, 8, .v .nilFunc⟩
theorem ok64 : EntryOk prog 64 te64 := entK Try.t64 Try.underlying64
def te65 : TE := ⟨.other, 1, 8, .v .nilFunc⟩
theorem ok65 : EntryOk prog 65 te65 := entK Try.t65 Try.underlying65
def te67 : TE := ⟨.other, 1, 8, .v .nilFunc⟩
theorem ok67 : EntryOk prog 67 te67 := entK Try.t67 Try.underlying67
def te68 : TE := ⟨.other, 1, 8, .v .nilFunc⟩
theorem ok68 : EntryOk prog 68 te68 := entK Try.t68 Try.underlying68
def te69 : TE := ⟨.other, 1, 8, .v .nilFunc⟩
theorem ok69 : EntryOk prog 69 te69 := entK Try.t69 Try.underlying69
def te70 : TE := ⟨.other, 1, 8, .v .nilFunc⟩
theorem ok70 : EntryOk prog 70 te70 := entK Try.t70 Try.underlying70
def te71 : TE := ⟨.int .u64, 1, 8, .v (.int .u64 0)⟩
theorem ok71 : EntryOk prog 71 te71 := entK Try.t71 Try.underlying71
def te72 : TE := ⟨.struct [(0, 4), (1, 71), (2, 3)], 3, 24, .st [1, 1, 1] [.v (.bool false), .v (.int .u64 0), .v (.int .i64 0)]⟩
theorem ok72 : EntryOk prog 72 te72 := entK Try.t72 Try.underlying72
def te73 : TE := ⟨.struct [(0, 4), (1, 71), (2, 3)], 3, 24, .st [1, 1, 1] [.v (.bool false), .v (.int .u64 0), .v (.int .i64 0)]⟩
theorem ok73 : EntryOk prog 73 te73 := entK Try.t73 Try.underlying73
def te75 : TE := ⟨.other, 1, 8, .v .nilFunc⟩
theorem ok75 : EntryOk prog 75 te75 := entK Try.t75 Try.underlying75
def te76 : TE := ⟨.other, 1, 8, .v .nilFunc⟩
theorem ok76 : EntryOk prog 76 te76 := entK Try.t76 Try.underlying76
def te77 : TE := ⟨.other, 1, 8, .v .nilFunc⟩
theorem ok77 : EntryOk prog 77 te77 := entK Try.t77 Try.underlying77
def te79 : TE := ⟨.other, 1, 8, .v .nilFunc⟩
theorem ok79 : EntryOk prog 79 te79 := entK Try.t79 Try.underlying79
def te80 : TE := ⟨.int .u64, 1, 8, .v (.int .u64 0)⟩
theorem ok80 : EntryOk prog 80 te80 := entK Try.t80 Try.underlying80
def te81 : TE := ⟨.struct [(0, 4), (1, 71), (2, 71), (3, 3), (4, 4)], 5, 40, .st [1, 1, 1, 1, 1] [.v (.bool false), .v (.int .u64 0), .v (.int .u64 0), .v (.int .i64 0), .v (.bool false)]⟩
theorem ok81 : EntryOk prog 81 te81 := entK Try.t81 Try.underlying81
def te82 : TE := ⟨.struct [(0, 4), (1, 71), (2, 71), (3, 3), (4, 4)], 5, 40, .st [1, 1, 1, 1, 1] [.v (.bool false), .v (.int .u64 0), .v (.int .u64 0), .v (.int .i64 0), .v (.bool false)]⟩
theorem ok82 : EntryOk prog 82 te82 := entK Try.t82 Try.underlying82
def te83 : TE := ⟨.other, 1, 8, .v .nilFunc⟩
theorem ok83 : EntryOk prog 83 te83 := entK Try.t83 Try.underlying83
def te84 : TE := ⟨.other, 1, 8, .v .nilFunc⟩
theorem ok84 : EntryOk prog 84 te84 := entK Try.t84 Try.underlying84
def te85 : TE := ⟨.other, 1, 8, .v .nilFunc⟩
theorem ok85 : EntryOk prog 85 te85 := entK Try.t85 Try.underlying85
def te86 : TE := ⟨.other, 1, 8, .v .nilFunc⟩
theorem ok86 : EntryOk prog 86 te86 := entK Try.t86 Try.underlying86
def te87 : TE := ⟨.other, 1, 8, .v .nilFunc⟩
theorem ok87 : EntryOk prog 87 te87 := entK Try.t87 Try.underlying87
def te88 : TE := ⟨.other, 1, 8, .v .nilFunc⟩
theorem ok88 : EntryOk prog 88 te88 := entK Try.t88 Try.underlying88
def te89 : TE := ⟨.other, 1, 8, .v .nilFunc⟩
theorem ok89 : EntryOk prog 89 te89 := entK Try.t89 Try.underlying89
def te90 : TE := ⟨.other, 1, 8, .v .nilFunc⟩
theorem ok90 : EntryOk prog 90 te90 := entK Try.t90 Try.underlying90
def te92 : TE := ⟨.other, 1, 8, .v .nilFunc⟩
theorem ok92 : EntryOk prog 92 te92 := entK Try.t92 Try.underlying92
def te93 : TE := ⟨.other, 1, 8, .v .nilFunc⟩
theorem ok93 : EntryOk prog 93 te93 := entK Try.t93 Try.underlying93
def te95 : TE := ⟨.other, 1, 8, .v .nilFunc⟩
theorem ok95 : EntryOk prog 95 te95 := entK Try.t95 Try.underlying95
def te96 : TE := ⟨.other, 1, 8, .v .nilFunc⟩
theorem ok96 : EntryOk prog 96 te96 := entK Try.t96 Try.underlying96
def te97 : TE := ⟨.other, 1, 8, .v .nilFunc⟩
theorem ok97 : EntryOk prog 97 te97 := entK Try.t97 Try.underlying97
def te98 : TE := ⟨.other, 1, 8, .v .nilFunc⟩
theorem ok98 : EntryOk prog 98 te98 := entK Try.t98 Try.underlying98
def te101 : TE := ⟨.other, 1, 8, .v .nilFunc⟩
theorem ok101 : EntryOk prog 101 te101 := entK Try.t101 Try.underlying101
def te103 : TE := ⟨.other, 1, 8, .v .nilFunc⟩
theorem ok103 : EntryOk prog 103 te103 := entK Try.t103 Try.underlying103
def te104 : TE := ⟨.other, 1, 8, .v .nilFunc⟩
theorem ok104 : EntryOk prog 104 te104 := entK Try.t104 Try.underlying104
def te105 : TE := ⟨.other, 1, 8, .v .nilFunc⟩
theorem ok105 : EntryOk prog 105 te105 := entK Try.t105 Try.underlying105
def te106 : TE := ⟨.int .u32, 1, 4, .v (.int .u32 0)⟩
theorem ok106 : EntryOk prog 106 te106 := entK Try.t106 Try.underlying106
def te107 : TE := ⟨.other, 1, 8, .v .nilFunc⟩
theorem ok107 : EntryOk prog 107 te107 := entK Try.t107 Try.underlying107
def te108 : TE := ⟨.other, 1, 8, .v .nilFunc⟩
theorem ok108 : EntryOk prog 108 te108 := entK Try.t108 Try.underlying108
def te109 : TE := ⟨.other, 1, 8, .v .nilFunc⟩
theorem ok109 : EntryOk prog 109 te109 := entK Try.t109 Try.underlying109
def te110 : TE := ⟨.other, 1, 8, .v .nilFunc⟩
theorem ok110 : EntryOk prog 110 te110 := entK Try.t110 Try.underlying110
def te111 : TE := ⟨.other, 1, 8, .v .nilFunc⟩
theorem ok111 : EntryOk prog 111 te111 := entK Try.t111 Try.underlying111
def te112 : TE := ⟨.other, 1, 8, .v .nilFunc⟩
theorem ok112 : EntryOk prog 112 te112 := entK Try.t112 Try.underlying112
def te113 : TE := ⟨.other, 1, 8, .v .nilFunc⟩
theorem ok113 : EntryOk prog 113 te113 := entK Try.t113 Try.underlying113
def te114 : TE := ⟨.struct [(0, 17), (1, 17), (2, 17), (3, 9)], 4, 40, .st [1, 1, 1, 1] [.v (.pointer none), .v (.pointer none), .v (.pointer none), .v (.string ⟨#[]⟩)]⟩
theorem ok114 : EntryOk prog 114 te114 := entK Try.t114 Try.underlying114
def te115 : TE := ⟨.struct [(0, 17), (1, 17), (2, 17), (3, 9)], 4, 40, .st [1, 1, 1, 1] [.v (.pointer none), .v (.pointer none), .v (.pointer none), .v (.string ⟨#[]⟩)]⟩
theorem ok115 : EntryOk prog 115 te115 := entK Try.t115 Try.underlying115
def te116 : TE := ⟨.arr 0 16, 0, 0, .ar 1 []⟩
theorem ok116 : EntryOk prog 116 te116 := entK Try.t116 Try.underlying116
def te117 : TE := ⟨.struct [(0, 116)], 0, 0, .st [0] [.ar 1 []]⟩
theorem ok117 : EntryOk prog 117 te117 := entK Try.t117 Try.underlying117
def te118 : TE := ⟨.struct [(0, 116)], 0, 0, .st [0] [.ar 1 []]⟩
theorem ok118 : EntryOk prog 118 te118 := entK Try.t118 Try.underlying118
def te119 : TE := ⟨.int .u8, 1, 1, .v (.int .u8 0)⟩
theorem ok119 : EntryOk prog 119 te119 := entK Try.t119 Try.underlying119
def te120 : TE := ⟨.int .u8, 1, 1, .v (.int .u8 0)⟩
theorem ok120 : EntryOk prog 120 te120 := entK Try.t120 Try.underlying120
def te121 : TE := ⟨.other, 1, 8, .v .nilFunc⟩
theorem ok121 : EntryOk prog 121 te121 := entK Try.t121 Try.underlying121
def te122 : TE := ⟨.ptr 5, 1, 8, .v (.pointer none)⟩
theorem ok122 : EntryOk prog 122 te122 := entK Try.t122 Try.underlying122
def te123 : TE := ⟨.int .i32, 1, 4, .v (.int .i32 0)⟩
theorem ok123 : EntryOk prog 123 te123 := entK Try.t123 Try.underlying123
def te124 : TE := ⟨.int .i32, 1, 4, .v (.int .i32 0)⟩
theorem ok124 : EntryOk prog 124 te124 := entK Try.t124 Try.underlying124
def te125 : TE := ⟨.struct [(0, 12), (1, 12), (2, 106), (3, 119), (4, 5), (5, 5), (6, 120), (7, 121), (8, 122), (9, 123), (10, 124)], 11, 48, .st [1, 1, 1, 1, 1, 1, 1, 1, 1, 1, 1] [.v (.int .u64 0), .v (.int .u64 0), .v (.int .u32 0), .v (.int .u8 0), .v (.int .u8 0), .v (.int .u8 0), .v (.int .u8 0), .v .nilFunc, .v (.pointer none), .v (.int .i32 0), .v (.int .i32 0)]⟩
theorem ok125 : EntryOk prog 125 te125 := entK Try.t125 Try.underlying125
def te126 : TE := ⟨.struct [(0, 12), (1, 12), (2, 106), (3, 119), (4, 5), (5, 5), (6, 120), (7, 121), (8, 122), (9, 123), (10, 124)], 11, 48, .st [1, 1, 1, 1, 1, 1, 1, 1, 1, 1, 1] [.v (.int .u64 0), .v (.int .u64 0), .v (.int .u32 0), .v (.int .u8 0), .v (.int .u8 0), .v (.int .u8 0), .v (.int .u8 0), .v .nilFunc, .v (.pointer none), .v (.int .i32 0), .v (.int .i32 0)]⟩
theorem ok126 : EntryOk prog 126 te126 := entK Try.t126 Try.underlying126
def tab : Tab := [none, some te1, some te2, some te3, some te4, some te5, some te6, some te7, some te8, some te9, some te10, some te11, some te12, some te13, some te14, some te15, some te16, some te17, some te18, some te19, none, some te21, some te22, some te23, some te24, some te25, some te26, none, some te28, some te29, some te30, some te31, some te32, some te33, some te34, some te35, some te36, some te37, some te38, some te39, some te40, some te41, some te42, none, some te44, some te45, some te46, some te47, some te48, some te49, some te50, some te51, some te52, some te53, some te54, some te55, some te56, some te57, some te58, some te59, some te60, some te61, none, some te63, some te64, some te65, none, some te67, some te68, some te69, some te70, some te71, some te72, some te73, none, some te75, some te76, some te77, none, some te79, some te80, some te81, some te82, some te83, some te84, some te85, some te86, some te87, some te88, some te89, some te90, none, some te92, some te93, none, some te95, some te96, some te97, some te98, none, none, some te101, none, some te103, some te104, some te105, some te106, some te107, some te108, some te109, some te110, some te111, some te112, some te113, some te114, some te115, some te116, some te117, some te118, some te119, some te120, some te121, some te122, some te123, some te124, some te125, some te126, none]
def TabL (P : Program) : Nat → Tab → Prop
  | _, [] => True
  | k, some te :: T => EntryOk P k te ∧ TabL P (k + 1) T
  | k, none :: T => TabL P (k + 1) T
theorem TabL.get {P : Program} : ∀ (T : Tab) (k t : Nat) (te : TE), TabL P k T → tget T t = some te → EntryOk P (k + t) te
  | [], _, t, _, _, h => by simp [tget] at h
  | some te' :: T, k, 0, te, hl, h => by simp [tget] at h; subst h; exact hl.1
  | none :: T, k, 0, te, hl, h => by simp [tget] at h
  | some te' :: T, k, t + 1, te, hl, h => by
    have := TabL.get T (k + 1) t te hl.2 (by simpa [tget] using h)
    rwa [Nat.add_right_comm] at this
  | none :: T, k, t + 1, te, hl, h => by
    have := TabL.get T (k + 1) t te hl (by simpa [tget] using h)
    rwa [Nat.add_right_comm] at this
theorem tabOk : TabOk prog tab := fun t te h => by
  have := TabL.get (P := prog) tab 0 t te ⟨ok1, ok2, ok3, ok4, ok5, ok6, ok7, ok8, ok9, ok10, ok11, ok12, ok13, ok14, ok15, ok16, ok17, ok18, ok19, ok21, ok22, ok23, ok24, ok25, ok26, ok28, ok29, ok30, ok31, ok32, ok33, ok34, ok35, ok36, ok37, ok38, ok39, ok40, ok41, ok42, ok44, ok45, ok46, ok47, ok48, ok49, ok50, ok51, ok52, ok53, ok54, ok55, ok56, ok57, ok58, ok59, ok60, ok61, ok63, ok64, ok65, ok67, ok68, ok69, ok70, ok71, ok72, ok73, ok75, ok76, ok77, ok79, ok80, ok81, ok82, ok83, ok84, ok85, ok86, ok87, ok88, ok89, ok90, ok92, ok93, ok95, ok96, ok97, ok98, ok101, ok103, ok104, ok105, ok106, ok107, ok108, ok109, ok110, ok111, ok112, ok113, ok114, ok115, ok116, ok117, ok118, ok119, ok120, ok121, ok122, ok123, ok124, ok125, ok126, trivial⟩ h
  rwa [Nat.zero_add] at this
section
variable {ops : Array Oper} {cf : Oper → Bool} {K : AExit → St → Prop} {o : Oper} {rest : List Oper} {L : List (Nat × AV)} {O : List (Nat × Obj)} {d : Nat}
theorem pI {κ : IntKind} {i : Int} (h : opD tab ops L O o = some (d, .dat (.v (.int κ i)))) (k : AOps prog ops cf K rest (mkSt ((d, .dat (.v (.int κ i))) :: L) O)) : AOps prog ops cf K (o :: rest) (mkSt L O) := AOps.pD tabOk h k
theorem pB {i : Bool} (h : opD tab ops L O o = some (d, .dat (.v (.bool i)))) (k : AOps prog ops cf K rest (mkSt ((d, .dat (.v (.bool i))) :: L) O)) : AOps prog ops cf K (o :: rest) (mkSt L O) := AOps.pD tabOk h k
theorem pF {κ : FloatKind} {i : Nat} (h : opD tab ops L O o = some (d, .dat (.v (.float κ i)))) (k : AOps prog ops cf K rest (mkSt ((d, .dat (.v (.float κ i))) :: L) O)) : AOps prog ops cf K (o :: rest) (mkSt L O) := AOps.pD tabOk h k
theorem pS {E : TypeId} {sz : Nat} {xs : List DV} (h : opD tab ops L O o = some (d, .dat (.sl E sz xs))) (k : AOps prog ops cf K rest (mkSt ((d, .dat (.sl E sz xs)) :: L) O)) : AOps prog ops cf K (o :: rest) (mkSt L O) := AOps.pD tabOk h k
theorem pT {ns : List Nat} {xs : List DV} (h : opD tab ops L O o = some (d, .dat (.st ns xs))) (k : AOps prog ops cf K rest (mkSt ((d, .dat (.st ns xs)) :: L) O)) : AOps prog ops cf K (o :: rest) (mkSt L O) := AOps.pD tabOk h k
theorem pU {xs : List DV} (h : opD tab ops L O o = some (d, .dat (.tup xs))) (k : AOps prog ops cf K rest (mkSt ((d, .dat (.tup xs)) :: L) O)) : AOps prog ops cf K (o :: rest) (mkSt L O) := AOps.pD tabOk h k
theorem pP {id off : Nat} {p : List Pa} (h : opD tab ops L O o = some (d, .pt id p off)) (k : AOps prog ops cf K rest (mkSt ((d, .pt id p off) :: L) O)) : AOps prog ops cf K (o :: rest) (mkSt L O) := AOps.pD tabOk h k
theorem pO {id : Nat} (h : opD tab ops L O o = some (d, .oref id)) (k : AOps prog ops cf K rest (mkSt ((d, .oref id) :: L) O)) : AOps prog ops cf K (o :: rest) (mkSt L O) := AOps.pD tabOk h k
theorem pW {x : DV} (h : opD tab ops L O o = some (d, .dat x)) (k : AOps prog ops cf K rest (mkSt ((d, .dat x) :: L) O)) : AOps prog ops cf K (o :: rest) (mkSt L O) := AOps.pD tabOk h k
theorem dn {σ : St} (h : K .normal σ) : AOps prog ops cf K [] σ := h
theorem ff (h : dstX ops L o = some d) (k : AOps prog ops cf K rest (mkSt ((d, .dat (.tup [])) :: L) O)) : AOps prog ops cf K (o :: rest) (mkSt L O) := AOps.off (dstX_ok h).1 (dstX_ok h).2 k
theorem ai {κ : IntKind} {i j : Int} (e : i = j) (h : opD tab ops L O o = some (d, .dat (.v (.int κ i)))) (k : AOps prog ops cf K rest (mkSt ((d, .dat (.v (.int κ j))) :: L) O)) : AOps prog ops cf K (o :: rest) (mkSt L O) := AOps.i tabOk (opD_ok h).1 (opD_ok h).2.1 (opD_ok h).2.2 e k
theorem al {κ : IntKind} {i : Int} (j : Int) (h : opD tab ops L O o = some (d, .dat (.v (.int κ i)))) (k : AOps prog ops cf K rest (mkSt ((d, .dat (.v (.int κ j))) :: L) O)) (e : i = j := by first | (rw [List.length_map]; done) | rfl) : AOps prog ops cf K (o :: rest) (mkSt L O) := AOps.i tabOk (opD_ok h).1 (opD_ok h).2.1 (opD_ok h).2.2 e k
theorem ca {f : FuncId} {args : List Operand} {ats : Array TypeId} {xs : List DV} {y : DV} {fr : Bool} (hc : AFn prog f xs y fr) (ho : o.op = .call { callee := .value (.func f), args := args.toArray, argTypes := ats }) (ha : argsOk (mkSt L O) fr args xs)
    (hd : dstG ops L o = some d) (k : AOps prog ops cf K rest (mkSt ((d, .dat y) :: L) O)) : AOps prog ops cf K (o :: rest) (mkSt L O) := AOps.call hc (dstG_ok hd).1 (dstG_ok hd).2 ho ha k
theorem st {t : TypeId} {te : TE} {x y : Operand} {id : Nat} {p : List Pa} {off : Nat} {T' : TypeId} {sz : Nat} {c c' z v : AV} (k : AOps prog ops cf K rest (mkSt L ((id, .box T' sz c') :: O))) (ho : o.op = .store t x y := by exact rfl) (hcf : cf o = true := by exact rfl) (hd : o.dst = none := by exact rfl) (hg : gOn ops L o = true := by exact rfl)
    (ht : tget tab t = some te := by exact rfl) (hx : ev (mkSt L O) x = .pt id p off := by exact rfl) (hob : lookO O id = some (.box T' sz c) := by exact rfl) (hl : locA c p 0 = some (off, z) := by exact rfl) (hz : Nat.beq z.len te.size = true := by exact rfl)
    (hv : nilT tab t (ev (mkSt L O) y) = v := by exact rfl) (hy1 : v.lies = true := by exact rfl) (hy2 : Nat.beq v.len te.size = true := by exact rfl) (hp : putA c p v = some c' := by exact rfl) : AOps prog ops cf K (o :: rest) (mkSt L O) := AOps.store tabOk ho hcf hd hg ht hx hob hl hz hv hy1 hy2 hp k
theorem bx {E : TypeId} {x : Operand} {v : AV} (k : AOps prog ops cf K rest (mkSt ((d, .pt d [] 0) :: L) ((d, .box E v.len v) :: O))) (ho : o.op = .box E x := by exact rfl) (hd : o.dst = some d := by exact rfl) (hg : gOn ops L o = true := by exact rfl) (hv : ev (mkSt L O) x = v := by exact rfl) (hl : v.lies = true := by exact rfl)
    (hn : lookO O d = none := by exact rfl) : AOps prog ops cf K (o :: rest) (mkSt L O) := AOps.box ho hd hg hv hl hn k
theorem al0 {E : TypeId} {te : TE} (k : AOps prog ops cf K rest (mkSt ((d, .pt d [] 0) :: L) ((d, .box E te.size (.dat te.zero)) :: O))) (ho : o.op = .alloc E := by exact rfl) (hd : o.dst = some d := by exact rfl) (hg : gOn ops L o = true := by exact rfl) (ht : tget tab E = some te := by exact rfl)
    (hn : lookO O d = none := by exact rfl) : AOps prog ops cf K (o :: rest) (mkSt L O) := AOps.alloc tabOk ho hd hg ht hn k
theorem kC {α : Type} {f : FuncId} {args : List Operand} {ats : Array TypeId} {xs : List DV} {y : α → DV} {fr : Bool} {q : α → Prop} (h : Call (fun x => AFn prog f xs (y x) fr) q) (ho : o.op = .call { callee := .value (.func f), args := args.toArray, argTypes := ats }) (ha : argsOk (mkSt L O) fr args xs)
    (hd : dstG ops L o = some d) (k : ∀ z, q z → AOps prog ops cf K rest (mkSt ((d, .dat (y z)) :: L) O)) : AOps prog ops cf K (o :: rest) (mkSt L O) := by
  obtain ⟨z, h1, h2⟩ := h
  exact ca h1 ho ha hd (k z h2)
theorem kI {α : Type} {t E E' : TypeId} {te : TE} {x y : Operand} {κ : IntKind} {i : Int} {sz : Nat} {ys : List α} {xs : List DV} {e : α → DV} {q : α → Prop} (h : At ys i q) (g : ∀ {m : Nat} {z : α}, ys[m]? = some z → xs[m]? = some (e z)) (ho : o.op = .indexAddr t x y) (hd : dstG ops L o = some d) (hs : slE tab t = some (E, te))
    (hx : ev (mkSt L O) x = .dat (.sl E' sz xs)) (hsz : Nat.beq sz te.size = true) (hy : ev (mkSt L O) y = .dat (.v (.int κ i))) (hp : Nat.ble 1 te.size = true) (k : ∀ z, q z → AOps prog ops cf K rest (mkSt ((d, .sp (e z)) :: L) O)) : AOps prog ops cf K (o :: rest) (mkSt L O) := by
  obtain ⟨h0, z, h1, h2⟩ := h
  exact AOps.idx tabOk ho (dstG_ok hd).1 (dstG_ok hd).2 hs hx hsz hy hp h0 (g h1) (k z h2)
def offN (ops : Array Oper) : Nat → List Oper → List (Nat × AV) → Option (List Oper × List (Nat × AV))
  | 0, l, L => some (l, L)
  | n + 1, l, L => match l with
    | [] => none
    | o :: l => match dstX ops L o with
      | some d => offN ops n l ((d, .dat (.tup [])) :: L)
      | none => none
theorem fo {l rest : List Oper} {L' : List (Nat × AV)} (n : Nat) (h : offN ops n l L = some (rest, L')) (k : AOps prog ops cf K rest (mkSt L' O)) : AOps prog ops cf K l (mkSt L O) := by
  induction n generalizing l L with
  | zero => simp only [offN, Option.some.injEq, Prod.mk.injEq] at h; obtain ⟨rfl, rfl⟩ := h; exact k
  | succ n ih =>
    match l, h with
    | o :: l, h =>
      simp only [offN] at h
      split at h
      · rename_i d hd; exact ff hd (ih h)
      · cases h
theorem sB {l : List Oper} (i : Nat) {b : Bool} {A C : Prop} (h : Br b A C) (ht : A → AOps prog ops cf K l (mkSt ((i, .dat (.v (.bool true))) :: L) O)) (hf : C → AOps prog ops cf K l (mkSt ((i, .dat (.v (.bool false))) :: L) O)) (hl : look L i = .dat (.v (.bool b)) := by exact rfl) :
    AOps prog ops cf K l (mkSt L O) := AOps.splitB i hl (fun e => ht (h.1 e)) (fun e => hf (h.2 e))
end
theorem mixed : prog.follows .mixedOrders = true := rfl
section
variable {B : Nat → Nat → Prop} {n id : Nat} {σ : St} {Q : AExit → St → Prop} {ops : Array Oper} {y : Code}
theorem rN (h : AOps prog ops (fun _ => false) Q ops.toList σ) (hd : dstOk n ops.toList = true := by exact rfl) : AWp prog B n (.region id ops false) σ Q := AWp.regionN _ hd h
theorem rW (h : AOps prog ops (fun o => writes o) Q ops.toList σ) (hd : dstOk n ops.toList = true := by exact rfl) : AWp prog B n (.region id ops false) σ Q := AWp.regionN _ hd h
theorem rD (h : AOps prog ops (fun _ => false) Q ops.toList σ) (hB : lexA (fun _ => false) ops = true := by decide +kernel) (hd : dstOk n ops.toList = true := by exact rfl) : AWp prog B n (.region id ops true) σ Q := AWp.regionD _ mixed hB hd h
theorem sN (h : AOps prog ops (fun _ => false) (thenQ (fun σ' => AWp prog B n y σ' Q) Q) ops.toList σ) (hd : dstOk n ops.toList = true := by exact rfl) : AWp prog B n (.seq (.region id ops false) y) σ Q := AWp.seq (AWp.regionN _ hd h)
theorem sW (h : AOps prog ops (fun o => writes o) (thenQ (fun σ' => AWp prog B n y σ' Q) Q) ops.toList σ) (hd : dstOk n ops.toList = true := by exact rfl) : AWp prog B n (.seq (.region id ops false) y) σ Q := AWp.seq (AWp.regionN _ hd h)
theorem sD (h : AOps prog ops (fun _ => false) (thenQ (fun σ' => AWp prog B n y σ' Q) Q) ops.toList σ) (hB : lexA (fun _ => false) ops = true := by decide +kernel) (hd : dstOk n ops.toList = true := by exact rfl) : AWp prog B n (.seq (.region id ops true) y) σ Q := AWp.seq (AWp.regionD _ mixed hB hd h)
theorem cB {c : Operand} {x : Code} {b : Bool} {A C : Prop} (h : Br b A C) (ht : A → AWp prog B n x σ Q) (hf : C → AWp prog B n y σ Q) (hc : ev σ c = .dat (.v (.bool b)) := by exact rfl) : AWp prog B n (.cond c x y) σ Q := AWp.cond hc (fun e => ht (h.1 e)) (fun e => hf (h.2 e))
theorem intr {f : FuncId} {fn : Func} {c : Code} {xs : List DV} {r : DV} {m : Nat} {rs : List ResultVar} {L : List (Nat × AV)} (hf : prog.funcs[f]? = some fn) (hn : fn.ntmps = m) (hw : AWp prog NoB m c (mkSt L []) (outQ tab rs r)) (hb : fn.body = some c := by exact rfl)
    (hname : (fn.name == "runtime.NumGoroutine") = false := by exact rfl) (hr : fn.results.toList = rs := by exact rfl) (hl : Nat.ble xs.length m = true := by exact rfl) (hL : argL 0 xs = L := by exact rfl) (hnl : m ≤ 1000000 := by decide) : AFn prog f xs r false := AFn.intro' tabOk hf hb hname hn hr hl hL hw hnl
theorem rE {L : List (Nat × AV)} {O : List (Nat × Obj)} (own : List (Nat × List Nat)) (h : AOps prog ops (fun o => writes o) Q ops.toList (mkSt L O)) (hB : lexS own (fun o => writes o) ops = true := by decide +kernel) (hd : dstOk n ops.toList = true := by exact rfl) (hf : fixB own L = true := by exact rfl) :
    AWp prog B n (.region id ops true) (mkSt L O) Q := AWp.regionS own _ mixed hB hd (fix_of hf) h
end
end Go.Sim.Ytlkpbnhinnhlfaa
