/- What is proved: the table of the types that the program has. -/
import Derived.Test.YtnnfiohdkobkdaaGreatDoorProg
import Derived.Test.YtnnfiohdkobkdaaGreatDoorZZPLSimF
import Derived.Test.YtnnfiohdkobkdaaGreatDoorZZPLSimL

namespace Go.Sim.YtnnfiohdkobkdaaGreatDoor
open Go.RowKit Go.Proofs Go.Proofs.Tryz
set_option maxRecDepth 100000
theorem entK {t : TypeId} {te : TE} {d : TypeDesc} {z : Value} (i : TypeInfo) (h2 : prog.underlying t = some d) (h1 : prog.info? t = some i := by exact rfl) (h3 : te.d.ok d := by first | rfl | trivial | exact ⟨rfl, rfl⟩) (h4 : i.size = te.size := by exact rfl) (h5 : i.bytes = te.bytes := by exact rfl) (h6 : i.zero = some z := by exact rfl)
    (h7 : flat te.zero = some z.cells.toList := by exact rfl) (h8 : te.zero.agg = te.d.agg := by exact rfl) (h9 : aggOk te.d.agg z := by first | rfl | trivial) (h10 : te.zero.len = te.size := by exact rfl) : EntryOk prog t te := ⟨i, d, z, h1, h2, h3, h4, h5, h6, h7, h8, h9, h10⟩
def te1 : TE := ⟨.other, 1, 8, .v .nilFunc⟩
theorem ok1 : EntryOk prog 1 te1 := entK Tryz.t1 Tryz.underlying1
def te2 : TE := ⟨.int .i64, 1, 8, .v (.int .i64 0)⟩
theorem ok2 : EntryOk prog 2 te2 := entK Tryz.t2 Tryz.underlying2
def te3 : TE := ⟨.int .i64, 1, 8, .v (.int .i64 0)⟩
theorem ok3 : EntryOk prog 3 te3 := entK Tryz.t3 Tryz.underlying3
def te4 : TE := ⟨.bool, 1, 1, .v (.bool false)⟩
theorem ok4 : EntryOk prog 4 te4 := entK Tryz.t4 Tryz.underlying4
def te5 : TE := ⟨.int .u8, 1, 1, .v (.int .u8 0)⟩
theorem ok5 : EntryOk prog 5 te5 := entK Tryz.t5 Tryz.underlying5
def te6 : TE := ⟨.int .u8, 1, 1, .v (.int .u8 0)⟩
theorem ok6 : EntryOk prog 6 te6 := entK Tryz.t6 Tryz.underlying6
def te7 : TE := ⟨.struct [(0, 2), (1, 3), (2, 4), (3, 6)], 4, 24, .st [1, 1, 1, 1] [.v (.int .i64 0), .v (.int .i64 0), .v (.bool false), .v (.int .u8 0)]⟩
theorem ok7 : EntryOk prog 7 te7 := entK Tryz.t7 Tryz.underlying7
def te8 : TE := ⟨.struct [(0, 2), (1, 3), (2, 4), (3, 6)], 4, 24, .st [1, 1, 1, 1] [.v (.int .i64 0), .v (.int .i64 0), .v (.bool false), .v (.int .u8 0)]⟩
theorem ok8 : EntryOk prog 8 te8 := entK Tryz.t8 Tryz.underlying8
def te9 : TE := ⟨.str, 1, 16, .v (.string ⟨#[]⟩)⟩
theorem ok9 : EntryOk prog 9 te9 := entK Tryz.t9 Tryz.underlying9
def te10 : TE := ⟨.str, 1, 16, .v (.string ⟨#[]⟩)⟩
theorem ok10 : EntryOk prog 10 te10 := entK Tryz.t10 Tryz.underlying10
def te11 : TE := ⟨.str, 1, 16, .v (.string ⟨#[]⟩)⟩
theorem ok11 : EntryOk prog 11 te11 := entK Tryz.t11 Tryz.underlying11
def te12 : TE := ⟨.int .u64, 1, 8, .v (.int .u64 0)⟩
theorem ok12 : EntryOk prog 12 te12 := entK Tryz.t12 Tryz.underlying12
def te13 : TE := ⟨.struct [(0, 9), (1, 12)], 2, 24, .st [1, 1] [.v (.string ⟨#[]⟩), .v (.int .u64 0)]⟩
theorem ok13 : EntryOk prog 13 te13 := entK Tryz.t13 Tryz.underlying13
def te14 : TE := ⟨.struct [(0, 9), (1, 12)], 2, 24, .st [1, 1] [.v (.string ⟨#[]⟩), .v (.int .u64 0)]⟩
theorem ok14 : EntryOk prog 14 te14 := entK Tryz.t14 Tryz.underlying14
def te15 : TE := ⟨.ptr 241, 1, 8, .v (.pointer none)⟩
theorem ok15 : EntryOk prog 15 te15 := entK Tryz.t15 Tryz.underlying15
def te16 : TE := ⟨.ptr 244, 1, 8, .v (.pointer none)⟩
theorem ok16 : EntryOk prog 16 te16 := entK Tryz.t16 Tryz.underlying16
def te17 : TE := ⟨.ptr 251, 1, 8, .v (.pointer none)⟩
theorem ok17 : EntryOk prog 17 te17 := entK Tryz.t17 Tryz.underlying17
def te18 : TE := ⟨.struct [(0, 17)], 1, 8, .st [1] [.v (.pointer none)]⟩
theorem ok18 : EntryOk prog 18 te18 := entK Tryz.t18 Tryz.underlying18
def te19 : TE := ⟨.struct [(0, 17)], 1, 8, .st [1] [.v (.pointer none)]⟩
theorem ok19 : EntryOk prog 19 te19 := entK Tryz.t19 Tryz.underlying19
def te21 : TE := ⟨.int .i32, 1, 4, .v (.int .i32 0)⟩
theorem ok21 : EntryOk prog 21 te21 := entK Tryz.t21 Tryz.underlying21
def te22 : TE := ⟨.struct [(0, 2), (1, 2)], 2, 16, .st [1, 1] [.v (.int .i64 0), .v (.int .i64 0)]⟩
theorem ok22 : EntryOk prog 22 te22 := entK Tryz.t22 Tryz.underlying22
def te23 : TE := ⟨.struct [(0, 2), (1, 2)], 2, 16, .st [1, 1] [.v (.int .i64 0), .v (.int .i64 0)]⟩
theorem ok23 : EntryOk prog 23 te23 := entK Tryz.t23 Tryz.underlying23
def te24 : TE := ⟨.slice 26, 1, 24, .sl 26 9 []⟩
theorem ok24 : EntryOk prog 24 te24 := entK Tryz.t24 Tryz.underlying24
def te25 : TE := ⟨.struct [(0, 3), (1, 9), (2, 9), (3, 3), (4, 3), (5, 4), (6, 23), (8, 24)], 9, 104, .st [1, 1, 1, 1, 1, 1, 2, 1] [.v (.int .i64 0), .v (.string ⟨#[]⟩), .v (.string ⟨#[]⟩), .v (.int .i64 0), .v (.int .i64 0), .v (.bool false), .st [1, 1] [.v (.int .i64 0), .v (.int .i64 0)], .sl 26 9 []]⟩
theorem ok25 : EntryOk prog 25 te25 := entK Tryz.t25 Tryz.underlying25
def te26 : TE := ⟨.struct [(0, 3), (1, 9), (2, 9), (3, 3), (4, 3), (5, 4), (6, 23), (8, 24)], 9, 104, .st [1, 1, 1, 1, 1, 1, 2, 1] [.v (.int .i64 0), .v (.string ⟨#[]⟩), .v (.string ⟨#[]⟩), .v (.int .i64 0), .v (.int .i64 0), .v (.bool false), .st [1, 1] [.v (.int .i64 0), .v (.int .i64 0)], .sl 26 9 []]⟩
theorem ok26 : EntryOk prog 26 te26 := entK Tryz.t26 Tryz.underlying26
def te27 : TE := ⟨.int .i64, 1, 8, .v (.int .i64 0)⟩
theorem ok27 : EntryOk prog 27 te27 := entK Tryz.t27 Tryz.underlying27
def te28 : TE := ⟨.other, 1, 8, .v .nilFunc⟩
theorem ok28 : EntryOk prog 28 te28 := entK Tryz.t28 Tryz.underlying28
def te29 : TE := ⟨.other, 1, 8, .v .nilFunc⟩
theorem ok29 : EntryOk prog 29 te29 := entK Tryz.t29 Tryz.underlying29
def te31 : TE := ⟨.other, 1, 8, .v .nilFunc⟩
theorem ok31 : EntryOk prog 31 te31 := entK Tryz.t31 Tryz.underlying31
def te32 : TE := ⟨.other, 1, 8, .v .nilFunc⟩
theorem ok32 : EntryOk prog 32 te32 := entK Tryz.t32 Tryz.underlying32
def te33 : TE := ⟨.other, 1, 8, .v .nilFunc⟩
theorem ok33 : EntryOk prog 33 te33 := entK Tryz.t33 Tryz.underlying33
def te34 : TE := ⟨.other, 1, 8, .v .nilFunc⟩
theorem ok34 : EntryOk prog 34 te34 := entK Tryz.t34 Tryz.underlying34
def te35 : TE := ⟨.other, 1, 8, .v .nilFunc⟩
theorem ok35 : EntryOk prog 35 te35 := entK Tryz.t35 Tryz.underlying35
def te36 : TE := ⟨.slice 40, 1, 24, .sl 40 5 []⟩
theorem ok36 : EntryOk prog 36 te36 := entK Tryz.t36 Tryz.underlying36
def te38 : TE := ⟨.other, 1, 8, .v .nilFunc⟩
theorem ok38 : EntryOk prog 38 te38 := entK Tryz.t38 Tryz.underlying38
def te39 : TE := ⟨.struct [(0, 3), (1, 9), (2, 23), (4, 3)], 5, 48, .st [1, 1, 2, 1] [.v (.int .i64 0), .v (.string ⟨#[]⟩), .st [1, 1] [.v (.int .i64 0), .v (.int .i64 0)], .v (.int .i64 0)]⟩
theorem ok39 : EntryOk prog 39 te39 := entK Tryz.t39 Tryz.underlying39
def te40 : TE := ⟨.struct [(0, 3), (1, 9), (2, 23), (4, 3)], 5, 48, .st [1, 1, 2, 1] [.v (.int .i64 0), .v (.string ⟨#[]⟩), .st [1, 1] [.v (.int .i64 0), .v (.int .i64 0)], .v (.int .i64 0)]⟩
theorem ok40 : EntryOk prog 40 te40 := entK Tryz.t40 Tryz.underlying40
def te41 : TE := ⟨.slice 3, 1, 24, .sl 3 1 []⟩
theorem ok41 : EntryOk prog 41 te41 := entK Tryz.t41 Tryz.underlying41
def te42 : TE := ⟨.other, 1, 8, .v .nilFunc⟩
theorem ok42 : EntryOk prog 42 te42 := entK Tryz.t42 Tryz.underlying42
def te44 : TE := ⟨.other, 1, 8, .v .nilFunc⟩
theorem ok44 : EntryOk prog 44 te44 := entK Tryz.t44 Tryz.underlying44
def te45 : TE := ⟨.other, 1, 8, .v .nilFunc⟩
theorem ok45 : EntryOk prog 45 te45 := entK Tryz.t45 Tryz.underlying45
def te46 : TE := ⟨.other, 1, 8, .v .nilFunc⟩
theorem ok46 : EntryOk prog 46 te46 := entK Tryz.t46 Tryz.underlying46
def te47 : TE := ⟨.struct [(0, 27), (1, 3)], 2, 16, .st [1, 1] [.v (.int .i64 0), .v (.int .i64 0)]⟩
theorem ok47 : EntryOk prog 47 te47 := entK Tryz.t47 Tryz.underlying47
def te48 : TE := ⟨.struct [(0, 27), (1, 3)], 2, 16, .st [1, 1] [.v (.int .i64 0), .v (.int .i64 0)]⟩
theorem ok48 : EntryOk prog 48 te48 := entK Tryz.t48 Tryz.underlying48
def te49 : TE := ⟨.ptr 51, 1, 8, .v (.pointer none)⟩
theorem ok49 : EntryOk prog 49 te49 := entK Tryz.t49 Tryz.underlying49
def te50 : TE := ⟨.struct [(0, 36), (1, 3), (2, 3)], 3, 40, .st [1, 1, 1] [.sl 40 5 [], .v (.int .i64 0), .v (.int .i64 0)]⟩
theorem ok50 : EntryOk prog 50 te50 := entK Tryz.t50 Tryz.underlying50
def te51 : TE := ⟨.struct [(0, 36), (1, 3), (2, 3)], 3, 40, .st [1, 1, 1] [.sl 40 5 [], .v (.int .i64 0), .v (.int .i64 0)]⟩
theorem ok51 : EntryOk prog 51 te51 := entK Tryz.t51 Tryz.underlying51
def te52 : TE := ⟨.other, 1, 8, .v .nilFunc⟩
theorem ok52 : EntryOk prog 52 te52 := entK Tryz.t52 Tryz.underlying52
def te53 : TE := ⟨.ptr 55, 1, 8, .v (.pointer none)⟩
theorem ok53 : EntryOk prog 53 te53 := entK Tryz.t53 Tryz.underlying53
def te54 : TE := ⟨.struct [(0, 36), (1, 3), (2, 3), (3, 27), (4, 3)], 5, 56, .st [1, 1, 1, 1, 1] [.sl 40 5 [], .v (.int .i64 0), .v (.int .i64 0), .v (.int .i64 0), .v (.int .i64 0)]⟩
theorem ok54 : EntryOk prog 54 te54 := entK Tryz.t54 Tryz.underlying54
def te55 : TE := ⟨.struct [(0, 36), (1, 3), (2, 3), (3, 27), (4, 3)], 5, 56, .st [1, 1, 1, 1, 1] [.sl 40 5 [], .v (.int .i64 0), .v (.int .i64 0), .v (.int .i64 0), .v (.int .i64 0)]⟩
theorem ok55 : EntryOk prog 55 te55 := entK Tryz.t55 Tryz.underlying55
def te56 : TE := ⟨.flt .f64, 1, 8, .v (.float .f64 0)⟩
theorem ok56 : EntryOk prog 56 te56 := entK Tryz.t56 Tryz.underlying56
def te57 : TE := ⟨.other, 1, 8, .v .nilFunc⟩
theorem ok57 : EntryOk prog 57 te57 := entK Tryz.t57 Tryz.underlying57
def te58 : TE := ⟨.ptr 62, 1, 8, .v (.pointer none)⟩
theorem ok58 : EntryOk prog 58 te58 := entK Tryz.t58 Tryz.underlying58
def te59 : TE := ⟨.other, 1, 8, .v (.map none)⟩
theorem ok59 : EntryOk prog 59 te59 := entK Tryz.t59 Tryz.underlying59
def te60 : TE := ⟨.other, 1, 8, .v .nilFunc⟩
theorem ok60 : EntryOk prog 60 te60 := entK Tryz.t60 Tryz.underlying60
def te61 : TE := ⟨.struct [(0, 9), (1, 3), (2, 59)], 3, 32, .st [1, 1, 1] [.v (.string ⟨#[]⟩), .v (.int .i64 0), .v (.map none)]⟩
theorem ok61 : EntryOk prog 61 te61 := entK Tryz.t61 Tryz.underlying61
def te62 : TE := ⟨.struct [(0, 9), (1, 3), (2, 59)], 3, 32, .st [1, 1, 1] [.v (.string ⟨#[]⟩), .v (.int .i64 0), .v (.map none)]⟩
theorem ok62 : EntryOk prog 62 te62 := entK Tryz.t62 Tryz.underlying62
def te64 : TE := ⟨.other, 1, 8, .v .nilFunc⟩
theorem ok64 : EntryOk prog 64 te64 := entK Tryz.t64 Tryz.underlying64
def te65 : TE := ⟨.other, 1, 8, .v .nilFunc⟩
theorem ok65 : EntryOk prog 65 te65 := entK Tryz.t65 Tryz.underlying65
def te66 : TE := ⟨.other, 1, 8, .v .nilFunc⟩
theorem ok66 : EntryOk prog 66 te66 := entK Tryz.t66 Tryz.underlying66
def te67 : TE := ⟨.other, 1, 8, .v .nilFunc⟩
theorem ok67 : EntryOk prog 67 te67 := entK Tryz.t67 Tryz.underlying67
def te68 : TE := ⟨.other, 1, 8, .v .nilFunc⟩
theorem ok68 : EntryOk prog 68 te68 := entK Tryz.t68 Tryz.underlying68
def te69 : TE := ⟨.other, 1, 8, .v .nilFunc⟩
theorem ok69 : EntryOk prog 69 te69 := entK Tryz.t69 Tryz.underlying69
def te70 : TE := ⟨.other, 1, 8, .v .nilFunc⟩
theorem ok70 : EntryOk prog 70 te70 := entK Tryz.t70 Tryz.underlying70
def te71 : TE := ⟨.other, 1, 8, .v .nilFunc⟩
theorem ok71 : EntryOk prog 71 te71 := entK Tryz.t71 Tryz.underlying71
def te72 : TE := ⟨.other, 1, 8, .v .nilFunc⟩
theorem ok72 : EntryOk prog 72 te72 := entK Tryz.t72 Tryz.underlying72
def te73 : TE := ⟨.other, 1, 8, .v .nilFunc⟩
theorem ok73 : EntryOk prog 73 te73 := entK Tryz.t73 Tryz.underlying73
def te75 : TE := ⟨.other, 1, 8, .v .nilFunc⟩
theorem ok75 : EntryOk prog 75 te75 := entK Tryz.t75 Tryz.underlying75
def te76 : TE := ⟨.other, 1, 8, .v .nilFunc⟩
theorem ok76 : EntryOk prog 76 te76 := entK Tryz.t76 Tryz.underlying76
def te77 : TE := ⟨.other, 1, 8, .v .nilFunc⟩
theorem ok77 : EntryOk prog 77 te77 := entK Tryz.t77 Tryz.underlying77
def te78 : TE := ⟨.other, 1, 8, .v .nilFunc⟩
theorem ok78 : EntryOk prog 78 te78 := entK Tryz.t78 Tryz.underlying78
def te79 : TE := ⟨.other, 1, 8, .v .nilFunc⟩
theorem ok79 : EntryOk prog 79 te79 := entK Tryz.t79 Tryz.underlying79
def te80 : TE := ⟨.int .u64, 1, 8, .v (.int .u64 0)⟩
theorem ok80 : EntryOk prog 80 te80 := entK Tryz.t80 Tryz.underlying80
def te81 : TE := ⟨.other, 1, 8, .v .nilFunc⟩
theorem ok81 : EntryOk prog 81 te81 := entK Tryz.t81 Tryz.underlying81
def te82 : TE := ⟨.slice 9, 1, 24, .sl 9 1 []⟩
theorem ok82 : EntryOk prog 82 te82 := entK Tryz.t82 Tryz.underlying82
def te83 : TE := ⟨.other, 1, 8, .v .nilFunc⟩
theorem ok83 : EntryOk prog 83 te83 := entK Tryz.t83 Tryz.underlying83
def te84 : TE := ⟨.struct [], 0, 0, .st [] []⟩
theorem ok84 : EntryOk prog 84 te84 := entK Tryz.t84 Tryz.underlying84
def te85 : TE := ⟨.other, 1, 8, .v .nilFunc⟩
theorem ok85 : EntryOk prog 85 te85 := entK Tryz.t85 Tryz.underlying85
def te86 : TE := ⟨.other, 1, 8, .v .nilFunc⟩
theorem ok86 : EntryOk prog 86 te86 := entK Tryz.t86 Tryz.underlying86
def te87 : TE := ⟨.other, 1, 8, .v .nilFunc⟩
theorem ok87 : EntryOk prog 87 te87 := entK Tryz.t87 Tryz.underlying87
def te88 : TE := ⟨.other, 1, 8, .v .nilFunc⟩
theorem ok88 : EntryOk prog 88 te88 := entK Tryz.t88 Tryz.underlying88
def te89 : TE := ⟨.other, 1, 8, .v .nilFunc⟩
theorem ok89 : EntryOk prog 89 te89 := entK Tryz.t89 Tryz.underlying89
def te90 : TE := ⟨.other, 1, 8, .v .nilFunc⟩
theorem ok90 : EntryOk prog 90 te90 := entK Tryz.t90 Tryz.underlying90
def te91 : TE := ⟨.other, 1, 8, .v .nilFunc⟩
theorem ok91 : EntryOk prog 91 te91 := entK Tryz.t91 Tryz.underlying91
def te92 : TE := ⟨.other, 1, 8, .v .nilFunc⟩
theorem ok92 : EntryOk prog 92 te92 := entK Tryz.t92 Tryz.underlying92
def te93 : TE := ⟨.other, 1, 8, .v .nilFunc⟩
theorem ok93 : EntryOk prog 93 te93 := entK Tryz.t93 Tryz.underlying93
def te94 : TE := ⟨.other, 1, 8, .v .nilFunc⟩
theorem ok94 : EntryOk prog 94 te94 := entK Tryz.t94 Tryz.underlying94
def te95 : TE := ⟨.other, 1, 8, .v .nilFunc⟩
theorem ok95 : EntryOk prog 95 te95 := entK Tryz.t95 Tryz.underlying95
def te96 : TE := ⟨.other, 1, 8, .v .nilFunc⟩
theorem ok96 : EntryOk prog 96 te96 := entK Tryz.t96 Tryz.underlying96
def te97 : TE := ⟨.struct [(0, 9), (1, 3), (2, 3), (3, 3), (4, 9)], 5, 56, .st [1, 1, 1, 1, 1] [.v (.string ⟨#[]⟩), .v (.int .i64 0), .v (.int .i64 0), .v (.int .i64 0), .v (.string ⟨#[]⟩)]⟩
theorem ok97 : EntryOk prog 97 te97 := entK Tryz.t97 Tryz.underlying97
def te98 : TE := ⟨.struct [(0, 9), (1, 3), (2, 3), (3, 3), (4, 9)], 5, 56, .st [1, 1, 1, 1, 1] [.v (.string ⟨#[]⟩), .v (.int .i64 0), .v (.int .i64 0), .v (.int .i64 0), .v (.string ⟨#[]⟩)]⟩
theorem ok98 : EntryOk prog 98 te98 := entK Tryz.t98 Tryz.underlying98
def te100 : TE := ⟨.other, 1, 8, .v .nilFunc⟩
theorem ok100 : EntryOk prog 100 te100 := entK Tryz.t100 Tryz.underlying100
def te101 : TE := ⟨.other, 1, 8, .v .nilFunc⟩
theorem ok101 : EntryOk prog 101 te101 := entK Tryz.t101 Tryz.underlying101
def te102 : TE := ⟨.other, 1, 8, .v .nilFunc⟩
theorem ok102 : EntryOk prog 102 te102 := entK Tryz.t102 Tryz.underlying102
def te103 : TE := ⟨.other, 1, 8, .v .nilFunc⟩
theorem ok103 : EntryOk prog 103 te103 := entK Tryz.t103 Tryz.underlying103
def te104 : TE := ⟨.other, 1, 8, .v .nilFunc⟩
theorem ok104 : EntryOk prog 104 te104 := entK Tryz.t104 Tryz.underlying104
def te105 : TE := ⟨.other, 1, 8, .v .nilFunc⟩
theorem ok105 : EntryOk prog 105 te105 := entK Tryz.t105 Tryz.underlying105
def te109 : TE := ⟨.other, 1, 8, .v .nilFunc⟩
theorem ok109 : EntryOk prog 109 te109 := entK Tryz.t109 Tryz.underlying109
def te110 : TE := ⟨.slice 140, 1, 24, .sl 140 1 []⟩
theorem ok110 : EntryOk prog 110 te110 := entK Tryz.t110 Tryz.underlying110
def te111 : TE := ⟨.slice 140, 1, 24, .sl 140 1 []⟩
theorem ok111 : EntryOk prog 111 te111 := entK Tryz.t111 Tryz.underlying111
def te112 : TE := ⟨.other, 1, 8, .v .nilFunc⟩
theorem ok112 : EntryOk prog 112 te112 := entK Tryz.t112 Tryz.underlying112
def te113 : TE := ⟨.other, 1, 8, .v .nilFunc⟩
theorem ok113 : EntryOk prog 113 te113 := entK Tryz.t113 Tryz.underlying113
def te114 : TE := ⟨.other, 1, 8, .v .nilFunc⟩
theorem ok114 : EntryOk prog 114 te114 := entK Tryz.t114 Tryz.underlying114
def te115 : TE := ⟨.other, 1, 8, .v .nilFunc⟩
theorem ok115 : EntryOk prog 115 te115 := entK Tryz.t115 Tryz.underlying115
def te116 : TE := ⟨.other, 1, 8, .v .nilFunc⟩
theorem ok116 : EntryOk prog 116 te116 := entK Tryz.t116 Tryz.underlying116
def te117 : TE := ⟨.other, 1, 8, .v .nilFunc⟩
theorem ok117 : EntryOk prog 117 te117 := entK Tryz.t117 Tryz.underlying117
def te118 : TE := ⟨.slice 5, 1, 24, .sl 5 1 []⟩
theorem ok118 : EntryOk prog 118 te118 := entK Tryz.t118 Tryz.underlying118
def te119 : TE := ⟨.other, 1, 8, .v .nilFunc⟩
theorem ok119 : EntryOk prog 119 te119 := entK Tryz.t119 Tryz.underlying119
def te120 : TE := ⟨.other, 1, 8, .v .nilFunc⟩
theorem ok120 : EntryOk prog 120 te120 := entK Tryz.t120 Tryz.underlying120
def te121 : TE := ⟨.other, 1, 8, .v .nilFunc⟩
theorem ok121 : EntryOk prog 121 te121 := entK Tryz.t121 Tryz.underlying121
def te122 : TE := ⟨.arr 256 5, 256, 256, .ar 1 [.v (.int .u8 0), .v (.int .u8 0), .v (.int .u8 0), .v (.int .u8 0), .v (.int .u8 0), .v (.int .u8 0), .v (.int .u8 0), .v (.int .u8 0), .v (.int .u8 0), .v (.int .u8 0), .v (.int .u8 0), .v (.int .u8 0), .v (.int .u8 0), .v (.int .u8 0), .v (.int .u8 0), .v (.int .u8 0), .v (.int .u8 0), .v (.int .u8 0), .v (.int .u8 0), .v (.int .u8 0), .v (.int .u8 0), .v (.int .u8 0), .v (.int .u8 0), .v (.int .u8 0), .v (.int .u8 0), .v (.int .u8 0), .v (.int .u8 0), .v (.int .u8 0), .v (.int .u8 0), .v (.int .u8 0), .v (.int .u8 0), .v (.int .u8 0), .v (.int .u8 0), .v (.int .u8 0), .v (.int .u8 0), .v (.int .u8 0), .v (.int .u8 0), .v (.int .u8 0), .v (.int .u8 0), .v (.int .u8 0), .v (.int .u8 0), .v (.int .u8 0), .v (.int .u8 0), .v (.int .u8 0), .v (.int .u8 0), .v (.int .u8 0), .v (.int .u8 0), .v (.int .u8 0), .v (.int .u8 0), .v (.int .u8 0), .v (.int .u8 0), .v (.int .u8 0), .v (.int .u8 0), .v (.int .u8 0), .v (.int .u8 0), .v (.int .u8 0), .v (.int .u8 0), .v (.int .u8 0), .v (.int .u8 0), .v (.int .u8 0), .v (.int .u8 0), .v (.int .u8 0), .v (.int .u8 0), .v (.int .u8 0), .v (.int .u8 0), .v (.int .u8 0), .v (.int .u8 0), .v (.int .u8 0), .v (.int .u8 0), .v (.int .u8 0), .v (.int .u8 0), .v (.int .u8 0), .v (.int .u8 0), .v (.int .u8 0), .v (.int .u8 0), .v (.int .u8 0), .v (.int .u8 0), .v (.int .u8 0), .v (.int .u8 0), .v (.int .u8 0), .v (.int .u8 0), .v (.int .u8 0), .v (.int .u8 0), .v (.int .u8 0), .v (.int .u8 0), .v (.int .u8 0), .v (.int .u8 0), .v (.int .u8 0), .v (.int .u8 0), .v (.int .u8 0), .v (.int .u8 0), .v (.int .u8 0), .v (.int .u8 0), .v (.int .u8 0), .v (.int .u8 0), .v (.int .u8 0), .v (.int .u8 0), .v (.int .u8 0), .v (.int .u8 0), .v (.int .u8 0), .v (.int .u8 0), .v (.int .u8 0), .v (.int .u8 0), .v (.int .u8 0), .v (.int .u8 0), .v (.int .u8 0), .v (.int .u8 0), .v (.int .u8 0), .v (.int .u8 0), .v (.int .u8 0), .v (.int .u8 0), .v (.int .u8 0), .v (.int .u8 0), .v (.int .u8 0), .v (.int .u8 0), .v (.int .u8 0), .v (.int .u8 0), .v (.int .u8 0), .v (.int .u8 0), .v (.int .u8 0), .v (.int .u8 0), .v (.int .u8 0), .v (.int .u8 0), .v (.int .u8 0), .v (.int .u8 0), .v (.int .u8 0), .v (.int .u8 0), .v (.int .u8 0), .v (.int .u8 0), .v (.int .u8 0), .v (.int .u8 0), .v (.int .u8 0), .v (.int .u8 0), .v (.int .u8 0), .v (.int .u8 0), .v (.int .u8 0), .v (.int .u8 0), .v (.int .u8 0), .v (.int .u8 0), .v (.int .u8 0), .v (.int .u8 0), .v (.int .u8 0), .v (.int .u8 0), .v (.int .u8 0), .v (.int .u8 0), .v (.int .u8 0), .v (.int .u8 0), .v (.int .u8 0), .v (.int .u8 0), .v (.int .u8 0), .v (.int .u8 0), .v (.int .u8 0), .v (.int .u8 0), .v (.int .u8 0), .v (.int .u8 0), .v (.int .u8 0), .v (.int .u8 0), .v (.int .u8 0), .v (.int .u8 0), .v (.int .u8 0), .v (.int .u8 0), .v (.int .u8 0), .v (.int .u8 0), .v (.int .u8 0), .v (.int .u8 0), .v (.int .u8 0), .v (.int .u8 0), .v (.int .u8 0), .v (.int .u8 0), .v (.int .u8 0), .v (.int .u8 0), .v (.int .u8 0), .v (.int .u8 0), .v (.int .u8 0), .v (.int .u8 0), .v (.int .u8 0), .v (.int .u8 0), .v (.int .u8 0), .v (.int .u8 0), .v (.int .u8 0), .v (.int .u8 0), .v (.int .u8 0), .v (.int .u8 0), .v (.int .u8 0), .v (.int .u8 0), .v (.int .u8 0), .v (.int .u8 0), .v (.int .u8 0), .v (.int .u8 0), .v (.int .u8 0), .v (.int .u8 0), .v (.int .u8 0), .v (.int .u8 0), .v (.int .u8 0), .v (.int .u8 0), .v (.int .u8 0), .v (.int .u8 0), .v (.int .u8 0), .v (.int .u8 0), .v (.int .u8 0), .v (.int .u8 0), .v (.int .u8 0), .v (.int .u8 0), .v (.int .u8 0), .v (.int .u8 0), .v (.int .u8 0), .v (.int .u8 0), .v (.int .u8 0), .v (.int .u8 0), .v (.int .u8 0), .v (.int .u8 0), .v (.int .u8 0), .v (.int .u8 0), .v (.int .u8 0), .v (.int .u8 0), .v (.int .u8 0), .v (.int .u8 0), .v (.int .u8 0), .v (.int .u8 0), .v (.int .u8 0), .v (.int .u8 0), .v (.int .u8 0), .v (.int .u8 0), .v (.int .u8 0), .v (.int .u8 0), .v (.int .u8 0), .v (.int .u8 0), .v (.int .u8 0), .v (.int .u8 0), .v (.int .u8 0), .v (.int .u8 0), .v (.int .u8 0), .v (.int .u8 0), .v (.int .u8 0), .v (.int .u8 0), .v (.int .u8 0), .v (.int .u8 0), .v (.int .u8 0), .v (.int .u8 0), .v (.int .u8 0), .v (.int .u8 0), .v (.int .u8 0), .v (.int .u8 0), .v (.int .u8 0), .v (.int .u8 0), .v (.int .u8 0), .v (.int .u8 0), .v (.int .u8 0), .v (.int .u8 0), .v (.int .u8 0), .v (.int .u8 0), .v (.int .u8 0), .v (.int .u8 0), .v (.int .u8 0), .v (.int .u8 0), .v (.int .u8 0)]⟩
theorem ok122 : EntryOk prog 122 te122 := entK Tryz.t122 Tryz.underlying122
def te123 : TE := ⟨.other, 1, 8, .v .nilFunc⟩
theorem ok123 : EntryOk prog 123 te123 := entK Tryz.t123 Tryz.underlying123
def te124 : TE := ⟨.other, 1, 8, .v .nilFunc⟩
theorem ok124 : EntryOk prog 124 te124 := entK Tryz.t124 Tryz.underlying124
def te126 : TE := ⟨.other, 1, 8, .v .nilFunc⟩
theorem ok126 : EntryOk prog 126 te126 := entK Tryz.t126 Tryz.underlying126
def te127 : TE := ⟨.other, 1, 8, .v .nilFunc⟩
theorem ok127 : EntryOk prog 127 te127 := entK Tryz.t127 Tryz.underlying127
def te128 : TE := ⟨.other, 1, 8, .v .nilFunc⟩
theorem ok128 : EntryOk prog 128 te128 := entK Tryz.t128 Tryz.underlying128
def te129 : TE := ⟨.other, 1, 8, .v .nilFunc⟩
theorem ok129 : EntryOk prog 129 te129 := entK Tryz.t129 Tryz.underlying129
def te130 : TE := ⟨.other, 1, 8, .v .nilFunc⟩
theorem ok130 : EntryOk prog 130 te130 := entK Tryz.t130 Tryz.underlying130
def te131 : TE := ⟨.other, 1, 8, .v .nilFunc⟩
theorem ok131 : EntryOk prog 131 te131 := entK Tryz.t131 Tryz.underlying131
def te132 : TE := ⟨.slice 29, 1, 24, .sl 29 1 []⟩
theorem ok132 : EntryOk prog 132 te132 := entK Tryz.t132 Tryz.underlying132
def te133 : TE := ⟨.other, 1, 8, .v .nilFunc⟩
theorem ok133 : EntryOk prog 133 te133 := entK Tryz.t133 Tryz.underlying133
def te134 : TE := ⟨.other, 1, 8, .v .nilFunc⟩
theorem ok134 : EntryOk prog 134 te134 := entK Tryz.t134 Tryz.underlying134
def te135 : TE := ⟨.other, 1, 8, .v .nilFunc⟩
theorem ok135 : EntryOk prog 135 te135 := entK Tryz.t135 Tryz.underlying135
def te136 : TE := ⟨.other, 1, 8, .v .nilFunc⟩
theorem ok136 : EntryOk prog 136 te136 := entK Tryz.t136 Tryz.underlying136
def te137 : TE := ⟨.other, 1, 8, .v .nilFunc⟩
theorem ok137 : EntryOk prog 137 te137 := entK Tryz.t137 Tryz.underlying137
def te138 : TE := ⟨.other, 1, 8, .v .nilFunc⟩
theorem ok138 : EntryOk prog 138 te138 := entK Tryz.t138 Tryz.underlying138
def te139 : TE := ⟨.other, 1, 8, .v .nilFunc⟩
theorem ok139 : EntryOk prog 139 te139 := entK Tryz.t139 Tryz.underlying139
def te140 : TE := ⟨.int .u32, 1, 4, .v (.int .u32 0)⟩
theorem ok140 : EntryOk prog 140 te140 := entK Tryz.t140 Tryz.underlying140
def te141 : TE := ⟨.int .u64, 1, 8, .v (.int .u64 0)⟩
theorem ok141 : EntryOk prog 141 te141 := entK Tryz.t141 Tryz.underlying141
def te143 : TE := ⟨.other, 1, 8, .v .nilFunc⟩
theorem ok143 : EntryOk prog 143 te143 := entK Tryz.t143 Tryz.underlying143
def te144 : TE := ⟨.other, 1, 8, .v .nilFunc⟩
theorem ok144 : EntryOk prog 144 te144 := entK Tryz.t144 Tryz.underlying144
def te145 : TE := ⟨.slice 147, 1, 24, .sl 147 2 []⟩
theorem ok145 : EntryOk prog 145 te145 := entK Tryz.t145 Tryz.underlying145
def te146 : TE := ⟨.struct [(0, 3), (1, 3)], 2, 16, .st [1, 1] [.v (.int .i64 0), .v (.int .i64 0)]⟩
theorem ok146 : EntryOk prog 146 te146 := entK Tryz.t146 Tryz.underlying146
def te147 : TE := ⟨.struct [(0, 3), (1, 3)], 2, 16, .st [1, 1] [.v (.int .i64 0), .v (.int .i64 0)]⟩
theorem ok147 : EntryOk prog 147 te147 := entK Tryz.t147 Tryz.underlying147
def te148 : TE := ⟨.other, 1, 8, .v .nilFunc⟩
theorem ok148 : EntryOk prog 148 te148 := entK Tryz.t148 Tryz.underlying148
def te149 : TE := ⟨.ptr 175, 1, 8, .v (.pointer none)⟩
theorem ok149 : EntryOk prog 149 te149 := entK Tryz.t149 Tryz.underlying149
def te151 : TE := ⟨.other, 1, 8, .v .nilFunc⟩
theorem ok151 : EntryOk prog 151 te151 := entK Tryz.t151 Tryz.underlying151
def te152 : TE := ⟨.other, 1, 8, .v .nilFunc⟩
theorem ok152 : EntryOk prog 152 te152 := entK Tryz.t152 Tryz.underlying152
def te153 : TE := ⟨.other, 1, 8, .v .nilFunc⟩
theorem ok153 : EntryOk prog 153 te153 := entK Tryz.t153 Tryz.underlying153
def te154 : TE := ⟨.ptr 156, 1, 8, .v (.pointer none)⟩
theorem ok154 : EntryOk prog 154 te154 := entK Tryz.t154 Tryz.underlying154
def te155 : TE := ⟨.struct [(0, 154), (1, 118)], 2, 32, .st [1, 1] [.v (.pointer none), .sl 5 1 []]⟩
theorem ok155 : EntryOk prog 155 te155 := entK Tryz.t155 Tryz.underlying155
def te156 : TE := ⟨.struct [(0, 154), (1, 118)], 2, 32, .st [1, 1] [.v (.pointer none), .sl 5 1 []]⟩
theorem ok156 : EntryOk prog 156 te156 := entK Tryz.t156 Tryz.underlying156
def te157 : TE := ⟨.other, 1, 8, .v .nilFunc⟩
theorem ok157 : EntryOk prog 157 te157 := entK Tryz.t157 Tryz.underlying157
def te158 : TE := ⟨.other, 1, 8, .v .nilFunc⟩
theorem ok158 : EntryOk prog 158 te158 := entK Tryz.t158 Tryz.underlying158
def te159 : TE := ⟨.other, 1, 8, .v .nilFunc⟩
theorem ok159 : EntryOk prog 159 te159 := entK Tryz.t159 Tryz.underlying159
def te160 : TE := ⟨.other, 1, 8, .v .nilFunc⟩
theorem ok160 : EntryOk prog 160 te160 := entK Tryz.t160 Tryz.underlying160
def te161 : TE := ⟨.other, 1, 8, .v .nilFunc⟩
theorem ok161 : EntryOk prog 161 te161 := entK Tryz.t161 Tryz.underlying161
def te162 : TE := ⟨.other, 1, 8, .v .nilFunc⟩
theorem ok162 : EntryOk prog 162 te162 := entK Tryz.t162 Tryz.underlying162
def te163 : TE := ⟨.other, 1, 8, .v .nilFunc⟩
theorem ok163 : EntryOk prog 163 te163 := entK Tryz.t163 Tryz.underlying163
def te164 : TE := ⟨.other, 1, 8, .v .nilFunc⟩
theorem ok164 : EntryOk prog 164 te164 := entK Tryz.t164 Tryz.underlying164
def te165 : TE := ⟨.int .i64, 1, 8, .v (.int .i64 0)⟩
theorem ok165 : EntryOk prog 165 te165 := entK Tryz.t165 Tryz.underlying165
def te167 : TE := ⟨.other, 1, 8, .v .nilFunc⟩
theorem ok167 : EntryOk prog 167 te167 := entK Tryz.t167 Tryz.underlying167
def te168 : TE := ⟨.ptr 209, 1, 8, .v (.pointer none)⟩
theorem ok168 : EntryOk prog 168 te168 := entK Tryz.t168 Tryz.underlying168
def te169 : TE := ⟨.other, 1, 8, .v .nilFunc⟩
theorem ok169 : EntryOk prog 169 te169 := entK Tryz.t169 Tryz.underlying169
def te170 : TE := ⟨.other, 1, 8, .v .nilFunc⟩
theorem ok170 : EntryOk prog 170 te170 := entK Tryz.t170 Tryz.underlying170
def te171 : TE := ⟨.other, 1, 8, .v .nilFunc⟩
theorem ok171 : EntryOk prog 171 te171 := entK Tryz.t171 Tryz.underlying171
def te172 : TE := ⟨.slice 178, 1, 24, .sl 178 3 []⟩
theorem ok172 : EntryOk prog 172 te172 := entK Tryz.t172 Tryz.underlying172
def te173 : TE := ⟨.slice 181, 1, 24, .sl 181 3 []⟩
theorem ok173 : EntryOk prog 173 te173 := entK Tryz.t173 Tryz.underlying173
def te174 : TE := ⟨.struct [(0, 172), (1, 173), (2, 3)], 3, 56, .st [1, 1, 1] [.sl 178 3 [], .sl 181 3 [], .v (.int .i64 0)]⟩
theorem ok174 : EntryOk prog 174 te174 := entK Tryz.t174 Tryz.underlying174
def te175 : TE := ⟨.struct [(0, 172), (1, 173), (2, 3)], 3, 56, .st [1, 1, 1] [.sl 178 3 [], .sl 181 3 [], .v (.int .i64 0)]⟩
theorem ok175 : EntryOk prog 175 te175 := entK Tryz.t175 Tryz.underlying175
def te176 : TE := ⟨.int .u16, 1, 2, .v (.int .u16 0)⟩
theorem ok176 : EntryOk prog 176 te176 := entK Tryz.t176 Tryz.underlying176
def te177 : TE := ⟨.struct [(0, 176), (1, 176), (2, 176)], 3, 6, .st [1, 1, 1] [.v (.int .u16 0), .v (.int .u16 0), .v (.int .u16 0)]⟩
theorem ok177 : EntryOk prog 177 te177 := entK Tryz.t177 Tryz.underlying177
def te178 : TE := ⟨.struct [(0, 176), (1, 176), (2, 176)], 3, 6, .st [1, 1, 1] [.v (.int .u16 0), .v (.int .u16 0), .v (.int .u16 0)]⟩
theorem ok178 : EntryOk prog 178 te178 := entK Tryz.t178 Tryz.underlying178
def te179 : TE := ⟨.other, 1, 8, .v .nilFunc⟩
theorem ok179 : EntryOk prog 179 te179 := entK Tryz.t179 Tryz.underlying179
def te180 : TE := ⟨.struct [(0, 140), (1, 140), (2, 140)], 3, 12, .st [1, 1, 1] [.v (.int .u32 0), .v (.int .u32 0), .v (.int .u32 0)]⟩
theorem ok180 : EntryOk prog 180 te180 := entK Tryz.t180 Tryz.underlying180
def te181 : TE := ⟨.struct [(0, 140), (1, 140), (2, 140)], 3, 12, .st [1, 1, 1] [.v (.int .u32 0), .v (.int .u32 0), .v (.int .u32 0)]⟩
theorem ok181 : EntryOk prog 181 te181 := entK Tryz.t181 Tryz.underlying181
def te182 : TE := ⟨.other, 1, 8, .v .nilFunc⟩
theorem ok182 : EntryOk prog 182 te182 := entK Tryz.t182 Tryz.underlying182
def te184 : TE := ⟨.other, 1, 8, .v .nilFunc⟩
theorem ok184 : EntryOk prog 184 te184 := entK Tryz.t184 Tryz.underlying184
def te186 : TE := ⟨.other, 1, 8, .v .nilFunc⟩
theorem ok186 : EntryOk prog 186 te186 := entK Tryz.t186 Tryz.underlying186
def te187 : TE := ⟨.other, 1, 8, .v .nilFunc⟩
theorem ok187 : EntryOk prog 187 te187 := entK Tryz.t187 Tryz.underlying187
def te188 : TE := ⟨.arr 256 4, 256, 256, .ar 1 [.v (.bool false), .v (.bool false), .v (.bool false), .v (.bool false), .v (.bool false), .v (.bool false), .v (.bool false), .v (.bool false), .v (.bool false), .v (.bool false), .v (.bool false), .v (.bool false), .v (.bool false), .v (.bool false), .v (.bool false), .v (.bool false), .v (.bool false), .v (.bool false), .v (.bool false), .v (.bool false), .v (.bool false), .v (.bool false), .v (.bool false), .v (.bool false), .v (.bool false), .v (.bool false), .v (.bool false), .v (.bool false), .v (.bool false), .v (.bool false), .v (.bool false), .v (.bool false), .v (.bool false), .v (.bool false), .v (.bool false), .v (.bool false), .v (.bool false), .v (.bool false), .v (.bool false), .v (.bool false), .v (.bool false), .v (.bool false), .v (.bool false), .v (.bool false), .v (.bool false), .v (.bool false), .v (.bool false), .v (.bool false), .v (.bool false), .v (.bool false), .v (.bool false), .v (.bool false), .v (.bool false), .v (.bool false), .v (.bool false), .v (.bool false), .v (.bool false), .v (.bool false), .v (.bool false), .v (.bool false), .v (.bool false), .v (.bool false), .v (.bool false), .v (.bool false), .v (.bool false), .v (.bool false), .v (.bool false), .v (.bool false), .v (.bool false), .v (.bool false), .v (.bool false), .v (.bool false), .v (.bool false), .v (.bool false), .v (.bool false), .v (.bool false), .v (.bool false), .v (.bool false), .v (.bool false), .v (.bool false), .v (.bool false), .v (.bool false), .v (.bool false), .v (.bool false), .v (.bool false), .v (.bool false), .v (.bool false), .v (.bool false), .v (.bool false), .v (.bool false), .v (.bool false), .v (.bool false), .v (.bool false), .v (.bool false), .v (.bool false), .v (.bool false), .v (.bool false), .v (.bool false), .v (.bool false), .v (.bool false), .v (.bool false), .v (.bool false), .v (.bool false), .v (.bool false), .v (.bool false), .v (.bool false), .v (.bool false), .v (.bool false), .v (.bool false), .v (.bool false), .v (.bool false), .v (.bool false), .v (.bool false), .v (.bool false), .v (.bool false), .v (.bool false), .v (.bool false), .v (.bool false), .v (.bool false), .v (.bool false), .v (.bool false), .v (.bool false), .v (.bool false), .v (.bool false), .v (.bool false), .v (.bool false), .v (.bool false), .v (.bool false), .v (.bool false), .v (.bool false), .v (.bool false), .v (.bool false), .v (.bool false), .v (.bool false), .v (.bool false), .v (.bool false), .v (.bool false), .v (.bool false), .v (.bool false), .v (.bool false), .v (.bool false), .v (.bool false), .v (.bool false), .v (.bool false), .v (.bool false), .v (.bool false), .v (.bool false), .v (.bool false), .v (.bool false), .v (.bool false), .v (.bool false), .v (.bool false), .v (.bool false), .v (.bool false), .v (.bool false), .v (.bool false), .v (.bool false), .v (.bool false), .v (.bool false), .v (.bool false), .v (.bool false), .v (.bool false), .v (.bool false), .v (.bool false), .v (.bool false), .v (.bool false), .v (.bool false), .v (.bool false), .v (.bool false), .v (.bool false), .v (.bool false), .v (.bool false), .v (.bool false), .v (.bool false), .v (.bool false), .v (.bool false), .v (.bool false), .v (.bool false), .v (.bool false), .v (.bool false), .v (.bool false), .v (.bool false), .v (.bool false), .v (.bool false), .v (.bool false), .v (.bool false), .v (.bool false), .v (.bool false), .v (.bool false), .v (.bool false), .v (.bool false), .v (.bool false), .v (.bool false), .v (.bool false), .v (.bool false), .v (.bool false), .v (.bool false), .v (.bool false), .v (.bool false), .v (.bool false), .v (.bool false), .v (.bool false), .v (.bool false), .v (.bool false), .v (.bool false), .v (.bool false), .v (.bool false), .v (.bool false), .v (.bool false), .v (.bool false), .v (.bool false), .v (.bool false), .v (.bool false), .v (.bool false), .v (.bool false), .v (.bool false), .v (.bool false), .v (.bool false), .v (.bool false), .v (.bool false), .v (.bool false), .v (.bool false), .v (.bool false), .v (.bool false), .v (.bool false), .v (.bool false), .v (.bool false), .v (.bool false), .v (.bool false), .v (.bool false), .v (.bool false), .v (.bool false), .v (.bool false), .v (.bool false), .v (.bool false), .v (.bool false), .v (.bool false), .v (.bool false), .v (.bool false), .v (.bool false), .v (.bool false), .v (.bool false), .v (.bool false), .v (.bool false), .v (.bool false), .v (.bool false), .v (.bool false), .v (.bool false), .v (.bool false), .v (.bool false), .v (.bool false), .v (.bool false), .v (.bool false), .v (.bool false), .v (.bool false), .v (.bool false)]⟩
theorem ok188 : EntryOk prog 188 te188 := entK Tryz.t188 Tryz.underlying188
def te189 : TE := ⟨.arr 256 4, 256, 256, .ar 1 [.v (.bool false), .v (.bool false), .v (.bool false), .v (.bool false), .v (.bool false), .v (.bool false), .v (.bool false), .v (.bool false), .v (.bool false), .v (.bool false), .v (.bool false), .v (.bool false), .v (.bool false), .v (.bool false), .v (.bool false), .v (.bool false), .v (.bool false), .v (.bool false), .v (.bool false), .v (.bool false), .v (.bool false), .v (.bool false), .v (.bool false), .v (.bool false), .v (.bool false), .v (.bool false), .v (.bool false), .v (.bool false), .v (.bool false), .v (.bool false), .v (.bool false), .v (.bool false), .v (.bool false), .v (.bool false), .v (.bool false), .v (.bool false), .v (.bool false), .v (.bool false), .v (.bool false), .v (.bool false), .v (.bool false), .v (.bool false), .v (.bool false), .v (.bool false), .v (.bool false), .v (.bool false), .v (.bool false), .v (.bool false), .v (.bool false), .v (.bool false), .v (.bool false), .v (.bool false), .v (.bool false), .v (.bool false), .v (.bool false), .v (.bool false), .v (.bool false), .v (.bool false), .v (.bool false), .v (.bool false), .v (.bool false), .v (.bool false), .v (.bool false), .v (.bool false), .v (.bool false), .v (.bool false), .v (.bool false), .v (.bool false), .v (.bool false), .v (.bool false), .v (.bool false), .v (.bool false), .v (.bool false), .v (.bool false), .v (.bool false), .v (.bool false), .v (.bool false), .v (.bool false), .v (.bool false), .v (.bool false), .v (.bool false), .v (.bool false), .v (.bool false), .v (.bool false), .v (.bool false), .v (.bool false), .v (.bool false), .v (.bool false), .v (.bool false), .v (.bool false), .v (.bool false), .v (.bool false), .v (.bool false), .v (.bool false), .v (.bool false), .v (.bool false), .v (.bool false), .v (.bool false), .v (.bool false), .v (.bool false), .v (.bool false), .v (.bool false), .v (.bool false), .v (.bool false), .v (.bool false), .v (.bool false), .v (.bool false), .v (.bool false), .v (.bool false), .v (.bool false), .v (.bool false), .v (.bool false), .v (.bool false), .v (.bool false), .v (.bool false), .v (.bool false), .v (.bool false), .v (.bool false), .v (.bool false), .v (.bool false), .v (.bool false), .v (.bool false), .v (.bool false), .v (.bool false), .v (.bool false), .v (.bool false), .v (.bool false), .v (.bool false), .v (.bool false), .v (.bool false), .v (.bool false), .v (.bool false), .v (.bool false), .v (.bool false), .v (.bool false), .v (.bool false), .v (.bool false), .v (.bool false), .v (.bool false), .v (.bool false), .v (.bool false), .v (.bool false), .v (.bool false), .v (.bool false), .v (.bool false), .v (.bool false), .v (.bool false), .v (.bool false), .v (.bool false), .v (.bool false), .v (.bool false), .v (.bool false), .v (.bool false), .v (.bool false), .v (.bool false), .v (.bool false), .v (.bool false), .v (.bool false), .v (.bool false), .v (.bool false), .v (.bool false), .v (.bool false), .v (.bool false), .v (.bool false), .v (.bool false), .v (.bool false), .v (.bool false), .v (.bool false), .v (.bool false), .v (.bool false), .v (.bool false), .v (.bool false), .v (.bool false), .v (.bool false), .v (.bool false), .v (.bool false), .v (.bool false), .v (.bool false), .v (.bool false), .v (.bool false), .v (.bool false), .v (.bool false), .v (.bool false), .v (.bool false), .v (.bool false), .v (.bool false), .v (.bool false), .v (.bool false), .v (.bool false), .v (.bool false), .v (.bool false), .v (.bool false), .v (.bool false), .v (.bool false), .v (.bool false), .v (.bool false), .v (.bool false), .v (.bool false), .v (.bool false), .v (.bool false), .v (.bool false), .v (.bool false), .v (.bool false), .v (.bool false), .v (.bool false), .v (.bool false), .v (.bool false), .v (.bool false), .v (.bool false), .v (.bool false), .v (.bool false), .v (.bool false), .v (.bool false), .v (.bool false), .v (.bool false), .v (.bool false), .v (.bool false), .v (.bool false), .v (.bool false), .v (.bool false), .v (.bool false), .v (.bool false), .v (.bool false), .v (.bool false), .v (.bool false), .v (.bool false), .v (.bool false), .v (.bool false), .v (.bool false), .v (.bool false), .v (.bool false), .v (.bool false), .v (.bool false), .v (.bool false), .v (.bool false), .v (.bool false), .v (.bool false), .v (.bool false), .v (.bool false), .v (.bool false), .v (.bool false), .v (.bool false), .v (.bool false), .v (.bool false), .v (.bool false), .v (.bool false), .v (.bool false), .v (.bool false), .v (.bool false), .v (.bool false), .v (.bool false), .v (.bool false), .v (.bool false), .v (.bool false), .v (.bool false), .v (.bool false)]⟩
theorem ok189 : EntryOk prog 189 te189 := entK Tryz.t189 Tryz.underlying189
def te191 : TE := ⟨.other, 1, 8, .v .nilFunc⟩
theorem ok191 : EntryOk prog 191 te191 := entK Tryz.t191 Tryz.underlying191
def te192 : TE := ⟨.other, 1, 8, .v .nilFunc⟩
theorem ok192 : EntryOk prog 192 te192 := entK Tryz.t192 Tryz.underlying192
def te193 : TE := ⟨.ptr 189, 1, 8, .v (.pointer none)⟩
theorem ok193 : EntryOk prog 193 te193 := entK Tryz.t193 Tryz.underlying193
def te194 : TE := ⟨.other, 1, 8, .v .nilFunc⟩
theorem ok194 : EntryOk prog 194 te194 := entK Tryz.t194 Tryz.underlying194
def te196 : TE := ⟨.other, 1, 8, .v .nilFunc⟩
theorem ok196 : EntryOk prog 196 te196 := entK Tryz.t196 Tryz.underlying196
def te198 : TE := ⟨.other, 1, 8, .v .nilFunc⟩
theorem ok198 : EntryOk prog 198 te198 := entK Tryz.t198 Tryz.underlying198
def te199 : TE := ⟨.other, 1, 8, .v .nilFunc⟩
theorem ok199 : EntryOk prog 199 te199 := entK Tryz.t199 Tryz.underlying199
def te200 : TE := ⟨.ptr 5, 1, 8, .v (.pointer none)⟩
theorem ok200 : EntryOk prog 200 te200 := entK Tryz.t200 Tryz.underlying200
def te201 : TE := ⟨.arr 24 5, 24, 24, .ar 1 [.v (.int .u8 0), .v (.int .u8 0), .v (.int .u8 0), .v (.int .u8 0), .v (.int .u8 0), .v (.int .u8 0), .v (.int .u8 0), .v (.int .u8 0), .v (.int .u8 0), .v (.int .u8 0), .v (.int .u8 0), .v (.int .u8 0), .v (.int .u8 0), .v (.int .u8 0), .v (.int .u8 0), .v (.int .u8 0), .v (.int .u8 0), .v (.int .u8 0), .v (.int .u8 0), .v (.int .u8 0), .v (.int .u8 0), .v (.int .u8 0), .v (.int .u8 0), .v (.int .u8 0)]⟩
theorem ok201 : EntryOk prog 201 te201 := entK Tryz.t201 Tryz.underlying201
def te202 : TE := ⟨.other, 1, 8, .v .nilFunc⟩
theorem ok202 : EntryOk prog 202 te202 := entK Tryz.t202 Tryz.underlying202
def te204 : TE := ⟨.other, 1, 8, .v .nilFunc⟩
theorem ok204 : EntryOk prog 204 te204 := entK Tryz.t204 Tryz.underlying204
def te206 : TE := ⟨.other, 1, 8, .v .nilFunc⟩
theorem ok206 : EntryOk prog 206 te206 := entK Tryz.t206 Tryz.underlying206
def te207 : TE := ⟨.other, 1, 8, .v .nilFunc⟩
theorem ok207 : EntryOk prog 207 te207 := entK Tryz.t207 Tryz.underlying207
def te210 : TE := ⟨.other, 1, 8, .v .nilFunc⟩
theorem ok210 : EntryOk prog 210 te210 := entK Tryz.t210 Tryz.underlying210
def te211 : TE := ⟨.ptr 178, 1, 8, .v (.pointer none)⟩
theorem ok211 : EntryOk prog 211 te211 := entK Tryz.t211 Tryz.underlying211
def te212 : TE := ⟨.ptr 181, 1, 8, .v (.pointer none)⟩
theorem ok212 : EntryOk prog 212 te212 := entK Tryz.t212 Tryz.underlying212
def te214 : TE := ⟨.other, 1, 8, .v .nilFunc⟩
theorem ok214 : EntryOk prog 214 te214 := entK Tryz.t214 Tryz.underlying214
def te215 : TE := ⟨.other, 1, 8, .v .nilFunc⟩
theorem ok215 : EntryOk prog 215 te215 := entK Tryz.t215 Tryz.underlying215
def te217 : TE := ⟨.other, 1, 8, .v .nilFunc⟩
theorem ok217 : EntryOk prog 217 te217 := entK Tryz.t217 Tryz.underlying217
def te218 : TE := ⟨.other, 1, 8, .v .nilFunc⟩
theorem ok218 : EntryOk prog 218 te218 := entK Tryz.t218 Tryz.underlying218
def te219 : TE := ⟨.other, 1, 8, .v .nilFunc⟩
theorem ok219 : EntryOk prog 219 te219 := entK Tryz.t219 Tryz.underlying219
def te220 : TE := ⟨.other, 1, 8, .v .nilFunc⟩
theorem ok220 : EntryOk prog 220 te220 := entK Tryz.t220 Tryz.underlying220
def te221 : TE := ⟨.arr 20 80, 20, 160, .ar 1 [.v (.int .u64 0), .v (.int .u64 0), .v (.int .u64 0), .v (.int .u64 0), .v (.int .u64 0), .v (.int .u64 0), .v (.int .u64 0), .v (.int .u64 0), .v (.int .u64 0), .v (.int .u64 0), .v (.int .u64 0), .v (.int .u64 0), .v (.int .u64 0), .v (.int .u64 0), .v (.int .u64 0), .v (.int .u64 0), .v (.int .u64 0), .v (.int .u64 0), .v (.int .u64 0), .v (.int .u64 0)]⟩
theorem ok221 : EntryOk prog 221 te221 := entK Tryz.t221 Tryz.underlying221
def te222 : TE := ⟨.arr 65 5, 65, 65, .ar 1 [.v (.int .u8 0), .v (.int .u8 0), .v (.int .u8 0), .v (.int .u8 0), .v (.int .u8 0), .v (.int .u8 0), .v (.int .u8 0), .v (.int .u8 0), .v (.int .u8 0), .v (.int .u8 0), .v (.int .u8 0), .v (.int .u8 0), .v (.int .u8 0), .v (.int .u8 0), .v (.int .u8 0), .v (.int .u8 0), .v (.int .u8 0), .v (.int .u8 0), .v (.int .u8 0), .v (.int .u8 0), .v (.int .u8 0), .v (.int .u8 0), .v (.int .u8 0), .v (.int .u8 0), .v (.int .u8 0), .v (.int .u8 0), .v (.int .u8 0), .v (.int .u8 0), .v (.int .u8 0), .v (.int .u8 0), .v (.int .u8 0), .v (.int .u8 0), .v (.int .u8 0), .v (.int .u8 0), .v (.int .u8 0), .v (.int .u8 0), .v (.int .u8 0), .v (.int .u8 0), .v (.int .u8 0), .v (.int .u8 0), .v (.int .u8 0), .v (.int .u8 0), .v (.int .u8 0), .v (.int .u8 0), .v (.int .u8 0), .v (.int .u8 0), .v (.int .u8 0), .v (.int .u8 0), .v (.int .u8 0), .v (.int .u8 0), .v (.int .u8 0), .v (.int .u8 0), .v (.int .u8 0), .v (.int .u8 0), .v (.int .u8 0), .v (.int .u8 0), .v (.int .u8 0), .v (.int .u8 0), .v (.int .u8 0), .v (.int .u8 0), .v (.int .u8 0), .v (.int .u8 0), .v (.int .u8 0), .v (.int .u8 0), .v (.int .u8 0)]⟩
theorem ok222 : EntryOk prog 222 te222 := entK Tryz.t222 Tryz.underlying222
def te223 : TE := ⟨.other, 1, 8, .v .nilFunc⟩
theorem ok223 : EntryOk prog 223 te223 := entK Tryz.t223 Tryz.underlying223
def te225 : TE := ⟨.other, 1, 8, .v .nilFunc⟩
theorem ok225 : EntryOk prog 225 te225 := entK Tryz.t225 Tryz.underlying225
def te226 : TE := ⟨.other, 1, 8, .v .nilFunc⟩
theorem ok226 : EntryOk prog 226 te226 := entK Tryz.t226 Tryz.underlying226
def te227 : TE := ⟨.ptr 229, 1, 8, .v (.pointer none)⟩
theorem ok227 : EntryOk prog 227 te227 := entK Tryz.t227 Tryz.underlying227
def te228 : TE := ⟨.struct [(0, 9)], 1, 16, .st [1] [.v (.string ⟨#[]⟩)]⟩
theorem ok228 : EntryOk prog 228 te228 := entK Tryz.t228 Tryz.underlying228
def te229 : TE := ⟨.struct [(0, 9)], 1, 16, .st [1] [.v (.string ⟨#[]⟩)]⟩
theorem ok229 : EntryOk prog 229 te229 := entK Tryz.t229 Tryz.underlying229
def te230 : TE := ⟨.other, 1, 8, .v .nilFunc⟩
theorem ok230 : EntryOk prog 230 te230 := entK Tryz.t230 Tryz.underlying230
def te231 : TE := ⟨.other, 1, 8, .v .nilFunc⟩
theorem ok231 : EntryOk prog 231 te231 := entK Tryz.t231 Tryz.underlying231
def te232 : TE := ⟨.other, 1, 8, .v .nilFunc⟩
theorem ok232 : EntryOk prog 232 te232 := entK Tryz.t232 Tryz.underlying232
def te233 : TE := ⟨.other, 1, 8, .v .nilFunc⟩
theorem ok233 : EntryOk prog 233 te233 := entK Tryz.t233 Tryz.underlying233
def te234 : TE := ⟨.struct [(0, 5), (1, 5)], 2, 2, .st [1, 1] [.v (.int .u8 0), .v (.int .u8 0)]⟩
theorem ok234 : EntryOk prog 234 te234 := entK Tryz.t234 Tryz.underlying234
def te235 : TE := ⟨.struct [(0, 5), (1, 5)], 2, 2, .st [1, 1] [.v (.int .u8 0), .v (.int .u8 0)]⟩
theorem ok235 : EntryOk prog 235 te235 := entK Tryz.t235 Tryz.underlying235
def te236 : TE := ⟨.arr 16 235, 32, 32, .ar 2 [.st [1, 1] [.v (.int .u8 0), .v (.int .u8 0)], .st [1, 1] [.v (.int .u8 0), .v (.int .u8 0)], .st [1, 1] [.v (.int .u8 0), .v (.int .u8 0)], .st [1, 1] [.v (.int .u8 0), .v (.int .u8 0)], .st [1, 1] [.v (.int .u8 0), .v (.int .u8 0)], .st [1, 1] [.v (.int .u8 0), .v (.int .u8 0)], .st [1, 1] [.v (.int .u8 0), .v (.int .u8 0)], .st [1, 1] [.v (.int .u8 0), .v (.int .u8 0)], .st [1, 1] [.v (.int .u8 0), .v (.int .u8 0)], .st [1, 1] [.v (.int .u8 0), .v (.int .u8 0)], .st [1, 1] [.v (.int .u8 0), .v (.int .u8 0)], .st [1, 1] [.v (.int .u8 0), .v (.int .u8 0)], .st [1, 1] [.v (.int .u8 0), .v (.int .u8 0)], .st [1, 1] [.v (.int .u8 0), .v (.int .u8 0)], .st [1, 1] [.v (.int .u8 0), .v (.int .u8 0)], .st [1, 1] [.v (.int .u8 0), .v (.int .u8 0)]]⟩
theorem ok236 : EntryOk prog 236 te236 := entK Tryz.t236 Tryz.underlying236
def te237 : TE := ⟨.other, 1, 8, .v .nilFunc⟩
theorem ok237 : EntryOk prog 237 te237 := entK Tryz.t237 Tryz.underlying237
def te238 : TE := ⟨.arr 32 5, 32, 32, .ar 1 [.v (.int .u8 0), .v (.int .u8 0), .v (.int .u8 0), .v (.int .u8 0), .v (.int .u8 0), .v (.int .u8 0), .v (.int .u8 0), .v (.int .u8 0), .v (.int .u8 0), .v (.int .u8 0), .v (.int .u8 0), .v (.int .u8 0), .v (.int .u8 0), .v (.int .u8 0), .v (.int .u8 0), .v (.int .u8 0), .v (.int .u8 0), .v (.int .u8 0), .v (.int .u8 0), .v (.int .u8 0), .v (.int .u8 0), .v (.int .u8 0), .v (.int .u8 0), .v (.int .u8 0), .v (.int .u8 0), .v (.int .u8 0), .v (.int .u8 0), .v (.int .u8 0), .v (.int .u8 0), .v (.int .u8 0), .v (.int .u8 0), .v (.int .u8 0)]⟩
theorem ok238 : EntryOk prog 238 te238 := entK Tryz.t238 Tryz.underlying238
def te239 : TE := ⟨.arr 64 5, 64, 64, .ar 1 [.v (.int .u8 0), .v (.int .u8 0), .v (.int .u8 0), .v (.int .u8 0), .v (.int .u8 0), .v (.int .u8 0), .v (.int .u8 0), .v (.int .u8 0), .v (.int .u8 0), .v (.int .u8 0), .v (.int .u8 0), .v (.int .u8 0), .v (.int .u8 0), .v (.int .u8 0), .v (.int .u8 0), .v (.int .u8 0), .v (.int .u8 0), .v (.int .u8 0), .v (.int .u8 0), .v (.int .u8 0), .v (.int .u8 0), .v (.int .u8 0), .v (.int .u8 0), .v (.int .u8 0), .v (.int .u8 0), .v (.int .u8 0), .v (.int .u8 0), .v (.int .u8 0), .v (.int .u8 0), .v (.int .u8 0), .v (.int .u8 0), .v (.int .u8 0), .v (.int .u8 0), .v (.int .u8 0), .v (.int .u8 0), .v (.int .u8 0), .v (.int .u8 0), .v (.int .u8 0), .v (.int .u8 0), .v (.int .u8 0), .v (.int .u8 0), .v (.int .u8 0), .v (.int .u8 0), .v (.int .u8 0), .v (.int .u8 0), .v (.int .u8 0), .v (.int .u8 0), .v (.int .u8 0), .v (.int .u8 0), .v (.int .u8 0), .v (.int .u8 0), .v (.int .u8 0), .v (.int .u8 0), .v (.int .u8 0), .v (.int .u8 0), .v (.int .u8 0), .v (.int .u8 0), .v (.int .u8 0), .v (.int .u8 0), .v (.int .u8 0), .v (.int .u8 0), .v (.int .u8 0), .v (.int .u8 0), .v (.int .u8 0)]⟩
theorem ok239 : EntryOk prog 239 te239 := entK Tryz.t239 Tryz.underlying239
def te240 : TE := ⟨.struct [(0, 17), (1, 17), (2, 17), (3, 9)], 4, 40, .st [1, 1, 1, 1] [.v (.pointer none), .v (.pointer none), .v (.pointer none), .v (.string ⟨#[]⟩)]⟩
theorem ok240 : EntryOk prog 240 te240 := entK Tryz.t240 Tryz.underlying240
def te241 : TE := ⟨.struct [(0, 17), (1, 17), (2, 17), (3, 9)], 4, 40, .st [1, 1, 1, 1] [.v (.pointer none), .v (.pointer none), .v (.pointer none), .v (.string ⟨#[]⟩)]⟩
theorem ok241 : EntryOk prog 241 te241 := entK Tryz.t241 Tryz.underlying241
def te242 : TE := ⟨.arr 0 16, 0, 0, .ar 1 []⟩
theorem ok242 : EntryOk prog 242 te242 := entK Tryz.t242 Tryz.underlying242
def te243 : TE := ⟨.struct [(0, 242)], 0, 0, .st [0] [.ar 1 []]⟩
theorem ok243 : EntryOk prog 243 te243 := entK Tryz.t243 Tryz.underlying243
def te244 : TE := ⟨.struct [(0, 242)], 0, 0, .st [0] [.ar 1 []]⟩
theorem ok244 : EntryOk prog 244 te244 := entK Tryz.t244 Tryz.underlying244
def te245 : TE := ⟨.int .u8, 1, 1, .v (.int .u8 0)⟩
theorem ok245 : EntryOk prog 245 te245 := entK Tryz.t245 Tryz.underlying245
def te246 : TE := ⟨.int .u8, 1, 1, .v (.int .u8 0)⟩
theorem ok246 : EntryOk prog 246 te246 := entK Tryz.t246 Tryz.underlying246
def te247 : TE := ⟨.other, 1, 8, .v .nilFunc⟩
theorem ok247 : EntryOk prog 247 te247 := entK Tryz.t247 Tryz.underlying247
def te248 : TE := ⟨.int .i32, 1, 4, .v (.int .i32 0)⟩
theorem ok248 : EntryOk prog 248 te248 := entK Tryz.t248 Tryz.underlying248
def te249 : TE := ⟨.int .i32, 1, 4, .v (.int .i32 0)⟩
theorem ok249 : EntryOk prog 249 te249 := entK Tryz.t249 Tryz.underlying249
def te250 : TE := ⟨.struct [(0, 12), (1, 12), (2, 140), (3, 245), (4, 5), (5, 5), (6, 246), (7, 247), (8, 200), (9, 248), (10, 249)], 11, 48, .st [1, 1, 1, 1, 1, 1, 1, 1, 1, 1, 1] [.v (.int .u64 0), .v (.int .u64 0), .v (.int .u32 0), .v (.int .u8 0), .v (.int .u8 0), .v (.int .u8 0), .v (.int .u8 0), .v .nilFunc, .v (.pointer none), .v (.int .i32 0), .v (.int .i32 0)]⟩
theorem ok250 : EntryOk prog 250 te250 := entK Tryz.t250 Tryz.underlying250
def te251 : TE := ⟨.struct [(0, 12), (1, 12), (2, 140), (3, 245), (4, 5), (5, 5), (6, 246), (7, 247), (8, 200), (9, 248), (10, 249)], 11, 48, .st [1, 1, 1, 1, 1, 1, 1, 1, 1, 1, 1] [.v (.int .u64 0), .v (.int .u64 0), .v (.int .u32 0), .v (.int .u8 0), .v (.int .u8 0), .v (.int .u8 0), .v (.int .u8 0), .v .nilFunc, .v (.pointer none), .v (.int .i32 0), .v (.int .i32 0)]⟩
theorem ok251 : EntryOk prog 251 te251 := entK Tryz.t251 Tryz.underlying251
def tab : Tab := [none, some te1, some te2, some te3, some te4, some te5, some te6, some te7, some te8, some te9, some te10, some te11, some te12, some te13, some te14, some te15, some te16, some te17, some te18, some te19, none, some te21, some te22, some te23, some te24, some te25, some te26, some te27, some te28, some te29, none, some te31, some te32, some te33, some te34, some te35, some te36, none, some te38, some te39, some te40, some te41, some te42, none, some te44, some te45, some te46, some te47, some te48, some te49, some te50, some te51, some te52, some te53, some te54, some te55, some te56, some te57, some te58, some te59, some te60, some te61, some te62, none, some te64, some te65, some te66, some te67, some te68, some te69, some te70, some te71, some te72, some te73, none, some te75, some te76, some te77, some te78, some te79, some te80, some te81, some te82, some te83, some te84, some te85, some te86, some te87, some te88, some te89, some te90, some te91, some te92, some te93, some te94, some te95, some te96, some te97, some te98, none, some te100, some te101, some te102, some te103, some te104, some te105, none, none, none, some te109, some te110, some te111, some te112, some te113, some te114, some te115, some te116, some te117, some te118, some te119, some te120, some te121, some te122, some te123, some te124, none, some te126, some te127, some te128, some te129, some te130, some te131, some te132, some te133, some te134, some te135, some te136, some te137, some te138, some te139, some te140, some te141, none, some te143, some te144, some te145, some te146, some te147, some te148, some te149, none, some te151, some te152, some te153, some te154, some te155, some te156, some te157, some te158, some te159, some te160, some te161, some te162, some te163, some te164, some te165, none, some te167, some te168, some te169, some te170, some te171, some te172, some te173, some te174, some te175, some te176, some te177, some te178, some te179, some te180, some te181, some te182, none, some te184, none, some te186, some te187, some te188, some te189, none, some te191, some te192, some te193, some te194, none, some te196, none, some te198, some te199, some te200, some te201, some te202, none, some te204, none, some te206, some te207, none, none, some te210, some te211, some te212, none, some te214, some te215, none, some te217, some te218, some te219, some te220, some te221, some te222, some te223, none, some te225, some te226, some te227, some te228, some te229, some te230, some te231, some te232, some te233, some te234, some te235, some te236, some te237, some te238, some te239, some te240, some te241, some te242, some te243, some te244, some te245, some te246, some te247, some te248, some te249, some te250, some te251]
def TabL (P : Program) : Nat → Tab → Prop
  | _, [] => True
  | k, some te :: T => EntryOk P k te ∧ TabL P (k + 1) T
  | k, none :: T => TabL P (k + 1) T
theorem TabL.get {P : Program} : ∀ (T : Tab) (k t : Nat) (te : TE), TabL P k T → tget T t = some te → EntryOk P (k + t) te
  | [], _, t, _, _, h => by simp [tget] at h
  | some te' :: T, k, 0, te, hl, h => by simp [tget] at h; subst h; exact hl.1
  | none :: T, k, 0, te, hl, h => by simp [tget] at h
  | some te' :: T, k, t + 1, te, hl, h => by
    have := TabL.get T (k + 1) t te hl.2 (by simpa [tget] using h)
    rwa [Nat.add_right_comm] at this
  | none :: T, k, t + 1, te, hl, h => by
    have := TabL.get T (k + 1) t te hl (by simpa [tget] using h)
    rwa [Nat.add_right_comm] at this
theorem tabOk : TabOk prog tab := fun t te h => by
  have := TabL.get (P := prog) tab 0 t te ⟨ok1, ok2, ok3, ok4, ok5, ok6, ok7, ok8, ok9, ok10, ok11, ok12, ok13, ok14, ok15, ok16, ok17, ok18, ok19, ok21, ok22, ok23, ok24, ok25, ok26, ok27, ok28, ok29, ok31, ok32, ok33, ok34, ok35, ok36, ok38, ok39, ok40, ok41, ok42, ok44, ok45, ok46, ok47, ok48, ok49, ok50, ok51, ok52, ok53, ok54, ok55, ok56, ok57, ok58, ok59, ok60, ok61, ok62, ok64, ok65, ok66, ok67, ok68, ok69, ok70, ok71, ok72, ok73, ok75, ok76, ok77, ok78, ok79, ok80, ok81, ok82, ok83, ok84, ok85, ok86, ok87, ok88, ok89, ok90, ok91, ok92, ok93, ok94, ok95, ok96, ok97, ok98, ok100, ok101, ok102, ok103, ok104, ok105, ok109, ok110, ok111, ok112, ok113, ok114, ok115, ok116, ok117, ok118, ok119, ok120, ok121, ok122, ok123, ok124, ok126, ok127, ok128, ok129, ok130, ok131, ok132, ok133, ok134, ok135, ok136, ok137, ok138, ok139, ok140, ok141, ok143, ok144, ok145, ok146, ok147, ok148, ok149, ok151, ok152, ok153, ok154, ok155, ok156, ok157, ok158, ok159, ok160, ok161, ok162, ok163, ok164, ok165, ok167, ok168, ok169, ok170, ok171, ok172, ok173, ok174, ok175, ok176, ok177, ok178, ok179, ok180, ok181, ok182, ok184, ok186, ok187, ok188, ok189, ok191, ok192, ok193, ok194, ok196, ok198, ok199, ok200, ok201, ok202, ok204, ok206, ok207, ok210, ok211, ok212, ok214, ok215, ok217, ok218, ok219, ok220, ok221, ok222, ok223, ok225, ok226, ok227, ok228, ok229, ok230, ok231, ok232, ok233, ok234, ok235, ok236, ok237, ok238, ok239, ok240, ok241, ok242, ok243, ok244, ok245, ok246, ok247, ok248, ok249, ok250, ok251, trivial⟩ h
  rwa [Nat.zero_add] at this
section
variable {ops : Array Oper} {cf : Oper → Bool} {K : AExit → St → Prop} {o : Oper} {rest : List Oper} {L : List (Nat × AV)} {O : List (Nat × Obj)} {d : Nat}
theorem pI {κ : IntKind} {i : Int} (h : opD tab ops L O o = some (d, .dat (.v (.int κ i)))) (k : AOps prog ops cf K rest (mkSt ((d, .dat (.v (.int κ i))) :: L) O)) : AOps prog ops cf K (o :: rest) (mkSt L O) := AOps.pD tabOk h k
theorem pB {i : Bool} (h : opD tab ops L O o = some (d, .dat (.v (.bool i)))) (k : AOps prog ops cf K rest (mkSt ((d, .dat (.v (.bool i))) :: L) O)) : AOps prog ops cf K (o :: rest) (mkSt L O) := AOps.pD tabOk h k
theorem pG {i : ByteArray} (h : opD tab ops L O o = some (d, .dat (.v (.string i)))) (k : AOps prog ops cf K rest (mkSt ((d, .dat (.v (.string i))) :: L) O)) : AOps prog ops cf K (o :: rest) (mkSt L O) := AOps.pD tabOk h k
theorem pF {κ : FloatKind} {i : Nat} (h : opD tab ops L O o = some (d, .dat (.v (.float κ i)))) (k : AOps prog ops cf K rest (mkSt ((d, .dat (.v (.float κ i))) :: L) O)) : AOps prog ops cf K (o :: rest) (mkSt L O) := AOps.pD tabOk h k
theorem pS {E : TypeId} {sz : Nat} {xs : List DV} (h : opD tab ops L O o = some (d, .dat (.sl E sz xs))) (k : AOps prog ops cf K rest (mkSt ((d, .dat (.sl E sz xs)) :: L) O)) : AOps prog ops cf K (o :: rest) (mkSt L O) := AOps.pD tabOk h k
theorem pT {ns : List Nat} {xs : List DV} (h : opD tab ops L O o = some (d, .dat (.st ns xs))) (k : AOps prog ops cf K rest (mkSt ((d, .dat (.st ns xs)) :: L) O)) : AOps prog ops cf K (o :: rest) (mkSt L O) := AOps.pD tabOk h k
theorem pU {xs : List DV} (h : opD tab ops L O o = some (d, .dat (.tup xs))) (k : AOps prog ops cf K rest (mkSt ((d, .dat (.tup xs)) :: L) O)) : AOps prog ops cf K (o :: rest) (mkSt L O) := AOps.pD tabOk h k
theorem pP {id off : Nat} {p : List Pa} (h : opD tab ops L O o = some (d, .pt id p off)) (k : AOps prog ops cf K rest (mkSt ((d, .pt id p off) :: L) O)) : AOps prog ops cf K (o :: rest) (mkSt L O) := AOps.pD tabOk h k
theorem pX {x : DV} (h : opD tab ops L O o = some (d, .sp x)) (k : AOps prog ops cf K rest (mkSt ((d, .sp x) :: L) O)) : AOps prog ops cf K (o :: rest) (mkSt L O) := AOps.pD tabOk h k
theorem pO {id : Nat} (h : opD tab ops L O o = some (d, .oref id)) (k : AOps prog ops cf K rest (mkSt ((d, .oref id) :: L) O)) : AOps prog ops cf K (o :: rest) (mkSt L O) := AOps.pD tabOk h k
theorem pV {ns : List Nat} {xs : List AV} (h : opD tab ops L O o = some (d, .st ns xs)) (k : AOps prog ops cf K rest (mkSt ((d, .st ns xs) :: L) O)) : AOps prog ops cf K (o :: rest) (mkSt L O) := AOps.pD tabOk h k
theorem pW {x : DV} (h : opD tab ops L O o = some (d, .dat x)) (k : AOps prog ops cf K rest (mkSt ((d, .dat x) :: L) O)) : AOps prog ops cf K (o :: rest) (mkSt L O) := AOps.pD tabOk h k
theorem dn {σ : St} (h : K .normal σ) : AOps prog ops cf K [] σ := h
theorem ff (h : dstX ops L o = some d) (k : AOps prog ops cf K rest (mkSt ((d, .dat (.tup [])) :: L) O)) : AOps prog ops cf K (o :: rest) (mkSt L O) := AOps.off (dstX_ok h).1 (dstX_ok h).2 k
theorem ai {κ : IntKind} {i j : Int} (e : i = j) (h : opD tab ops L O o = some (d, .dat (.v (.int κ i)))) (k : AOps prog ops cf K rest (mkSt ((d, .dat (.v (.int κ j))) :: L) O)) : AOps prog ops cf K (o :: rest) (mkSt L O) := AOps.i tabOk (opD_ok h).1 (opD_ok h).2.1 (opD_ok h).2.2 e k
theorem al {κ : IntKind} {i : Int} (j : Int) (h : opD tab ops L O o = some (d, .dat (.v (.int κ i)))) (k : AOps prog ops cf K rest (mkSt ((d, .dat (.v (.int κ j))) :: L) O)) (e : i = j := by first | (rw [List.length_map]; done) | rfl) : AOps prog ops cf K (o :: rest) (mkSt L O) := AOps.i tabOk (opD_ok h).1 (opD_ok h).2.1 (opD_ok h).2.2 e k
theorem ca {f : FuncId} {args : List Operand} {ats : Array TypeId} {xs : List DV} {y : DV} {fr : Bool} (hc : AFn prog f xs y fr) (ho : o.op = .call { callee := .value (.func f), args := args.toArray, argTypes := ats }) (ha : argsOk (mkSt L O) fr args xs)
    (hd : dstG ops L o = some d) (k : AOps prog ops cf K rest (mkSt ((d, .dat y) :: L) O)) : AOps prog ops cf K (o :: rest) (mkSt L O) := AOps.call hc (dstG_ok hd).1 (dstG_ok hd).2 ho ha k
theorem st {t : TypeId} {te : TE} {x y : Operand} {id : Nat} {p : List Pa} {off : Nat} {T' : TypeId} {sz : Nat} {c c' z v : AV} (k : AOps prog ops cf K rest (mkSt L ((id, .box T' sz c') :: O))) (ho : o.op = .store t x y := by exact rfl) (hcf : cf o = true := by exact rfl) (hd : o.dst = none := by exact rfl) (hg : gOn ops L o = true := by exact rfl)
    (ht : tget tab t = some te := by exact rfl) (hx : ev (mkSt L O) x = .pt id p off := by exact rfl) (hob : lookO O id = some (.box T' sz c) := by exact rfl) (hl : locA c p 0 = some (off, z) := by exact rfl) (hz : Nat.beq z.len te.size = true := by exact rfl)
    (hv : nilT tab t (ev (mkSt L O) y) = v := by exact rfl) (hy1 : v.lies = true := by exact rfl) (hy2 : Nat.beq v.len te.size = true := by exact rfl) (hp : putA c p v = some c' := by exact rfl) : AOps prog ops cf K (o :: rest) (mkSt L O) := AOps.store tabOk ho hcf hd hg ht hx hob hl hz hv hy1 hy2 hp k
theorem bx {E : TypeId} {x : Operand} {v : AV} (k : AOps prog ops cf K rest (mkSt ((d, .pt d [] 0) :: L) ((d, .box E v.len v) :: O))) (ho : o.op = .box E x := by exact rfl) (hd : o.dst = some d := by exact rfl) (hg : gOn ops L o = true := by exact rfl) (hv : ev (mkSt L O) x = v := by exact rfl) (hl : v.lies = true := by exact rfl)
    (hn : lookO O d = none := by exact rfl) : AOps prog ops cf K (o :: rest) (mkSt L O) := AOps.box ho hd hg hv hl hn k
theorem al0 {E : TypeId} {te : TE} (k : AOps prog ops cf K rest (mkSt ((d, .pt d [] 0) :: L) ((d, .box E te.size (.dat te.zero)) :: O))) (ho : o.op = .alloc E := by exact rfl) (hd : o.dst = some d := by exact rfl) (hg : gOn ops L o = true := by exact rfl) (ht : tget tab E = some te := by exact rfl)
    (hn : lookO O d = none := by exact rfl) : AOps prog ops cf K (o :: rest) (mkSt L O) := AOps.alloc tabOk ho hd hg ht hn k
theorem kC {α : Type} {f : FuncId} {args : List Operand} {ats : Array TypeId} {xs : List DV} {y : α → DV} {fr : Bool} {q : α → Prop} (h : Call (fun x => AFn prog f xs (y x) fr) q) (ho : o.op = .call { callee := .value (.func f), args := args.toArray, argTypes := ats }) (ha : argsOk (mkSt L O) fr args xs)
    (hd : dstG ops L o = some d) (k : ∀ z, q z → AOps prog ops cf K rest (mkSt ((d, .dat (y z)) :: L) O)) : AOps prog ops cf K (o :: rest) (mkSt L O) := by
  obtain ⟨z, h1, h2⟩ := h
  exact ca h1 ho ha hd (k z h2)
theorem kI {α : Type} {t E E' : TypeId} {te : TE} {x y : Operand} {κ : IntKind} {i : Int} {sz : Nat} {ys : List α} {xs : List DV} {e : α → DV} {q : α → Prop} (h : At ys i q) (g : ∀ {m : Nat} {z : α}, ys[m]? = some z → xs[m]? = some (e z)) (ho : o.op = .indexAddr t x y) (hd : dstG ops L o = some d) (hs : slE tab t = some (E, te))
    (hx : ev (mkSt L O) x = .dat (.sl E' sz xs)) (hsz : Nat.beq sz te.size = true) (hy : ev (mkSt L O) y = .dat (.v (.int κ i))) (hp : Nat.ble 1 te.size = true) (k : ∀ z, q z → AOps prog ops cf K rest (mkSt ((d, .sp (e z)) :: L) O)) : AOps prog ops cf K (o :: rest) (mkSt L O) := by
  obtain ⟨h0, z, h1, h2⟩ := h
  exact AOps.idx tabOk ho (dstG_ok hd).1 (dstG_ok hd).2 hs hx hsz hy hp h0 (g h1) (k z h2)
def offN (ops : Array Oper) : Nat → List Oper → List (Nat × AV) → Option (List Oper × List (Nat × AV))
  | 0, l, L => some (l, L)
  | n + 1, l, L => match l with
    | [] => none
    | o :: l => match dstX ops L o with
      | some d => offN ops n l ((d, .dat (.tup [])) :: L)
      | none => none
theorem fo {l rest : List Oper} {L' : List (Nat × AV)} (n : Nat) (h : offN ops n l L = some (rest, L')) (k : AOps prog ops cf K rest (mkSt L' O)) : AOps prog ops cf K l (mkSt L O) := by
  induction n generalizing l L with
  | zero => simp only [offN, Option.some.injEq, Prod.mk.injEq] at h; obtain ⟨rfl, rfl⟩ := h; exact k
  | succ n ih =>
    match l, h with
    | o :: l, h =>
      simp only [offN] at h
      split at h
      · rename_i d hd; exact ff hd (ih h)
      · cases h
theorem sB {l : List Oper} (i : Nat) {b : Bool} {A C : Prop} (h : Br b A C) (ht : A → AOps prog ops cf K l (mkSt ((i, .dat (.v (.bool true))) :: L) O)) (hf : C → AOps prog ops cf K l (mkSt ((i, .dat (.v (.bool false))) :: L) O)) (hl : look L i = .dat (.v (.bool b)) := by exact rfl) :
    AOps prog ops cf K l (mkSt L O) := AOps.splitB i hl (fun e => ht (h.1 e)) (fun e => hf (h.2 e))
end
theorem mixed : prog.follows .mixedOrders = true := rfl
section
variable {B : Nat → Nat → Prop} {n id : Nat} {σ : St} {Q : AExit → St → Prop} {ops : Array Oper} {y : Code}
theorem rN (h : AOps prog ops (fun _ => false) Q ops.toList σ) (hd : dstOk n ops.toList = true := by exact rfl) : AWp prog B n (.region id ops false) σ Q := AWp.regionN _ hd h
theorem rW (h : AOps prog ops (fun o => writes o) Q ops.toList σ) (hd : dstOk n ops.toList = true := by exact rfl) : AWp prog B n (.region id ops false) σ Q := AWp.regionN _ hd h
theorem rD (h : AOps prog ops (fun _ => false) Q ops.toList σ) (hB : lexA (fun _ => false) ops = true := by decide +kernel) (hd : dstOk n ops.toList = true := by exact rfl) : AWp prog B n (.region id ops true) σ Q := AWp.regionD _ mixed hB hd h
theorem sN (h : AOps prog ops (fun _ => false) (thenQ (fun σ' => AWp prog B n y σ' Q) Q) ops.toList σ) (hd : dstOk n ops.toList = true := by exact rfl) : AWp prog B n (.seq (.region id ops false) y) σ Q := AWp.seq (AWp.regionN _ hd h)
theorem sW (h : AOps prog ops (fun o => writes o) (thenQ (fun σ' => AWp prog B n y σ' Q) Q) ops.toList σ) (hd : dstOk n ops.toList = true := by exact rfl) : AWp prog B n (.seq (.region id ops false) y) σ Q := AWp.seq (AWp.regionN _ hd h)
theorem sD (h : AOps prog ops (fun _ => false) (thenQ (fun σ' => AWp prog B n y σ' Q) Q) ops.toList σ) (hB : lexA (fun _ => false) ops = true := by decide +kernel) (hd : dstOk n ops.toList = true := by exact rfl) : AWp prog B n (.seq (.region id ops true) y) σ Q := AWp.seq (AWp.regionD _ mixed hB hd h)
theorem cB {c : Operand} {x : Code} {b : Bool} {A C : Prop} (h : Br b A C) (ht : A → AWp prog B n x σ Q) (hf : C → AWp prog B n y σ Q) (hc : ev σ c = .dat (.v (.bool b)) := by exact rfl) : AWp prog B n (.cond c x y) σ Q := AWp.cond hc (fun e => ht (h.1 e)) (fun e => hf (h.2 e))
theorem intr {f : FuncId} {fn : Func} {c : Code} {xs : List DV} {r : DV} {m : Nat} {rs : List ResultVar} {L : List (Nat × AV)} (hf : prog.funcs[f]? = some fn) (hn : fn.ntmps = m) (hw : AWp prog NoB m c (mkSt L []) (outQ tab rs r)) (hb : fn.body = some c := by exact rfl)
    (hname : (fn.name == "runtime.NumGoroutine") = false := by exact rfl) (hr : fn.results.toList = rs := by exact rfl) (hl : Nat.ble xs.length m = true := by exact rfl) (hL : argL 0 xs = L := by exact rfl) (hnl : m ≤ 1000000 := by decide) : AFn prog f xs r false := AFn.intro' tabOk hf hb hname hn hr hl hL hw hnl
theorem rE {L : List (Nat × AV)} {O : List (Nat × Obj)} (own : List (Nat × List Nat)) (h : AOps prog ops (fun o => writes o) Q ops.toList (mkSt L O)) (hB : lexS own (fun o => writes o) ops = true := by decide +kernel) (hd : dstOk n ops.toList = true := by exact rfl) (hf : fixB own L = true := by exact rfl) :
    AWp prog B n (.region id ops true) (mkSt L O) Q := AWp.regionS own _ mixed hB hd (fix_of hf) h
theorem rF {L : List (Nat × AV)} {O : List (Nat × Obj)} (cf : Oper → Bool) (own : List (Nat × List Nat)) (h : AOps prog ops cf Q ops.toList (mkSt L O)) (hB : lexS own cf ops = true := by decide +kernel) (hd : dstOk n ops.toList = true := by exact rfl) (hf : fixB own L = true := by exact rfl) :
    AWp prog B n (.region id ops true) (mkSt L O) Q := AWp.regionS own cf mixed hB hd (fix_of hf) h
end
end Go.Sim.YtnnfiohdkobkdaaGreatDoor
