/- What is proved: the table of the types that the program has. -/
import Derived.Test.YtifjflhnfjhijaaGreatDoorProg
import Derived.Test.YtifjflhnfjhijaaGreatDoorZPSSimF
import Derived.Test.YtifjflhnfjhijaaGreatDoorZPSSimJ
import Derived.Test.YtifjflhnfjhijaaGreatDoorZPSBig

namespace Go.Sim.YtifjflhnfjhijaaGreatDoor
open Go.RowKit Go.Proofs Go.Proofs.Tryz
set_option maxRecDepth 100000
theorem entK {t : TypeId} {te : TE} {d : TypeDesc} {z : Value} (i : TypeInfo) (h2 : prog.underlying t = some d) (h1 : prog.info? t = some i := by exact rfl) (h3 : te.d.ok d := by first | rfl | trivial | exact ⟨rfl, rfl⟩) (h4 : i.size = te.size := by exact rfl) (h5 : i.bytes = te.bytes := by exact rfl) (h6 : i.zero = some z := by exact rfl)
    (h7 : flat te.zero = some z.cells.toList := by exact rfl) (h8 : te.zero.agg = te.d.agg := by exact rfl) (h9 : qSt te.d.agg z := by first | rfl | trivial) (h10 : te.zero.len = te.size := by exact rfl) : q06 prog t te := ⟨i, d, z, h1, h2, h3, h4, h5, h6, h7, h8, h9, h10⟩
def te1 : TE := ⟨.other, 1, 8, .v .nilFunc⟩
theorem ok1 : q06 prog 1 te1 := entK Tryz.t1 Tryz.underlying1
def te2 : TE := ⟨.int .i64, 1, 8, .v (.int .i64 0)⟩
theorem ok2 : q06 prog 2 te2 := entK Tryz.t2 Tryz.underlying2
def te3 : TE := ⟨.int .i64, 1, 8, .v (.int .i64 0)⟩
theorem ok3 : q06 prog 3 te3 := entK Tryz.t3 Tryz.underlying3
def te4 : TE := ⟨.bool, 1, 1, .v (.bool false)⟩
theorem ok4 : q06 prog 4 te4 := entK Tryz.t4 Tryz.underlying4
def te5 : TE := ⟨.int .u8, 1, 1, .v (.int .u8 0)⟩
theorem ok5 : q06 prog 5 te5 := entK Tryz.t5 Tryz.underlying5
def te6 : TE := ⟨.int .u8, 1, 1, .v (.int .u8 0)⟩
theorem ok6 : q06 prog 6 te6 := entK Tryz.t6 Tryz.underlying6
def te7 : TE := ⟨.struct [(0, 2), (1, 3), (2, 4), (3, 6)], 4, 24, .st [1, 1, 1, 1] [.v (.int .i64 0), .v (.int .i64 0), .v (.bool false), .v (.int .u8 0)]⟩
theorem ok7 : q06 prog 7 te7 := entK Tryz.t7 Tryz.underlying7
def te9 : TE := ⟨.str, 1, 16, .v (.string ⟨#[]⟩)⟩
theorem ok9 : q06 prog 9 te9 := entK Tryz.t9 Tryz.underlying9
def te12 : TE := ⟨.int .u64, 1, 8, .v (.int .u64 0)⟩
theorem ok12 : q06 prog 12 te12 := entK Tryz.t12 Tryz.underlying12
def te13 : TE := ⟨.struct [(0, 9), (1, 12)], 2, 24, .st [1, 1] [.v (.string ⟨#[]⟩), .v (.int .u64 0)]⟩
theorem ok13 : q06 prog 13 te13 := entK Tryz.t13 Tryz.underlying13
def te14 : TE := ⟨.struct [(0, 9), (1, 12)], 2, 24, .st [1, 1] [.v (.string ⟨#[]⟩), .v (.int .u64 0)]⟩
theorem ok14 : q06 prog 14 te14 := entK Tryz.t14 Tryz.underlying14
def te15 : TE := ⟨.ptr 193, 1, 8, .v (.pointer none)⟩
theorem ok15 : q06 prog 15 te15 := entK Tryz.t15 Tryz.underlying15
def te17 : TE := ⟨.ptr 203, 1, 8, .v (.pointer none)⟩
theorem ok17 : q06 prog 17 te17 := entK Tryz.t17 Tryz.underlying17
def te21 : TE := ⟨.int .i32, 1, 4, .v (.int .i32 0)⟩
theorem ok21 : q06 prog 21 te21 := entK Tryz.t21 Tryz.underlying21
def te22 : TE := ⟨.struct [(0, 2), (1, 2)], 2, 16, .st [1, 1] [.v (.int .i64 0), .v (.int .i64 0)]⟩
theorem ok22 : q06 prog 22 te22 := entK Tryz.t22 Tryz.underlying22
def te23 : TE := ⟨.struct [(0, 2), (1, 2)], 2, 16, .st [1, 1] [.v (.int .i64 0), .v (.int .i64 0)]⟩
theorem ok23 : q06 prog 23 te23 := entK Tryz.t23 Tryz.underlying23
def te24 : TE := ⟨.slice 26, 1, 24, .sl 26 9 []⟩
theorem ok24 : q06 prog 24 te24 := entK Tryz.t24 Tryz.underlying24
def te25 : TE := ⟨.struct [(0, 3), (1, 9), (2, 9), (3, 3), (4, 3), (5, 4), (6, 23), (8, 24)], 9, 104, .st [1, 1, 1, 1, 1, 1, 2, 1] [.v (.int .i64 0), .v (.string ⟨#[]⟩), .v (.string ⟨#[]⟩), .v (.int .i64 0), .v (.int .i64 0), .v (.bool false), .st [1, 1] [.v (.int .i64 0), .v (.int .i64 0)], .sl 26 9 []]⟩
theorem ok25 : q06 prog 25 te25 := entK Tryz.t25 Tryz.underlying25
def te26 : TE := ⟨.struct [(0, 3), (1, 9), (2, 9), (3, 3), (4, 3), (5, 4), (6, 23), (8, 24)], 9, 104, .st [1, 1, 1, 1, 1, 1, 2, 1] [.v (.int .i64 0), .v (.string ⟨#[]⟩), .v (.string ⟨#[]⟩), .v (.int .i64 0), .v (.int .i64 0), .v (.bool false), .st [1, 1] [.v (.int .i64 0), .v (.int .i64 0)], .sl 26 9 []]⟩
theorem ok26 : q06 prog 26 te26 := entK Tryz.t26 Tryz.underlying26
def te27 : TE := ⟨.int .i64, 1, 8, .v (.int .i64 0)⟩
theorem ok27 : q06 prog 27 te27 := entK Tryz.t27 Tryz.underlying27
def te32 : TE := ⟨.slice 52, 1, 24, .sl 52 5 []⟩
theorem ok32 : q06 prog 32 te32 := entK Tryz.t32 Tryz.underlying32
def te35 : TE := ⟨.struct [(0, 27), (1, 3)], 2, 16, .st [1, 1] [.v (.int .i64 0), .v (.int .i64 0)]⟩
theorem ok35 : q06 prog 35 te35 := entK Tryz.t35 Tryz.underlying35
def te36 : TE := ⟨.struct [(0, 27), (1, 3)], 2, 16, .st [1, 1] [.v (.int .i64 0), .v (.int .i64 0)]⟩
theorem ok36 : q06 prog 36 te36 := entK Tryz.t36 Tryz.underlying36
def te37 : TE := ⟨.ptr 39, 1, 8, .v (.pointer none)⟩
theorem ok37 : q06 prog 37 te37 := entK Tryz.t37 Tryz.underlying37
def te38 : TE := ⟨.struct [(0, 32), (1, 3), (2, 3)], 3, 40, .st [1, 1, 1] [.sl 52 5 [], .v (.int .i64 0), .v (.int .i64 0)]⟩
theorem ok38 : q06 prog 38 te38 := entK Tryz.t38 Tryz.underlying38
def te39 : TE := ⟨.struct [(0, 32), (1, 3), (2, 3)], 3, 40, .st [1, 1, 1] [.sl 52 5 [], .v (.int .i64 0), .v (.int .i64 0)]⟩
theorem ok39 : q06 prog 39 te39 := entK Tryz.t39 Tryz.underlying39
def te40 : TE := ⟨.other, 1, 8, .v .nilFunc⟩
theorem ok40 : q06 prog 40 te40 := entK Tryz.t40 Tryz.underlying40
def te43 : TE := ⟨.ptr 45, 1, 8, .v (.pointer none)⟩
theorem ok43 : q06 prog 43 te43 := entK Tryz.t43 Tryz.underlying43
def te44 : TE := ⟨.struct [(0, 32), (1, 3), (2, 3), (3, 27), (4, 3)], 5, 56, .st [1, 1, 1, 1, 1] [.sl 52 5 [], .v (.int .i64 0), .v (.int .i64 0), .v (.int .i64 0), .v (.int .i64 0)]⟩
theorem ok44 : q06 prog 44 te44 := entK Tryz.t44 Tryz.underlying44
def te45 : TE := ⟨.struct [(0, 32), (1, 3), (2, 3), (3, 27), (4, 3)], 5, 56, .st [1, 1, 1, 1, 1] [.sl 52 5 [], .v (.int .i64 0), .v (.int .i64 0), .v (.int .i64 0), .v (.int .i64 0)]⟩
theorem ok45 : q06 prog 45 te45 := entK Tryz.t45 Tryz.underlying45
def te46 : TE := ⟨.ptr 50, 1, 8, .v (.pointer none)⟩
theorem ok46 : q06 prog 46 te46 := entK Tryz.t46 Tryz.underlying46
def te47 : TE := ⟨.other, 1, 8, .v (.map none)⟩
theorem ok47 : q06 prog 47 te47 := entK Tryz.t47 Tryz.underlying47
def te49 : TE := ⟨.struct [(0, 9), (1, 3), (2, 47)], 3, 32, .st [1, 1, 1] [.v (.string ⟨#[]⟩), .v (.int .i64 0), .v (.map none)]⟩
theorem ok49 : q06 prog 49 te49 := entK Tryz.t49 Tryz.underlying49
def te50 : TE := ⟨.struct [(0, 9), (1, 3), (2, 47)], 3, 32, .st [1, 1, 1] [.v (.string ⟨#[]⟩), .v (.int .i64 0), .v (.map none)]⟩
theorem ok50 : q06 prog 50 te50 := entK Tryz.t50 Tryz.underlying50
def te51 : TE := ⟨.struct [(0, 3), (1, 9), (2, 23), (4, 3)], 5, 48, .st [1, 1, 2, 1] [.v (.int .i64 0), .v (.string ⟨#[]⟩), .st [1, 1] [.v (.int .i64 0), .v (.int .i64 0)], .v (.int .i64 0)]⟩
theorem ok51 : q06 prog 51 te51 := entK Tryz.t51 Tryz.underlying51
def te52 : TE := ⟨.struct [(0, 3), (1, 9), (2, 23), (4, 3)], 5, 48, .st [1, 1, 2, 1] [.v (.int .i64 0), .v (.string ⟨#[]⟩), .st [1, 1] [.v (.int .i64 0), .v (.int .i64 0)], .v (.int .i64 0)]⟩
theorem ok52 : q06 prog 52 te52 := entK Tryz.t52 Tryz.underlying52
def te56 : TE := ⟨.other, 1, 8, .v .nilFunc⟩
theorem ok56 : q06 prog 56 te56 := entK Tryz.t56 Tryz.underlying56
def te60 : TE := ⟨.other, 1, 8, .v .nilFunc⟩
theorem ok60 : q06 prog 60 te60 := entK Tryz.t60 Tryz.underlying60
def te62 : TE := ⟨.other, 1, 8, .v .nilFunc⟩
theorem ok62 : q06 prog 62 te62 := entK Tryz.t62 Tryz.underlying62
def te66 : TE := ⟨.slice 9, 1, 24, .sl 9 1 []⟩
theorem ok66 : q06 prog 66 te66 := entK Tryz.t66 Tryz.underlying66
def te68 : TE := ⟨.struct [], 0, 0, .st [] []⟩
theorem ok68 : q06 prog 68 te68 := entK Tryz.t68 Tryz.underlying68
def te78 : TE := ⟨.slice 100, 1, 24, .sl 100 1 []⟩
theorem ok78 : q06 prog 78 te78 := entK Tryz.t78 Tryz.underlying78
def te79 : TE := ⟨.slice 100, 1, 24, .sl 100 1 []⟩
theorem ok79 : q06 prog 79 te79 := entK Tryz.t79 Tryz.underlying79
def te82 : TE := ⟨.int .u64, 1, 8, .v (.int .u64 0)⟩
theorem ok82 : q06 prog 82 te82 := entK Tryz.t82 Tryz.underlying82
def te87 : TE := ⟨.slice 5, 1, 24, .sl 5 1 []⟩
theorem ok87 : q06 prog 87 te87 := entK Tryz.t87 Tryz.underlying87
def te91 : TE := ⟨.arr 256 5, 256, 256, .ar 1 (List.replicate 256 (.v (.int .u8 0)))⟩
theorem ok91 : q06 prog 91 te91 := entK Tryz.t91 Tryz.underlying91
def te93 : TE := ⟨.other, 1, 8, .v .nilFunc⟩
theorem ok93 : q06 prog 93 te93 := entK Tryz.t93 Tryz.underlying93
def te96 : TE := ⟨.other, 1, 8, .v .nilFunc⟩
theorem ok96 : q06 prog 96 te96 := entK Tryz.t96 Tryz.underlying96
def qWp : TE := ⟨.int .u32, 1, 4, .v (.int .u32 0)⟩
theorem qYz : q06 prog 100 qWp := entK Tryz.t100 Tryz.underlying100
def qWq : TE := ⟨.int .u64, 1, 8, .v (.int .u64 0)⟩
theorem qZ0 : q06 prog 101 qWq := entK Tryz.t101 Tryz.underlying101
def qWr : TE := ⟨.slice 107, 1, 24, .sl 107 2 []⟩
theorem qZ1 : q06 prog 105 qWr := entK Tryz.t105 Tryz.underlying105
def qWs : TE := ⟨.struct [(0, 3), (1, 3)], 2, 16, .st [1, 1] [.v (.int .i64 0), .v (.int .i64 0)]⟩
theorem qZ2 : q06 prog 106 qWs := entK Tryz.t106 Tryz.underlying106
def qWt : TE := ⟨.struct [(0, 3), (1, 3)], 2, 16, .st [1, 1] [.v (.int .i64 0), .v (.int .i64 0)]⟩
theorem qZ3 : q06 prog 107 qWt := entK Tryz.t107 Tryz.underlying107
def qWu : TE := ⟨.ptr 128, 1, 8, .v (.pointer none)⟩
theorem qZ4 : q06 prog 109 qWu := entK Tryz.t109 Tryz.underlying109
def qWv : TE := ⟨.int .i64, 1, 8, .v (.int .i64 0)⟩
theorem qZ5 : q06 prog 116 qWv := entK Tryz.t116 Tryz.underlying116
def qWw : TE := ⟨.ptr 156, 1, 8, .v (.pointer none)⟩
theorem qZ6 : q06 prog 119 qWw := entK Tryz.t119 Tryz.underlying119
def qWx : TE := ⟨.slice 131, 1, 24, .sl 131 3 []⟩
theorem qZ7 : q06 prog 125 qWx := entK Tryz.t125 Tryz.underlying125
def qWy : TE := ⟨.slice 134, 1, 24, .sl 134 3 []⟩
theorem qZ8 : q06 prog 126 qWy := entK Tryz.t126 Tryz.underlying126
def qWz : TE := ⟨.struct [(0, 125), (1, 126), (2, 3)], 3, 56, .st [1, 1, 1] [.sl 131 3 [], .sl 134 3 [], .v (.int .i64 0)]⟩
theorem qZ9 : q06 prog 127 qWz := entK Tryz.t127 Tryz.underlying127
def qX0 : TE := ⟨.struct [(0, 125), (1, 126), (2, 3)], 3, 56, .st [1, 1, 1] [.sl 131 3 [], .sl 134 3 [], .v (.int .i64 0)]⟩
theorem qZa : q06 prog 128 qX0 := entK Tryz.t128 Tryz.underlying128
def qX1 : TE := ⟨.int .u16, 1, 2, .v (.int .u16 0)⟩
theorem qZb : q06 prog 129 qX1 := entK Tryz.t129 Tryz.underlying129
def qX2 : TE := ⟨.struct [(0, 129), (1, 129), (2, 129)], 3, 6, .st [1, 1, 1] [.v (.int .u16 0), .v (.int .u16 0), .v (.int .u16 0)]⟩
theorem qZc : q06 prog 130 qX2 := entK Tryz.t130 Tryz.underlying130
def qX3 : TE := ⟨.struct [(0, 129), (1, 129), (2, 129)], 3, 6, .st [1, 1, 1] [.v (.int .u16 0), .v (.int .u16 0), .v (.int .u16 0)]⟩
theorem qZd : q06 prog 131 qX3 := entK Tryz.t131 Tryz.underlying131
def qX4 : TE := ⟨.struct [(0, 100), (1, 100), (2, 100)], 3, 12, .st [1, 1, 1] [.v (.int .u32 0), .v (.int .u32 0), .v (.int .u32 0)]⟩
theorem qZe : q06 prog 133 qX4 := entK Tryz.t133 Tryz.underlying133
def qX5 : TE := ⟨.struct [(0, 100), (1, 100), (2, 100)], 3, 12, .st [1, 1, 1] [.v (.int .u32 0), .v (.int .u32 0), .v (.int .u32 0)]⟩
theorem qZf : q06 prog 134 qX5 := entK Tryz.t134 Tryz.underlying134
def qX6 : TE := ⟨.arr 256 4, 256, 256, .ar 1 (List.replicate 256 (.v (.bool false)))⟩
theorem qZg : q06 prog 141 qX6 := entK Tryz.t141 Tryz.underlying141
def qX7 : TE := ⟨.arr 256 4, 256, 256, .ar 1 (List.replicate 256 (.v (.bool false)))⟩
theorem qZh : q06 prog 142 qX7 := entK Tryz.t142 Tryz.underlying142
def qX8 : TE := ⟨.ptr 142, 1, 8, .v (.pointer none)⟩
theorem qZi : q06 prog 146 qX8 := entK Tryz.t146 Tryz.underlying146
def qX9 : TE := ⟨.ptr 131, 1, 8, .v (.pointer none)⟩
theorem qZj : q06 prog 159 qX9 := entK Tryz.t159 Tryz.underlying159
def qXa : TE := ⟨.ptr 134, 1, 8, .v (.pointer none)⟩
theorem qZk : q06 prog 160 qXa := entK Tryz.t160 Tryz.underlying160
def qXb : TE := ⟨.ptr 5, 1, 8, .v (.pointer none)⟩
theorem qZl : q06 prog 165 qXb := entK Tryz.t165 Tryz.underlying165
def qXc : TE := ⟨.ptr 168, 1, 8, .v (.pointer none)⟩
theorem qZm : q06 prog 166 qXc := entK Tryz.t166 Tryz.underlying166
def qXd : TE := ⟨.struct [(0, 9)], 1, 16, .st [1] [.v (.string ⟨#[]⟩)]⟩
theorem qZn : q06 prog 167 qXd := entK Tryz.t167 Tryz.underlying167
def qXe : TE := ⟨.struct [(0, 9)], 1, 16, .st [1] [.v (.string ⟨#[]⟩)]⟩
theorem qZo : q06 prog 168 qXe := entK Tryz.t168 Tryz.underlying168
def qXf : TE := ⟨.struct [(0, 5), (1, 5)], 2, 2, .st [1, 1] [.v (.int .u8 0), .v (.int .u8 0)]⟩
theorem qZp : q06 prog 175 qXf := entK Tryz.t175 Tryz.underlying175
def qXg : TE := ⟨.struct [(0, 5), (1, 5)], 2, 2, .st [1, 1] [.v (.int .u8 0), .v (.int .u8 0)]⟩
theorem qZq : q06 prog 176 qXg := entK Tryz.t176 Tryz.underlying176
def qXh : TE := ⟨.arr 16 176, 32, 32, .ar 2 [.st [1, 1] [.v (.int .u8 0), .v (.int .u8 0)], .st [1, 1] [.v (.int .u8 0), .v (.int .u8 0)], .st [1, 1] [.v (.int .u8 0), .v (.int .u8 0)], .st [1, 1] [.v (.int .u8 0), .v (.int .u8 0)], .st [1, 1] [.v (.int .u8 0), .v (.int .u8 0)], .st [1, 1] [.v (.int .u8 0), .v (.int .u8 0)], .st [1, 1] [.v (.int .u8 0), .v (.int .u8 0)], .st [1, 1] [.v (.int .u8 0), .v (.int .u8 0)], .st [1, 1] [.v (.int .u8 0), .v (.int .u8 0)], .st [1, 1] [.v (.int .u8 0), .v (.int .u8 0)], .st [1, 1] [.v (.int .u8 0), .v (.int .u8 0)], .st [1, 1] [.v (.int .u8 0), .v (.int .u8 0)], .st [1, 1] [.v (.int .u8 0), .v (.int .u8 0)], .st [1, 1] [.v (.int .u8 0), .v (.int .u8 0)], .st [1, 1] [.v (.int .u8 0), .v (.int .u8 0)], .st [1, 1] [.v (.int .u8 0), .v (.int .u8 0)]]⟩
theorem qZr : q06 prog 177 qXh := entK Tryz.t177 Tryz.underlying177
def qXi : TE := ⟨.arr 24 5, 24, 24, .ar 1 (List.replicate 24 (.v (.int .u8 0)))⟩
theorem qZs : q06 prog 180 qXi := entK Tryz.t180 Tryz.underlying180
def qXj : TE := ⟨.arr 20 82, 20, 160, .ar 1 (List.replicate 20 (.v (.int .u64 0)))⟩
theorem qZt : q06 prog 185 qXj := entK Tryz.t185 Tryz.underlying185
def qXk : TE := ⟨.arr 65 5, 65, 65, .ar 1 (List.replicate 65 (.v (.int .u8 0)))⟩
theorem qZu : q06 prog 186 qXk := entK Tryz.t186 Tryz.underlying186
def qXl : TE := ⟨.arr 32 5, 32, 32, .ar 1 (List.replicate 32 (.v (.int .u8 0)))⟩
theorem qZv : q06 prog 190 qXl := entK Tryz.t190 Tryz.underlying190
def qXm : TE := ⟨.arr 64 5, 64, 64, .ar 1 (List.replicate 64 (.v (.int .u8 0)))⟩
theorem qZw : q06 prog 191 qXm := entK Tryz.t191 Tryz.underlying191
def qXn : TE := ⟨.struct [(0, 17), (1, 17), (2, 17), (3, 9)], 4, 40, .st [1, 1, 1, 1] [.v (.pointer none), .v (.pointer none), .v (.pointer none), .v (.string ⟨#[]⟩)]⟩
theorem qZx : q06 prog 192 qXn := entK Tryz.t192 Tryz.underlying192
def qXo : TE := ⟨.struct [(0, 17), (1, 17), (2, 17), (3, 9)], 4, 40, .st [1, 1, 1, 1] [.v (.pointer none), .v (.pointer none), .v (.pointer none), .v (.string ⟨#[]⟩)]⟩
theorem qZy : q06 prog 193 qXo := entK Tryz.t193 Tryz.underlying193
def qXp : TE := ⟨.int .u8, 1, 1, .v (.int .u8 0)⟩
theorem qZz : q06 prog 197 qXp := entK Tryz.t197 Tryz.underlying197
def qXq : TE := ⟨.int .u8, 1, 1, .v (.int .u8 0)⟩
theorem z00 : q06 prog 198 qXq := entK Tryz.t198 Tryz.underlying198
def qXr : TE := ⟨.other, 1, 8, .v .nilFunc⟩
theorem z01 : q06 prog 199 qXr := entK Tryz.t199 Tryz.underlying199
def qXs : TE := ⟨.int .i32, 1, 4, .v (.int .i32 0)⟩
theorem z02 : q06 prog 200 qXs := entK Tryz.t200 Tryz.underlying200
def qXt : TE := ⟨.int .i32, 1, 4, .v (.int .i32 0)⟩
theorem z03 : q06 prog 201 qXt := entK Tryz.t201 Tryz.underlying201
def qXu : TE := ⟨.struct [(0, 12), (1, 12), (2, 100), (3, 197), (4, 5), (5, 5), (6, 198), (7, 199), (8, 165), (9, 200), (10, 201)], 11, 48, .st [1, 1, 1, 1, 1, 1, 1, 1, 1, 1, 1] [.v (.int .u64 0), .v (.int .u64 0), .v (.int .u32 0), .v (.int .u8 0), .v (.int .u8 0), .v (.int .u8 0), .v (.int .u8 0), .v .nilFunc, .v (.pointer none), .v (.int .i32 0), .v (.int .i32 0)]⟩
theorem z04 : q06 prog 202 qXu := entK Tryz.t202 Tryz.underlying202
def qXv : TE := ⟨.struct [(0, 12), (1, 12), (2, 100), (3, 197), (4, 5), (5, 5), (6, 198), (7, 199), (8, 165), (9, 200), (10, 201)], 11, 48, .st [1, 1, 1, 1, 1, 1, 1, 1, 1, 1, 1] [.v (.int .u64 0), .v (.int .u64 0), .v (.int .u32 0), .v (.int .u8 0), .v (.int .u8 0), .v (.int .u8 0), .v (.int .u8 0), .v .nilFunc, .v (.pointer none), .v (.int .i32 0), .v (.int .i32 0)]⟩
theorem z05 : q06 prog 203 qXv := entK Tryz.t203 Tryz.underlying203
def tab : Tab := [none, some te1, some te2, some te3, some te4, some te5, some te6, some te7, none, some te9, none, none, some te12, some te13, some te14, some te15, none, some te17, none, none, none, some te21, some te22, some te23, some te24, some te25, some te26, some te27, none, none, none, none, some te32, none, none, some te35, some te36, some te37, some te38, some te39, some te40, none, none, some te43, some te44, some te45, some te46, some te47, none, some te49, some te50, some te51, some te52, none, none, none, some te56, none, none, none, some te60, none, some te62, none, none, none, some te66, none, some te68, none, none, none, none, none, none, none, none, none, some te78, some te79, none, none, some te82, none, none, none, none, some te87, none, none, none, some te91, none, some te93, none, none, some te96, none, none, none, some qWp, some qWq, none, none, none, some qWr, some qWs, some qWt, none, some qWu, none, none, none, none, none, none, some qWv, none, none, some qWw, none, none, none, none, none, some qWx, some qWy, some qWz, some qX0, some qX1, some qX2, some qX3, none, some qX4, some qX5, none, none, none, none, none, none, some qX6, some qX7, none, none, none, some qX8, none, none, none, none, none, none, none, none, none, none, none, none, some qX9, some qXa, none, none, none, none, some qXb, some qXc, some qXd, some qXe, none, none, none, none, none, none, some qXf, some qXg, some qXh, none, none, some qXi, none, none, none, none, some qXj, some qXk, none, none, none, some qXl, some qXm, some qXn, some qXo, none, none, none, some qXp, some qXq, some qXr, some qXs, some qXt, some qXu, some qXv, none]
def TabL (P : Program) : Nat -> Tab -> Prop
 | _, [] => True
 | k, some te :: T => q06 P k te /\ TabL P (k + 1) T
 | k, none :: T => TabL P (k + 1) T
theorem TabL.get {P : Program} : ∀ (T : Tab) (k t : Nat) (te : TE), TabL P k T -> tget T t = some te -> q06 P (k + t) te
 | [], _, t, _, _, h => by simp [tget] at h
 | some te' :: T, k, 0, te, hl, h => by simp [tget] at h; subst h; exact hl.1
 | none :: T, k, 0, te, hl, h => by simp [tget] at h
 | some te' :: T, k, t + 1, te, hl, h => by
  have := TabL.get T (k + 1) t te hl.2 (by simpa [tget] using h)
  rwa [Nat.add_right_comm] at this
 | none :: T, k, t + 1, te, hl, h => by
  have := TabL.get T (k + 1) t te hl (by simpa [tget] using h)
  rwa [Nat.add_right_comm] at this
theorem q01 : q0r prog tab := fun t te h => by
 have := TabL.get (P := prog) tab 0 t te ⟨ok1, ok2, ok3, ok4, ok5, ok6, ok7, ok9, ok12, ok13, ok14, ok15, ok17, ok21, ok22, ok23, ok24, ok25, ok26, ok27, ok32, ok35, ok36, ok37, ok38, ok39, ok40, ok43, ok44, ok45, ok46, ok47, ok49, ok50, ok51, ok52, ok56, ok60, ok62, ok66, ok68, ok78, ok79, ok82, ok87, ok91, ok93, ok96, qYz, qZ0, qZ1, qZ2, qZ3, qZ4, qZ5, qZ6, qZ7, qZ8, qZ9, qZa, qZb, qZc, qZd, qZe, qZf, qZg, qZh, qZi, qZj, qZk, qZl, qZm, qZn, qZo, qZp, qZq, qZr, qZs, qZt, qZu, qZv, qZw, qZx, qZy, qZz, z00, z01, z02, z03, z04, z05, trivial⟩ h
 rwa [Nat.zero_add] at this
section
variable {ops : Array Oper} {cf : Oper -> Bool} {K : q1f -> St -> Prop} {o : Oper} {rest : List Oper} {L : List (Nat × AV)} {O : List (Nat × Obj)} {d : Nat}
theorem pI {κ : IntKind} {i : Int} (h : opD tab ops L O o = some (d, .dat (.v (.int κ i)))) (k : AOps prog ops cf K rest (mkSt ((d, .dat (.v (.int κ i))) :: L) O)) : AOps prog ops cf K (o :: rest) (mkSt L O) := AOps.pD q01 h k
theorem pB {i : Bool} (h : opD tab ops L O o = some (d, .dat (.v (.bool i)))) (k : AOps prog ops cf K rest (mkSt ((d, .dat (.v (.bool i))) :: L) O)) : AOps prog ops cf K (o :: rest) (mkSt L O) := AOps.pD q01 h k
theorem pG {i : ByteArray} (h : opD tab ops L O o = some (d, .dat (.v (.string i)))) (k : AOps prog ops cf K rest (mkSt ((d, .dat (.v (.string i))) :: L) O)) : AOps prog ops cf K (o :: rest) (mkSt L O) := AOps.pD q01 h k
theorem pS {E : TypeId} {sz : Nat} {xs : List DV} (h : opD tab ops L O o = some (d, .dat (.sl E sz xs))) (k : AOps prog ops cf K rest (mkSt ((d, .dat (.sl E sz xs)) :: L) O)) : AOps prog ops cf K (o :: rest) (mkSt L O) := AOps.pD q01 h k
theorem pT {ns : List Nat} {xs : List DV} (h : opD tab ops L O o = some (d, .dat (.st ns xs))) (k : AOps prog ops cf K rest (mkSt ((d, .dat (.st ns xs)) :: L) O)) : AOps prog ops cf K (o :: rest) (mkSt L O) := AOps.pD q01 h k
theorem pU {xs : List DV} (h : opD tab ops L O o = some (d, .dat (.tup xs))) (k : AOps prog ops cf K rest (mkSt ((d, .dat (.tup xs)) :: L) O)) : AOps prog ops cf K (o :: rest) (mkSt L O) := AOps.pD q01 h k
theorem pP {id off : Nat} {p : List Pa} (h : opD tab ops L O o = some (d, .pt id p off)) (k : AOps prog ops cf K rest (mkSt ((d, .pt id p off) :: L) O)) : AOps prog ops cf K (o :: rest) (mkSt L O) := AOps.pD q01 h k
theorem pX {x : DV} (h : opD tab ops L O o = some (d, .sp x)) (k : AOps prog ops cf K rest (mkSt ((d, .sp x) :: L) O)) : AOps prog ops cf K (o :: rest) (mkSt L O) := AOps.pD q01 h k
theorem pO {id : Nat} (h : opD tab ops L O o = some (d, .oref id)) (k : AOps prog ops cf K rest (mkSt ((d, .oref id) :: L) O)) : AOps prog ops cf K (o :: rest) (mkSt L O) := AOps.pD q01 h k
theorem pV {ns : List Nat} {xs : List AV} (h : opD tab ops L O o = some (d, .st ns xs)) (k : AOps prog ops cf K rest (mkSt ((d, .st ns xs) :: L) O)) : AOps prog ops cf K (o :: rest) (mkSt L O) := AOps.pD q01 h k
theorem pW {x : DV} (h : opD tab ops L O o = some (d, .dat x)) (k : AOps prog ops cf K rest (mkSt ((d, .dat x) :: L) O)) : AOps prog ops cf K (o :: rest) (mkSt L O) := AOps.pD q01 h k
theorem dn {σ : St} (h : K .normal σ) : AOps prog ops cf K [] σ := h
theorem ff (h : dstX ops L o = some d) (k : AOps prog ops cf K rest (mkSt ((d, .dat (.tup [])) :: L) O)) : AOps prog ops cf K (o :: rest) (mkSt L O) := AOps.off (qQq h).1 (qQq h).2 k
theorem ai {κ : IntKind} {i j : Int} (e : i = j) (h : opD tab ops L O o = some (d, .dat (.v (.int κ i)))) (k : AOps prog ops cf K rest (mkSt ((d, .dat (.v (.int κ j))) :: L) O)) : AOps prog ops cf K (o :: rest) (mkSt L O) := AOps.i q01 (qEk h).1 (qEk h).2.1 (qEk h).2.2 e k
theorem al {κ : IntKind} {i : Int} (j : Int) (h : opD tab ops L O o = some (d, .dat (.v (.int κ i)))) (k : AOps prog ops cf K rest (mkSt ((d, .dat (.v (.int κ j))) :: L) O)) (e : i = j := by first | (rw [List.length_map]; done) | rfl) : AOps prog ops cf K (o :: rest) (mkSt L O) := AOps.i q01 (qEk h).1 (qEk h).2.1 (qEk h).2.2 e k
theorem ca {f : FuncId} {args : List Operand} {ats : Array TypeId} {xs : List DV} {y : DV} {fr : Bool} (hc : AFn prog f xs y fr) (ho : o.op = .call { callee := .value (.func f), args := args.toArray, argTypes := ats }) (ha : q3t (mkSt L O) fr args xs)
    (hd : dstG ops L o = some d) (k : AOps prog ops cf K rest (mkSt ((d, .dat y) :: L) O)) : AOps prog ops cf K (o :: rest) (mkSt L O) := AOps.call hc (q58 hd).1 (q58 hd).2 ho ha k
theorem st {t : TypeId} {te : TE} {x y : Operand} {id : Nat} {p : List Pa} {off : Nat} {T' : TypeId} {sz : Nat} {c c' z v : AV} (k : AOps prog ops cf K rest (mkSt L ((id, .box T' sz c') :: O))) (ho : o.op = .store t x y := by exact rfl) (hcf : cf o = true := by exact rfl) (hd : o.dst = none := by exact rfl) (hg : gOn ops L o = true := by exact rfl)
    (ht : tget tab t = some te := by exact rfl) (hx : ev (mkSt L O) x = .pt id p off := by exact rfl) (hob : q0v O id = some (.box T' sz c) := by exact rfl) (hl : locA c p 0 = some (off, z) := by exact rfl) (hz : Nat.beq z.len te.size = true := by exact rfl)
    (hv : nilT tab t (ev (mkSt L O) y) = v := by exact rfl) (hy1 : v.lies = true := by exact rfl) (hy2 : Nat.beq v.len te.size = true := by exact rfl) (hp : putA c p v = some c' := by exact rfl) : AOps prog ops cf K (o :: rest) (mkSt L O) := AOps.store q01 ho hcf hd hg ht hx hob hl hz hv hy1 hy2 hp k
theorem bx {E : TypeId} {x : Operand} {v : AV} (k : AOps prog ops cf K rest (mkSt ((d, .pt d [] 0) :: L) ((d, .box E v.len v) :: O))) (ho : o.op = .box E x := by exact rfl) (hd : o.dst = some d := by exact rfl) (hg : gOn ops L o = true := by exact rfl) (hv : ev (mkSt L O) x = v := by exact rfl) (hl : v.lies = true := by exact rfl)
    (hn : q0v O d = none := by exact rfl) : AOps prog ops cf K (o :: rest) (mkSt L O) := AOps.box ho hd hg hv hl hn k
theorem al0 {E : TypeId} {te : TE} (k : AOps prog ops cf K rest (mkSt ((d, .pt d [] 0) :: L) ((d, .box E te.size (.dat te.zero)) :: O))) (ho : o.op = .alloc E := by exact rfl) (hd : o.dst = some d := by exact rfl) (hg : gOn ops L o = true := by exact rfl) (ht : tget tab E = some te := by exact rfl)
    (hn : q0v O d = none := by exact rfl) : AOps prog ops cf K (o :: rest) (mkSt L O) := AOps.alloc q01 ho hd hg ht hn k
theorem kc {t t' : TypeId} {x y : Operand} {u v : ByteArray} {q : ByteArray -> Prop} (h : Cat u v q) (ho : o.op = .binOp .add t x y t') (hd : dstG ops L o = some d) (hx : ev (mkSt L O) x = .dat (.v (.string u))) (hy : ev (mkSt L O) y = .dat (.v (.string v)))
    (k : ∀ z, q z -> AOps prog ops cf K rest (mkSt ((d, .dat (.v (.string z))) :: L) O)) : AOps prog ops cf K (o :: rest) (mkSt L O) := by
  obtain ⟨h1, z, e, h2⟩ := h.get
  exact AOps.catE ho (q58 hd).1 (q58 hd).2 hx hy h1 e (k z h2)
theorem kC {α : Type} {f : FuncId} {args : List Operand} {ats : Array TypeId} {xs : List DV} {y : α -> DV} {fr : Bool} {q : α -> Prop} (h : Call (fun x => AFn prog f xs (y x) fr) q) (ho : o.op = .call { callee := .value (.func f), args := args.toArray, argTypes := ats }) (ha : q3t (mkSt L O) fr args xs)
    (hd : dstG ops L o = some d) (k : ∀ z, q z -> AOps prog ops cf K rest (mkSt ((d, .dat (y z)) :: L) O)) : AOps prog ops cf K (o :: rest) (mkSt L O) := by
  obtain ⟨z, h1, h2⟩ := h
  exact ca h1 ho ha hd (k z h2)
def cbD (cf : Oper -> Bool) (ops : Array Oper) (L : List (Nat × AV)) (O : List (Nat × Obj)) (o : Oper) : Option (Option Nat × FuncId × List Operand × Nat × TypeId × Nat × DV) := match gOn ops L o && cf o with
 | true => match o.op with
  | .call ⟨.value (.func f), ⟨x0 :: args⟩, _⟩ => match ev (mkSt L O) x0 with
   | .pt id [] 0 => match q0v O id with
    | some (.box Ty sz (.dat x)) => some (o.dst, f, args, id, Ty, sz, x)
    | _ => none
   | _ => none
  | _ => none
 | false => none
theorem qR2 {e : Option Nat} {f : FuncId} {args : List Operand} {id : Nat} {Ty : TypeId} {sz : Nat} {x : DV} (h : cbD cf ops L O o = some (e, f, args, id, Ty, sz, x)) :
    gOn ops L o = true /\ cf o = true /\ o.dst = e /\ (∃ x0 ats, o.op = .call { callee := .value (.func f), args := (x0 :: args).toArray, argTypes := ats } /\ ev (mkSt L O) x0 = .pt id [] 0) /\ q0v O id = some (.box Ty sz (.dat x)) := by
  unfold cbD at h
  split at h
  · rename_i hg
    rw [Bool.and_eq_true] at hg
    split at h
    · rename_i ho
      split at h
      · rename_i hx
        split at h
        · rename_i hb
          simp only [Option.some.injEq, Prod.mk.injEq] at h
          obtain ⟨rfl, rfl, rfl, rfl, rfl, rfl, rfl⟩ := h
          exact ⟨hg.1, hg.2, rfl, ⟨_, _, ho, hx⟩, hb⟩
        · cases h
      · cases h
    · cases h
  · cases h
section
variable {α : Type} {f : FuncId} {args : List Operand} {xs : List DV} {Ty : TypeId} {sz id : Nat} {x : DV} {y z : α -> DV} {q : α -> Prop}
theorem kB (h : Call (fun r => AFnB prog f Ty sz x xs (.ret (y r)) (z r)) q) (e : cbD cf ops L O o = some (some d, f, args, id, Ty, sz, x)) (ha : q3t (mkSt L O) false args xs)
    (k : ∀ r, q r -> AOps prog ops cf K rest (mkSt ((d, .dat (y r)) :: L) ((id, .box Ty sz (.dat (z r))) :: O))) : AOps prog ops cf K (o :: rest) (mkSt L O) := by
  obtain ⟨r, h1, h2⟩ := h
  obtain ⟨e1, e2, e3, ⟨x0, ats, e4, e5⟩, e6⟩ := qR2 e
  exact AOps.callB h1 e2 e3 e1 e4 e5 e6 ha (k r h2)
theorem kR (h : Call (fun r => AFnB prog f Ty sz x xs (.ret (y r)) x) q) (e : cbD (fun _ => true) ops L O o = some (some d, f, args, id, Ty, sz, x)) (ha : q3t (mkSt L O) false args xs)
    (k : ∀ r, q r -> AOps prog ops cf K rest (mkSt ((d, .dat (y r)) :: L) O)) : AOps prog ops cf K (o :: rest) (mkSt L O) := by
  obtain ⟨r, h1, h2⟩ := h
  obtain ⟨e1, e2, e3, ⟨x0, ats, e4, e5⟩, e6⟩ := qR2 e
  exact AOps.callR h1 e3 e1 e4 e5 e6 ha (k r h2)
end
theorem kI {α : Type} {t E E' : TypeId} {te : TE} {x y : Operand} {κ : IntKind} {i : Int} {sz : Nat} {ys : List α} {xs : List DV} {e : α -> DV} {q : α -> Prop} (h : At ys i q) (g : ∀ {m : Nat} {z : α}, ys[m]? = some z -> xs[m]? = some (e z)) (ho : o.op = .indexAddr t x y) (hd : dstG ops L o = some d) (hs : slE tab t = some (E, te))
    (hx : ev (mkSt L O) x = .dat (.sl E' sz xs)) (hsz : Nat.beq sz te.size = true) (hy : ev (mkSt L O) y = .dat (.v (.int κ i))) (hp : Nat.ble 1 te.size = true) (k : ∀ z, q z -> AOps prog ops cf K rest (mkSt ((d, .sp (e z)) :: L) O)) : AOps prog ops cf K (o :: rest) (mkSt L O) := by
  obtain ⟨h0, z, h1, h2⟩ := h
  exact AOps.idx q01 ho (q58 hd).1 (q58 hd).2 hs hx hsz hy hp h0 (g h1) (k z h2)
def offN (ops : Array Oper) : Nat -> List Oper -> List (Nat × AV) -> Option (List Oper × List (Nat × AV))
 | 0, l, L => some (l, L)
 | n + 1, l, L => match l with
  | [] => none
  | o :: l => match dstX ops L o with
   | some d => offN ops n l ((d, .dat (.tup [])) :: L)
   | none => none
theorem fo {l rest : List Oper} {L' : List (Nat × AV)} (n : Nat) (h : offN ops n l L = some (rest, L')) (k : AOps prog ops cf K rest (mkSt L' O)) : AOps prog ops cf K l (mkSt L O) := by
 induction n generalizing l L with
 | zero => simp only [offN, Option.some.injEq, Prod.mk.injEq] at h; obtain ⟨rfl, rfl⟩ := h; exact k
 | succ n ih =>
  match l, h with
  | o :: l, h =>
   simp only [offN] at h
   split at h
   ·rename_i d hd; exact ff hd (ih h)
   ·cases h
theorem sB {l : List Oper} (i : Nat) {b : Bool} {A C : Prop} (h : Br b A C) (ht : A -> AOps prog ops cf K l (mkSt ((i, .dat (.v (.bool true))) :: L) O)) (hf : C -> AOps prog ops cf K l (mkSt ((i, .dat (.v (.bool false))) :: L) O)) (hl : look L i = .dat (.v (.bool b)) := by exact rfl) :
    AOps prog ops cf K l (mkSt L O) := AOps.splitB i hl (fun e => ht (h.1 e)) (fun e => hf (h.2 e))
end
theorem mixed : prog.follows .mixedOrders = true := rfl
section
variable {B : Nat -> Nat -> Prop} {n id : Nat} {σ : St} {Q : q1f -> St -> Prop} {ops : Array Oper} {y : Code}
theorem rN (h : AOps prog ops (fun _ => false) Q ops.toList σ) (hd : qD9 n ops.toList = true := by exact rfl) : AWp prog B n (.region id ops false) σ Q := AWp.regionN _ hd h
theorem rW (h : AOps prog ops (fun o => writes o) Q ops.toList σ) (hd : qD9 n ops.toList = true := by exact rfl) : AWp prog B n (.region id ops false) σ Q := AWp.regionN _ hd h
theorem rD (h : AOps prog ops (fun _ => false) Q ops.toList σ) (hB : lexA (fun _ => false) ops = true := by decide +kernel) (hd : qD9 n ops.toList = true := by exact rfl) : AWp prog B n (.region id ops true) σ Q := AWp.regionD _ mixed hB hd h
theorem sN (h : AOps prog ops (fun _ => false) (thenQ (fun σ' => AWp prog B n y σ' Q) Q) ops.toList σ) (hd : qD9 n ops.toList = true := by exact rfl) : AWp prog B n (.seq (.region id ops false) y) σ Q := AWp.seq (AWp.regionN _ hd h)
theorem sW (h : AOps prog ops (fun o => writes o) (thenQ (fun σ' => AWp prog B n y σ' Q) Q) ops.toList σ) (hd : qD9 n ops.toList = true := by exact rfl) : AWp prog B n (.seq (.region id ops false) y) σ Q := AWp.seq (AWp.regionN _ hd h)
theorem sD (h : AOps prog ops (fun _ => false) (thenQ (fun σ' => AWp prog B n y σ' Q) Q) ops.toList σ) (hB : lexA (fun _ => false) ops = true := by decide +kernel) (hd : qD9 n ops.toList = true := by exact rfl) : AWp prog B n (.seq (.region id ops true) y) σ Q := AWp.seq (AWp.regionD _ mixed hB hd h)
theorem cB {c : Operand} {x : Code} {b : Bool} {A C : Prop} (h : Br b A C) (ht : A -> AWp prog B n x σ Q) (hf : C -> AWp prog B n y σ Q) (hc : ev σ c = .dat (.v (.bool b)) := by exact rfl) : AWp prog B n (.cond c x y) σ Q := AWp.cond hc (fun e => ht (h.1 e)) (fun e => hf (h.2 e))
theorem intr {f : FuncId} {fn : Func} {c : Code} {xs : List DV} {r : DV} {m : Nat} {rs : List ResultVar} {L : List (Nat × AV)} (hf : prog.funcs[f]? = some fn) (hn : fn.ntmps = m) (hw : AWp prog NoB m c (mkSt L []) (outQ tab rs r)) (hb : fn.body = some c := by exact rfl)
    (hname : (fn.name == "runtime.NumGoroutine") = false := by exact rfl) (hr : fn.results.toList = rs := by exact rfl) (hl : Nat.ble xs.length m = true := by exact rfl) (hL : argL 0 xs = L := by exact rfl) (hnl : m <= 1000000 := by decide) : AFn prog f xs r false := AFn.intro' q01 hf hb hname hn hr hl hL hw hnl
theorem rE {L : List (Nat × AV)} {O : List (Nat × Obj)} (own : List (Nat × List Nat)) (h : AOps prog ops (fun o => writes o) Q ops.toList (mkSt L O)) (hB : lexS own (fun o => writes o) ops = true := by decide +kernel) (hd : qD9 n ops.toList = true := by exact rfl) (hf : fixB own L = true := by exact rfl) :
    AWp prog B n (.region id ops true) (mkSt L O) Q := AWp.regionS own _ mixed hB hd (qUb hf) h
theorem rF {L : List (Nat × AV)} {O : List (Nat × Obj)} (cf : Oper -> Bool) (own : List (Nat × List Nat)) (h : AOps prog ops cf Q ops.toList (mkSt L O)) (hB : lexS own cf ops = true := by decide +kernel) (hd : qD9 n ops.toList = true := by exact rfl) (hf : fixB own L = true := by exact rfl) :
    AWp prog B n (.region id ops true) (mkSt L O) Q := AWp.regionS own cf mixed hB hd (qUb hf) h
end
end Go.Sim.YtifjflhnfjhijaaGreatDoor
