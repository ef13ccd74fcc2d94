/- What is proved: the table of the types that the program has. -/
import Derived.Test.YtefpfeoimgkldaaDoorProg
import Derived.Test.YtefpfeoimgkldaaDoorZRRSimF
import Derived.Test.YtefpfeoimgkldaaDoorZRRSimL
import Derived.Test.YtefpfeoimgkldaaDoorZRRBig

namespace Go.Sim.YtefpfeoimgkldaaDoor
open Go.RowKit Go.Proofs Go.Proofs.Tryd
set_option maxRecDepth 100000
theorem entK {t : TypeId} {te : TE} {d : TypeDesc} {z : Value} (i : TypeInfo) (h2 : prog.underlying t = some d) (h1 : prog.info? t = some i := by exact rfl) (h3 : te.d.ok d := by first | rfl | trivial | exact ⟨rfl, rfl⟩) (h4 : i.size = te.size := by exact rfl) (h5 : i.bytes = te.bytes := by exact rfl) (h6 : i.zero = some z := by exact rfl)
    (h7 : flat te.zero = some z.cells.toList := by exact rfl) (h8 : te.zero.agg = te.d.agg := by exact rfl) (h9 : aggOk te.d.agg z := by first | rfl | trivial) (h10 : te.zero.len = te.size := by exact rfl) : EntryOk prog t te := ⟨i, d, z, h1, h2, h3, h4, h5, h6, h7, h8, h9, h10⟩
def te1 : TE := ⟨.other, 1, 8, .v .nilFunc⟩
theorem ok1 : EntryOk prog 1 te1 := entK Tryd.t1 Tryd.underlying1
def te2 : TE := ⟨.int .i64, 1, 8, .v (.int .i64 0)⟩
theorem ok2 : EntryOk prog 2 te2 := entK Tryd.t2 Tryd.underlying2
def te3 : TE := ⟨.int .i64, 1, 8, .v (.int .i64 0)⟩
theorem ok3 : EntryOk prog 3 te3 := entK Tryd.t3 Tryd.underlying3
def te4 : TE := ⟨.bool, 1, 1, .v (.bool false)⟩
theorem ok4 : EntryOk prog 4 te4 := entK Tryd.t4 Tryd.underlying4
def te5 : TE := ⟨.int .u8, 1, 1, .v (.int .u8 0)⟩
theorem ok5 : EntryOk prog 5 te5 := entK Tryd.t5 Tryd.underlying5
def te6 : TE := ⟨.int .u8, 1, 1, .v (.int .u8 0)⟩
theorem ok6 : EntryOk prog 6 te6 := entK Tryd.t6 Tryd.underlying6
def te7 : TE := ⟨.struct [(0, 2), (1, 3), (2, 4), (3, 6)], 4, 24, .st [1, 1, 1, 1] [.v (.int .i64 0), .v (.int .i64 0), .v (.bool false), .v (.int .u8 0)]⟩
theorem ok7 : EntryOk prog 7 te7 := entK Tryd.t7 Tryd.underlying7
def te8 : TE := ⟨.struct [(0, 2), (1, 3), (2, 4), (3, 6)], 4, 24, .st [1, 1, 1, 1] [.v (.int .i64 0), .v (.int .i64 0), .v (.bool false), .v (.int .u8 0)]⟩
theorem ok8 : EntryOk prog 8 te8 := entK Tryd.t8 Tryd.underlying8
def te9 : TE := ⟨.str, 1, 16, .v (.string ⟨#[]⟩)⟩
theorem ok9 : EntryOk prog 9 te9 := entK Tryd.t9 Tryd.underlying9
def te10 : TE := ⟨.str, 1, 16, .v (.string ⟨#[]⟩)⟩
theorem ok10 : EntryOk prog 10 te10 := entK Tryd.t10 Tryd.underlying10
def te11 : TE := ⟨.str, 1, 16, .v (.string ⟨#[]⟩)⟩
theorem ok11 : EntryOk prog 11 te11 := entK Tryd.t11 Tryd.underlying11
def te12 : TE := ⟨.int .u64, 1, 8, .v (.int .u64 0)⟩
theorem ok12 : EntryOk prog 12 te12 := entK Tryd.t12 Tryd.underlying12
def te13 : TE := ⟨.struct [(0, 9), (1, 12)], 2, 24, .st [1, 1] [.v (.string ⟨#[]⟩), .v (.int .u64 0)]⟩
theorem ok13 : EntryOk prog 13 te13 := entK Tryd.t13 Tryd.underlying13
def te14 : TE := ⟨.struct [(0, 9), (1, 12)], 2, 24, .st [1, 1] [.v (.string ⟨#[]⟩), .v (.int .u64 0)]⟩
theorem ok14 : EntryOk prog 14 te14 := entK Tryd.t14 Tryd.underlying14
def te15 : TE := ⟨.ptr 119, 1, 8, .v (.pointer none)⟩
theorem ok15 : EntryOk prog 15 te15 := entK Tryd.t15 Tryd.underlying15
def te16 : TE := ⟨.ptr 122, 1, 8, .v (.pointer none)⟩
theorem ok16 : EntryOk prog 16 te16 := entK Tryd.t16 Tryd.underlying16
def te17 : TE := ⟨.ptr 130, 1, 8, .v (.pointer none)⟩
theorem ok17 : EntryOk prog 17 te17 := entK Tryd.t17 Tryd.underlying17
def te18 : TE := ⟨.struct [(0, 17)], 1, 8, .st [1] [.v (.pointer none)]⟩
theorem ok18 : EntryOk prog 18 te18 := entK Tryd.t18 Tryd.underlying18
def te19 : TE := ⟨.struct [(0, 17)], 1, 8, .st [1] [.v (.pointer none)]⟩
theorem ok19 : EntryOk prog 19 te19 := entK Tryd.t19 Tryd.underlying19
def te21 : TE := ⟨.int .i32, 1, 4, .v (.int .i32 0)⟩
theorem ok21 : EntryOk prog 21 te21 := entK Tryd.t21 Tryd.underlying21
def te22 : TE := ⟨.struct [(0, 2), (1, 2)], 2, 16, .st [1, 1] [.v (.int .i64 0), .v (.int .i64 0)]⟩
theorem ok22 : EntryOk prog 22 te22 := entK Tryd.t22 Tryd.underlying22
def te23 : TE := ⟨.struct [(0, 2), (1, 2)], 2, 16, .st [1, 1] [.v (.int .i64 0), .v (.int .i64 0)]⟩
theorem ok23 : EntryOk prog 23 te23 := entK Tryd.t23 Tryd.underlying23
def te24 : TE := ⟨.int .i64, 1, 8, .v (.int .i64 0)⟩
theorem ok24 : EntryOk prog 24 te24 := entK Tryd.t24 Tryd.underlying24
def te26 : TE := ⟨.other, 1, 8, .v .nilFunc⟩
theorem ok26 : EntryOk prog 26 te26 := entK Tryd.t26 Tryd.underlying26
def te27 : TE := ⟨.other, 1, 8, .v .nilFunc⟩
theorem ok27 : EntryOk prog 27 te27 := entK Tryd.t27 Tryd.underlying27
def te29 : TE := ⟨.other, 1, 8, .v .nilFunc⟩
theorem ok29 : EntryOk prog 29 te29 := entK Tryd.t29 Tryd.underlying29
def te30 : TE := ⟨.other, 1, 8, .v .nilFunc⟩
theorem ok30 : EntryOk prog 30 te30 := entK Tryd.t30 Tryd.underlying30
def te31 : TE := ⟨.other, 1, 8, .v .nilFunc⟩
theorem ok31 : EntryOk prog 31 te31 := entK Tryd.t31 Tryd.underlying31
def te32 : TE := ⟨.other, 1, 8, .v .nilFunc⟩
theorem ok32 : EntryOk prog 32 te32 := entK Tryd.t32 Tryd.underlying32
def te36 : TE := ⟨.other, 1, 8, .v .nilFunc⟩
theorem ok36 : EntryOk prog 36 te36 := entK Tryd.t36 Tryd.underlying36
def te37 : TE := ⟨.slice 67, 1, 24, .sl 67 1 []⟩
theorem ok37 : EntryOk prog 37 te37 := entK Tryd.t37 Tryd.underlying37
def te38 : TE := ⟨.slice 67, 1, 24, .sl 67 1 []⟩
theorem ok38 : EntryOk prog 38 te38 := entK Tryd.t38 Tryd.underlying38
def te39 : TE := ⟨.other, 1, 8, .v .nilFunc⟩
theorem ok39 : EntryOk prog 39 te39 := entK Tryd.t39 Tryd.underlying39
def te40 : TE := ⟨.other, 1, 8, .v .nilFunc⟩
theorem ok40 : EntryOk prog 40 te40 := entK Tryd.t40 Tryd.underlying40
def te41 : TE := ⟨.int .u64, 1, 8, .v (.int .u64 0)⟩
theorem ok41 : EntryOk prog 41 te41 := entK Tryd.t41 Tryd.underlying41
def te42 : TE := ⟨.other, 1, 8, .v .nilFunc⟩
theorem ok42 : EntryOk prog 42 te42 := entK Tryd.t42 Tryd.underlying42
def te43 : TE := ⟨.other, 1, 8, .v .nilFunc⟩
theorem ok43 : EntryOk prog 43 te43 := entK Tryd.t43 Tryd.underlying43
def te44 : TE := ⟨.other, 1, 8, .v .nilFunc⟩
theorem ok44 : EntryOk prog 44 te44 := entK Tryd.t44 Tryd.underlying44
def te45 : TE := ⟨.other, 1, 8, .v .nilFunc⟩
theorem ok45 : EntryOk prog 45 te45 := entK Tryd.t45 Tryd.underlying45
def te47 : TE := ⟨.other, 1, 8, .v .nilFunc⟩
theorem ok47 : EntryOk prog 47 te47 := entK Tryd.t47 Tryd.underlying47
def te49 : TE := ⟨.other, 1, 8, .v .nilFunc⟩
theorem ok49 : EntryOk prog 49 te49 := entK Tryd.t49 Tryd.underlying49
def te50 : TE := ⟨.other, 1, 8, .v .nilFunc⟩
theorem ok50 : EntryOk prog 50 te50 := entK Tryd.t50 Tryd.underlying50
def te51 : TE := ⟨.arr 256 4, 256, 256, .ar 1 [.v (.bool false), .v (.bool false), .v (.bool false), .v (.bool false), .v (.bool false), .v (.bool false), .v (.bool false), .v (.bool false), .v (.bool false), .v (.bool false), .v (.bool false), .v (.bool false), .v (.bool false), .v (.bool false), .v (.bool false), .v (.bool false), .v (.bool false), .v (.bool false), .v (.bool false), .v (.bool false), .v (.bool false), .v (.bool false), .v (.bool false), .v (.bool false), .v (.bool false), .v (.bool false), .v (.bool false), .v (.bool false), .v (.bool false), .v (.bool false), .v (.bool false), .v (.bool false), .v (.bool false), .v (.bool false), .v (.bool false), .v (.bool false), .v (.bool false), .v (.bool false), .v (.bool false), .v (.bool false), .v (.bool false), .v (.bool false), .v (.bool false), .v (.bool false), .v (.bool false), .v (.bool false), .v (.bool false), .v (.bool false), .v (.bool false), .v (.bool false), .v (.bool false), .v (.bool false), .v (.bool false), .v (.bool false), .v (.bool false), .v (.bool false), .v (.bool false), .v (.bool false), .v (.bool false), .v (.bool false), .v (.bool false), .v (.bool false), .v (.bool false), .v (.bool false), .v (.bool false), .v (.bool false), .v (.bool false), .v (.bool false), .v (.bool false), .v (.bool false), .v (.bool false), .v (.bool false), .v (.bool false), .v (.bool false), .v (.bool false), .v (.bool false), .v (.bool false), .v (.bool false), .v (.bool false), .v (.bool false), .v (.bool false), .v (.bool false), .v (.bool false), .v (.bool false), .v (.bool false), .v (.bool false), .v (.bool false), .v (.bool false), .v (.bool false), .v (.bool false), .v (.bool false), .v (.bool false), .v (.bool false), .v (.bool false), .v (.bool false), .v (.bool false), .v (.bool false), .v (.bool false), .v (.bool false), .v (.bool false), .v (.bool false), .v (.bool false), .v (.bool false), .v (.bool false), .v (.bool false), .v (.bool false), .v (.bool false), .v (.bool false), .v (.bool false), .v (.bool false), .v (.bool false), .v (.bool false), .v (.bool false), .v (.bool false), .v (.bool false), .v (.bool false), .v (.bool false), .v (.bool false), .v (.bool false), .v (.bool false), .v (.bool false), .v (.bool false), .v (.bool false), .v (.bool false), .v (.bool false), .v (.bool false), .v (.bool false), .v (.bool false), .v (.bool false), .v (.bool false), .v (.bool false), .v (.bool false), .v (.bool false), .v (.bool false), .v (.bool false), .v (.bool false), .v (.bool false), .v (.bool false), .v (.bool false), .v (.bool false), .v (.bool false), .v (.bool false), .v (.bool false), .v (.bool false), .v (.bool false), .v (.bool false), .v (.bool false), .v (.bool false), .v (.bool false), .v (.bool false), .v (.bool false), .v (.bool false), .v (.bool false), .v (.bool false), .v (.bool false), .v (.bool false), .v (.bool false), .v (.bool false), .v (.bool false), .v (.bool false), .v (.bool false), .v (.bool false), .v (.bool false), .v (.bool false), .v (.bool false), .v (.bool false), .v (.bool false), .v (.bool false), .v (.bool false), .v (.bool false), .v (.bool false), .v (.bool false), .v (.bool false), .v (.bool false), .v (.bool false), .v (.bool false), .v (.bool false), .v (.bool false), .v (.bool false), .v (.bool false), .v (.bool false), .v (.bool false), .v (.bool false), .v (.bool false), .v (.bool false), .v (.bool false), .v (.bool false), .v (.bool false), .v (.bool false), .v (.bool false), .v (.bool false), .v (.bool false), .v (.bool false), .v (.bool false), .v (.bool false), .v (.bool false), .v (.bool false), .v (.bool false), .v (.bool false), .v (.bool false), .v (.bool false), .v (.bool false), .v (.bool false), .v (.bool false), .v (.bool false), .v (.bool false), .v (.bool false), .v (.bool false), .v (.bool false), .v (.bool false), .v (.bool false), .v (.bool false), .v (.bool false), .v (.bool false), .v (.bool false), .v (.bool false), .v (.bool false), .v (.bool false), .v (.bool false), .v (.bool false), .v (.bool false), .v (.bool false), .v (.bool false), .v (.bool false), .v (.bool false), .v (.bool false), .v (.bool false), .v (.bool false), .v (.bool false), .v (.bool false), .v (.bool false), .v (.bool false), .v (.bool false), .v (.bool false), .v (.bool false), .v (.bool false), .v (.bool false), .v (.bool false), .v (.bool false), .v (.bool false), .v (.bool false), .v (.bool false), .v (.bool false), .v (.bool false), .v (.bool false), .v (.bool false), .v (.bool false), .v (.bool false), .v (.bool false), .v (.bool false), .v (.bool false), .v (.bool false), .v (.bool false), .v (.bool false), .v (.bool false), .v (.bool false)]⟩
theorem ok51 : EntryOk prog 51 te51 := entK Tryd.t51 Tryd.underlying51
def te52 : TE := ⟨.arr 256 4, 256, 256, .ar 1 [.v (.bool false), .v (.bool false), .v (.bool false), .v (.bool false), .v (.bool false), .v (.bool false), .v (.bool false), .v (.bool false), .v (.bool false), .v (.bool false), .v (.bool false), .v (.bool false), .v (.bool false), .v (.bool false), .v (.bool false), .v (.bool false), .v (.bool false), .v (.bool false), .v (.bool false), .v (.bool false), .v (.bool false), .v (.bool false), .v (.bool false), .v (.bool false), .v (.bool false), .v (.bool false), .v (.bool false), .v (.bool false), .v (.bool false), .v (.bool false), .v (.bool false), .v (.bool false), .v (.bool false), .v (.bool false), .v (.bool false), .v (.bool false), .v (.bool false), .v (.bool false), .v (.bool false), .v (.bool false), .v (.bool false), .v (.bool false), .v (.bool false), .v (.bool false), .v (.bool false), .v (.bool false), .v (.bool false), .v (.bool false), .v (.bool false), .v (.bool false), .v (.bool false), .v (.bool false), .v (.bool false), .v (.bool false), .v (.bool false), .v (.bool false), .v (.bool false), .v (.bool false), .v (.bool false), .v (.bool false), .v (.bool false), .v (.bool false), .v (.bool false), .v (.bool false), .v (.bool false), .v (.bool false), .v (.bool false), .v (.bool false), .v (.bool false), .v (.bool false), .v (.bool false), .v (.bool false), .v (.bool false), .v (.bool false), .v (.bool false), .v (.bool false), .v (.bool false), .v (.bool false), .v (.bool false), .v (.bool false), .v (.bool false), .v (.bool false), .v (.bool false), .v (.bool false), .v (.bool false), .v (.bool false), .v (.bool false), .v (.bool false), .v (.bool false), .v (.bool false), .v (.bool false), .v (.bool false), .v (.bool false), .v (.bool false), .v (.bool false), .v (.bool false), .v (.bool false), .v (.bool false), .v (.bool false), .v (.bool false), .v (.bool false), .v (.bool false), .v (.bool false), .v (.bool false), .v (.bool false), .v (.bool false), .v (.bool false), .v (.bool false), .v (.bool false), .v (.bool false), .v (.bool false), .v (.bool false), .v (.bool false), .v (.bool false), .v (.bool false), .v (.bool false), .v (.bool false), .v (.bool false), .v (.bool false), .v (.bool false), .v (.bool false), .v (.bool false), .v (.bool false), .v (.bool false), .v (.bool false), .v (.bool false), .v (.bool false), .v (.bool false), .v (.bool false), .v (.bool false), .v (.bool false), .v (.bool false), .v (.bool false), .v (.bool false), .v (.bool false), .v (.bool false), .v (.bool false), .v (.bool false), .v (.bool false), .v (.bool false), .v (.bool false), .v (.bool false), .v (.bool false), .v (.bool false), .v (.bool false), .v (.bool false), .v (.bool false), .v (.bool false), .v (.bool false), .v (.bool false), .v (.bool false), .v (.bool false), .v (.bool false), .v (.bool false), .v (.bool false), .v (.bool false), .v (.bool false), .v (.bool false), .v (.bool false), .v (.bool false), .v (.bool false), .v (.bool false), .v (.bool false), .v (.bool false), .v (.bool false), .v (.bool false), .v (.bool false), .v (.bool false), .v (.bool false), .v (.bool false), .v (.bool false), .v (.bool false), .v (.bool false), .v (.bool false), .v (.bool false), .v (.bool false), .v (.bool false), .v (.bool false), .v (.bool false), .v (.bool false), .v (.bool false), .v (.bool false), .v (.bool false), .v (.bool false), .v (.bool false), .v (.bool false), .v (.bool false), .v (.bool false), .v (.bool false), .v (.bool false), .v (.bool false), .v (.bool false), .v (.bool false), .v (.bool false), .v (.bool false), .v (.bool false), .v (.bool false), .v (.bool false), .v (.bool false), .v (.bool false), .v (.bool false), .v (.bool false), .v (.bool false), .v (.bool false), .v (.bool false), .v (.bool false), .v (.bool false), .v (.bool false), .v (.bool false), .v (.bool false), .v (.bool false), .v (.bool false), .v (.bool false), .v (.bool false), .v (.bool false), .v (.bool false), .v (.bool false), .v (.bool false), .v (.bool false), .v (.bool false), .v (.bool false), .v (.bool false), .v (.bool false), .v (.bool false), .v (.bool false), .v (.bool false), .v (.bool false), .v (.bool false), .v (.bool false), .v (.bool false), .v (.bool false), .v (.bool false), .v (.bool false), .v (.bool false), .v (.bool false), .v (.bool false), .v (.bool false), .v (.bool false), .v (.bool false), .v (.bool false), .v (.bool false), .v (.bool false), .v (.bool false), .v (.bool false), .v (.bool false), .v (.bool false), .v (.bool false), .v (.bool false), .v (.bool false), .v (.bool false), .v (.bool false), .v (.bool false), .v (.bool false), .v (.bool false), .v (.bool false), .v (.bool false)]⟩
theorem ok52 : EntryOk prog 52 te52 := entK Tryd.t52 Tryd.underlying52
def te54 : TE := ⟨.other, 1, 8, .v .nilFunc⟩
theorem ok54 : EntryOk prog 54 te54 := entK Tryd.t54 Tryd.underlying54
def te55 : TE := ⟨.other, 1, 8, .v .nilFunc⟩
theorem ok55 : EntryOk prog 55 te55 := entK Tryd.t55 Tryd.underlying55
def te56 : TE := ⟨.ptr 52, 1, 8, .v (.pointer none)⟩
theorem ok56 : EntryOk prog 56 te56 := entK Tryd.t56 Tryd.underlying56
def te57 : TE := ⟨.slice 5, 1, 24, .sl 5 1 []⟩
theorem ok57 : EntryOk prog 57 te57 := entK Tryd.t57 Tryd.underlying57
def te58 : TE := ⟨.other, 1, 8, .v .nilFunc⟩
theorem ok58 : EntryOk prog 58 te58 := entK Tryd.t58 Tryd.underlying58
def te60 : TE := ⟨.other, 1, 8, .v .nilFunc⟩
theorem ok60 : EntryOk prog 60 te60 := entK Tryd.t60 Tryd.underlying60
def te62 : TE := ⟨.other, 1, 8, .v .nilFunc⟩
theorem ok62 : EntryOk prog 62 te62 := entK Tryd.t62 Tryd.underlying62
def te63 : TE := ⟨.other, 1, 8, .v .nilFunc⟩
theorem ok63 : EntryOk prog 63 te63 := entK Tryd.t63 Tryd.underlying63
def te64 : TE := ⟨.other, 1, 8, .v .nilFunc⟩
theorem ok64 : EntryOk prog 64 te64 := entK Tryd.t64 Tryd.underlying64
def te65 : TE := ⟨.other, 1, 8, .v .nilFunc⟩
theorem ok65 : EntryOk prog 65 te65 := entK Tryd.t65 Tryd.underlying65
def te66 : TE := ⟨.other, 1, 8, .v .nilFunc⟩
theorem ok66 : EntryOk prog 66 te66 := entK Tryd.t66 Tryd.underlying66
def te67 : TE := ⟨.int .u32, 1, 4, .v (.int .u32 0)⟩
theorem ok67 : EntryOk prog 67 te67 := entK Tryd.t67 Tryd.underlying67
def te68 : TE := ⟨.int .u64, 1, 8, .v (.int .u64 0)⟩
theorem ok68 : EntryOk prog 68 te68 := entK Tryd.t68 Tryd.underlying68
def te70 : TE := ⟨.other, 1, 8, .v .nilFunc⟩
theorem ok70 : EntryOk prog 70 te70 := entK Tryd.t70 Tryd.underlying70
def te71 : TE := ⟨.other, 1, 8, .v .nilFunc⟩
theorem ok71 : EntryOk prog 71 te71 := entK Tryd.t71 Tryd.underlying71
def te73 : TE := ⟨.other, 1, 8, .v .nilFunc⟩
theorem ok73 : EntryOk prog 73 te73 := entK Tryd.t73 Tryd.underlying73
def te74 : TE := ⟨.other, 1, 8, .v .nilFunc⟩
theorem ok74 : EntryOk prog 74 te74 := entK Tryd.t74 Tryd.underlying74
def te75 : TE := ⟨.other, 1, 8, .v .nilFunc⟩
theorem ok75 : EntryOk prog 75 te75 := entK Tryd.t75 Tryd.underlying75
def te76 : TE := ⟨.int .i64, 1, 8, .v (.int .i64 0)⟩
theorem ok76 : EntryOk prog 76 te76 := entK Tryd.t76 Tryd.underlying76
def te78 : TE := ⟨.other, 1, 8, .v .nilFunc⟩
theorem ok78 : EntryOk prog 78 te78 := entK Tryd.t78 Tryd.underlying78
def te79 : TE := ⟨.ptr 89, 1, 8, .v (.pointer none)⟩
theorem ok79 : EntryOk prog 79 te79 := entK Tryd.t79 Tryd.underlying79
def te80 : TE := ⟨.other, 1, 8, .v .nilFunc⟩
theorem ok80 : EntryOk prog 80 te80 := entK Tryd.t80 Tryd.underlying80
def te81 : TE := ⟨.other, 1, 8, .v .nilFunc⟩
theorem ok81 : EntryOk prog 81 te81 := entK Tryd.t81 Tryd.underlying81
def te82 : TE := ⟨.other, 1, 8, .v .nilFunc⟩
theorem ok82 : EntryOk prog 82 te82 := entK Tryd.t82 Tryd.underlying82
def te83 : TE := ⟨.other, 1, 8, .v .nilFunc⟩
theorem ok83 : EntryOk prog 83 te83 := entK Tryd.t83 Tryd.underlying83
def te84 : TE := ⟨.other, 1, 8, .v .nilFunc⟩
theorem ok84 : EntryOk prog 84 te84 := entK Tryd.t84 Tryd.underlying84
def te85 : TE := ⟨.other, 1, 8, .v .nilFunc⟩
theorem ok85 : EntryOk prog 85 te85 := entK Tryd.t85 Tryd.underlying85
def te86 : TE := ⟨.other, 1, 8, .v .nilFunc⟩
theorem ok86 : EntryOk prog 86 te86 := entK Tryd.t86 Tryd.underlying86
def te87 : TE := ⟨.other, 1, 8, .v .nilFunc⟩
theorem ok87 : EntryOk prog 87 te87 := entK Tryd.t87 Tryd.underlying87
def te90 : TE := ⟨.other, 1, 8, .v .nilFunc⟩
theorem ok90 : EntryOk prog 90 te90 := entK Tryd.t90 Tryd.underlying90
def te91 : TE := ⟨.other, 1, 8, .v .nilFunc⟩
theorem ok91 : EntryOk prog 91 te91 := entK Tryd.t91 Tryd.underlying91
def te92 : TE := ⟨.arr 256 5, 256, 256, .ar 1 [.v (.int .u8 0), .v (.int .u8 0), .v (.int .u8 0), .v (.int .u8 0), .v (.int .u8 0), .v (.int .u8 0), .v (.int .u8 0), .v (.int .u8 0), .v (.int .u8 0), .v (.int .u8 0), .v (.int .u8 0), .v (.int .u8 0), .v (.int .u8 0), .v (.int .u8 0), .v (.int .u8 0), .v (.int .u8 0), .v (.int .u8 0), .v (.int .u8 0), .v (.int .u8 0), .v (.int .u8 0), .v (.int .u8 0), .v (.int .u8 0), .v (.int .u8 0), .v (.int .u8 0), .v (.int .u8 0), .v (.int .u8 0), .v (.int .u8 0), .v (.int .u8 0), .v (.int .u8 0), .v (.int .u8 0), .v (.int .u8 0), .v (.int .u8 0), .v (.int .u8 0), .v (.int .u8 0), .v (.int .u8 0), .v (.int .u8 0), .v (.int .u8 0), .v (.int .u8 0), .v (.int .u8 0), .v (.int .u8 0), .v (.int .u8 0), .v (.int .u8 0), .v (.int .u8 0), .v (.int .u8 0), .v (.int .u8 0), .v (.int .u8 0), .v (.int .u8 0), .v (.int .u8 0), .v (.int .u8 0), .v (.int .u8 0), .v (.int .u8 0), .v (.int .u8 0), .v (.int .u8 0), .v (.int .u8 0), .v (.int .u8 0), .v (.int .u8 0), .v (.int .u8 0), .v (.int .u8 0), .v (.int .u8 0), .v (.int .u8 0), .v (.int .u8 0), .v (.int .u8 0), .v (.int .u8 0), .v (.int .u8 0), .v (.int .u8 0), .v (.int .u8 0), .v (.int .u8 0), .v (.int .u8 0), .v (.int .u8 0), .v (.int .u8 0), .v (.int .u8 0), .v (.int .u8 0), .v (.int .u8 0), .v (.int .u8 0), .v (.int .u8 0), .v (.int .u8 0), .v (.int .u8 0), .v (.int .u8 0), .v (.int .u8 0), .v (.int .u8 0), .v (.int .u8 0), .v (.int .u8 0), .v (.int .u8 0), .v (.int .u8 0), .v (.int .u8 0), .v (.int .u8 0), .v (.int .u8 0), .v (.int .u8 0), .v (.int .u8 0), .v (.int .u8 0), .v (.int .u8 0), .v (.int .u8 0), .v (.int .u8 0), .v (.int .u8 0), .v (.int .u8 0), .v (.int .u8 0), .v (.int .u8 0), .v (.int .u8 0), .v (.int .u8 0), .v (.int .u8 0), .v (.int .u8 0), .v (.int .u8 0), .v (.int .u8 0), .v (.int .u8 0), .v (.int .u8 0), .v (.int .u8 0), .v (.int .u8 0), .v (.int .u8 0), .v (.int .u8 0), .v (.int .u8 0), .v (.int .u8 0), .v (.int .u8 0), .v (.int .u8 0), .v (.int .u8 0), .v (.int .u8 0), .v (.int .u8 0), .v (.int .u8 0), .v (.int .u8 0), .v (.int .u8 0), .v (.int .u8 0), .v (.int .u8 0), .v (.int .u8 0), .v (.int .u8 0), .v (.int .u8 0), .v (.int .u8 0), .v (.int .u8 0), .v (.int .u8 0), .v (.int .u8 0), .v (.int .u8 0), .v (.int .u8 0), .v (.int .u8 0), .v (.int .u8 0), .v (.int .u8 0), .v (.int .u8 0), .v (.int .u8 0), .v (.int .u8 0), .v (.int .u8 0), .v (.int .u8 0), .v (.int .u8 0), .v (.int .u8 0), .v (.int .u8 0), .v (.int .u8 0), .v (.int .u8 0), .v (.int .u8 0), .v (.int .u8 0), .v (.int .u8 0), .v (.int .u8 0), .v (.int .u8 0), .v (.int .u8 0), .v (.int .u8 0), .v (.int .u8 0), .v (.int .u8 0), .v (.int .u8 0), .v (.int .u8 0), .v (.int .u8 0), .v (.int .u8 0), .v (.int .u8 0), .v (.int .u8 0), .v (.int .u8 0), .v (.int .u8 0), .v (.int .u8 0), .v (.int .u8 0), .v (.int .u8 0), .v (.int .u8 0), .v (.int .u8 0), .v (.int .u8 0), .v (.int .u8 0), .v (.int .u8 0), .v (.int .u8 0), .v (.int .u8 0), .v (.int .u8 0), .v (.int .u8 0), .v (.int .u8 0), .v (.int .u8 0), .v (.int .u8 0), .v (.int .u8 0), .v (.int .u8 0), .v (.int .u8 0), .v (.int .u8 0), .v (.int .u8 0), .v (.int .u8 0), .v (.int .u8 0), .v (.int .u8 0), .v (.int .u8 0), .v (.int .u8 0), .v (.int .u8 0), .v (.int .u8 0), .v (.int .u8 0), .v (.int .u8 0), .v (.int .u8 0), .v (.int .u8 0), .v (.int .u8 0), .v (.int .u8 0), .v (.int .u8 0), .v (.int .u8 0), .v (.int .u8 0), .v (.int .u8 0), .v (.int .u8 0), .v (.int .u8 0), .v (.int .u8 0), .v (.int .u8 0), .v (.int .u8 0), .v (.int .u8 0), .v (.int .u8 0), .v (.int .u8 0), .v (.int .u8 0), .v (.int .u8 0), .v (.int .u8 0), .v (.int .u8 0), .v (.int .u8 0), .v (.int .u8 0), .v (.int .u8 0), .v (.int .u8 0), .v (.int .u8 0), .v (.int .u8 0), .v (.int .u8 0), .v (.int .u8 0), .v (.int .u8 0), .v (.int .u8 0), .v (.int .u8 0), .v (.int .u8 0), .v (.int .u8 0), .v (.int .u8 0), .v (.int .u8 0), .v (.int .u8 0), .v (.int .u8 0), .v (.int .u8 0), .v (.int .u8 0), .v (.int .u8 0), .v (.int .u8 0), .v (.int .u8 0), .v (.int .u8 0), .v (.int .u8 0), .v (.int .u8 0), .v (.int .u8 0), .v (.int .u8 0), .v (.int .u8 0), .v (.int .u8 0), .v (.int .u8 0), .v (.int .u8 0), .v (.int .u8 0), .v (.int .u8 0), .v (.int .u8 0), .v (.int .u8 0), .v (.int .u8 0), .v (.int .u8 0), .v (.int .u8 0), .v (.int .u8 0), .v (.int .u8 0), .v (.int .u8 0), .v (.int .u8 0), .v (.int .u8 0), .v (.int .u8 0), .v (.int .u8 0), .v (.int .u8 0), .v (.int .u8 0)]⟩
theorem ok92 : EntryOk prog 92 te92 := entK Tryd.t92 Tryd.underlying92
def te93 : TE := ⟨.struct [(0, 5), (1, 5)], 2, 2, .st [1, 1] [.v (.int .u8 0), .v (.int .u8 0)]⟩
theorem ok93 : EntryOk prog 93 te93 := entK Tryd.t93 Tryd.underlying93
def te94 : TE := ⟨.struct [(0, 5), (1, 5)], 2, 2, .st [1, 1] [.v (.int .u8 0), .v (.int .u8 0)]⟩
theorem ok94 : EntryOk prog 94 te94 := entK Tryd.t94 Tryd.underlying94
def te95 : TE := ⟨.arr 16 94, 32, 32, .ar 2 [.st [1, 1] [.v (.int .u8 0), .v (.int .u8 0)], .st [1, 1] [.v (.int .u8 0), .v (.int .u8 0)], .st [1, 1] [.v (.int .u8 0), .v (.int .u8 0)], .st [1, 1] [.v (.int .u8 0), .v (.int .u8 0)], .st [1, 1] [.v (.int .u8 0), .v (.int .u8 0)], .st [1, 1] [.v (.int .u8 0), .v (.int .u8 0)], .st [1, 1] [.v (.int .u8 0), .v (.int .u8 0)], .st [1, 1] [.v (.int .u8 0), .v (.int .u8 0)], .st [1, 1] [.v (.int .u8 0), .v (.int .u8 0)], .st [1, 1] [.v (.int .u8 0), .v (.int .u8 0)], .st [1, 1] [.v (.int .u8 0), .v (.int .u8 0)], .st [1, 1] [.v (.int .u8 0), .v (.int .u8 0)], .st [1, 1] [.v (.int .u8 0), .v (.int .u8 0)], .st [1, 1] [.v (.int .u8 0), .v (.int .u8 0)], .st [1, 1] [.v (.int .u8 0), .v (.int .u8 0)], .st [1, 1] [.v (.int .u8 0), .v (.int .u8 0)]]⟩
theorem ok95 : EntryOk prog 95 te95 := entK Tryd.t95 Tryd.underlying95
def te96 : TE := ⟨.other, 1, 8, .v .nilFunc⟩
theorem ok96 : EntryOk prog 96 te96 := entK Tryd.t96 Tryd.underlying96
def te97 : TE := ⟨.other, 1, 8, .v .nilFunc⟩
theorem ok97 : EntryOk prog 97 te97 := entK Tryd.t97 Tryd.underlying97
def te98 : TE := ⟨.other, 1, 8, .v .nilFunc⟩
theorem ok98 : EntryOk prog 98 te98 := entK Tryd.t98 Tryd.underlying98
def te99 : TE := ⟨.other, 1, 8, .v .nilFunc⟩
theorem ok99 : EntryOk prog 99 te99 := entK Tryd.t99 Tryd.underlying99
def te100 : TE := ⟨.ptr 5, 1, 8, .v (.pointer none)⟩
theorem ok100 : EntryOk prog 100 te100 := entK Tryd.t100 Tryd.underlying100
def te101 : TE := ⟨.ptr 103, 1, 8, .v (.pointer none)⟩
theorem ok101 : EntryOk prog 101 te101 := entK Tryd.t101 Tryd.underlying101
def te102 : TE := ⟨.struct [(0, 9)], 1, 16, .st [1] [.v (.string ⟨#[]⟩)]⟩
theorem ok102 : EntryOk prog 102 te102 := entK Tryd.t102 Tryd.underlying102
def te103 : TE := ⟨.struct [(0, 9)], 1, 16, .st [1] [.v (.string ⟨#[]⟩)]⟩
theorem ok103 : EntryOk prog 103 te103 := entK Tryd.t103 Tryd.underlying103
def te104 : TE := ⟨.other, 1, 8, .v .nilFunc⟩
theorem ok104 : EntryOk prog 104 te104 := entK Tryd.t104 Tryd.underlying104
def te105 : TE := ⟨.arr 24 5, 24, 24, .ar 1 [.v (.int .u8 0), .v (.int .u8 0), .v (.int .u8 0), .v (.int .u8 0), .v (.int .u8 0), .v (.int .u8 0), .v (.int .u8 0), .v (.int .u8 0), .v (.int .u8 0), .v (.int .u8 0), .v (.int .u8 0), .v (.int .u8 0), .v (.int .u8 0), .v (.int .u8 0), .v (.int .u8 0), .v (.int .u8 0), .v (.int .u8 0), .v (.int .u8 0), .v (.int .u8 0), .v (.int .u8 0), .v (.int .u8 0), .v (.int .u8 0), .v (.int .u8 0), .v (.int .u8 0)]⟩
theorem ok105 : EntryOk prog 105 te105 := entK Tryd.t105 Tryd.underlying105
def te106 : TE := ⟨.other, 1, 8, .v .nilFunc⟩
theorem ok106 : EntryOk prog 106 te106 := entK Tryd.t106 Tryd.underlying106
def te108 : TE := ⟨.other, 1, 8, .v .nilFunc⟩
theorem ok108 : EntryOk prog 108 te108 := entK Tryd.t108 Tryd.underlying108
def te109 : TE := ⟨.other, 1, 8, .v .nilFunc⟩
theorem ok109 : EntryOk prog 109 te109 := entK Tryd.t109 Tryd.underlying109
def te110 : TE := ⟨.arr 20 41, 20, 160, .ar 1 [.v (.int .u64 0), .v (.int .u64 0), .v (.int .u64 0), .v (.int .u64 0), .v (.int .u64 0), .v (.int .u64 0), .v (.int .u64 0), .v (.int .u64 0), .v (.int .u64 0), .v (.int .u64 0), .v (.int .u64 0), .v (.int .u64 0), .v (.int .u64 0), .v (.int .u64 0), .v (.int .u64 0), .v (.int .u64 0), .v (.int .u64 0), .v (.int .u64 0), .v (.int .u64 0), .v (.int .u64 0)]⟩
theorem ok110 : EntryOk prog 110 te110 := entK Tryd.t110 Tryd.underlying110
def te111 : TE := ⟨.arr 65 5, 65, 65, .ar 1 [.v (.int .u8 0), .v (.int .u8 0), .v (.int .u8 0), .v (.int .u8 0), .v (.int .u8 0), .v (.int .u8 0), .v (.int .u8 0), .v (.int .u8 0), .v (.int .u8 0), .v (.int .u8 0), .v (.int .u8 0), .v (.int .u8 0), .v (.int .u8 0), .v (.int .u8 0), .v (.int .u8 0), .v (.int .u8 0), .v (.int .u8 0), .v (.int .u8 0), .v (.int .u8 0), .v (.int .u8 0), .v (.int .u8 0), .v (.int .u8 0), .v (.int .u8 0), .v (.int .u8 0), .v (.int .u8 0), .v (.int .u8 0), .v (.int .u8 0), .v (.int .u8 0), .v (.int .u8 0), .v (.int .u8 0), .v (.int .u8 0), .v (.int .u8 0), .v (.int .u8 0), .v (.int .u8 0), .v (.int .u8 0), .v (.int .u8 0), .v (.int .u8 0), .v (.int .u8 0), .v (.int .u8 0), .v (.int .u8 0), .v (.int .u8 0), .v (.int .u8 0), .v (.int .u8 0), .v (.int .u8 0), .v (.int .u8 0), .v (.int .u8 0), .v (.int .u8 0), .v (.int .u8 0), .v (.int .u8 0), .v (.int .u8 0), .v (.int .u8 0), .v (.int .u8 0), .v (.int .u8 0), .v (.int .u8 0), .v (.int .u8 0), .v (.int .u8 0), .v (.int .u8 0), .v (.int .u8 0), .v (.int .u8 0), .v (.int .u8 0), .v (.int .u8 0), .v (.int .u8 0), .v (.int .u8 0), .v (.int .u8 0), .v (.int .u8 0)]⟩
theorem ok111 : EntryOk prog 111 te111 := entK Tryd.t111 Tryd.underlying111
def te112 : TE := ⟨.other, 1, 8, .v .nilFunc⟩
theorem ok112 : EntryOk prog 112 te112 := entK Tryd.t112 Tryd.underlying112
def te113 : TE := ⟨.other, 1, 8, .v .nilFunc⟩
theorem ok113 : EntryOk prog 113 te113 := entK Tryd.t113 Tryd.underlying113
def te114 : TE := ⟨.other, 1, 8, .v .nilFunc⟩
theorem ok114 : EntryOk prog 114 te114 := entK Tryd.t114 Tryd.underlying114
def te115 : TE := ⟨.arr 32 5, 32, 32, .ar 1 [.v (.int .u8 0), .v (.int .u8 0), .v (.int .u8 0), .v (.int .u8 0), .v (.int .u8 0), .v (.int .u8 0), .v (.int .u8 0), .v (.int .u8 0), .v (.int .u8 0), .v (.int .u8 0), .v (.int .u8 0), .v (.int .u8 0), .v (.int .u8 0), .v (.int .u8 0), .v (.int .u8 0), .v (.int .u8 0), .v (.int .u8 0), .v (.int .u8 0), .v (.int .u8 0), .v (.int .u8 0), .v (.int .u8 0), .v (.int .u8 0), .v (.int .u8 0), .v (.int .u8 0), .v (.int .u8 0), .v (.int .u8 0), .v (.int .u8 0), .v (.int .u8 0), .v (.int .u8 0), .v (.int .u8 0), .v (.int .u8 0), .v (.int .u8 0)]⟩
theorem ok115 : EntryOk prog 115 te115 := entK Tryd.t115 Tryd.underlying115
def te116 : TE := ⟨.arr 64 5, 64, 64, .ar 1 [.v (.int .u8 0), .v (.int .u8 0), .v (.int .u8 0), .v (.int .u8 0), .v (.int .u8 0), .v (.int .u8 0), .v (.int .u8 0), .v (.int .u8 0), .v (.int .u8 0), .v (.int .u8 0), .v (.int .u8 0), .v (.int .u8 0), .v (.int .u8 0), .v (.int .u8 0), .v (.int .u8 0), .v (.int .u8 0), .v (.int .u8 0), .v (.int .u8 0), .v (.int .u8 0), .v (.int .u8 0), .v (.int .u8 0), .v (.int .u8 0), .v (.int .u8 0), .v (.int .u8 0), .v (.int .u8 0), .v (.int .u8 0), .v (.int .u8 0), .v (.int .u8 0), .v (.int .u8 0), .v (.int .u8 0), .v (.int .u8 0), .v (.int .u8 0), .v (.int .u8 0), .v (.int .u8 0), .v (.int .u8 0), .v (.int .u8 0), .v (.int .u8 0), .v (.int .u8 0), .v (.int .u8 0), .v (.int .u8 0), .v (.int .u8 0), .v (.int .u8 0), .v (.int .u8 0), .v (.int .u8 0), .v (.int .u8 0), .v (.int .u8 0), .v (.int .u8 0), .v (.int .u8 0), .v (.int .u8 0), .v (.int .u8 0), .v (.int .u8 0), .v (.int .u8 0), .v (.int .u8 0), .v (.int .u8 0), .v (.int .u8 0), .v (.int .u8 0), .v (.int .u8 0), .v (.int .u8 0), .v (.int .u8 0), .v (.int .u8 0), .v (.int .u8 0), .v (.int .u8 0), .v (.int .u8 0), .v (.int .u8 0)]⟩
theorem ok116 : EntryOk prog 116 te116 := entK Tryd.t116 Tryd.underlying116
def te117 : TE := ⟨.other, 1, 8, .v .nilFunc⟩
theorem ok117 : EntryOk prog 117 te117 := entK Tryd.t117 Tryd.underlying117
def te118 : TE := ⟨.struct [(0, 17), (1, 17), (2, 17), (3, 9)], 4, 40, .st [1, 1, 1, 1] [.v (.pointer none), .v (.pointer none), .v (.pointer none), .v (.string ⟨#[]⟩)]⟩
theorem ok118 : EntryOk prog 118 te118 := entK Tryd.t118 Tryd.underlying118
def te119 : TE := ⟨.struct [(0, 17), (1, 17), (2, 17), (3, 9)], 4, 40, .st [1, 1, 1, 1] [.v (.pointer none), .v (.pointer none), .v (.pointer none), .v (.string ⟨#[]⟩)]⟩
theorem ok119 : EntryOk prog 119 te119 := entK Tryd.t119 Tryd.underlying119
def te120 : TE := ⟨.arr 0 16, 0, 0, .ar 1 []⟩
theorem ok120 : EntryOk prog 120 te120 := entK Tryd.t120 Tryd.underlying120
def te121 : TE := ⟨.struct [(0, 120)], 0, 0, .st [0] [.ar 1 []]⟩
theorem ok121 : EntryOk prog 121 te121 := entK Tryd.t121 Tryd.underlying121
def te122 : TE := ⟨.struct [(0, 120)], 0, 0, .st [0] [.ar 1 []]⟩
theorem ok122 : EntryOk prog 122 te122 := entK Tryd.t122 Tryd.underlying122
def te123 : TE := ⟨.other, 1, 8, .v .nilFunc⟩
theorem ok123 : EntryOk prog 123 te123 := entK Tryd.t123 Tryd.underlying123
def te124 : TE := ⟨.int .u8, 1, 1, .v (.int .u8 0)⟩
theorem ok124 : EntryOk prog 124 te124 := entK Tryd.t124 Tryd.underlying124
def te125 : TE := ⟨.int .u8, 1, 1, .v (.int .u8 0)⟩
theorem ok125 : EntryOk prog 125 te125 := entK Tryd.t125 Tryd.underlying125
def te126 : TE := ⟨.other, 1, 8, .v .nilFunc⟩
theorem ok126 : EntryOk prog 126 te126 := entK Tryd.t126 Tryd.underlying126
def te127 : TE := ⟨.int .i32, 1, 4, .v (.int .i32 0)⟩
theorem ok127 : EntryOk prog 127 te127 := entK Tryd.t127 Tryd.underlying127
def te128 : TE := ⟨.int .i32, 1, 4, .v (.int .i32 0)⟩
theorem ok128 : EntryOk prog 128 te128 := entK Tryd.t128 Tryd.underlying128
def te129 : TE := ⟨.struct [(0, 12), (1, 12), (2, 67), (3, 124), (4, 5), (5, 5), (6, 125), (7, 126), (8, 100), (9, 127), (10, 128)], 11, 48, .st [1, 1, 1, 1, 1, 1, 1, 1, 1, 1, 1] [.v (.int .u64 0), .v (.int .u64 0), .v (.int .u32 0), .v (.int .u8 0), .v (.int .u8 0), .v (.int .u8 0), .v (.int .u8 0), .v .nilFunc, .v (.pointer none), .v (.int .i32 0), .v (.int .i32 0)]⟩
theorem ok129 : EntryOk prog 129 te129 := entK Tryd.t129 Tryd.underlying129
def te130 : TE := ⟨.struct [(0, 12), (1, 12), (2, 67), (3, 124), (4, 5), (5, 5), (6, 125), (7, 126), (8, 100), (9, 127), (10, 128)], 11, 48, .st [1, 1, 1, 1, 1, 1, 1, 1, 1, 1, 1] [.v (.int .u64 0), .v (.int .u64 0), .v (.int .u32 0), .v (.int .u8 0), .v (.int .u8 0), .v (.int .u8 0), .v (.int .u8 0), .v .nilFunc, .v (.pointer none), .v (.int .i32 0), .v (.int .i32 0)]⟩
theorem ok130 : EntryOk prog 130 te130 := entK Tryd.t130 Tryd.underlying130
def tab : Tab := [none, some te1, some te2, some te3, some te4, some te5, some te6, some te7, some te8, some te9, some te10, some te11, some te12, some te13, some te14, some te15, some te16, some te17, some te18, some te19, none, some te21, some te22, some te23, some te24, none, some te26, some te27, none, some te29, some te30, some te31, some te32, none, none, none, some te36, some te37, some te38, some te39, some te40, some te41, some te42, some te43, some te44, some te45, none, some te47, none, some te49, some te50, some te51, some te52, none, some te54, some te55, some te56, some te57, some te58, none, some te60, none, some te62, some te63, some te64, some te65, some te66, some te67, some te68, none, some te70, some te71, none, some te73, some te74, some te75, some te76, none, some te78, some te79, some te80, some te81, some te82, some te83, some te84, some te85, some te86, some te87, none, none, some te90, some te91, some te92, some te93, some te94, some te95, some te96, some te97, some te98, some te99, some te100, some te101, some te102, some te103, some te104, some te105, some te106, none, some te108, some te109, some te110, some te111, some te112, some te113, some te114, some te115, some te116, some te117, some te118, some te119, some te120, some te121, some te122, some te123, some te124, some te125, some te126, some te127, some te128, some te129, some te130, none]
def TabL (P : Program) : Nat → Tab → Prop
  | _, [] => True
  | k, some te :: T => EntryOk P k te ∧ TabL P (k + 1) T
  | k, none :: T => TabL P (k + 1) T
theorem TabL.get {P : Program} : ∀ (T : Tab) (k t : Nat) (te : TE), TabL P k T → tget T t = some te → EntryOk P (k + t) te
  | [], _, t, _, _, h => by simp [tget] at h
  | some te' :: T, k, 0, te, hl, h => by simp [tget] at h; subst h; exact hl.1
  | none :: T, k, 0, te, hl, h => by simp [tget] at h
  | some te' :: T, k, t + 1, te, hl, h => by
    have := TabL.get T (k + 1) t te hl.2 (by simpa [tget] using h)
    rwa [Nat.add_right_comm] at this
  | none :: T, k, t + 1, te, hl, h => by
    have := TabL.get T (k + 1) t te hl (by simpa [tget] using h)
    rwa [Nat.add_right_comm] at this
theorem tabOk : TabOk prog tab := fun t te h => by
  have := TabL.get (P := prog) tab 0 t te ⟨ok1, ok2, ok3, ok4, ok5, ok6, ok7, ok8, ok9, ok10, ok11, ok12, ok13, ok14, ok15, ok16, ok17, ok18, ok19, ok21, ok22, ok23, ok24, ok26, ok27, ok29, ok30, ok31, ok32, ok36, ok37, ok38, ok39, ok40, ok41, ok42, ok43, ok44, ok45, ok47, ok49, ok50, ok51, ok52, ok54, ok55, ok56, ok57, ok58, ok60, ok62, ok63, ok64, ok65, ok66, ok67, ok68, ok70, ok71, ok73, ok74, ok75, ok76, ok78, ok79, ok80, ok81, ok82, ok83, ok84, ok85, ok86, ok87, ok90, ok91, ok92, ok93, ok94, ok95, ok96, ok97, ok98, ok99, ok100, ok101, ok102, ok103, ok104, ok105, ok106, ok108, ok109, ok110, ok111, ok112, ok113, ok114, ok115, ok116, ok117, ok118, ok119, ok120, ok121, ok122, ok123, ok124, ok125, ok126, ok127, ok128, ok129, ok130, trivial⟩ h
  rwa [Nat.zero_add] at this
section
variable {ops : Array Oper} {cf : Oper → Bool} {K : AExit → St → Prop} {o : Oper} {rest : List Oper} {L : List (Nat × AV)} {O : List (Nat × Obj)} {d : Nat}
theorem pI {κ : IntKind} {i : Int} (h : opD tab ops L O o = some (d, .dat (.v (.int κ i)))) (k : AOps prog ops cf K rest (mkSt ((d, .dat (.v (.int κ i))) :: L) O)) : AOps prog ops cf K (o :: rest) (mkSt L O) := AOps.pD tabOk h k
theorem pB {i : Bool} (h : opD tab ops L O o = some (d, .dat (.v (.bool i)))) (k : AOps prog ops cf K rest (mkSt ((d, .dat (.v (.bool i))) :: L) O)) : AOps prog ops cf K (o :: rest) (mkSt L O) := AOps.pD tabOk h k
theorem pG {i : ByteArray} (h : opD tab ops L O o = some (d, .dat (.v (.string i)))) (k : AOps prog ops cf K rest (mkSt ((d, .dat (.v (.string i))) :: L) O)) : AOps prog ops cf K (o :: rest) (mkSt L O) := AOps.pD tabOk h k
theorem pS {E : TypeId} {sz : Nat} {xs : List DV} (h : opD tab ops L O o = some (d, .dat (.sl E sz xs))) (k : AOps prog ops cf K rest (mkSt ((d, .dat (.sl E sz xs)) :: L) O)) : AOps prog ops cf K (o :: rest) (mkSt L O) := AOps.pD tabOk h k
theorem pT {ns : List Nat} {xs : List DV} (h : opD tab ops L O o = some (d, .dat (.st ns xs))) (k : AOps prog ops cf K rest (mkSt ((d, .dat (.st ns xs)) :: L) O)) : AOps prog ops cf K (o :: rest) (mkSt L O) := AOps.pD tabOk h k
theorem pU {xs : List DV} (h : opD tab ops L O o = some (d, .dat (.tup xs))) (k : AOps prog ops cf K rest (mkSt ((d, .dat (.tup xs)) :: L) O)) : AOps prog ops cf K (o :: rest) (mkSt L O) := AOps.pD tabOk h k
theorem pO {id : Nat} (h : opD tab ops L O o = some (d, .oref id)) (k : AOps prog ops cf K rest (mkSt ((d, .oref id) :: L) O)) : AOps prog ops cf K (o :: rest) (mkSt L O) := AOps.pD tabOk h k
theorem pW {x : DV} (h : opD tab ops L O o = some (d, .dat x)) (k : AOps prog ops cf K rest (mkSt ((d, .dat x) :: L) O)) : AOps prog ops cf K (o :: rest) (mkSt L O) := AOps.pD tabOk h k
theorem dn {σ : St} (h : K .normal σ) : AOps prog ops cf K [] σ := h
theorem ff (h : dstX ops L o = some d) (k : AOps prog ops cf K rest (mkSt ((d, .dat (.tup [])) :: L) O)) : AOps prog ops cf K (o :: rest) (mkSt L O) := AOps.off (dstX_ok h).1 (dstX_ok h).2 k
theorem ai {κ : IntKind} {i j : Int} (e : i = j) (h : opD tab ops L O o = some (d, .dat (.v (.int κ i)))) (k : AOps prog ops cf K rest (mkSt ((d, .dat (.v (.int κ j))) :: L) O)) : AOps prog ops cf K (o :: rest) (mkSt L O) := AOps.i tabOk (opD_ok h).1 (opD_ok h).2.1 (opD_ok h).2.2 e k
theorem al {κ : IntKind} {i : Int} (j : Int) (h : opD tab ops L O o = some (d, .dat (.v (.int κ i)))) (k : AOps prog ops cf K rest (mkSt ((d, .dat (.v (.int κ j))) :: L) O)) (e : i = j := by first | (rw [List.length_map]; done) | rfl) : AOps prog ops cf K (o :: rest) (mkSt L O) := AOps.i tabOk (opD_ok h).1 (opD_ok h).2.1 (opD_ok h).2.2 e k
theorem ca {f : FuncId} {args : List Operand} {ats : Array TypeId} {xs : List DV} {y : DV} {fr : Bool} (hc : AFn prog f xs y fr) (ho : o.op = .call { callee := .value (.func f), args := args.toArray, argTypes := ats }) (ha : argsOk (mkSt L O) fr args xs)
    (hd : dstG ops L o = some d) (k : AOps prog ops cf K rest (mkSt ((d, .dat y) :: L) O)) : AOps prog ops cf K (o :: rest) (mkSt L O) := AOps.call hc (dstG_ok hd).1 (dstG_ok hd).2 ho ha k
theorem st {t : TypeId} {te : TE} {x y : Operand} {id : Nat} {p : List Pa} {off : Nat} {T' : TypeId} {sz : Nat} {c c' z v : AV} (k : AOps prog ops cf K rest (mkSt L ((id, .box T' sz c') :: O))) (ho : o.op = .store t x y := by exact rfl) (hcf : cf o = true := by exact rfl) (hd : o.dst = none := by exact rfl) (hg : gOn ops L o = true := by exact rfl)
    (ht : tget tab t = some te := by exact rfl) (hx : ev (mkSt L O) x = .pt id p off := by exact rfl) (hob : lookO O id = some (.box T' sz c) := by exact rfl) (hl : locA c p 0 = some (off, z) := by exact rfl) (hz : Nat.beq z.len te.size = true := by exact rfl)
    (hv : nilT tab t (ev (mkSt L O) y) = v := by exact rfl) (hy1 : v.lies = true := by exact rfl) (hy2 : Nat.beq v.len te.size = true := by exact rfl) (hp : putA c p v = some c' := by exact rfl) : AOps prog ops cf K (o :: rest) (mkSt L O) := AOps.store tabOk ho hcf hd hg ht hx hob hl hz hv hy1 hy2 hp k
theorem al0 {E : TypeId} {te : TE} (k : AOps prog ops cf K rest (mkSt ((d, .pt d [] 0) :: L) ((d, .box E te.size (.dat te.zero)) :: O))) (ho : o.op = .alloc E := by exact rfl) (hd : o.dst = some d := by exact rfl) (hg : gOn ops L o = true := by exact rfl) (ht : tget tab E = some te := by exact rfl)
    (hn : lookO O d = none := by exact rfl) : AOps prog ops cf K (o :: rest) (mkSt L O) := AOps.alloc tabOk ho hd hg ht hn k
theorem sB {l : List Oper} (i : Nat) {b : Bool} {A C : Prop} (h : Br b A C) (ht : A → AOps prog ops cf K l (mkSt ((i, .dat (.v (.bool true))) :: L) O)) (hf : C → AOps prog ops cf K l (mkSt ((i, .dat (.v (.bool false))) :: L) O)) (hl : look L i = .dat (.v (.bool b)) := by exact rfl) :
    AOps prog ops cf K l (mkSt L O) := AOps.splitB i hl (fun e => ht (h.1 e)) (fun e => hf (h.2 e))
end
theorem mixed : prog.follows .mixedOrders = true := rfl
section
variable {B : Nat → Nat → Prop} {n id : Nat} {σ : St} {Q : AExit → St → Prop} {ops : Array Oper} {y : Code}
theorem rN (h : AOps prog ops (fun _ => false) Q ops.toList σ) (hd : dstOk n ops.toList = true := by exact rfl) : AWp prog B n (.region id ops false) σ Q := AWp.regionN _ hd h
theorem rW (h : AOps prog ops (fun o => writes o) Q ops.toList σ) (hd : dstOk n ops.toList = true := by exact rfl) : AWp prog B n (.region id ops false) σ Q := AWp.regionN _ hd h
theorem rD (h : AOps prog ops (fun _ => false) Q ops.toList σ) (hB : lexA (fun _ => false) ops = true := by decide +kernel) (hd : dstOk n ops.toList = true := by exact rfl) : AWp prog B n (.region id ops true) σ Q := AWp.regionD _ mixed hB hd h
theorem sN (h : AOps prog ops (fun _ => false) (thenQ (fun σ' => AWp prog B n y σ' Q) Q) ops.toList σ) (hd : dstOk n ops.toList = true := by exact rfl) : AWp prog B n (.seq (.region id ops false) y) σ Q := AWp.seq (AWp.regionN _ hd h)
theorem sW (h : AOps prog ops (fun o => writes o) (thenQ (fun σ' => AWp prog B n y σ' Q) Q) ops.toList σ) (hd : dstOk n ops.toList = true := by exact rfl) : AWp prog B n (.seq (.region id ops false) y) σ Q := AWp.seq (AWp.regionN _ hd h)
theorem sD (h : AOps prog ops (fun _ => false) (thenQ (fun σ' => AWp prog B n y σ' Q) Q) ops.toList σ) (hB : lexA (fun _ => false) ops = true := by decide +kernel) (hd : dstOk n ops.toList = true := by exact rfl) : AWp prog B n (.seq (.region id ops true) y) σ Q := AWp.seq (AWp.regionD _ mixed hB hd h)
theorem cB {c : Operand} {x : Code} {b : Bool} {A C : Prop} (h : Br b A C) (ht : A → AWp prog B n x σ Q) (hf : C → AWp prog B n y σ Q) (hc : ev σ c = .dat (.v (.bool b)) := by exact rfl) : AWp prog B n (.cond c x y) σ Q := AWp.cond hc (fun e => ht (h.1 e)) (fun e => hf (h.2 e))
theorem intr {f : FuncId} {fn : Func} {c : Code} {xs : List DV} {r : DV} {m : Nat} {rs : List ResultVar} {L : List (Nat × AV)} (hf : prog.funcs[f]? = some fn) (hn : fn.ntmps = m) (hw : AWp prog NoB m c (mkSt L []) (outQ tab rs r)) (hb : fn.body = some c := by exact rfl)
    (hname : (fn.name == "runtime.NumGoroutine") = false := by exact rfl) (hr : fn.results.toList = rs := by exact rfl) (hl : Nat.ble xs.length m = true := by exact rfl) (hL : argL 0 xs = L := by exact rfl) (hnl : m ≤ 1000000 := by decide) : AFn prog f xs r false := AFn.intro' tabOk hf hb hname hn hr hl hL hw hnl
theorem rE {L : List (Nat × AV)} {O : List (Nat × Obj)} (own : List (Nat × List Nat)) (h : AOps prog ops (fun o => writes o) Q ops.toList (mkSt L O)) (hB : lexS own (fun o => writes o) ops = true := by decide +kernel) (hd : dstOk n ops.toList = true := by exact rfl) (hf : fixB own L = true := by exact rfl) :
    AWp prog B n (.region id ops true) (mkSt L O) Q := AWp.regionS own _ mixed hB hd (fix_of hf) h
end
end Go.Sim.YtefpfeoimgkldaaDoor
