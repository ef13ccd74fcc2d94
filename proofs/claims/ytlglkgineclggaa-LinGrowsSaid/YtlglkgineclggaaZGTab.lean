/- What is proved: the table of the types that the program has. -/
import Derived.Test.YtlglkgineclggaaProg
import Derived.Test.YtlglkgineclggaaZGSimF
import Derived.Test.YtlglkgineclggaaZGBig
namespace Go.Sim.Ytlglkgineclggaa
open Go.RowKit Go.Proofs Go.Proofs.Try
set_option maxRecDepth 100000
def te2 : TE := ⟨.int .i64, 1, 8, .v (.int .i64 0)⟩
theorem ok2 : EntryOk prog 2 te2 := ⟨Try.t2, _, _, rfl, Try.underlying2, by first | rfl | trivial | exact ⟨rfl, rfl⟩, rfl, rfl, rfl, rfl, rfl, by first | rfl | trivial, rfl⟩
def te3 : TE := ⟨.int .i64, 1, 8, .v (.int .i64 0)⟩
theorem ok3 : EntryOk prog 3 te3 := ⟨Try.t3, _, _, rfl, Try.underlying3, by first | rfl | trivial | exact ⟨rfl, rfl⟩, rfl, rfl, rfl, rfl, rfl, by first | rfl | trivial, rfl⟩
def te4 : TE := ⟨.bool, 1, 1, .v (.bool false)⟩
theorem ok4 : EntryOk prog 4 te4 := ⟨Try.t4, _, _, rfl, Try.underlying4, by first | rfl | trivial | exact ⟨rfl, rfl⟩, rfl, rfl, rfl, rfl, rfl, by first | rfl | trivial, rfl⟩
def te5 : TE := ⟨.int .u8, 1, 1, .v (.int .u8 0)⟩
theorem ok5 : EntryOk prog 5 te5 := ⟨Try.t5, _, _, rfl, Try.underlying5, by first | rfl | trivial | exact ⟨rfl, rfl⟩, rfl, rfl, rfl, rfl, rfl, by first | rfl | trivial, rfl⟩
def te6 : TE := ⟨.int .u8, 1, 1, .v (.int .u8 0)⟩
theorem ok6 : EntryOk prog 6 te6 := ⟨Try.t6, _, _, rfl, Try.underlying6, by first | rfl | trivial | exact ⟨rfl, rfl⟩, rfl, rfl, rfl, rfl, rfl, by first | rfl | trivial, rfl⟩
def te7 : TE := ⟨.struct [(0, 2), (1, 3), (2, 4), (3, 6)], 4, 24, .st [1, 1, 1, 1] [.v (.int .i64 0), .v (.int .i64 0), .v (.bool false), .v (.int .u8 0)]⟩
theorem ok7 : EntryOk prog 7 te7 := ⟨Try.t7, _, _, rfl, Try.underlying7, by first | rfl | trivial | exact ⟨rfl, rfl⟩, rfl, rfl, rfl, rfl, rfl, by first | rfl | trivial, rfl⟩
def te8 : TE := ⟨.struct [(0, 2), (1, 3), (2, 4), (3, 6)], 4, 24, .st [1, 1, 1, 1] [.v (.int .i64 0), .v (.int .i64 0), .v (.bool false), .v (.int .u8 0)]⟩
theorem ok8 : EntryOk prog 8 te8 := ⟨Try.t8, _, _, rfl, Try.underlying8, by first | rfl | trivial | exact ⟨rfl, rfl⟩, rfl, rfl, rfl, rfl, rfl, by first | rfl | trivial, rfl⟩
def te9 : TE := ⟨.str, 1, 16, .v (.string ⟨#[]⟩)⟩
theorem ok9 : EntryOk prog 9 te9 := ⟨Try.t9, _, _, rfl, Try.underlying9, by first | rfl | trivial | exact ⟨rfl, rfl⟩, rfl, rfl, rfl, rfl, rfl, by first | rfl | trivial, rfl⟩
def te10 : TE := ⟨.str, 1, 16, .v (.string ⟨#[]⟩)⟩
theorem ok10 : EntryOk prog 10 te10 := ⟨Try.t10, _, _, rfl, Try.underlying10, by first | rfl | trivial | exact ⟨rfl, rfl⟩, rfl, rfl, rfl, rfl, rfl, by first | rfl | trivial, rfl⟩
def te11 : TE := ⟨.str, 1, 16, .v (.string ⟨#[]⟩)⟩
theorem ok11 : EntryOk prog 11 te11 := ⟨Try.t11, _, _, rfl, Try.underlying11, by first | rfl | trivial | exact ⟨rfl, rfl⟩, rfl, rfl, rfl, rfl, rfl, by first | rfl | trivial, rfl⟩
def te12 : TE := ⟨.int .u64, 1, 8, .v (.int .u64 0)⟩
theorem ok12 : EntryOk prog 12 te12 := ⟨Try.t12, _, _, rfl, Try.underlying12, by first | rfl | trivial | exact ⟨rfl, rfl⟩, rfl, rfl, rfl, rfl, rfl, by first | rfl | trivial, rfl⟩
def te13 : TE := ⟨.struct [(0, 9), (1, 12)], 2, 24, .st [1, 1] [.v (.string ⟨#[]⟩), .v (.int .u64 0)]⟩
theorem ok13 : EntryOk prog 13 te13 := ⟨Try.t13, _, _, rfl, Try.underlying13, by first | rfl | trivial | exact ⟨rfl, rfl⟩, rfl, rfl, rfl, rfl, rfl, by first | rfl | trivial, rfl⟩
def te14 : TE := ⟨.struct [(0, 9), (1, 12)], 2, 24, .st [1, 1] [.v (.string ⟨#[]⟩), .v (.int .u64 0)]⟩
theorem ok14 : EntryOk prog 14 te14 := ⟨Try.t14, _, _, rfl, Try.underlying14, by first | rfl | trivial | exact ⟨rfl, rfl⟩, rfl, rfl, rfl, rfl, rfl, by first | rfl | trivial, rfl⟩
def te15 : TE := ⟨.ptr 214, 1, 8, .v (.pointer none)⟩
theorem ok15 : EntryOk prog 15 te15 := ⟨Try.t15, _, _, rfl, Try.underlying15, by first | rfl | trivial | exact ⟨rfl, rfl⟩, rfl, rfl, rfl, rfl, rfl, by first | rfl | trivial, rfl⟩
def te16 : TE := ⟨.ptr 217, 1, 8, .v (.pointer none)⟩
theorem ok16 : EntryOk prog 16 te16 := ⟨Try.t16, _, _, rfl, Try.underlying16, by first | rfl | trivial | exact ⟨rfl, rfl⟩, rfl, rfl, rfl, rfl, rfl, by first | rfl | trivial, rfl⟩
def te17 : TE := ⟨.ptr 225, 1, 8, .v (.pointer none)⟩
theorem ok17 : EntryOk prog 17 te17 := ⟨Try.t17, _, _, rfl, Try.underlying17, by first | rfl | trivial | exact ⟨rfl, rfl⟩, rfl, rfl, rfl, rfl, rfl, by first | rfl | trivial, rfl⟩
def te18 : TE := ⟨.struct [(0, 17)], 1, 8, .st [1] [.v (.pointer none)]⟩
theorem ok18 : EntryOk prog 18 te18 := ⟨Try.t18, _, _, rfl, Try.underlying18, by first | rfl | trivial | exact ⟨rfl, rfl⟩, rfl, rfl, rfl, rfl, rfl, by first | rfl | trivial, rfl⟩
def te19 : TE := ⟨.struct [(0, 17)], 1, 8, .st [1] [.v (.pointer none)]⟩
theorem ok19 : EntryOk prog 19 te19 := ⟨Try.t19, _, _, rfl, Try.underlying19, by first | rfl | trivial | exact ⟨rfl, rfl⟩, rfl, rfl, rfl, rfl, rfl, by first | rfl | trivial, rfl⟩
def te21 : TE := ⟨.int .i32, 1, 4, .v (.int .i32 0)⟩
theorem ok21 : EntryOk prog 21 te21 := ⟨Try.t21, _, _, rfl, Try.underlying21, by first | rfl | trivial | exact ⟨rfl, rfl⟩, rfl, rfl, rfl, rfl, rfl, by first | rfl | trivial, rfl⟩
def te22 : TE := ⟨.slice 34, 1, 24, .sl 34 1 []⟩
theorem ok22 : EntryOk prog 22 te22 := ⟨Try.t22, _, _, rfl, Try.underlying22, by first | rfl | trivial | exact ⟨rfl, rfl⟩, rfl, rfl, rfl, rfl, rfl, by first | rfl | trivial, rfl⟩
def te23 : TE := ⟨.slice 83, 1, 24, .sl 83 1 []⟩
theorem ok23 : EntryOk prog 23 te23 := ⟨Try.t23, _, _, rfl, Try.underlying23, by first | rfl | trivial | exact ⟨rfl, rfl⟩, rfl, rfl, rfl, rfl, rfl, by first | rfl | trivial, rfl⟩
def te24 : TE := ⟨.flt .f64, 1, 8, .v (.float .f64 0)⟩
theorem ok24 : EntryOk prog 24 te24 := ⟨Try.t24, _, _, rfl, Try.underlying24, by first | rfl | trivial | exact ⟨rfl, rfl⟩, rfl, rfl, rfl, rfl, rfl, by first | rfl | trivial, rfl⟩
def te25 : TE := ⟨.int .i64, 1, 8, .v (.int .i64 0)⟩
theorem ok25 : EntryOk prog 25 te25 := ⟨Try.t25, _, _, rfl, Try.underlying25, by first | rfl | trivial | exact ⟨rfl, rfl⟩, rfl, rfl, rfl, rfl, rfl, by first | rfl | trivial, rfl⟩
def te34 : TE := ⟨.slice 36, 1, 24, .sl 36 2 []⟩
theorem ok34 : EntryOk prog 34 te34 := ⟨Try.t34, _, _, rfl, Try.underlying34, by first | rfl | trivial | exact ⟨rfl, rfl⟩, rfl, rfl, rfl, rfl, rfl, by first | rfl | trivial, rfl⟩
def te35 : TE := ⟨.struct [(0, 24), (1, 24)], 2, 16, .st [1, 1] [.v (.float .f64 0), .v (.float .f64 0)]⟩
theorem ok35 : EntryOk prog 35 te35 := ⟨Try.t35, _, _, rfl, Try.underlying35, by first | rfl | trivial | exact ⟨rfl, rfl⟩, rfl, rfl, rfl, rfl, rfl, by first | rfl | trivial, rfl⟩
def te36 : TE := ⟨.struct [(0, 24), (1, 24)], 2, 16, .st [1, 1] [.v (.float .f64 0), .v (.float .f64 0)]⟩
theorem ok36 : EntryOk prog 36 te36 := ⟨Try.t36, _, _, rfl, Try.underlying36, by first | rfl | trivial | exact ⟨rfl, rfl⟩, rfl, rfl, rfl, rfl, rfl, by first | rfl | trivial, rfl⟩
def te51 : TE := ⟨.slice 105, 1, 24, .sl 105 22 []⟩
theorem ok51 : EntryOk prog 51 te51 := ⟨Try.t51, _, _, rfl, Try.underlying51, by first | rfl | trivial | exact ⟨rfl, rfl⟩, rfl, rfl, rfl, rfl, rfl, by first | rfl | trivial, rfl⟩
def te52 : TE := ⟨.slice 3, 1, 24, .sl 3 1 []⟩
theorem ok52 : EntryOk prog 52 te52 := ⟨Try.t52, _, _, rfl, Try.underlying52, by first | rfl | trivial | exact ⟨rfl, rfl⟩, rfl, rfl, rfl, rfl, rfl, by first | rfl | trivial, rfl⟩
def te53 : TE := ⟨.slice 59, 1, 24, .sl 59 14 []⟩
theorem ok53 : EntryOk prog 53 te53 := ⟨Try.t53, _, _, rfl, Try.underlying53, by first | rfl | trivial | exact ⟨rfl, rfl⟩, rfl, rfl, rfl, rfl, rfl, by first | rfl | trivial, rfl⟩
def te54 : TE := ⟨.slice 4, 1, 24, .sl 4 1 []⟩
theorem ok54 : EntryOk prog 54 te54 := ⟨Try.t54, _, _, rfl, Try.underlying54, by first | rfl | trivial | exact ⟨rfl, rfl⟩, rfl, rfl, rfl, rfl, rfl, by first | rfl | trivial, rfl⟩
def te55 : TE := ⟨.struct [(0, 2), (1, 2)], 2, 16, .st [1, 1] [.v (.int .i64 0), .v (.int .i64 0)]⟩
theorem ok55 : EntryOk prog 55 te55 := ⟨Try.t55, _, _, rfl, Try.underlying55, by first | rfl | trivial | exact ⟨rfl, rfl⟩, rfl, rfl, rfl, rfl, rfl, by first | rfl | trivial, rfl⟩
def te56 : TE := ⟨.struct [(0, 2), (1, 2)], 2, 16, .st [1, 1] [.v (.int .i64 0), .v (.int .i64 0)]⟩
theorem ok56 : EntryOk prog 56 te56 := ⟨Try.t56, _, _, rfl, Try.underlying56, by first | rfl | trivial | exact ⟨rfl, rfl⟩, rfl, rfl, rfl, rfl, rfl, by first | rfl | trivial, rfl⟩
def te57 : TE := ⟨.arr 7 56, 14, 112, .ar 2 [.st [1, 1] [.v (.int .i64 0), .v (.int .i64 0)], .st [1, 1] [.v (.int .i64 0), .v (.int .i64 0)], .st [1, 1] [.v (.int .i64 0), .v (.int .i64 0)], .st [1, 1] [.v (.int .i64 0), .v (.int .i64 0)], .st [1, 1] [.v (.int .i64 0), .v (.int .i64 0)], .st [1, 1] [.v (.int .i64 0), .v (.int .i64 0)], .st [1, 1] [.v (.int .i64 0), .v (.int .i64 0)]]⟩
theorem ok57 : EntryOk prog 57 te57 := ⟨Try.t57, _, _, rfl, Try.underlying57, by first | rfl | trivial | exact ⟨rfl, rfl⟩, rfl, rfl, rfl, rfl, rfl, by first | rfl | trivial, rfl⟩
def te58 : TE := ⟨.struct [(0, 57)], 14, 112, .st [14] [.ar 2 [.st [1, 1] [.v (.int .i64 0), .v (.int .i64 0)], .st [1, 1] [.v (.int .i64 0), .v (.int .i64 0)], .st [1, 1] [.v (.int .i64 0), .v (.int .i64 0)], .st [1, 1] [.v (.int .i64 0), .v (.int .i64 0)], .st [1, 1] [.v (.int .i64 0), .v (.int .i64 0)], .st [1, 1] [.v (.int .i64 0), .v (.int .i64 0)], .st [1, 1] [.v (.int .i64 0), .v (.int .i64 0)]]]⟩
theorem ok58 : EntryOk prog 58 te58 := ⟨Try.t58, _, _, rfl, Try.underlying58, by first | rfl | trivial | exact ⟨rfl, rfl⟩, rfl, rfl, rfl, rfl, rfl, by first | rfl | trivial, rfl⟩
def te59 : TE := ⟨.struct [(0, 57)], 14, 112, .st [14] [.ar 2 [.st [1, 1] [.v (.int .i64 0), .v (.int .i64 0)], .st [1, 1] [.v (.int .i64 0), .v (.int .i64 0)], .st [1, 1] [.v (.int .i64 0), .v (.int .i64 0)], .st [1, 1] [.v (.int .i64 0), .v (.int .i64 0)], .st [1, 1] [.v (.int .i64 0), .v (.int .i64 0)], .st [1, 1] [.v (.int .i64 0), .v (.int .i64 0)], .st [1, 1] [.v (.int .i64 0), .v (.int .i64 0)]]]⟩
theorem ok59 : EntryOk prog 59 te59 := ⟨Try.t59, _, _, rfl, Try.underlying59, by first | rfl | trivial | exact ⟨rfl, rfl⟩, rfl, rfl, rfl, rfl, rfl, by first | rfl | trivial, rfl⟩
def te83 : TE := ⟨.slice 24, 1, 24, .sl 24 1 []⟩
theorem ok83 : EntryOk prog 83 te83 := ⟨Try.t83, _, _, rfl, Try.underlying83, by first | rfl | trivial | exact ⟨rfl, rfl⟩, rfl, rfl, rfl, rfl, rfl, by first | rfl | trivial, rfl⟩
def te86 : TE := ⟨.ptr 92, 1, 8, .v (.pointer none)⟩
theorem ok86 : EntryOk prog 86 te86 := ⟨Try.t86, _, _, rfl, Try.underlying86, by first | rfl | trivial | exact ⟨rfl, rfl⟩, rfl, rfl, rfl, rfl, rfl, by first | rfl | trivial, rfl⟩
def te87 : TE := ⟨.slice 56, 1, 24, .sl 56 2 []⟩
theorem ok87 : EntryOk prog 87 te87 := ⟨Try.t87, _, _, rfl, Try.underlying87, by first | rfl | trivial | exact ⟨rfl, rfl⟩, rfl, rfl, rfl, rfl, rfl, by first | rfl | trivial, rfl⟩
def te88 : TE := ⟨.struct [(0, 87), (1, 59)], 15, 136, .st [1, 14] [.sl 56 2 [], .st [14] [.ar 2 [.st [1, 1] [.v (.int .i64 0), .v (.int .i64 0)], .st [1, 1] [.v (.int .i64 0), .v (.int .i64 0)], .st [1, 1] [.v (.int .i64 0), .v (.int .i64 0)], .st [1, 1] [.v (.int .i64 0), .v (.int .i64 0)], .st [1, 1] [.v (.int .i64 0), .v (.int .i64 0)], .st [1, 1] [.v (.int .i64 0), .v (.int .i64 0)], .st [1, 1] [.v (.int .i64 0), .v (.int .i64 0)]]]]⟩
theorem ok88 : EntryOk prog 88 te88 := ⟨Try.t88, _, _, rfl, Try.underlying88, by first | rfl | trivial | exact ⟨rfl, rfl⟩, rfl, rfl, rfl, rfl, rfl, by first | rfl | trivial, rfl⟩
def te89 : TE := ⟨.struct [(0, 87), (1, 59)], 15, 136, .st [1, 14] [.sl 56 2 [], .st [14] [.ar 2 [.st [1, 1] [.v (.int .i64 0), .v (.int .i64 0)], .st [1, 1] [.v (.int .i64 0), .v (.int .i64 0)], .st [1, 1] [.v (.int .i64 0), .v (.int .i64 0)], .st [1, 1] [.v (.int .i64 0), .v (.int .i64 0)], .st [1, 1] [.v (.int .i64 0), .v (.int .i64 0)], .st [1, 1] [.v (.int .i64 0), .v (.int .i64 0)], .st [1, 1] [.v (.int .i64 0), .v (.int .i64 0)]]]]⟩
theorem ok89 : EntryOk prog 89 te89 := ⟨Try.t89, _, _, rfl, Try.underlying89, by first | rfl | trivial | exact ⟨rfl, rfl⟩, rfl, rfl, rfl, rfl, rfl, by first | rfl | trivial, rfl⟩
def te90 : TE := ⟨.slice 89, 1, 24, .sl 89 15 []⟩
theorem ok90 : EntryOk prog 90 te90 := ⟨Try.t90, _, _, rfl, Try.underlying90, by first | rfl | trivial | exact ⟨rfl, rfl⟩, rfl, rfl, rfl, rfl, rfl, by first | rfl | trivial, rfl⟩
def te91 : TE := ⟨.struct [(0, 51), (1, 53), (2, 54), (3, 89), (18, 90), (19, 90), (20, 90), (21, 52)], 22, 304, .st [1, 1, 1, 15, 1, 1, 1, 1] [.sl 105 22 [], .sl 59 14 [], .sl 4 1 [], .st [1, 14] [.sl 56 2 [], .st [14] [.ar 2 [.st [1, 1] [.v (.int .i64 0), .v (.int .i64 0)], .st [1, 1] [.v (.int .i64 0), .v (.int .i64 0)], .st [1, 1] [.v (.int .i64 0), .v (.int .i64 0)], .st [1, 1] [.v (.int .i64 0), .v (.int .i64 0)], .st [1, 1] [.v (.int .i64 0), .v (.int .i64 0)], .st [1, 1] [.v (.int .i64 0), .v (.int .i64 0)], .st [1, 1] [.v (.int .i64 0), .v (.int .i64 0)]]]], .sl 89 15 [], .sl 89 15 [], .sl 89 15 [], .sl 3 1 []]⟩
theorem ok91 : EntryOk prog 91 te91 := ⟨Try.t91, _, _, rfl, Try.underlying91, by first | rfl | trivial | exact ⟨rfl, rfl⟩, rfl, rfl, rfl, rfl, rfl, by first | rfl | trivial, rfl⟩
def te92 : TE := ⟨.struct [(0, 51), (1, 53), (2, 54), (3, 89), (18, 90), (19, 90), (20, 90), (21, 52)], 22, 304, .st [1, 1, 1, 15, 1, 1, 1, 1] [.sl 105 22 [], .sl 59 14 [], .sl 4 1 [], .st [1, 14] [.sl 56 2 [], .st [14] [.ar 2 [.st [1, 1] [.v (.int .i64 0), .v (.int .i64 0)], .st [1, 1] [.v (.int .i64 0), .v (.int .i64 0)], .st [1, 1] [.v (.int .i64 0), .v (.int .i64 0)], .st [1, 1] [.v (.int .i64 0), .v (.int .i64 0)], .st [1, 1] [.v (.int .i64 0), .v (.int .i64 0)], .st [1, 1] [.v (.int .i64 0), .v (.int .i64 0)], .st [1, 1] [.v (.int .i64 0), .v (.int .i64 0)]]]], .sl 89 15 [], .sl 89 15 [], .sl 89 15 [], .sl 3 1 []]⟩
theorem ok92 : EntryOk prog 92 te92 := ⟨Try.t92, _, _, rfl, Try.underlying92, by first | rfl | trivial | exact ⟨rfl, rfl⟩, rfl, rfl, rfl, rfl, rfl, by first | rfl | trivial, rfl⟩
def te94 : TE := ⟨.struct [(0, 25)], 1, 8, .st [1] [.v (.int .i64 0)]⟩
theorem ok94 : EntryOk prog 94 te94 := ⟨Try.t94, _, _, rfl, Try.underlying94, by first | rfl | trivial | exact ⟨rfl, rfl⟩, rfl, rfl, rfl, rfl, rfl, by first | rfl | trivial, rfl⟩
def te95 : TE := ⟨.struct [(0, 25)], 1, 8, .st [1] [.v (.int .i64 0)]⟩
theorem ok95 : EntryOk prog 95 te95 := ⟨Try.t95, _, _, rfl, Try.underlying95, by first | rfl | trivial | exact ⟨rfl, rfl⟩, rfl, rfl, rfl, rfl, rfl, by first | rfl | trivial, rfl⟩
def te102 : TE := ⟨.struct [(0, 3), (1, 3)], 2, 16, .st [1, 1] [.v (.int .i64 0), .v (.int .i64 0)]⟩
theorem ok102 : EntryOk prog 102 te102 := ⟨Try.t102, _, _, rfl, Try.underlying102, by first | rfl | trivial | exact ⟨rfl, rfl⟩, rfl, rfl, rfl, rfl, rfl, by first | rfl | trivial, rfl⟩
def te103 : TE := ⟨.struct [(0, 3), (1, 3)], 2, 16, .st [1, 1] [.v (.int .i64 0), .v (.int .i64 0)]⟩
theorem ok103 : EntryOk prog 103 te103 := ⟨Try.t103, _, _, rfl, Try.underlying103, by first | rfl | trivial | exact ⟨rfl, rfl⟩, rfl, rfl, rfl, rfl, rfl, by first | rfl | trivial, rfl⟩
def te104 : TE := ⟨.struct [(0, 3), (1, 3), (2, 3), (3, 3), (4, 56), (6, 103), (8, 59)], 22, 176, .st [1, 1, 1, 1, 2, 2, 14] [.v (.int .i64 0), .v (.int .i64 0), .v (.int .i64 0), .v (.int .i64 0), .st [1, 1] [.v (.int .i64 0), .v (.int .i64 0)], .st [1, 1] [.v (.int .i64 0), .v (.int .i64 0)], .st [14] [.ar 2 [.st [1, 1] [.v (.int .i64 0), .v (.int .i64 0)], .st [1, 1] [.v (.int .i64 0), .v (.int .i64 0)], .st [1, 1] [.v (.int .i64 0), .v (.int .i64 0)], .st [1, 1] [.v (.int .i64 0), .v (.int .i64 0)], .st [1, 1] [.v (.int .i64 0), .v (.int .i64 0)], .st [1, 1] [.v (.int .i64 0), .v (.int .i64 0)], .st [1, 1] [.v (.int .i64 0), .v (.int .i64 0)]]]]⟩
theorem ok104 : EntryOk prog 104 te104 := ⟨Try.t104, _, _, rfl, Try.underlying104, by first | rfl | trivial | exact ⟨rfl, rfl⟩, rfl, rfl, rfl, rfl, rfl, by first | rfl | trivial, rfl⟩
def te105 : TE := ⟨.struct [(0, 3), (1, 3), (2, 3), (3, 3), (4, 56), (6, 103), (8, 59)], 22, 176, .st [1, 1, 1, 1, 2, 2, 14] [.v (.int .i64 0), .v (.int .i64 0), .v (.int .i64 0), .v (.int .i64 0), .st [1, 1] [.v (.int .i64 0), .v (.int .i64 0)], .st [1, 1] [.v (.int .i64 0), .v (.int .i64 0)], .st [14] [.ar 2 [.st [1, 1] [.v (.int .i64 0), .v (.int .i64 0)], .st [1, 1] [.v (.int .i64 0), .v (.int .i64 0)], .st [1, 1] [.v (.int .i64 0), .v (.int .i64 0)], .st [1, 1] [.v (.int .i64 0), .v (.int .i64 0)], .st [1, 1] [.v (.int .i64 0), .v (.int .i64 0)], .st [1, 1] [.v (.int .i64 0), .v (.int .i64 0)], .st [1, 1] [.v (.int .i64 0), .v (.int .i64 0)]]]]⟩
theorem ok105 : EntryOk prog 105 te105 := ⟨Try.t105, _, _, rfl, Try.underlying105, by first | rfl | trivial | exact ⟨rfl, rfl⟩, rfl, rfl, rfl, rfl, rfl, by first | rfl | trivial, rfl⟩
def te106 : TE := ⟨.ptr 112, 1, 8, .v (.pointer none)⟩
theorem ok106 : EntryOk prog 106 te106 := ⟨Try.t106, _, _, rfl, Try.underlying106, by first | rfl | trivial | exact ⟨rfl, rfl⟩, rfl, rfl, rfl, rfl, rfl, by first | rfl | trivial, rfl⟩
def te107 : TE := ⟨.struct [(0, 87), (1, 59)], 15, 136, .st [1, 14] [.sl 56 2 [], .st [14] [.ar 2 [.st [1, 1] [.v (.int .i64 0), .v (.int .i64 0)], .st [1, 1] [.v (.int .i64 0), .v (.int .i64 0)], .st [1, 1] [.v (.int .i64 0), .v (.int .i64 0)], .st [1, 1] [.v (.int .i64 0), .v (.int .i64 0)], .st [1, 1] [.v (.int .i64 0), .v (.int .i64 0)], .st [1, 1] [.v (.int .i64 0), .v (.int .i64 0)], .st [1, 1] [.v (.int .i64 0), .v (.int .i64 0)]]]]⟩
theorem ok107 : EntryOk prog 107 te107 := ⟨Try.t107, _, _, rfl, Try.underlying107, by first | rfl | trivial | exact ⟨rfl, rfl⟩, rfl, rfl, rfl, rfl, rfl, by first | rfl | trivial, rfl⟩
def te108 : TE := ⟨.struct [(0, 87), (1, 59)], 15, 136, .st [1, 14] [.sl 56 2 [], .st [14] [.ar 2 [.st [1, 1] [.v (.int .i64 0), .v (.int .i64 0)], .st [1, 1] [.v (.int .i64 0), .v (.int .i64 0)], .st [1, 1] [.v (.int .i64 0), .v (.int .i64 0)], .st [1, 1] [.v (.int .i64 0), .v (.int .i64 0)], .st [1, 1] [.v (.int .i64 0), .v (.int .i64 0)], .st [1, 1] [.v (.int .i64 0), .v (.int .i64 0)], .st [1, 1] [.v (.int .i64 0), .v (.int .i64 0)]]]]⟩
theorem ok108 : EntryOk prog 108 te108 := ⟨Try.t108, _, _, rfl, Try.underlying108, by first | rfl | trivial | exact ⟨rfl, rfl⟩, rfl, rfl, rfl, rfl, rfl, by first | rfl | trivial, rfl⟩
def te110 : TE := ⟨.slice 108, 1, 24, .sl 108 15 []⟩
theorem ok110 : EntryOk prog 110 te110 := ⟨Try.t110, _, _, rfl, Try.underlying110, by first | rfl | trivial | exact ⟨rfl, rfl⟩, rfl, rfl, rfl, rfl, rfl, by first | rfl | trivial, rfl⟩
def te111 : TE := ⟨.struct [(0, 51), (1, 53), (2, 54), (3, 108), (18, 110), (19, 110)], 20, 256, .st [1, 1, 1, 15, 1, 1] [.sl 105 22 [], .sl 59 14 [], .sl 4 1 [], .st [1, 14] [.sl 56 2 [], .st [14] [.ar 2 [.st [1, 1] [.v (.int .i64 0), .v (.int .i64 0)], .st [1, 1] [.v (.int .i64 0), .v (.int .i64 0)], .st [1, 1] [.v (.int .i64 0), .v (.int .i64 0)], .st [1, 1] [.v (.int .i64 0), .v (.int .i64 0)], .st [1, 1] [.v (.int .i64 0), .v (.int .i64 0)], .st [1, 1] [.v (.int .i64 0), .v (.int .i64 0)], .st [1, 1] [.v (.int .i64 0), .v (.int .i64 0)]]]], .sl 108 15 [], .sl 108 15 []]⟩
theorem ok111 : EntryOk prog 111 te111 := ⟨Try.t111, _, _, rfl, Try.underlying111, by first | rfl | trivial | exact ⟨rfl, rfl⟩, rfl, rfl, rfl, rfl, rfl, by first | rfl | trivial, rfl⟩
def te112 : TE := ⟨.struct [(0, 51), (1, 53), (2, 54), (3, 108), (18, 110), (19, 110)], 20, 256, .st [1, 1, 1, 15, 1, 1] [.sl 105 22 [], .sl 59 14 [], .sl 4 1 [], .st [1, 14] [.sl 56 2 [], .st [14] [.ar 2 [.st [1, 1] [.v (.int .i64 0), .v (.int .i64 0)], .st [1, 1] [.v (.int .i64 0), .v (.int .i64 0)], .st [1, 1] [.v (.int .i64 0), .v (.int .i64 0)], .st [1, 1] [.v (.int .i64 0), .v (.int .i64 0)], .st [1, 1] [.v (.int .i64 0), .v (.int .i64 0)], .st [1, 1] [.v (.int .i64 0), .v (.int .i64 0)], .st [1, 1] [.v (.int .i64 0), .v (.int .i64 0)]]]], .sl 108 15 [], .sl 108 15 []]⟩
theorem ok112 : EntryOk prog 112 te112 := ⟨Try.t112, _, _, rfl, Try.underlying112, by first | rfl | trivial | exact ⟨rfl, rfl⟩, rfl, rfl, rfl, rfl, rfl, by first | rfl | trivial, rfl⟩
def te120 : TE := ⟨.slice 175, 1, 24, .sl 175 1 []⟩
theorem ok120 : EntryOk prog 120 te120 := ⟨Try.t120, _, _, rfl, Try.underlying120, by first | rfl | trivial | exact ⟨rfl, rfl⟩, rfl, rfl, rfl, rfl, rfl, by first | rfl | trivial, rfl⟩
def te121 : TE := ⟨.slice 175, 1, 24, .sl 175 1 []⟩
theorem ok121 : EntryOk prog 121 te121 := ⟨Try.t121, _, _, rfl, Try.underlying121, by first | rfl | trivial | exact ⟨rfl, rfl⟩, rfl, rfl, rfl, rfl, rfl, by first | rfl | trivial, rfl⟩
def te125 : TE := ⟨.int .u64, 1, 8, .v (.int .u64 0)⟩
theorem ok125 : EntryOk prog 125 te125 := ⟨Try.t125, _, _, rfl, Try.underlying125, by first | rfl | trivial | exact ⟨rfl, rfl⟩, rfl, rfl, rfl, rfl, rfl, by first | rfl | trivial, rfl⟩
def te135 : TE := ⟨.int .u64, 1, 8, .v (.int .u64 0)⟩
theorem ok135 : EntryOk prog 135 te135 := ⟨Try.t135, _, _, rfl, Try.underlying135, by first | rfl | trivial | exact ⟨rfl, rfl⟩, rfl, rfl, rfl, rfl, rfl, by first | rfl | trivial, rfl⟩
def te136 : TE := ⟨.struct [(0, 4), (1, 125), (2, 3)], 3, 24, .st [1, 1, 1] [.v (.bool false), .v (.int .u64 0), .v (.int .i64 0)]⟩
theorem ok136 : EntryOk prog 136 te136 := ⟨Try.t136, _, _, rfl, Try.underlying136, by first | rfl | trivial | exact ⟨rfl, rfl⟩, rfl, rfl, rfl, rfl, rfl, by first | rfl | trivial, rfl⟩
def te137 : TE := ⟨.struct [(0, 4), (1, 125), (2, 3)], 3, 24, .st [1, 1, 1] [.v (.bool false), .v (.int .u64 0), .v (.int .i64 0)]⟩
theorem ok137 : EntryOk prog 137 te137 := ⟨Try.t137, _, _, rfl, Try.underlying137, by first | rfl | trivial | exact ⟨rfl, rfl⟩, rfl, rfl, rfl, rfl, rfl, by first | rfl | trivial, rfl⟩
def te142 : TE := ⟨.struct [(0, 4), (1, 125), (2, 125), (3, 3), (4, 4)], 5, 40, .st [1, 1, 1, 1, 1] [.v (.bool false), .v (.int .u64 0), .v (.int .u64 0), .v (.int .i64 0), .v (.bool false)]⟩
theorem ok142 : EntryOk prog 142 te142 := ⟨Try.t142, _, _, rfl, Try.underlying142, by first | rfl | trivial | exact ⟨rfl, rfl⟩, rfl, rfl, rfl, rfl, rfl, by first | rfl | trivial, rfl⟩
def te143 : TE := ⟨.struct [(0, 4), (1, 125), (2, 125), (3, 3), (4, 4)], 5, 40, .st [1, 1, 1, 1, 1] [.v (.bool false), .v (.int .u64 0), .v (.int .u64 0), .v (.int .i64 0), .v (.bool false)]⟩
theorem ok143 : EntryOk prog 143 te143 := ⟨Try.t143, _, _, rfl, Try.underlying143, by first | rfl | trivial | exact ⟨rfl, rfl⟩, rfl, rfl, rfl, rfl, rfl, by first | rfl | trivial, rfl⟩
def te148 : TE := ⟨.struct [(0, 4), (1, 121), (2, 3)], 3, 40, .st [1, 1, 1] [.v (.bool false), .sl 175 1 [], .v (.int .i64 0)]⟩
theorem ok148 : EntryOk prog 148 te148 := ⟨Try.t148, _, _, rfl, Try.underlying148, by first | rfl | trivial | exact ⟨rfl, rfl⟩, rfl, rfl, rfl, rfl, rfl, by first | rfl | trivial, rfl⟩
def te149 : TE := ⟨.struct [(0, 4), (1, 121), (2, 3)], 3, 40, .st [1, 1, 1] [.v (.bool false), .sl 175 1 [], .v (.int .i64 0)]⟩
theorem ok149 : EntryOk prog 149 te149 := ⟨Try.t149, _, _, rfl, Try.underlying149, by first | rfl | trivial | exact ⟨rfl, rfl⟩, rfl, rfl, rfl, rfl, rfl, by first | rfl | trivial, rfl⟩
def te175 : TE := ⟨.int .u32, 1, 4, .v (.int .u32 0)⟩
theorem ok175 : EntryOk prog 175 te175 := ⟨Try.t175, _, _, rfl, Try.underlying175, by first | rfl | trivial | exact ⟨rfl, rfl⟩, rfl, rfl, rfl, rfl, rfl, by first | rfl | trivial, rfl⟩
def te187 : TE := ⟨.struct [(0, 149), (3, 149), (6, 4)], 7, 88, .st [3, 3, 1] [.st [1, 1, 1] [.v (.bool false), .sl 175 1 [], .v (.int .i64 0)], .st [1, 1, 1] [.v (.bool false), .sl 175 1 [], .v (.int .i64 0)], .v (.bool false)]⟩
theorem ok187 : EntryOk prog 187 te187 := ⟨Try.t187, _, _, rfl, Try.underlying187, by first | rfl | trivial | exact ⟨rfl, rfl⟩, rfl, rfl, rfl, rfl, rfl, by first | rfl | trivial, rfl⟩
def te188 : TE := ⟨.struct [(0, 149), (3, 149), (6, 4)], 7, 88, .st [3, 3, 1] [.st [1, 1, 1] [.v (.bool false), .sl 175 1 [], .v (.int .i64 0)], .st [1, 1, 1] [.v (.bool false), .sl 175 1 [], .v (.int .i64 0)], .v (.bool false)]⟩
theorem ok188 : EntryOk prog 188 te188 := ⟨Try.t188, _, _, rfl, Try.underlying188, by first | rfl | trivial | exact ⟨rfl, rfl⟩, rfl, rfl, rfl, rfl, rfl, by first | rfl | trivial, rfl⟩
def te211 : TE := ⟨.ptr 227, 1, 8, .v (.pointer none)⟩
theorem ok211 : EntryOk prog 211 te211 := ⟨Try.t211, _, _, rfl, Try.underlying211, by first | rfl | trivial | exact ⟨rfl, rfl⟩, rfl, rfl, rfl, rfl, rfl, by first | rfl | trivial, rfl⟩
def te213 : TE := ⟨.struct [(0, 17), (1, 17), (2, 17), (3, 9)], 4, 40, .st [1, 1, 1, 1] [.v (.pointer none), .v (.pointer none), .v (.pointer none), .v (.string ⟨#[]⟩)]⟩
theorem ok213 : EntryOk prog 213 te213 := ⟨Try.t213, _, _, rfl, Try.underlying213, by first | rfl | trivial | exact ⟨rfl, rfl⟩, rfl, rfl, rfl, rfl, rfl, by first | rfl | trivial, rfl⟩
def te214 : TE := ⟨.struct [(0, 17), (1, 17), (2, 17), (3, 9)], 4, 40, .st [1, 1, 1, 1] [.v (.pointer none), .v (.pointer none), .v (.pointer none), .v (.string ⟨#[]⟩)]⟩
theorem ok214 : EntryOk prog 214 te214 := ⟨Try.t214, _, _, rfl, Try.underlying214, by first | rfl | trivial | exact ⟨rfl, rfl⟩, rfl, rfl, rfl, rfl, rfl, by first | rfl | trivial, rfl⟩
def te215 : TE := ⟨.arr 0 16, 0, 0, .ar 1 []⟩
theorem ok215 : EntryOk prog 215 te215 := ⟨Try.t215, _, _, rfl, Try.underlying215, by first | rfl | trivial | exact ⟨rfl, rfl⟩, rfl, rfl, rfl, rfl, rfl, by first | rfl | trivial, rfl⟩
def te216 : TE := ⟨.struct [(0, 215)], 0, 0, .st [0] [.ar 1 []]⟩
theorem ok216 : EntryOk prog 216 te216 := ⟨Try.t216, _, _, rfl, Try.underlying216, by first | rfl | trivial | exact ⟨rfl, rfl⟩, rfl, rfl, rfl, rfl, rfl, by first | rfl | trivial, rfl⟩
def te217 : TE := ⟨.struct [(0, 215)], 0, 0, .st [0] [.ar 1 []]⟩
theorem ok217 : EntryOk prog 217 te217 := ⟨Try.t217, _, _, rfl, Try.underlying217, by first | rfl | trivial | exact ⟨rfl, rfl⟩, rfl, rfl, rfl, rfl, rfl, by first | rfl | trivial, rfl⟩
def te218 : TE := ⟨.int .u8, 1, 1, .v (.int .u8 0)⟩
theorem ok218 : EntryOk prog 218 te218 := ⟨Try.t218, _, _, rfl, Try.underlying218, by first | rfl | trivial | exact ⟨rfl, rfl⟩, rfl, rfl, rfl, rfl, rfl, by first | rfl | trivial, rfl⟩
def te219 : TE := ⟨.int .u8, 1, 1, .v (.int .u8 0)⟩
theorem ok219 : EntryOk prog 219 te219 := ⟨Try.t219, _, _, rfl, Try.underlying219, by first | rfl | trivial | exact ⟨rfl, rfl⟩, rfl, rfl, rfl, rfl, rfl, by first | rfl | trivial, rfl⟩
def te221 : TE := ⟨.ptr 5, 1, 8, .v (.pointer none)⟩
theorem ok221 : EntryOk prog 221 te221 := ⟨Try.t221, _, _, rfl, Try.underlying221, by first | rfl | trivial | exact ⟨rfl, rfl⟩, rfl, rfl, rfl, rfl, rfl, by first | rfl | trivial, rfl⟩
def te222 : TE := ⟨.int .i32, 1, 4, .v (.int .i32 0)⟩
theorem ok222 : EntryOk prog 222 te222 := ⟨Try.t222, _, _, rfl, Try.underlying222, by first | rfl | trivial | exact ⟨rfl, rfl⟩, rfl, rfl, rfl, rfl, rfl, by first | rfl | trivial, rfl⟩
def te223 : TE := ⟨.int .i32, 1, 4, .v (.int .i32 0)⟩
theorem ok223 : EntryOk prog 223 te223 := ⟨Try.t223, _, _, rfl, Try.underlying223, by first | rfl | trivial | exact ⟨rfl, rfl⟩, rfl, rfl, rfl, rfl, rfl, by first | rfl | trivial, rfl⟩
def te226 : TE := ⟨.struct [(0, 9)], 1, 16, .st [1] [.v (.string ⟨#[]⟩)]⟩
theorem ok226 : EntryOk prog 226 te226 := ⟨Try.t226, _, _, rfl, Try.underlying226, by first | rfl | trivial | exact ⟨rfl, rfl⟩, rfl, rfl, rfl, rfl, rfl, by first | rfl | trivial, rfl⟩
def te227 : TE := ⟨.struct [(0, 9)], 1, 16, .st [1] [.v (.string ⟨#[]⟩)]⟩
theorem ok227 : EntryOk prog 227 te227 := ⟨Try.t227, _, _, rfl, Try.underlying227, by first | rfl | trivial | exact ⟨rfl, rfl⟩, rfl, rfl, rfl, rfl, rfl, by first | rfl | trivial, rfl⟩
def tab : Tab := [none, none, some te2, some te3, some te4, some te5, some te6, some te7, some te8, some te9, some te10, some te11, some te12, some te13, some te14, some te15, some te16, some te17, some te18, some te19, none, some te21, some te22, some te23, some te24, some te25, none, none, none, none, none, none, none, none, some te34, some te35, some te36, none, none, none, none, none, none, none, none, none, none, none, none, none, none, some te51, some te52, some te53, some te54, some te55, some te56, some te57, some te58, some te59, none, none, none, none, none, none, none, none, none, none, none, none, none, none, none, none, none, none, none, none, none, none, none, some te83, none, none, some te86, some te87, some te88, some te89, some te90, some te91, some te92, none, some te94, some te95, none, none, none, none, none, none, some te102, some te103, some te104, some te105, some te106, some te107, some te108, none, some te110, some te111, some te112, none, none, none, none, none, none, none, some te120, some te121, none, none, none, some te125, none, none, none, none, none, none, none, none, none, some te135, some te136, some te137, none, none, none, none, some te142, some te143, none, none, none, none, some te148, some te149, none, none, none, none, none, none, none, none, none, none, none, none, none, none, none, none, none, none, none, none, none, none, none, none, none, some te175, none, none, none, none, none, none, none, none, none, none, none, some te187, some te188, none, none, none, none, none, none, none, none, none, none, none, none, none, none, none, none, none, none, none, none, none, none, some te211, none, some te213, some te214, some te215, some te216, some te217, some te218, some te219, none, some te221, some te222, some te223, none, none, some te226, some te227, none]
def TabL (P : Program) : Nat → Tab → Prop
  | _, [] => True
  | k, some te :: T => EntryOk P k te ∧ TabL P (k + 1) T
  | k, none :: T => TabL P (k + 1) T
theorem TabL.get {P : Program} : ∀ (T : Tab) (k t : Nat) (te : TE), TabL P k T → tget T t = some te → EntryOk P (k + t) te
  | [], _, t, _, _, h => by simp [tget] at h
  | some te' :: T, k, 0, te, hl, h => by simp [tget] at h; subst h; exact hl.1
  | none :: T, k, 0, te, hl, h => by simp [tget] at h
  | some te' :: T, k, t + 1, te, hl, h => by
    have := TabL.get T (k + 1) t te hl.2 (by simpa [tget] using h)
    rwa [Nat.add_right_comm] at this
  | none :: T, k, t + 1, te, hl, h => by
    have := TabL.get T (k + 1) t te hl (by simpa [tget] using h)
    rwa [Nat.add_right_comm] at this
theorem tabOk : TabOk prog tab := fun t te h => by
  have := TabL.get (P := prog) tab 0 t te ⟨ok2, ok3, ok4, ok5, ok6, ok7, ok8, ok9, ok10, ok11, ok12, ok13, ok14, ok15, ok16, ok17, ok18, ok19, ok21, ok22, ok23, ok24, ok25, ok34, ok35, ok36, ok51, ok52, ok53, ok54, ok55, ok56, ok57, ok58, ok59, ok83, ok86, ok87, ok88, ok89, ok90, ok91, ok92, ok94, ok95, ok102, ok103, ok104, ok105, ok106, ok107, ok108, ok110, ok111, ok112, ok120, ok121, ok125, ok135, ok136, ok137, ok142, ok143, ok148, ok149, ok175, ok187, ok188, ok211, ok213, ok214, ok215, ok216, ok217, ok218, ok219, ok221, ok222, ok223, ok226, ok227, trivial⟩ h
  rwa [Nat.zero_add] at this
section
variable {ops : Array Oper} {cf : Oper → Bool} {K : St → Prop} {o : Oper} {rest : List Oper} {L : List (Nat × AV)} {O : List (Nat × Obj)} {d : Nat}
theorem pI {κ : IntKind} {i : Int} (hd : o.dst = some d) (hg : gOn ops L o = true) (h : opV tab (mkSt L O) o = some (.dat (.v (.int κ i)))) (k : AOps prog ops cf K rest (mkSt ((d, .dat (.v (.int κ i))) :: L) O)) : AOps prog ops cf K (o :: rest) (mkSt L O) := AOps.p tabOk hd hg h k
theorem pB {i : Bool} (hd : o.dst = some d) (hg : gOn ops L o = true) (h : opV tab (mkSt L O) o = some (.dat (.v (.bool i)))) (k : AOps prog ops cf K rest (mkSt ((d, .dat (.v (.bool i))) :: L) O)) : AOps prog ops cf K (o :: rest) (mkSt L O) := AOps.p tabOk hd hg h k
theorem pF {κ : FloatKind} {i : Nat} (hd : o.dst = some d) (hg : gOn ops L o = true) (h : opV tab (mkSt L O) o = some (.dat (.v (.float κ i)))) (k : AOps prog ops cf K rest (mkSt ((d, .dat (.v (.float κ i))) :: L) O)) : AOps prog ops cf K (o :: rest) (mkSt L O) := AOps.p tabOk hd hg h k
theorem pS {E : TypeId} {sz : Nat} {xs : List DV} (hd : o.dst = some d) (hg : gOn ops L o = true) (h : opV tab (mkSt L O) o = some (.dat (.sl E sz xs))) (k : AOps prog ops cf K rest (mkSt ((d, .dat (.sl E sz xs)) :: L) O)) : AOps prog ops cf K (o :: rest) (mkSt L O) := AOps.p tabOk hd hg h k
theorem pT {ns : List Nat} {xs : List DV} (hd : o.dst = some d) (hg : gOn ops L o = true) (h : opV tab (mkSt L O) o = some (.dat (.st ns xs))) (k : AOps prog ops cf K rest (mkSt ((d, .dat (.st ns xs)) :: L) O)) : AOps prog ops cf K (o :: rest) (mkSt L O) := AOps.p tabOk hd hg h k
theorem pU {xs : List DV} (hd : o.dst = some d) (hg : gOn ops L o = true) (h : opV tab (mkSt L O) o = some (.dat (.tup xs))) (k : AOps prog ops cf K rest (mkSt ((d, .dat (.tup xs)) :: L) O)) : AOps prog ops cf K (o :: rest) (mkSt L O) := AOps.p tabOk hd hg h k
theorem pP {id off : Nat} {p : List Pa} (hd : o.dst = some d) (hg : gOn ops L o = true) (h : opV tab (mkSt L O) o = some (.pt id p off)) (k : AOps prog ops cf K rest (mkSt ((d, .pt id p off) :: L) O)) : AOps prog ops cf K (o :: rest) (mkSt L O) := AOps.p tabOk hd hg h k
theorem pO {id : Nat} (hd : o.dst = some d) (hg : gOn ops L o = true) (h : opV tab (mkSt L O) o = some (.oref id)) (k : AOps prog ops cf K rest (mkSt ((d, .oref id) :: L) O)) : AOps prog ops cf K (o :: rest) (mkSt L O) := AOps.p tabOk hd hg h k
theorem pW {x : DV} (hd : o.dst = some d) (hg : gOn ops L o = true) (h : opV tab (mkSt L O) o = some (.dat x)) (k : AOps prog ops cf K rest (mkSt ((d, .dat x) :: L) O)) : AOps prog ops cf K (o :: rest) (mkSt L O) := AOps.p tabOk hd hg h k
end
theorem mixed : prog.follows .mixedOrders = true := rfl
end Go.Sim.Ytlglkgineclggaa
