/- What is proved: the table of the types that the program has. -/
import Derived.Test.YtnhflokfcnfegaaProg
import Derived.Test.YtnhflokfcnfegaaSimE
import Derived.Test.YtnhflokfcnfegaaBig
namespace Go.Sim.Ytnhflokfcnfegaa
open Go.RowKit Go.Proofs Go.Proofs.Try

def te2 : TE := ⟨.int .i64, 1, 8, .v (.int .i64 0)⟩
theorem ok2 : EntryOk prog 2 te2 := ⟨Try.t2, _, _, rfl, Try.underlying2, by first | rfl | trivial | exact ⟨rfl, rfl⟩, rfl, rfl, rfl, rfl, rfl, by first | rfl | trivial, rfl⟩
def te3 : TE := ⟨.int .i64, 1, 8, .v (.int .i64 0)⟩
theorem ok3 : EntryOk prog 3 te3 := ⟨Try.t3, _, _, rfl, Try.underlying3, by first | rfl | trivial | exact ⟨rfl, rfl⟩, rfl, rfl, rfl, rfl, rfl, by first | rfl | trivial, rfl⟩
def te4 : TE := ⟨.bool, 1, 1, .v (.bool false)⟩
theorem ok4 : EntryOk prog 4 te4 := ⟨Try.t4, _, _, rfl, Try.underlying4, by first | rfl | trivial | exact ⟨rfl, rfl⟩, rfl, rfl, rfl, rfl, rfl, by first | rfl | trivial, rfl⟩
def te5 : TE := ⟨.int .u8, 1, 1, .v (.int .u8 0)⟩
theorem ok5 : EntryOk prog 5 te5 := ⟨Try.t5, _, _, rfl, Try.underlying5, by first | rfl | trivial | exact ⟨rfl, rfl⟩, rfl, rfl, rfl, rfl, rfl, by first | rfl | trivial, rfl⟩
def te6 : TE := ⟨.int .u8, 1, 1, .v (.int .u8 0)⟩
theorem ok6 : EntryOk prog 6 te6 := ⟨Try.t6, _, _, rfl, Try.underlying6, by first | rfl | trivial | exact ⟨rfl, rfl⟩, rfl, rfl, rfl, rfl, rfl, by first | rfl | trivial, rfl⟩
def te7 : TE := ⟨.struct [(0, 2), (1, 3), (2, 4), (3, 6)], 4, 24, .st [1, 1, 1, 1] [.v (.int .i64 0), .v (.int .i64 0), .v (.bool false), .v (.int .u8 0)]⟩
theorem ok7 : EntryOk prog 7 te7 := ⟨Try.t7, _, _, rfl, Try.underlying7, by first | rfl | trivial | exact ⟨rfl, rfl⟩, rfl, rfl, rfl, rfl, rfl, by first | rfl | trivial, rfl⟩
def te8 : TE := ⟨.struct [(0, 2), (1, 3), (2, 4), (3, 6)], 4, 24, .st [1, 1, 1, 1] [.v (.int .i64 0), .v (.int .i64 0), .v (.bool false), .v (.int .u8 0)]⟩
theorem ok8 : EntryOk prog 8 te8 := ⟨Try.t8, _, _, rfl, Try.underlying8, by first | rfl | trivial | exact ⟨rfl, rfl⟩, rfl, rfl, rfl, rfl, rfl, by first | rfl | trivial, rfl⟩
def te9 : TE := ⟨.str, 1, 16, .v (.string ⟨#[]⟩)⟩
theorem ok9 : EntryOk prog 9 te9 := ⟨Try.t9, _, _, rfl, Try.underlying9, by first | rfl | trivial | exact ⟨rfl, rfl⟩, rfl, rfl, rfl, rfl, rfl, by first | rfl | trivial, rfl⟩
def te10 : TE := ⟨.str, 1, 16, .v (.string ⟨#[]⟩)⟩
theorem ok10 : EntryOk prog 10 te10 := ⟨Try.t10, _, _, rfl, Try.underlying10, by first | rfl | trivial | exact ⟨rfl, rfl⟩, rfl, rfl, rfl, rfl, rfl, by first | rfl | trivial, rfl⟩
def te11 : TE := ⟨.str, 1, 16, .v (.string ⟨#[]⟩)⟩
theorem ok11 : EntryOk prog 11 te11 := ⟨Try.t11, _, _, rfl, Try.underlying11, by first | rfl | trivial | exact ⟨rfl, rfl⟩, rfl, rfl, rfl, rfl, rfl, by first | rfl | trivial, rfl⟩
def te12 : TE := ⟨.int .u64, 1, 8, .v (.int .u64 0)⟩
theorem ok12 : EntryOk prog 12 te12 := ⟨Try.t12, _, _, rfl, Try.underlying12, by first | rfl | trivial | exact ⟨rfl, rfl⟩, rfl, rfl, rfl, rfl, rfl, by first | rfl | trivial, rfl⟩
def te13 : TE := ⟨.struct [(0, 9), (1, 12)], 2, 24, .st [1, 1] [.v (.string ⟨#[]⟩), .v (.int .u64 0)]⟩
theorem ok13 : EntryOk prog 13 te13 := ⟨Try.t13, _, _, rfl, Try.underlying13, by first | rfl | trivial | exact ⟨rfl, rfl⟩, rfl, rfl, rfl, rfl, rfl, by first | rfl | trivial, rfl⟩
def te14 : TE := ⟨.struct [(0, 9), (1, 12)], 2, 24, .st [1, 1] [.v (.string ⟨#[]⟩), .v (.int .u64 0)]⟩
theorem ok14 : EntryOk prog 14 te14 := ⟨Try.t14, _, _, rfl, Try.underlying14, by first | rfl | trivial | exact ⟨rfl, rfl⟩, rfl, rfl, rfl, rfl, rfl, by first | rfl | trivial, rfl⟩
def te15 : TE := ⟨.ptr 100, 1, 8, .v (.pointer none)⟩
theorem ok15 : EntryOk prog 15 te15 := ⟨Try.t15, _, _, rfl, Try.underlying15, by first | rfl | trivial | exact ⟨rfl, rfl⟩, rfl, rfl, rfl, rfl, rfl, by first | rfl | trivial, rfl⟩
def te16 : TE := ⟨.ptr 103, 1, 8, .v (.pointer none)⟩
theorem ok16 : EntryOk prog 16 te16 := ⟨Try.t16, _, _, rfl, Try.underlying16, by first | rfl | trivial | exact ⟨rfl, rfl⟩, rfl, rfl, rfl, rfl, rfl, by first | rfl | trivial, rfl⟩
def te17 : TE := ⟨.ptr 112, 1, 8, .v (.pointer none)⟩
theorem ok17 : EntryOk prog 17 te17 := ⟨Try.t17, _, _, rfl, Try.underlying17, by first | rfl | trivial | exact ⟨rfl, rfl⟩, rfl, rfl, rfl, rfl, rfl, by first | rfl | trivial, rfl⟩
def te18 : TE := ⟨.struct [(0, 17)], 1, 8, .st [1] [.v (.pointer none)]⟩
theorem ok18 : EntryOk prog 18 te18 := ⟨Try.t18, _, _, rfl, Try.underlying18, by first | rfl | trivial | exact ⟨rfl, rfl⟩, rfl, rfl, rfl, rfl, rfl, by first | rfl | trivial, rfl⟩
def te19 : TE := ⟨.struct [(0, 17)], 1, 8, .st [1] [.v (.pointer none)]⟩
theorem ok19 : EntryOk prog 19 te19 := ⟨Try.t19, _, _, rfl, Try.underlying19, by first | rfl | trivial | exact ⟨rfl, rfl⟩, rfl, rfl, rfl, rfl, rfl, by first | rfl | trivial, rfl⟩
def te21 : TE := ⟨.int .i32, 1, 4, .v (.int .i32 0)⟩
theorem ok21 : EntryOk prog 21 te21 := ⟨Try.t21, _, _, rfl, Try.underlying21, by first | rfl | trivial | exact ⟨rfl, rfl⟩, rfl, rfl, rfl, rfl, rfl, by first | rfl | trivial, rfl⟩
def te22 : TE := ⟨.struct [(0, 2), (1, 2)], 2, 16, .st [1, 1] [.v (.int .i64 0), .v (.int .i64 0)]⟩
theorem ok22 : EntryOk prog 22 te22 := ⟨Try.t22, _, _, rfl, Try.underlying22, by first | rfl | trivial | exact ⟨rfl, rfl⟩, rfl, rfl, rfl, rfl, rfl, by first | rfl | trivial, rfl⟩
def te23 : TE := ⟨.struct [(0, 2), (1, 2)], 2, 16, .st [1, 1] [.v (.int .i64 0), .v (.int .i64 0)]⟩
theorem ok23 : EntryOk prog 23 te23 := ⟨Try.t23, _, _, rfl, Try.underlying23, by first | rfl | trivial | exact ⟨rfl, rfl⟩, rfl, rfl, rfl, rfl, rfl, by first | rfl | trivial, rfl⟩
def te24 : TE := ⟨.slice 26, 1, 24, .sl 26 9 []⟩
theorem ok24 : EntryOk prog 24 te24 := ⟨Try.t24, _, _, rfl, Try.underlying24, by first | rfl | trivial | exact ⟨rfl, rfl⟩, rfl, rfl, rfl, rfl, rfl, by first | rfl | trivial, rfl⟩
def te25 : TE := ⟨.struct [(0, 3), (1, 9), (2, 9), (3, 3), (4, 3), (5, 4), (6, 23), (8, 24)], 9, 104, .st [1, 1, 1, 1, 1, 1, 2, 1] [.v (.int .i64 0), .v (.string ⟨#[]⟩), .v (.string ⟨#[]⟩), .v (.int .i64 0), .v (.int .i64 0), .v (.bool false), .st [1, 1] [.v (.int .i64 0), .v (.int .i64 0)], .sl 26 9 []]⟩
theorem ok25 : EntryOk prog 25 te25 := ⟨Try.t25, _, _, rfl, Try.underlying25, by first | rfl | trivial | exact ⟨rfl, rfl⟩, rfl, rfl, rfl, rfl, rfl, by first | rfl | trivial, rfl⟩
def te26 : TE := ⟨.struct [(0, 3), (1, 9), (2, 9), (3, 3), (4, 3), (5, 4), (6, 23), (8, 24)], 9, 104, .st [1, 1, 1, 1, 1, 1, 2, 1] [.v (.int .i64 0), .v (.string ⟨#[]⟩), .v (.string ⟨#[]⟩), .v (.int .i64 0), .v (.int .i64 0), .v (.bool false), .st [1, 1] [.v (.int .i64 0), .v (.int .i64 0)], .sl 26 9 []]⟩
theorem ok26 : EntryOk prog 26 te26 := ⟨Try.t26, _, _, rfl, Try.underlying26, by first | rfl | trivial | exact ⟨rfl, rfl⟩, rfl, rfl, rfl, rfl, rfl, by first | rfl | trivial, rfl⟩
def te31 : TE := ⟨.int .i64, 1, 8, .v (.int .i64 0)⟩
theorem ok31 : EntryOk prog 31 te31 := ⟨Try.t31, _, _, rfl, Try.underlying31, by first | rfl | trivial | exact ⟨rfl, rfl⟩, rfl, rfl, rfl, rfl, rfl, by first | rfl | trivial, rfl⟩
def te42 : TE := ⟨.arr 7 23, 14, 112, .ar 2 [.st [1, 1] [.v (.int .i64 0), .v (.int .i64 0)], .st [1, 1] [.v (.int .i64 0), .v (.int .i64 0)], .st [1, 1] [.v (.int .i64 0), .v (.int .i64 0)], .st [1, 1] [.v (.int .i64 0), .v (.int .i64 0)], .st [1, 1] [.v (.int .i64 0), .v (.int .i64 0)], .st [1, 1] [.v (.int .i64 0), .v (.int .i64 0)], .st [1, 1] [.v (.int .i64 0), .v (.int .i64 0)]]⟩
theorem ok42 : EntryOk prog 42 te42 := ⟨Try.t42, _, _, rfl, Try.underlying42, by first | rfl | trivial | exact ⟨rfl, rfl⟩, rfl, rfl, rfl, rfl, rfl, by first | rfl | trivial, rfl⟩
def te43 : TE := ⟨.struct [(0, 42)], 14, 112, .st [14] [.ar 2 [.st [1, 1] [.v (.int .i64 0), .v (.int .i64 0)], .st [1, 1] [.v (.int .i64 0), .v (.int .i64 0)], .st [1, 1] [.v (.int .i64 0), .v (.int .i64 0)], .st [1, 1] [.v (.int .i64 0), .v (.int .i64 0)], .st [1, 1] [.v (.int .i64 0), .v (.int .i64 0)], .st [1, 1] [.v (.int .i64 0), .v (.int .i64 0)], .st [1, 1] [.v (.int .i64 0), .v (.int .i64 0)]]]⟩
theorem ok43 : EntryOk prog 43 te43 := ⟨Try.t43, _, _, rfl, Try.underlying43, by first | rfl | trivial | exact ⟨rfl, rfl⟩, rfl, rfl, rfl, rfl, rfl, by first | rfl | trivial, rfl⟩
def te44 : TE := ⟨.struct [(0, 42)], 14, 112, .st [14] [.ar 2 [.st [1, 1] [.v (.int .i64 0), .v (.int .i64 0)], .st [1, 1] [.v (.int .i64 0), .v (.int .i64 0)], .st [1, 1] [.v (.int .i64 0), .v (.int .i64 0)], .st [1, 1] [.v (.int .i64 0), .v (.int .i64 0)], .st [1, 1] [.v (.int .i64 0), .v (.int .i64 0)], .st [1, 1] [.v (.int .i64 0), .v (.int .i64 0)], .st [1, 1] [.v (.int .i64 0), .v (.int .i64 0)]]]⟩
theorem ok44 : EntryOk prog 44 te44 := ⟨Try.t44, _, _, rfl, Try.underlying44, by first | rfl | trivial | exact ⟨rfl, rfl⟩, rfl, rfl, rfl, rfl, rfl, by first | rfl | trivial, rfl⟩
def te51 : TE := ⟨.slice 9, 1, 24, .sl 9 1 []⟩
theorem ok51 : EntryOk prog 51 te51 := ⟨Try.t51, _, _, rfl, Try.underlying51, by first | rfl | trivial | exact ⟨rfl, rfl⟩, rfl, rfl, rfl, rfl, rfl, by first | rfl | trivial, rfl⟩
def te52 : TE := ⟨.slice 44, 1, 24, .sl 44 14 []⟩
theorem ok52 : EntryOk prog 52 te52 := ⟨Try.t52, _, _, rfl, Try.underlying52, by first | rfl | trivial | exact ⟨rfl, rfl⟩, rfl, rfl, rfl, rfl, rfl, by first | rfl | trivial, rfl⟩
def te58 : TE := ⟨.int .u64, 1, 8, .v (.int .u64 0)⟩
theorem ok58 : EntryOk prog 58 te58 := ⟨Try.t58, _, _, rfl, Try.underlying58, by first | rfl | trivial | exact ⟨rfl, rfl⟩, rfl, rfl, rfl, rfl, rfl, by first | rfl | trivial, rfl⟩
def te61 : TE := ⟨.slice 83, 1, 24, .sl 83 1 []⟩
theorem ok61 : EntryOk prog 61 te61 := ⟨Try.t61, _, _, rfl, Try.underlying61, by first | rfl | trivial | exact ⟨rfl, rfl⟩, rfl, rfl, rfl, rfl, rfl, by first | rfl | trivial, rfl⟩
def te62 : TE := ⟨.slice 83, 1, 24, .sl 83 1 []⟩
theorem ok62 : EntryOk prog 62 te62 := ⟨Try.t62, _, _, rfl, Try.underlying62, by first | rfl | trivial | exact ⟨rfl, rfl⟩, rfl, rfl, rfl, rfl, rfl, by first | rfl | trivial, rfl⟩
def te72 : TE := ⟨.struct [(0, 4), (1, 62), (2, 3)], 3, 40, .st [1, 1, 1] [.v (.bool false), .sl 83 1 [], .v (.int .i64 0)]⟩
theorem ok72 : EntryOk prog 72 te72 := ⟨Try.t72, _, _, rfl, Try.underlying72, by first | rfl | trivial | exact ⟨rfl, rfl⟩, rfl, rfl, rfl, rfl, rfl, by first | rfl | trivial, rfl⟩
def te73 : TE := ⟨.struct [(0, 4), (1, 62), (2, 3)], 3, 40, .st [1, 1, 1] [.v (.bool false), .sl 83 1 [], .v (.int .i64 0)]⟩
theorem ok73 : EntryOk prog 73 te73 := ⟨Try.t73, _, _, rfl, Try.underlying73, by first | rfl | trivial | exact ⟨rfl, rfl⟩, rfl, rfl, rfl, rfl, rfl, by first | rfl | trivial, rfl⟩
def te83 : TE := ⟨.int .u32, 1, 4, .v (.int .u32 0)⟩
theorem ok83 : EntryOk prog 83 te83 := ⟨Try.t83, _, _, rfl, Try.underlying83, by first | rfl | trivial | exact ⟨rfl, rfl⟩, rfl, rfl, rfl, rfl, rfl, by first | rfl | trivial, rfl⟩
def te84 : TE := ⟨.int .u64, 1, 8, .v (.int .u64 0)⟩
theorem ok84 : EntryOk prog 84 te84 := ⟨Try.t84, _, _, rfl, Try.underlying84, by first | rfl | trivial | exact ⟨rfl, rfl⟩, rfl, rfl, rfl, rfl, rfl, by first | rfl | trivial, rfl⟩
def te97 : TE := ⟨.ptr 114, 1, 8, .v (.pointer none)⟩
theorem ok97 : EntryOk prog 97 te97 := ⟨Try.t97, _, _, rfl, Try.underlying97, by first | rfl | trivial | exact ⟨rfl, rfl⟩, rfl, rfl, rfl, rfl, rfl, by first | rfl | trivial, rfl⟩
def te99 : TE := ⟨.struct [(0, 17), (1, 17), (2, 17), (3, 9)], 4, 40, .st [1, 1, 1, 1] [.v (.pointer none), .v (.pointer none), .v (.pointer none), .v (.string ⟨#[]⟩)]⟩
theorem ok99 : EntryOk prog 99 te99 := ⟨Try.t99, _, _, rfl, Try.underlying99, by first | rfl | trivial | exact ⟨rfl, rfl⟩, rfl, rfl, rfl, rfl, rfl, by first | rfl | trivial, rfl⟩
def te100 : TE := ⟨.struct [(0, 17), (1, 17), (2, 17), (3, 9)], 4, 40, .st [1, 1, 1, 1] [.v (.pointer none), .v (.pointer none), .v (.pointer none), .v (.string ⟨#[]⟩)]⟩
theorem ok100 : EntryOk prog 100 te100 := ⟨Try.t100, _, _, rfl, Try.underlying100, by first | rfl | trivial | exact ⟨rfl, rfl⟩, rfl, rfl, rfl, rfl, rfl, by first | rfl | trivial, rfl⟩
def te101 : TE := ⟨.arr 0 16, 0, 0, .ar 1 []⟩
theorem ok101 : EntryOk prog 101 te101 := ⟨Try.t101, _, _, rfl, Try.underlying101, by first | rfl | trivial | exact ⟨rfl, rfl⟩, rfl, rfl, rfl, rfl, rfl, by first | rfl | trivial, rfl⟩
def te102 : TE := ⟨.struct [(0, 101)], 0, 0, .st [0] [.ar 1 []]⟩
theorem ok102 : EntryOk prog 102 te102 := ⟨Try.t102, _, _, rfl, Try.underlying102, by first | rfl | trivial | exact ⟨rfl, rfl⟩, rfl, rfl, rfl, rfl, rfl, by first | rfl | trivial, rfl⟩
def te103 : TE := ⟨.struct [(0, 101)], 0, 0, .st [0] [.ar 1 []]⟩
theorem ok103 : EntryOk prog 103 te103 := ⟨Try.t103, _, _, rfl, Try.underlying103, by first | rfl | trivial | exact ⟨rfl, rfl⟩, rfl, rfl, rfl, rfl, rfl, by first | rfl | trivial, rfl⟩
def te105 : TE := ⟨.int .u8, 1, 1, .v (.int .u8 0)⟩
theorem ok105 : EntryOk prog 105 te105 := ⟨Try.t105, _, _, rfl, Try.underlying105, by first | rfl | trivial | exact ⟨rfl, rfl⟩, rfl, rfl, rfl, rfl, rfl, by first | rfl | trivial, rfl⟩
def te106 : TE := ⟨.int .u8, 1, 1, .v (.int .u8 0)⟩
theorem ok106 : EntryOk prog 106 te106 := ⟨Try.t106, _, _, rfl, Try.underlying106, by first | rfl | trivial | exact ⟨rfl, rfl⟩, rfl, rfl, rfl, rfl, rfl, by first | rfl | trivial, rfl⟩
def te108 : TE := ⟨.ptr 5, 1, 8, .v (.pointer none)⟩
theorem ok108 : EntryOk prog 108 te108 := ⟨Try.t108, _, _, rfl, Try.underlying108, by first | rfl | trivial | exact ⟨rfl, rfl⟩, rfl, rfl, rfl, rfl, rfl, by first | rfl | trivial, rfl⟩
def te109 : TE := ⟨.int .i32, 1, 4, .v (.int .i32 0)⟩
theorem ok109 : EntryOk prog 109 te109 := ⟨Try.t109, _, _, rfl, Try.underlying109, by first | rfl | trivial | exact ⟨rfl, rfl⟩, rfl, rfl, rfl, rfl, rfl, by first | rfl | trivial, rfl⟩
def te110 : TE := ⟨.int .i32, 1, 4, .v (.int .i32 0)⟩
theorem ok110 : EntryOk prog 110 te110 := ⟨Try.t110, _, _, rfl, Try.underlying110, by first | rfl | trivial | exact ⟨rfl, rfl⟩, rfl, rfl, rfl, rfl, rfl, by first | rfl | trivial, rfl⟩
def te113 : TE := ⟨.struct [(0, 9)], 1, 16, .st [1] [.v (.string ⟨#[]⟩)]⟩
theorem ok113 : EntryOk prog 113 te113 := ⟨Try.t113, _, _, rfl, Try.underlying113, by first | rfl | trivial | exact ⟨rfl, rfl⟩, rfl, rfl, rfl, rfl, rfl, by first | rfl | trivial, rfl⟩
def te114 : TE := ⟨.struct [(0, 9)], 1, 16, .st [1] [.v (.string ⟨#[]⟩)]⟩
theorem ok114 : EntryOk prog 114 te114 := ⟨Try.t114, _, _, rfl, Try.underlying114, by first | rfl | trivial | exact ⟨rfl, rfl⟩, rfl, rfl, rfl, rfl, rfl, by first | rfl | trivial, rfl⟩

def tab : Tab := [none, none, some te2, some te3, some te4, some te5, some te6, some te7, some te8, some te9, some te10, some te11, some te12, some te13, some te14, some te15, some te16, some te17, some te18, some te19, none, some te21, some te22, some te23, some te24, some te25, some te26, none, none, none, none, some te31, none, none, none, none, none, none, none, none, none, none, some te42, some te43, some te44, none, none, none, none, none, none, some te51, some te52, none, none, none, none, none, some te58, none, none, some te61, some te62, none, none, none, none, none, none, none, none, none, some te72, some te73, none, none, none, none, none, none, none, none, none, some te83, some te84, none, none, none, none, none, none, none, none, none, none, none, none, some te97, none, some te99, some te100, some te101, some te102, some te103, none, some te105, some te106, none, some te108, some te109, some te110, none, none, some te113, some te114, none]

def TabL (P : Program) : Nat → Tab → Prop
  | _, [] => True
  | k, some te :: T => EntryOk P k te ∧ TabL P (k + 1) T
  | k, none :: T => TabL P (k + 1) T

theorem TabL.get {P : Program} : ∀ (T : Tab) (k t : Nat) (te : TE), TabL P k T → tget T t = some te → EntryOk P (k + t) te
  | [], _, t, _, _, h => by simp [tget] at h
  | some te' :: T, k, 0, te, hl, h => by simp [tget] at h; subst h; exact hl.1
  | none :: T, k, 0, te, hl, h => by simp [tget] at h
  | some te' :: T, k, t + 1, te, hl, h => by
    have := TabL.get T (k + 1) t te hl.2 (by simpa [tget] using h)
    rwa [Nat.add_right_comm] at this
  | none :: T, k, t + 1, te, hl, h => by
    have := TabL.get T (k + 1) t te hl (by simpa [tget] using h)
    rwa [Nat.add_right_comm] at this

theorem tabOk : TabOk prog tab := fun t te h => by
  have := TabL.get (P := prog) tab 0 t te ⟨ok2, ok3, ok4, ok5, ok6, ok7, ok8, ok9, ok10, ok11, ok12, ok13, ok14, ok15, ok16, ok17, ok18, ok19, ok21, ok22, ok23, ok24, ok25, ok26, ok31, ok42, ok43, ok44, ok51, ok52, ok58, ok61, ok62, ok72, ok73, ok83, ok84, ok97, ok99, ok100, ok101, ok102, ok103, ok105, ok106, ok108, ok109, ok110, ok113, ok114, trivial⟩ h
  rwa [Nat.zero_add] at this

section
variable {ops : Array Oper} {cf : Oper → Bool} {K : St → Prop} {o : Oper} {rest : List Oper} {L : List (Nat × AV)} {O : List (Nat × Obj)} {d : Nat}
theorem pI {κ : IntKind} {i : Int} (hd : o.dst = some d) (hg : gOn ops L o = true) (h : opV tab (mkSt L O) o = some (.dat (.v (.int κ i)))) (k : AOps prog ops cf K rest (mkSt ((d, .dat (.v (.int κ i))) :: L) O)) : AOps prog ops cf K (o :: rest) (mkSt L O) := AOps.p tabOk hd hg h k
theorem pB {i : Bool} (hd : o.dst = some d) (hg : gOn ops L o = true) (h : opV tab (mkSt L O) o = some (.dat (.v (.bool i)))) (k : AOps prog ops cf K rest (mkSt ((d, .dat (.v (.bool i))) :: L) O)) : AOps prog ops cf K (o :: rest) (mkSt L O) := AOps.p tabOk hd hg h k
theorem pG {i : ByteArray} (hd : o.dst = some d) (hg : gOn ops L o = true) (h : opV tab (mkSt L O) o = some (.dat (.v (.string i)))) (k : AOps prog ops cf K rest (mkSt ((d, .dat (.v (.string i))) :: L) O)) : AOps prog ops cf K (o :: rest) (mkSt L O) := AOps.p tabOk hd hg h k
theorem pF {κ : FloatKind} {i : Nat} (hd : o.dst = some d) (hg : gOn ops L o = true) (h : opV tab (mkSt L O) o = some (.dat (.v (.float κ i)))) (k : AOps prog ops cf K rest (mkSt ((d, .dat (.v (.float κ i))) :: L) O)) : AOps prog ops cf K (o :: rest) (mkSt L O) := AOps.p tabOk hd hg h k
theorem pS {E : TypeId} {sz : Nat} {xs : List DV} (hd : o.dst = some d) (hg : gOn ops L o = true) (h : opV tab (mkSt L O) o = some (.dat (.sl E sz xs))) (k : AOps prog ops cf K rest (mkSt ((d, .dat (.sl E sz xs)) :: L) O)) : AOps prog ops cf K (o :: rest) (mkSt L O) := AOps.p tabOk hd hg h k
theorem pT {ns : List Nat} {xs : List DV} (hd : o.dst = some d) (hg : gOn ops L o = true) (h : opV tab (mkSt L O) o = some (.dat (.st ns xs))) (k : AOps prog ops cf K rest (mkSt ((d, .dat (.st ns xs)) :: L) O)) : AOps prog ops cf K (o :: rest) (mkSt L O) := AOps.p tabOk hd hg h k
theorem pA {sz : Nat} {xs : List DV} (hd : o.dst = some d) (hg : gOn ops L o = true) (h : opV tab (mkSt L O) o = some (.dat (.ar sz xs))) (k : AOps prog ops cf K rest (mkSt ((d, .dat (.ar sz xs)) :: L) O)) : AOps prog ops cf K (o :: rest) (mkSt L O) := AOps.p tabOk hd hg h k
theorem pU {xs : List DV} (hd : o.dst = some d) (hg : gOn ops L o = true) (h : opV tab (mkSt L O) o = some (.dat (.tup xs))) (k : AOps prog ops cf K rest (mkSt ((d, .dat (.tup xs)) :: L) O)) : AOps prog ops cf K (o :: rest) (mkSt L O) := AOps.p tabOk hd hg h k
theorem pP {id off : Nat} {p : List Pa} (hd : o.dst = some d) (hg : gOn ops L o = true) (h : opV tab (mkSt L O) o = some (.pt id p off)) (k : AOps prog ops cf K rest (mkSt ((d, .pt id p off) :: L) O)) : AOps prog ops cf K (o :: rest) (mkSt L O) := AOps.p tabOk hd hg h k
theorem pX {x : DV} (hd : o.dst = some d) (hg : gOn ops L o = true) (h : opV tab (mkSt L O) o = some (.sp x)) (k : AOps prog ops cf K rest (mkSt ((d, .sp x) :: L) O)) : AOps prog ops cf K (o :: rest) (mkSt L O) := AOps.p tabOk hd hg h k
theorem pO {id : Nat} (hd : o.dst = some d) (hg : gOn ops L o = true) (h : opV tab (mkSt L O) o = some (.oref id)) (k : AOps prog ops cf K rest (mkSt ((d, .oref id) :: L) O)) : AOps prog ops cf K (o :: rest) (mkSt L O) := AOps.p tabOk hd hg h k
theorem pV {ns : List Nat} {xs : List AV} (hd : o.dst = some d) (hg : gOn ops L o = true) (h : opV tab (mkSt L O) o = some (.st ns xs)) (k : AOps prog ops cf K rest (mkSt ((d, .st ns xs) :: L) O)) : AOps prog ops cf K (o :: rest) (mkSt L O) := AOps.p tabOk hd hg h k
theorem pW {x : DV} (hd : o.dst = some d) (hg : gOn ops L o = true) (h : opV tab (mkSt L O) o = some (.dat x)) (k : AOps prog ops cf K rest (mkSt ((d, .dat x) :: L) O)) : AOps prog ops cf K (o :: rest) (mkSt L O) := AOps.p tabOk hd hg h k
end

theorem mixed : prog.follows .mixedOrders = true := rfl

end Go.Sim.Ytnhflokfcnfegaa
