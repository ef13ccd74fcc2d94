/- What is proved: functions of the program compute what plain statements tell. -/
import Derived.Test.YtnhflokfcnfegaaWT
namespace Go.Sim.Ytnhflokfcnfegaa
open Go.RowKit Go.Proofs Go.Proofs.Try

def Ev_law15_CheckClasses (a0 : GTree) (a1 : ByteArray) (r : Bool) : Prop := AFn prog 3 [GTree.out a0, .v (.string a1)] (.v (.bool r)) false

def Ev_law11_RatMakes (a0 : GRat) (a1 : Int) (a2 : Int) (r : Bool) : Prop := AFn prog 4 [GRat.enc a0, .v (.int .i64 a1), .v (.int .i64 a2)] (.v (.bool r)) false

def Ev_law11_RatPowers (a0 : GRat) (a1 : GRat) (a2 : Int) (r : Bool) : Prop := AFn prog 5 [GRat.enc a0, GRat.enc a1, .v (.int .i64 a2)] (.v (.bool r)) false

def Ev_law11_RatOrder (a0 : GRat) (a1 : GRat) (a2 : GRat) (r : Bool) : Prop := AFn prog 6 [GRat.enc a0, GRat.enc a1, GRat.enc a2] (.v (.bool r)) false

def Ev_law11_RatCounts (a0 : GRat) (a1 : GRat) (r : Bool) : Prop := AFn prog 7 [GRat.enc a0, GRat.enc a1] (.v (.bool r)) false

def Ev_law14_UnitBack (a0 : GDim) (a1 : GDim) (a2 : GRat) (a3 : GRat) (r : Bool) : Prop := AFn prog 8 [GDim.enc a0, GDim.enc a1, GRat.enc a2, GRat.enc a3] (.v (.bool r)) false

def Ev_law14_UnitTimes (a0 : GDim) (a1 : GDim) (a2 : GRat) (r : Bool) : Prop := AFn prog 9 [GDim.enc a0, GDim.enc a1, GRat.enc a2] (.v (.bool r)) false

def Ev_law14_UnitReads (a0 : GTree) (a1 : List ByteArray) (a2 : List GDim) (r : Bool) : Prop := AFn prog 10 [GTree.out a0, .sl 9 1 (List.map eStr a1), .sl 44 14 (List.map GDim.enc a2)] (.v (.bool r)) false

def Ev_check_Class (a0 : GTree) (a1 : ByteArray) (r : GTree × Bool) : Prop := AFn prog 11 [GTree.out a0, .v (.string a1)] (.tup [GTree.out r.1, .v (.bool r.2)]) false

def Ev_ref15_Class (a0 : GTree) (a1 : ByteArray) (r : GTree × Bool) : Prop := AFn prog 12 [GTree.out a0, .v (.string a1)] (.tup [GTree.out r.1, .v (.bool r.2)]) false

def Ev_ref13_Like (a0 : GTree) (a1 : GTree) (r : Bool) : Prop := AFn prog 13 [GTree.out a0, GTree.out a1] (.v (.bool r)) false

def Ev_rat_Make (a0 : Int) (a1 : Int) (r : GRat × Int) : Prop := AFn prog 14 [.v (.int .i64 a0), .v (.int .i64 a1)] (.tup [GRat.enc r.1, .v (.int .i64 r.2)]) false

def Ev_ref11_Make (a0 : Int) (a1 : Int) (r : GRat × Int) : Prop := AFn prog 15 [.v (.int .i64 a0), .v (.int .i64 a1)] (.tup [GRat.enc r.1, .v (.int .i64 r.2)]) false

def Ev_rat_Right (a0 : GRat) (r : Bool) : Prop := AFn prog 16 [GRat.enc a0] (.v (.bool r)) false

def Ev_ref11_Right (a0 : GRat) (r : Bool) : Prop := AFn prog 17 [GRat.enc a0] (.v (.bool r)) false

def Ev_rat_Pow (a0 : GRat) (a1 : Int) (r : GRat × Int) : Prop := AFn prog 18 [GRat.enc a0, .v (.int .i64 a1)] (.tup [GRat.enc r.1, .v (.int .i64 r.2)]) false

def Ev_ref11_Pow (a0 : GRat) (a1 : Int) (r : GRat × Int) : Prop := AFn prog 19 [GRat.enc a0, .v (.int .i64 a1)] (.tup [GRat.enc r.1, .v (.int .i64 r.2)]) false

def Ev_rat_Cmp (a0 : GRat) (a1 : GRat) (r : Int) : Prop := AFn prog 20 [GRat.enc a0, GRat.enc a1] (.v (.int .i64 r)) false

def Ev_ref11_Cmp (a0 : GRat) (a1 : GRat) (r : Int) : Prop := AFn prog 21 [GRat.enc a0, GRat.enc a1] (.v (.int .i64 r)) false

def Ev_rat_Add (a0 : GRat) (a1 : GRat) (r : GRat × Int) : Prop := AFn prog 22 [GRat.enc a0, GRat.enc a1] (.tup [GRat.enc r.1, .v (.int .i64 r.2)]) false

def Ev_ref11_Add (a0 : GRat) (a1 : GRat) (r : GRat × Int) : Prop := AFn prog 23 [GRat.enc a0, GRat.enc a1] (.tup [GRat.enc r.1, .v (.int .i64 r.2)]) false

def Ev_rat_Sub (a0 : GRat) (a1 : GRat) (r : GRat × Int) : Prop := AFn prog 24 [GRat.enc a0, GRat.enc a1] (.tup [GRat.enc r.1, .v (.int .i64 r.2)]) false

def Ev_ref11_Sub (a0 : GRat) (a1 : GRat) (r : GRat × Int) : Prop := AFn prog 25 [GRat.enc a0, GRat.enc a1] (.tup [GRat.enc r.1, .v (.int .i64 r.2)]) false

def Ev_rat_Mul (a0 : GRat) (a1 : GRat) (r : GRat × Int) : Prop := AFn prog 26 [GRat.enc a0, GRat.enc a1] (.tup [GRat.enc r.1, .v (.int .i64 r.2)]) false

def Ev_ref11_Mul (a0 : GRat) (a1 : GRat) (r : GRat × Int) : Prop := AFn prog 27 [GRat.enc a0, GRat.enc a1] (.tup [GRat.enc r.1, .v (.int .i64 r.2)]) false

def Ev_rat_Div (a0 : GRat) (a1 : GRat) (r : GRat × Int) : Prop := AFn prog 28 [GRat.enc a0, GRat.enc a1] (.tup [GRat.enc r.1, .v (.int .i64 r.2)]) false

def Ev_ref11_Div (a0 : GRat) (a1 : GRat) (r : GRat × Int) : Prop := AFn prog 29 [GRat.enc a0, GRat.enc a1] (.tup [GRat.enc r.1, .v (.int .i64 r.2)]) false

def Ev_unit_Times (a0 : GDim) (a1 : GDim) (a2 : GRat) (r : GDim × Int) : Prop := AFn prog 30 [GDim.enc a0, GDim.enc a1, GRat.enc a2] (.tup [GDim.enc r.1, .v (.int .i64 r.2)]) false

def Ev_ref14_Times (a0 : GDim) (a1 : GDim) (a2 : GRat) (r : GDim × Int) : Prop := AFn prog 31 [GDim.enc a0, GDim.enc a1, GRat.enc a2] (.tup [GDim.enc r.1, .v (.int .i64 r.2)]) false

def Ev_unit_Right (a0 : GDim) (r : Bool) : Prop := AFn prog 32 [GDim.enc a0] (.v (.bool r)) false

def Ev_ref14_Right (a0 : GDim) (r : Bool) : Prop := AFn prog 33 [GDim.enc a0] (.v (.bool r)) false

def Ev_unit_Plain (r : GDim) : Prop := AFn prog 34 [] (GDim.enc r) false

def Ev_ref14_Plain (r : GDim) : Prop := AFn prog 35 [] (GDim.enc r) false

def Ev_unit_Of (a0 : GTree) (a1 : List ByteArray) (a2 : List GDim) (r : GDim × Int) : Prop := AFn prog 36 [GTree.out a0, .sl 9 1 (List.map eStr a1), .sl 44 14 (List.map GDim.enc a2)] (.tup [GDim.enc r.1, .v (.int .i64 r.2)]) false

def Ev_ref14_Of (a0 : GTree) (a1 : List ByteArray) (a2 : List GDim) (r : GDim × Int) : Prop := AFn prog 37 [GTree.out a0, .sl 9 1 (List.map eStr a1), .sl 44 14 (List.map GDim.enc a2)] (.tup [GDim.enc r.1, .v (.int .i64 r.2)]) false

def Ev_slices_IndexFunc_api_Tree (a0 : List GTree) (a1 : DV) (r : Int) : Prop := AFn prog 38 [.sl 26 9 (List.map GTree.enc a0), a1] (.v (.int .i64 r)) false

def Ev_check_Class_1 (a0 : GTree) (c0 : ByteArray) (r : Bool) : Prop := AFn prog 39 [GTree.out a0, .pd (.v (.string c0))] (.v (.bool r)) false

def Ev_rat_made (a0 : Bool) (a1 : Int) (a2 : Int) (r : GRat × Int) : Prop := AFn prog 40 [.v (.bool a0), .v (.int .u64 a1), .v (.int .u64 a2)] (.tup [GRat.enc r.1, .v (.int .i64 r.2)]) false

def Ev_rat_size (a0 : Int) (r : Int) : Prop := AFn prog 41 [.v (.int .i64 a0)] (.v (.int .u64 r)) false

def Ev_ref11_Of (a0 : Bool) (a1 : List Int) (a2 : List Int) (r : GRat × Int) : Prop := AFn prog 42 [.v (.bool a0), .sl 83 1 (List.map (eInt .u32) a1), .sl 83 1 (List.map (eInt .u32) a2)] (.tup [GRat.enc r.1, .v (.int .i64 r.2)]) false

def Ev_ref11_size (a0 : Int) (r : List Int) : Prop := AFn prog 43 [.v (.int .i64 a0)] (.sl 83 1 (List.map (eInt .u32) r)) false

def Ev_rat_gcd (a0 : Int) (a1 : Int) (r : Int) : Prop := AFn prog 44 [.v (.int .u64 a0), .v (.int .u64 a1)] (.v (.int .u64 r)) false

def Ev_ref01_Cmp (a0 : List Int) (a1 : List Int) (r : Int) : Prop := AFn prog 45 [.sl 83 1 (List.map (eInt .u32) a0), .sl 83 1 (List.map (eInt .u32) a1)] (.v (.int .i64 r)) false

def Ev_ref11_common (a0 : List Int) (a1 : List Int) (r : List Int) : Prop := AFn prog 46 [.sl 83 1 (List.map (eInt .u32) a0), .sl 83 1 (List.map (eInt .u32) a1)] (.sl 83 1 (List.map (eInt .u32) r)) false

def Ev_ref11_one (r : List Int) : Prop := AFn prog 47 [] (.sl 83 1 (List.map (eInt .u32) r)) false

def Ev_ref11_power (a0 : List Int) (a1 : Int) (r : List Int) : Prop := AFn prog 48 [.sl 83 1 (List.map (eInt .u32) a0), .v (.int .i64 a1)] (.sl 83 1 (List.map (eInt .u32) r)) false

def Ev_math_bits_Mul64 (a0 : Int) (a1 : Int) (r : Int × Int) : Prop := AFn prog 49 [.v (.int .u64 a0), .v (.int .u64 a1)] (.tup [.v (.int .u64 r.1), .v (.int .u64 r.2)]) false

def Ev_ref01_Order (a0 : Gref01Num) (a1 : Gref01Num) (r : Int) : Prop := AFn prog 50 [Gref01Num.enc a0, Gref01Num.enc a1] (.v (.int .i64 r)) false

def Ev_ref01_Product (a0 : Gref01Num) (a1 : Gref01Num) (r : Gref01Num) : Prop := AFn prog 51 [Gref01Num.enc a0, Gref01Num.enc a1] (Gref01Num.enc r) false

def Ev_ref11_Num (a0 : Int) (r : Gref01Num) : Prop := AFn prog 52 [.v (.int .i64 a0)] (Gref01Num.enc r) false

def Ev_math_bits_Add64 (a0 : Int) (a1 : Int) (a2 : Int) (r : Int × Int) : Prop := ExtOk prog 53 [.int .u64 a0, .int .u64 a1, .int .u64 a2] (.tup [.v (.int .u64 r.1), .v (.int .u64 r.2)])

def Ev_math_bits_Sub64 (a0 : Int) (a1 : Int) (a2 : Int) (r : Int × Int) : Prop := ExtOk prog 54 [.int .u64 a0, .int .u64 a1, .int .u64 a2] (.tup [.v (.int .u64 r.1), .v (.int .u64 r.2)])

def Ev_math_bits_Rem64 (a0 : Int) (a1 : Int) (a2 : Int) (r : Int) : Prop := AFn prog 55 [.v (.int .u64 a0), .v (.int .u64 a1), .v (.int .u64 a2)] (.v (.int .u64 r)) false

def Ev_math_bits_Div64 (a0 : Int) (a1 : Int) (a2 : Int) (r : Int × Int) : Prop := AFn prog 56 [.v (.int .u64 a0), .v (.int .u64 a1), .v (.int .u64 a2)] (.tup [.v (.int .u64 r.1), .v (.int .u64 r.2)]) false

def Ev_ref01_Sum (a0 : Gref01Num) (a1 : Gref01Num) (r : Gref01Num) : Prop := AFn prog 57 [Gref01Num.enc a0, Gref01Num.enc a1] (Gref01Num.enc r) false

def Ev_ref01_By (a0 : List Int) (a1 : List Int) (r : List Int) : Prop := AFn prog 58 [.sl 83 1 (List.map (eInt .u32) a0), .sl 83 1 (List.map (eInt .u32) a1)] (.sl 83 1 (List.map (eInt .u32) r)) false

def Ev_ref14_Whole (a0 : Int) (r : GRat) : Prop := AFn prog 59 [.v (.int .i64 a0)] (GRat.enc r) false

def Ev_slices_ContainsFunc_api_Dim (a0 : List GDim) (a1 : DV) (r : Bool) : Prop := AFn prog 60 [.sl 44 14 (List.map GDim.enc a0), a1] (.v (.bool r)) false

def Ev_unit_Of_1 (a0 : GDim) (r : Bool) : Prop := AFn prog 61 [GDim.enc a0] (.v (.bool r)) false

def Ev_unit_of (a0 : GTree) (a1 : List ByteArray) (a2 : List GDim) (r : GDim × Int) : Prop := AFn prog 62 [GTree.out a0, .sl 9 1 (List.map eStr a1), .sl 44 14 (List.map GDim.enc a2)] (.tup [GDim.enc r.1, .v (.int .i64 r.2)]) false

def Ev_ref14_dim (a0 : GTree) (a1 : List ByteArray) (a2 : List GDim) (r : GDim × Int) : Prop := AFn prog 63 [GTree.out a0, .sl 9 1 (List.map eStr a1), .sl 44 14 (List.map GDim.enc a2)] (.tup [GDim.enc r.1, .v (.int .i64 r.2)]) false

def Ev_ref11_low (a0 : List Int) (r : Int × Bool) : Prop := AFn prog 64 [.sl 83 1 (List.map (eInt .u32) a0)] (.tup [.v (.int .i64 r.1), .v (.bool r.2)]) false

def Ev_ref11_Quo (a0 : List Int) (a1 : List Int) (r : List Int) : Prop := AFn prog 65 [.sl 83 1 (List.map (eInt .u32) a0), .sl 83 1 (List.map (eInt .u32) a1)] (.sl 83 1 (List.map (eInt .u32) r)) false

def Ev_ref01_Of (a0 : Int) (r : List Int) : Prop := AFn prog 66 [.v (.int .u64 a0)] (.sl 83 1 (List.map (eInt .u32) r)) false

def Ev_ref11_rest (a0 : List Int) (a1 : List Int) (r : List Int) : Prop := AFn prog 67 [.sl 83 1 (List.map (eInt .u32) a0), .sl 83 1 (List.map (eInt .u32) a1)] (.sl 83 1 (List.map (eInt .u32) r)) false

def Ev_ref01_Sign (a0 : Gref01Num) (r : Int) : Prop := AFn prog 68 [Gref01Num.enc a0] (.v (.int .i64 r)) false

def Ev_ref01_Bits (a0 : List Int) (r : Int) : Prop := AFn prog 69 [.sl 83 1 (List.map (eInt .u32) a0)] (.v (.int .i64 r)) false

def Ev_ref01_level (a0 : Gref01Num) (a1 : Gref01Num) (r : Gref01Num × Gref01Num) : Prop := AFn prog 70 [Gref01Num.enc a0, Gref01Num.enc a1] (.tup [Gref01Num.enc r.1, Gref01Num.enc r.2]) false

def Ev_math_bits_LeadingZeros64 (a0 : Int) (r : Int) : Prop := AFn prog 71 [.v (.int .u64 a0)] (.v (.int .i64 r)) false

def Ev_ref01_Plus (a0 : List Int) (a1 : List Int) (r : List Int) : Prop := AFn prog 72 [.sl 83 1 (List.map (eInt .u32) a0), .sl 83 1 (List.map (eInt .u32) a1)] (.sl 83 1 (List.map (eInt .u32) r)) false

def Ev_ref01_Less (a0 : List Int) (a1 : List Int) (r : List Int) : Prop := AFn prog 73 [.sl 83 1 (List.map (eInt .u32) a0), .sl 83 1 (List.map (eInt .u32) a1)] (.sl 83 1 (List.map (eInt .u32) r)) false

def Ev_ref01_trim (a0 : List Int) (r : List Int) : Prop := AFn prog 74 [.sl 83 1 (List.map (eInt .u32) a0)] (.sl 83 1 (List.map (eInt .u32) r)) false

def Ev_slices_IndexFunc_api_Dim (a0 : List GDim) (a1 : DV) (r : Int) : Prop := AFn prog 75 [.sl 44 14 (List.map GDim.enc a0), a1] (.v (.int .i64 r)) false

def Ev_slices_Index_string (a0 : List ByteArray) (a1 : ByteArray) (r : Int) : Prop := AFn prog 76 [.sl 9 1 (List.map eStr a0), .v (.string a1)] (.v (.int .i64 r)) false

def Ev_unit_whole (a0 : Int) (r : GRat) : Prop := AFn prog 77 [.v (.int .i64 a0)] (GRat.enc r) false

def Ev_ref01_Left (a0 : List Int) (a1 : Int) (r : List Int) : Prop := AFn prog 78 [.sl 83 1 (List.map (eInt .u32) a0), .v (.int .i64 a1)] (.sl 83 1 (List.map (eInt .u32) r)) false

def Ev_math_bits_Len64 (a0 : Int) (r : Int) : Prop := AFn prog 79 [.v (.int .u64 a0)] (.v (.int .i64 r)) false

abbrev Fn_check_Class_1 (c0 : ByteArray) : DV := .fn 39 [.pd (.v (.string c0))]
theorem call_check_Class_1 {a0 : GTree} {c0 : ByteArray} {r : Bool} (h : Ev_check_Class_1 a0 c0 r) : FVal prog (Fn_check_Class_1 c0) [GTree.out a0] (.v (.bool r)) := ⟨39, [.pd (.v (.string c0))], .inl rfl, by simp [DV.agg], h⟩

abbrev Fn_unit_Of_1 : DV := .v (.func (.func 61) #[] #[])
theorem call_unit_Of_1 {a0 : GDim} {r : Bool} (h : Ev_unit_Of_1 a0 r) : FVal prog (Fn_unit_Of_1) [GDim.enc a0] (.v (.bool r)) := ⟨61, [], .inr ⟨rfl, rfl⟩, by simp [DV.agg], h⟩

abbrev Fn_slices_IndexFunc_api_Dim : DV := .v (.func (.func 75) #[] #[])
theorem call_slices_IndexFunc_api_Dim {a0 : List GDim} {a1 : DV} {r : Int} (h : Ev_slices_IndexFunc_api_Dim a0 a1 r) : FVal prog (Fn_slices_IndexFunc_api_Dim) [.sl 44 14 (List.map GDim.enc a0), a1] (.v (.int .i64 r)) := ⟨75, [], .inr ⟨rfl, rfl⟩, by simp [DV.agg], h⟩

end Go.Sim.Ytnhflokfcnfegaa
