/- What is proved: functions of the program compute what plain statements tell. -/
import Derived.Test.YtlglkgineclggaaZGWT
namespace Go.Sim.Ytlglkgineclggaa
open Go.RowKit Go.Proofs Go.Proofs.Try
set_option maxRecDepth 100000
def Ev_law04_LinGrows (a0 : List (List GIval)) (a1 : List GIval) (r : Bool) : Prop := AFn prog 6 [.sl 34 1 (List.map (eSl 36 2 GIval.enc) a0), .sl 36 2 (List.map GIval.enc a1)] (.v (.bool r)) false
def Ev_lin_Norm (a0 : List (List GIval)) (r : Nat × Int) : Prop := AFn prog 9 [.sl 34 1 (List.map (eSl 36 2 GIval.enc) a0)] (.tup [.v (.float .f64 r.1), .v (.int .i64 r.2)]) false
def Ev_ref04_Matrix (a0 : List (List GIval)) (r : Bool) : Prop := AFn prog 10 [.sl 34 1 (List.map (eSl 36 2 GIval.enc) a0)] (.v (.bool r)) false
def Ev_lin_One (a0 : Int) (r : List (List GIval)) : Prop := AFn prog 12 [.v (.int .i64 a0)] (.sl 34 1 (List.map (eSl 36 2 GIval.enc) r)) false
def Ev_lin_Points (a0 : List (List Nat)) (r : List (List GIval)) : Prop := AFn prog 14 [.sl 83 1 (List.map (eSl 24 1 (eFlt .f64)) a0)] (.sl 34 1 (List.map (eSl 36 2 GIval.enc) r)) false
def Ev_lin_Dot (a0 : List GIval) (a1 : List GIval) (r : GIval × Int) : Prop := AFn prog 17 [.sl 36 2 (List.map GIval.enc a0), .sl 36 2 (List.map GIval.enc a1)] (.tup [GIval.enc r.1, .v (.int .i64 r.2)]) false
def Ev_ref04_Vector (a0 : List GIval) (r : Bool) : Prop := AFn prog 19 [.sl 36 2 (List.map GIval.enc a0)] (.v (.bool r)) false
def Ev_lin_Apply (a0 : List (List GIval)) (a1 : List GIval) (r : (List GIval) × Int) : Prop := AFn prog 22 [.sl 34 1 (List.map (eSl 36 2 GIval.enc) a0), .sl 36 2 (List.map GIval.enc a1)] (.tup [.sl 36 2 (List.map GIval.enc r.1), .v (.int .i64 r.2)]) false
def Ev_lin_Mul (a0 : List (List GIval)) (a1 : List (List GIval)) (r : (List (List GIval)) × Int) : Prop := AFn prog 25 [.sl 34 1 (List.map (eSl 36 2 GIval.enc) a0), .sl 34 1 (List.map (eSl 36 2 GIval.enc) a1)] (.tup [.sl 34 1 (List.map (eSl 36 2 GIval.enc) r.1), .v (.int .i64 r.2)]) false
def Ev_law04_LinGrows_1 (a0 : GIval) (r : GIval) : Prop := AFn prog 31 [GIval.enc a0] (GIval.enc r) false
def Ev_ref02_Mid (a0 : GIval) (r : Nat) : Prop := AFn prog 32 [GIval.enc a0] (.v (.float .f64 r)) false
def Ev_ref02_None (a0 : GIval) (r : Bool) : Prop := AFn prog 33 [GIval.enc a0] (.v (.bool r)) false
def Ev_ref02_Has (a0 : GIval) (a1 : Nat) (r : Bool) : Prop := AFn prog 34 [GIval.enc a0, .v (.float .f64 a1)] (.v (.bool r)) false
def Ev_ref02_Make (a0 : Nat) (a1 : Nat) (r : GIval) : Prop := AFn prog 35 [.v (.float .f64 a0), .v (.float .f64 a1)] (GIval.enc r) false
def Ev_ref02_Inside (a0 : GIval) (a1 : GIval) (r : Bool) : Prop := AFn prog 36 [GIval.enc a0, GIval.enc a1] (.v (.bool r)) false
def Ev_law04_hollow (a0 : List (List GIval)) (a1 : Int) (r : Bool) : Prop := AFn prog 37 [.sl 34 1 (List.map (eSl 36 2 GIval.enc) a0), .v (.int .i64 a1)] (.v (.bool r)) false
def Ev_ival_Add (a0 : GIval) (a1 : GIval) (r : GIval) : Prop := AFn prog 45 [GIval.enc a0, GIval.enc a1] (GIval.enc r) false
def Ev_ival_Mul (a0 : GIval) (a1 : GIval) (r : GIval) : Prop := AFn prog 47 [GIval.enc a0, GIval.enc a1] (GIval.enc r) false
def Ev_lin_matrix (a0 : List (List GIval)) (r : Bool) : Prop := AFn prog 49 [.sl 34 1 (List.map (eSl 36 2 GIval.enc) a0)] (.v (.bool r)) false
def Ev_ulp_Add (a0 : Nat) (a1 : Nat) (a2 : Int) (r : Nat) : Prop := AFn prog 50 [.v (.float .f64 a0), .v (.float .f64 a1), .v (.int .i64 a2)] (.v (.float .f64 r)) false
def Ev_ival_Mag (a0 : GIval) (r : Nat) : Prop := AFn prog 51 [GIval.enc a0] (.v (.float .f64 r)) false
def Ev_ref01_Add (a0 : Nat) (a1 : Nat) (a2 : Int) (r : Nat) : Prop := AFn prog 52 [.v (.float .f64 a0), .v (.float .f64 a1), .v (.int .i64 a2)] (.v (.float .f64 r)) false
def Ev_lin_unit (a0 : Int) (r : List (List Nat)) : Prop := AFn prog 54 [.v (.int .i64 a0)] (.sl 83 1 (List.map (eSl 24 1 (eFlt .f64)) r)) false
def Ev_lin_floats (a0 : List (List Nat)) (r : Bool) : Prop := AFn prog 55 [.sl 83 1 (List.map (eSl 24 1 (eFlt .f64)) a0)] (.v (.bool r)) false
def Ev_ival_Point (a0 : Nat) (r : GIval) : Prop := AFn prog 56 [.v (.float .f64 a0)] (GIval.enc r) false
def Ev_lin_vector (a0 : List GIval) (r : Bool) : Prop := AFn prog 58 [.sl 36 2 (List.map GIval.enc a0)] (.v (.bool r)) false
def Ev_ref02_Right (a0 : GIval) (r : Bool) : Prop := AFn prog 59 [GIval.enc a0] (.v (.bool r)) false
-- NOT (*orrery/unit.finder).start: type *unit.finder
-- NOT (*orrery/unit.finder).of: type *unit.finder
-- NOT (*orrery/unit.finder).keep: type *unit.finder
-- NOT (*orrery/unit.finder).solved: type *unit.finder
-- NOT (*orrery/orreryref14.Finder).form: type *orreryref14.Finder
-- NOT (*orrery/orreryref14.Finder).solve: type *orreryref14.Finder
def Ev_ref02_inf (a0 : Int) (r : Nat) : Prop := AFn prog 76 [.v (.int .i64 a0)] (.v (.float .f64 r)) false
def Ev_ref01_Mul (a0 : Nat) (a1 : Nat) (a2 : Int) (r : Nat) : Prop := AFn prog 77 [.v (.float .f64 a0), .v (.float .f64 a1), .v (.int .i64 a2)] (.v (.float .f64 r)) false
def Ev_ref02_zero (a0 : Nat) (r : Nat) : Prop := AFn prog 78 [.v (.float .f64 a0)] (.v (.float .f64 r)) false
def Ev_ref02_Empty (r : GIval) : Prop := AFn prog 79 [] (GIval.enc r) false
def Ev_ref01_Cmp (a0 : List Int) (a1 : List Int) (r : Int) : Prop := AFn prog 82 [.sl 175 1 (List.map (eInt .u32) a0), .sl 175 1 (List.map (eInt .u32) a1)] (.v (.int .i64 r)) false
def Ev_math_bits_Mul64 (a0 : Int) (a1 : Int) (r : Int × Int) : Prop := AFn prog 87 [.v (.int .u64 a0), .v (.int .u64 a1)] (.tup [.v (.int .u64 r.1), .v (.int .u64 r.2)]) false
def Ev_math_bits_Add64 (a0 : Int) (a1 : Int) (a2 : Int) (r : Int × Int) : Prop := ExtOk prog 89 [.int .u64 a0, .int .u64 a1, .int .u64 a2] (.tup [.v (.int .u64 r.1), .v (.int .u64 r.2)])
def Ev_math_bits_Sub64 (a0 : Int) (a1 : Int) (a2 : Int) (r : Int × Int) : Prop := ExtOk prog 90 [.int .u64 a0, .int .u64 a1, .int .u64 a2] (.tup [.v (.int .u64 r.1), .v (.int .u64 r.2)])
def Ev_ival_none (a0 : List GIval) (r : Bool) : Prop := AFn prog 94 [.sl 36 2 (List.map GIval.enc a0)] (.v (.bool r)) false
def Ev_ival_Empty (r : GIval) : Prop := AFn prog 95 [] (GIval.enc r) false
def Ev_ival_Make (a0 : Nat) (a1 : Nat) (r : GIval) : Prop := AFn prog 97 [.v (.float .f64 a0), .v (.float .f64 a1)] (GIval.enc r) false
def Ev_ival_ends (a0 : Nat) (a1 : Nat) (r : GIval) : Prop := AFn prog 99 [.v (.float .f64 a0), .v (.float .f64 a1)] (GIval.enc r) false
def Ev_ival_corners (a0 : GIval) (a1 : GIval) (a2 : DV) (r : GIval) : Prop := AFn prog 100 [GIval.enc a0, GIval.enc a1, a2] (GIval.enc r) false
def Ev_ulp_Mul (a0 : Nat) (a1 : Nat) (a2 : Int) (r : Nat) : Prop := AFn prog 101 [.v (.float .f64 a0), .v (.float .f64 a1), .v (.int .i64 a2)] (.v (.float .f64 r)) false
def Ev_ulp_both (a0 : Nat) (a1 : Nat) (r : GParts × GParts × Bool) : Prop := AFn prog 102 [.v (.float .f64 a0), .v (.float .f64 a1)] (.tup [GParts.enc r.1, GParts.enc r.2.1, .v (.bool r.2.2)]) false
def Ev_ulp_sum (a0 : GParts) (a1 : GParts) (r : Gulpvalue) : Prop := AFn prog 103 [GParts.enc a0, GParts.enc a1] (Gulpvalue.enc r) false
def Ev_ulp_value_round (a0 : Gulpvalue) (a1 : Int) (r : Nat) : Prop := AFn prog 104 [Gulpvalue.enc a0, .v (.int .i64 a1)] (.v (.float .f64 r)) false
def Ev_math_Abs (a0 : Nat) (r : Nat) : Prop := AFn prog 105 [.v (.float .f64 a0)] (.v (.float .f64 r)) false
def Ev_ref01_IsNum (a0 : Nat) (r : Bool) : Prop := AFn prog 106 [.v (.float .f64 a0)] (.v (.bool r)) false
def Ev_math_NaN (r : Nat) : Prop := AFn prog 107 [] (.v (.float .f64 r)) false
def Ev_ref01_finite (a0 : Nat) (r : Bool) : Prop := AFn prog 108 [.v (.float .f64 a0)] (.v (.bool r)) false
def Ev_ref01_Whole (a0 : Gref01Num) (a1 : Int) (r : Nat) : Prop := AFn prog 109 [Gref01Num.enc a0, .v (.int .i64 a1)] (.v (.float .f64 r)) false
def Ev_ref01_Sum (a0 : Gref01Num) (a1 : Gref01Num) (r : Gref01Num) : Prop := AFn prog 110 [Gref01Num.enc a0, Gref01Num.enc a1] (Gref01Num.enc r) false
def Ev_ref01_Float (a0 : Nat) (r : Gref01Num) : Prop := AFn prog 111 [.v (.float .f64 a0)] (Gref01Num.enc r) false
def Ev_math_IsNaN (a0 : Nat) (r : Bool) : Prop := AFn prog 112 [.v (.float .f64 a0)] (.v (.bool r)) false
def Ev_math_IsInf (a0 : Nat) (a1 : Int) (r : Bool) : Prop := AFn prog 113 [.v (.float .f64 a0), .v (.int .i64 a1)] (.v (.bool r)) false
def Ev_ival_Right (a0 : GIval) (r : Bool) : Prop := AFn prog 115 [GIval.enc a0] (.v (.bool r)) false
def Ev_ref02_minus0 (a0 : Nat) (r : Bool) : Prop := AFn prog 116 [.v (.float .f64 a0)] (.v (.bool r)) false
def Ev_math_Float64bits (a0 : Nat) (r : Int) : Prop := ExtOk prog 117 [.float .f64 a0] (.v (.int .u64 r))
-- NOT (*orrery/unit.finder).start$1: type *unit.finder
-- NOT (*orrery/unit.finder).free: type *unit.finder
-- NOT (*orrery/orreryref14.Finder).free: type *orreryref14.Finder
def Ev_math_Inf (a0 : Int) (r : Nat) : Prop := AFn prog 142 [.v (.int .i64 a0)] (.v (.float .f64 r)) false
def Ev_ref01_inf (a0 : Bool) (r : Nat) : Prop := AFn prog 143 [.v (.bool a0)] (.v (.float .f64 r)) false
def Ev_ref01_Product (a0 : Gref01Num) (a1 : Gref01Num) (r : Gref01Num) : Prop := AFn prog 144 [Gref01Num.enc a0, Gref01Num.enc a1] (Gref01Num.enc r) false
def Ev_math_Float64frombits (a0 : Int) (r : Nat) : Prop := ExtOk prog 145 [.int .u64 a0] (.v (.float .f64 r))
def Ev_ref01_Of (a0 : Int) (r : List Int) : Prop := AFn prog 148 [.v (.int .u64 a0)] (.sl 175 1 (List.map (eInt .u32) r)) false
def Ev_math_bits_Len64 (a0 : Int) (r : Int) : Prop := AFn prog 149 [.v (.int .u64 a0)] (.v (.int .i64 r)) false
def Ev_ulp_Split (a0 : Nat) (r : GParts × Bool) : Prop := AFn prog 150 [.v (.float .f64 a0)] (.tup [GParts.enc r.1, .v (.bool r.2)]) false
def Ev_ulp_value_len (a0 : Gulpvalue) (r : Int) : Prop := AFn prog 151 [Gulpvalue.enc a0] (.v (.int .i64 r)) false
def Ev_ulp_value_shifted (a0 : Gulpvalue) (a1 : Int) (r : Int × Int) : Prop := AFn prog 152 [Gulpvalue.enc a0, .v (.int .i64 a1)] (.tup [.v (.int .u64 r.1), .v (.int .i64 r.2)]) false
def Ev_ulp_value_made (a0 : Gulpvalue) (a1 : Int) (a2 : Int) (a3 : Int) (r : Nat) : Prop := AFn prog 153 [Gulpvalue.enc a0, .v (.int .u64 a1), .v (.int .i64 a2), .v (.int .i64 a3)] (.v (.float .f64 r)) false
def Ev_ref01_Split (a0 : Nat) (r : GParts × Bool) : Prop := AFn prog 154 [.v (.float .f64 a0)] (.tup [GParts.enc r.1, .v (.bool r.2)]) false
def Ev_ref01_Rounded (a0 : Gref01Exact) (a1 : Int) (r : Nat) : Prop := AFn prog 155 [Gref01Exact.enc a0, .v (.int .i64 a1)] (.v (.float .f64 r)) false
def Ev_ref01_Int (a0 : Int) (r : Gref01Num) : Prop := AFn prog 156 [.v (.int .i64 a0)] (Gref01Num.enc r) false
def Ev_ref01_level (a0 : Gref01Num) (a1 : Gref01Num) (r : Gref01Num × Gref01Num) : Prop := AFn prog 157 [Gref01Num.enc a0, Gref01Num.enc a1] (.tup [Gref01Num.enc r.1, Gref01Num.enc r.2]) false
def Ev_ref01_Plus (a0 : List Int) (a1 : List Int) (r : List Int) : Prop := AFn prog 158 [.sl 175 1 (List.map (eInt .u32) a0), .sl 175 1 (List.map (eInt .u32) a1)] (.sl 175 1 (List.map (eInt .u32) r)) false
def Ev_ref01_Less (a0 : List Int) (a1 : List Int) (r : List Int) : Prop := AFn prog 159 [.sl 175 1 (List.map (eInt .u32) a0), .sl 175 1 (List.map (eInt .u32) a1)] (.sl 175 1 (List.map (eInt .u32) r)) false
def Ev_ival_plus (a0 : Nat) (r : Bool) : Prop := AFn prog 160 [.v (.float .f64 a0)] (.v (.bool r)) false
def Ev_ref01_By (a0 : List Int) (a1 : List Int) (r : List Int) : Prop := AFn prog 167 [.sl 175 1 (List.map (eInt .u32) a0), .sl 175 1 (List.map (eInt .u32) a1)] (.sl 175 1 (List.map (eInt .u32) r)) false
def Ev_ref01_At (a0 : Int) (r : Nat) : Prop := AFn prog 168 [.v (.int .i64 a0)] (.v (.float .f64 r)) false
def Ev_ref01_Bits (a0 : List Int) (r : Int) : Prop := AFn prog 169 [.sl 175 1 (List.map (eInt .u32) a0)] (.v (.int .i64 r)) false
def Ev_ref01_Left (a0 : List Int) (a1 : Int) (r : List Int) : Prop := AFn prog 170 [.sl 175 1 (List.map (eInt .u32) a0), .v (.int .i64 a1)] (.sl 175 1 (List.map (eInt .u32) r)) false
def Ev_ref01_trim (a0 : List Int) (r : List Int) : Prop := AFn prog 171 [.sl 175 1 (List.map (eInt .u32) a0)] (.sl 175 1 (List.map (eInt .u32) r)) false
def Ev_ulp_value_right (a0 : Gulpvalue) (a1 : Int) (r : Int) : Prop := AFn prog 172 [Gulpvalue.enc a0, .v (.int .i64 a1)] (.v (.int .u64 r)) false
def Ev_ulp_value_even (a0 : Gulpvalue) (a1 : Int) (r : Bool) : Prop := AFn prog 173 [Gulpvalue.enc a0, .v (.int .i64 a1)] (.v (.bool r)) false
def Ev_math_Ldexp (a0 : Nat) (a1 : Int) (r : Nat) : Prop := AFn prog 174 [.v (.float .f64 a0), .v (.int .i64 a1)] (.v (.float .f64 r)) false
def Ev_ref01_Index (a0 : Nat) (r : Int) : Prop := AFn prog 175 [.v (.float .f64 a0)] (.v (.int .i64 r)) false
def Ev_ref01_Down (a0 : Gref01Exact) (r : Int) : Prop := AFn prog 176 [Gref01Exact.enc a0] (.v (.int .i64 r)) false
def Ev_ref01_same (a0 : Gref01Num) (a1 : Gref01Exact) (r : Bool) : Prop := AFn prog 177 [Gref01Num.enc a0, Gref01Exact.enc a1] (.v (.bool r)) false
def Ev_ref01_grid (a0 : Int) (r : Gref01Num) : Prop := AFn prog 178 [.v (.int .i64 a0)] (Gref01Num.enc r) false
def Ev_ref01_below (a0 : Gref01Num) (a1 : Gref01Exact) (r : Bool) : Prop := AFn prog 179 [Gref01Num.enc a0, Gref01Exact.enc a1] (.v (.bool r)) false
def Ev_math_Signbit (a0 : Nat) (r : Bool) : Prop := AFn prog 180 [.v (.float .f64 a0)] (.v (.bool r)) false
def Ev_math_ldexp (a0 : Nat) (a1 : Int) (r : Nat) : Prop := AFn prog 185 [.v (.float .f64 a0), .v (.int .i64 a1)] (.v (.float .f64 r)) false
def Ev_ref01_Sign (a0 : Gref01Num) (r : Int) : Prop := AFn prog 186 [Gref01Num.enc a0] (.v (.int .i64 r)) false
def Ev_ref01_Order (a0 : Gref01Num) (a1 : Gref01Num) (r : Int) : Prop := AFn prog 187 [Gref01Num.enc a0, Gref01Num.enc a1] (.v (.int .i64 r)) false
def Ev_math_normalize (a0 : Nat) (r : Nat × Int) : Prop := AFn prog 188 [.v (.float .f64 a0)] (.tup [.v (.float .f64 r.1), .v (.int .i64 r.2)]) false
def Ev_math_Copysign (a0 : Nat) (a1 : Nat) (r : Nat) : Prop := AFn prog 189 [.v (.float .f64 a0), .v (.float .f64 a1)] (.v (.float .f64 r)) false
abbrev Fn_ulp_Mul : DV := .v (.func (.func 101) #[] #[])
theorem call_ulp_Mul {a0 : Nat} {a1 : Nat} {a2 : Int} {r : Nat} (h : Ev_ulp_Mul a0 a1 a2 r) : FVal prog (Fn_ulp_Mul) [.v (.float .f64 a0), .v (.float .f64 a1), .v (.int .i64 a2)] (.v (.float .f64 r)) := ⟨101, [], .inr ⟨rfl, rfl⟩, by simp [DV.agg], h⟩
end Go.Sim.Ytlglkgineclggaa
