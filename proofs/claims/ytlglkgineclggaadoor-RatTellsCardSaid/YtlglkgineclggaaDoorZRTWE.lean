/- What is proved: functions of the program compute what plain statements tell. -/
import Derived.Test.YtlglkgineclggaaDoorZRTWT
namespace Go.Sim.YtlglkgineclggaaDoor
open Go.RowKit Go.Proofs Go.Proofs.Tryd
set_option maxRecDepth 100000
def Ev_law11_RatTells (a0 : GRat) (r : Bool) : Prop := AFn prog 3 [GRat.enc a0] (.v (.bool r)) false
def Ev_rat_Print (a0 : GRat) (r : ByteArray) : Prop := AFn prog 5 [GRat.enc a0] (.v (.string r)) false
def Ev_ref11_Print (a0 : GRat) (r : ByteArray) : Prop := AFn prog 6 [GRat.enc a0] (.v (.string r)) false
def Ev_ref02_Same (a0 : GIval) (a1 : GIval) (r : Bool) : Prop := AFn prog 7 [GIval.enc a0, GIval.enc a1] (.v (.bool r)) false
def Ev_rat_Hold (a0 : GRat) (r : GIval) : Prop := AFn prog 8 [GRat.enc a0] (GIval.enc r) false
def Ev_ref11_Hold (a0 : GRat) (r : GIval) : Prop := AFn prog 9 [GRat.enc a0] (GIval.enc r) false
def Ev_rat_Right (a0 : GRat) (r : Bool) : Prop := AFn prog 12 [GRat.enc a0] (.v (.bool r)) false
def Ev_strconv_FormatInt (a0 : Int) (a1 : Int) (r : ByteArray) : Prop := AFn prog 13 [.v (.int .i64 a0), .v (.int .i64 a1)] (.v (.string r)) false
def Ev_ref11_Right (a0 : GRat) (r : Bool) : Prop := AFn prog 14 [GRat.enc a0] (.v (.bool r)) false
def Ev_strconv_Itoa (a0 : Int) (r : ByteArray) : Prop := AFn prog 15 [.v (.int .i64 a0)] (.v (.string r)) false
def Ev_ref01_Same (a0 : Nat) (a1 : Nat) (r : Bool) : Prop := AFn prog 16 [.v (.float .f64 a0), .v (.float .f64 a1)] (.v (.bool r)) false
def Ev_ival_Empty (r : GIval) : Prop := AFn prog 17 [] (GIval.enc r) false
def Ev_rat_size (a0 : Int) (r : Int) : Prop := AFn prog 18 [.v (.int .i64 a0)] (.v (.int .u64 r)) false
def Ev_math_bits_LeadingZeros64 (a0 : Int) (r : Int) : Prop := AFn prog 19 [.v (.int .u64 a0)] (.v (.int .i64 r)) false
def Ev_math_bits_Div64 (a0 : Int) (a1 : Int) (a2 : Int) (r : Int × Int) : Prop := AFn prog 20 [.v (.int .u64 a0), .v (.int .u64 a1), .v (.int .u64 a2)] (.tup [.v (.int .u64 r.1), .v (.int .u64 r.2)]) false
def Ev_ival_Make (a0 : Nat) (a1 : Nat) (r : GIval) : Prop := AFn prog 21 [.v (.float .f64 a0), .v (.float .f64 a1)] (GIval.enc r) false
def Ev_ulp_Round (a0 : GParts) (a1 : Int) (r : Nat) : Prop := AFn prog 22 [GParts.enc a0, .v (.int .i64 a1)] (.v (.float .f64 r)) false
def Ev_ref02_Empty (r : GIval) : Prop := AFn prog 23 [] (GIval.enc r) false
def Ev_ref11_Num (a0 : Int) (r : Gref01Num) : Prop := AFn prog 24 [.v (.int .i64 a0)] (Gref01Num.enc r) false
def Ev_ref02_Make (a0 : Nat) (a1 : Nat) (r : GIval) : Prop := AFn prog 25 [.v (.float .f64 a0), .v (.float .f64 a1)] (GIval.enc r) false
def Ev_ref01_Rounded (a0 : Gref01Exact) (a1 : Int) (r : Nat) : Prop := AFn prog 26 [Gref01Exact.enc a0, .v (.int .i64 a1)] (.v (.float .f64 r)) false
-- NOT strconv.Atoi: type error
def Ev_ref01_Of (a0 : Int) (r : List Int) : Prop := AFn prog 33 [.v (.int .u64 a0)] (.sl 106 1 (List.map (eInt .u32) r)) false
def Ev_ref01_By (a0 : List Int) (a1 : List Int) (r : List Int) : Prop := AFn prog 35 [.sl 106 1 (List.map (eInt .u32) a0), .sl 106 1 (List.map (eInt .u32) a1)] (.sl 106 1 (List.map (eInt .u32) r)) false
def Ev_ref11_one (r : List Int) : Prop := AFn prog 37 [] (.sl 106 1 (List.map (eInt .u32) r)) false
def Ev_rat_gcd (a0 : Int) (a1 : Int) (r : Int) : Prop := AFn prog 38 [.v (.int .u64 a0), .v (.int .u64 a1)] (.v (.int .u64 r)) false
def Ev_internal_strconv_FormatInt (a0 : Int) (a1 : Int) (r : ByteArray) : Prop := AFn prog 39 [.v (.int .i64 a0), .v (.int .i64 a1)] (.v (.string r)) false
def Ev_ref01_Cmp (a0 : List Int) (a1 : List Int) (r : Int) : Prop := AFn prog 40 [.sl 106 1 (List.map (eInt .u32) a0), .sl 106 1 (List.map (eInt .u32) a1)] (.v (.int .i64 r)) false
def Ev_ref11_common (a0 : List Int) (a1 : List Int) (r : List Int) : Prop := AFn prog 41 [.sl 106 1 (List.map (eInt .u32) a0), .sl 106 1 (List.map (eInt .u32) a1)] (.sl 106 1 (List.map (eInt .u32) r)) false
def Ev_ref11_size (a0 : Int) (r : List Int) : Prop := AFn prog 42 [.v (.int .i64 a0)] (.sl 106 1 (List.map (eInt .u32) r)) false
def Ev_internal_strconv_Itoa (a0 : Int) (r : ByteArray) : Prop := AFn prog 43 [.v (.int .i64 a0)] (.v (.string r)) false
def Ev_ref01_IsNum (a0 : Nat) (r : Bool) : Prop := AFn prog 44 [.v (.float .f64 a0)] (.v (.bool r)) false
def Ev_math_Float64bits (a0 : Nat) (r : Int) : Prop := ExtOk prog 45 [.float .f64 a0] (.v (.int .u64 r))
def Ev_math_Inf (a0 : Int) (r : Nat) : Prop := AFn prog 46 [.v (.int .i64 a0)] (.v (.float .f64 r)) false
def Ev_math_bits_Len64 (a0 : Int) (r : Int) : Prop := AFn prog 47 [.v (.int .u64 a0)] (.v (.int .i64 r)) false
def Ev_ival_Right (a0 : GIval) (r : Bool) : Prop := AFn prog 48 [GIval.enc a0] (.v (.bool r)) false
def Ev_ulp_value_round (a0 : Gulpvalue) (a1 : Int) (r : Nat) : Prop := AFn prog 49 [Gulpvalue.enc a0, .v (.int .i64 a1)] (.v (.float .f64 r)) false
def Ev_ref02_inf (a0 : Int) (r : Nat) : Prop := AFn prog 50 [.v (.int .i64 a0)] (.v (.float .f64 r)) false
def Ev_ref02_zero (a0 : Nat) (r : Nat) : Prop := AFn prog 51 [.v (.float .f64 a0)] (.v (.float .f64 r)) false
def Ev_ref02_Right (a0 : GIval) (r : Bool) : Prop := AFn prog 52 [GIval.enc a0] (.v (.bool r)) false
def Ev_ref01_Down (a0 : Gref01Exact) (r : Int) : Prop := AFn prog 53 [Gref01Exact.enc a0] (.v (.int .i64 r)) false
def Ev_ref01_same (a0 : Gref01Num) (a1 : Gref01Exact) (r : Bool) : Prop := AFn prog 54 [Gref01Num.enc a0, Gref01Exact.enc a1] (.v (.bool r)) false
def Ev_ref01_Float (a0 : Nat) (r : Gref01Num) : Prop := AFn prog 55 [.v (.float .f64 a0)] (Gref01Num.enc r) false
def Ev_ref01_At (a0 : Int) (r : Nat) : Prop := AFn prog 56 [.v (.int .i64 a0)] (.v (.float .f64 r)) false
def Ev_ref01_Sum (a0 : Gref01Num) (a1 : Gref01Num) (r : Gref01Num) : Prop := AFn prog 57 [Gref01Num.enc a0, Gref01Num.enc a1] (Gref01Num.enc r) false
def Ev_ref01_grid (a0 : Int) (r : Gref01Num) : Prop := AFn prog 58 [.v (.int .i64 a0)] (Gref01Num.enc r) false
def Ev_ref01_below (a0 : Gref01Num) (a1 : Gref01Exact) (r : Bool) : Prop := AFn prog 59 [Gref01Num.enc a0, Gref01Exact.enc a1] (.v (.bool r)) false
-- NOT strings.trimLeftASCII: type *strings.asciiSet
-- NOT strconv.ParseUint: type error
-- NOT internal/strconv.Atoi: type error
-- NOT strconv.toError: type error
def Ev_ref01_Plus (a0 : List Int) (a1 : List Int) (r : List Int) : Prop := AFn prog 72 [.sl 106 1 (List.map (eInt .u32) a0), .sl 106 1 (List.map (eInt .u32) a1)] (.sl 106 1 (List.map (eInt .u32) r)) false
def Ev_ref01_trim (a0 : List Int) (r : List Int) : Prop := AFn prog 73 [.sl 106 1 (List.map (eInt .u32) a0)] (.sl 106 1 (List.map (eInt .u32) r)) false
def Ev_ref11_rest (a0 : List Int) (a1 : List Int) (r : List Int) : Prop := AFn prog 80 [.sl 106 1 (List.map (eInt .u32) a0), .sl 106 1 (List.map (eInt .u32) a1)] (.sl 106 1 (List.map (eInt .u32) r)) false
def Ev_math_Float64frombits (a0 : Int) (r : Nat) : Prop := ExtOk prog 81 [.int .u64 a0] (.v (.float .f64 r))
def Ev_ival_plus (a0 : Nat) (r : Bool) : Prop := AFn prog 82 [.v (.float .f64 a0)] (.v (.bool r)) false
def Ev_ulp_value_len (a0 : Gulpvalue) (r : Int) : Prop := AFn prog 83 [Gulpvalue.enc a0] (.v (.int .i64 r)) false
def Ev_ulp_value_shifted (a0 : Gulpvalue) (a1 : Int) (r : Int × Int) : Prop := AFn prog 84 [Gulpvalue.enc a0, .v (.int .i64 a1)] (.tup [.v (.int .u64 r.1), .v (.int .i64 r.2)]) false
def Ev_ulp_value_made (a0 : Gulpvalue) (a1 : Int) (a2 : Int) (a3 : Int) (r : Nat) : Prop := AFn prog 85 [Gulpvalue.enc a0, .v (.int .u64 a1), .v (.int .i64 a2), .v (.int .i64 a3)] (.v (.float .f64 r)) false
def Ev_ref02_minus0 (a0 : Nat) (r : Bool) : Prop := AFn prog 86 [.v (.float .f64 a0)] (.v (.bool r)) false
def Ev_ref01_Sign (a0 : Gref01Num) (r : Int) : Prop := AFn prog 87 [Gref01Num.enc a0] (.v (.int .i64 r)) false
def Ev_ref01_Order (a0 : Gref01Num) (a1 : Gref01Num) (r : Int) : Prop := AFn prog 88 [Gref01Num.enc a0, Gref01Num.enc a1] (.v (.int .i64 r)) false
def Ev_ref01_Product (a0 : Gref01Num) (a1 : Gref01Num) (r : Gref01Num) : Prop := AFn prog 89 [Gref01Num.enc a0, Gref01Num.enc a1] (Gref01Num.enc r) false
def Ev_ref01_Split (a0 : Nat) (r : GParts × Bool) : Prop := AFn prog 90 [.v (.float .f64 a0)] (.tup [GParts.enc r.1, .v (.bool r.2)]) false
def Ev_ref01_level (a0 : Gref01Num) (a1 : Gref01Num) (r : Gref01Num × Gref01Num) : Prop := AFn prog 91 [Gref01Num.enc a0, Gref01Num.enc a1] (.tup [Gref01Num.enc r.1, Gref01Num.enc r.2]) false
def Ev_ref01_Less (a0 : List Int) (a1 : List Int) (r : List Int) : Prop := AFn prog 92 [.sl 106 1 (List.map (eInt .u32) a0), .sl 106 1 (List.map (eInt .u32) a1)] (.sl 106 1 (List.map (eInt .u32) r)) false
-- NOT (*strings.asciiSet).contains: type *strings.asciiSet
-- NOT internal/strconv.ParseUint: type error
-- NOT internal/strconv.ParseInt: type error
-- NOT strconv.syntaxError: type *strconv.NumError
-- NOT strconv.rangeError: type *strconv.NumError
-- NOT strconv.baseError: type *strconv.NumError
-- NOT strconv.bitSizeError: type *strconv.NumError
def Ev_ref01_Bits (a0 : List Int) (r : Int) : Prop := AFn prog 103 [.sl 106 1 (List.map (eInt .u32) a0)] (.v (.int .i64 r)) false
def Ev_ref01_Left (a0 : List Int) (a1 : Int) (r : List Int) : Prop := AFn prog 104 [.sl 106 1 (List.map (eInt .u32) a0), .v (.int .i64 a1)] (.sl 106 1 (List.map (eInt .u32) r)) false
def Ev_math_Signbit (a0 : Nat) (r : Bool) : Prop := AFn prog 109 [.v (.float .f64 a0)] (.v (.bool r)) false
def Ev_ulp_value_right (a0 : Gulpvalue) (a1 : Int) (r : Int) : Prop := AFn prog 110 [Gulpvalue.enc a0, .v (.int .i64 a1)] (.v (.int .u64 r)) false
def Ev_ulp_value_even (a0 : Gulpvalue) (a1 : Int) (r : Bool) : Prop := AFn prog 111 [Gulpvalue.enc a0, .v (.int .i64 a1)] (.v (.bool r)) false
def Ev_math_Ldexp (a0 : Nat) (a1 : Int) (r : Nat) : Prop := AFn prog 112 [.v (.float .f64 a0), .v (.int .i64 a1)] (.v (.float .f64 r)) false
def Ev_ref01_Index (a0 : Nat) (r : Int) : Prop := AFn prog 113 [.v (.float .f64 a0)] (.v (.int .i64 r)) false
-- NOT errors.New: type error
def Ev_math_ldexp (a0 : Nat) (a1 : Int) (r : Nat) : Prop := AFn prog 124 [.v (.float .f64 a0), .v (.int .i64 a1)] (.v (.float .f64 r)) false
def Ev_math_IsInf (a0 : Nat) (a1 : Int) (r : Bool) : Prop := AFn prog 129 [.v (.float .f64 a0), .v (.int .i64 a1)] (.v (.bool r)) false
def Ev_math_IsNaN (a0 : Nat) (r : Bool) : Prop := AFn prog 130 [.v (.float .f64 a0)] (.v (.bool r)) false
def Ev_math_normalize (a0 : Nat) (r : Nat × Int) : Prop := AFn prog 131 [.v (.float .f64 a0)] (.tup [.v (.float .f64 r.1), .v (.int .i64 r.2)]) false
def Ev_math_Copysign (a0 : Nat) (a1 : Nat) (r : Nat) : Prop := AFn prog 132 [.v (.float .f64 a0), .v (.float .f64 a1)] (.v (.float .f64 r)) false
def Ev_math_Abs (a0 : Nat) (r : Nat) : Prop := AFn prog 134 [.v (.float .f64 a0)] (.v (.float .f64 r)) false
end Go.Sim.YtlglkgineclggaaDoor
