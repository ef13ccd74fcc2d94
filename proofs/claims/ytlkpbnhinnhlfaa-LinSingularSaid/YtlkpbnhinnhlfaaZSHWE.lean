/- What is proved: functions of the program compute what plain statements tell. -/
import Derived.Test.YtlkpbnhinnhlfaaZSHWT
import Derived.Test.YtlkpbnhinnhlfaaZSHSimV

namespace Go.Sim.Ytlkpbnhinnhlfaa
open Go.RowKit Go.Proofs Go.Proofs.Try
set_option maxRecDepth 100000
def Ev_law04_LinSingular (a0 : List (List Nat)) (a1 : Int) (a2 : Int) (r : Bool) : Prop := AFn prog 3 [.sl 24 1 (List.map (eSl 42 1 (eFlt .f64)) a0), .v (.int .i64 a1), .v (.int .i64 a2)] (.v (.bool r)) false
def EvS_law04_LinSingular (a0 : List (List Nat)) (a1 : Int) (a2 : Int) (R : Bool → Prop) : Prop := AFnS prog 3 [.sl 24 1 (List.map (eSl 42 1 (eFlt .f64)) a0), .v (.int .i64 a1), .v (.int .i64 a2)] (inS (fun r : Bool => .v (.bool r)) R)
def Ev_law04_square (a0 : List (List Nat)) (r : Bool) : Prop := AFn prog 4 [.sl 24 1 (List.map (eSl 42 1 (eFlt .f64)) a0)] (.v (.bool r)) false
def EvS_lin_Inverse (a0 : List (List Nat)) (R : (List (List GIval)) × Int → Prop) : Prop := AFnS prog 5 [.sl 24 1 (List.map (eSl 42 1 (eFlt .f64)) a0)] (inS (fun r : (List (List GIval)) × Int => .tup [.sl 50 1 (List.map (eSl 48 2 GIval.enc) r.1), .v (.int .i64 r.2)]) R)
def Ev_ref01_Sign (a0 : Gref01Num) (r : Int) : Prop := AFn prog 6 [Gref01Num.enc a0] (.v (.int .i64 r)) false
def Ev_ref04_Det (a0 : List (List Gref01Num)) (r : Gref01Num) : Prop := AFn prog 7 [.sl 54 1 (List.map (eSl 33 3 Gref01Num.enc) a0)] (Gref01Num.enc r) false
def Ev_ref04_Nums (a0 : List (List Nat)) (r : List (List Gref01Num)) : Prop := AFn prog 8 [.sl 24 1 (List.map (eSl 42 1 (eFlt .f64)) a0)] (.sl 54 1 (List.map (eSl 33 3 Gref01Num.enc) r)) false
def Ev_ref04_Floats (a0 : List (List Nat)) (r : Bool) : Prop := AFn prog 9 [.sl 24 1 (List.map (eSl 42 1 (eFlt .f64)) a0)] (.v (.bool r)) false
def Ev_lin_floats (a0 : List (List Nat)) (r : Bool) : Prop := AFn prog 10 [.sl 24 1 (List.map (eSl 42 1 (eFlt .f64)) a0)] (.v (.bool r)) false
def Ev_lin_nearly (a0 : List (List Unit)) (r : List (List Unit)) : Prop := AFn prog 11 [.sl 24 1 (List.map (eSl 42 1 eBl) a0)] (.sl 24 1 (List.map (eSl 42 1 eBl) r)) false
def EvS_lin_nearly (a0 : List (List Nat)) (R : List (List Nat) → Prop) : Prop := AFnS prog 11 [.sl 24 1 (List.map (eSl 42 1 (eFlt .f64)) a0)] (inS (fun r : List (List Nat) => .sl 24 1 (List.map (eSl 42 1 (eFlt .f64)) r)) R)
def Ev_lin_Mul (a0 : List (List GIval)) (a1 : List (List GIval)) (r : (List (List GIval)) × Int) : Prop := AFn prog 12 [.sl 50 1 (List.map (eSl 48 2 GIval.enc) a0), .sl 50 1 (List.map (eSl 48 2 GIval.enc) a1)] (.tup [.sl 50 1 (List.map (eSl 48 2 GIval.enc) r.1), .v (.int .i64 r.2)]) false
def Ev_lin_Points (a0 : List (List Nat)) (r : List (List GIval)) : Prop := AFn prog 13 [.sl 24 1 (List.map (eSl 42 1 (eFlt .f64)) a0)] (.sl 50 1 (List.map (eSl 48 2 GIval.enc) r)) false
def EvR_lin_Points (a0 : List (List Nat)) (r : List (List GIval)) : Prop := AFnR prog 13 [.sl 24 1 (List.map (eSl 42 1 (eFlt .f64)) a0)] 50 48 2 (List.map (List.map GIval.enc) r)
def Ev_lin_lessOne (a0 : List (List GIval)) (r : List (List GIval)) : Prop := AFn prog 14 [.sl 50 1 (List.map (eSl 48 2 GIval.enc) a0)] (.sl 50 1 (List.map (eSl 48 2 GIval.enc) r)) false
def Ev_lin_Norm (a0 : List (List GIval)) (r : Nat × Int) : Prop := AFn prog 15 [.sl 50 1 (List.map (eSl 48 2 GIval.enc) a0)] (.tup [.v (.float .f64 r.1), .v (.int .i64 r.2)]) false
def Ev_ulp_Div (a0 : Nat) (a1 : Nat) (a2 : Int) (r : Nat) : Prop := AFn prog 16 [.v (.float .f64 a0), .v (.float .f64 a1), .v (.int .i64 a2)] (.v (.float .f64 r)) false
def Ev_ulp_Sub (a0 : Nat) (a1 : Nat) (a2 : Int) (r : Nat) : Prop := AFn prog 17 [.v (.float .f64 a0), .v (.float .f64 a1), .v (.int .i64 a2)] (.v (.float .f64 r)) false
def Ev_math_Abs (a0 : Nat) (r : Nat) : Prop := AFn prog 18 [.v (.float .f64 a0)] (.v (.float .f64 r)) false
def Ev_ulp_Mul (a0 : Nat) (a1 : Nat) (a2 : Int) (r : Nat) : Prop := AFn prog 19 [.v (.float .f64 a0), .v (.float .f64 a1), .v (.int .i64 a2)] (.v (.float .f64 r)) false
def Ev_ival_Add (a0 : GIval) (a1 : GIval) (r : GIval) : Prop := AFn prog 20 [GIval.enc a0, GIval.enc a1] (GIval.enc r) false
def Ev_ival_Make (a0 : Nat) (a1 : Nat) (r : GIval) : Prop := AFn prog 21 [.v (.float .f64 a0), .v (.float .f64 a1)] (GIval.enc r) false
def Ev_ival_Empty (r : GIval) : Prop := AFn prog 22 [] (GIval.enc r) false
def Ev_ref01_Int (a0 : Int) (r : Gref01Num) : Prop := AFn prog 23 [.v (.int .i64 a0)] (Gref01Num.enc r) false
def Ev_ref01_Product (a0 : Gref01Num) (a1 : Gref01Num) (r : Gref01Num) : Prop := AFn prog 24 [Gref01Num.enc a0, Gref01Num.enc a1] (Gref01Num.enc r) false
def Ev_ref04_without (a0 : List (List Gref01Num)) (a1 : Int) (a2 : Int) (r : List (List Gref01Num)) : Prop := AFn prog 25 [.sl 54 1 (List.map (eSl 33 3 Gref01Num.enc) a0), .v (.int .i64 a1), .v (.int .i64 a2)] (.sl 54 1 (List.map (eSl 33 3 Gref01Num.enc) r)) false
def Ev_ref01_Minus (a0 : Gref01Num) (r : Gref01Num) : Prop := AFn prog 26 [Gref01Num.enc a0] (Gref01Num.enc r) false
def Ev_ref01_Sum (a0 : Gref01Num) (a1 : Gref01Num) (r : Gref01Num) : Prop := AFn prog 27 [Gref01Num.enc a0, Gref01Num.enc a1] (Gref01Num.enc r) false
def Ev_ref01_Float (a0 : Nat) (r : Gref01Num) : Prop := AFn prog 28 [.v (.float .f64 a0)] (Gref01Num.enc r) false
def Ev_ref04_finite (a0 : Nat) (r : Bool) : Prop := AFn prog 29 [.v (.float .f64 a0)] (.v (.bool r)) false
def Ev_math_IsNaN (a0 : Nat) (r : Bool) : Prop := AFn prog 30 [.v (.float .f64 a0)] (.v (.bool r)) false
def Ev_math_IsInf (a0 : Nat) (a1 : Int) (r : Bool) : Prop := AFn prog 31 [.v (.float .f64 a0), .v (.int .i64 a1)] (.v (.bool r)) false
def Ev_lin_unit (a0 : Int) (r : List (List Nat)) : Prop := AFn prog 32 [.v (.int .i64 a0)] (.sl 24 1 (List.map (eSl 42 1 (eFlt .f64)) r)) false
def EvR_lin_unit (a0 : Int) (r : List (List Nat)) : Prop := AFnR prog 32 [.v (.int .i64 a0)] 24 42 1 (List.map (List.map (eFlt .f64)) r)
def EvU_lin_unit (a0 : Int) (r : List (List Unit)) : Prop := AFnR prog 32 [.v (.int .i64 a0)] 24 42 1 (List.map (List.map eBl) r)
def Ev_math_Frexp (a0 : Nat) (r : Nat × Int) : Prop := AFn prog 33 [.v (.float .f64 a0)] (.tup [.v (.float .f64 r.1), .v (.int .i64 r.2)]) false
def Ev_math_Ldexp (a0 : Nat) (a1 : Int) (r : Nat) : Prop := AFn prog 34 [.v (.float .f64 a0), .v (.int .i64 a1)] (.v (.float .f64 r)) false
def Ev_lin_matrix (a0 : List (List GIval)) (r : Bool) : Prop := AFn prog 35 [.sl 50 1 (List.map (eSl 48 2 GIval.enc) a0)] (.v (.bool r)) false
def Ev_lin_Dot (a0 : List GIval) (a1 : List GIval) (r : GIval × Int) : Prop := AFn prog 36 [.sl 48 2 (List.map GIval.enc a0), .sl 48 2 (List.map GIval.enc a1)] (.tup [GIval.enc r.1, .v (.int .i64 r.2)]) false
def Ev_ival_Point (a0 : Nat) (r : GIval) : Prop := AFn prog 37 [.v (.float .f64 a0)] (GIval.enc r) false
def EvR_lin_One (a0 : Int) (r : List (List GIval)) : Prop := AFnR prog 38 [.v (.int .i64 a0)] 50 48 2 (List.map (List.map GIval.enc) r)
def Ev_ival_Sub (a0 : GIval) (a1 : GIval) (r : GIval) : Prop := AFn prog 39 [GIval.enc a0, GIval.enc a1] (GIval.enc r) false
def Ev_ulp_Add (a0 : Nat) (a1 : Nat) (a2 : Int) (r : Nat) : Prop := AFn prog 40 [.v (.float .f64 a0), .v (.float .f64 a1), .v (.int .i64 a2)] (.v (.float .f64 r)) false
def Ev_ival_Mag (a0 : GIval) (r : Nat) : Prop := AFn prog 41 [GIval.enc a0] (.v (.float .f64 r)) false
def Ev_ulp_both (a0 : Nat) (a1 : Nat) (r : GParts × GParts × Bool) : Prop := AFn prog 42 [.v (.float .f64 a0), .v (.float .f64 a1)] (.tup [GParts.enc r.1, GParts.enc r.2.1, .v (.bool r.2.2)]) false
def Ev_math_NaN (r : Nat) : Prop := AFn prog 43 [] (.v (.float .f64 r)) false
def Ev_ulp_clean (a0 : Nat) (r : Nat) : Prop := AFn prog 44 [.v (.float .f64 a0)] (.v (.float .f64 r)) false
def Ev_math_bits_LeadingZeros64 (a0 : Int) (r : Int) : Prop := AFn prog 45 [.v (.int .u64 a0)] (.v (.int .i64 r)) false
def Ev_math_bits_Div64 (a0 : Int) (a1 : Int) (a2 : Int) (r : Int × Int) : Prop := AFn prog 46 [.v (.int .u64 a0), .v (.int .u64 a1), .v (.int .u64 a2)] (.tup [.v (.int .u64 r.1), .v (.int .u64 r.2)]) false
def Ev_ulp_value_round (a0 : Gulpvalue) (a1 : Int) (r : Nat) : Prop := AFn prog 47 [Gulpvalue.enc a0, .v (.int .i64 a1)] (.v (.float .f64 r)) false
def Ev_math_Float64frombits (a0 : Int) (r : Nat) : Prop := ExtOk prog 48 [.int .u64 a0] (.v (.float .f64 r))
def Ev_math_Float64bits (a0 : Nat) (r : Int) : Prop := ExtOk prog 49 [.float .f64 a0] (.v (.int .u64 r))
def Ev_math_bits_Mul64 (a0 : Int) (a1 : Int) (r : Int × Int) : Prop := AFn prog 50 [.v (.int .u64 a0), .v (.int .u64 a1)] (.tup [.v (.int .u64 r.1), .v (.int .u64 r.2)]) false
def Ev_ival_none (a0 : List GIval) (r : Bool) : Prop := AFn prog 51 [.sl 48 2 (List.map GIval.enc a0)] (.v (.bool r)) false
def Ev_ival_ends (a0 : Nat) (a1 : Nat) (r : GIval) : Prop := AFn prog 52 [.v (.float .f64 a0), .v (.float .f64 a1)] (GIval.enc r) false
def Ev_ival_Right (a0 : GIval) (r : Bool) : Prop := AFn prog 53 [GIval.enc a0] (.v (.bool r)) false
def Ev_math_Inf (a0 : Int) (r : Nat) : Prop := AFn prog 54 [.v (.int .i64 a0)] (.v (.float .f64 r)) false
def Ev_ref01_Of (a0 : Int) (r : List Int) : Prop := AFn prog 55 [.v (.int .u64 a0)] (.sl 106 1 (List.map (eInt .u32) r)) false
def Ev_ref01_By (a0 : List Int) (a1 : List Int) (r : List Int) : Prop := AFn prog 56 [.sl 106 1 (List.map (eInt .u32) a0), .sl 106 1 (List.map (eInt .u32) a1)] (.sl 106 1 (List.map (eInt .u32) r)) false
def Ev_ref01_level (a0 : Gref01Num) (a1 : Gref01Num) (r : Gref01Num × Gref01Num) : Prop := AFn prog 57 [Gref01Num.enc a0, Gref01Num.enc a1] (.tup [Gref01Num.enc r.1, Gref01Num.enc r.2]) false
def Ev_ref01_Plus (a0 : List Int) (a1 : List Int) (r : List Int) : Prop := AFn prog 58 [.sl 106 1 (List.map (eInt .u32) a0), .sl 106 1 (List.map (eInt .u32) a1)] (.sl 106 1 (List.map (eInt .u32) r)) false
def Ev_ref01_Cmp (a0 : List Int) (a1 : List Int) (r : Int) : Prop := AFn prog 59 [.sl 106 1 (List.map (eInt .u32) a0), .sl 106 1 (List.map (eInt .u32) a1)] (.v (.int .i64 r)) false
def Ev_ref01_Less (a0 : List Int) (a1 : List Int) (r : List Int) : Prop := AFn prog 60 [.sl 106 1 (List.map (eInt .u32) a0), .sl 106 1 (List.map (eInt .u32) a1)] (.sl 106 1 (List.map (eInt .u32) r)) false
def Ev_ref01_Split (a0 : Nat) (r : GParts × Bool) : Prop := AFn prog 61 [.v (.float .f64 a0)] (.tup [GParts.enc r.1, .v (.bool r.2)]) false
def Ev_math_frexp (a0 : Nat) (r : Nat × Int) : Prop := AFn prog 63 [.v (.float .f64 a0)] (.tup [.v (.float .f64 r.1), .v (.int .i64 r.2)]) false
def Ev_math_ldexp (a0 : Nat) (a1 : Int) (r : Nat) : Prop := AFn prog 65 [.v (.float .f64 a0), .v (.int .i64 a1)] (.v (.float .f64 r)) false
def Ev_lin_vector (a0 : List GIval) (r : Bool) : Prop := AFn prog 66 [.sl 48 2 (List.map GIval.enc a0)] (.v (.bool r)) false
def Ev_ival_Mul (a0 : GIval) (a1 : GIval) (r : GIval) : Prop := AFn prog 67 [GIval.enc a0, GIval.enc a1] (GIval.enc r) false
def Ev_ival_Neg (a0 : GIval) (r : GIval) : Prop := AFn prog 68 [GIval.enc a0] (GIval.enc r) false
def Ev_ulp_sum (a0 : GParts) (a1 : GParts) (r : Gulpvalue) : Prop := AFn prog 69 [GParts.enc a0, GParts.enc a1] (Gulpvalue.enc r) false
def Ev_ulp_Split (a0 : Nat) (r : GParts × Bool) : Prop := AFn prog 70 [.v (.float .f64 a0)] (.tup [GParts.enc r.1, .v (.bool r.2)]) false
def Ev_math_bits_Len64 (a0 : Int) (r : Int) : Prop := AFn prog 71 [.v (.int .u64 a0)] (.v (.int .i64 r)) false
def Ev_ulp_value_len (a0 : Gulpvalue) (r : Int) : Prop := AFn prog 72 [Gulpvalue.enc a0] (.v (.int .i64 r)) false
def Ev_ulp_value_shifted (a0 : Gulpvalue) (a1 : Int) (r : Int × Int) : Prop := AFn prog 73 [Gulpvalue.enc a0, .v (.int .i64 a1)] (.tup [.v (.int .u64 r.1), .v (.int .i64 r.2)]) false
def Ev_ulp_value_made (a0 : Gulpvalue) (a1 : Int) (a2 : Int) (a3 : Int) (r : Nat) : Prop := AFn prog 74 [Gulpvalue.enc a0, .v (.int .u64 a1), .v (.int .i64 a2), .v (.int .i64 a3)] (.v (.float .f64 r)) false
def Ev_ival_plus (a0 : Nat) (r : Bool) : Prop := AFn prog 75 [.v (.float .f64 a0)] (.v (.bool r)) false
def Ev_ref01_trim (a0 : List Int) (r : List Int) : Prop := AFn prog 76 [.sl 106 1 (List.map (eInt .u32) a0)] (.sl 106 1 (List.map (eInt .u32) r)) false
def Ev_ref01_Left (a0 : List Int) (a1 : Int) (r : List Int) : Prop := AFn prog 77 [.sl 106 1 (List.map (eInt .u32) a0), .v (.int .i64 a1)] (.sl 106 1 (List.map (eInt .u32) r)) false
def Ev_ref01_Index (a0 : Nat) (r : Int) : Prop := AFn prog 78 [.v (.float .f64 a0)] (.v (.int .i64 r)) false
def Ev_math_normalize (a0 : Nat) (r : Nat × Int) : Prop := AFn prog 79 [.v (.float .f64 a0)] (.tup [.v (.float .f64 r.1), .v (.int .i64 r.2)]) false
def Ev_math_Copysign (a0 : Nat) (a1 : Nat) (r : Nat) : Prop := AFn prog 80 [.v (.float .f64 a0), .v (.float .f64 a1)] (.v (.float .f64 r)) false
def Ev_ival_corners (a0 : GIval) (a1 : GIval) (a2 : DV) (r : GIval) : Prop := AFn prog 81 [GIval.enc a0, GIval.enc a1, a2] (GIval.enc r) false
def Ev_math_bits_Add64 (a0 : Int) (a1 : Int) (a2 : Int) (r : Int × Int) : Prop := ExtOk prog 82 [.int .u64 a0, .int .u64 a1, .int .u64 a2] (.tup [.v (.int .u64 r.1), .v (.int .u64 r.2)])
def Ev_math_bits_Sub64 (a0 : Int) (a1 : Int) (a2 : Int) (r : Int × Int) : Prop := ExtOk prog 83 [.int .u64 a0, .int .u64 a1, .int .u64 a2] (.tup [.v (.int .u64 r.1), .v (.int .u64 r.2)])
def Ev_ulp_value_right (a0 : Gulpvalue) (a1 : Int) (r : Int) : Prop := AFn prog 84 [Gulpvalue.enc a0, .v (.int .i64 a1)] (.v (.int .u64 r)) false
def Ev_ulp_value_even (a0 : Gulpvalue) (a1 : Int) (r : Bool) : Prop := AFn prog 85 [Gulpvalue.enc a0, .v (.int .i64 a1)] (.v (.bool r)) false
def Ev_math_Signbit (a0 : Nat) (r : Bool) : Prop := AFn prog 86 [.v (.float .f64 a0)] (.v (.bool r)) false
abbrev Fn_ulp_Mul : DV := .v (.func (.func 19) #[] #[])
theorem call_ulp_Mul {a0 : Nat} {a1 : Nat} {a2 : Int} {r : Nat} (h : Ev_ulp_Mul a0 a1 a2 r) : FVal prog (Fn_ulp_Mul) [.v (.float .f64 a0), .v (.float .f64 a1), .v (.int .i64 a2)] (.v (.float .f64 r)) := ⟨19, [], .inr ⟨rfl, rfl⟩, by simp [DV.agg], h⟩
end Go.Sim.Ytlkpbnhinnhlfaa
