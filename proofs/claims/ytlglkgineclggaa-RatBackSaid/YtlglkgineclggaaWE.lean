/- What is proved: functions of the program compute what plain statements tell. -/
import Derived.Test.YtlglkgineclggaaWT
namespace Go.Sim.Ytlglkgineclggaa
open Go.RowKit Go.Proofs Go.Proofs.Try
set_option maxRecDepth 100000

def Ev_law04_LinNorms (a0 : List (List GIval)) (a1 : List (List Nat)) (a2 : Int) (r : Bool) : Prop := AFn prog 3 [.sl 34 1 (List.map (eSl 36 2 GIval.enc) a0), .sl 83 1 (List.map (eSl 24 1 (eFlt .f64)) a1), .v (.int .i64 a2)] (.v (.bool r)) false

def Ev_law04_LinProducts (a0 : List (List GIval)) (a1 : List (List GIval)) (a2 : List GIval) (r : Bool) : Prop := AFn prog 4 [.sl 34 1 (List.map (eSl 36 2 GIval.enc) a0), .sl 34 1 (List.map (eSl 36 2 GIval.enc) a1), .sl 36 2 (List.map GIval.enc a2)] (.v (.bool r)) false

def Ev_law14_UnitInfers (a0 : List GNode) (a1 : List Int) (a2 : List GDim) (a3 : List Bool) (a4 : GDim) (r : Bool) : Prop := AFn prog 5 [.sl 105 22 (List.map GNode.enc a0), .sl 3 1 (List.map (eInt .i64) a1), .sl 59 14 (List.map GDim.enc a2), .sl 4 1 (List.map eBool a3), GDim.enc a4] (.v (.bool r)) false

def Ev_law04_LinGrows (a0 : List (List GIval)) (a1 : List GIval) (r : Bool) : Prop := AFn prog 6 [.sl 34 1 (List.map (eSl 36 2 GIval.enc) a0), .sl 36 2 (List.map GIval.enc a1)] (.v (.bool r)) false

def Ev_law14_UnitFits (a0 : List GNode) (a1 : List Int) (a2 : List GDim) (a3 : List Bool) (a4 : GDim) (r : Bool) : Prop := AFn prog 7 [.sl 105 22 (List.map GNode.enc a0), .sl 3 1 (List.map (eInt .i64) a1), .sl 59 14 (List.map GDim.enc a2), .sl 4 1 (List.map eBool a3), GDim.enc a4] (.v (.bool r)) false

def Ev_law11_RatBack (a0 : GRat) (a1 : GRat) (r : Bool) : Prop := AFn prog 8 [GRat.enc a0, GRat.enc a1] (.v (.bool r)) false

def Ev_lin_Norm (a0 : List (List GIval)) (r : Nat × Int) : Prop := AFn prog 9 [.sl 34 1 (List.map (eSl 36 2 GIval.enc) a0)] (.tup [.v (.float .f64 r.1), .v (.int .i64 r.2)]) false

def Ev_ref04_Matrix (a0 : List (List GIval)) (r : Bool) : Prop := AFn prog 10 [.sl 34 1 (List.map (eSl 36 2 GIval.enc) a0)] (.v (.bool r)) false

def Ev_ref04_Norm (a0 : List (List GIval)) (r : Nat) : Prop := AFn prog 11 [.sl 34 1 (List.map (eSl 36 2 GIval.enc) a0)] (.v (.float .f64 r)) false

def Ev_lin_One (a0 : Int) (r : List (List GIval)) : Prop := AFn prog 12 [.v (.int .i64 a0)] (.sl 34 1 (List.map (eSl 36 2 GIval.enc) r)) false

def Ev_ref04_SameAll (a0 : List (List GIval)) (a1 : List (List GIval)) (r : Bool) : Prop := AFn prog 13 [.sl 34 1 (List.map (eSl 36 2 GIval.enc) a0), .sl 34 1 (List.map (eSl 36 2 GIval.enc) a1)] (.v (.bool r)) false

def Ev_lin_Points (a0 : List (List Nat)) (r : List (List GIval)) : Prop := AFn prog 14 [.sl 83 1 (List.map (eSl 24 1 (eFlt .f64)) a0)] (.sl 34 1 (List.map (eSl 36 2 GIval.enc) r)) false

def Ev_ref04_Points (a0 : List (List Nat)) (r : List (List GIval)) : Prop := AFn prog 15 [.sl 83 1 (List.map (eSl 24 1 (eFlt .f64)) a0)] (.sl 34 1 (List.map (eSl 36 2 GIval.enc) r)) false

def Ev_ref04_One (a0 : Int) (r : List (List GIval)) : Prop := AFn prog 16 [.v (.int .i64 a0)] (.sl 34 1 (List.map (eSl 36 2 GIval.enc) r)) false

def Ev_lin_Dot (a0 : List GIval) (a1 : List GIval) (r : GIval × Int) : Prop := AFn prog 17 [.sl 36 2 (List.map GIval.enc a0), .sl 36 2 (List.map GIval.enc a1)] (.tup [GIval.enc r.1, .v (.int .i64 r.2)]) false

def Ev_law04_first (a0 : List (List GIval)) (r : List GIval) : Prop := AFn prog 18 [.sl 34 1 (List.map (eSl 36 2 GIval.enc) a0)] (.sl 36 2 (List.map GIval.enc r)) false

def Ev_ref04_Vector (a0 : List GIval) (r : Bool) : Prop := AFn prog 19 [.sl 36 2 (List.map GIval.enc a0)] (.v (.bool r)) false

def Ev_ref02_Same (a0 : GIval) (a1 : GIval) (r : Bool) : Prop := AFn prog 20 [GIval.enc a0, GIval.enc a1] (.v (.bool r)) false

def Ev_ref04_Dot (a0 : List GIval) (a1 : List GIval) (r : GIval) : Prop := AFn prog 21 [.sl 36 2 (List.map GIval.enc a0), .sl 36 2 (List.map GIval.enc a1)] (GIval.enc r) false

def Ev_lin_Apply (a0 : List (List GIval)) (a1 : List GIval) (r : (List GIval) × Int) : Prop := AFn prog 22 [.sl 34 1 (List.map (eSl 36 2 GIval.enc) a0), .sl 36 2 (List.map GIval.enc a1)] (.tup [.sl 36 2 (List.map GIval.enc r.1), .v (.int .i64 r.2)]) false

def Ev_ref04_Same (a0 : List GIval) (a1 : List GIval) (r : Bool) : Prop := AFn prog 23 [.sl 36 2 (List.map GIval.enc a0), .sl 36 2 (List.map GIval.enc a1)] (.v (.bool r)) false

def Ev_ref04_Apply (a0 : List (List GIval)) (a1 : List GIval) (r : List GIval) : Prop := AFn prog 24 [.sl 34 1 (List.map (eSl 36 2 GIval.enc) a0), .sl 36 2 (List.map GIval.enc a1)] (.sl 36 2 (List.map GIval.enc r)) false

def Ev_lin_Mul (a0 : List (List GIval)) (a1 : List (List GIval)) (r : (List (List GIval)) × Int) : Prop := AFn prog 25 [.sl 34 1 (List.map (eSl 36 2 GIval.enc) a0), .sl 34 1 (List.map (eSl 36 2 GIval.enc) a1)] (.tup [.sl 34 1 (List.map (eSl 36 2 GIval.enc) r.1), .v (.int .i64 r.2)]) false

def Ev_ref04_Mul (a0 : List (List GIval)) (a1 : List (List GIval)) (r : List (List GIval)) : Prop := AFn prog 26 [.sl 34 1 (List.map (eSl 36 2 GIval.enc) a0), .sl 34 1 (List.map (eSl 36 2 GIval.enc) a1)] (.sl 34 1 (List.map (eSl 36 2 GIval.enc) r)) false

def Ev_law14_small (a0 : List GNode) (a1 : List GDim) (r : Bool) : Prop := AFn prog 27 [.sl 105 22 (List.map GNode.enc a0), .sl 59 14 (List.map GDim.enc a1)] (.v (.bool r)) false

def Ev_unit_Infer (a0 : List GNode) (a1 : List Int) (a2 : List GDim) (a3 : List Bool) (a4 : GDim) (r : (List GDim) × Int) : Prop := AFn prog 28 [.sl 105 22 (List.map GNode.enc a0), .sl 3 1 (List.map (eInt .i64) a1), .sl 59 14 (List.map GDim.enc a2), .sl 4 1 (List.map eBool a3), GDim.enc a4] (.tup [.sl 59 14 (List.map GDim.enc r.1), .v (.int .i64 r.2)]) false

def Ev_ref14_Infer (a0 : List GNode) (a1 : List Int) (a2 : List GDim) (a3 : List Bool) (a4 : GDim) (r : (List GDim) × Int) : Prop := AFn prog 29 [.sl 105 22 (List.map GNode.enc a0), .sl 3 1 (List.map (eInt .i64) a1), .sl 59 14 (List.map GDim.enc a2), .sl 4 1 (List.map eBool a3), GDim.enc a4] (.tup [.sl 59 14 (List.map GDim.enc r.1), .v (.int .i64 r.2)]) false

def Ev_ref14_Like (a0 : List GDim) (a1 : List GDim) (r : Bool) : Prop := AFn prog 30 [.sl 59 14 (List.map GDim.enc a0), .sl 59 14 (List.map GDim.enc a1)] (.v (.bool r)) false

def Ev_law04_LinGrows_1 (a0 : GIval) (r : GIval) : Prop := AFn prog 31 [GIval.enc a0] (GIval.enc r) false

def Ev_ref02_Mid (a0 : GIval) (r : Nat) : Prop := AFn prog 32 [GIval.enc a0] (.v (.float .f64 r)) false

def Ev_ref02_None (a0 : GIval) (r : Bool) : Prop := AFn prog 33 [GIval.enc a0] (.v (.bool r)) false

def Ev_ref02_Has (a0 : GIval) (a1 : Nat) (r : Bool) : Prop := AFn prog 34 [GIval.enc a0, .v (.float .f64 a1)] (.v (.bool r)) false

def Ev_ref02_Make (a0 : Nat) (a1 : Nat) (r : GIval) : Prop := AFn prog 35 [.v (.float .f64 a0), .v (.float .f64 a1)] (GIval.enc r) false

def Ev_ref02_Inside (a0 : GIval) (a1 : GIval) (r : Bool) : Prop := AFn prog 36 [GIval.enc a0, GIval.enc a1] (.v (.bool r)) false

def Ev_law04_hollow (a0 : List (List GIval)) (a1 : Int) (r : Bool) : Prop := AFn prog 37 [.sl 34 1 (List.map (eSl 36 2 GIval.enc) a0), .v (.int .i64 a1)] (.v (.bool r)) false

def Ev_law14_alive (r : Bool) : Prop := AFn prog 38 [] (.v (.bool r)) false

def Ev_unit_Right (a0 : GDim) (r : Bool) : Prop := AFn prog 39 [GDim.enc a0] (.v (.bool r)) false

def Ev_ref11_Right (a0 : GRat) (r : Bool) : Prop := AFn prog 40 [GRat.enc a0] (.v (.bool r)) false

def Ev_rat_Add (a0 : GRat) (a1 : GRat) (r : GRat × Int) : Prop := AFn prog 41 [GRat.enc a0, GRat.enc a1] (.tup [GRat.enc r.1, .v (.int .i64 r.2)]) false

def Ev_rat_Sub (a0 : GRat) (a1 : GRat) (r : GRat × Int) : Prop := AFn prog 42 [GRat.enc a0, GRat.enc a1] (.tup [GRat.enc r.1, .v (.int .i64 r.2)]) false

def Ev_ival_Inside (a0 : GIval) (a1 : GIval) (r : Bool) : Prop := AFn prog 43 [GIval.enc a0, GIval.enc a1] (.v (.bool r)) false

def Ev_rat_Hold (a0 : GRat) (r : GIval) : Prop := AFn prog 44 [GRat.enc a0] (GIval.enc r) false

def Ev_ival_Add (a0 : GIval) (a1 : GIval) (r : GIval) : Prop := AFn prog 45 [GIval.enc a0, GIval.enc a1] (GIval.enc r) false

def Ev_rat_Mul (a0 : GRat) (a1 : GRat) (r : GRat × Int) : Prop := AFn prog 46 [GRat.enc a0, GRat.enc a1] (.tup [GRat.enc r.1, .v (.int .i64 r.2)]) false

def Ev_ival_Mul (a0 : GIval) (a1 : GIval) (r : GIval) : Prop := AFn prog 47 [GIval.enc a0, GIval.enc a1] (GIval.enc r) false

def Ev_rat_Div (a0 : GRat) (a1 : GRat) (r : GRat × Int) : Prop := AFn prog 48 [GRat.enc a0, GRat.enc a1] (.tup [GRat.enc r.1, .v (.int .i64 r.2)]) false

def Ev_lin_matrix (a0 : List (List GIval)) (r : Bool) : Prop := AFn prog 49 [.sl 34 1 (List.map (eSl 36 2 GIval.enc) a0)] (.v (.bool r)) false

def Ev_ulp_Add (a0 : Nat) (a1 : Nat) (a2 : Int) (r : Nat) : Prop := AFn prog 50 [.v (.float .f64 a0), .v (.float .f64 a1), .v (.int .i64 a2)] (.v (.float .f64 r)) false

def Ev_ival_Mag (a0 : GIval) (r : Nat) : Prop := AFn prog 51 [GIval.enc a0] (.v (.float .f64 r)) false

def Ev_ref01_Add (a0 : Nat) (a1 : Nat) (a2 : Int) (r : Nat) : Prop := AFn prog 52 [.v (.float .f64 a0), .v (.float .f64 a1), .v (.int .i64 a2)] (.v (.float .f64 r)) false

def Ev_ref02_Mag (a0 : GIval) (r : Nat) : Prop := AFn prog 53 [GIval.enc a0] (.v (.float .f64 r)) false

def Ev_lin_unit (a0 : Int) (r : List (List Nat)) : Prop := AFn prog 54 [.v (.int .i64 a0)] (.sl 83 1 (List.map (eSl 24 1 (eFlt .f64)) r)) false

def Ev_lin_floats (a0 : List (List Nat)) (r : Bool) : Prop := AFn prog 55 [.sl 83 1 (List.map (eSl 24 1 (eFlt .f64)) a0)] (.v (.bool r)) false

def Ev_ival_Point (a0 : Nat) (r : GIval) : Prop := AFn prog 56 [.v (.float .f64 a0)] (GIval.enc r) false

def Ev_ref04_Floats (a0 : List (List Nat)) (r : Bool) : Prop := AFn prog 57 [.sl 83 1 (List.map (eSl 24 1 (eFlt .f64)) a0)] (.v (.bool r)) false

def Ev_lin_vector (a0 : List GIval) (r : Bool) : Prop := AFn prog 58 [.sl 36 2 (List.map GIval.enc a0)] (.v (.bool r)) false

def Ev_ref02_Right (a0 : GIval) (r : Bool) : Prop := AFn prog 59 [GIval.enc a0] (.v (.bool r)) false

def Ev_ref01_Same (a0 : Nat) (a1 : Nat) (r : Bool) : Prop := AFn prog 60 [.v (.float .f64 a0), .v (.float .f64 a1)] (.v (.bool r)) false

def Ev_ref02_Add (a0 : GIval) (a1 : GIval) (r : GIval) : Prop := AFn prog 61 [GIval.enc a0, GIval.enc a1] (GIval.enc r) false

def Ev_ref02_Mul (a0 : GIval) (a1 : GIval) (r : GIval) : Prop := AFn prog 62 [GIval.enc a0, GIval.enc a1] (GIval.enc r) false

-- NOT (*orrery/unit.finder).start: type *unit.finder
def Ev_unit_Infer_1 (c0 : List GDim) (c1 : Int) (r : Unit) : Prop := AFn prog 64 [.pd (.sl 59 14 (List.map GDim.enc c0)), .pd (.v (.int .i64 c1))] (.tup []) false

def Ev_unit_plainForm (a0 : Int) (r : Gunitform) : Prop := AFn prog 65 [.v (.int .i64 a0)] (Gunitform.enc r) false

def Ev_unit_needed (a0 : List GNode) (a1 : List Int) (r : List Bool) : Prop := AFn prog 66 [.sl 105 22 (List.map GNode.enc a0), .sl 3 1 (List.map (eInt .i64) a1)] (.sl 4 1 (List.map eBool r)) false

-- NOT (*orrery/unit.finder).of: type *unit.finder
-- NOT (*orrery/unit.finder).keep: type *unit.finder
-- NOT (*orrery/unit.finder).solved: type *unit.finder
def Ev_ref14_Graph (a0 : List GNode) (r : Bool) : Prop := AFn prog 70 [.sl 105 22 (List.map GNode.enc a0)] (.v (.bool r)) false

def Ev_ref14_Right (a0 : GDim) (r : Bool) : Prop := AFn prog 71 [GDim.enc a0] (.v (.bool r)) false

def Ev_ref14_Needed (a0 : List GNode) (a1 : List Int) (r : List Int) : Prop := AFn prog 72 [.sl 105 22 (List.map GNode.enc a0), .sl 3 1 (List.map (eInt .i64) a1)] (.sl 3 1 (List.map (eInt .i64) r)) false

def Ev_ref14_empty (a0 : Int) (r : Gref14Form) : Prop := AFn prog 73 [.v (.int .i64 a0)] (Gref14Form.enc r) false

-- NOT (*orrery/orreryref14.Finder).form: type *orreryref14.Finder
-- NOT (*orrery/orreryref14.Finder).solve: type *orreryref14.Finder
def Ev_ref02_inf (a0 : Int) (r : Nat) : Prop := AFn prog 76 [.v (.int .i64 a0)] (.v (.float .f64 r)) false

def Ev_ref01_Mul (a0 : Nat) (a1 : Nat) (a2 : Int) (r : Nat) : Prop := AFn prog 77 [.v (.float .f64 a0), .v (.float .f64 a1), .v (.int .i64 a2)] (.v (.float .f64 r)) false

def Ev_ref02_zero (a0 : Nat) (r : Nat) : Prop := AFn prog 78 [.v (.float .f64 a0)] (.v (.float .f64 r)) false

def Ev_ref02_Empty (r : GIval) : Prop := AFn prog 79 [] (GIval.enc r) false

def Ev_ulp_Next (a0 : Nat) (r : Nat) : Prop := AFn prog 80 [.v (.float .f64 a0)] (.v (.float .f64 r)) false

def Ev_rat_Right (a0 : GRat) (r : Bool) : Prop := AFn prog 81 [GRat.enc a0] (.v (.bool r)) false

def Ev_ref01_Cmp (a0 : List Int) (a1 : List Int) (r : Int) : Prop := AFn prog 82 [.sl 175 1 (List.map (eInt .u32) a0), .sl 175 1 (List.map (eInt .u32) a1)] (.v (.int .i64 r)) false

def Ev_ref11_common (a0 : List Int) (a1 : List Int) (r : List Int) : Prop := AFn prog 83 [.sl 175 1 (List.map (eInt .u32) a0), .sl 175 1 (List.map (eInt .u32) a1)] (.sl 175 1 (List.map (eInt .u32) r)) false

def Ev_ref11_size (a0 : Int) (r : List Int) : Prop := AFn prog 84 [.v (.int .i64 a0)] (.sl 175 1 (List.map (eInt .u32) r)) false

def Ev_ref11_one (r : List Int) : Prop := AFn prog 85 [] (.sl 175 1 (List.map (eInt .u32) r)) false

def Ev_rat_gcd (a0 : Int) (a1 : Int) (r : Int) : Prop := AFn prog 86 [.v (.int .u64 a0), .v (.int .u64 a1)] (.v (.int .u64 r)) false

def Ev_math_bits_Mul64 (a0 : Int) (a1 : Int) (r : Int × Int) : Prop := AFn prog 87 [.v (.int .u64 a0), .v (.int .u64 a1)] (.tup [.v (.int .u64 r.1), .v (.int .u64 r.2)]) false

def Ev_rat_size (a0 : Int) (r : Int) : Prop := AFn prog 88 [.v (.int .i64 a0)] (.v (.int .u64 r)) false

def Ev_math_bits_Add64 (a0 : Int) (a1 : Int) (a2 : Int) (r : Int × Int) : Prop := ExtOk prog 89 [.int .u64 a0, .int .u64 a1, .int .u64 a2] (.tup [.v (.int .u64 r.1), .v (.int .u64 r.2)])

def Ev_math_bits_Sub64 (a0 : Int) (a1 : Int) (a2 : Int) (r : Int × Int) : Prop := ExtOk prog 90 [.int .u64 a0, .int .u64 a1, .int .u64 a2] (.tup [.v (.int .u64 r.1), .v (.int .u64 r.2)])

def Ev_math_bits_Rem64 (a0 : Int) (a1 : Int) (a2 : Int) (r : Int) : Prop := AFn prog 91 [.v (.int .u64 a0), .v (.int .u64 a1), .v (.int .u64 a2)] (.v (.int .u64 r)) false

def Ev_math_bits_Div64 (a0 : Int) (a1 : Int) (a2 : Int) (r : Int × Int) : Prop := AFn prog 92 [.v (.int .u64 a0), .v (.int .u64 a1), .v (.int .u64 a2)] (.tup [.v (.int .u64 r.1), .v (.int .u64 r.2)]) false

def Ev_rat_made (a0 : Bool) (a1 : Int) (a2 : Int) (r : GRat × Int) : Prop := AFn prog 93 [.v (.bool a0), .v (.int .u64 a1), .v (.int .u64 a2)] (.tup [GRat.enc r.1, .v (.int .i64 r.2)]) false

def Ev_ival_none (a0 : List GIval) (r : Bool) : Prop := AFn prog 94 [.sl 36 2 (List.map GIval.enc a0)] (.v (.bool r)) false

def Ev_ival_Empty (r : GIval) : Prop := AFn prog 95 [] (GIval.enc r) false

def Ev_math_bits_LeadingZeros64 (a0 : Int) (r : Int) : Prop := AFn prog 96 [.v (.int .u64 a0)] (.v (.int .i64 r)) false

def Ev_ival_Make (a0 : Nat) (a1 : Nat) (r : GIval) : Prop := AFn prog 97 [.v (.float .f64 a0), .v (.float .f64 a1)] (GIval.enc r) false

def Ev_ulp_Round (a0 : GParts) (a1 : Int) (r : Nat) : Prop := AFn prog 98 [GParts.enc a0, .v (.int .i64 a1)] (.v (.float .f64 r)) false

def Ev_ival_ends (a0 : Nat) (a1 : Nat) (r : GIval) : Prop := AFn prog 99 [.v (.float .f64 a0), .v (.float .f64 a1)] (GIval.enc r) false

def Ev_ival_corners (a0 : GIval) (a1 : GIval) (a2 : DV) (r : GIval) : Prop := AFn prog 100 [GIval.enc a0, GIval.enc a1, a2] (GIval.enc r) false

def Ev_ulp_Mul (a0 : Nat) (a1 : Nat) (a2 : Int) (r : Nat) : Prop := AFn prog 101 [.v (.float .f64 a0), .v (.float .f64 a1), .v (.int .i64 a2)] (.v (.float .f64 r)) false

def Ev_ulp_both (a0 : Nat) (a1 : Nat) (r : GParts × GParts × Bool) : Prop := AFn prog 102 [.v (.float .f64 a0), .v (.float .f64 a1)] (.tup [GParts.enc r.1, GParts.enc r.2.1, .v (.bool r.2.2)]) false

def Ev_ulp_sum (a0 : GParts) (a1 : GParts) (r : Gulpvalue) : Prop := AFn prog 103 [GParts.enc a0, GParts.enc a1] (Gulpvalue.enc r) false

def Ev_ulp_value_round (a0 : Gulpvalue) (a1 : Int) (r : Nat) : Prop := AFn prog 104 [Gulpvalue.enc a0, .v (.int .i64 a1)] (.v (.float .f64 r)) false

def Ev_math_Abs (a0 : Nat) (r : Nat) : Prop := AFn prog 105 [.v (.float .f64 a0)] (.v (.float .f64 r)) false

def Ev_ref01_IsNum (a0 : Nat) (r : Bool) : Prop := AFn prog 106 [.v (.float .f64 a0)] (.v (.bool r)) false

def Ev_math_NaN (r : Nat) : Prop := AFn prog 107 [] (.v (.float .f64 r)) false

def Ev_ref01_finite (a0 : Nat) (r : Bool) : Prop := AFn prog 108 [.v (.float .f64 a0)] (.v (.bool r)) false

def Ev_ref01_Whole (a0 : Gref01Num) (a1 : Int) (r : Nat) : Prop := AFn prog 109 [Gref01Num.enc a0, .v (.int .i64 a1)] (.v (.float .f64 r)) false

def Ev_ref01_Sum (a0 : Gref01Num) (a1 : Gref01Num) (r : Gref01Num) : Prop := AFn prog 110 [Gref01Num.enc a0, Gref01Num.enc a1] (Gref01Num.enc r) false

def Ev_ref01_Float (a0 : Nat) (r : Gref01Num) : Prop := AFn prog 111 [.v (.float .f64 a0)] (Gref01Num.enc r) false

def Ev_math_IsNaN (a0 : Nat) (r : Bool) : Prop := AFn prog 112 [.v (.float .f64 a0)] (.v (.bool r)) false

def Ev_math_IsInf (a0 : Nat) (a1 : Int) (r : Bool) : Prop := AFn prog 113 [.v (.float .f64 a0), .v (.int .i64 a1)] (.v (.bool r)) false

def Ev_ref04_finite (a0 : Nat) (r : Bool) : Prop := AFn prog 114 [.v (.float .f64 a0)] (.v (.bool r)) false

def Ev_ival_Right (a0 : GIval) (r : Bool) : Prop := AFn prog 115 [GIval.enc a0] (.v (.bool r)) false

def Ev_ref02_minus0 (a0 : Nat) (r : Bool) : Prop := AFn prog 116 [.v (.float .f64 a0)] (.v (.bool r)) false

def Ev_math_Float64bits (a0 : Nat) (r : Int) : Prop := ExtOk prog 117 [.float .f64 a0] (.v (.int .u64 r))

def Ev_ref02_ends (a0 : Nat) (a1 : Nat) (r : GIval) : Prop := AFn prog 118 [.v (.float .f64 a0), .v (.float .f64 a1)] (GIval.enc r) false

def Ev_ref02_wider (a0 : GIval) (a1 : Nat) (a2 : Nat) (r : GIval) : Prop := AFn prog 119 [GIval.enc a0, .v (.float .f64 a1), .v (.float .f64 a2)] (GIval.enc r) false

def Ev_unit_graph (a0 : List GNode) (r : Bool) : Prop := AFn prog 120 [.sl 105 22 (List.map GNode.enc a0)] (.v (.bool r)) false

def Ev_slices_ContainsFunc_int (a0 : List Int) (a1 : DV) (r : Bool) : Prop := AFn prog 121 [.sl 3 1 (List.map (eInt .i64) a0), a1] (.v (.bool r)) false

-- NOT (*orrery/unit.finder).start$1: type *unit.finder
def Ev_unit_Plain (r : GDim) : Prop := AFn prog 123 [] (GDim.enc r) false

def Ev_unit_whole (a0 : Int) (r : GRat) : Prop := AFn prog 124 [.v (.int .i64 a0)] (GRat.enc r) false

def Ev_slices_Backward_api_Node (a0 : List GNode) (r : DV) : Prop := AFn prog 125 [.sl 105 22 (List.map GNode.enc a0)] (r) false

def Ev_unit_args (a0 : Int) (r : Int) : Prop := AFn prog 126 [.v (.int .i64 a0)] (.v (.int .i64 r)) false

def Ev_unit_form_with (a0 : Gunitform) (a1 : Gunitform) (a2 : GRat) (r : Gunitform) : Prop := AFn prog 127 [Gunitform.enc a0, Gunitform.enc a1, GRat.enc a2] (Gunitform.enc r) false

-- NOT (*orrery/unit.finder).free: type *unit.finder
def Ev_slices_IndexFunc_api_Rat (a0 : List GRat) (a1 : DV) (r : Int) : Prop := AFn prog 129 [.sl 56 2 (List.map GRat.enc a0), a1] (.v (.int .i64 r)) false

def Ev_unit_finder_keep_1 (a0 : GRat) (r : Bool) : Prop := AFn prog 130 [GRat.enc a0] (.v (.bool r)) false

def Ev_unit_must_api_Rat (a0 : GRat) (a1 : Int) (r : GRat) : Prop := AFn prog 131 [GRat.enc a0, .v (.int .i64 a1)] (GRat.enc r) false

def Ev_slices_Backward_unit_form (a0 : List Gunitform) (r : DV) : Prop := AFn prog 132 [.sl 89 15 (List.map Gunitform.enc a0)] (r) false

def Ev_unit_must_api_Dim (a0 : GDim) (a1 : Int) (r : GDim) : Prop := AFn prog 133 [GDim.enc a0, .v (.int .i64 a1)] (GDim.enc r) false

def Ev_unit_Times (a0 : GDim) (a1 : GDim) (a2 : GRat) (r : GDim × Int) : Prop := AFn prog 134 [GDim.enc a0, GDim.enc a1, GRat.enc a2] (.tup [GDim.enc r.1, .v (.int .i64 r.2)]) false

def Ev_ref14_Args (a0 : Int) (r : Int) : Prop := AFn prog 135 [.v (.int .i64 a0)] (.v (.int .i64 r)) false

def Ev_ref14_Plain (r : GDim) : Prop := AFn prog 136 [] (GDim.enc r) false

def Ev_ref14_Whole (a0 : Int) (r : GRat) : Prop := AFn prog 137 [.v (.int .i64 a0)] (GRat.enc r) false

def Ev_ref14_join (a0 : Gref14Form) (a1 : Gref14Form) (a2 : GRat) (r : Gref14Form × Bool) : Prop := AFn prog 138 [Gref14Form.enc a0, Gref14Form.enc a1, GRat.enc a2] (.tup [Gref14Form.enc r.1, .v (.bool r.2)]) false

-- NOT (*orrery/orreryref14.Finder).free: type *orreryref14.Finder
def Ev_ref11_Div (a0 : GRat) (a1 : GRat) (r : GRat × Int) : Prop := AFn prog 140 [GRat.enc a0, GRat.enc a1] (.tup [GRat.enc r.1, .v (.int .i64 r.2)]) false

def Ev_ref14_Times (a0 : GDim) (a1 : GDim) (a2 : GRat) (r : GDim × Int) : Prop := AFn prog 141 [GDim.enc a0, GDim.enc a1, GRat.enc a2] (.tup [GDim.enc r.1, .v (.int .i64 r.2)]) false

def Ev_math_Inf (a0 : Int) (r : Nat) : Prop := AFn prog 142 [.v (.int .i64 a0)] (.v (.float .f64 r)) false

def Ev_ref01_inf (a0 : Bool) (r : Nat) : Prop := AFn prog 143 [.v (.bool a0)] (.v (.float .f64 r)) false

def Ev_ref01_Product (a0 : Gref01Num) (a1 : Gref01Num) (r : Gref01Num) : Prop := AFn prog 144 [Gref01Num.enc a0, Gref01Num.enc a1] (Gref01Num.enc r) false

def Ev_math_Float64frombits (a0 : Int) (r : Nat) : Prop := ExtOk prog 145 [.int .u64 a0] (.v (.float .f64 r))

def Ev_ulp_clean (a0 : Nat) (r : Nat) : Prop := AFn prog 146 [.v (.float .f64 a0)] (.v (.float .f64 r)) false

def Ev_ref11_rest (a0 : List Int) (a1 : List Int) (r : List Int) : Prop := AFn prog 147 [.sl 175 1 (List.map (eInt .u32) a0), .sl 175 1 (List.map (eInt .u32) a1)] (.sl 175 1 (List.map (eInt .u32) r)) false

def Ev_ref01_Of (a0 : Int) (r : List Int) : Prop := AFn prog 148 [.v (.int .u64 a0)] (.sl 175 1 (List.map (eInt .u32) r)) false

def Ev_math_bits_Len64 (a0 : Int) (r : Int) : Prop := AFn prog 149 [.v (.int .u64 a0)] (.v (.int .i64 r)) false

def Ev_ulp_Split (a0 : Nat) (r : GParts × Bool) : Prop := AFn prog 150 [.v (.float .f64 a0)] (.tup [GParts.enc r.1, .v (.bool r.2)]) false

def Ev_ulp_value_len (a0 : Gulpvalue) (r : Int) : Prop := AFn prog 151 [Gulpvalue.enc a0] (.v (.int .i64 r)) false

def Ev_ulp_value_shifted (a0 : Gulpvalue) (a1 : Int) (r : Int × Int) : Prop := AFn prog 152 [Gulpvalue.enc a0, .v (.int .i64 a1)] (.tup [.v (.int .u64 r.1), .v (.int .i64 r.2)]) false

def Ev_ulp_value_made (a0 : Gulpvalue) (a1 : Int) (a2 : Int) (a3 : Int) (r : Nat) : Prop := AFn prog 153 [Gulpvalue.enc a0, .v (.int .u64 a1), .v (.int .i64 a2), .v (.int .i64 a3)] (.v (.float .f64 r)) false

def Ev_ref01_Split (a0 : Nat) (r : GParts × Bool) : Prop := AFn prog 154 [.v (.float .f64 a0)] (.tup [GParts.enc r.1, .v (.bool r.2)]) false

def Ev_ref01_Rounded (a0 : Gref01Exact) (a1 : Int) (r : Nat) : Prop := AFn prog 155 [Gref01Exact.enc a0, .v (.int .i64 a1)] (.v (.float .f64 r)) false

def Ev_ref01_Int (a0 : Int) (r : Gref01Num) : Prop := AFn prog 156 [.v (.int .i64 a0)] (Gref01Num.enc r) false

def Ev_ref01_level (a0 : Gref01Num) (a1 : Gref01Num) (r : Gref01Num × Gref01Num) : Prop := AFn prog 157 [Gref01Num.enc a0, Gref01Num.enc a1] (.tup [Gref01Num.enc r.1, Gref01Num.enc r.2]) false

def Ev_ref01_Plus (a0 : List Int) (a1 : List Int) (r : List Int) : Prop := AFn prog 158 [.sl 175 1 (List.map (eInt .u32) a0), .sl 175 1 (List.map (eInt .u32) a1)] (.sl 175 1 (List.map (eInt .u32) r)) false

def Ev_ref01_Less (a0 : List Int) (a1 : List Int) (r : List Int) : Prop := AFn prog 159 [.sl 175 1 (List.map (eInt .u32) a0), .sl 175 1 (List.map (eInt .u32) a1)] (.sl 175 1 (List.map (eInt .u32) r)) false

def Ev_ival_plus (a0 : Nat) (r : Bool) : Prop := AFn prog 160 [.v (.float .f64 a0)] (.v (.bool r)) false

def Ev_slices_IndexFunc_int (a0 : List Int) (a1 : DV) (r : Int) : Prop := AFn prog 161 [.sl 3 1 (List.map (eInt .i64) a0), a1] (.v (.int .i64 r)) false

def Ev_slices_Backward_api_Node_api_Node_1 (a0 : DV) (c0 : List GNode) (r : Unit) : Prop := AFn prog 162 [a0, .pd (.sl 105 22 (List.map GNode.enc c0))] (.tup []) false

def Ev_slices_Backward_unit_form_unit_form_1 (a0 : DV) (c0 : List Gunitform) (r : Unit) : Prop := AFn prog 163 [a0, .pd (.sl 89 15 (List.map Gunitform.enc c0))] (.tup []) false

def Ev_ref11_Mul (a0 : GRat) (a1 : GRat) (r : GRat × Int) : Prop := AFn prog 164 [GRat.enc a0, GRat.enc a1] (.tup [GRat.enc r.1, .v (.int .i64 r.2)]) false

def Ev_ref11_Add (a0 : GRat) (a1 : GRat) (r : GRat × Int) : Prop := AFn prog 165 [GRat.enc a0, GRat.enc a1] (.tup [GRat.enc r.1, .v (.int .i64 r.2)]) false

def Ev_ref11_Of (a0 : Bool) (a1 : List Int) (a2 : List Int) (r : GRat × Int) : Prop := AFn prog 166 [.v (.bool a0), .sl 175 1 (List.map (eInt .u32) a1), .sl 175 1 (List.map (eInt .u32) a2)] (.tup [GRat.enc r.1, .v (.int .i64 r.2)]) false

def Ev_ref01_By (a0 : List Int) (a1 : List Int) (r : List Int) : Prop := AFn prog 167 [.sl 175 1 (List.map (eInt .u32) a0), .sl 175 1 (List.map (eInt .u32) a1)] (.sl 175 1 (List.map (eInt .u32) r)) false

def Ev_ref01_At (a0 : Int) (r : Nat) : Prop := AFn prog 168 [.v (.int .i64 a0)] (.v (.float .f64 r)) false

def Ev_ref01_Bits (a0 : List Int) (r : Int) : Prop := AFn prog 169 [.sl 175 1 (List.map (eInt .u32) a0)] (.v (.int .i64 r)) false

def Ev_ref01_Left (a0 : List Int) (a1 : Int) (r : List Int) : Prop := AFn prog 170 [.sl 175 1 (List.map (eInt .u32) a0), .v (.int .i64 a1)] (.sl 175 1 (List.map (eInt .u32) r)) false

def Ev_ref01_trim (a0 : List Int) (r : List Int) : Prop := AFn prog 171 [.sl 175 1 (List.map (eInt .u32) a0)] (.sl 175 1 (List.map (eInt .u32) r)) false

def Ev_ulp_value_right (a0 : Gulpvalue) (a1 : Int) (r : Int) : Prop := AFn prog 172 [Gulpvalue.enc a0, .v (.int .i64 a1)] (.v (.int .u64 r)) false

def Ev_ulp_value_even (a0 : Gulpvalue) (a1 : Int) (r : Bool) : Prop := AFn prog 173 [Gulpvalue.enc a0, .v (.int .i64 a1)] (.v (.bool r)) false

def Ev_math_Ldexp (a0 : Nat) (a1 : Int) (r : Nat) : Prop := AFn prog 174 [.v (.float .f64 a0), .v (.int .i64 a1)] (.v (.float .f64 r)) false

def Ev_ref01_Index (a0 : Nat) (r : Int) : Prop := AFn prog 175 [.v (.float .f64 a0)] (.v (.int .i64 r)) false

def Ev_ref01_Down (a0 : Gref01Exact) (r : Int) : Prop := AFn prog 176 [Gref01Exact.enc a0] (.v (.int .i64 r)) false

def Ev_ref01_same (a0 : Gref01Num) (a1 : Gref01Exact) (r : Bool) : Prop := AFn prog 177 [Gref01Num.enc a0, Gref01Exact.enc a1] (.v (.bool r)) false

def Ev_ref01_grid (a0 : Int) (r : Gref01Num) : Prop := AFn prog 178 [.v (.int .i64 a0)] (Gref01Num.enc r) false

def Ev_ref01_below (a0 : Gref01Num) (a1 : Gref01Exact) (r : Bool) : Prop := AFn prog 179 [Gref01Num.enc a0, Gref01Exact.enc a1] (.v (.bool r)) false

def Ev_math_Signbit (a0 : Nat) (r : Bool) : Prop := AFn prog 180 [.v (.float .f64 a0)] (.v (.bool r)) false

def Ev_ref11_Num (a0 : Int) (r : Gref01Num) : Prop := AFn prog 181 [.v (.int .i64 a0)] (Gref01Num.enc r) false

def Ev_ref11_low (a0 : List Int) (r : Int × Bool) : Prop := AFn prog 182 [.sl 175 1 (List.map (eInt .u32) a0)] (.tup [.v (.int .i64 r.1), .v (.bool r.2)]) false

def Ev_ref11_Quo (a0 : List Int) (a1 : List Int) (r : List Int) : Prop := AFn prog 183 [.sl 175 1 (List.map (eInt .u32) a0), .sl 175 1 (List.map (eInt .u32) a1)] (.sl 175 1 (List.map (eInt .u32) r)) false

def Ev_math_archLdexp (a0 : Nat) (a1 : Int) (r : Nat) : Prop := AFn prog 184 [.v (.float .f64 a0), .v (.int .i64 a1)] (.v (.float .f64 r)) false

def Ev_math_ldexp (a0 : Nat) (a1 : Int) (r : Nat) : Prop := AFn prog 185 [.v (.float .f64 a0), .v (.int .i64 a1)] (.v (.float .f64 r)) false

def Ev_ref01_Sign (a0 : Gref01Num) (r : Int) : Prop := AFn prog 186 [Gref01Num.enc a0] (.v (.int .i64 r)) false

def Ev_ref01_Order (a0 : Gref01Num) (a1 : Gref01Num) (r : Int) : Prop := AFn prog 187 [Gref01Num.enc a0, Gref01Num.enc a1] (.v (.int .i64 r)) false

def Ev_math_normalize (a0 : Nat) (r : Nat × Int) : Prop := AFn prog 188 [.v (.float .f64 a0)] (.tup [.v (.float .f64 r.1), .v (.int .i64 r.2)]) false

def Ev_math_Copysign (a0 : Nat) (a1 : Nat) (r : Nat) : Prop := AFn prog 189 [.v (.float .f64 a0), .v (.float .f64 a1)] (.v (.float .f64 r)) false

abbrev Fn_unit_Right : DV := .v (.func (.func 39) #[] #[])
theorem call_unit_Right {a0 : GDim} {r : Bool} (h : Ev_unit_Right a0 r) : FVal prog (Fn_unit_Right) [GDim.enc a0] (.v (.bool r)) := ⟨39, [], .inr ⟨rfl, rfl⟩, by simp [DV.agg], h⟩

abbrev Fn_unit_Infer_1 (c0 : List GDim) (c1 : Int) : DV := .fn 64 [.pd (.sl 59 14 (List.map GDim.enc c0)), .pd (.v (.int .i64 c1))]
theorem call_unit_Infer_1 {c0 : List GDim} {c1 : Int} {r : Unit} (h : Ev_unit_Infer_1 c0 c1 r) : FVal prog (Fn_unit_Infer_1 c0 c1) [] (.tup []) := ⟨64, [.pd (.sl 59 14 (List.map GDim.enc c0)), .pd (.v (.int .i64 c1))], .inl rfl, by simp [DV.agg], h⟩

abbrev Fn_ulp_Mul : DV := .v (.func (.func 101) #[] #[])
theorem call_ulp_Mul {a0 : Nat} {a1 : Nat} {a2 : Int} {r : Nat} (h : Ev_ulp_Mul a0 a1 a2 r) : FVal prog (Fn_ulp_Mul) [.v (.float .f64 a0), .v (.float .f64 a1), .v (.int .i64 a2)] (.v (.float .f64 r)) := ⟨101, [], .inr ⟨rfl, rfl⟩, by simp [DV.agg], h⟩

abbrev Fn_unit_finder_keep_1 : DV := .v (.func (.func 130) #[] #[])
theorem call_unit_finder_keep_1 {a0 : GRat} {r : Bool} (h : Ev_unit_finder_keep_1 a0 r) : FVal prog (Fn_unit_finder_keep_1) [GRat.enc a0] (.v (.bool r)) := ⟨130, [], .inr ⟨rfl, rfl⟩, by simp [DV.agg], h⟩

abbrev Fn_slices_IndexFunc_int : DV := .v (.func (.func 161) #[] #[])
theorem call_slices_IndexFunc_int {a0 : List Int} {a1 : DV} {r : Int} (h : Ev_slices_IndexFunc_int a0 a1 r) : FVal prog (Fn_slices_IndexFunc_int) [.sl 3 1 (List.map (eInt .i64) a0), a1] (.v (.int .i64 r)) := ⟨161, [], .inr ⟨rfl, rfl⟩, by simp [DV.agg], h⟩

abbrev Fn_slices_Backward_api_Node_api_Node_1 (c0 : List GNode) : DV := .fn 162 [.pd (.sl 105 22 (List.map GNode.enc c0))]
theorem call_slices_Backward_api_Node_api_Node_1 {a0 : DV} {c0 : List GNode} {r : Unit} (h : Ev_slices_Backward_api_Node_api_Node_1 a0 c0 r) : FVal prog (Fn_slices_Backward_api_Node_api_Node_1 c0) [a0] (.tup []) := ⟨162, [.pd (.sl 105 22 (List.map GNode.enc c0))], .inl rfl, by simp [DV.agg], h⟩

abbrev Fn_slices_Backward_unit_form_unit_form_1 (c0 : List Gunitform) : DV := .fn 163 [.pd (.sl 89 15 (List.map Gunitform.enc c0))]
theorem call_slices_Backward_unit_form_unit_form_1 {a0 : DV} {c0 : List Gunitform} {r : Unit} (h : Ev_slices_Backward_unit_form_unit_form_1 a0 c0 r) : FVal prog (Fn_slices_Backward_unit_form_unit_form_1 c0) [a0] (.tup []) := ⟨163, [.pd (.sl 89 15 (List.map Gunitform.enc c0))], .inl rfl, by simp [DV.agg], h⟩

end Go.Sim.Ytlglkgineclggaa
