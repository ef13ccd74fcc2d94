/- What is proved: functions of the program compute what plain statements tell. -/
import Derived.Test.YtefpfeoimgkldaaDoorZRRWT

namespace Go.Sim.YtefpfeoimgkldaaDoor
open Go.RowKit Go.Proofs Go.Proofs.Tryd
set_option maxRecDepth 100000
def Ev_law11_RatReads (a0 : ByteArray) (r : Bool) : Prop := AFn prog 3 [.v (.string a0)] (.v (.bool r)) false
def Ev_rat_Read (a0 : ByteArray) (r : GRat × Int) : Prop := AFn prog 4 [.v (.string a0)] (.tup [GRat.enc r.1, .v (.int .i64 r.2)]) false
def Ev_ref11_Read (a0 : ByteArray) (r : GRat × Int) : Prop := AFn prog 5 [.v (.string a0)] (.tup [GRat.enc r.1, .v (.int .i64 r.2)]) false
def Ev_rat_parts (a0 : ByteArray) (r : ByteArray × Int × Int × Bool) : Prop := AFn prog 6 [.v (.string a0)] (.tup [.v (.string r.1), .v (.int .i64 r.2.1), .v (.int .i64 r.2.2.1), .v (.bool r.2.2.2)]) false
def Ev_strings_TrimLeft (a0 : ByteArray) (a1 : ByteArray) (r : ByteArray) : Prop := AFn prog 7 [.v (.string a0), .v (.string a1)] (.v (.string r)) false
def Ev_rat_scaled (a0 : ByteArray) (a1 : Int) (r : GRat × Int) : Prop := AFn prog 8 [.v (.string a0), .v (.int .i64 a1)] (.tup [GRat.enc r.1, .v (.int .i64 r.2)]) false
def Ev_ref11_upto (a0 : ByteArray) (a1 : Int) (r : Int) : Prop := AFn prog 9 [.v (.string a0), .v (.int .i64 a1)] (.v (.int .i64 r)) false
def Ev_strconv_Atoi (a0 : ByteArray) (r : Int × Bool) : Prop := AFn prog 10 [.v (.string a0)] (.tup [.v (.int .i64 r.1), eErr r.2]) false
def Ev_ref11_value (a0 : ByteArray) (r : List Int) : Prop := AFn prog 11 [.v (.string a0)] (.sl 67 1 (List.map (eInt .u32) r)) false
def Ev_ref01_Of (a0 : Int) (r : List Int) : Prop := AFn prog 12 [.v (.int .u64 a0)] (.sl 67 1 (List.map (eInt .u32) r)) false
def Ev_ref11_Of (a0 : Bool) (a1 : List Int) (a2 : List Int) (r : GRat × Int) : Prop := AFn prog 13 [.v (.bool a0), .sl 67 1 (List.map (eInt .u32) a1), .sl 67 1 (List.map (eInt .u32) a2)] (.tup [GRat.enc r.1, .v (.int .i64 r.2)]) false
def Ev_ref01_By (a0 : List Int) (a1 : List Int) (r : List Int) : Prop := AFn prog 14 [.sl 67 1 (List.map (eInt .u32) a0), .sl 67 1 (List.map (eInt .u32) a1)] (.sl 67 1 (List.map (eInt .u32) r)) false
def Ev_ref11_power (a0 : List Int) (a1 : Int) (r : List Int) : Prop := AFn prog 15 [.sl 67 1 (List.map (eInt .u32) a0), .v (.int .i64 a1)] (.sl 67 1 (List.map (eInt .u32) r)) false
def Ev_ref11_one (r : List Int) : Prop := AFn prog 16 [] (.sl 67 1 (List.map (eInt .u32) r)) false
def Ev_rat_digits (a0 : ByteArray) (r : ByteArray × ByteArray) : Prop := AFn prog 17 [.v (.string a0)] (.tup [.v (.string r.1), .v (.string r.2)]) false
def Ev_strings_CutPrefix (a0 : ByteArray) (a1 : ByteArray) (r : ByteArray × Bool) : Prop := AFn prog 18 [.v (.string a0), .v (.string a1)] (.tup [.v (.string r.1), .v (.bool r.2)]) false
def Ev_rat_short (a0 : List Int) (a1 : Int) (r : List Int) : Prop := AFn prog 23 [.sl 5 1 (List.map (eInt .u8) a0), .v (.int .u8 a1)] (.sl 5 1 (List.map (eInt .u8) r)) false
def Ev_strconv_ParseUint (a0 : ByteArray) (a1 : Int) (a2 : Int) (r : Int × Bool) : Prop := AFn prog 24 [.v (.string a0), .v (.int .i64 a1), .v (.int .i64 a2)] (.tup [.v (.int .u64 r.1), eErr r.2]) false
def Ev_math_bits_Mul64 (a0 : Int) (a1 : Int) (r : Int × Int) : Prop := AFn prog 25 [.v (.int .u64 a0), .v (.int .u64 a1)] (.tup [.v (.int .u64 r.1), .v (.int .u64 r.2)]) false
def Ev_math_bits_LeadingZeros64 (a0 : Int) (r : Int) : Prop := AFn prog 26 [.v (.int .u64 a0)] (.v (.int .i64 r)) false
def Ev_rat_made (a0 : Bool) (a1 : Int) (a2 : Int) (r : GRat × Int) : Prop := AFn prog 27 [.v (.bool a0), .v (.int .u64 a1), .v (.int .u64 a2)] (.tup [GRat.enc r.1, .v (.int .i64 r.2)]) false
def Ev_ref01_Plus (a0 : List Int) (a1 : List Int) (r : List Int) : Prop := AFn prog 30 [.sl 67 1 (List.map (eInt .u32) a0), .sl 67 1 (List.map (eInt .u32) a1)] (.sl 67 1 (List.map (eInt .u32) r)) false
def Ev_ref01_trim (a0 : List Int) (r : List Int) : Prop := AFn prog 31 [.sl 67 1 (List.map (eInt .u32) a0)] (.sl 67 1 (List.map (eInt .u32) r)) false
def Ev_ref11_common (a0 : List Int) (a1 : List Int) (r : List Int) : Prop := AFn prog 32 [.sl 67 1 (List.map (eInt .u32) a0), .sl 67 1 (List.map (eInt .u32) a1)] (.sl 67 1 (List.map (eInt .u32) r)) false
def Ev_ref11_low (a0 : List Int) (r : Int × Bool) : Prop := AFn prog 33 [.sl 67 1 (List.map (eInt .u32) a0)] (.tup [.v (.int .i64 r.1), .v (.bool r.2)]) false
def Ev_ref11_Quo (a0 : List Int) (a1 : List Int) (r : List Int) : Prop := AFn prog 34 [.sl 67 1 (List.map (eInt .u32) a0), .sl 67 1 (List.map (eInt .u32) a1)] (.sl 67 1 (List.map (eInt .u32) r)) false
def Ev_internal_stringslite_CutPrefix (a0 : ByteArray) (a1 : ByteArray) (r : ByteArray × Bool) : Prop := AFn prog 35 [.v (.string a0), .v (.string a1)] (.tup [.v (.string r.1), .v (.bool r.2)]) false
def Ev_math_bits_Len64 (a0 : Int) (r : Int) : Prop := AFn prog 40 [.v (.int .u64 a0)] (.v (.int .i64 r)) false
def Ev_rat_gcd (a0 : Int) (a1 : Int) (r : Int) : Prop := AFn prog 41 [.v (.int .u64 a0), .v (.int .u64 a1)] (.v (.int .u64 r)) false
def Ev_ref11_rest (a0 : List Int) (a1 : List Int) (r : List Int) : Prop := AFn prog 47 [.sl 67 1 (List.map (eInt .u32) a0), .sl 67 1 (List.map (eInt .u32) a1)] (.sl 67 1 (List.map (eInt .u32) r)) false
def Ev_ref01_Bits (a0 : List Int) (r : Int) : Prop := AFn prog 48 [.sl 67 1 (List.map (eInt .u32) a0)] (.v (.int .i64 r)) false
def Ev_ref01_Left (a0 : List Int) (a1 : Int) (r : List Int) : Prop := AFn prog 49 [.sl 67 1 (List.map (eInt .u32) a0), .v (.int .i64 a1)] (.sl 67 1 (List.map (eInt .u32) r)) false
def Ev_ref01_Cmp (a0 : List Int) (a1 : List Int) (r : Int) : Prop := AFn prog 50 [.sl 67 1 (List.map (eInt .u32) a0), .sl 67 1 (List.map (eInt .u32) a1)] (.v (.int .i64 r)) false
def Ev_ref01_Less (a0 : List Int) (a1 : List Int) (r : List Int) : Prop := AFn prog 51 [.sl 67 1 (List.map (eInt .u32) a0), .sl 67 1 (List.map (eInt .u32) a1)] (.sl 67 1 (List.map (eInt .u32) r)) false
def Ev_internal_stringslite_HasPrefix (a0 : ByteArray) (a1 : ByteArray) (r : Bool) : Prop := AFn prog 52 [.v (.string a0), .v (.string a1)] (.v (.bool r)) false
end Go.Sim.YtefpfeoimgkldaaDoor
