/- What is proved: functions of the program compute what plain statements tell. -/
import Derived.Test.YtnnfiohdkobkdaaDoorZLBWT
namespace Go.Sim.YtnnfiohdkobkdaaDoor
open Go.RowKit Go.Proofs Go.Proofs.Tryd
set_option maxRecDepth 100000
def Ev_law12_LexBlanks (a0 : ByteArray) (a1 : List Int) (r : Bool) : Prop := AFn prog 5 [.v (.string a0), .sl 3 1 (List.map (eInt .i64) a1)] (.v (.bool r)) false
def Ev_lex_Lex (a0 : ByteArray) (r : (List GToken) × Int × Int) : Prop := AFn prog 6 [.v (.string a0)] (.tup [.sl 29 5 (List.map GToken.enc r.1), .v (.int .i64 r.2.1), .v (.int .i64 r.2.2)]) false
def Ev_ref12_Like (a0 : List GToken) (a1 : List GToken) (a2 : Bool) (r : Bool) : Prop := AFn prog 7 [.sl 29 5 (List.map GToken.enc a0), .sl 29 5 (List.map GToken.enc a1), .v (.bool a2)] (.v (.bool r)) false
def Ev_rat_Read (a0 : ByteArray) (r : GRat × Int) : Prop := AFn prog 8 [.v (.string a0)] (.tup [GRat.enc r.1, .v (.int .i64 r.2)]) false
def Ev_law12_alive (r : Bool) : Prop := AFn prog 10 [] (.v (.bool r)) false
def Ev_lex_words (r : List (ByteArray × Unit)) : Prop := AFn prog 11 [] (.mp (List.map (fun e => (fun s : ByteArray => Value.string s) e.1) r) (List.map (fun e => (fun _ : Unit => DV.st [] []) e.2) r)) false
def Ev_lex_lexer_blanks (a0 : Glexlexer) (r : Glexlexer) : Prop := AFnB prog 12 41 3 (Glexlexer.enc a0) [] (.ret (.tup [])) (Glexlexer.enc r)
def Ev_lex_lexer_token (a0 : Glexlexer) (r : (GToken × Int) × Glexlexer) : Prop := AFnB prog 13 41 3 (Glexlexer.enc a0) [] (.ret (.tup [GToken.enc r.1.1, .v (.int .i64 r.1.2)])) (Glexlexer.enc r.2)
def Ev_rat_parts (a0 : ByteArray) (r : ByteArray × Int × Int × Bool) : Prop := AFn prog 14 [.v (.string a0)] (.tup [.v (.string r.1), .v (.int .i64 r.2.1), .v (.int .i64 r.2.2.1), .v (.bool r.2.2.2)]) false
def Ev_strings_TrimLeft (a0 : ByteArray) (a1 : ByteArray) (r : ByteArray) : Prop := AFn prog 15 [.v (.string a0), .v (.string a1)] (.v (.string r)) false
def Ev_rat_scaled (a0 : ByteArray) (a1 : Int) (r : GRat × Int) : Prop := AFn prog 16 [.v (.string a0), .v (.int .i64 a1)] (.tup [GRat.enc r.1, .v (.int .i64 r.2)]) false
def Ev_ulp_Next (a0 : Nat) (r : Nat) : Prop := AFn prog 17 [.v (.float .f64 a0)] (.v (.float .f64 r)) false
def Ev_strings_Fields (a0 : ByteArray) (r : List ByteArray) : Prop := AFn prog 18 [.v (.string a0)] (.sl 9 1 (List.map eStr r)) false
def Ev_lex_lexer_blanks_1 (a0 : Int) (r : Bool) : Prop := AFn prog 19 [.v (.int .u8 a0)] (.v (.bool r)) false
def Ev_lex_lexer_while (a0 : Glexlexer) (a1 : DV) (r : Glexlexer) : Prop := AFnB prog 20 41 3 (Glexlexer.enc a0) [a1] (.ret (.tup [])) (Glexlexer.enc r)
def Ev_lex_lexer_next (a0 : Glexlexer) (a1 : Int) (r : Int) : Prop := AFnB prog 21 41 3 (Glexlexer.enc a0) [.v (.int .i64 a1)] (.ret (.v (.int .u8 r))) (Glexlexer.enc a0)
def Ev_lex_lexer_blanks_2 (a0 : Int) (r : Bool) : Prop := AFn prog 22 [.v (.int .u8 a0)] (.v (.bool r)) false
def Ev_lex_letter (a0 : Int) (r : Bool) : Prop := AFn prog 23 [.v (.int .u8 a0)] (.v (.bool r)) false
def Ev_lex_lexer_name (a0 : Glexlexer) (r : (GToken × Int) × Glexlexer) : Prop := AFnB prog 24 41 3 (Glexlexer.enc a0) [] (.ret (.tup [GToken.enc r.1.1, .v (.int .i64 r.1.2)])) (Glexlexer.enc r.2)
def Ev_lex_digit (a0 : Int) (r : Bool) : Prop := AFn prog 25 [.v (.int .u8 a0)] (.v (.bool r)) false
def Ev_lex_lexer_number (a0 : Glexlexer) (r : (GToken × Int) × Glexlexer) : Prop := AFnB prog 26 41 3 (Glexlexer.enc a0) [] (.ret (.tup [GToken.enc r.1.1, .v (.int .i64 r.1.2)])) (Glexlexer.enc r.2)
def Ev_strings_IndexByte (a0 : ByteArray) (a1 : Int) (r : Int) : Prop := AFn prog 27 [.v (.string a0), .v (.int .u8 a1)] (.v (.int .i64 r)) false
def Ev_rat_digits (a0 : ByteArray) (r : ByteArray × ByteArray) : Prop := AFn prog 28 [.v (.string a0)] (.tup [.v (.string r.1), .v (.string r.2)]) false
def Ev_strings_CutPrefix (a0 : ByteArray) (a1 : ByteArray) (r : ByteArray × Bool) : Prop := AFn prog 29 [.v (.string a0), .v (.string a1)] (.tup [.v (.string r.1), .v (.bool r.2)]) false
def Ev_strconv_Atoi (a0 : ByteArray) (r : Int × Bool) : Prop := AFn prog 30 [.v (.string a0)] (.tup [.v (.int .i64 r.1), eErr r.2]) false
-- NOT strings.trimLeftASCII: type *strings.asciiSet
def Ev_rat_short (a0 : List Int) (a1 : Int) (r : List Int) : Prop := AFn prog 35 [.sl 5 1 (List.map (eInt .u8) a0), .v (.int .u8 a1)] (.sl 5 1 (List.map (eInt .u8) r)) false
def Ev_strconv_ParseUint (a0 : ByteArray) (a1 : Int) (a2 : Int) (r : Int × Bool) : Prop := AFn prog 36 [.v (.string a0), .v (.int .i64 a1), .v (.int .i64 a2)] (.tup [.v (.int .u64 r.1), eErr r.2]) false
def Ev_math_bits_Mul64 (a0 : Int) (a1 : Int) (r : Int × Int) : Prop := AFn prog 37 [.v (.int .u64 a0), .v (.int .u64 a1)] (.tup [.v (.int .u64 r.1), .v (.int .u64 r.2)]) false
def Ev_math_bits_LeadingZeros64 (a0 : Int) (r : Int) : Prop := AFn prog 38 [.v (.int .u64 a0)] (.v (.int .i64 r)) false
def Ev_rat_made (a0 : Bool) (a1 : Int) (a2 : Int) (r : GRat × Int) : Prop := AFn prog 39 [.v (.bool a0), .v (.int .u64 a1), .v (.int .u64 a2)] (.tup [GRat.enc r.1, .v (.int .i64 r.2)]) false
def Ev_math_IsNaN (a0 : Nat) (r : Bool) : Prop := AFn prog 40 [.v (.float .f64 a0)] (.v (.bool r)) false
def Ev_math_Inf (a0 : Int) (r : Nat) : Prop := AFn prog 41 [.v (.int .i64 a0)] (.v (.float .f64 r)) false
def Ev_math_Float64frombits (a0 : Int) (r : Nat) : Prop := ExtOk prog 42 [.int .u64 a0] (.v (.float .f64 r))
def Ev_math_Float64bits (a0 : Nat) (r : Int) : Prop := ExtOk prog 43 [.float .f64 a0] (.v (.int .u64 r))
def Ev_ulp_clean (a0 : Nat) (r : Nat) : Prop := AFn prog 44 [.v (.float .f64 a0)] (.v (.float .f64 r)) false
def Ev_lex_lexer_name_1 (a0 : Int) (r : Bool) : Prop := AFn prog 47 [.v (.int .u8 a0)] (.v (.bool r)) false
def Ev_internal_stringslite_CutPrefix (a0 : ByteArray) (a1 : ByteArray) (r : ByteArray × Bool) : Prop := AFn prog 49 [.v (.string a0), .v (.string a1)] (.tup [.v (.string r.1), .v (.bool r.2)]) false
def Ev_math_bits_Len64 (a0 : Int) (r : Int) : Prop := AFn prog 56 [.v (.int .u64 a0)] (.v (.int .i64 r)) false
def Ev_rat_gcd (a0 : Int) (a1 : Int) (r : Int) : Prop := AFn prog 57 [.v (.int .u64 a0), .v (.int .u64 a1)] (.v (.int .u64 r)) false
def Ev_internal_stringslite_HasPrefix (a0 : ByteArray) (a1 : ByteArray) (r : Bool) : Prop := AFn prog 60 [.v (.string a0), .v (.string a1)] (.v (.bool r)) false
abbrev Fn_lex_lexer_blanks_1 : DV := .v (.func (.func 19) #[] #[])
theorem call_lex_lexer_blanks_1 {a0 : Int} {r : Bool} (h : Ev_lex_lexer_blanks_1 a0 r) : FVal prog (Fn_lex_lexer_blanks_1) [.v (.int .u8 a0)] (.v (.bool r)) := ⟨19, [], .inr ⟨rfl, rfl⟩, by simp [DV.agg], h⟩
abbrev Fn_lex_lexer_blanks_2 : DV := .v (.func (.func 22) #[] #[])
theorem call_lex_lexer_blanks_2 {a0 : Int} {r : Bool} (h : Ev_lex_lexer_blanks_2 a0 r) : FVal prog (Fn_lex_lexer_blanks_2) [.v (.int .u8 a0)] (.v (.bool r)) := ⟨22, [], .inr ⟨rfl, rfl⟩, by simp [DV.agg], h⟩
abbrev Fn_lex_digit : DV := .v (.func (.func 25) #[] #[])
theorem call_lex_digit {a0 : Int} {r : Bool} (h : Ev_lex_digit a0 r) : FVal prog (Fn_lex_digit) [.v (.int .u8 a0)] (.v (.bool r)) := ⟨25, [], .inr ⟨rfl, rfl⟩, by simp [DV.agg], h⟩
abbrev Fn_lex_lexer_name_1 : DV := .v (.func (.func 47) #[] #[])
theorem call_lex_lexer_name_1 {a0 : Int} {r : Bool} (h : Ev_lex_lexer_name_1 a0 r) : FVal prog (Fn_lex_lexer_name_1) [.v (.int .u8 a0)] (.v (.bool r)) := ⟨47, [], .inr ⟨rfl, rfl⟩, by simp [DV.agg], h⟩
end Go.Sim.YtnnfiohdkobkdaaDoor
