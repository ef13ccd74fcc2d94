/- What is proved: functions of the program compute what plain statements tell. -/
import Derived.Test.YtnnfiohdkobkdaaGreatDoorZPRWT

namespace Go.Sim.YtnnfiohdkobkdaaGreatDoor
open Go.RowKit Go.Proofs Go.Proofs.Tryz
set_option maxRecDepth 100000
def Ev_law13_ParseRights (a0 : GTree) (r : Bool) : Prop := AFn prog 3 [GTree.out a0] (.v (.bool r)) false
def Ev_parse_Right (a0 : GTree) (r : Int) : Prop := AFn prog 10 [GTree.out a0] (.v (.int .i64 r)) false
def Ev_ref13_Right (a0 : GTree) (r : Int) : Prop := AFn prog 11 [GTree.out a0] (.v (.int .i64 r)) false
def Ev_lex_Lex (a0 : ByteArray) (r : (List GToken) × Int × Int) : Prop := AFn prog 17 [.v (.string a0)] (.tup [.sl 40 5 (List.map GToken.enc r.1), .v (.int .i64 r.2.1), .v (.int .i64 r.2.2)]) false
def Ev_parse_deep (a0 : GTree) (a1 : Int) (r : Bool) : Prop := AFn prog 20 [GTree.out a0, .v (.int .i64 a1)] (.v (.bool r)) false
def Ev_parse_nodes (a0 : GTree) (a1 : Int) (r : Int) : Prop := AFn prog 21 [GTree.out a0, .v (.int .i64 a1)] (.v (.int .i64 r)) false
def Ev_parse_shaped (a0 : GTree) (r : Bool) : Prop := AFn prog 22 [GTree.out a0] (.v (.bool r)) false
def Ev_ref13_Deep (a0 : GTree) (a1 : Int) (r : Int) : Prop := AFn prog 23 [GTree.out a0, .v (.int .i64 a1)] (.v (.int .i64 r)) false
def Ev_ref13_Nodes (a0 : GTree) (a1 : Int) (r : Int) : Prop := AFn prog 24 [GTree.out a0, .v (.int .i64 a1)] (.v (.int .i64 r)) false
def Ev_ref13_every (a0 : GTree) (r : Bool) : Prop := AFn prog 25 [GTree.out a0] (.v (.bool r)) false
def Ev_lex_words (r : List (ByteArray × Unit)) : Prop := AFn prog 31 [] (.mp (List.map (fun e => (fun s : ByteArray => Value.string s) e.1) r) (List.map (fun e => (fun _ : Unit => DV.st [] []) e.2) r)) false
def Ev_lex_lexer_blanks (a0 : Glexlexer) (r : Glexlexer) : Prop := AFnB prog 32 62 3 (Glexlexer.enc a0) [] (.ret (.tup [])) (Glexlexer.enc r)
def Ev_lex_lexer_token (a0 : Glexlexer) (r : (GToken × Int) × Glexlexer) : Prop := AFnB prog 33 62 3 (Glexlexer.enc a0) [] (.ret (.tup [GToken.enc r.1.1, .v (.int .i64 r.1.2)])) (Glexlexer.enc r.2)
def Ev_slices_ContainsFunc_api_Tree (a0 : List GTree) (a1 : DV) (r : Bool) : Prop := AFn prog 36 [.sl 26 9 (List.map GTree.enc a0), a1] (.v (.bool r)) false
def Ev_parse_deep_1 (a0 : GTree) (c0 : Int) (r : Bool) : Prop := AFn prog 37 [GTree.out a0, .pd (.v (.int .i64 c0))] (.v (.bool r)) false
def Ev_parse_shape (a0 : GTree) (r : Bool) : Prop := AFn prog 38 [GTree.out a0] (.v (.bool r)) false
def Ev_parse_all (a0 : List GTree) (a1 : Int) (a2 : Int) (a3 : DV) (r : Bool) : Prop := AFn prog 39 [.sl 26 9 (List.map GTree.enc a0), .v (.int .i64 a1), .v (.int .i64 a2), a3] (.v (.bool r)) false
def Ev_ref13_one (a0 : GTree) (r : Bool) : Prop := AFn prog 40 [GTree.out a0] (.v (.bool r)) false
def Ev_ref12_Letter (a0 : Int) (r : Bool) : Prop := AFn prog 49 [.v (.int .u8 a0)] (.v (.bool r)) false
def Ev_ref12_Digit (a0 : Int) (r : Bool) : Prop := AFn prog 50 [.v (.int .u8 a0)] (.v (.bool r)) false
def Ev_ref12_Word (a0 : ByteArray) (r : Bool) : Prop := AFn prog 51 [.v (.string a0)] (.v (.bool r)) false
def Ev_strings_Fields (a0 : ByteArray) (r : List ByteArray) : Prop := AFn prog 68 [.v (.string a0)] (.sl 9 1 (List.map eStr r)) false
def Ev_lex_lexer_blanks_1 (a0 : Int) (r : Bool) : Prop := AFn prog 69 [.v (.int .u8 a0)] (.v (.bool r)) false
def Ev_lex_lexer_while (a0 : Glexlexer) (a1 : DV) (r : Glexlexer) : Prop := AFnB prog 70 62 3 (Glexlexer.enc a0) [a1] (.ret (.tup [])) (Glexlexer.enc r)
def Ev_lex_lexer_next (a0 : Glexlexer) (a1 : Int) (r : Int) : Prop := AFnB prog 71 62 3 (Glexlexer.enc a0) [.v (.int .i64 a1)] (.ret (.v (.int .u8 r))) (Glexlexer.enc a0)
def Ev_lex_lexer_blanks_2 (a0 : Int) (r : Bool) : Prop := AFn prog 72 [.v (.int .u8 a0)] (.v (.bool r)) false
def Ev_lex_letter (a0 : Int) (r : Bool) : Prop := AFn prog 73 [.v (.int .u8 a0)] (.v (.bool r)) false
def Ev_lex_lexer_name (a0 : Glexlexer) (r : (GToken × Int) × Glexlexer) : Prop := AFnB prog 74 62 3 (Glexlexer.enc a0) [] (.ret (.tup [GToken.enc r.1.1, .v (.int .i64 r.1.2)])) (Glexlexer.enc r.2)
def Ev_lex_digit (a0 : Int) (r : Bool) : Prop := AFn prog 75 [.v (.int .u8 a0)] (.v (.bool r)) false
def Ev_lex_lexer_number (a0 : Glexlexer) (r : (GToken × Int) × Glexlexer) : Prop := AFnB prog 76 62 3 (Glexlexer.enc a0) [] (.ret (.tup [GToken.enc r.1.1, .v (.int .i64 r.1.2)])) (Glexlexer.enc r.2)
def Ev_strings_IndexByte (a0 : ByteArray) (a1 : Int) (r : Int) : Prop := AFn prog 77 [.v (.string a0), .v (.int .u8 a1)] (.v (.int .i64 r)) false
def Ev_slices_IndexFunc_api_Tree (a0 : List GTree) (a1 : DV) (r : Int) : Prop := AFn prog 92 [.sl 26 9 (List.map GTree.enc a0), a1] (.v (.int .i64 r)) false
def Ev_parse_kind (a0 : List Int) (r : DV) : Prop := AFn prog 93 [.sl 3 1 (List.map (eInt .i64) a0)] (r) false
def Ev_parse_dimension (a0 : GTree) (r : Bool) : Prop := AFn prog 94 [GTree.out a0] (.v (.bool r)) false
def Ev_parse_upto (a0 : Int) (a1 : Int) (a2 : Int) (r : Bool) : Prop := AFn prog 95 [.v (.int .i64 a0), .v (.int .i64 a1), .v (.int .i64 a2)] (.v (.bool r)) false
def Ev_parse_item (a0 : GTree) (r : Bool) : Prop := AFn prog 96 [GTree.out a0] (.v (.bool r)) false
def Ev_parse_each (a0 : List GTree) (a1 : List DV) (r : Bool) : Prop := AFn prog 97 [.sl 26 9 (List.map GTree.enc a0), .sl 29 1 (List.map id a1)] (.v (.bool r)) false
def Ev_parse_expression (a0 : GTree) (r : Bool) : Prop := AFn prog 98 [GTree.out a0] (.v (.bool r)) false
def Ev_parse_named (a0 : ByteArray) (r : Bool) : Prop := AFn prog 99 [.v (.string a0)] (.v (.bool r)) false
def Ev_parse_rule (a0 : GTree) (r : Bool) : Prop := AFn prog 100 [GTree.out a0] (.v (.bool r)) false
def Ev_parse_low (a0 : GTree) (a1 : GTree) (r : Bool) : Prop := AFn prog 101 [GTree.out a0, GTree.out a1] (.v (.bool r)) false
def Ev_parse_same (a0 : GTree) (a1 : GTree) (r : Bool) : Prop := AFn prog 102 [GTree.out a0, GTree.out a1] (.v (.bool r)) false
def Ev_parse_names (a0 : Int) (r : Bool) : Prop := AFn prog 103 [.v (.int .i64 a0)] (.v (.bool r)) false
def Ev_parse_all_1 (a0 : GTree) (c0 : DV) (r : Bool) : Prop := AFn prog 104 [GTree.out a0, .pd (c0)] (.v (.bool r)) false
def Ev_ref13_spec (a0 : Int) (r : Gref13Spec × Bool) : Prop := AFn prog 105 [.v (.int .i64 a0)] (.tup [Gref13Spec.enc r.1, .v (.bool r.2)]) false
def Ev_ref13_name (a0 : ByteArray) (a1 : Bool) (r : Bool) : Prop := AFn prog 106 [.v (.string a0), .v (.bool a1)] (.v (.bool r)) false
def Ev_ref13_has (a0 : ByteArray) (a1 : Int) (r : Bool) : Prop := AFn prog 107 [.v (.string a0), .v (.int .u8 a1)] (.v (.bool r)) false
def Ev_ref13_kids (a0 : List GTree) (a1 : ByteArray) (r : Bool) : Prop := AFn prog 108 [.sl 26 9 (List.map GTree.enc a0), .v (.string a1)] (.v (.bool r)) false
def Ev_ref13_Decimal (a0 : GRat) (r : Bool) : Prop := AFn prog 109 [GRat.enc a0] (.v (.bool r)) false
def Ev_ref11_Right (a0 : GRat) (r : Bool) : Prop := AFn prog 110 [GRat.enc a0] (.v (.bool r)) false
def Ev_ref13_isIndex (a0 : GTree) (r : Bool) : Prop := AFn prog 111 [GTree.out a0] (.v (.bool r)) false
def Ev_strconv_Atoi (a0 : ByteArray) (r : Int × Bool) : Prop := AFn prog 118 [.v (.string a0)] (.tup [.v (.int .i64 r.1), eErr r.2]) false
def Ev_ref01_Of (a0 : Int) (r : List Int) : Prop := AFn prog 120 [.v (.int .u64 a0)] (.sl 140 1 (List.map (eInt .u32) r)) false
def Ev_ref11_one (r : List Int) : Prop := AFn prog 124 [] (.sl 140 1 (List.map (eInt .u32) r)) false
def Ev_lex_lexer_name_1 (a0 : Int) (r : Bool) : Prop := AFn prog 135 [.v (.int .u8 a0)] (.v (.bool r)) false
def Ev_rat_Read (a0 : ByteArray) (r : GRat × Int) : Prop := AFn prog 136 [.v (.string a0)] (.tup [GRat.enc r.1, .v (.int .i64 r.2)]) false
def Ev_parse_kind_1 (a0 : GTree) (c0 : List Int) (r : Bool) : Prop := AFn prog 148 [GTree.out a0, .pd (.sl 3 1 (List.map (eInt .i64) c0))] (.v (.bool r)) false
def Ev_slices_Contains_int (a0 : List Int) (a1 : Int) (r : Bool) : Prop := AFn prog 149 [.sl 3 1 (List.map (eInt .i64) a0), .v (.int .i64 a1)] (.v (.bool r)) false
def Ev_parse_decimal (a0 : GRat) (r : Bool) : Prop := AFn prog 150 [GRat.enc a0] (.v (.bool r)) false
def Ev_parse_index (a0 : GTree) (r : Bool) : Prop := AFn prog 151 [GTree.out a0] (.v (.bool r)) false
def Ev_rat_Right (a0 : GRat) (r : Bool) : Prop := AFn prog 152 [GRat.enc a0] (.v (.bool r)) false
def Ev_ref12_Name (a0 : ByteArray) (r : Bool) : Prop := AFn prog 153 [.v (.string a0)] (.v (.bool r)) false
def Ev_ref13_fits (a0 : GTree) (a1 : Int) (r : Bool) : Prop := AFn prog 154 [GTree.out a0, .v (.int .u8 a1)] (.v (.bool r)) false
def Ev_ref01_Cmp (a0 : List Int) (a1 : List Int) (r : Int) : Prop := AFn prog 155 [.sl 140 1 (List.map (eInt .u32) a0), .sl 140 1 (List.map (eInt .u32) a1)] (.v (.int .i64 r)) false
def Ev_ref11_common (a0 : List Int) (a1 : List Int) (r : List Int) : Prop := AFn prog 156 [.sl 140 1 (List.map (eInt .u32) a0), .sl 140 1 (List.map (eInt .u32) a1)] (.sl 140 1 (List.map (eInt .u32) r)) false
def Ev_ref11_size (a0 : Int) (r : List Int) : Prop := AFn prog 157 [.v (.int .i64 a0)] (.sl 140 1 (List.map (eInt .u32) r)) false
def Ev_ref01_trim (a0 : List Int) (r : List Int) : Prop := AFn prog 174 [.sl 140 1 (List.map (eInt .u32) a0)] (.sl 140 1 (List.map (eInt .u32) r)) false
def Ev_rat_parts (a0 : ByteArray) (r : ByteArray × Int × Int × Bool) : Prop := AFn prog 186 [.v (.string a0)] (.tup [.v (.string r.1), .v (.int .i64 r.2.1), .v (.int .i64 r.2.2.1), .v (.bool r.2.2.2)]) false
def Ev_strings_TrimLeft (a0 : ByteArray) (a1 : ByteArray) (r : ByteArray) : Prop := AFn prog 187 [.v (.string a0), .v (.string a1)] (.v (.string r)) false
def Ev_rat_scaled (a0 : ByteArray) (a1 : Int) (r : GRat × Int) : Prop := AFn prog 188 [.v (.string a0), .v (.int .i64 a1)] (.tup [GRat.enc r.1, .v (.int .i64 r.2)]) false
-- NOT (*strings.Builder).Grow: type *strings.Builder
-- NOT (*strings.Builder).WriteString: type *strings.Builder
-- NOT (*strings.Builder).String: type *strings.Builder
def Ev_slices_Index_int (a0 : List Int) (a1 : Int) (r : Int) : Prop := AFn prog 197 [.sl 3 1 (List.map (eInt .i64) a0), .v (.int .i64 a1)] (.v (.int .i64 r)) false
def Ev_parse_index_1 (a0 : GTree) (r : Bool) : Prop := AFn prog 198 [GTree.out a0] (.v (.bool r)) false
def Ev_parse_index_2 (a0 : GTree) (r : Bool) : Prop := AFn prog 199 [GTree.out a0] (.v (.bool r)) false
def Ev_rat_gcd (a0 : Int) (a1 : Int) (r : Int) : Prop := AFn prog 200 [.v (.int .u64 a0), .v (.int .u64 a1)] (.v (.int .u64 r)) false
def Ev_rat_size (a0 : Int) (r : Int) : Prop := AFn prog 201 [.v (.int .i64 a0)] (.v (.int .u64 r)) false
def Ev_ref13_letter (a0 : GTree) (r : Int) : Prop := AFn prog 202 [GTree.out a0] (.v (.int .u8 r)) false
def Ev_ref11_rest (a0 : List Int) (a1 : List Int) (r : List Int) : Prop := AFn prog 203 [.sl 140 1 (List.map (eInt .u32) a0), .sl 140 1 (List.map (eInt .u32) a1)] (.sl 140 1 (List.map (eInt .u32) r)) false
def Ev_rat_made (a0 : Bool) (a1 : Int) (a2 : Int) (r : GRat × Int) : Prop := AFn prog 205 [.v (.bool a0), .v (.int .u64 a1), .v (.int .u64 a2)] (.tup [GRat.enc r.1, .v (.int .i64 r.2)]) false
-- NOT strconv.syntaxError: type *strconv.NumError
-- NOT strconv.rangeError: type *strconv.NumError
-- NOT strconv.baseError: type *strconv.NumError
-- NOT strconv.bitSizeError: type *strconv.NumError
def Ev_ref01_Bits (a0 : List Int) (r : Int) : Prop := AFn prog 215 [.sl 140 1 (List.map (eInt .u32) a0)] (.v (.int .i64 r)) false
def Ev_ref01_Left (a0 : List Int) (a1 : Int) (r : List Int) : Prop := AFn prog 216 [.sl 140 1 (List.map (eInt .u32) a0), .v (.int .i64 a1)] (.sl 140 1 (List.map (eInt .u32) r)) false
def Ev_ref01_Less (a0 : List Int) (a1 : List Int) (r : List Int) : Prop := AFn prog 217 [.sl 140 1 (List.map (eInt .u32) a0), .sl 140 1 (List.map (eInt .u32) a1)] (.sl 140 1 (List.map (eInt .u32) r)) false
def Ev_rat_digits (a0 : ByteArray) (r : ByteArray × ByteArray) : Prop := AFn prog 222 [.v (.string a0)] (.tup [.v (.string r.1), .v (.string r.2)]) false
def Ev_strings_CutPrefix (a0 : ByteArray) (a1 : ByteArray) (r : ByteArray × Bool) : Prop := AFn prog 223 [.v (.string a0), .v (.string a1)] (.tup [.v (.string r.1), .v (.bool r.2)]) false
-- NOT strings.trimLeftASCII: type *strings.asciiSet
def Ev_rat_short (a0 : List Int) (a1 : Int) (r : List Int) : Prop := AFn prog 228 [.sl 5 1 (List.map (eInt .u8) a0), .v (.int .u8 a1)] (.sl 5 1 (List.map (eInt .u8) r)) false
def Ev_strconv_ParseUint (a0 : ByteArray) (a1 : Int) (a2 : Int) (r : Int × Bool) : Prop := AFn prog 229 [.v (.string a0), .v (.int .i64 a1), .v (.int .i64 a2)] (.tup [.v (.int .u64 r.1), eErr r.2]) false
def Ev_math_bits_Mul64 (a0 : Int) (a1 : Int) (r : Int × Int) : Prop := AFn prog 230 [.v (.int .u64 a0), .v (.int .u64 a1)] (.tup [.v (.int .u64 r.1), .v (.int .u64 r.2)]) false
def Ev_math_bits_LeadingZeros64 (a0 : Int) (r : Int) : Prop := AFn prog 231 [.v (.int .u64 a0)] (.v (.int .i64 r)) false
-- NOT (*strings.Builder).copyCheck: type *strings.Builder
-- NOT (*strings.Builder).grow: type *strings.Builder
-- NOT (*strings.Builder).Len: type *strings.Builder
-- NOT strings.trimRightASCII: type *strings.asciiSet
def Ev_internal_stringslite_CutPrefix (a0 : ByteArray) (a1 : ByteArray) (r : ByteArray × Bool) : Prop := AFn prog 252 [.v (.string a0), .v (.string a1)] (.tup [.v (.string r.1), .v (.bool r.2)]) false
-- NOT (*strings.asciiSet).contains: type *strings.asciiSet
def Ev_math_bits_Len64 (a0 : Int) (r : Int) : Prop := AFn prog 256 [.v (.int .u64 a0)] (.v (.int .i64 r)) false
-- NOT internal/abi.NoEscape: type unsafe.Pointer
def Ev_internal_stringslite_HasPrefix (a0 : ByteArray) (a1 : ByteArray) (r : Bool) : Prop := AFn prog 264 [.v (.string a0), .v (.string a1)] (.v (.bool r)) false
abbrev Fn_parse_shaped : DV := .v (.func (.func 22) #[] #[])
theorem call_parse_shaped {a0 : GTree} {r : Bool} (h : Ev_parse_shaped a0 r) : FVal prog (Fn_parse_shaped) [GTree.out a0] (.v (.bool r)) := ⟨22, [], .inr ⟨rfl, rfl⟩, by simp [DV.agg], h⟩
abbrev Fn_parse_deep_1 (c0 : Int) : DV := .fn 37 [.pd (.v (.int .i64 c0))]
theorem call_parse_deep_1 {a0 : GTree} {c0 : Int} {r : Bool} (h : Ev_parse_deep_1 a0 c0 r) : FVal prog (Fn_parse_deep_1 c0) [GTree.out a0] (.v (.bool r)) := ⟨37, [.pd (.v (.int .i64 c0))], .inl rfl, by simp [DV.agg], h⟩
abbrev Fn_lex_lexer_blanks_1 : DV := .v (.func (.func 69) #[] #[])
theorem call_lex_lexer_blanks_1 {a0 : Int} {r : Bool} (h : Ev_lex_lexer_blanks_1 a0 r) : FVal prog (Fn_lex_lexer_blanks_1) [.v (.int .u8 a0)] (.v (.bool r)) := ⟨69, [], .inr ⟨rfl, rfl⟩, by simp [DV.agg], h⟩
abbrev Fn_lex_lexer_blanks_2 : DV := .v (.func (.func 72) #[] #[])
theorem call_lex_lexer_blanks_2 {a0 : Int} {r : Bool} (h : Ev_lex_lexer_blanks_2 a0 r) : FVal prog (Fn_lex_lexer_blanks_2) [.v (.int .u8 a0)] (.v (.bool r)) := ⟨72, [], .inr ⟨rfl, rfl⟩, by simp [DV.agg], h⟩
abbrev Fn_lex_digit : DV := .v (.func (.func 75) #[] #[])
theorem call_lex_digit {a0 : Int} {r : Bool} (h : Ev_lex_digit a0 r) : FVal prog (Fn_lex_digit) [.v (.int .u8 a0)] (.v (.bool r)) := ⟨75, [], .inr ⟨rfl, rfl⟩, by simp [DV.agg], h⟩
abbrev Fn_parse_dimension : DV := .v (.func (.func 94) #[] #[])
theorem call_parse_dimension {a0 : GTree} {r : Bool} (h : Ev_parse_dimension a0 r) : FVal prog (Fn_parse_dimension) [GTree.out a0] (.v (.bool r)) := ⟨94, [], .inr ⟨rfl, rfl⟩, by simp [DV.agg], h⟩
abbrev Fn_parse_item : DV := .v (.func (.func 96) #[] #[])
theorem call_parse_item {a0 : GTree} {r : Bool} (h : Ev_parse_item a0 r) : FVal prog (Fn_parse_item) [GTree.out a0] (.v (.bool r)) := ⟨96, [], .inr ⟨rfl, rfl⟩, by simp [DV.agg], h⟩
abbrev Fn_parse_expression : DV := .v (.func (.func 98) #[] #[])
theorem call_parse_expression {a0 : GTree} {r : Bool} (h : Ev_parse_expression a0 r) : FVal prog (Fn_parse_expression) [GTree.out a0] (.v (.bool r)) := ⟨98, [], .inr ⟨rfl, rfl⟩, by simp [DV.agg], h⟩
abbrev Fn_parse_rule : DV := .v (.func (.func 100) #[] #[])
theorem call_parse_rule {a0 : GTree} {r : Bool} (h : Ev_parse_rule a0 r) : FVal prog (Fn_parse_rule) [GTree.out a0] (.v (.bool r)) := ⟨100, [], .inr ⟨rfl, rfl⟩, by simp [DV.agg], h⟩
abbrev Fn_parse_all_1 (c0 : DV) : DV := .fn 104 [.pd (c0)]
theorem call_parse_all_1 {a0 : GTree} {c0 : DV} {r : Bool} (h : Ev_parse_all_1 a0 c0 r) : FVal prog (Fn_parse_all_1 c0) [GTree.out a0] (.v (.bool r)) := ⟨104, [.pd (c0)], .inl rfl, by simp [DV.agg], h⟩
abbrev Fn_lex_lexer_name_1 : DV := .v (.func (.func 135) #[] #[])
theorem call_lex_lexer_name_1 {a0 : Int} {r : Bool} (h : Ev_lex_lexer_name_1 a0 r) : FVal prog (Fn_lex_lexer_name_1) [.v (.int .u8 a0)] (.v (.bool r)) := ⟨135, [], .inr ⟨rfl, rfl⟩, by simp [DV.agg], h⟩
abbrev Fn_parse_kind_1 (c0 : List Int) : DV := .fn 148 [.pd (.sl 3 1 (List.map (eInt .i64) c0))]
theorem call_parse_kind_1 {a0 : GTree} {c0 : List Int} {r : Bool} (h : Ev_parse_kind_1 a0 c0 r) : FVal prog (Fn_parse_kind_1 c0) [GTree.out a0] (.v (.bool r)) := ⟨148, [.pd (.sl 3 1 (List.map (eInt .i64) c0))], .inl rfl, by simp [DV.agg], h⟩
abbrev Fn_parse_index : DV := .v (.func (.func 151) #[] #[])
theorem call_parse_index {a0 : GTree} {r : Bool} (h : Ev_parse_index a0 r) : FVal prog (Fn_parse_index) [GTree.out a0] (.v (.bool r)) := ⟨151, [], .inr ⟨rfl, rfl⟩, by simp [DV.agg], h⟩
abbrev Fn_parse_index_1 : DV := .v (.func (.func 198) #[] #[])
theorem call_parse_index_1 {a0 : GTree} {r : Bool} (h : Ev_parse_index_1 a0 r) : FVal prog (Fn_parse_index_1) [GTree.out a0] (.v (.bool r)) := ⟨198, [], .inr ⟨rfl, rfl⟩, by simp [DV.agg], h⟩
abbrev Fn_parse_index_2 : DV := .v (.func (.func 199) #[] #[])
theorem call_parse_index_2 {a0 : GTree} {r : Bool} (h : Ev_parse_index_2 a0 r) : FVal prog (Fn_parse_index_2) [GTree.out a0] (.v (.bool r)) := ⟨199, [], .inr ⟨rfl, rfl⟩, by simp [DV.agg], h⟩
end Go.Sim.YtnnfiohdkobkdaaGreatDoor
