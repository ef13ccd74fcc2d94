/- What is proved: functions of the program compute what plain statements tell. -/
import Derived.Test.YtnnfiohdkobkdaaGreatDoorZZPLWT
import Derived.Test.YtnnfiohdkobkdaaGreatDoorZZPLSimQ

namespace Go.Sim.YtnnfiohdkobkdaaGreatDoor
open Go.RowKit Go.Proofs Go.Proofs.Tryz
set_option maxRecDepth 100000
section
variable {ops : Array Oper} {cf : Oper → Bool} {K : AExit → St → Prop} {o : Oper} {rest : List Oper} {L : List (Nat × AV)} {O : List (Nat × Obj)} {d : Nat} {α ε : Type} {args : List Operand} {id : Nat} {Ty : TypeId} {sz : Nat} {x : DV} {xs : List DV} {y z : α → DV} {s : ε → Value} {qe : ε → Prop} {q : α → Prop}
theorem pH {m : FuncId} {fs cs : List Nat} (h : opD tab ops L O o = some (d, .fb m fs cs)) (k : AOps prog ops cf K rest (mkSt ((d, .fb m fs cs) :: L) O)) : AOps prog ops cf K (o :: rest) (mkSt L O) := AOps.pD tabOk h k
theorem kW (W : Way) (h : CallX (fun r => AFnW prog W Ty sz x xs (oX y s r) (bX z x r)) qe q) (hN : ∀ e, qe e → panOf K (s e)) (hK : ∀ σ, NoRel σ → K .normal σ) (ho : W.Is (mkSt L O) o id args) (hcf : cf o = true) (hd : dstG ops L o = some d)
    (hob : lookO O id = some (.box Ty sz (.dat x))) (ha : argsOk (mkSt L O) false args xs) (hr : deadRest tab ops ((id, .box Ty sz bot) :: O) rest ((d, bot) :: L) = true)
    (k : ∀ a, q a → AOps prog ops cf K rest (mkSt ((d, .dat (y a)) :: L) ((id, .box Ty sz (.dat (z a))) :: O))) : AOps prog ops cf K (o :: rest) (mkSt L O) := by
  obtain ⟨r, h1, h2⟩ := h
  obtain ⟨hd1, hg⟩ := dstG_ok hd
  cases r with
  | ok a =>
    refine AOps.eff hg (e := ⟨.dat (y a), [(id, .box Ty sz (.dat (z a)))]⟩) ?_ (by rw [hd1]; exact k a h2)
    rw [hcf]; exact Step.callW ho h1 hob ha
  | error e =>
    refine AOps.eff hg (e := ⟨bot, [(id, .box Ty sz bot)]⟩) ?_ (by rw [hd1]; exact AOps.deadRest tabOk hK _ rest _ ⟨id, Ty, sz, by simp [lookO]⟩ hr)
    rw [hcf]; exact Step.callWX ho h1 hob ha (hN e h2)
theorem kXf {f : FuncId} {x0 : Operand} {ats : Array TypeId} (h : CallX (fun r => AFnB prog f Ty sz x xs (oX y s r) (bX z x r)) qe q) (hN : ∀ e, qe e → panOf K (s e)) (hK : ∀ σ, NoRel σ → K .normal σ) (ho : o.op = .call { callee := .value (.func f), args := (x0 :: args).toArray, argTypes := ats })
    (hcf : cf o = true) (hd : dstG ops L o = some d) (h0 : ev (mkSt L O) x0 = .pt id [] 0) (hob : lookO O id = some (.box Ty sz (.dat x))) (ha : argsOk (mkSt L O) false args xs) (hr : deadRest tab ops ((id, .box Ty sz bot) :: O) rest ((d, bot) :: L) = true)
    (k : ∀ a, q a → AOps prog ops cf K rest (mkSt ((d, .dat (y a)) :: L) ((id, .box Ty sz (.dat (z a))) :: O))) : AOps prog ops cf K (o :: rest) (mkSt L O) := kW (.fn f) h hN hK ⟨x0, ats, ho, h0⟩ hcf hd hob ha hr k
theorem kXm {f m : FuncId} {x0 x1 : Operand} {ats : Array TypeId} (h : CallX (fun r => AFnM prog f m Ty sz x xs (oX y s r) (bX z x r)) qe q) (hN : ∀ e, qe e → panOf K (s e)) (hK : ∀ σ, NoRel σ → K .normal σ) (ho : o.op = .call { callee := .value (.func f), args := (x0 :: x1 :: args).toArray, argTypes := ats })
    (hcf : cf o = true) (hd : dstG ops L o = some d) (h0 : ev (mkSt L O) x0 = .pt id [] 0) (h1 : ev (mkSt L O) x1 = .fb m [id] []) (hob : lookO O id = some (.box Ty sz (.dat x))) (ha : argsOk (mkSt L O) false args xs) (hr : deadRest tab ops ((id, .box Ty sz bot) :: O) rest ((d, bot) :: L) = true)
    (k : ∀ a, q a → AOps prog ops cf K rest (mkSt ((d, .dat (y a)) :: L) ((id, .box Ty sz (.dat (z a))) :: O))) : AOps prog ops cf K (o :: rest) (mkSt L O) := kW (.fm f m) h hN hK ⟨x0, x1, ats, ho, h0, h1⟩ hcf hd hob ha hr k
theorem kXv {m : FuncId} {t : Nat} {ats : Array TypeId} (h : CallX (fun r => AFnB prog m Ty sz x xs (oX y s r) (bX z x r)) qe q) (hN : ∀ e, qe e → panOf K (s e)) (hK : ∀ σ, NoRel σ → K .normal σ) (ho : o.op = .call { callee := .value (.tmp t), args := args.toArray, argTypes := ats })
    (hcf : cf o = true) (hd : dstG ops L o = some d) (h0 : ev (mkSt L O) (.tmp t) = .fb m [id] []) (hob : lookO O id = some (.box Ty sz (.dat x))) (ha : argsOk (mkSt L O) false args xs) (hr : deadRest tab ops ((id, .box Ty sz bot) :: O) rest ((d, bot) :: L) = true)
    (k : ∀ a, q a → AOps prog ops cf K rest (mkSt ((d, .dat (y a)) :: L) ((id, .box Ty sz (.dat (z a))) :: O))) : AOps prog ops cf K (o :: rest) (mkSt L O) := kW (.val m) h hN hK ⟨t, ats, ho, h0⟩ hcf hd hob ha hr k
end
/-- What is panicked. -/
abbrev stV (e : Gparsestop) : Value := .iface 48 (.agg #[.int .i64 e.bad_, .int .i64 e.at_])
def Ev_law13_ParsePlaces (a0 : ByteArray) (r : Bool) : Prop := AFn prog 6 [.v (.string a0)] (.v (.bool r)) false
def Ev_parse_Parse (a0 : ByteArray) (r : GTree × Int × Int) : Prop := AFn prog 12 [.v (.string a0)] (.tup [GTree.out r.1, .v (.int .i64 r.2.1), .v (.int .i64 r.2.2)]) false
def Ev_law13_alive (r : Bool) : Prop := AFn prog 16 [] (.v (.bool r)) false
def Ev_lex_Lex (a0 : ByteArray) (r : (List GToken) × Int × Int) : Prop := AFn prog 17 [.v (.string a0)] (.tup [.sl 40 5 (List.map GToken.enc r.1), .v (.int .i64 r.2.1), .v (.int .i64 r.2.2)]) false
def Ev_parse_deep (a0 : GTree) (a1 : Int) (r : Bool) : Prop := AFn prog 20 [GTree.out a0, .v (.int .i64 a1)] (.v (.bool r)) false
def Ev_parse_nodes (a0 : GTree) (a1 : Int) (r : Int) : Prop := AFn prog 21 [GTree.out a0, .v (.int .i64 a1)] (.v (.int .i64 r)) false
def Ev_parse_parser_file (a0 : Gparseparser) (r' : Except Gparsestop (GTree × Gparseparser)) : Prop := AFnB prog 27 51 3 (Gparseparser.enc a0) [] (oX (fun r : GTree × Gparseparser => GTree.out r.1) stV r') (bX (fun r : GTree × Gparseparser => Gparseparser.enc r.2) (Gparseparser.enc a0) r')
def Ev_ulp_Next (a0 : Nat) (r : Nat) : Prop := AFn prog 30 [.v (.float .f64 a0)] (.v (.float .f64 r)) false
def Ev_lex_words (r : List (ByteArray × Unit)) : Prop := AFn prog 31 [] (.mp (List.map (fun e => (fun s : ByteArray => Value.string s) e.1) r) (List.map (fun e => (fun _ : Unit => DV.st [] []) e.2) r)) false
def Ev_lex_lexer_blanks (a0 : Glexlexer) (r : Glexlexer) : Prop := AFnB prog 32 62 3 (Glexlexer.enc a0) [] (.ret (.tup [])) (Glexlexer.enc r)
def Ev_lex_lexer_token (a0 : Glexlexer) (r : (GToken × Int) × Glexlexer) : Prop := AFnB prog 33 62 3 (Glexlexer.enc a0) [] (.ret (.tup [GToken.enc r.1.1, .v (.int .i64 r.1.2)])) (Glexlexer.enc r.2)
def Ev_slices_ContainsFunc_api_Tree (a0 : List GTree) (a1 : DV) (r : Bool) : Prop := AFn prog 36 [.sl 26 9 (List.map GTree.enc a0), a1] (.v (.bool r)) false
def Ev_parse_deep_1 (a0 : GTree) (c0 : Int) (r : Bool) : Prop := AFn prog 37 [GTree.out a0, .pd (.v (.int .i64 c0))] (.v (.bool r)) false
def Ev_parse_parser_now (a0 : Gparseparser) (r : GToken) : Prop := AFnB prog 41 51 3 (Gparseparser.enc a0) [] (.ret (GToken.enc r)) (Gparseparser.enc a0)
def Ev_parse_parser_take (a0 : Gparseparser) (a1 : ByteArray) (r : Bool × Gparseparser) : Prop := AFnB prog 42 51 3 (Gparseparser.enc a0) [.v (.string a1)] (.ret (.v (.bool r.1))) (Gparseparser.enc r.2)
def Ev_parse_parser_name (a0 : Gparseparser) (r' : Except Gparsestop (ByteArray × Gparseparser)) : Prop := AFnB prog 43 51 3 (Gparseparser.enc a0) [] (oX (fun r : ByteArray × Gparseparser => .v (.string r.1)) stV r') (bX (fun r : ByteArray × Gparseparser => Gparseparser.enc r.2) (Gparseparser.enc a0) r')
def Ev_parse_parser_dim (a0 : Gparseparser) (r' : Except Gparsestop (GTree × Gparseparser)) : Prop := AFnB prog 44 51 3 (Gparseparser.enc a0) [] (oX (fun r : GTree × Gparseparser => GTree.out r.1) stV r') (bX (fun r : GTree × Gparseparser => Gparseparser.enc r.2) (Gparseparser.enc a0) r')
def Ev_parse_parser_must (a0 : Gparseparser) (a1 : List ByteArray) (r' : Except Gparsestop (Gparseparser)) : Prop := AFnB prog 45 51 3 (Gparseparser.enc a0) [.sl 9 1 (List.map eStr a1)] (oX (fun r : Gparseparser => .tup []) stV r') (bX (fun r : Gparseparser => Gparseparser.enc r) (Gparseparser.enc a0) r')
def Ev_parse_parser_class (a0 : Gparseparser) (a1 : Int) (r' : Except Gparsestop (GTree × Gparseparser)) : Prop := AFnB prog 46 51 3 (Gparseparser.enc a0) [.v (.int .i64 a1)] (oX (fun r : GTree × Gparseparser => GTree.out r.1) stV r') (bX (fun r : GTree × Gparseparser => Gparseparser.enc r.2) (Gparseparser.enc a0) r')
def Ev_parse_parser_fail (a0 : Gparseparser) (r' : Except Gparsestop (Gparseparser)) : Prop := AFnB prog 47 51 3 (Gparseparser.enc a0) [] (oX (fun r : Gparseparser => .tup []) stV r') (bX (fun r : Gparseparser => Gparseparser.enc r) (Gparseparser.enc a0) r')
def Ev_math_IsNaN (a0 : Nat) (r : Bool) : Prop := AFn prog 63 [.v (.float .f64 a0)] (.v (.bool r)) false
def Ev_math_Inf (a0 : Int) (r : Nat) : Prop := AFn prog 64 [.v (.int .i64 a0)] (.v (.float .f64 r)) false
def Ev_math_Float64frombits (a0 : Int) (r : Nat) : Prop := ExtOk prog 65 [.int .u64 a0] (.v (.float .f64 r))
def Ev_math_Float64bits (a0 : Nat) (r : Int) : Prop := ExtOk prog 66 [.float .f64 a0] (.v (.int .u64 r))
def Ev_ulp_clean (a0 : Nat) (r : Nat) : Prop := AFn prog 67 [.v (.float .f64 a0)] (.v (.float .f64 r)) false
def Ev_strings_Fields (a0 : ByteArray) (r : List ByteArray) : Prop := AFn prog 68 [.v (.string a0)] (.sl 9 1 (List.map eStr r)) false
def Ev_lex_lexer_blanks_1 (a0 : Int) (r : Bool) : Prop := AFn prog 69 [.v (.int .u8 a0)] (.v (.bool r)) false
def Ev_lex_lexer_while (a0 : Glexlexer) (a1 : DV) (r : Glexlexer) : Prop := AFnB prog 70 62 3 (Glexlexer.enc a0) [a1] (.ret (.tup [])) (Glexlexer.enc r)
def Ev_lex_lexer_next (a0 : Glexlexer) (a1 : Int) (r : Int) : Prop := AFnB prog 71 62 3 (Glexlexer.enc a0) [.v (.int .i64 a1)] (.ret (.v (.int .u8 r))) (Glexlexer.enc a0)
def Ev_lex_lexer_blanks_2 (a0 : Int) (r : Bool) : Prop := AFn prog 72 [.v (.int .u8 a0)] (.v (.bool r)) false
def Ev_lex_letter (a0 : Int) (r : Bool) : Prop := AFn prog 73 [.v (.int .u8 a0)] (.v (.bool r)) false
def Ev_lex_lexer_name (a0 : Glexlexer) (r : (GToken × Int) × Glexlexer) : Prop := AFnB prog 74 62 3 (Glexlexer.enc a0) [] (.ret (.tup [GToken.enc r.1.1, .v (.int .i64 r.1.2)])) (Glexlexer.enc r.2)
def Ev_lex_digit (a0 : Int) (r : Bool) : Prop := AFn prog 75 [.v (.int .u8 a0)] (.v (.bool r)) false
def Ev_lex_lexer_number (a0 : Glexlexer) (r : (GToken × Int) × Glexlexer) : Prop := AFnB prog 76 62 3 (Glexlexer.enc a0) [] (.ret (.tup [GToken.enc r.1.1, .v (.int .i64 r.1.2)])) (Glexlexer.enc r.2)
def Ev_strings_IndexByte (a0 : ByteArray) (a1 : Int) (r : Int) : Prop := AFn prog 77 [.v (.string a0), .v (.int .u8 a1)] (.v (.int .i64 r)) false
def Ev_slices_IndexFunc_api_Tree (a0 : List GTree) (a1 : DV) (r : Int) : Prop := AFn prog 92 [.sl 26 9 (List.map GTree.enc a0), a1] (.v (.int .i64 r)) false
def Ev_parse_named (a0 : ByteArray) (r : Bool) : Prop := AFn prog 99 [.v (.string a0)] (.v (.bool r)) false
def Ev_parse_parser_is (a0 : Gparseparser) (a1 : ByteArray) (r : Bool) : Prop := AFnB prog 112 51 3 (Gparseparser.enc a0) [.v (.string a1)] (.ret (.v (.bool r))) (Gparseparser.enc a0)
def Ev_parse_parser_row (a0 : Gparseparser) (a1 : Nat) (a2 : ByteArray) (a3 : Int) (a4 : ByteArray) (a5 : Int) (r' : Except Gparsestop (GTree × Gparseparser)) : Prop := AFnM prog 113 a1 51 3 (Gparseparser.enc a0) [.v (.string a2), .v (.int .i64 a3), .v (.string a4), .v (.int .i64 a5)] (oX (fun r : GTree × Gparseparser => GTree.out r.1) stV r') (bX (fun r : GTree × Gparseparser => Gparseparser.enc r.2) (Gparseparser.enc a0) r')
def Ev_parse_parser_up (a0 : Gparseparser) (r' : Except Gparsestop (GTree × Gparseparser)) : Prop := AFnB prog 114 51 3 (Gparseparser.enc a0) [] (oX (fun r : GTree × Gparseparser => GTree.out r.1) stV r') (bX (fun r : GTree × Gparseparser => Gparseparser.enc r.2) (Gparseparser.enc a0) r')
def Ev_parse_parser_item (a0 : Gparseparser) (r' : Except Gparsestop (GTree × Gparseparser)) : Prop := AFnB prog 115 51 3 (Gparseparser.enc a0) [] (oX (fun r : GTree × Gparseparser => GTree.out r.1) stV r') (bX (fun r : GTree × Gparseparser => Gparseparser.enc r.2) (Gparseparser.enc a0) r')
def Ev_strconv_Atoi (a0 : ByteArray) (r : Int × Bool) : Prop := AFn prog 118 [.v (.string a0)] (.tup [.v (.int .i64 r.1), eErr r.2]) false
def Ev_lex_lexer_name_1 (a0 : Int) (r : Bool) : Prop := AFn prog 135 [.v (.int .u8 a0)] (.v (.bool r)) false
def Ev_rat_Read (a0 : ByteArray) (r : GRat × Int) : Prop := AFn prog 136 [.v (.string a0)] (.tup [GRat.enc r.1, .v (.int .i64 r.2)]) false
def Ev_parse_functions (r : List ByteArray) : Prop := AFn prog 145 [] (.sl 9 1 (List.map eStr r)) false
def Ev_parse_decimal (a0 : GRat) (r : Bool) : Prop := AFn prog 150 [GRat.enc a0] (.v (.bool r)) false
def Ev_rat_Right (a0 : GRat) (r : Bool) : Prop := AFn prog 152 [GRat.enc a0] (.v (.bool r)) false
def Ev_parse_parser_enter (a0 : Gparseparser) (a1 : ByteArray) (r' : Except Gparsestop (Gparseparser)) : Prop := AFnB prog 158 51 3 (Gparseparser.enc a0) [.v (.string a1)] (oX (fun r : Gparseparser => .tup []) stV r') (bX (fun r : Gparseparser => Gparseparser.enc r) (Gparseparser.enc a0) r')
def Ev_parse_parser_leave (a0 : Gparseparser) (a1 : List ByteArray) (r' : Except Gparsestop (Gparseparser)) : Prop := AFnB prog 159 51 3 (Gparseparser.enc a0) [.sl 9 1 (List.map eStr a1)] (oX (fun r : Gparseparser => .tup []) stV r') (bX (fun r : Gparseparser => Gparseparser.enc r) (Gparseparser.enc a0) r')
def Ev_parse_parser_number (a0 : Gparseparser) (a1 : DV) (r' : Except Gparsestop (GRat × Gparseparser)) : Prop := AFnB prog 160 51 3 (Gparseparser.enc a0) [a1] (oX (fun r : GRat × Gparseparser => GRat.enc r.1) stV r') (bX (fun r : GRat × Gparseparser => Gparseparser.enc r.2) (Gparseparser.enc a0) r')
def Ev_parse_parser_up_1 (a0 : GRat) (r : Bool) : Prop := AFn prog 161 [GRat.enc a0] (.v (.bool r)) false
def Ev_parse_parser_power (a0 : Gparseparser) (r' : Except Gparsestop (Int × Gparseparser)) : Prop := AFnB prog 162 51 3 (Gparseparser.enc a0) [] (oX (fun r : Int × Gparseparser => .v (.int .i64 r.1)) stV r') (bX (fun r : Int × Gparseparser => Gparseparser.enc r.2) (Gparseparser.enc a0) r')
def Ev_parse_parser_up_2 (a0 : GRat) (r : Bool) : Prop := AFn prog 163 [GRat.enc a0] (.v (.bool r)) false
def Ev_rat_Make (a0 : Int) (a1 : Int) (r : GRat × Int) : Prop := AFn prog 164 [.v (.int .i64 a0), .v (.int .i64 a1)] (.tup [GRat.enc r.1, .v (.int .i64 r.2)]) false
def Ev_parse_parser_kind (a0 : Gparseparser) (r' : Except Gparsestop (GTree × Gparseparser)) : Prop := AFnB prog 165 51 3 (Gparseparser.enc a0) [] (oX (fun r : GTree × Gparseparser => GTree.out r.1) stV r') (bX (fun r : GTree × Gparseparser => Gparseparser.enc r.2) (Gparseparser.enc a0) r')
def Ev_parse_parser_expr (a0 : Gparseparser) (r' : Except Gparsestop (GTree × Gparseparser)) : Prop := AFnB prog 166 51 3 (Gparseparser.enc a0) [] (oX (fun r : GTree × Gparseparser => GTree.out r.1) stV r') (bX (fun r : GTree × Gparseparser => Gparseparser.enc r.2) (Gparseparser.enc a0) r')
def Ev_parse_parser_array (a0 : Gparseparser) (r' : Except Gparsestop (Int × Gparseparser)) : Prop := AFnB prog 167 51 3 (Gparseparser.enc a0) [] (oX (fun r : Int × Gparseparser => .v (.int .i64 r.1)) stV r') (bX (fun r : Int × Gparseparser => Gparseparser.enc r.2) (Gparseparser.enc a0) r')
def Ev_parse_parser_part (a0 : Gparseparser) (r' : Except Gparsestop (GTree × Gparseparser)) : Prop := AFnB prog 168 51 3 (Gparseparser.enc a0) [] (oX (fun r : GTree × Gparseparser => GTree.out r.1) stV r') (bX (fun r : GTree × Gparseparser => Gparseparser.enc r.2) (Gparseparser.enc a0) r')
def Ev_parse_parser_start (a0 : Gparseparser) (r' : Except Gparsestop (GTree × Gparseparser)) : Prop := AFnB prog 169 51 3 (Gparseparser.enc a0) [] (oX (fun r : GTree × Gparseparser => GTree.out r.1) stV r') (bX (fun r : GTree × Gparseparser => Gparseparser.enc r.2) (Gparseparser.enc a0) r')
def Ev_parse_parser_rule (a0 : Gparseparser) (r' : Except Gparsestop (GTree × Gparseparser)) : Prop := AFnB prog 170 51 3 (Gparseparser.enc a0) [] (oX (fun r : GTree × Gparseparser => GTree.out r.1) stV r') (bX (fun r : GTree × Gparseparser => Gparseparser.enc r.2) (Gparseparser.enc a0) r')
def Ev_rat_parts (a0 : ByteArray) (r : ByteArray × Int × Int × Bool) : Prop := AFn prog 186 [.v (.string a0)] (.tup [.v (.string r.1), .v (.int .i64 r.2.1), .v (.int .i64 r.2.2.1), .v (.bool r.2.2.2)]) false
def Ev_strings_TrimLeft (a0 : ByteArray) (a1 : ByteArray) (r : ByteArray) : Prop := AFn prog 187 [.v (.string a0), .v (.string a1)] (.v (.string r)) false
def Ev_rat_scaled (a0 : ByteArray) (a1 : Int) (r : GRat × Int) : Prop := AFn prog 188 [.v (.string a0), .v (.int .i64 a1)] (.tup [GRat.enc r.1, .v (.int .i64 r.2)]) false
def Ev_rat_gcd (a0 : Int) (a1 : Int) (r : Int) : Prop := AFn prog 200 [.v (.int .u64 a0), .v (.int .u64 a1)] (.v (.int .u64 r)) false
def Ev_rat_size (a0 : Int) (r : Int) : Prop := AFn prog 201 [.v (.int .i64 a0)] (.v (.int .u64 r)) false
def Ev_parse_parser_power_1 (a0 : GRat) (r : Bool) : Prop := AFn prog 204 [GRat.enc a0] (.v (.bool r)) false
def Ev_rat_made (a0 : Bool) (a1 : Int) (a2 : Int) (r : GRat × Int) : Prop := AFn prog 205 [.v (.bool a0), .v (.int .u64 a1), .v (.int .u64 a2)] (.tup [GRat.enc r.1, .v (.int .i64 r.2)]) false
def Ev_parse_parser_mul (a0 : Gparseparser) (r' : Except Gparsestop (GTree × Gparseparser)) : Prop := AFnB prog 206 51 3 (Gparseparser.enc a0) [] (oX (fun r : GTree × Gparseparser => GTree.out r.1) stV r') (bX (fun r : GTree × Gparseparser => Gparseparser.enc r.2) (Gparseparser.enc a0) r')
def Ev_parse_parser_int (a0 : Gparseparser) (r' : Except Gparsestop (Int × Gparseparser)) : Prop := AFnB prog 207 51 3 (Gparseparser.enc a0) [] (oX (fun r : Int × Gparseparser => .v (.int .i64 r.1)) stV r') (bX (fun r : Int × Gparseparser => Gparseparser.enc r.2) (Gparseparser.enc a0) r')
def Ev_parse_parser_der (a0 : Gparseparser) (r' : Except Gparsestop (GTree × Gparseparser)) : Prop := AFnB prog 208 51 3 (Gparseparser.enc a0) [] (oX (fun r : GTree × Gparseparser => GTree.out r.1) stV r') (bX (fun r : GTree × Gparseparser => Gparseparser.enc r.2) (Gparseparser.enc a0) r')
def Ev_parse_parser_ref (a0 : Gparseparser) (r' : Except Gparsestop (GTree × Gparseparser)) : Prop := AFnB prog 209 51 3 (Gparseparser.enc a0) [] (oX (fun r : GTree × Gparseparser => GTree.out r.1) stV r') (bX (fun r : GTree × Gparseparser => Gparseparser.enc r.2) (Gparseparser.enc a0) r')
def Ev_rat_digits (a0 : ByteArray) (r : ByteArray × ByteArray) : Prop := AFn prog 222 [.v (.string a0)] (.tup [.v (.string r.1), .v (.string r.2)]) false
def Ev_strings_CutPrefix (a0 : ByteArray) (a1 : ByteArray) (r : ByteArray × Bool) : Prop := AFn prog 223 [.v (.string a0), .v (.string a1)] (.tup [.v (.string r.1), .v (.bool r.2)]) false
def Ev_rat_short (a0 : List Int) (a1 : Int) (r : List Int) : Prop := AFn prog 228 [.sl 5 1 (List.map (eInt .u8) a0), .v (.int .u8 a1)] (.sl 5 1 (List.map (eInt .u8) r)) false
def Ev_strconv_ParseUint (a0 : ByteArray) (a1 : Int) (a2 : Int) (r : Int × Bool) : Prop := AFn prog 229 [.v (.string a0), .v (.int .i64 a1), .v (.int .i64 a2)] (.tup [.v (.int .u64 r.1), eErr r.2]) false
def Ev_math_bits_Mul64 (a0 : Int) (a1 : Int) (r : Int × Int) : Prop := AFn prog 230 [.v (.int .u64 a0), .v (.int .u64 a1)] (.tup [.v (.int .u64 r.1), .v (.int .u64 r.2)]) false
def Ev_math_bits_LeadingZeros64 (a0 : Int) (r : Int) : Prop := AFn prog 231 [.v (.int .u64 a0)] (.v (.int .i64 r)) false
def Ev_parse_parser_neg (a0 : Gparseparser) (r' : Except Gparsestop (GTree × Gparseparser)) : Prop := AFnB prog 244 51 3 (Gparseparser.enc a0) [] (oX (fun r : GTree × Gparseparser => GTree.out r.1) stV r') (bX (fun r : GTree × Gparseparser => Gparseparser.enc r.2) (Gparseparser.enc a0) r')
def Ev_parse_parser_int_1 (a0 : GRat) (r : Bool) : Prop := AFn prog 245 [GRat.enc a0] (.v (.bool r)) false
def Ev_parse_parser_el (a0 : Gparseparser) (r' : Except Gparsestop (GTree × Gparseparser)) : Prop := AFnB prog 246 51 3 (Gparseparser.enc a0) [] (oX (fun r : GTree × Gparseparser => GTree.out r.1) stV r') (bX (fun r : GTree × Gparseparser => Gparseparser.enc r.2) (Gparseparser.enc a0) r')
def Ev_internal_stringslite_CutPrefix (a0 : ByteArray) (a1 : ByteArray) (r : ByteArray × Bool) : Prop := AFn prog 252 [.v (.string a0), .v (.string a1)] (.tup [.v (.string r.1), .v (.bool r.2)]) false
def Ev_math_bits_Len64 (a0 : Int) (r : Int) : Prop := AFn prog 256 [.v (.int .u64 a0)] (.v (.int .i64 r)) false
def Ev_internal_stringslite_HasPrefix (a0 : ByteArray) (a1 : ByteArray) (r : Bool) : Prop := AFn prog 264 [.v (.string a0), .v (.string a1)] (.v (.bool r)) false
def Ev_parse_parser_prime (a0 : Gparseparser) (r' : Except Gparsestop (GTree × Gparseparser)) : Prop := AFnB prog 266 51 3 (Gparseparser.enc a0) [] (oX (fun r : GTree × Gparseparser => GTree.out r.1) stV r') (bX (fun r : GTree × Gparseparser => Gparseparser.enc r.2) (Gparseparser.enc a0) r')
def Ev_parse_whole (a0 : Int) (r : GTree) : Prop := AFn prog 267 [.v (.int .i64 a0)] (GTree.out r) false
def Ev_slices_Index_string (a0 : List ByteArray) (a1 : ByteArray) (r : Int) : Prop := AFn prog 276 [.sl 9 1 (List.map eStr a0), .v (.string a1)] (.v (.int .i64 r)) false
abbrev Fn_parse_deep_1 (c0 : Int) : DV := .fn 37 [.pd (.v (.int .i64 c0))]
theorem call_parse_deep_1 {a0 : GTree} {c0 : Int} {r : Bool} (h : Ev_parse_deep_1 a0 c0 r) : FVal prog (Fn_parse_deep_1 c0) [GTree.out a0] (.v (.bool r)) := ⟨37, [.pd (.v (.int .i64 c0))], .inl rfl, by simp [DV.agg], h⟩
abbrev Fn_lex_lexer_blanks_1 : DV := .v (.func (.func 69) #[] #[])
theorem call_lex_lexer_blanks_1 {a0 : Int} {r : Bool} (h : Ev_lex_lexer_blanks_1 a0 r) : FVal prog (Fn_lex_lexer_blanks_1) [.v (.int .u8 a0)] (.v (.bool r)) := ⟨69, [], .inr ⟨rfl, rfl⟩, by simp [DV.agg], h⟩
abbrev Fn_lex_lexer_blanks_2 : DV := .v (.func (.func 72) #[] #[])
theorem call_lex_lexer_blanks_2 {a0 : Int} {r : Bool} (h : Ev_lex_lexer_blanks_2 a0 r) : FVal prog (Fn_lex_lexer_blanks_2) [.v (.int .u8 a0)] (.v (.bool r)) := ⟨72, [], .inr ⟨rfl, rfl⟩, by simp [DV.agg], h⟩
abbrev Fn_lex_digit : DV := .v (.func (.func 75) #[] #[])
theorem call_lex_digit {a0 : Int} {r : Bool} (h : Ev_lex_digit a0 r) : FVal prog (Fn_lex_digit) [.v (.int .u8 a0)] (.v (.bool r)) := ⟨75, [], .inr ⟨rfl, rfl⟩, by simp [DV.agg], h⟩
abbrev Fn_lex_lexer_name_1 : DV := .v (.func (.func 135) #[] #[])
theorem call_lex_lexer_name_1 {a0 : Int} {r : Bool} (h : Ev_lex_lexer_name_1 a0 r) : FVal prog (Fn_lex_lexer_name_1) [.v (.int .u8 a0)] (.v (.bool r)) := ⟨135, [], .inr ⟨rfl, rfl⟩, by simp [DV.agg], h⟩
abbrev Fn_parse_decimal : DV := .v (.func (.func 150) #[] #[])
theorem call_parse_decimal {a0 : GRat} {r : Bool} (h : Ev_parse_decimal a0 r) : FVal prog (Fn_parse_decimal) [GRat.enc a0] (.v (.bool r)) := ⟨150, [], .inr ⟨rfl, rfl⟩, by simp [DV.agg], h⟩
abbrev Fn_parse_parser_up_1 : DV := .v (.func (.func 161) #[] #[])
theorem call_parse_parser_up_1 {a0 : GRat} {r : Bool} (h : Ev_parse_parser_up_1 a0 r) : FVal prog (Fn_parse_parser_up_1) [GRat.enc a0] (.v (.bool r)) := ⟨161, [], .inr ⟨rfl, rfl⟩, by simp [DV.agg], h⟩
abbrev Fn_parse_parser_up_2 : DV := .v (.func (.func 163) #[] #[])
theorem call_parse_parser_up_2 {a0 : GRat} {r : Bool} (h : Ev_parse_parser_up_2 a0 r) : FVal prog (Fn_parse_parser_up_2) [GRat.enc a0] (.v (.bool r)) := ⟨163, [], .inr ⟨rfl, rfl⟩, by simp [DV.agg], h⟩
abbrev Fn_parse_parser_power_1 : DV := .v (.func (.func 204) #[] #[])
theorem call_parse_parser_power_1 {a0 : GRat} {r : Bool} (h : Ev_parse_parser_power_1 a0 r) : FVal prog (Fn_parse_parser_power_1) [GRat.enc a0] (.v (.bool r)) := ⟨204, [], .inr ⟨rfl, rfl⟩, by simp [DV.agg], h⟩
abbrev Fn_parse_parser_int_1 : DV := .v (.func (.func 245) #[] #[])
theorem call_parse_parser_int_1 {a0 : GRat} {r : Bool} (h : Ev_parse_parser_int_1 a0 r) : FVal prog (Fn_parse_parser_int_1) [GRat.enc a0] (.v (.bool r)) := ⟨245, [], .inr ⟨rfl, rfl⟩, by simp [DV.agg], h⟩
end Go.Sim.YtnnfiohdkobkdaaGreatDoor
