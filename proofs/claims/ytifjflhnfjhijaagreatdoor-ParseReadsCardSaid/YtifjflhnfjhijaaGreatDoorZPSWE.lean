/- What is proved: functions of the program compute what plain statements tell. -/
import Derived.Test.YtifjflhnfjhijaaGreatDoorZPSWT
import Derived.Test.YtifjflhnfjhijaaGreatDoorZPSSimQ

namespace Go.Sim.YtifjflhnfjhijaaGreatDoor
open Go.RowKit Go.Proofs Go.Proofs.Tryz
set_option maxRecDepth 100000
section
variable {ops : Array Oper} {cf : Oper -> Bool} {K : q1f -> St -> Prop} {o : Oper} {rest : List Oper} {L : List (Nat × AV)} {O : List (Nat × Obj)} {d : Nat} {α ε : Type} {args : List Operand} {id : Nat} {Ty : TypeId} {sz : Nat} {x : DV} {xs : List DV} {y z : α -> DV} {s : ε -> Value} {qe : ε -> Prop} {q : α -> Prop}
theorem pH {m : FuncId} {fs cs : List Nat} (h : opD tab ops L O o = some (d, .fb m fs cs)) (k : AOps prog ops cf K rest (mkSt ((d, .fb m fs cs) :: L) O)) : AOps prog ops cf K (o :: rest) (mkSt L O) := AOps.pD q01 h k
theorem kW (W : Way) (h : CallX (fun r => AFnW prog W Ty sz x xs (oX y s r) (bX z x r)) qe q) (hN : ∀ e, qe e -> qEi K (s e)) (hK : ∀ σ, NoRel σ -> K .normal σ) (ho : W.Is (mkSt L O) o id args) (hcf : cf o = true) (hd : dstG ops L o = some d)
    (hob : q0v O id = some (.box Ty sz (.dat x))) (ha : q3t (mkSt L O) false args xs) (hr : deadRest tab ops ((id, .box Ty sz bot) :: O) rest ((d, bot) :: L) = true)
    (k : ∀ a, q a -> AOps prog ops cf K rest (mkSt ((d, .dat (y a)) :: L) ((id, .box Ty sz (.dat (z a))) :: O))) : AOps prog ops cf K (o :: rest) (mkSt L O) := by
  obtain ⟨r, h1, h2⟩ := h
  obtain ⟨hd1, hg⟩ := q58 hd
  cases r with
  | ok a =>
    refine AOps.eff hg (e := ⟨.dat (y a), [(id, .box Ty sz (.dat (z a)))]⟩) ?_ (by rw [hd1]; exact k a h2)
    rw [hcf]; exact Step.callW ho h1 hob ha
  | error e =>
    refine AOps.eff hg (e := ⟨bot, [(id, .box Ty sz bot)]⟩) ?_ (by rw [hd1]; exact AOps.deadRest q01 hK _ rest _ ⟨id, Ty, sz, by simp [q0v]⟩ hr)
    rw [hcf]; exact Step.callWX ho h1 hob ha (hN e h2)
theorem kXf {f : FuncId} (h : CallX (fun r => AFnB prog f Ty sz x xs (oX y s r) (bX z x r)) qe q) (e : cbD cf ops L O o = some (some d, f, args, id, Ty, sz, x)) (ha : q3t (mkSt L O) false args xs) (hr : deadRest tab ops ((id, .box Ty sz bot) :: O) rest ((d, bot) :: L) = true)
    (k : ∀ a, q a -> AOps prog ops cf K rest (mkSt ((d, .dat (y a)) :: L) ((id, .box Ty sz (.dat (z a))) :: O))) (hN : ∀ e, qe e -> qEi K (s e) := by exact fun e h => ⟨mkSt [] [], by cases h; rfl⟩) (hK : ∀ σ, NoRel σ -> K .normal σ := by exact fun σ h => .inr h) : AOps prog ops cf K (o :: rest) (mkSt L O) := by
  obtain ⟨e1, e2, e3, ⟨x0, ats, e4, e5⟩, e6⟩ := qR2 e
  exact kW (.fn f) h hN hK ⟨x0, ats, e4, e5⟩ e2 (by unfold dstG; rw [e1]; exact e3) e6 ha hr k
theorem kXm {f m : FuncId} {x0 x1 : Operand} {ats : Array TypeId} (h : CallX (fun r => AFnM prog f m Ty sz x xs (oX y s r) (bX z x r)) qe q) (hN : ∀ e, qe e -> qEi K (s e)) (hK : ∀ σ, NoRel σ -> K .normal σ) (ho : o.op = .call { callee := .value (.func f), args := (x0 :: x1 :: args).toArray, argTypes := ats })
    (hcf : cf o = true) (hd : dstG ops L o = some d) (h0 : ev (mkSt L O) x0 = .pt id [] 0) (h1 : ev (mkSt L O) x1 = .fb m [id] []) (hob : q0v O id = some (.box Ty sz (.dat x))) (ha : q3t (mkSt L O) false args xs) (hr : deadRest tab ops ((id, .box Ty sz bot) :: O) rest ((d, bot) :: L) = true)
    (k : ∀ a, q a -> AOps prog ops cf K rest (mkSt ((d, .dat (y a)) :: L) ((id, .box Ty sz (.dat (z a))) :: O))) : AOps prog ops cf K (o :: rest) (mkSt L O) := kW (.fm f m) h hN hK ⟨x0, x1, ats, ho, h0, h1⟩ hcf hd hob ha hr k
theorem kXv {m : FuncId} {t : Nat} {ats : Array TypeId} (h : CallX (fun r => AFnB prog m Ty sz x xs (oX y s r) (bX z x r)) qe q) (hN : ∀ e, qe e -> qEi K (s e)) (hK : ∀ σ, NoRel σ -> K .normal σ) (ho : o.op = .call { callee := .value (.tmp t), args := args.toArray, argTypes := ats })
    (hcf : cf o = true) (hd : dstG ops L o = some d) (h0 : ev (mkSt L O) (.tmp t) = .fb m [id] []) (hob : q0v O id = some (.box Ty sz (.dat x))) (ha : q3t (mkSt L O) false args xs) (hr : deadRest tab ops ((id, .box Ty sz bot) :: O) rest ((d, bot) :: L) = true)
    (k : ∀ a, q a -> AOps prog ops cf K rest (mkSt ((d, .dat (y a)) :: L) ((id, .box Ty sz (.dat (z a))) :: O))) : AOps prog ops cf K (o :: rest) (mkSt L O) := kW (.val m) h hN hK ⟨t, ats, ho, h0⟩ hcf hd hob ha hr k
end
abbrev stV (e : Gparsestop) : Value := .iface 36 (.agg #[.int .i64 e.bad_, .int .i64 e.at_])
def q8q (a0 : ByteArray) (r : Bool) : Prop := AFn prog 3 [.v (.string a0)] (.v (.bool r)) false
def q9k (a0 : ByteArray) (r : GTree × Int × Int) : Prop := AFn prog 4 [.v (.string a0)] (.tup [GTree.out r.1, .v (.int .i64 r.2.1), .v (.int .i64 r.2.2)]) false
def q9l (a0 : ByteArray) (r : GTree × Int × Int) : Prop := AFn prog 5 [.v (.string a0)] (.tup [GTree.out r.1, .v (.int .i64 r.2.1), .v (.int .i64 r.2.2)]) false
def q5w (a0 : GTree) (a1 : GTree) (r : Bool) : Prop := AFn prog 6 [GTree.out a0, GTree.out a1] (.v (.bool r)) false
def qD2 (a0 : ByteArray) (r : (List GToken) × Int × Int) : Prop := AFn prog 7 [.v (.string a0)] (.tup [.sl 52 5 (List.map GToken.enc r.1), .v (.int .i64 r.2.1), .v (.int .i64 r.2.2)]) false
def qAg (a0 : GTree) (a1 : Int) (r : Bool) : Prop := AFn prog 10 [GTree.out a0, .v (.int .i64 a1)] (.v (.bool r)) false
def q9m (a0 : GTree) (a1 : Int) (r : Int) : Prop := AFn prog 11 [GTree.out a0, .v (.int .i64 a1)] (.v (.int .i64 r)) false
def q8d (a0 : GTree) (a1 : Int) (r : Int) : Prop := AFn prog 14 [GTree.out a0, .v (.int .i64 a1)] (.v (.int .i64 r)) false
def q7h (a0 : GTree) (a1 : Int) (r : Int) : Prop := AFn prog 15 [GTree.out a0, .v (.int .i64 a1)] (.v (.int .i64 r)) false
def q88 (a0 : Gparseparser) (r' : Except Gparsestop (GTree × Gparseparser)) : Prop := AFnB prog 9 39 3 (Gparseparser.enc a0) [] (oX (fun r : GTree × Gparseparser => GTree.out r.1) stV r') (bX (fun r : GTree × Gparseparser => Gparseparser.enc r.2) (Gparseparser.enc a0) r')
def q9b (a0 : ByteArray) (r : (List GToken) × Int × Int) : Prop := AFn prog 12 [.v (.string a0)] (.tup [.sl 52 5 (List.map GToken.enc r.1), .v (.int .i64 r.2.1), .v (.int .i64 r.2.2)]) false
def q5x (a0 : Gref13P) (r : GTree × Gref13P) : Prop := AFnB prog 13 45 5 (Gref13P.enc a0) [] (.ret (GTree.out r.1)) (Gref13P.enc r.2)
def q9c (r : List (ByteArray × Unit)) : Prop := AFn prog 16 [] (.mp (List.map (fun e => (fun s : ByteArray => Value.string s) e.1) r) (List.map (fun e => (fun _ : Unit => DV.st [] []) e.2) r)) false
def q2x (a0 : Glexlexer) (r : Glexlexer) : Prop := AFnB prog 17 50 3 (Glexlexer.enc a0) [] (.ret (.tup [])) (Glexlexer.enc r)
def q5y (a0 : Glexlexer) (r : (GToken × Int) × Glexlexer) : Prop := AFnB prog 18 50 3 (Glexlexer.enc a0) [] (.ret (.tup [GToken.enc r.1.1, .v (.int .i64 r.1.2)])) (Glexlexer.enc r.2)
def q1h (a0 : List GTree) (a1 : DV) (r : Bool) : Prop := AFn prog 26 [.sl 26 9 (List.map GTree.enc a0), a1] (.v (.bool r)) false
def qBq (a0 : GTree) (c0 : Int) (r : Bool) : Prop := AFn prog 27 [GTree.out a0, .pd (.v (.int .i64 c0))] (.v (.bool r)) false
def q0c (a0 : Gparseparser) (r : GToken) : Prop := AFnB prog 19 39 3 (Gparseparser.enc a0) [] (.ret (GToken.enc r)) (Gparseparser.enc a0)
def q02 (a0 : Gparseparser) (a1 : ByteArray) (r : Bool × Gparseparser) : Prop := AFnB prog 20 39 3 (Gparseparser.enc a0) [.v (.string a1)] (.ret (.v (.bool r.1))) (Gparseparser.enc r.2)
def q0d (a0 : Gparseparser) (r' : Except Gparsestop (ByteArray × Gparseparser)) : Prop := AFnB prog 21 39 3 (Gparseparser.enc a0) [] (oX (fun r : ByteArray × Gparseparser => .v (.string r.1)) stV r') (bX (fun r : ByteArray × Gparseparser => Gparseparser.enc r.2) (Gparseparser.enc a0) r')
def q1i (a0 : Gparseparser) (r' : Except Gparsestop (GTree × Gparseparser)) : Prop := AFnB prog 22 39 3 (Gparseparser.enc a0) [] (oX (fun r : GTree × Gparseparser => GTree.out r.1) stV r') (bX (fun r : GTree × Gparseparser => Gparseparser.enc r.2) (Gparseparser.enc a0) r')
def q04 (a0 : Gparseparser) (a1 : List ByteArray) (r' : Except Gparsestop (Gparseparser)) : Prop := AFnB prog 23 39 3 (Gparseparser.enc a0) [.sl 9 1 (List.map eStr a1)] (oX (fun r : Gparseparser => .tup []) stV r') (bX (fun r : Gparseparser => Gparseparser.enc r) (Gparseparser.enc a0) r')
def q25 (a0 : Gparseparser) (a1 : Int) (r' : Except Gparsestop (GTree × Gparseparser)) : Prop := AFnB prog 24 39 3 (Gparseparser.enc a0) [.v (.int .i64 a1)] (oX (fun r : GTree × Gparseparser => GTree.out r.1) stV r') (bX (fun r : GTree × Gparseparser => Gparseparser.enc r.2) (Gparseparser.enc a0) r')
def q14 (a0 : Gparseparser) (r' : Except Gparsestop (Gparseparser)) : Prop := AFnB prog 25 39 3 (Gparseparser.enc a0) [] (oX (fun r : Gparseparser => .tup []) stV r') (bX (fun r : Gparseparser => Gparseparser.enc r) (Gparseparser.enc a0) r')
def q5z (a0 : ByteArray) (a1 : Int) (r : Int) : Prop := AFn prog 28 [.v (.string a0), .v (.int .i64 a1)] (.v (.int .i64 r)) false
def q60 (a0 : Int) (r : Bool) : Prop := AFn prog 29 [.v (.int .u8 a0)] (.v (.bool r)) false
def q2c (a0 : Int) (r : Bool) : Prop := AFn prog 30 [.v (.int .u8 a0)] (.v (.bool r)) false
def q61 (a0 : ByteArray) (r : Bool) : Prop := AFn prog 31 [.v (.string a0)] (.v (.bool r)) false
def q8r (a0 : ByteArray) (a1 : Int) (r : Int) : Prop := AFn prog 32 [.v (.string a0), .v (.int .i64 a1)] (.v (.int .i64 r)) false
def q8e (a0 : ByteArray) (r : GRat × Int) : Prop := AFn prog 33 [.v (.string a0)] (.tup [GRat.enc r.1, .v (.int .i64 r.2)]) false
def qAh (a0 : ByteArray) (a1 : Int) (r : Int) : Prop := AFn prog 34 [.v (.string a0), .v (.int .i64 a1)] (.v (.int .i64 r)) false
def q12 (a0 : Gref13P) (r : GToken) : Prop := AFnB prog 35 45 5 (Gref13P.enc a0) [] (.ret (GToken.enc r)) (Gref13P.enc a0)
def q08 (a0 : Gref13P) (a1 : ByteArray) (r : Bool × Gref13P) : Prop := AFnB prog 36 45 5 (Gref13P.enc a0) [.v (.string a1)] (.ret (.v (.bool r.1))) (Gref13P.enc r.2)
def q0l (a0 : Gref13P) (r : ByteArray × Gref13P) : Prop := AFnB prog 37 45 5 (Gref13P.enc a0) [] (.ret (.v (.string r.1))) (Gref13P.enc r.2)
def q2d (a0 : Gref13P) (r : GTree × Gref13P) : Prop := AFnB prog 38 45 5 (Gref13P.enc a0) [] (.ret (GTree.out r.1)) (Gref13P.enc r.2)
def q03 (a0 : Gref13P) (a1 : ByteArray) (r : Gref13P) : Prop := AFnB prog 39 45 5 (Gref13P.enc a0) [.v (.string a1)] (.ret (.tup [])) (Gref13P.enc r)
def q1t (a0 : Gref13P) (r : Gref13P) : Prop := AFnB prog 40 45 5 (Gref13P.enc a0) [] (.ret (.tup [])) (Gref13P.enc r)
def q07 (a0 : Gref13P) (a1 : ByteArray) (r : Bool) : Prop := AFnB prog 41 45 5 (Gref13P.enc a0) [.v (.string a1)] (.ret (.v (.bool r))) (Gref13P.enc a0)
def q3v (a0 : Gref13P) (r : GTree × Gref13P) : Prop := AFnB prog 42 45 5 (Gref13P.enc a0) [] (.ret (GTree.out r.1)) (Gref13P.enc r.2)
def q9y (a0 : ByteArray) (r : List ByteArray) : Prop := AFn prog 43 [.v (.string a0)] (.sl 9 1 (List.map eStr r)) false
def q3w (a0 : Int) (r : Bool) : Prop := AFn prog 44 [.v (.int .u8 a0)] (.v (.bool r)) false
def q0x (a0 : Glexlexer) (a1 : DV) (r : Glexlexer) : Prop := AFnB prog 45 50 3 (Glexlexer.enc a0) [a1] (.ret (.tup [])) (Glexlexer.enc r)
def q0n (a0 : Glexlexer) (a1 : Int) (r : Int) : Prop := AFnB prog 46 50 3 (Glexlexer.enc a0) [.v (.int .i64 a1)] (.ret (.v (.int .u8 r))) (Glexlexer.enc a0)
def q3x (a0 : Int) (r : Bool) : Prop := AFn prog 47 [.v (.int .u8 a0)] (.v (.bool r)) false
def q8f (a0 : Int) (r : Bool) : Prop := AFn prog 48 [.v (.int .u8 a0)] (.v (.bool r)) false
def q75 (a0 : Glexlexer) (r : (GToken × Int) × Glexlexer) : Prop := AFnB prog 49 50 3 (Glexlexer.enc a0) [] (.ret (.tup [GToken.enc r.1.1, .v (.int .i64 r.1.2)])) (Glexlexer.enc r.2)
def q3y (a0 : Int) (r : Bool) : Prop := AFn prog 50 [.v (.int .u8 a0)] (.v (.bool r)) false
def q5a (a0 : Glexlexer) (r : (GToken × Int) × Glexlexer) : Prop := AFnB prog 51 50 3 (Glexlexer.enc a0) [] (.ret (.tup [GToken.enc r.1.1, .v (.int .i64 r.1.2)])) (Glexlexer.enc r.2)
def q4j (a0 : ByteArray) (a1 : Int) (r : Int) : Prop := AFn prog 52 [.v (.string a0), .v (.int .u8 a1)] (.v (.int .i64 r)) false
def q1s (a0 : List GTree) (a1 : DV) (r : Int) : Prop := AFn prog 57 [.sl 26 9 (List.map GTree.enc a0), a1] (.v (.int .i64 r)) false
def q80 (a0 : GRat) (r : Bool) : Prop := AFn prog 165 [GRat.enc a0] (.v (.bool r)) false
def q2e (a0 : GRat) (r : Bool) : Prop := AFn prog 174 [GRat.enc a0] (.v (.bool r)) false
def q0a (a0 : Gparseparser) (a1 : ByteArray) (r : Bool) : Prop := AFnB prog 53 39 3 (Gparseparser.enc a0) [.v (.string a1)] (.ret (.v (.bool r))) (Gparseparser.enc a0)
def q1u (a0 : Gparseparser) (a1 : Nat) (a2 : ByteArray) (a3 : Int) (a4 : ByteArray) (a5 : Int) (r' : Except Gparsestop (GTree × Gparseparser)) : Prop := AFnM prog 54 a1 39 3 (Gparseparser.enc a0) [.v (.string a2), .v (.int .i64 a3), .v (.string a4), .v (.int .i64 a5)] (oX (fun r : GTree × Gparseparser => GTree.out r.1) stV r') (bX (fun r : GTree × Gparseparser => Gparseparser.enc r.2) (Gparseparser.enc a0) r')
def q62 (a0 : Gparseparser) (r' : Except Gparsestop (GTree × Gparseparser)) : Prop := AFnB prog 55 39 3 (Gparseparser.enc a0) [] (oX (fun r : GTree × Gparseparser => GTree.out r.1) stV r') (bX (fun r : GTree × Gparseparser => Gparseparser.enc r.2) (Gparseparser.enc a0) r')
def q4k (a0 : Gparseparser) (r' : Except Gparsestop (GTree × Gparseparser)) : Prop := AFnB prog 56 39 3 (Gparseparser.enc a0) [] (oX (fun r : GTree × Gparseparser => GTree.out r.1) stV r') (bX (fun r : GTree × Gparseparser => Gparseparser.enc r.2) (Gparseparser.enc a0) r')
def q3z (a0 : ByteArray) (a1 : Int) (r : Int) : Prop := AFn prog 58 [.v (.string a0), .v (.int .i64 a1)] (.v (.int .i64 r)) false
def q26 (a0 : ByteArray) (a1 : Int) (r : Int) : Prop := AFn prog 59 [.v (.string a0), .v (.int .i64 a1)] (.v (.int .i64 r)) false
def q0z (a0 : ByteArray) (r : Int × Bool) : Prop := AFn prog 60 [.v (.string a0)] (.tup [.v (.int .i64 r.1), eErr r.2]) false
def q7i (a0 : ByteArray) (r : List Int) : Prop := AFn prog 61 [.v (.string a0)] (.sl 100 1 (List.map (eInt .u32) r)) false
def q2f (a0 : Int) (r : List Int) : Prop := AFn prog 62 [.v (.int .u64 a0)] (.sl 100 1 (List.map (eInt .u32) r)) false
def q5b (a0 : Bool) (a1 : List Int) (a2 : List Int) (r : GRat × Int) : Prop := AFn prog 63 [.v (.bool a0), .sl 100 1 (List.map (eInt .u32) a1), .sl 100 1 (List.map (eInt .u32) a2)] (.tup [GRat.enc r.1, .v (.int .i64 r.2)]) false
def q76 (a0 : List Int) (a1 : List Int) (r : List Int) : Prop := AFn prog 64 [.sl 100 1 (List.map (eInt .u32) a0), .sl 100 1 (List.map (eInt .u32) a1)] (.sl 100 1 (List.map (eInt .u32) r)) false
def q39 (a0 : List Int) (a1 : Int) (r : List Int) : Prop := AFn prog 65 [.sl 100 1 (List.map (eInt .u32) a0), .v (.int .i64 a1)] (.sl 100 1 (List.map (eInt .u32) r)) false
def q5r (r : List Int) : Prop := AFn prog 66 [] (.sl 100 1 (List.map (eInt .u32) r)) false
def q63 (a0 : Gref13P) (r : GTree × Gref13P) : Prop := AFnB prog 67 45 5 (Gref13P.enc a0) [] (.ret (GTree.out r.1)) (Gref13P.enc r.2)
def q1v (a0 : Gref13P) (a1 : Int) (r : Gref13P) : Prop := AFnB prog 68 45 5 (Gref13P.enc a0) [.v (.int .i64 a1)] (.ret (.tup [])) (Gref13P.enc r)
def q40 (a0 : Gref13P) (r : GTree × Gref13P) : Prop := AFnB prog 69 45 5 (Gref13P.enc a0) [] (.ret (GTree.out r.1)) (Gref13P.enc r.2)
def q0m (a0 : Gref13P) (r : GTree × Gref13P) : Prop := AFnB prog 70 45 5 (Gref13P.enc a0) [] (.ret (GTree.out r.1)) (Gref13P.enc r.2)
def q41 (a0 : Gref13P) (r : Int × Gref13P) : Prop := AFnB prog 71 45 5 (Gref13P.enc a0) [] (.ret (.v (.int .i64 r.1))) (Gref13P.enc r.2)
def q64 (a0 : Gref13P) (r : (List GTree) × Gref13P) : Prop := AFnB prog 72 45 5 (Gref13P.enc a0) [] (.ret (.sl 26 9 (List.map GTree.enc r.1))) (Gref13P.enc r.2)
def q56 (a0 : Gref13P) (r : GTree × Gref13P) : Prop := AFnB prog 73 45 5 (Gref13P.enc a0) [] (.ret (GTree.out r.1)) (Gref13P.enc r.2)
def q42 (a0 : Gref13P) (r : GTree × Gref13P) : Prop := AFnB prog 74 45 5 (Gref13P.enc a0) [] (.ret (GTree.out r.1)) (Gref13P.enc r.2)
def q5c (a0 : Int) (r : Bool) : Prop := AFn prog 77 [.v (.int .u8 a0)] (.v (.bool r)) false
def q8s (a0 : ByteArray) (r : GRat × Int) : Prop := AFn prog 78 [.v (.string a0)] (.tup [GRat.enc r.1, .v (.int .i64 r.2)]) false
def q65 (r : List ByteArray) : Prop := AFn prog 172 [] (.sl 9 1 (List.map eStr r)) false
def q81 (a0 : GRat) (r : Bool) : Prop := AFn prog 170 [GRat.enc a0] (.v (.bool r)) false
def q43 (a0 : GRat) (r : Bool) : Prop := AFn prog 178 [GRat.enc a0] (.v (.bool r)) false
def q7o (a0 : List Int) (a1 : List Int) (r : Int) : Prop := AFn prog 128 [.sl 100 1 (List.map (eInt .u32) a0), .sl 100 1 (List.map (eInt .u32) a1)] (.v (.int .i64 r)) false
def q66 (a0 : List Int) (a1 : List Int) (r : List Int) : Prop := AFn prog 97 [.sl 100 1 (List.map (eInt .u32) a0), .sl 100 1 (List.map (eInt .u32) a1)] (.sl 100 1 (List.map (eInt .u32) r)) false
def q4e (a0 : Int) (r : List Int) : Prop := AFn prog 130 [.v (.int .i64 a0)] (.sl 100 1 (List.map (eInt .u32) r)) false
def q0e (a0 : Gparseparser) (a1 : ByteArray) (r' : Except Gparsestop (Gparseparser)) : Prop := AFnB prog 80 39 3 (Gparseparser.enc a0) [.v (.string a1)] (oX (fun r : Gparseparser => .tup []) stV r') (bX (fun r : Gparseparser => Gparseparser.enc r) (Gparseparser.enc a0) r')
def q0h (a0 : Gparseparser) (a1 : List ByteArray) (r' : Except Gparsestop (Gparseparser)) : Prop := AFnB prog 81 39 3 (Gparseparser.enc a0) [.sl 9 1 (List.map eStr a1)] (oX (fun r : Gparseparser => .tup []) stV r') (bX (fun r : Gparseparser => Gparseparser.enc r) (Gparseparser.enc a0) r')
def q0w (a0 : Gparseparser) (a1 : DV) (r' : Except Gparsestop (GRat × Gparseparser)) : Prop := AFnB prog 82 39 3 (Gparseparser.enc a0) [a1] (oX (fun r : GRat × Gparseparser => GRat.enc r.1) stV r') (bX (fun r : GRat × Gparseparser => Gparseparser.enc r.2) (Gparseparser.enc a0) r')
def q4l (a0 : GRat) (r : Bool) : Prop := AFn prog 83 [GRat.enc a0] (.v (.bool r)) false
def q1m (a0 : Gparseparser) (r' : Except Gparsestop (Int × Gparseparser)) : Prop := AFnB prog 84 39 3 (Gparseparser.enc a0) [] (oX (fun r : Int × Gparseparser => .v (.int .i64 r.1)) stV r') (bX (fun r : Int × Gparseparser => Gparseparser.enc r.2) (Gparseparser.enc a0) r')
def q4m (a0 : GRat) (r : Bool) : Prop := AFn prog 85 [GRat.enc a0] (.v (.bool r)) false
def q77 (a0 : Int) (a1 : Int) (r : GRat × Int) : Prop := AFn prog 86 [.v (.int .i64 a0), .v (.int .i64 a1)] (.tup [GRat.enc r.1, .v (.int .i64 r.2)]) false
def q2l (a0 : Gparseparser) (r' : Except Gparsestop (GTree × Gparseparser)) : Prop := AFnB prog 87 39 3 (Gparseparser.enc a0) [] (oX (fun r : GTree × Gparseparser => GTree.out r.1) stV r') (bX (fun r : GTree × Gparseparser => Gparseparser.enc r.2) (Gparseparser.enc a0) r')
def q0g (a0 : Gparseparser) (r' : Except Gparsestop (GTree × Gparseparser)) : Prop := AFnB prog 88 39 3 (Gparseparser.enc a0) [] (oX (fun r : GTree × Gparseparser => GTree.out r.1) stV r') (bX (fun r : GTree × Gparseparser => Gparseparser.enc r.2) (Gparseparser.enc a0) r')
def q27 (a0 : Gparseparser) (r' : Except Gparsestop (Int × Gparseparser)) : Prop := AFnB prog 89 39 3 (Gparseparser.enc a0) [] (oX (fun r : Int × Gparseparser => .v (.int .i64 r.1)) stV r') (bX (fun r : Int × Gparseparser => Gparseparser.enc r.2) (Gparseparser.enc a0) r')
def q4n (a0 : Gparseparser) (r' : Except Gparsestop (GTree × Gparseparser)) : Prop := AFnB prog 90 39 3 (Gparseparser.enc a0) [] (oX (fun r : GTree × Gparseparser => GTree.out r.1) stV r') (bX (fun r : GTree × Gparseparser => Gparseparser.enc r.2) (Gparseparser.enc a0) r')
def q44 (a0 : Gparseparser) (r' : Except Gparsestop (GTree × Gparseparser)) : Prop := AFnB prog 91 39 3 (Gparseparser.enc a0) [] (oX (fun r : GTree × Gparseparser => GTree.out r.1) stV r') (bX (fun r : GTree × Gparseparser => Gparseparser.enc r.2) (Gparseparser.enc a0) r')
def q2m (a0 : Gparseparser) (r' : Except Gparsestop (GTree × Gparseparser)) : Prop := AFnB prog 92 39 3 (Gparseparser.enc a0) [] (oX (fun r : GTree × Gparseparser => GTree.out r.1) stV r') (bX (fun r : GTree × Gparseparser => Gparseparser.enc r.2) (Gparseparser.enc a0) r')
def q8g (a0 : List Int) (a1 : List Int) (r : List Int) : Prop := AFn prog 95 [.sl 100 1 (List.map (eInt .u32) a0), .sl 100 1 (List.map (eInt .u32) a1)] (.sl 100 1 (List.map (eInt .u32) r)) false
def q2y (a0 : List Int) (r : List Int) : Prop := AFn prog 96 [.sl 100 1 (List.map (eInt .u32) a0)] (.sl 100 1 (List.map (eInt .u32) r)) false
def q9d (a0 : List Int) (r : Int × Bool) : Prop := AFn prog 98 [.sl 100 1 (List.map (eInt .u32) a0)] (.tup [.v (.int .i64 r.1), .v (.bool r.2)]) false
def q9e (a0 : List Int) (a1 : List Int) (r : List Int) : Prop := AFn prog 99 [.sl 100 1 (List.map (eInt .u32) a0), .sl 100 1 (List.map (eInt .u32) a1)] (.sl 100 1 (List.map (eInt .u32) r)) false
def q0o (a0 : Gref13P) (a1 : ByteArray) (r : Gref13P) : Prop := AFnB prog 100 45 5 (Gref13P.enc a0) [.v (.string a1)] (.ret (.tup [])) (Gref13P.enc r)
def q0t (a0 : Gref13P) (r : Gref13P) : Prop := AFnB prog 101 45 5 (Gref13P.enc a0) [] (.ret (.tup [])) (Gref13P.enc r)
def q0p (a0 : Gref13P) (a1 : Int) (a2 : Int) (r : Int × Gref13P) : Prop := AFnB prog 102 45 5 (Gref13P.enc a0) [.v (.int .i64 a1), .v (.int .i64 a2)] (.ret (.v (.int .i64 r.1))) (Gref13P.enc r.2)
def q22 (a0 : Gref13P) (r : Int × Gref13P) : Prop := AFnB prog 103 45 5 (Gref13P.enc a0) [] (.ret (.v (.int .i64 r.1))) (Gref13P.enc r.2)
def q67 (a0 : Int) (a1 : Int) (r : GRat × Int) : Prop := AFn prog 104 [.v (.int .i64 a0), .v (.int .i64 a1)] (.tup [GRat.enc r.1, .v (.int .i64 r.2)]) false
def q3a (a0 : Gref13P) (r : GTree × Gref13P) : Prop := AFnB prog 105 45 5 (Gref13P.enc a0) [] (.ret (GTree.out r.1)) (Gref13P.enc r.2)
def q37 (a0 : Gref13P) (r : GTree × Gref13P) : Prop := AFnB prog 106 45 5 (Gref13P.enc a0) [] (.ret (GTree.out r.1)) (Gref13P.enc r.2)
def q2g (a0 : Gref13P) (r : GTree × Gref13P) : Prop := AFnB prog 107 45 5 (Gref13P.enc a0) [] (.ret (GTree.out r.1)) (Gref13P.enc r.2)
def qBr (a0 : ByteArray) (r : ByteArray × Int × Int × Bool) : Prop := AFn prog 109 [.v (.string a0)] (.tup [.v (.string r.1), .v (.int .i64 r.2.1), .v (.int .i64 r.2.2.1), .v (.bool r.2.2.2)]) false
def q17 (a0 : ByteArray) (a1 : ByteArray) (r : ByteArray) : Prop := AFn prog 110 [.v (.string a0), .v (.string a1)] (.v (.string r)) false
def q68 (a0 : ByteArray) (a1 : Int) (r : GRat × Int) : Prop := AFn prog 111 [.v (.string a0), .v (.int .i64 a1)] (.tup [GRat.enc r.1, .v (.int .i64 r.2)]) false
def qD3 (a0 : Int) (a1 : Int) (r : Int) : Prop := AFn prog 145 [.v (.int .u64 a0), .v (.int .u64 a1)] (.v (.int .u64 r)) false
def q78 (a0 : Int) (r : Int) : Prop := AFn prog 115 [.v (.int .i64 a0)] (.v (.int .u64 r)) false
def qAi (a0 : List Int) (a1 : List Int) (r : List Int) : Prop := AFn prog 125 [.sl 100 1 (List.map (eInt .u32) a0), .sl 100 1 (List.map (eInt .u32) a1)] (.sl 100 1 (List.map (eInt .u32) r)) false
def q2z (a0 : GRat) (r : Bool) : Prop := AFn prog 113 [GRat.enc a0] (.v (.bool r)) false
def qAj (a0 : Bool) (a1 : Int) (a2 : Int) (r : GRat × Int) : Prop := AFn prog 114 [.v (.bool a0), .v (.int .u64 a1), .v (.int .u64 a2)] (.tup [GRat.enc r.1, .v (.int .i64 r.2)]) false
def q8t (a0 : Gparseparser) (r' : Except Gparsestop (GTree × Gparseparser)) : Prop := AFnB prog 116 39 3 (Gparseparser.enc a0) [] (oX (fun r : GTree × Gparseparser => GTree.out r.1) stV r') (bX (fun r : GTree × Gparseparser => Gparseparser.enc r.2) (Gparseparser.enc a0) r')
def q11 (a0 : Gparseparser) (r' : Except Gparsestop (Int × Gparseparser)) : Prop := AFnB prog 117 39 3 (Gparseparser.enc a0) [] (oX (fun r : Int × Gparseparser => .v (.int .i64 r.1)) stV r') (bX (fun r : Int × Gparseparser => Gparseparser.enc r.2) (Gparseparser.enc a0) r')
def q30 (a0 : Gparseparser) (r' : Except Gparsestop (GTree × Gparseparser)) : Prop := AFnB prog 118 39 3 (Gparseparser.enc a0) [] (oX (fun r : GTree × Gparseparser => GTree.out r.1) stV r') (bX (fun r : GTree × Gparseparser => Gparseparser.enc r.2) (Gparseparser.enc a0) r')
def q18 (a0 : Gparseparser) (r' : Except Gparsestop (GTree × Gparseparser)) : Prop := AFnB prog 119 39 3 (Gparseparser.enc a0) [] (oX (fun r : GTree × Gparseparser => GTree.out r.1) stV r') (bX (fun r : GTree × Gparseparser => Gparseparser.enc r.2) (Gparseparser.enc a0) r')
def q31 (a0 : List Int) (r : Int) : Prop := AFn prog 126 [.sl 100 1 (List.map (eInt .u32) a0)] (.v (.int .i64 r)) false
def q69 (a0 : List Int) (a1 : Int) (r : List Int) : Prop := AFn prog 127 [.sl 100 1 (List.map (eInt .u32) a0), .v (.int .i64 a1)] (.sl 100 1 (List.map (eInt .u32) r)) false
def q8h (a0 : List Int) (a1 : List Int) (r : List Int) : Prop := AFn prog 129 [.sl 100 1 (List.map (eInt .u32) a0), .sl 100 1 (List.map (eInt .u32) a1)] (.sl 100 1 (List.map (eInt .u32) r)) false
def q3b (a0 : Gref13P) (r : GTree × Gref13P) : Prop := AFnB prog 131 45 5 (Gref13P.enc a0) [] (.ret (GTree.out r.1)) (Gref13P.enc r.2)
def q6a (a0 : Gref13P) (r : GTree × Gref13P) : Prop := AFnB prog 132 45 5 (Gref13P.enc a0) [] (.ret (GTree.out r.1)) (Gref13P.enc r.2)
def q4f (a0 : ByteArray) (r : ByteArray × ByteArray) : Prop := AFn prog 135 [.v (.string a0)] (.tup [.v (.string r.1), .v (.string r.2)]) false
def q4o (a0 : ByteArray) (a1 : ByteArray) (r : ByteArray × Bool) : Prop := AFn prog 136 [.v (.string a0), .v (.string a1)] (.tup [.v (.string r.1), .v (.bool r.2)]) false
def q7p (a0 : List Int) (a1 : Int) (r : List Int) : Prop := AFn prog 141 [.sl 5 1 (List.map (eInt .u8) a0), .v (.int .u8 a1)] (.sl 5 1 (List.map (eInt .u8) r)) false
def q1c (a0 : ByteArray) (a1 : Int) (a2 : Int) (r : Int × Bool) : Prop := AFn prog 142 [.v (.string a0), .v (.int .i64 a1), .v (.int .i64 a2)] (.tup [.v (.int .u64 r.1), eErr r.2]) false
def q6b (a0 : Int) (a1 : Int) (r : Int × Int) : Prop := AFn prog 143 [.v (.int .u64 a0), .v (.int .u64 a1)] (.tup [.v (.int .u64 r.1), .v (.int .u64 r.2)]) false
def q1w (a0 : Int) (r : Int) : Prop := AFn prog 144 [.v (.int .u64 a0)] (.v (.int .i64 r)) false
def q1j (a0 : Gparseparser) (r' : Except Gparsestop (GTree × Gparseparser)) : Prop := AFnB prog 146 39 3 (Gparseparser.enc a0) [] (oX (fun r : GTree × Gparseparser => GTree.out r.1) stV r') (bX (fun r : GTree × Gparseparser => Gparseparser.enc r.2) (Gparseparser.enc a0) r')
def q45 (a0 : GRat) (r : Bool) : Prop := AFn prog 147 [GRat.enc a0] (.v (.bool r)) false
def q3q (a0 : Gparseparser) (r' : Except Gparsestop (GTree × Gparseparser)) : Prop := AFnB prog 148 39 3 (Gparseparser.enc a0) [] (oX (fun r : GTree × Gparseparser => GTree.out r.1) stV r') (bX (fun r : GTree × Gparseparser => Gparseparser.enc r.2) (Gparseparser.enc a0) r')
def q57 (a0 : Gref13P) (r : GTree × Gref13P) : Prop := AFnB prog 153 45 5 (Gref13P.enc a0) [] (.ret (GTree.out r.1)) (Gref13P.enc r.2)
def q2h (a0 : Gref13P) (r : GTree × Gref13P) : Prop := AFnB prog 154 45 5 (Gref13P.enc a0) [] (.ret (GTree.out r.1)) (Gref13P.enc r.2)
def q28 (a0 : ByteArray) (a1 : ByteArray) (r : ByteArray × Bool) : Prop := AFn prog 155 [.v (.string a0), .v (.string a1)] (.tup [.v (.string r.1), .v (.bool r.2)]) false
def q6c (a0 : Int) (r : Int) : Prop := AFn prog 159 [.v (.int .u64 a0)] (.v (.int .i64 r)) false
def q1a (a0 : ByteArray) (a1 : ByteArray) (r : Bool) : Prop := AFn prog 167 [.v (.string a0), .v (.string a1)] (.v (.bool r)) false
def q46 (a0 : Gparseparser) (r' : Except Gparsestop (GTree × Gparseparser)) : Prop := AFnB prog 160 39 3 (Gparseparser.enc a0) [] (oX (fun r : GTree × Gparseparser => GTree.out r.1) stV r') (bX (fun r : GTree × Gparseparser => Gparseparser.enc r.2) (Gparseparser.enc a0) r')
def q53 (a0 : Int) (r : GTree) : Prop := AFn prog 161 [.v (.int .i64 a0)] (GTree.out r) false
def q2n (a0 : ByteArray) (r : Int) : Prop := AFn prog 166 [.v (.string a0)] (.v (.int .i64 r)) false
def q3k (a0 : List ByteArray) (a1 : ByteArray) (r : Int) : Prop := AFn prog 171 [.sl 9 1 (List.map eStr a0), .v (.string a1)] (.v (.int .i64 r)) false
abbrev qBs (c0 : Int) : DV := .fn 27 [.pd (.v (.int .i64 c0))]
theorem qFg {a0 : GTree} {c0 : Int} {r : Bool} (h : qBq a0 c0 r) : FVal prog (qBs c0) [GTree.out a0] (.v (.bool r)) := ⟨27, [.pd (.v (.int .i64 c0))], .inl rfl, by simp [DV.agg], h⟩
abbrev q29 : DV := .v (.func (.func 44) #[] #[])
theorem q6d {a0 : Int} {r : Bool} (h : q3w a0 r) : FVal prog (q29) [.v (.int .u8 a0)] (.v (.bool r)) := ⟨44, [], .inr ⟨rfl, rfl⟩, by simp [DV.agg], h⟩
abbrev q7q : DV := .v (.func (.func 47) #[] #[])
theorem qAk {a0 : Int} {r : Bool} (h : q3x a0 r) : FVal prog (q7q) [.v (.int .u8 a0)] (.v (.bool r)) := ⟨47, [], .inr ⟨rfl, rfl⟩, by simp [DV.agg], h⟩
abbrev q7r : DV := .v (.func (.func 50) #[] #[])
theorem qJs {a0 : Int} {r : Bool} (h : q3y a0 r) : FVal prog (q7r) [.v (.int .u8 a0)] (.v (.bool r)) := ⟨50, [], .inr ⟨rfl, rfl⟩, by simp [DV.agg], h⟩
abbrev q8u : DV := .v (.func (.func 77) #[] #[])
theorem qBt {a0 : Int} {r : Bool} (h : q5c a0 r) : FVal prog (q8u) [.v (.int .u8 a0)] (.v (.bool r)) := ⟨77, [], .inr ⟨rfl, rfl⟩, by simp [DV.agg], h⟩
abbrev qB7 : DV := .v (.func (.func 170) #[] #[])
theorem qEn {a0 : GRat} {r : Bool} (h : q81 a0 r) : FVal prog (qB7) [GRat.enc a0] (.v (.bool r)) := ⟨170, [], .inr ⟨rfl, rfl⟩, by simp [DV.agg], h⟩
abbrev q89 : DV := .v (.func (.func 83) #[] #[])
theorem qBb {a0 : GRat} {r : Bool} (h : q4l a0 r) : FVal prog (q89) [GRat.enc a0] (.v (.bool r)) := ⟨83, [], .inr ⟨rfl, rfl⟩, by simp [DV.agg], h⟩
abbrev q8a : DV := .v (.func (.func 85) #[] #[])
theorem qBc {a0 : GRat} {r : Bool} (h : q4m a0 r) : FVal prog (q8a) [GRat.enc a0] (.v (.bool r)) := ⟨85, [], .inr ⟨rfl, rfl⟩, by simp [DV.agg], h⟩
abbrev q6e : DV := .v (.func (.func 113) #[] #[])
theorem q54 {a0 : GRat} {r : Bool} (h : q2z a0 r) : FVal prog (q6e) [GRat.enc a0] (.v (.bool r)) := ⟨113, [], .inr ⟨rfl, rfl⟩, by simp [DV.agg], h⟩
abbrev q7s : DV := .v (.func (.func 147) #[] #[])
theorem qAl {a0 : GRat} {r : Bool} (h : q45 a0 r) : FVal prog (q7s) [GRat.enc a0] (.v (.bool r)) := ⟨147, [], .inr ⟨rfl, rfl⟩, by simp [DV.agg], h⟩
end Go.Sim.YtifjflhnfjhijaaGreatDoor
