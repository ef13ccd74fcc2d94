/- What is proved: the program's structs as Lean's, how they lie in memory, and their equality. -/
import Derived.Test.YtnnfiohdkobkdaaGreatDoorZZPLTab
import Derived.Test.YtnnfiohdkobkdaaGreatDoorZZPLSimL

namespace Go.Sim.YtnnfiohdkobkdaaGreatDoor
open Go.RowKit Go.Proofs Go.Proofs.Tryz
set_option maxRecDepth 100000
structure GRat where
  N : Int
  D : Int
abbrev GRat.zero : GRat := ⟨(0 : Int), (0 : Int)⟩
abbrev GRat.enc (x : GRat) : DV := .st [1, 1] [.v (.int .i64 x.N), .v (.int .i64 x.D)]
def GRat.beq (x y : GRat) : Bool := (x.N == y.N) && ((x.D == y.D) && true)
theorem GRat.eqok23 (d : Nat) (x y : GRat) : EqOk prog (d + 2) 23 (GRat.enc x) (GRat.enc y) (GRat.beq x y) :=
  EqOk.struct tabOk Tryz.underlying23 (by decide +kernel) ⟨by decide, rfl, ⟨te2, rfl, rfl, rfl⟩, _, _, (EqOk.int ok2 rfl), ⟨by decide, rfl, ⟨te2, rfl, rfl, rfl⟩, _, _, (EqOk.int ok2 rfl), rfl, rfl⟩, rfl⟩
structure GTree where
  Kind : Int
  Name : ByteArray
  Alias : ByteArray
  N : Int
  M : Int
  Flag : Bool
  Num : GRat
  Kids : List GTree
abbrev GTree.zero : GTree := ⟨(0 : Int), (ByteArray.mk #[]), (ByteArray.mk #[]), (0 : Int), (0 : Int), false, GRat.zero, ([] : List GTree)⟩
mutual
def GTree.enc : GTree → DV
  | ⟨x0, x1, x2, x3, x4, x5, x6, x7⟩ => .st [1, 1, 1, 1, 1, 1, 2, 1] [.v (.int .i64 x0), .v (.string x1), .v (.string x2), .v (.int .i64 x3), .v (.int .i64 x4), .v (.bool x5), GRat.enc x6, .sl 26 9 (GTree.encL x7)]
def GTree.encL : List GTree → List DV
  | [] => []
  | x :: xs => GTree.enc x :: GTree.encL xs
end
theorem GTree.encL_map : ∀ xs : List GTree, GTree.encL xs = xs.map GTree.enc
  | [] => by simp [GTree.encL]
  | x :: xs => by simp [GTree.encL, GTree.encL_map xs]
abbrev GTree.out (x : GTree) : DV := .st [1, 1, 1, 1, 1, 1, 2, 1] [.v (.int .i64 x.Kind), .v (.string x.Name), .v (.string x.Alias), .v (.int .i64 x.N), .v (.int .i64 x.M), .v (.bool x.Flag), GRat.enc x.Num, .sl 26 9 (List.map GTree.enc x.Kids)]
theorem GTree.enc_out (x : GTree) : GTree.enc x = GTree.out x := by
  cases x; simp only [GTree.enc, GTree.out, GTree.encL_map]
theorem GTree.get {xs : List GTree} {m : Nat} {x : GTree} (h : xs[m]? = some x) : (xs.map GTree.enc)[m]? = some (GTree.out x) := by rw [← GTree.enc_out]; exact map_get h
structure GToken where
  Kind : Int
  S : ByteArray
  Num : GRat
  At : Int
abbrev GToken.zero : GToken := ⟨(0 : Int), (ByteArray.mk #[]), GRat.zero, (0 : Int)⟩
abbrev GToken.enc (x : GToken) : DV := .st [1, 1, 2, 1] [.v (.int .i64 x.Kind), .v (.string x.S), GRat.enc x.Num, .v (.int .i64 x.At)]
def GToken.beq (x y : GToken) : Bool := (x.Kind == y.Kind) && ((x.S.toList == y.S.toList) && ((GRat.beq x.Num y.Num) && ((x.At == y.At) && true)))
structure Gparsestop where
  bad_ : Int
  at_ : Int
abbrev Gparsestop.zero : Gparsestop := ⟨(0 : Int), (0 : Int)⟩
abbrev Gparsestop.enc (x : Gparsestop) : DV := .st [1, 1] [.v (.int .i64 x.bad_), .v (.int .i64 x.at_)]
def Gparsestop.beq (x y : Gparsestop) : Bool := (x.bad_ == y.bad_) && ((x.at_ == y.at_) && true)
structure Gparseparser where
  l_ : List GToken
  i_ : Int
  open_ : Int
abbrev Gparseparser.zero : Gparseparser := ⟨([] : List GToken), (0 : Int), (0 : Int)⟩
abbrev Gparseparser.enc (x : Gparseparser) : DV := .st [1, 1, 1] [.sl 40 5 (List.map GToken.enc x.l_), .v (.int .i64 x.i_), .v (.int .i64 x.open_)]
structure Gref13P where
  L : List GToken
  I : Int
  Open : Int
  Bad : Int
  At : Int
abbrev Gref13P.zero : Gref13P := ⟨([] : List GToken), (0 : Int), (0 : Int), (0 : Int), (0 : Int)⟩
abbrev Gref13P.enc (x : Gref13P) : DV := .st [1, 1, 1, 1, 1] [.sl 40 5 (List.map GToken.enc x.L), .v (.int .i64 x.I), .v (.int .i64 x.Open), .v (.int .i64 x.Bad), .v (.int .i64 x.At)]
structure Glexlexer where
  s_ : ByteArray
  at_ : Int
  words_ : List (ByteArray × Unit)
abbrev Glexlexer.zero : Glexlexer := ⟨(ByteArray.mk #[]), (0 : Int), ([] : List (ByteArray × Unit))⟩
abbrev Glexlexer.enc (x : Glexlexer) : DV := .st [1, 1, 1] [.v (.string x.s_), .v (.int .i64 x.at_), .mp (List.map (fun e => (fun s : ByteArray => Value.string s) e.1) x.words_) (List.map (fun e => (fun _ : Unit => DV.st [] []) e.2) x.words_)]
structure Gref13Spec where
  Has : ByteArray
  From : Int
  To : Int
  M : Int
  Kids : ByteArray
abbrev Gref13Spec.zero : Gref13Spec := ⟨(ByteArray.mk #[]), (0 : Int), (0 : Int), (0 : Int), (ByteArray.mk #[])⟩
abbrev Gref13Spec.enc (x : Gref13Spec) : DV := .st [1, 1, 1, 1, 1] [.v (.string x.Has), .v (.int .i64 x.From), .v (.int .i64 x.To), .v (.int .i64 x.M), .v (.string x.Kids)]
def Gref13Spec.beq (x y : Gref13Spec) : Bool := (x.Has.toList == y.Has.toList) && ((x.From == y.From) && ((x.To == y.To) && ((x.M == y.M) && ((x.Kids.toList == y.Kids.toList) && true))))
-- lex.lexer: ok of map[string]struct {}
def GRat.ok (x : GRat) : Prop := okInt .i64 x.N ∧ okInt .i64 x.D
mutual
def GTree.ok : GTree → Prop
  | ⟨x0, x1, x2, x3, x4, _, x6, x7⟩ => okInt .i64 x0 ∧ x1.size ≤ maxLen ∧ x2.size ≤ maxLen ∧ okInt .i64 x3 ∧ okInt .i64 x4 ∧ GRat.ok x6 ∧ (x7.length ≤ maxLen ∧ GTree.okL x7)
def GTree.okL : List GTree → Prop
  | [] => True
  | x :: xs => GTree.ok x ∧ GTree.okL xs
end
theorem GTree.okL_iff : ∀ xs : List GTree, GTree.okL xs ↔ ∀ x ∈ xs, GTree.ok x
  | [] => by simp [GTree.okL]
  | x :: xs => by simp [GTree.okL, GTree.okL_iff xs]
theorem GTree.ok_iff (x : GTree) : GTree.ok x ↔ okInt .i64 x.Kind ∧ x.Name.size ≤ maxLen ∧ x.Alias.size ≤ maxLen ∧ okInt .i64 x.N ∧ okInt .i64 x.M ∧ GRat.ok x.Num ∧ (x.Kids.length ≤ maxLen ∧ ∀ z0 ∈ x.Kids, GTree.ok z0) := by
  cases x; simp only [GTree.ok, GTree.okL_iff]
def GToken.ok (x : GToken) : Prop := okInt .i64 x.Kind ∧ x.S.size ≤ maxLen ∧ GRat.ok x.Num ∧ okInt .i64 x.At
def Gparsestop.ok (x : Gparsestop) : Prop := okInt .i64 x.bad_ ∧ okInt .i64 x.at_
def Gparseparser.ok (x : Gparseparser) : Prop := (x.l_.length ≤ maxLen ∧ ∀ z0 ∈ x.l_, GToken.ok z0) ∧ okInt .i64 x.i_ ∧ okInt .i64 x.open_
def Gref13P.ok (x : Gref13P) : Prop := (x.L.length ≤ maxLen ∧ ∀ z0 ∈ x.L, GToken.ok z0) ∧ okInt .i64 x.I ∧ okInt .i64 x.Open ∧ okInt .i64 x.Bad ∧ okInt .i64 x.At
def Gref13Spec.ok (x : Gref13Spec) : Prop := x.Has.size ≤ maxLen ∧ okInt .i64 x.From ∧ okInt .i64 x.To ∧ okInt .i64 x.M ∧ x.Kids.size ≤ maxLen
end Go.Sim.YtnnfiohdkobkdaaGreatDoor

/- What is proved: bytes laid by a literal and turned to their own type (a string's constant as bytes): they are marked, and shared from then on. -/
namespace Go.Sim
open Go.RowKit
section
variable {P : Program} {N : Value → Prop} {T : Tab} {σ : St}
/-- An own block is written for the last time, and shared from now on. -/
theorem RelG.spent {B : Nat → Nat → Prop} {F : Cx} {w0 w w' : World} {n : Nat} {σ : St} {a : Act} {g : Gh} (h : RelG B F w0 n σ a w g) {id : Nat} (hlow : id < 1000000) (hid : g.has id) (hb : BelowB (g.blk id) w w') :
    RelG B F w0 n (σ.set id .gone) a w' { g with S := fun k => g.S k ∨ k = g.blk id, has := upd g.has id False } := by
  obtain ⟨k1, k2, k3⟩ := h.own id hid
  have hS : ∀ k, g.S k → g.S k ∨ k = g.blk id := fun _ hk => .inl hk
  have hm : ∀ k, g.S k → k < w.heap.size → w'.heap[k]? = w.heap[k]? := fun k hk hlt => hb.old k hlt (fun e => k1 (e ▸ hk))
  refine { os := hb.os.trans h.os, tape := hb.tape.trans h.tape, output := hb.output.trans h.output, size := Nat.le_trans h.size hb.size, old := fun k hk hB => ?_, n := h.n, nlt := h.nlt, glob := h.glob, defers := h.defers, sF := ?_, sB := ?_, own := ?_, dj := ?_, slots := ?_, objs := ?_, ok := Ok_set h.ok (fun _ _ _ e => by cases e), hv := h.hv, sub := ?_ }
  · rw [hb.old k (Nat.lt_of_lt_of_le hk h.size)]
    · exact h.old k hk hB
    · intro e
      have := k2.new hlow
      omega
  · rintro k (hk | rfl)
    · exact h.sF k hk
    · exact .inr (k2.new hlow)
  · rintro k (hk | rfl)
    · exact Nat.lt_of_lt_of_le (h.sB k hk) hb.size
    · exact Nat.lt_of_lt_of_le k3 hb.size
  · intro i hi
    by_cases he : i = id
    · subst he; simp [upd_same] at hi
    · simp only [upd_ne _ _ _ he] at hi
      obtain ⟨m1, m2, m3⟩ := h.own i hi
      exact ⟨fun hs => hs.elim m1 (fun hs => h.dj i id he hi hid hs), m2, Nat.lt_of_lt_of_le m3 hb.size⟩
  · intro i j hij hi hj
    by_cases he : i = id
    · subst he; simp [upd_same] at hi
    · by_cases he' : j = id
      · subst he'; simp [upd_same] at hj
      · simp only [upd_ne _ _ _ he, upd_ne _ _ _ he'] at hi hj; exact h.dj i j hij hi hj
  · exact h.slots' (g' := { g with S := fun k => g.S k ∨ k = g.blk id, has := upd g.has id False }) hS hm (fun _ _ => rfl) (fun _ _ => rfl)
  · intro i
    rw [St.obj_set]
    by_cases he : i = id
    · subst he; simp [RepO, upd_same]
    · simp only [if_neg he]
      exact RepO.frame h (g' := { g with S := fun k => g.S k ∨ k = g.blk id, has := upd g.has id False }) hS hm (fun _ _ => rfl) (fun _ _ => rfl) i (by simp only [upd_ne _ _ _ he]) (fun hi => hb.old _ (h.own i hi).2.2 (fun e => h.dj i id he hi hid e)) (fun _ _ hb' => hb') (fun j b hb' => hb.old b (h.sub i j b hb').2.2.1 (fun e => (h.sub i j b hb').2.2.2.1 id hid e.symm))
  · intro i j b hb'
    obtain ⟨m1, m2, m3, m4, m5⟩ := h.sub i j b hb'
    refine ⟨fun hs => hs.elim m1 (fun hs => m4 id hid hs.symm), m2, Nat.lt_of_lt_of_le m3 hb.size, fun k hk => ?_, m5⟩
    by_cases he : k = id
    · subst he; simp [upd_same] at hk
    · simp only [upd_ne _ _ _ he] at hk; exact m4 k hk
variable {ops : Array Oper} {cf : Oper → Bool} {K : AExit → St → Prop} {o : Oper} {rest : List Oper} {L : List (Nat × AV)} {O : List (Nat × Obj)}
end
end Go.Sim
