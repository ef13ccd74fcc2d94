/- What is proved: the program's structs as Lean's, how they lie in memory, and their equality. -/
import Derived.Test.YtomeghkmdcfolaaGreatDoorZPPTab

namespace Go.Sim.YtomeghkmdcfolaaGreatDoor
open Go.RowKit Go.Proofs Go.Proofs.Tryz
set_option maxRecDepth 100000
structure GRat where
 N : Int
 D : Int
abbrev GRat.zero : GRat := ⟨(0 : Int), (0 : Int)⟩
abbrev GRat.enc (x : GRat) : DV := .st [1, 1] [.v (.int .i64 x.N), .v (.int .i64 x.D)]
def GRat.beq (x y : GRat) : Bool := (x.N == y.N) && ((x.D == y.D) && true)
theorem GRat.eqok23 (d : Nat) (x y : GRat) : EqOk prog (d + 2) 23 (GRat.enc x) (GRat.enc y) (GRat.beq x y) :=
 EqOk.struct tabOk Tryz.underlying23 (by decide +kernel) ⟨by decide, rfl, ⟨te2, rfl, rfl, rfl⟩, _, _, (EqOk.int ok2 rfl), ⟨by decide, rfl, ⟨te2, rfl, rfl, rfl⟩, _, _, (EqOk.int ok2 rfl), rfl, rfl⟩, rfl⟩
theorem GRat.beq_iff (x y : GRat) : GRat.beq x y = true ↔ x = y := by
 cases x; cases y; simp [GRat.beq]
structure GTree where
 Kind : Int
 Name : ByteArray
 Alias : ByteArray
 N : Int
 M : Int
 Flag : Bool
 Num : GRat
 Kids : List GTree
abbrev GTree.zero : GTree := ⟨(0 : Int), (ByteArray.mk #[]), (ByteArray.mk #[]), (0 : Int), (0 : Int), false, GRat.zero, ([] : List GTree)⟩
mutual
def GTree.enc : GTree -> DV
 | ⟨x0, x1, x2, x3, x4, x5, x6, x7⟩ => .st [1, 1, 1, 1, 1, 1, 2, 1] [.v (.int .i64 x0), .v (.string x1), .v (.string x2), .v (.int .i64 x3), .v (.int .i64 x4), .v (.bool x5), GRat.enc x6, .sl 26 9 (GTree.encL x7)]
def GTree.encL : List GTree -> List DV
 | [] => []
 | x :: xs => GTree.enc x :: GTree.encL xs
end
theorem GTree.encL_map : ∀ xs : List GTree, GTree.encL xs = xs.map GTree.enc
 | [] => by simp [GTree.encL]
 | x :: xs => by simp [GTree.encL, GTree.encL_map xs]
abbrev GTree.out (x : GTree) : DV := .st [1, 1, 1, 1, 1, 1, 2, 1] [.v (.int .i64 x.Kind), .v (.string x.Name), .v (.string x.Alias), .v (.int .i64 x.N), .v (.int .i64 x.M), .v (.bool x.Flag), GRat.enc x.Num, .sl 26 9 (List.map GTree.enc x.Kids)]
theorem GTree.enc_out (x : GTree) : GTree.enc x = GTree.out x := by
 cases x; simp only [GTree.enc, GTree.out, GTree.encL_map]
theorem GTree.get {xs : List GTree} {m : Nat} {x : GTree} (h : xs[m]? = some x) : (xs.map GTree.enc)[m]? = some (GTree.out x) := by rw [← GTree.enc_out]; exact map_get h
structure Glexlexer where
 s_ : ByteArray
 at_ : Int
 words_ : List (ByteArray × Unit)
abbrev Glexlexer.zero : Glexlexer := ⟨(ByteArray.mk #[]), (0 : Int), ([] : List (ByteArray × Unit))⟩
abbrev Glexlexer.enc (x : Glexlexer) : DV := .st [1, 1, 1] [.v (.string x.s_), .v (.int .i64 x.at_), .mp (List.map (fun e => (fun s : ByteArray => Value.string s) e.1) x.words_) (List.map (fun e => (fun _ : Unit => DV.st [] []) e.2) x.words_)]
structure GToken where
 Kind : Int
 S : ByteArray
 Num : GRat
 At : Int
abbrev GToken.zero : GToken := ⟨(0 : Int), (ByteArray.mk #[]), GRat.zero, (0 : Int)⟩
abbrev GToken.enc (x : GToken) : DV := .st [1, 1, 2, 1] [.v (.int .i64 x.Kind), .v (.string x.S), GRat.enc x.Num, .v (.int .i64 x.At)]
structure Gref13Spec where
 Has : ByteArray
 From : Int
 To : Int
 M : Int
 Kids : ByteArray
abbrev Gref13Spec.zero : Gref13Spec := ⟨(ByteArray.mk #[]), (0 : Int), (0 : Int), (0 : Int), (ByteArray.mk #[])⟩
abbrev Gref13Spec.enc (x : Gref13Spec) : DV := .st [1, 1, 1, 1, 1] [.v (.string x.Has), .v (.int .i64 x.From), .v (.int .i64 x.To), .v (.int .i64 x.M), .v (.string x.Kids)]
def GRat.ok (x : GRat) : Prop := okInt .i64 x.N /\ okInt .i64 x.D
mutual
def GTree.ok : GTree -> Prop
 | ⟨x0, x1, x2, x3, x4, _, x6, x7⟩ => okInt .i64 x0 /\ x1.size <= maxLen /\ x2.size <= maxLen /\ okInt .i64 x3 /\ okInt .i64 x4 /\ GRat.ok x6 /\ (x7.length <= maxLen /\ GTree.okL x7)
def GTree.okL : List GTree -> Prop
 | [] => True
 | x :: xs => GTree.ok x /\ GTree.okL xs
end
theorem GTree.okL_iff : ∀ xs : List GTree, GTree.okL xs ↔ ∀ x ∈ xs, GTree.ok x
 | [] => by simp [GTree.okL]
 | x :: xs => by simp [GTree.okL, GTree.okL_iff xs]
theorem GTree.ok_iff (x : GTree) : GTree.ok x ↔ okInt .i64 x.Kind /\ x.Name.size <= maxLen /\ x.Alias.size <= maxLen /\ okInt .i64 x.N /\ okInt .i64 x.M /\ GRat.ok x.Num /\ (x.Kids.length <= maxLen /\ ∀ z0 ∈ x.Kids, GTree.ok z0) := by
 cases x; simp only [GTree.ok, GTree.okL_iff]
end Go.Sim.YtomeghkmdcfolaaGreatDoor
