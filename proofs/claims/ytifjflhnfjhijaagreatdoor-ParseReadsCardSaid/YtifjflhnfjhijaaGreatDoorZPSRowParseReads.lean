/- What is proved: the statement ParseReads, at every input that may be; the argument's data read as they did. -/
import Derived.Test.YtifjflhnfjhijaaGreatDoorRows
import Derived.Test.YtifjflhnfjhijaaGreatDoorCards
import Derived.Test.YtifjflhnfjhijaaGreatDoorTie
import Derived.SevenTiedAt
import Derived.LaidLaws
import Derived.LaidHandle
import Derived.Stop.LaidErr
import Derived.Handed
import Derived.Lib.LaidIn
import Derived.Test.YtifjflhnfjhijaaGreatDoorZPSWitR
import Derived.Test.YtifjflhnfjhijaaGreatDoorChecked
import Derived.Test.YtifjflhnfjhijaaGreatDoorZPSRatW
import Derived.Test.YtifjflhnfjhijaaGreatDoorZPSOpen
import Derived.WalkKit
import Derived.ProofKit
import Derived.OpenShut

namespace Go.Proofs.YtifjflhnfjhijaaGreatDoor.parseReads
open Go.Proofs.YtifjflhnfjhijaaGreatDoor Go.ChangeShapes Go.WideShapes Go.ChangeAt Go.RowKit Go.Sim Go.Sim.YtifjflhnfjhijaaGreatDoor
theorem own : ownKnob Tryz.prog.godebug = none := by kernel_rfl
theorem laid : laidOutB Tryz.prog = true := by kernel_rfl
theorem fine : qSp tab [9] = true := by decide +kernel
theorem conf_9 {x : DV} (h : Conf tab x 9) : ∃ a : ByteArray, x = .v (.string a) /\ a.size <= maxLen := by
 exact qSs (te := te9) rfl rfl h
theorem walk (xs : List DV) (h : qO8 tab xs [9]) : AFn Tryz.prog 3 xs (.v (.bool true)) false := by
 match xs, h with
 | [x0], h =>
  obtain ⟨h0, _⟩ := h
  obtain ⟨a0, rfl, k0⟩ := conf_9 h0
  exact qLl a0 k0
noncomputable def low : Nat := (World.holding Tryz.prog default ⟨#[], #[], []⟩).heap.size
noncomputable def laidWorld (os : Os) : World :=
  let w0 := World.holding Tryz.prog os ⟨#[.cells #[.string ⟨#[118, 97, 108, 117, 101, 32, 111, 117, 116, 32, 111, 102, 32, 114, 97, 110, 103, 101]⟩] 168, .cells #[.string ⟨#[105, 110, 118, 97, 108, 105, 100, 32, 115, 121, 110, 116, 97, 120]⟩] 168, .cells #[.int .u16 9, .int .u16 13, .int .u16 1, .int .u16 32, .int .u16 133, .int .u16 101, .int .u16 160, .int .u16 5760, .int .u16 5600, .int .u16 8192, .int .u16 8202, .int .u16 1, .int .u16 8232, .int .u16 8233, .int .u16 1, .int .u16 8239, .int .u16 8287, .int .u16 48, .int .u16 12288, .int .u16 12288, .int .u16 1] 131, .cells #[.slice (some ⟨low + 2, 0, none⟩) 7 7, .slice none 0 0, .int .i64 2] 128], #[], []⟩
  { w0 with heap := (((((((((w0.heap.modify 8 fun
      | .cells _ t frozen => .cells #[.int .u8 0, .int .u8 1, .int .u8 28, .int .u8 2, .int .u8 29, .int .u8 14, .int .u8 24, .int .u8 3, .int .u8 30, .int .u8 22, .int .u8 20, .int .u8 15, .int .u8 25, .int .u8 17, .int .u8 4, .int .u8 8, .int .u8 31, .int .u8 27, .int .u8 13, .int .u8 23, .int .u8 21, .int .u8 19, .int .u8 16, .int .u8 7, .int .u8 26, .int .u8 12, .int .u8 18, .int .u8 6, .int .u8 11, .int .u8 5, .int .u8 10, .int .u8 9] t frozen
      | o => o).modify 9 fun
      | .cells _ t frozen => .cells #[.int .u8 0, .int .u8 1, .int .u8 56, .int .u8 2, .int .u8 57, .int .u8 49, .int .u8 28, .int .u8 3, .int .u8 61, .int .u8 58, .int .u8 42, .int .u8 50, .int .u8 38, .int .u8 29, .int .u8 17, .int .u8 4, .int .u8 62, .int .u8 47, .int .u8 59, .int .u8 36, .int .u8 45, .int .u8 43, .int .u8 51, .int .u8 22, .int .u8 53, .int .u8 39, .int .u8 33, .int .u8 30, .int .u8 24, .int .u8 18, .int .u8 12, .int .u8 5, .int .u8 63, .int .u8 55, .int .u8 48, .int .u8 27, .int .u8 60, .int .u8 41, .int .u8 37, .int .u8 16, .int .u8 46, .int .u8 35, .int .u8 44, .int .u8 21, .int .u8 52, .int .u8 32, .int .u8 23, .int .u8 11, .int .u8 54, .int .u8 26, .int .u8 40, .int .u8 15, .int .u8 34, .int .u8 20, .int .u8 31, .int .u8 10, .int .u8 25, .int .u8 14, .int .u8 19, .int .u8 9, .int .u8 13, .int .u8 8, .int .u8 7, .int .u8 6] t frozen
      | o => o).modify 7 fun
      | .cells _ t frozen => .cells #[.int .u64 1, .int .u64 10, .int .u64 100, .int .u64 1000, .int .u64 10000, .int .u64 100000, .int .u64 1000000, .int .u64 10000000, .int .u64 100000000, .int .u64 1000000000, .int .u64 10000000000, .int .u64 100000000000, .int .u64 1000000000000, .int .u64 10000000000000, .int .u64 100000000000000, .int .u64 1000000000000000, .int .u64 10000000000000000, .int .u64 100000000000000000, .int .u64 1000000000000000000, .int .u64 10000000000000000000] t frozen
      | o => o).modify 6 fun
      | .cells _ t frozen => .cells #[.int .u8 128, .int .u8 191, .int .u8 160, .int .u8 191, .int .u8 128, .int .u8 159, .int .u8 144, .int .u8 191, .int .u8 128, .int .u8 143, .int .u8 0, .int .u8 0, .int .u8 0, .int .u8 0, .int .u8 0, .int .u8 0, .int .u8 0, .int .u8 0, .int .u8 0, .int .u8 0, .int .u8 0, .int .u8 0, .int .u8 0, .int .u8 0, .int .u8 0, .int .u8 0, .int .u8 0, .int .u8 0, .int .u8 0, .int .u8 0, .int .u8 0, .int .u8 0] t frozen
      | o => o).modify 4 fun
      | .cells _ t frozen => .cells #[.iface 166 (.pointer (some ⟨low + 0, 0, none⟩))] t frozen
      | o => o).modify 3 fun
      | .cells _ t frozen => .cells #[.iface 166 (.pointer (some ⟨low + 1, 0, none⟩))] t frozen
      | o => o).modify 1 fun
      | .cells _ t frozen => .cells #[.pointer (some ⟨low + 3, 0, none⟩)] t frozen
      | o => o).modify 0 fun
      | .cells _ t frozen => .cells #[.int .u8 0, .int .u8 0, .int .u8 0, .int .u8 0, .int .u8 0, .int .u8 0, .int .u8 0, .int .u8 0, .int .u8 0, .int .u8 1, .int .u8 1, .int .u8 1, .int .u8 1, .int .u8 1, .int .u8 0, .int .u8 0, .int .u8 0, .int .u8 0, .int .u8 0, .int .u8 0, .int .u8 0, .int .u8 0, .int .u8 0, .int .u8 0, .int .u8 0, .int .u8 0, .int .u8 0, .int .u8 0, .int .u8 0, .int .u8 0, .int .u8 0, .int .u8 0, .int .u8 1, .int .u8 0, .int .u8 0, .int .u8 0, .int .u8 0, .int .u8 0, .int .u8 0, .int .u8 0, .int .u8 0, .int .u8 0, .int .u8 0, .int .u8 0, .int .u8 0, .int .u8 0, .int .u8 0, .int .u8 0, .int .u8 0, .int .u8 0, .int .u8 0, .int .u8 0, .int .u8 0, .int .u8 0, .int .u8 0, .int .u8 0, .int .u8 0, .int .u8 0, .int .u8 0, .int .u8 0, .int .u8 0, .int .u8 0, .int .u8 0, .int .u8 0, .int .u8 0, .int .u8 0, .int .u8 0, .int .u8 0, .int .u8 0, .int .u8 0, .int .u8 0, .int .u8 0, .int .u8 0, .int .u8 0, .int .u8 0, .int .u8 0, .int .u8 0, .int .u8 0, .int .u8 0, .int .u8 0, .int .u8 0, .int .u8 0, .int .u8 0, .int .u8 0, .int .u8 0, .int .u8 0, .int .u8 0, .int .u8 0, .int .u8 0, .int .u8 0, .int .u8 0, .int .u8 0, .int .u8 0, .int .u8 0, .int .u8 0, .int .u8 0, .int .u8 0, .int .u8 0, .int .u8 0, .int .u8 0, .int .u8 0, .int .u8 0, .int .u8 0, .int .u8 0, .int .u8 0, .int .u8 0, .int .u8 0, .int .u8 0, .int .u8 0, .int .u8 0, .int .u8 0, .int .u8 0, .int .u8 0, .int .u8 0, .int .u8 0, .int .u8 0, .int .u8 0, .int .u8 0, .int .u8 0, .int .u8 0, .int .u8 0, .int .u8 0, .int .u8 0, .int .u8 0, .int .u8 0, .int .u8 0, .int .u8 0, .int .u8 0, .int .u8 0, .int .u8 0, .int .u8 0, .int .u8 0, .int .u8 0, .int .u8 0, .int .u8 0, .int .u8 0, .int .u8 0, .int .u8 0, .int .u8 0, .int .u8 0, .int .u8 0, .int .u8 0, .int .u8 0, .int .u8 0, .int .u8 0, .int .u8 0, .int .u8 0, .int .u8 0, .int .u8 0, .int .u8 0, .int .u8 0, .int .u8 0, .int .u8 0, .int .u8 0, .int .u8 0, .int .u8 0, .int .u8 0, .int .u8 0, .int .u8 0, .int .u8 0, .int .u8 0, .int .u8 0, .int .u8 0, .int .u8 0, .int .u8 0, .int .u8 0, .int .u8 0, .int .u8 0, .int .u8 0, .int .u8 0, .int .u8 0, .int .u8 0, .int .u8 0, .int .u8 0, .int .u8 0, .int .u8 0, .int .u8 0, .int .u8 0, .int .u8 0, .int .u8 0, .int .u8 0, .int .u8 0, .int .u8 0, .int .u8 0, .int .u8 0, .int .u8 0, .int .u8 0, .int .u8 0, .int .u8 0, .int .u8 0, .int .u8 0, .int .u8 0, .int .u8 0, .int .u8 0, .int .u8 0, .int .u8 0, .int .u8 0, .int .u8 0, .int .u8 0, .int .u8 0, .int .u8 0, .int .u8 0, .int .u8 0, .int .u8 0, .int .u8 0, .int .u8 0, .int .u8 0, .int .u8 0, .int .u8 0, .int .u8 0, .int .u8 0, .int .u8 0, .int .u8 0, .int .u8 0, .int .u8 0, .int .u8 0, .int .u8 0, .int .u8 0, .int .u8 0, .int .u8 0, .int .u8 0, .int .u8 0, .int .u8 0, .int .u8 0, .int .u8 0, .int .u8 0, .int .u8 0, .int .u8 0, .int .u8 0, .int .u8 0, .int .u8 0, .int .u8 0, .int .u8 0, .int .u8 0, .int .u8 0, .int .u8 0, .int .u8 0, .int .u8 0, .int .u8 0, .int .u8 0, .int .u8 0, .int .u8 0, .int .u8 0, .int .u8 0, .int .u8 0, .int .u8 0, .int .u8 0, .int .u8 0, .int .u8 0, .int .u8 0, .int .u8 0, .int .u8 0, .int .u8 0, .int .u8 0, .int .u8 0, .int .u8 0] t frozen
      | o => o).modify 5 fun
      | .cells _ t frozen => .cells (Go.Pinned.utf8FirstZ.map fun (z : Nat) => Value.int .u8 (z : Int)).toArray t frozen
      | o => o) }
theorem piece0 (os : Os) (args : Array Value) : LaidIn Tryz.prog ((laidWorld os).forCall (fun _ _ => 0) ⟨#[], args, []⟩).memory [("math/bits.deBruijn32tab", Rows.laid_math_bits_deBruijn32tab)] [8] :=
 LaidIn.of_run [8] 12 (by kernel_rfl) (by kernel_rfl) (by kernel_rfl) (by kernel_rfl)
theorem piece1 (os : Os) (args : Array Value) : LaidIn Tryz.prog ((laidWorld os).forCall (fun _ _ => 0) ⟨#[], args, []⟩).memory [("math/bits.deBruijn64tab", Rows.laid_math_bits_deBruijn64tab)] [9] :=
 LaidIn.of_run [9] 12 (by kernel_rfl) (by kernel_rfl) (by kernel_rfl) (by kernel_rfl)
theorem piece2 (os : Os) (args : Array Value) : LaidIn Tryz.prog ((laidWorld os).forCall (fun _ _ => 0) ⟨#[], args, []⟩).memory [("internal/strconv.uint64pow10", Rows.laid_internal_strconv_uint64pow10)] [7] :=
 LaidIn.of_run [7] 12 (by kernel_rfl) (by kernel_rfl) (by kernel_rfl) (by kernel_rfl)
theorem piece3 (os : Os) (args : Array Value) : LaidIn Tryz.prog ((laidWorld os).forCall (fun _ _ => 0) ⟨#[], args, []⟩).memory [("unicode/utf8.acceptRanges", Rows.laid_unicode_utf8_acceptRanges)] [6] :=
 LaidIn.of_run [6] 12 (by kernel_rfl) (by kernel_rfl) (by kernel_rfl) (by kernel_rfl)
theorem piece4 (os : Os) (args : Array Value) : LaidIn Tryz.prog ((laidWorld os).forCall (fun _ _ => 0) ⟨#[], args, []⟩).memory [("strconv.ErrRange", Rows.laid_strconv_ErrRange)] [4, low + 0] :=
 LaidIn.of_run [4, low + 0] 12 (by kernel_rfl) (by kernel_rfl) (by kernel_rfl) (by kernel_rfl)
theorem piece5 (os : Os) (args : Array Value) : LaidIn Tryz.prog ((laidWorld os).forCall (fun _ _ => 0) ⟨#[], args, []⟩).memory [("strconv.ErrSyntax", Rows.laid_strconv_ErrSyntax)] [3, low + 1] :=
 LaidIn.of_run [3, low + 1] 12 (by kernel_rfl) (by kernel_rfl) (by kernel_rfl) (by kernel_rfl)
theorem piece6 (os : Os) (args : Array Value) : LaidIn Tryz.prog ((laidWorld os).forCall (fun _ _ => 0) ⟨#[], args, []⟩).memory [("unicode.White_Space", Rows.laid_unicode_White_Space)] [1, low + 2, low + 3] :=
 LaidIn.of_run [1, low + 2, low + 3] 12 (by kernel_rfl) (by kernel_rfl) (by kernel_rfl) (by kernel_rfl)
theorem piece7 (os : Os) (args : Array Value) : LaidIn Tryz.prog ((laidWorld os).forCall (fun _ _ => 0) ⟨#[], args, []⟩).memory [("strings.asciiSpace", Rows.laid_strings_asciiSpace)] [0] :=
 LaidIn.of_run [0] 12 (by kernel_rfl) (by kernel_rfl) (by kernel_rfl) (by kernel_rfl)
theorem piece8 (os : Os) (args : Array Value) : LaidIn Tryz.prog ((laidWorld os).forCall (fun _ _ => 0) ⟨#[], args, []⟩).memory [("unicode/utf8.first", Rows.laid_unicode_utf8_first)] [5] :=
 LaidIn.of_run [5] 12 (by kernel_rfl) (by kernel_rfl) (by kernel_rfl) (by kernel_rfl)
theorem laidWorld_met (os : Os) (args : Array Value) : laidMetH Tryz.prog Rows.parseReadsRow.laid ((laidWorld os).forCall (fun _ _ => 0) ⟨#[], args, []⟩).memory := by
 have h : laidMet Tryz.prog Rows.parseReadsRow.laid ((laidWorld os).forCall (fun _ _ => 0) ⟨#[], args, []⟩).memory := (((((((((piece0 os args).append (piece1 os args) (by kernel_rfl)).append (piece2 os args) (by kernel_rfl)).append (piece3 os args) (by kernel_rfl)).append (piece4 os args) (by kernel_rfl)).append (piece5 os args) (by kernel_rfl)).append (piece6 os args) (by kernel_rfl)).append (piece7 os args) (by kernel_rfl)).append (piece8 os args) (by kernel_rfl)).met
 refine laidMetH_of_parts ?_ (by kernel_rfl)
 rw [show (Rows.parseReadsRow.laid.filter fun x => x.2.handleName?.isNone) = Rows.parseReadsRow.laid by kernel_rfl]
 exact h
theorem starErr : "*" ++ "errors.errorString" = "*errors.errorString" := by decide
theorem rowErr (u : TypeId) (h : Tryz.prog.typeName? 3 u = some "*errors.errorString") : u = 166 :=
 typeName_ptr_named (nm := "errors.errorString") (by rw [starErr]; kernel_rfl) (by kernel_rfl) (by decide) u (by rw [starErr]; exact h)
theorem errsyntax_cell {W : World} (h : laidMet Tryz.prog Rows.parseReadsRow.laid W) : ∃ t p, W.cell? ⟨3, 0, none⟩ = some (.iface t p) := by
 have h1 : laidMet Tryz.prog (("strconv.ErrSyntax", (.iface "*errors.errorString" (.ptr (.agg [.lit (.string [105, 110, 118, 97, 108, 105, 100, 32, 115, 121, 110, 116, 97, 120])])))) :: Rows.parseReadsRow.laid.drop 6) W := (laidMet.tail (laidMet.tail (laidMet.tail (laidMet.tail (laidMet.tail h)))))
 obtain ⟨a, s, hv, _⟩ := laid_sentinel (g := 3) (ti := 75) (tp := 166) (te := 168) (ts := 9) h1 (by kernel_rfl) (by kernel_rfl) Tryz.underlying75 rowErr Tryz.underlying166 Tryz.underlying168 rfl rfl Tryz.underlying9 (by kernel_rfl) (by kernel_rfl)
 exact ⟨_, _, by simpa using World.var?_cell (show Tryz.prog.globalNamed "strconv.ErrSyntax" = some 3 by kernel_rfl) hv 0⟩
theorem errrange_cell {W : World} (h : laidMet Tryz.prog Rows.parseReadsRow.laid W) : ∃ t p, W.cell? ⟨4, 0, none⟩ = some (.iface t p) := by
 have h1 : laidMet Tryz.prog (("strconv.ErrRange", (.iface "*errors.errorString" (.ptr (.agg [.lit (.string [118, 97, 108, 117, 101, 32, 111, 117, 116, 32, 111, 102, 32, 114, 97, 110, 103, 101])])))) :: Rows.parseReadsRow.laid.drop 5) W := (laidMet.tail (laidMet.tail (laidMet.tail (laidMet.tail h))))
 obtain ⟨a, s, hv, _⟩ := laid_sentinel (g := 4) (ti := 75) (tp := 166) (te := 168) (ts := 9) h1 (by kernel_rfl) (by kernel_rfl) Tryz.underlying75 rowErr Tryz.underlying166 Tryz.underlying168 rfl rfl Tryz.underlying9 (by kernel_rfl) (by kernel_rfl)
 exact ⟨_, _, by simpa using World.var?_cell (show Tryz.prog.globalNamed "strconv.ErrRange" = some 4 by kernel_rfl) hv 0⟩
theorem blanks_same : (Rows.laid_strings_asciiSpace : DataW Unit) = Lib.tabData .u8 Lib.asciiSpaceTab := by kernel_rfl
theorem blanks_named : Tryz.prog.globalNamed "strings.asciiSpace" = some 0 := by kernel_rfl
theorem blanks_of {W : World} (h : laidMet Tryz.prog Rows.parseReadsRow.laid W) : Lib.TabIs Tryz.prog W "strings.asciiSpace" .u8 Lib.asciiSpaceTab := by
 have h1 : laidMet Tryz.prog (("strings.asciiSpace", Rows.laid_strings_asciiSpace) :: Rows.parseReadsRow.laid.drop 8) W := (laidMet.tail (laidMet.tail (laidMet.tail (laidMet.tail (laidMet.tail (laidMet.tail (laidMet.tail h)))))))
 rw [blanks_same] at h1
 exact Lib.tabIs_of_head (t := 91) (e := 5) (n := 256) blanks_named (by kernel_rfl) (by kernel_rfl) (by kernel_rfl) (by kernel_rfl) (by kernel_rfl) h1
theorem glob_of {W : World} (h : laidMet Tryz.prog Rows.parseReadsRow.laid W) : GOk NoB W := by
 have h_blanks := blanks_of h
 have l_blanks : 0 < W.heap.size := by
  unfold Lib.TabIs World.var? at h_blanks
  rw [blanks_named] at h_blanks
  by_cases hc : 0 < W.heap.size
  ·exact hc
  ·have e : W.heap[0]? = none := Array.getElem?_eq_none (by omega)
   simp [e] at h_blanks
 obtain ⟨t4, p4, e4⟩ := errsyntax_cell h
 obtain ⟨t5, p5, e5⟩ := errrange_cell h
 have l4 := World.block_lt_of_cell? W _ e4
 have l5 := World.block_lt_of_cell? W _ e5
 intro w' hs ho
 refine ⟨?_, ⟨t4, p4, ?_⟩, ⟨t5, p5, ?_⟩⟩
 ·unfold Lib.TabIs World.var? at h_blanks ⊢
  rw [blanks_named] at h_blanks ⊢
  have e := ho 0 l_blanks (fun _ h => h)
  simp only [Option.bind_some] at h_blanks ⊢
  rw [e]; exact h_blanks
 ·rw [World.cell?_of_block (w := W) (ho 3 l4 (fun _ h => h))]; exact e4
 ·rw [World.cell?_of_block (w := W) (ho 4 l5 (fun _ h => h))]; exact e5
set_option maxRecDepth 100000 in
theorem lifted (os : Os) (started : os.Started) (H : Type) (enc : TypeId × Value -> H) :
    ReturnsInHanded {} Tryz.checked os 3 .any (fun w args => (Rows.parseReadsSpec.pre enc Tryz.prog Tryz.f3 Rows.parseReadsRow.domain false w args /\ laidMetH Tryz.prog Rows.parseReadsRow.laid w) /\ sizedMet enc Tryz.prog Tryz.f3 (OpenSpec.ofChange Rows.parseReadsSpec) false w args) (Rows.parseReadsSpec.post enc Tryz.prog Tryz.f3 false true false false) := by
  refine returnsInHanded_of_change_and (X := fun w _ => laidMetH Tryz.prog Rows.parseReadsRow.laid w) (C := Tryz.checked) (fun _ _ _ hh h => h.of_heap hh) own started (by kernel_rfl) Tryz.func3
    (qPc (enc := enc) (C := Tryz.checked) (os := os) (X := fun w _ => laidMetH Tryz.prog Rows.parseReadsRow.laid w) false (laidWorld os) #[.string ⟨#[]⟩] 8 rfl (by kernel_rfl) (by kernel_rfl) (by kernel_rfl) (by kernel_rfl) (by kernel_rfl) (laidWorld_met os _)) ?_
  intro W base args ds gs before hval0 hW hcnd _ hX _
  have hW' := hW
  have hlt := hW.lt
  obtain ⟨p, q, hA0, hV, rfl, hfz, hnd⟩ := hW
  have hA : DataW.TrodAll enc Tryz.prog W 0 (fun _ => true) true Tryz.f3.params.toList args.toList ds p := hA0
  rw [Tryz.params3] at hA
  obtain ⟨rfl, rfl⟩ := trodVars_none hV
  obtain ⟨xs, hxs, hcs⟩ := qPb (r := .any) (b := base) q01 fine [9] args.toList ds p (by decide) (fun j t v hj hv => hval0 j t v (by rw [Tryz.params3]; simpa using hj) (by simpa using hv)) hA
  have hw := walk xs hcs
  have hlen := qJr [9] args.toList ds p hA
  obtain ⟨d0, rfl⟩ := qWc hlen
  simp only [List.append_nil] at hW' hlt
  have hcall := hw.2 (fun _ => True) W args.toList (glob_of hX) hxs
  rw [show args.toList.toArray = args by simp] at hcall
  refine hcall.mono fun e W' ⟨v, he, hb, hv⟩ => ?_
  obtain ⟨hv1, _⟩ := hv
  simp only [List.cons.injEq, and_true] at hv1
  subst he hv1
  refine ⟨_, rfl, qQ6 (ds := [d0]) (gs := []) (pa := p) (pv := []) (by simpa using hW') (trodAll_cons_mk (shut_bool Tryz.underlying4 _) trodAll_mk0) ?_ rfl hb⟩
  show DataW.TrodAll enc Tryz.prog W' 0 _ true Tryz.f3.params.toList args.toList [d0] p
  rw [Tryz.params3]
  exact qN2 laid hb [9] args.toList _ p (by kernel_rfl) hA (fun x hx => hlt x hx) _ (fun x hx => by simpa using hlt x hx)
theorem over : Rows.parseReadsRow.holds Tryz.pinned (OpenSpec.ofChange Rows.parseReadsSpec) :=
 OpenClaim.holds_of_wide 3 Tryz.f3 rfl rfl rfl rfl rfl rfl rfl ⟨rfl, rfl, rfl, rfl, rfl⟩ rfl rfl rfl rfl rfl (by kernel_rfl) Tryz.func3 (by kernel_rfl)
  (of_decide_eq_true (by kernel_rfl)) (by unfold Func.isWrapper; first | (rw [if_pos (by decide +kernel)]; kernel_rfl) | (rw [if_neg (by decide +kernel)]; exact ⟨rfl, rfl⟩))
  (fun os started H enc _ => lifted os started H enc)
theorem row : Rows.ParseReadsSaid := over
theorem proved : Rows.ParseReadsCardSaid :=
 Claim7.holds_tied_plain_at .later [] [.data, .data, .data, .data, .sentinel, .sentinel, .listed, .data, .pinned] true (true, "cc75a090b118012b63ece250c76ad06cc3a36e3674dbb7ab84c66ff359da724f") true
  row (fun _ h => by cases h) (by kernel_rfl) (fun _ h => by cases h) parseReads_row_tie rfl ⟨rfl, rfl⟩ (by kernel_rfl) rfl
  (fun f fn hf hfn => by
   obtain rfl : f = 3 := Option.some.inj ((show Tryz.prog.funcNamed "orrery/orrerylaw13.ParseReads" = some 3 by kernel_rfl).symm.trans hf) |>.symm
   obtain rfl : fn = Tryz.f3 := (Option.some.inj (Tryz.func3.symm.trans hfn)).symm
   exact ⟨by kernel_rfl, fun j t ht => by
    rw [Tryz.params3] at ht
    have hall : ∀ t ∈ ([9] : List Nat), Tryz.prog.wantsStandIn t = false := by
     intro t ht
     simp only [List.mem_cons, List.mem_nil_iff, or_false] at ht
     rcases ht with rfl <;> kernel_rfl
    refine hall t ?_
    have := List.mem_of_getElem? (show ([9] : List Nat)[j]? = some t by simpa using ht)
    exact this⟩)
  (by kernel_rfl)
end Go.Proofs.YtifjflhnfjhijaaGreatDoor.parseReads
