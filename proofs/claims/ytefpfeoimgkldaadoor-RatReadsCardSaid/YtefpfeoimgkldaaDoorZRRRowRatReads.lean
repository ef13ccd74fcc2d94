/- What is proved: the statement RatReads, at every input that may be; the argument's data read as they did. -/
import Derived.Test.YtefpfeoimgkldaaDoorRows
import Derived.Test.YtefpfeoimgkldaaDoorCards
import Derived.Test.YtefpfeoimgkldaaDoorTie
import Derived.SevenTiedAt
import Derived.LaidLaws
import Derived.LaidHandle
import Derived.Stop.LaidErr
import Derived.Handed
import Derived.Lib.LaidIn
import Derived.Test.YtefpfeoimgkldaaDoorZRRWitR
import Derived.Test.YtefpfeoimgkldaaDoorChecked
import Derived.Test.YtefpfeoimgkldaaDoorZRRStrX
import Derived.Test.YtefpfeoimgkldaaDoorZRROpen
import Derived.WalkKit
import Derived.ProofKit
import Derived.OpenShut

namespace Go.Proofs.YtefpfeoimgkldaaDoor.ratReads
open Go.Proofs.YtefpfeoimgkldaaDoor Go.ChangeShapes Go.WideShapes Go.ChangeAt Go.RowKit Go.Sim Go.Sim.YtefpfeoimgkldaaDoor
theorem own : ownKnob Tryd.prog.godebug = none := by kernel_rfl
theorem laid : laidOutB Tryd.prog = true := by kernel_rfl
theorem fine : goodB tab [9] = true := by decide +kernel
theorem conf_9 {x : DV} (h : Conf tab x 9) : ∃ a : ByteArray, x = .v (.string a) ∧ a.size ≤ maxLen := by
  exact conf_str' (te := te9) rfl rfl h
theorem walk (xs : List DV) (h : ConfAll tab xs [9]) : AFn Tryd.prog 3 xs (.v (.bool true)) false := by
  match xs, h with
  | [x0], h =>
    obtain ⟨h0, _⟩ := h
    obtain ⟨a0, rfl, k0⟩ := conf_9 h0
    exact ratReads_ev a0 k0
noncomputable def low : Nat := (World.holding Tryd.prog default ⟨#[], #[], []⟩).heap.size
/-- A world that meets what is asked of the listed variables. -/
noncomputable def laidWorld (os : Os) : World :=
  let w0 := World.holding Tryd.prog os ⟨#[.cells #[.string ⟨#[118, 97, 108, 117, 101, 32, 111, 117, 116, 32, 111, 102, 32, 114, 97, 110, 103, 101]⟩] 103, .cells #[.string ⟨#[105, 110, 118, 97, 108, 105, 100, 32, 115, 121, 110, 116, 97, 120]⟩] 103], #[], []⟩
  { w0 with heap := (((((((w0.heap.modify 6 fun
      | .cells _ t frozen => .cells #[.int .u8 0, .int .u8 1, .int .u8 28, .int .u8 2, .int .u8 29, .int .u8 14, .int .u8 24, .int .u8 3, .int .u8 30, .int .u8 22, .int .u8 20, .int .u8 15, .int .u8 25, .int .u8 17, .int .u8 4, .int .u8 8, .int .u8 31, .int .u8 27, .int .u8 13, .int .u8 23, .int .u8 21, .int .u8 19, .int .u8 16, .int .u8 7, .int .u8 26, .int .u8 12, .int .u8 18, .int .u8 6, .int .u8 11, .int .u8 5, .int .u8 10, .int .u8 9] t frozen
      | o => o).modify 7 fun
      | .cells _ t frozen => .cells #[.int .u8 0, .int .u8 1, .int .u8 56, .int .u8 2, .int .u8 57, .int .u8 49, .int .u8 28, .int .u8 3, .int .u8 61, .int .u8 58, .int .u8 42, .int .u8 50, .int .u8 38, .int .u8 29, .int .u8 17, .int .u8 4, .int .u8 62, .int .u8 47, .int .u8 59, .int .u8 36, .int .u8 45, .int .u8 43, .int .u8 51, .int .u8 22, .int .u8 53, .int .u8 39, .int .u8 33, .int .u8 30, .int .u8 24, .int .u8 18, .int .u8 12, .int .u8 5, .int .u8 63, .int .u8 55, .int .u8 48, .int .u8 27, .int .u8 60, .int .u8 41, .int .u8 37, .int .u8 16, .int .u8 46, .int .u8 35, .int .u8 44, .int .u8 21, .int .u8 52, .int .u8 32, .int .u8 23, .int .u8 11, .int .u8 54, .int .u8 26, .int .u8 40, .int .u8 15, .int .u8 34, .int .u8 20, .int .u8 31, .int .u8 10, .int .u8 25, .int .u8 14, .int .u8 19, .int .u8 9, .int .u8 13, .int .u8 8, .int .u8 7, .int .u8 6] t frozen
      | o => o).modify 5 fun
      | .cells _ t frozen => .cells #[.int .u64 1, .int .u64 10, .int .u64 100, .int .u64 1000, .int .u64 10000, .int .u64 100000, .int .u64 1000000, .int .u64 10000000, .int .u64 100000000, .int .u64 1000000000, .int .u64 10000000000, .int .u64 100000000000, .int .u64 1000000000000, .int .u64 10000000000000, .int .u64 100000000000000, .int .u64 1000000000000000, .int .u64 10000000000000000, .int .u64 100000000000000000, .int .u64 1000000000000000000, .int .u64 10000000000000000000] t frozen
      | o => o).modify 3 fun
      | .cells _ t frozen => .cells #[.int .u8 128, .int .u8 191, .int .u8 160, .int .u8 191, .int .u8 128, .int .u8 159, .int .u8 144, .int .u8 191, .int .u8 128, .int .u8 143, .int .u8 0, .int .u8 0, .int .u8 0, .int .u8 0, .int .u8 0, .int .u8 0, .int .u8 0, .int .u8 0, .int .u8 0, .int .u8 0, .int .u8 0, .int .u8 0, .int .u8 0, .int .u8 0, .int .u8 0, .int .u8 0, .int .u8 0, .int .u8 0, .int .u8 0, .int .u8 0, .int .u8 0, .int .u8 0] t frozen
      | o => o).modify 1 fun
      | .cells _ t frozen => .cells #[.iface 101 (.pointer (some ⟨low + 0, 0, none⟩))] t frozen
      | o => o).modify 0 fun
      | .cells _ t frozen => .cells #[.iface 101 (.pointer (some ⟨low + 1, 0, none⟩))] t frozen
      | o => o).modify 2 fun
      | .cells _ t frozen => .cells (Go.Pinned.utf8FirstZ.map fun (z : Nat) => Value.int .u8 (z : Int)).toArray t frozen
      | o => o) }
theorem piece0 (os : Os) (args : Array Value) : LaidIn Tryd.prog ((laidWorld os).forCall (fun _ _ => 0) ⟨#[], args, []⟩).memory [("math/bits.deBruijn32tab", Rows.laid_math_bits_deBruijn32tab)] [6] :=
  LaidIn.of_run [6] 12 (by kernel_rfl) (by kernel_rfl) (by kernel_rfl) (by kernel_rfl)
theorem piece1 (os : Os) (args : Array Value) : LaidIn Tryd.prog ((laidWorld os).forCall (fun _ _ => 0) ⟨#[], args, []⟩).memory [("math/bits.deBruijn64tab", Rows.laid_math_bits_deBruijn64tab)] [7] :=
  LaidIn.of_run [7] 12 (by kernel_rfl) (by kernel_rfl) (by kernel_rfl) (by kernel_rfl)
theorem piece2 (os : Os) (args : Array Value) : LaidIn Tryd.prog ((laidWorld os).forCall (fun _ _ => 0) ⟨#[], args, []⟩).memory [("internal/strconv.uint64pow10", Rows.laid_internal_strconv_uint64pow10)] [5] :=
  LaidIn.of_run [5] 12 (by kernel_rfl) (by kernel_rfl) (by kernel_rfl) (by kernel_rfl)
theorem piece3 (os : Os) (args : Array Value) : LaidIn Tryd.prog ((laidWorld os).forCall (fun _ _ => 0) ⟨#[], args, []⟩).memory [("unicode/utf8.acceptRanges", Rows.laid_unicode_utf8_acceptRanges)] [3] :=
  LaidIn.of_run [3] 12 (by kernel_rfl) (by kernel_rfl) (by kernel_rfl) (by kernel_rfl)
theorem piece4 (os : Os) (args : Array Value) : LaidIn Tryd.prog ((laidWorld os).forCall (fun _ _ => 0) ⟨#[], args, []⟩).memory [("strconv.ErrRange", Rows.laid_strconv_ErrRange)] [1, low + 0] :=
  LaidIn.of_run [1, low + 0] 12 (by kernel_rfl) (by kernel_rfl) (by kernel_rfl) (by kernel_rfl)
theorem piece5 (os : Os) (args : Array Value) : LaidIn Tryd.prog ((laidWorld os).forCall (fun _ _ => 0) ⟨#[], args, []⟩).memory [("strconv.ErrSyntax", Rows.laid_strconv_ErrSyntax)] [0, low + 1] :=
  LaidIn.of_run [0, low + 1] 12 (by kernel_rfl) (by kernel_rfl) (by kernel_rfl) (by kernel_rfl)
theorem piece6 (os : Os) (args : Array Value) : LaidIn Tryd.prog ((laidWorld os).forCall (fun _ _ => 0) ⟨#[], args, []⟩).memory [("unicode/utf8.first", Rows.laid_unicode_utf8_first)] [2] :=
  LaidIn.of_run [2] 12 (by kernel_rfl) (by kernel_rfl) (by kernel_rfl) (by kernel_rfl)
theorem laidWorld_met (os : Os) (args : Array Value) : laidMetH Tryd.prog Rows.ratReadsRow.laid ((laidWorld os).forCall (fun _ _ => 0) ⟨#[], args, []⟩).memory := by
  have h : laidMet Tryd.prog Rows.ratReadsRow.laid ((laidWorld os).forCall (fun _ _ => 0) ⟨#[], args, []⟩).memory := (((((((piece0 os args).append (piece1 os args) (by kernel_rfl)).append (piece2 os args) (by kernel_rfl)).append (piece3 os args) (by kernel_rfl)).append (piece4 os args) (by kernel_rfl)).append (piece5 os args) (by kernel_rfl)).append (piece6 os args) (by kernel_rfl)).met
  refine laidMetH_of_parts ?_ (by kernel_rfl)
  rw [show (Rows.ratReadsRow.laid.filter fun x => x.2.handleName?.isNone) = Rows.ratReadsRow.laid by kernel_rfl]
  exact h
theorem starErr : "*" ++ "errors.errorString" = "*errors.errorString" := by decide
theorem rowErr (u : TypeId) (h : Tryd.prog.typeName? 3 u = some "*errors.errorString") : u = 101 :=
  typeName_ptr_named (nm := "errors.errorString") (by rw [starErr]; kernel_rfl) (by kernel_rfl) (by decide) u (by rw [starErr]; exact h)
theorem errsyntax_cell {W : World} (h : laidMet Tryd.prog Rows.ratReadsRow.laid W) : ∃ t p, W.cell? ⟨0, 0, none⟩ = some (.iface t p) := by
  have h1 : laidMet Tryd.prog (("strconv.ErrSyntax", (.iface "*errors.errorString" (.ptr (.agg [.lit (.string [105, 110, 118, 97, 108, 105, 100, 32, 115, 121, 110, 116, 97, 120])])))) :: Rows.ratReadsRow.laid.drop 6) W := (laidMet.tail (laidMet.tail (laidMet.tail (laidMet.tail (laidMet.tail h)))))
  obtain ⟨a, s, hv, _⟩ := laid_sentinel (g := 0) (ti := 34) (tp := 101) (te := 103) (ts := 9) h1 (by kernel_rfl) (by kernel_rfl) Tryd.underlying34 rowErr Tryd.underlying101 Tryd.underlying103 rfl rfl Tryd.underlying9 (by kernel_rfl) (by kernel_rfl)
  exact ⟨_, _, by simpa using World.var?_cell (show Tryd.prog.globalNamed "strconv.ErrSyntax" = some 0 by kernel_rfl) hv 0⟩
theorem errrange_cell {W : World} (h : laidMet Tryd.prog Rows.ratReadsRow.laid W) : ∃ t p, W.cell? ⟨1, 0, none⟩ = some (.iface t p) := by
  have h1 : laidMet Tryd.prog (("strconv.ErrRange", (.iface "*errors.errorString" (.ptr (.agg [.lit (.string [118, 97, 108, 117, 101, 32, 111, 117, 116, 32, 111, 102, 32, 114, 97, 110, 103, 101])])))) :: Rows.ratReadsRow.laid.drop 5) W := (laidMet.tail (laidMet.tail (laidMet.tail (laidMet.tail h))))
  obtain ⟨a, s, hv, _⟩ := laid_sentinel (g := 1) (ti := 34) (tp := 101) (te := 103) (ts := 9) h1 (by kernel_rfl) (by kernel_rfl) Tryd.underlying34 rowErr Tryd.underlying101 Tryd.underlying103 rfl rfl Tryd.underlying9 (by kernel_rfl) (by kernel_rfl)
  exact ⟨_, _, by simpa using World.var?_cell (show Tryd.prog.globalNamed "strconv.ErrRange" = some 1 by kernel_rfl) hv 0⟩
theorem glob_of {W : World} (h : laidMet Tryd.prog Rows.ratReadsRow.laid W) : GOk NoB W := by
  obtain ⟨t4, p4, e4⟩ := errsyntax_cell h
  obtain ⟨t5, p5, e5⟩ := errrange_cell h
  have l4 := World.block_lt_of_cell? W _ e4
  have l5 := World.block_lt_of_cell? W _ e5
  intro w' hs ho
  refine ⟨⟨t4, p4, ?_⟩, ⟨t5, p5, ?_⟩⟩
  · rw [World.cell?_of_block (w := W) (ho 0 l4 (fun _ h => h))]; exact e4
  · rw [World.cell?_of_block (w := W) (ho 1 l5 (fun _ h => h))]; exact e5
set_option maxRecDepth 100000 in
theorem lifted (os : Os) (started : os.Started) (H : Type) (enc : TypeId × Value → H) :
    ReturnsInHanded {} Tryd.checked os 3 .any (fun w args => (Rows.ratReadsSpec.pre enc Tryd.prog Tryd.f3 Rows.ratReadsRow.domain false w args ∧ laidMetH Tryd.prog Rows.ratReadsRow.laid w) ∧ sizedMet enc Tryd.prog Tryd.f3 (OpenSpec.ofChange Rows.ratReadsSpec) false w args) (Rows.ratReadsSpec.post enc Tryd.prog Tryd.f3 false true false false) := by
  refine returnsInHanded_of_change_and (X := fun w _ => laidMetH Tryd.prog Rows.ratReadsRow.laid w) (C := Tryd.checked) (fun _ _ _ hh h => h.of_heap hh) own started (by kernel_rfl) Tryd.func3
    (witnessRef (enc := enc) (C := Tryd.checked) (os := os) (X := fun w _ => laidMetH Tryd.prog Rows.ratReadsRow.laid w) false (laidWorld os) #[.string ⟨#[]⟩] 8 rfl (by kernel_rfl) (by kernel_rfl) (by kernel_rfl) (by kernel_rfl) (by kernel_rfl) (laidWorld_met os _)) ?_
  intro W base args ds gs before hval0 hW hcnd _ hX _
  have hW' := hW
  have hlt := hW.lt
  obtain ⟨p, q, hA0, hV, rfl, hfz, hnd⟩ := hW
  have hA : DataW.TrodAll enc Tryd.prog W 0 (fun _ => true) true Tryd.f3.params.toList args.toList ds p := hA0
  rw [Tryd.params3] at hA
  obtain ⟨rfl, rfl⟩ := trodVars_none hV
  obtain ⟨xs, hxs, hcs⟩ := args_rep (r := .any) (b := base) tabOk fine [9] args.toList ds p (by decide) (fun j t v hj hv => hval0 j t v (by rw [Tryd.params3]; simpa using hj) (by simpa using hv)) hA
  have hw := walk xs hcs
  have hlen := trodAll_len [9] args.toList ds p hA
  obtain ⟨d0, rfl⟩ := len_eq1 hlen
  simp only [List.append_nil] at hW' hlt
  have hcall := hw.2 (fun _ => True) W args.toList (glob_of hX) hxs
  rw [show args.toList.toArray = args by simp] at hcall
  refine hcall.mono fun e W' ⟨v, he, hb, hv⟩ => ?_
  obtain ⟨hv1, _⟩ := hv
  simp only [List.cons.injEq, and_true] at hv1
  subst he hv1
  refine ⟨_, rfl, post_below (ds := [d0]) (gs := []) (pa := p) (pv := []) (by simpa using hW') (trodAll_cons_mk (shut_bool Tryd.underlying4 _) trodAll_mk0) ?_ rfl hb⟩
  show DataW.TrodAll enc Tryd.prog W' 0 _ true Tryd.f3.params.toList args.toList [d0] p
  rw [Tryd.params3]
  exact args_stay laid hb [9] args.toList _ p (by kernel_rfl) hA (fun x hx => hlt x hx) _ (fun x hx => by simpa using hlt x hx)
theorem over : Rows.ratReadsRow.holds Tryd.pinned (OpenSpec.ofChange Rows.ratReadsSpec) :=
  OpenClaim.holds_of_wide 3 Tryd.f3 rfl rfl rfl rfl rfl rfl rfl ⟨rfl, rfl, rfl, rfl, rfl⟩ rfl rfl rfl rfl rfl (by kernel_rfl) Tryd.func3 (by kernel_rfl)
    (of_decide_eq_true (by kernel_rfl)) (by unfold Func.isWrapper; first | (rw [if_pos (by decide +kernel)]; kernel_rfl) | (rw [if_neg (by decide +kernel)]; exact ⟨rfl, rfl⟩))
    (fun os started H enc _ => lifted os started H enc)
/-- The row. -/
theorem row : Rows.RatReadsSaid := over
/-- The statement: the card, its listed variables tied to the program's text. -/
theorem proved : Rows.RatReadsCardSaid :=
  Claim7.holds_tied_plain_at .later [] [.data, .data, .data, .data, .sentinel, .sentinel, .pinned] true (true, "e2c60cc2f0964c3835db4cb3d842261c73b35549299933b932f2d6cb369c7408") true
    row (fun _ h => by cases h) (by kernel_rfl) (fun _ h => by cases h) ratReads_row_tie rfl ⟨rfl, rfl⟩ (by kernel_rfl) rfl
    (fun f fn hf hfn => by
      obtain rfl : f = 3 := Option.some.inj ((show Tryd.prog.funcNamed "orrery/orrerylaw11.RatReads" = some 3 by kernel_rfl).symm.trans hf) |>.symm
      obtain rfl : fn = Tryd.f3 := (Option.some.inj (Tryd.func3.symm.trans hfn)).symm
      exact ⟨by kernel_rfl, fun j t ht => by
        rw [Tryd.params3] at ht
        have hall : ∀ t ∈ ([9] : List Nat), Tryd.prog.wantsStandIn t = false := by
          intro t ht
          simp only [List.mem_cons, List.mem_nil_iff, or_false] at ht
          rcases ht with rfl <;> kernel_rfl
        refine hall t ?_
        have := List.mem_of_getElem? (show ([9] : List Nat)[j]? = some t by simpa using ht)
        exact this⟩)
    (by kernel_rfl)
end Go.Proofs.YtefpfeoimgkldaaDoor.ratReads
