/- What is proved: the statement RatTells, at every input that may be; the argument's data read as they did. -/
import Derived.Test.YtlglkgineclggaaDoorRows
import Derived.Test.YtlglkgineclggaaDoorCards
import Derived.Test.YtlglkgineclggaaDoorTie
import Derived.SevenTiedAt
import Derived.LaidLaws
import Derived.LaidHandle
import Derived.Stop.LaidErr
import Derived.Handed
import Derived.Test.YtlglkgineclggaaDoorChecked
import Derived.Test.YtlglkgineclggaaDoorZRTLawRT
import Derived.Test.YtlglkgineclggaaDoorZRTOpen
import Derived.WalkKit
import Derived.ProofKit
import Derived.OpenShut
namespace Go.Proofs.YtlglkgineclggaaDoor.ratTells
open Go.Proofs.YtlglkgineclggaaDoor Go.ChangeShapes Go.WideShapes Go.ChangeAt Go.RowKit Go.Sim Go.Sim.YtlglkgineclggaaDoor
theorem own : ownKnob Tryd.prog.godebug = none := by kernel_rfl
theorem laid : laidOutB Tryd.prog = true := by kernel_rfl
theorem fine : goodB tab [2, 23] = true := by decide +kernel
theorem conf_2 {x : DV} (h : Conf tab x 2) : ∃ a : Int, x = .v (.int .i64 a) ∧ okInt .i64 a := by
  exact conf_int' (te := te2) rfl rfl h
theorem conf_23 {x : DV} (h : Conf tab x 23) : ∃ a : GRat, x = GRat.enc a ∧ GRat.ok a := by
  obtain ⟨ns, xs, rfl, hf⟩ := conf_st' (te := te23) rfl rfl h
  obtain ⟨y0, xs, ns, rfl, rfl, h0, hf⟩ := confF_cons (te := te2) rfl hf
  obtain ⟨y1, xs, ns, rfl, rfl, h1, hf⟩ := confF_cons (te := te2) rfl hf
  obtain ⟨rfl, rfl⟩ := confF_nil hf
  obtain ⟨a0, rfl, k0⟩ := conf_2 h0
  obtain ⟨a1, rfl, k1⟩ := conf_2 h1
  exact ⟨⟨a0, a1⟩, rfl, k0, k1⟩
theorem walk (xs : List DV) (h : ConfAll tab xs [23]) : AFn Tryd.prog 3 xs (.v (.bool true)) false := by
  match xs, h with
  | [x0], h =>
    obtain ⟨h0, _⟩ := h
    obtain ⟨a0, rfl, k0⟩ := conf_23 h0
    exact ratTells_ev a0 k0
/-- A world that meets what is asked of the listed variables. -/
noncomputable def laidWorld (os : Os) : World :=
  let w0 := World.holding Tryd.prog os ⟨#[], #[], []⟩
  { w0 with heap := (((w0.heap.modify 8 fun
      | .cells _ t frozen => .cells (([0, 1, 28, 2, 29, 14, 24, 3, 30, 22, 20, 15, 25, 17, 4, 8, 31, 27, 13, 23, 21, 19, 16, 7, 26, 12, 18, 6, 11, 5, 10, 9] : List Int).map fun z => Value.int .u8 z).toArray t frozen
      | o => o).modify 9 fun
      | .cells _ t frozen => .cells (([0, 1, 56, 2, 57, 49, 28, 3, 61, 58, 42, 50, 38, 29, 17, 4, 62, 47, 59, 36, 45, 43, 51, 22, 53, 39, 33, 30, 24, 18, 12, 5, 63, 55, 48, 27, 60, 41, 37, 16, 46, 35, 44, 21, 52, 32, 23, 11, 54, 26, 40, 15, 34, 20, 31, 10, 25, 14, 19, 9, 13, 8, 7, 6] : List Int).map fun z => Value.int .u8 z).toArray t frozen
      | o => o).modify 3 fun
      | .cells _ t frozen => .cells (([1, 10, 100, 1000, 10000, 100000, 1000000, 10000000, 100000000, 1000000000, 10000000000, 100000000000, 1000000000000, 10000000000000, 100000000000000, 1000000000000000, 10000000000000000, 100000000000000000, 1000000000000000000, 10000000000000000000] : List Int).map fun z => Value.int .u64 z).toArray t frozen
      | o => o) }
theorem laidWorld_met (os : Os) (args : Array Value) : laidMetH Tryd.prog Rows.ratTellsRow.laid ((laidWorld os).forCall (fun _ _ => 0) ⟨#[], args, []⟩).memory :=
  laidMetH_of_parts (laidMet_of_run' 8 (by kernel_rfl) (by kernel_rfl)) (by kernel_rfl)
theorem pow10_same : (Rows.laid_internal_strconv_uint64pow10 : DataW Unit) = Lib.tabData .u64 Lib.pow10Tab := by kernel_rfl
theorem pow10_named : Tryd.prog.globalNamed "internal/strconv.uint64pow10" = some 3 := by kernel_rfl
theorem glob_of {W : World} (h : laidMet Tryd.prog Rows.ratTellsRow.laid W) : GOk NoB W := by
  have h1 : laidMet Tryd.prog (("internal/strconv.uint64pow10", Rows.laid_internal_strconv_uint64pow10) :: Rows.ratTellsRow.laid.drop 3) W := (laidMet.tail (laidMet.tail h))
  rw [pow10_same] at h1
  have h2 : Lib.TabIs Tryd.prog W "internal/strconv.uint64pow10" .u64 Lib.pow10Tab := Lib.tabIs_of_head (t := 137) (e := 39) (n := 20) pow10_named (by kernel_rfl) (by kernel_rfl) (by kernel_rfl) (by kernel_rfl) (by kernel_rfl) h1
  intro w' hs ho
  show Lib.TabIs Tryd.prog w' _ _ _
  unfold Lib.TabIs World.var? at h2 ⊢
  rw [pow10_named] at h2 ⊢
  have hlt : 3 < W.heap.size := by
    by_cases hc : 3 < W.heap.size
    · exact hc
    · have e : W.heap[3]? = none := Array.getElem?_eq_none (by omega)
      simp [e] at h2
  have e := ho 3 hlt (fun _ h => h)
  simp only [Option.bind_some] at h2 ⊢
  rw [e]; exact h2
set_option maxRecDepth 100000 in
theorem lifted (os : Os) (started : os.Started) (H : Type) (enc : TypeId × Value → H) :
    ReturnsInHanded {} Tryd.checked os 3 .any (fun w args => (Rows.ratTellsSpec.pre enc Tryd.prog Tryd.f3 Rows.ratTellsRow.domain false w args ∧ laidMetH Tryd.prog Rows.ratTellsRow.laid w) ∧ sizedMet enc Tryd.prog Tryd.f3 (OpenSpec.ofChange Rows.ratTellsSpec) false w args) (Rows.ratTellsSpec.post enc Tryd.prog Tryd.f3 false true false false) := by
  refine returnsInHanded_of_change_and (X := fun w _ => laidMetH Tryd.prog Rows.ratTellsRow.laid w) (C := Tryd.checked) (fun _ _ _ hh h => h.of_heap hh) own started (by kernel_rfl) Tryd.func3
    (ChangeSpec.witness_at (enc := enc) (C := Tryd.checked) (os := os) (X := fun w _ => laidMetH Tryd.prog Rows.ratTellsRow.laid w) false (laidWorld os) #[.agg #[.int .i64 0, .int .i64 0]] 8 rfl (by kernel_rfl) (by kernel_rfl) (by kernel_rfl) (by kernel_rfl) (by kernel_rfl) (laidWorld_met os _)) ?_
  intro W base args ds gs before hval0 hW hcnd _ hX _
  have hW' := hW
  have hlt := hW.lt
  obtain ⟨p, q, hA0, hV, rfl, hfz, hnd⟩ := hW
  have hA : DataW.TrodAll enc Tryd.prog W 0 (fun _ => true) true Tryd.f3.params.toList args.toList ds p := hA0
  rw [Tryd.params3] at hA
  obtain ⟨rfl, rfl⟩ := trodVars_none hV
  obtain ⟨xs, hxs, hcs⟩ := args_rep (r := .any) (b := base) tabOk fine [23] args.toList ds p (by decide) (fun j t v hj hv => hval0 j t v (by rw [Tryd.params3]; simpa using hj) (by simpa using hv)) hA
  have hw := walk xs hcs
  have hlen := trodAll_len [23] args.toList ds p hA
  obtain ⟨d0, rfl⟩ := len_eq1 hlen
  simp only [List.append_nil] at hW' hlt
  have hcall := hw.2 (fun _ => True) W args.toList (glob_of hX) hxs
  rw [show args.toList.toArray = args by simp] at hcall
  refine hcall.mono fun e W' ⟨v, he, hb, hv⟩ => ?_
  obtain ⟨hv1, _⟩ := hv
  simp only [List.cons.injEq, and_true] at hv1
  subst he hv1
  refine ⟨_, rfl, post_below (ds := [d0]) (gs := []) (pa := p) (pv := []) (by simpa using hW') (trodAll_cons_mk (shut_bool Tryd.underlying4 _) trodAll_mk0) ?_ rfl hb⟩
  show DataW.TrodAll enc Tryd.prog W' 0 _ true Tryd.f3.params.toList args.toList [d0] p
  rw [Tryd.params3]
  exact args_stay laid hb [23] args.toList _ p (by kernel_rfl) hA (fun x hx => hlt x hx) _ (fun x hx => by simpa using hlt x hx)
theorem over : Rows.ratTellsRow.holds Tryd.pinned (OpenSpec.ofChange Rows.ratTellsSpec) :=
  OpenClaim.holds_of_wide 3 Tryd.f3 rfl rfl rfl rfl rfl rfl rfl ⟨rfl, rfl, rfl, rfl, rfl⟩ rfl rfl rfl rfl rfl (by kernel_rfl) Tryd.func3 (by kernel_rfl)
    (of_decide_eq_true (by kernel_rfl)) (by unfold Func.isWrapper; first | (rw [if_pos (by decide +kernel)]; kernel_rfl) | (rw [if_neg (by decide +kernel)]; exact ⟨rfl, rfl⟩))
    (fun os started H enc _ => lifted os started H enc)
/-- The row. -/
theorem row : Rows.RatTellsSaid := over
/-- The statement: the card, its listed variables tied to the program's text. -/
theorem proved : Rows.RatTellsCardSaid :=
  Claim7.holds_tied_plain_at .later [] [.data, .data, .data] true (true, "1a781a72f5ac92a37361ab2767a2df202fd6a8f07153fbf7beb7d7bfa684f29d") true
    row (fun _ h => by cases h) (by kernel_rfl) (fun _ h => by cases h) ratTells_row_tie rfl ⟨rfl, rfl⟩ (by kernel_rfl) rfl
    (fun f fn hf hfn => by
      obtain rfl : f = 3 := Option.some.inj ((show Tryd.prog.funcNamed "orrery/orrerylaw11.RatTells" = some 3 by kernel_rfl).symm.trans hf) |>.symm
      obtain rfl : fn = Tryd.f3 := (Option.some.inj (Tryd.func3.symm.trans hfn)).symm
      exact ⟨by kernel_rfl, fun j t ht => by
        rw [Tryd.params3] at ht
        have hall : ∀ t ∈ ([23] : List Nat), Tryd.prog.wantsStandIn t = false := by
          intro t ht
          simp only [List.mem_cons, List.mem_nil_iff, or_false] at ht
          rcases ht with rfl <;> kernel_rfl
        refine hall t ?_
        have := List.mem_of_getElem? (show ([23] : List Nat)[j]? = some t by simpa using ht)
        exact this⟩)
    (by kernel_rfl)
end Go.Proofs.YtlglkgineclggaaDoor.ratTells
