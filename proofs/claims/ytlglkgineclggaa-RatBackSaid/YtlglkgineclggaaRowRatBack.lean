/- What is proved: the statement RatBack, at every input that may be; the argument's data read as they did. -/
import Derived.Test.YtlglkgineclggaaRows
import Derived.Test.YtlglkgineclggaaChecked
import Derived.Test.YtlglkgineclggaaLawRB
import Derived.Test.YtlglkgineclggaaOpen
import Derived.WalkKit
import Derived.ProofKit
import Derived.OpenShut
namespace Go.Proofs.Ytlglkgineclggaa.ratBack
open Go.ChangeShapes Go.WideShapes Go.ChangeAt Go.RowKit Go.Sim Go.Sim.Ytlglkgineclggaa

theorem own : ownKnob Try.prog.godebug = none := by kernel_rfl
theorem laid : laidOutB Try.prog = true := by kernel_rfl
theorem fine : goodB tab [2, 56] = true := by decide +kernel

theorem conf_2 {x : DV} (h : Conf tab x 2) : ∃ a : Int, x = .v (.int .i64 a) ∧ okInt .i64 a := by
  exact conf_int' (te := te2) rfl rfl h

theorem conf_56 {x : DV} (h : Conf tab x 56) : ∃ a : GRat, x = GRat.enc a ∧ GRat.ok a := by
  obtain ⟨ns, xs, rfl, hf⟩ := conf_st' (te := te56) rfl rfl h
  obtain ⟨y0, xs, ns, rfl, rfl, h0, hf⟩ := confF_cons (te := te2) rfl hf
  obtain ⟨y1, xs, ns, rfl, rfl, h1, hf⟩ := confF_cons (te := te2) rfl hf
  obtain ⟨rfl, rfl⟩ := confF_nil hf
  obtain ⟨a0, rfl, k0⟩ := conf_2 h0
  obtain ⟨a1, rfl, k1⟩ := conf_2 h1
  exact ⟨⟨a0, a1⟩, rfl, k0, k1⟩

theorem walk (xs : List DV) (h : ConfAll tab xs [56, 56]) : AFn Try.prog 8 xs (.v (.bool true)) false := by
  match xs, h with
  | [x0, x1], h =>
    obtain ⟨h0, h1, _⟩ := h
    obtain ⟨a0, rfl, k0⟩ := conf_56 h0
    obtain ⟨a1, rfl, k1⟩ := conf_56 h1
    exact ratBack_ev a0 a1 k0 k1

set_option maxRecDepth 100000 in
theorem lifted (os : Os) (started : os.Started) (H : Type) (enc : TypeId × Value → H) :
    ReturnsInHanded {} Try.checked os 8 .any (Rows.ratBackSpec.pre6 enc Try.prog Try.f8 Rows.ratBackRow.domain false) (Rows.ratBackSpec.post enc Try.prog Try.f8 false true false false) := by
  refine returnsInHanded_of_change (C := Try.checked) own started (by kernel_rfl) Try.func8
    (ChangeSpec.witness6 (enc := enc) (C := Try.checked) false ⟨#[], #[.agg #[.int .i64 0, .int .i64 0], .agg #[.int .i64 0, .int .i64 0]], []⟩ 8 (by kernel_rfl) (by kernel_rfl) (by kernel_rfl) (by kernel_rfl)) ?_
  intro W base args ds gs before hval0 hW hcnd _
  have hW' := hW
  have hlt := hW.lt
  obtain ⟨p, q, hA0, hV, rfl, hfz, hnd⟩ := hW
  have hA : DataW.TrodAll enc Try.prog W 0 (fun _ => true) true Try.f8.params.toList args.toList ds p := hA0
  rw [Try.params8] at hA
  obtain ⟨rfl, rfl⟩ := trodVars_none hV
  obtain ⟨xs, hxs, hcs⟩ := args_rep (r := .any) (b := base) tabOk fine [56, 56] args.toList ds p (by decide) (fun j t v hj hv => hval0 j t v (by rw [Try.params8]; simpa using hj) (by simpa using hv)) hA
  have hw := walk xs hcs
  have hlen := trodAll_len [56, 56] args.toList ds p hA
  obtain ⟨d0, d1, rfl⟩ := len_eq2 hlen
  simp only [List.append_nil] at hW' hlt
  have hcall := hw.2 (fun _ => True) W args.toList hxs
  rw [show args.toList.toArray = args by simp] at hcall
  refine hcall.mono fun e W' ⟨v, he, hb, hv⟩ => ?_
  obtain ⟨hv1, _⟩ := hv
  simp only [List.cons.injEq, and_true] at hv1
  subst he hv1
  refine ⟨_, rfl, post_below (ds := [d0, d1]) (gs := []) (pa := p) (pv := []) (by simpa using hW') (trodAll_cons_mk (shut_bool Try.underlying4 _) trodAll_mk0) ?_ rfl hb⟩
  show DataW.TrodAll enc Try.prog W' 0 _ true Try.f8.params.toList args.toList [d0, d1] p
  rw [Try.params8]
  exact args_stay laid hb [56, 56] args.toList _ p (by kernel_rfl) hA (fun x hx => hlt x hx) _ (fun x hx => by simpa using hlt x hx)

theorem over : Rows.ratBackRow.holds Try.pinned (OpenSpec.ofChange Rows.ratBackSpec) :=
  OpenClaim.holds_of_wide 8 Try.f8 rfl rfl rfl rfl rfl rfl rfl ⟨rfl, rfl, rfl, rfl, rfl⟩ rfl rfl rfl rfl rfl (by kernel_rfl) Try.func8 (by kernel_rfl)
    (of_decide_eq_true (by kernel_rfl)) (by unfold Func.isWrapper; first | (rw [if_pos (by decide +kernel)]; kernel_rfl) | (rw [if_neg (by decide +kernel)]; exact ⟨rfl, rfl⟩))
    (fun os started H enc _ => lifted os started H enc)

/-- The statement. -/
theorem proved : Rows.RatBackSaid := over

end Go.Proofs.Ytlglkgineclggaa.ratBack
