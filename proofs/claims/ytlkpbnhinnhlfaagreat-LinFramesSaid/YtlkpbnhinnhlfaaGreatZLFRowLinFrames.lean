/- What is proved: the statement LinFrames, at every input that may be; the argument's data read as they did. -/
import Derived.Test.YtlkpbnhinnhlfaaGreatRows
import Derived.Test.YtlkpbnhinnhlfaaGreatChecked
import Derived.Test.YtlkpbnhinnhlfaaGreatZLFNerS
import Derived.Test.YtlkpbnhinnhlfaaGreatZLFOpen
import Derived.WalkKit
import Derived.ProofKit
import Derived.OpenShut

namespace Go.Proofs.YtlkpbnhinnhlfaaGreat.linFrames
open Go.ChangeShapes Go.WideShapes Go.ChangeAt Go.RowKit Go.Sim Go.Sim.YtlkpbnhinnhlfaaGreat
theorem own : ownKnob Tryz.prog.godebug = none := by kernel_rfl
theorem laid : laidOutB Tryz.prog = true := by kernel_rfl
theorem fine : goodB tab [22, 27, 28] = true := by decide +kernel
theorem conf_28 {x : DV} (h : Conf tab x 28) : ∃ a : Nat, x = .v (.float .f64 a) ∧ okFlt a := by
  exact conf_flt' (te := te28) rfl rfl h
theorem conf_27 {x : DV} (h : Conf tab x 27) : ∃ a : List Nat, x = .sl 28 1 (List.map (eFlt .f64) a) ∧ (a.length ≤ maxLen ∧ ∀ z0 ∈ a, okFlt z0) := by
  obtain ⟨xs, rfl, hl, hc⟩ := conf_sl' (te := te27) (ee := te28) rfl rfl rfl h
  obtain ⟨bs, rfl, ha⟩ := conf_list (enc := (eFlt .f64)) (ok := fun x => okFlt x) (fun x hx => conf_28 hx) hc
  exact ⟨bs, rfl, ⟨by simpa using hl, ha⟩⟩
theorem conf_22 {x : DV} (h : Conf tab x 22) : ∃ a : List (List Nat), x = .sl 27 1 (List.map (eSl 28 1 (eFlt .f64)) a) ∧ (a.length ≤ maxLen ∧ ∀ z0 ∈ a, (z0.length ≤ maxLen ∧ ∀ z1 ∈ z0, okFlt z1)) := by
  obtain ⟨xs, rfl, hl, hc⟩ := conf_sl' (te := te22) (ee := te27) rfl rfl rfl h
  obtain ⟨bs, rfl, ha⟩ := conf_list (enc := (eSl 28 1 (eFlt .f64))) (ok := fun x => (x.length ≤ maxLen ∧ ∀ z0 ∈ x, okFlt z0)) (fun x hx => conf_27 hx) hc
  exact ⟨bs, rfl, ⟨by simpa using hl, ha⟩⟩
theorem walk (xs : List DV) (h : ConfAll tab xs [22]) : AFn Tryz.prog 3 xs (.v (.bool true)) false := by
  match xs, h with
  | [x0], h =>
    obtain ⟨h0, _⟩ := h
    obtain ⟨a0, rfl, k0⟩ := conf_22 h0
    exact linFrames_ev a0 k0
set_option maxRecDepth 100000 in
theorem lifted (os : Os) (started : os.Started) (H : Type) (enc : TypeId × Value → H) :
    ReturnsInHanded {} Tryz.checked os 3 .any (Rows.linFramesSpec.pre6 enc Tryz.prog Tryz.f3 Rows.linFramesRow.domain false) (Rows.linFramesSpec.post enc Tryz.prog Tryz.f3 false true false false) := by
  refine returnsInHanded_of_change (C := Tryz.checked) own started (by kernel_rfl) Tryz.func3
    (ChangeSpec.witness6 (enc := enc) (C := Tryz.checked) false ⟨#[], #[.slice none 0 0], []⟩ 8 (by kernel_rfl) (by kernel_rfl) (by kernel_rfl) (by kernel_rfl)) ?_
  intro W base args ds gs before hval0 hW hcnd _
  have hW' := hW
  have hlt := hW.lt
  obtain ⟨p, q, hA0, hV, rfl, hfz, hnd⟩ := hW
  have hA : DataW.TrodAll enc Tryz.prog W 0 (fun _ => true) true Tryz.f3.params.toList args.toList ds p := hA0
  rw [Tryz.params3] at hA
  obtain ⟨rfl, rfl⟩ := trodVars_none hV
  obtain ⟨xs, hxs, hcs⟩ := args_rep (r := .any) (b := base) tabOk fine [22] args.toList ds p (by decide) (fun j t v hj hv => hval0 j t v (by rw [Tryz.params3]; simpa using hj) (by simpa using hv)) hA
  have hw := walk xs hcs
  have hlen := trodAll_len [22] args.toList ds p hA
  obtain ⟨d0, rfl⟩ := len_eq1 hlen
  simp only [List.append_nil] at hW' hlt
  have hcall := hw.2 (fun _ => True) W args.toList (fun _ _ _ => trivial) hxs
  rw [show args.toList.toArray = args by simp] at hcall
  refine hcall.mono fun e W' ⟨v, he, hb, hv⟩ => ?_
  obtain ⟨hv1, _⟩ := hv
  simp only [List.cons.injEq, and_true] at hv1
  subst he hv1
  refine ⟨_, rfl, post_below (ds := [d0]) (gs := []) (pa := p) (pv := []) (by simpa using hW') (trodAll_cons_mk (shut_bool Tryz.underlying4 _) trodAll_mk0) ?_ rfl hb⟩
  show DataW.TrodAll enc Tryz.prog W' 0 _ true Tryz.f3.params.toList args.toList [d0] p
  rw [Tryz.params3]
  exact args_stay laid hb [22] args.toList _ p (by kernel_rfl) hA (fun x hx => hlt x hx) _ (fun x hx => by simpa using hlt x hx)
theorem over : Rows.linFramesRow.holds Tryz.pinned (OpenSpec.ofChange Rows.linFramesSpec) :=
  OpenClaim.holds_of_wide 3 Tryz.f3 rfl rfl rfl rfl rfl rfl rfl ⟨rfl, rfl, rfl, rfl, rfl⟩ rfl rfl rfl rfl rfl (by kernel_rfl) Tryz.func3 (by kernel_rfl)
    (of_decide_eq_true (by kernel_rfl)) (by unfold Func.isWrapper; first | (rw [if_pos (by decide +kernel)]; kernel_rfl) | (rw [if_neg (by decide +kernel)]; exact ⟨rfl, rfl⟩))
    (fun os started H enc _ => lifted os started H enc)
/-- The statement. -/
theorem proved : Rows.LinFramesSaid := over
end Go.Proofs.YtlkpbnhinnhlfaaGreat.linFrames
