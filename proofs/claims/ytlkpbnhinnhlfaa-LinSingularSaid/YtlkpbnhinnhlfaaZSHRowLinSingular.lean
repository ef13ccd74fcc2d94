/- What is proved: the statement LinSingular, at every input that may be; the argument's data read as they did. -/
import Derived.Test.YtlkpbnhinnhlfaaRows
import Derived.Test.YtlkpbnhinnhlfaaChecked
import Derived.Test.YtlkpbnhinnhlfaaZSHKerQ
import Derived.Test.YtlkpbnhinnhlfaaZSHOpen
import Derived.WalkKit
import Derived.ProofKit
import Derived.OpenShut

namespace Go.Proofs.Ytlkpbnhinnhlfaa.linSingular
open Go.ChangeShapes Go.WideShapes Go.ChangeAt Go.RowKit Go.Sim Go.Sim.Ytlkpbnhinnhlfaa
theorem own : ownKnob Try.prog.godebug = none := by kernel_rfl
theorem laid : laidOutB Try.prog = true := by kernel_rfl
theorem fine : goodB tab [3, 22, 24, 42] = true := by decide +kernel
theorem conf_42 {x : DV} (h : Conf tab x 42) : ∃ a : Nat, x = .v (.float .f64 a) ∧ okFlt a := by
  exact conf_flt' (te := te42) rfl rfl h
theorem conf_24 {x : DV} (h : Conf tab x 24) : ∃ a : List Nat, x = .sl 42 1 (List.map (eFlt .f64) a) ∧ (a.length ≤ maxLen ∧ ∀ z0 ∈ a, okFlt z0) := by
  obtain ⟨xs, rfl, hl, hc⟩ := conf_sl' (te := te24) (ee := te42) rfl rfl rfl h
  obtain ⟨bs, rfl, ha⟩ := conf_list (enc := (eFlt .f64)) (ok := fun x => okFlt x) (fun x hx => conf_42 hx) hc
  exact ⟨bs, rfl, ⟨by simpa using hl, ha⟩⟩
theorem conf_22 {x : DV} (h : Conf tab x 22) : ∃ a : List (List Nat), x = .sl 24 1 (List.map (eSl 42 1 (eFlt .f64)) a) ∧ (a.length ≤ maxLen ∧ ∀ z0 ∈ a, (z0.length ≤ maxLen ∧ ∀ z1 ∈ z0, okFlt z1)) := by
  obtain ⟨xs, rfl, hl, hc⟩ := conf_sl' (te := te22) (ee := te24) rfl rfl rfl h
  obtain ⟨bs, rfl, ha⟩ := conf_list (enc := (eSl 42 1 (eFlt .f64))) (ok := fun x => (x.length ≤ maxLen ∧ ∀ z0 ∈ x, okFlt z0)) (fun x hx => conf_24 hx) hc
  exact ⟨bs, rfl, ⟨by simpa using hl, ha⟩⟩
theorem conf_3 {x : DV} (h : Conf tab x 3) : ∃ a : Int, x = .v (.int .i64 a) ∧ okInt .i64 a := by
  exact conf_int' (te := te3) rfl rfl h
theorem walk (xs : List DV) (h : ConfAll tab xs [22, 3, 3]) : AFn Try.prog 3 xs (.v (.bool true)) false := by
  match xs, h with
  | [x0, x1, x2], h =>
    obtain ⟨h0, h1, h2, _⟩ := h
    obtain ⟨a0, rfl, k0⟩ := conf_22 h0
    obtain ⟨a1, rfl, k1⟩ := conf_3 h1
    obtain ⟨a2, rfl, k2⟩ := conf_3 h2
    exact linSingular_ev a0 a1 a2 k0 k1 k2
set_option maxRecDepth 100000 in
theorem lifted (os : Os) (started : os.Started) (H : Type) (enc : TypeId × Value → H) :
    ReturnsInHanded {} Try.checked os 3 .any (Rows.linSingularSpec.pre6 enc Try.prog Try.f3 Rows.linSingularRow.domain false) (Rows.linSingularSpec.post enc Try.prog Try.f3 false true false false) := by
  refine returnsInHanded_of_change (C := Try.checked) own started (by kernel_rfl) Try.func3
    (ChangeSpec.witness6 (enc := enc) (C := Try.checked) false ⟨#[], #[.slice none 0 0, .int .i64 0, .int .i64 0], []⟩ 8 (by kernel_rfl) (by kernel_rfl) (by kernel_rfl) (by kernel_rfl)) ?_
  intro W base args ds gs before hval0 hW hcnd _
  have hW' := hW
  have hlt := hW.lt
  obtain ⟨p, q, hA0, hV, rfl, hfz, hnd⟩ := hW
  have hA : DataW.TrodAll enc Try.prog W 0 (fun _ => true) true Try.f3.params.toList args.toList ds p := hA0
  rw [Try.params3] at hA
  obtain ⟨rfl, rfl⟩ := trodVars_none hV
  obtain ⟨xs, hxs, hcs⟩ := args_rep (r := .any) (b := base) tabOk fine [22, 3, 3] args.toList ds p (by decide) (fun j t v hj hv => hval0 j t v (by rw [Try.params3]; simpa using hj) (by simpa using hv)) hA
  have hw := walk xs hcs
  have hlen := trodAll_len [22, 3, 3] args.toList ds p hA
  obtain ⟨d0, d1, d2, rfl⟩ := len_eq3 hlen
  simp only [List.append_nil] at hW' hlt
  have hcall := hw.2 (fun _ => True) W args.toList (fun _ _ _ => trivial) hxs
  rw [show args.toList.toArray = args by simp] at hcall
  refine hcall.mono fun e W' ⟨v, he, hb, hv⟩ => ?_
  obtain ⟨hv1, _⟩ := hv
  simp only [List.cons.injEq, and_true] at hv1
  subst he hv1
  refine ⟨_, rfl, post_below (ds := [d0, d1, d2]) (gs := []) (pa := p) (pv := []) (by simpa using hW') (trodAll_cons_mk (shut_bool Try.underlying4 _) trodAll_mk0) ?_ rfl hb⟩
  show DataW.TrodAll enc Try.prog W' 0 _ true Try.f3.params.toList args.toList [d0, d1, d2] p
  rw [Try.params3]
  exact args_stay laid hb [22, 3, 3] args.toList _ p (by kernel_rfl) hA (fun x hx => hlt x hx) _ (fun x hx => by simpa using hlt x hx)
theorem over : Rows.linSingularRow.holds Try.pinned (OpenSpec.ofChange Rows.linSingularSpec) :=
  OpenClaim.holds_of_wide 3 Try.f3 rfl rfl rfl rfl rfl rfl rfl ⟨rfl, rfl, rfl, rfl, rfl⟩ rfl rfl rfl rfl rfl (by kernel_rfl) Try.func3 (by kernel_rfl)
    (of_decide_eq_true (by kernel_rfl)) (by unfold Func.isWrapper; first | (rw [if_pos (by decide +kernel)]; kernel_rfl) | (rw [if_neg (by decide +kernel)]; exact ⟨rfl, rfl⟩))
    (fun os started H enc _ => lifted os started H enc)
/-- The statement. -/
theorem proved : Rows.LinSingularSaid := over
end Go.Proofs.Ytlkpbnhinnhlfaa.linSingular
