/- What is proved: the statement LinGrows, at every input that may be; the argument's data read as they did. -/
import Derived.Test.YtlglkgineclggaaRows
import Derived.Test.YtlglkgineclggaaChecked
import Derived.Test.YtlglkgineclggaaZGLawLG
import Derived.Test.YtlglkgineclggaaZGOpen
import Derived.WalkKit
import Derived.ProofKit
import Derived.OpenShut
namespace Go.Proofs.Ytlglkgineclggaa.linGrows
open Go.ChangeShapes Go.WideShapes Go.ChangeAt Go.RowKit Go.Sim Go.Sim.Ytlglkgineclggaa
theorem own : ownKnob Try.prog.godebug = none := by kernel_rfl
theorem laid : laidOutB Try.prog = true := by kernel_rfl
theorem fine : goodB tab [22, 24, 34, 36] = true := by decide +kernel
theorem conf_24 {x : DV} (h : Conf tab x 24) : ∃ a : Nat, x = .v (.float .f64 a) ∧ okFlt a := by
  exact conf_flt' (te := te24) rfl rfl h
theorem conf_36 {x : DV} (h : Conf tab x 36) : ∃ a : GIval, x = GIval.enc a ∧ GIval.ok a := by
  obtain ⟨ns, xs, rfl, hf⟩ := conf_st' (te := te36) rfl rfl h
  obtain ⟨y0, xs, ns, rfl, rfl, h0, hf⟩ := confF_cons (te := te24) rfl hf
  obtain ⟨y1, xs, ns, rfl, rfl, h1, hf⟩ := confF_cons (te := te24) rfl hf
  obtain ⟨rfl, rfl⟩ := confF_nil hf
  obtain ⟨a0, rfl, k0⟩ := conf_24 h0
  obtain ⟨a1, rfl, k1⟩ := conf_24 h1
  exact ⟨⟨a0, a1⟩, rfl, k0, k1⟩
theorem conf_34 {x : DV} (h : Conf tab x 34) : ∃ a : List GIval, x = .sl 36 2 (List.map GIval.enc a) ∧ (a.length ≤ maxLen ∧ ∀ z0 ∈ a, GIval.ok z0) := by
  obtain ⟨xs, rfl, hl, hc⟩ := conf_sl' (te := te34) (ee := te36) rfl rfl rfl h
  obtain ⟨bs, rfl, ha⟩ := conf_list (enc := GIval.enc) (ok := fun x => GIval.ok x) (fun x hx => conf_36 hx) hc
  exact ⟨bs, rfl, ⟨by simpa using hl, ha⟩⟩
theorem conf_22 {x : DV} (h : Conf tab x 22) : ∃ a : List (List GIval), x = .sl 34 1 (List.map (eSl 36 2 GIval.enc) a) ∧ (a.length ≤ maxLen ∧ ∀ z0 ∈ a, (z0.length ≤ maxLen ∧ ∀ z1 ∈ z0, GIval.ok z1)) := by
  obtain ⟨xs, rfl, hl, hc⟩ := conf_sl' (te := te22) (ee := te34) rfl rfl rfl h
  obtain ⟨bs, rfl, ha⟩ := conf_list (enc := (eSl 36 2 GIval.enc)) (ok := fun x => (x.length ≤ maxLen ∧ ∀ z0 ∈ x, GIval.ok z0)) (fun x hx => conf_34 hx) hc
  exact ⟨bs, rfl, ⟨by simpa using hl, ha⟩⟩
theorem walk (xs : List DV) (h : ConfAll tab xs [22, 34]) : AFn Try.prog 6 xs (.v (.bool true)) false := by
  match xs, h with
  | [x0, x1], h =>
    obtain ⟨h0, h1, _⟩ := h
    obtain ⟨a0, rfl, k0⟩ := conf_22 h0
    obtain ⟨a1, rfl, k1⟩ := conf_34 h1
    exact linGrows_ev a0 a1 k0 k1
set_option maxRecDepth 100000 in
theorem lifted (os : Os) (started : os.Started) (H : Type) (enc : TypeId × Value → H) :
    ReturnsInHanded {} Try.checked os 6 .any (Rows.linGrowsSpec.pre6 enc Try.prog Try.f6 Rows.linGrowsRow.domain false) (Rows.linGrowsSpec.post enc Try.prog Try.f6 false true false false) := by
  refine returnsInHanded_of_change (C := Try.checked) own started (by kernel_rfl) Try.func6
    (ChangeSpec.witness6 (enc := enc) (C := Try.checked) false ⟨#[], #[.slice none 0 0, .slice none 0 0], []⟩ 8 (by kernel_rfl) (by kernel_rfl) (by kernel_rfl) (by kernel_rfl)) ?_
  intro W base args ds gs before hval0 hW hcnd _
  have hW' := hW
  have hlt := hW.lt
  obtain ⟨p, q, hA0, hV, rfl, hfz, hnd⟩ := hW
  have hA : DataW.TrodAll enc Try.prog W 0 (fun _ => true) true Try.f6.params.toList args.toList ds p := hA0
  rw [Try.params6] at hA
  obtain ⟨rfl, rfl⟩ := trodVars_none hV
  obtain ⟨xs, hxs, hcs⟩ := args_rep (r := .any) (b := base) tabOk fine [22, 34] args.toList ds p (by decide) (fun j t v hj hv => hval0 j t v (by rw [Try.params6]; simpa using hj) (by simpa using hv)) hA
  have hw := walk xs hcs
  have hlen := trodAll_len [22, 34] args.toList ds p hA
  obtain ⟨d0, d1, rfl⟩ := len_eq2 hlen
  simp only [List.append_nil] at hW' hlt
  have hcall := hw.2 (fun _ => True) W args.toList hxs
  rw [show args.toList.toArray = args by simp] at hcall
  refine hcall.mono fun e W' ⟨v, he, hb, hv⟩ => ?_
  obtain ⟨hv1, _⟩ := hv
  simp only [List.cons.injEq, and_true] at hv1
  subst he hv1
  refine ⟨_, rfl, post_below (ds := [d0, d1]) (gs := []) (pa := p) (pv := []) (by simpa using hW') (trodAll_cons_mk (shut_bool Try.underlying4 _) trodAll_mk0) ?_ rfl hb⟩
  show DataW.TrodAll enc Try.prog W' 0 _ true Try.f6.params.toList args.toList [d0, d1] p
  rw [Try.params6]
  exact args_stay laid hb [22, 34] args.toList _ p (by kernel_rfl) hA (fun x hx => hlt x hx) _ (fun x hx => by simpa using hlt x hx)
theorem over : Rows.linGrowsRow.holds Try.pinned (OpenSpec.ofChange Rows.linGrowsSpec) :=
  OpenClaim.holds_of_wide 6 Try.f6 rfl rfl rfl rfl rfl rfl rfl ⟨rfl, rfl, rfl, rfl, rfl⟩ rfl rfl rfl rfl rfl (by kernel_rfl) Try.func6 (by kernel_rfl)
    (of_decide_eq_true (by kernel_rfl)) (by unfold Func.isWrapper; first | (rw [if_pos (by decide +kernel)]; kernel_rfl) | (rw [if_neg (by decide +kernel)]; exact ⟨rfl, rfl⟩))
    (fun os started H enc _ => lifted os started H enc)
/-- The statement. -/
theorem proved : Rows.LinGrowsSaid := over
end Go.Proofs.Ytlglkgineclggaa.linGrows
