/- What is proved: the statement RatPowers, at every input that may be; the argument's data read as they did. -/
import Derived.Test.YtnhflokfcnfegaaRows
import Derived.Test.YtnhflokfcnfegaaChecked
import Derived.Test.YtnhflokfcnfegaaLaw11b
import Derived.Test.YtnhflokfcnfegaaOpen2
import Derived.WalkKit
import Derived.ProofKit
import Derived.OpenShut
namespace Go.Proofs.Ytnhflokfcnfegaa.ratPowers
open Go.ChangeShapes Go.WideShapes Go.ChangeAt Go.RowKit Go.Sim Go.Sim.Ytnhflokfcnfegaa

theorem own : ownKnob Try.prog.godebug = none := by kernel_rfl
theorem laid : laidOutB Try.prog = true := by kernel_rfl
theorem fine : goodB tab [2, 3, 23] = true := by decide +kernel

theorem conf_int {x : DV} (h : Conf tab x 2) : ∃ n, x = .v (.int .i64 n) ∧ inI n := by
  obtain ⟨n, rfl, hn⟩ := conf_int' (te := te2) rfl rfl h
  exact ⟨n, rfl, inI_of hn⟩

theorem conf_go {x : DV} (h : Conf tab x 3) : ∃ n, x = .v (.int .i64 n) ∧ inI n := by
  obtain ⟨n, rfl, hn⟩ := conf_int' (te := te3) rfl rfl h
  exact ⟨n, rfl, inI_of hn⟩

theorem conf_rat {x : DV} (h : Conf tab x 23) : ∃ a b, x = .st [1, 1] [.v (.int .i64 a), .v (.int .i64 b)] ∧ inI a ∧ inI b := by
  obtain ⟨ns, xs, rfl, hf⟩ := conf_st' (te := te23) rfl rfl h
  obtain ⟨x, xs, ns, rfl, rfl, h1, hf⟩ := confF_cons (te := te2) rfl hf
  obtain ⟨y, xs, ns, rfl, rfl, h2, hf⟩ := confF_cons (te := te2) rfl hf
  obtain ⟨rfl, rfl⟩ := confF_nil hf
  obtain ⟨a, rfl, ha⟩ := conf_int h1
  obtain ⟨b, rfl, hb⟩ := conf_int h2
  exact ⟨a, b, rfl, ha, hb⟩

theorem walk (xs : List DV) (h : ConfAll tab xs [23, 23, 3]) : AFn Try.prog 5 xs (.v (.bool true)) false := by
  match xs, h with
  | [x, y, z], h =>
    obtain ⟨h1, h2, h3, _⟩ := h
    obtain ⟨a, b, rfl, ha, hb⟩ := conf_rat h1
    obtain ⟨c, d, rfl, hc, hd⟩ := conf_rat h2
    obtain ⟨n, rfl, hn⟩ := conf_go h3
    exact ratPowers_fn a b c d n ha hb hc hd hn


set_option maxRecDepth 100000 in
theorem lifted (os : Os) (started : os.Started) (H : Type) (enc : TypeId × Value → H) :
    ReturnsInHanded {} Try.checked os 5 .any (Rows.ratPowersSpec.pre6 enc Try.prog Try.f5 Rows.ratPowersRow.domain false) (Rows.ratPowersSpec.post enc Try.prog Try.f5 false true false false) := by
  refine returnsInHanded_of_change (C := Try.checked) own started (by kernel_rfl) Try.func5
    (ChangeSpec.witness6 (enc := enc) (C := Try.checked) false ⟨#[], #[.agg #[.int .i64 0, .int .i64 1], .agg #[.int .i64 0, .int .i64 1], .int .i64 1], []⟩ 8 (by kernel_rfl) (by kernel_rfl) (by kernel_rfl) (by kernel_rfl)) ?_
  intro W base args ds gs before hval0 hW hcnd _
  have hW' := hW
  have hlt := hW.lt
  obtain ⟨p, q, hA0, hV, rfl, hfz, hnd⟩ := hW
  have hA : DataW.TrodAll enc Try.prog W 0 (fun _ => true) true Try.f5.params.toList args.toList ds p := hA0
  rw [Try.params5] at hA
  obtain ⟨rfl, rfl⟩ := trodVars_none hV
  obtain ⟨xs, hxs, hcs⟩ := args_rep (r := .any) (b := base) tabOk fine [23, 23, 3] args.toList ds p (by decide) (fun j t v hj hv => hval0 j t v (by rw [Try.params5]; simpa using hj) (by simpa using hv)) hA
  have hw := walk xs hcs
  have hlen := trodAll_len [23, 23, 3] args.toList ds p hA
  obtain ⟨d0, d1, d2, rfl⟩ := len_eq3 hlen
  simp only [List.append_nil] at hW' hlt
  have hcall := hw.2 (fun _ => True) W args.toList hxs
  rw [show args.toList.toArray = args by simp] at hcall
  refine hcall.mono fun e W' ⟨v, he, hb, hv⟩ => ?_
  obtain ⟨hv1, _⟩ := hv
  simp only [List.cons.injEq, and_true] at hv1
  subst he hv1
  refine ⟨_, rfl, post_below (ds := [d0, d1, d2]) (gs := []) (pa := p) (pv := []) (by simpa using hW') (trodAll_cons_mk (shut_bool Try.underlying4 _) trodAll_mk0) ?_ rfl hb⟩
  show DataW.TrodAll enc Try.prog W' 0 _ true Try.f5.params.toList args.toList [d0, d1, d2] p
  rw [Try.params5]
  exact args_stay laid hb [23, 23, 3] args.toList _ p (by kernel_rfl) hA (fun x hx => hlt x hx) _ (fun x hx => by simpa using hlt x hx)

theorem over : Rows.ratPowersRow.holds Try.pinned (OpenSpec.ofChange Rows.ratPowersSpec) :=
  OpenClaim.holds_of_wide 5 Try.f5 rfl rfl rfl rfl rfl rfl rfl ⟨rfl, rfl, rfl, rfl, rfl⟩ rfl rfl rfl rfl rfl (by kernel_rfl) Try.func5 (by kernel_rfl)
    (of_decide_eq_true (by kernel_rfl)) (by unfold Func.isWrapper; first | (rw [if_pos (by decide +kernel)]; kernel_rfl) | (rw [if_neg (by decide +kernel)]; exact ⟨rfl, rfl⟩))
    (fun os started H enc _ => lifted os started H enc)

/-- The statement. -/
theorem proved : Rows.RatPowersSaid := over

end Go.Proofs.Ytnhflokfcnfegaa.ratPowers

