/- What is proved: the statement UnitReads, at every input that may be; the argument's data read as they did. -/
import Derived.Test.YtnhflokfcnfegaaRows
import Derived.Test.YtnhflokfcnfegaaChecked
import Derived.Test.YtnhflokfcnfegaaLawUR
import Derived.Test.YtnhflokfcnfegaaOpen
import Derived.WalkKit
import Derived.ProofKit
import Derived.OpenShut
namespace Go.Proofs.Ytnhflokfcnfegaa.unitReads
open Go.ChangeShapes Go.WideShapes Go.ChangeAt Go.RowKit Go.Sim Go.Sim.Ytnhflokfcnfegaa

theorem own : ownKnob Try.prog.godebug = none := by kernel_rfl
theorem laid : laidOutB Try.prog = true := by kernel_rfl
theorem fine : goodB tab [2, 3, 4, 9, 23, 24, 26, 42, 44, 51, 52] = true := by decide +kernel

theorem conf_3 {x : DV} (h : Conf tab x 3) : ∃ a : Int, x = .v (.int .i64 a) ∧ okInt .i64 a := by
  exact conf_int' (te := te3) rfl rfl h

theorem conf_9 {x : DV} (h : Conf tab x 9) : ∃ a : ByteArray, x = .v (.string a) ∧ a.size ≤ maxLen := by
  exact conf_str' (te := te9) rfl rfl h

theorem conf_4 {x : DV} (h : Conf tab x 4) : ∃ a : Bool, x = .v (.bool a) ∧ True := by
  obtain ⟨b, rfl⟩ := conf_bool' (te := te4) rfl rfl h
  exact ⟨b, rfl, trivial⟩

theorem conf_2 {x : DV} (h : Conf tab x 2) : ∃ a : Int, x = .v (.int .i64 a) ∧ okInt .i64 a := by
  exact conf_int' (te := te2) rfl rfl h

theorem conf_23 {x : DV} (h : Conf tab x 23) : ∃ a : GRat, x = GRat.enc a ∧ GRat.ok a := by
  obtain ⟨ns, xs, rfl, hf⟩ := conf_st' (te := te23) rfl rfl h
  obtain ⟨y0, xs, ns, rfl, rfl, h0, hf⟩ := confF_cons (te := te2) rfl hf
  obtain ⟨y1, xs, ns, rfl, rfl, h1, hf⟩ := confF_cons (te := te2) rfl hf
  obtain ⟨rfl, rfl⟩ := confF_nil hf
  obtain ⟨a0, rfl, k0⟩ := conf_2 h0
  obtain ⟨a1, rfl, k1⟩ := conf_2 h1
  exact ⟨⟨a0, a1⟩, rfl, k0, k1⟩

theorem confr_26 : ∀ (n : Nat) (x : DV), SizeOf.sizeOf x < n → Conf tab x 26 → ∃ a : GTree, x = GTree.enc a ∧ GTree.ok a
  | 0, _, hx, _ => absurd hx (Nat.not_lt_zero _)
  | n + 1, x, hx, h => by
    obtain ⟨ns, xs, rfl, hf⟩ := conf_st' (te := te26) rfl rfl h
    obtain ⟨y0, xs, ns, rfl, rfl, h0, hf⟩ := confF_cons (te := te3) rfl hf
    obtain ⟨y1, xs, ns, rfl, rfl, h1, hf⟩ := confF_cons (te := te9) rfl hf
    obtain ⟨y2, xs, ns, rfl, rfl, h2, hf⟩ := confF_cons (te := te9) rfl hf
    obtain ⟨y3, xs, ns, rfl, rfl, h3, hf⟩ := confF_cons (te := te3) rfl hf
    obtain ⟨y4, xs, ns, rfl, rfl, h4, hf⟩ := confF_cons (te := te3) rfl hf
    obtain ⟨y5, xs, ns, rfl, rfl, h5, hf⟩ := confF_cons (te := te4) rfl hf
    obtain ⟨y6, xs, ns, rfl, rfl, h6, hf⟩ := confF_cons (te := te23) rfl hf
    obtain ⟨y7, xs, ns, rfl, rfl, h7, hf⟩ := confF_cons (te := te24) rfl hf
    obtain ⟨rfl, rfl⟩ := confF_nil hf
    obtain ⟨a0, rfl, k0⟩ := conf_3 h0
    obtain ⟨a1, rfl, k1⟩ := conf_9 h1
    obtain ⟨a2, rfl, k2⟩ := conf_9 h2
    obtain ⟨a3, rfl, k3⟩ := conf_3 h3
    obtain ⟨a4, rfl, k4⟩ := conf_3 h4
    obtain ⟨a5, rfl, k5⟩ := conf_4 h5
    obtain ⟨a6, rfl, k6⟩ := conf_23 h6
    obtain ⟨zs7, rfl, hl7, hc7⟩ := conf_sl' (te := te24) (ee := te26) rfl rfl rfl h7
    obtain ⟨a7, ea7, k7⟩ := conf_listn (enc := GTree.enc) (ok := GTree.ok) (confr_26 n) (by simp only [DV.st.sizeOf_spec, DV.sl.sizeOf_spec, List.cons.sizeOf_spec] at hx; omega) hc7
    subst ea7
    refine ⟨⟨a0, a1, a2, a3, a4, a5, a6, a7⟩, ?_, ?_⟩
    · simp only [GTree.enc, GTree.encL_map]; rfl
    · rw [GTree.ok_iff]; exact ⟨k0, k1, k2, k3, k4, k6, ⟨by simpa using hl7, k7⟩⟩

theorem conf_26e {x : DV} (h : Conf tab x 26) : ∃ a : GTree, x = GTree.enc a ∧ GTree.ok a := confr_26 _ x (Nat.lt_succ_self _) h

theorem conf_26 {x : DV} (h : Conf tab x 26) : ∃ a : GTree, x = GTree.out a ∧ GTree.ok a := by
  obtain ⟨a, e, k⟩ := conf_26e h
  exact ⟨a, by rw [e, GTree.enc_out], k⟩

theorem conf_51 {x : DV} (h : Conf tab x 51) : ∃ a : List ByteArray, x = .sl 9 1 (List.map eStr a) ∧ (a.length ≤ maxLen ∧ ∀ z0 ∈ a, z0.size ≤ maxLen) := by
  obtain ⟨xs, rfl, hl, hc⟩ := conf_sl' (te := te51) (ee := te9) rfl rfl rfl h
  obtain ⟨bs, rfl, ha⟩ := conf_list (enc := eStr) (ok := fun x => x.size ≤ maxLen) (fun x hx => conf_9 hx) hc
  exact ⟨bs, rfl, ⟨by simpa using hl, ha⟩⟩

theorem conf_42 {x : DV} (h : Conf tab x 42) : ∃ a : Vector GRat 7, x = .ar 2 (List.map GRat.enc (Vector.toList a)) ∧ (∀ z0 ∈ a.toList, GRat.ok z0) := by
  obtain ⟨xs, rfl, hl, hc⟩ := conf_ar' (te := te42) (ee := te23) rfl rfl rfl h
  obtain ⟨bs, rfl, ha⟩ := conf_list (enc := GRat.enc) (ok := fun x => GRat.ok x) (fun x hx => conf_23 hx) hc
  refine ⟨⟨bs.toArray, by simpa using hl⟩, ?_, by simpa using ha⟩
  simp [Vector.toList]; rfl

theorem conf_44 {x : DV} (h : Conf tab x 44) : ∃ a : GDim, x = GDim.enc a ∧ GDim.ok a := by
  obtain ⟨ns, xs, rfl, hf⟩ := conf_st' (te := te44) rfl rfl h
  obtain ⟨y0, xs, ns, rfl, rfl, h0, hf⟩ := confF_cons (te := te42) rfl hf
  obtain ⟨rfl, rfl⟩ := confF_nil hf
  obtain ⟨a0, rfl, k0⟩ := conf_42 h0
  exact ⟨⟨a0⟩, rfl, k0⟩

theorem conf_52 {x : DV} (h : Conf tab x 52) : ∃ a : List GDim, x = .sl 44 14 (List.map GDim.enc a) ∧ (a.length ≤ maxLen ∧ ∀ z0 ∈ a, GDim.ok z0) := by
  obtain ⟨xs, rfl, hl, hc⟩ := conf_sl' (te := te52) (ee := te44) rfl rfl rfl h
  obtain ⟨bs, rfl, ha⟩ := conf_list (enc := GDim.enc) (ok := fun x => GDim.ok x) (fun x hx => conf_44 hx) hc
  exact ⟨bs, rfl, ⟨by simpa using hl, ha⟩⟩

theorem walk (xs : List DV) (h : ConfAll tab xs [26, 51, 52]) : AFn Try.prog 10 xs (.v (.bool true)) false := by
  match xs, h with
  | [x0, x1, x2], h =>
    obtain ⟨h0, h1, h2, _⟩ := h
    obtain ⟨a0, rfl, k0⟩ := conf_26 h0
    obtain ⟨a1, rfl, k1⟩ := conf_51 h1
    obtain ⟨a2, rfl, k2⟩ := conf_52 h2
    exact unitReads_ev a0 a1 a2 k0 k1 k2

set_option maxRecDepth 100000 in
theorem lifted (os : Os) (started : os.Started) (H : Type) (enc : TypeId × Value → H) :
    ReturnsInHanded {} Try.checked os 10 .any (Rows.unitReadsSpec.pre6 enc Try.prog Try.f10 Rows.unitReadsRow.domain false) (Rows.unitReadsSpec.post enc Try.prog Try.f10 false true false false) := by
  refine returnsInHanded_of_change (C := Try.checked) own started (by kernel_rfl) Try.func10
    (ChangeSpec.witness6 (enc := enc) (C := Try.checked) false ⟨#[], #[.agg #[.int .i64 0, .string ⟨#[]⟩, .string ⟨#[]⟩, .int .i64 0, .int .i64 0, .bool false, .int .i64 0, .int .i64 0, .slice none 0 0], .slice none 0 0, .slice none 0 0], []⟩ 8 (by kernel_rfl) (by kernel_rfl) (by kernel_rfl) (by kernel_rfl)) ?_
  intro W base args ds gs before hval0 hW hcnd _
  have hW' := hW
  have hlt := hW.lt
  obtain ⟨p, q, hA0, hV, rfl, hfz, hnd⟩ := hW
  have hA : DataW.TrodAll enc Try.prog W 0 (fun _ => true) true Try.f10.params.toList args.toList ds p := hA0
  rw [Try.params10] at hA
  obtain ⟨rfl, rfl⟩ := trodVars_none hV
  obtain ⟨xs, hxs, hcs⟩ := args_rep (r := .any) (b := base) tabOk fine [26, 51, 52] args.toList ds p (by decide) (fun j t v hj hv => hval0 j t v (by rw [Try.params10]; simpa using hj) (by simpa using hv)) hA
  have hw := walk xs hcs
  have hlen := trodAll_len [26, 51, 52] args.toList ds p hA
  obtain ⟨d0, d1, d2, rfl⟩ := len_eq3 hlen
  simp only [List.append_nil] at hW' hlt
  have hcall := hw.2 (fun _ => True) W args.toList hxs
  rw [show args.toList.toArray = args by simp] at hcall
  refine hcall.mono fun e W' ⟨v, he, hb, hv⟩ => ?_
  obtain ⟨hv1, _⟩ := hv
  simp only [List.cons.injEq, and_true] at hv1
  subst he hv1
  refine ⟨_, rfl, post_below (ds := [d0, d1, d2]) (gs := []) (pa := p) (pv := []) (by simpa using hW') (trodAll_cons_mk (shut_bool Try.underlying4 _) trodAll_mk0) ?_ rfl hb⟩
  show DataW.TrodAll enc Try.prog W' 0 _ true Try.f10.params.toList args.toList [d0, d1, d2] p
  rw [Try.params10]
  exact args_stay laid hb [26, 51, 52] args.toList _ p (by kernel_rfl) hA (fun x hx => hlt x hx) _ (fun x hx => by simpa using hlt x hx)

theorem over : Rows.unitReadsRow.holds Try.pinned (OpenSpec.ofChange Rows.unitReadsSpec) :=
  OpenClaim.holds_of_wide 10 Try.f10 rfl rfl rfl rfl rfl rfl rfl ⟨rfl, rfl, rfl, rfl, rfl⟩ rfl rfl rfl rfl rfl (by kernel_rfl) Try.func10 (by kernel_rfl)
    (of_decide_eq_true (by kernel_rfl)) (by unfold Func.isWrapper; first | (rw [if_pos (by decide +kernel)]; kernel_rfl) | (rw [if_neg (by decide +kernel)]; exact ⟨rfl, rfl⟩))
    (fun os started H enc _ => lifted os started H enc)

/-- The statement. -/
theorem proved : Rows.UnitReadsSaid := over

end Go.Proofs.Ytnhflokfcnfegaa.unitReads
