/- What is proved: which nodes may be, by themselves, as the program tells: all kinds. -/
import Derived.Test.YtffglpibobogcaaGreatDoorZUNParC

namespace Go.Sim.YtffglpibobogcaaGreatDoor
open Go.RowKit Go.Proofs Go.Proofs.Tryz
section
variable {nm : ByteArray → Bool} (hnm : ∀ s : ByteArray, s.size ≤ maxLen → Ev_parse_named s (nm s)) (h0 : nm noText = false)
  (hr : ∀ a : GRat, a.ok → Ev_rat_Right a a.right) (hd : ∀ a : GRat, a.right = true → a.D ≠ 0)
include hnm h0 hr hd
theorem shape_ev {t : GTree} (ht : t.ok) : Ev_parse_shape t (oneB nm indexB t) := by
  have hl := kids_le ht
  have hns : t.Name.size ≤ maxLen := ((GTree.ok_iff t).1 ht).2.1
  have has : t.Alias.size ≤ maxLen := ((GTree.ok_iff t).1 ht).2.2.1
  have fE : ∀ x ∈ t.Kids, FVal prog Fn_parse_expression [GTree.out x] (.v (.bool (isE x))) := fun x _ => call_parse_expression (expression_ev x)
  have fD : ∀ x ∈ t.Kids, FVal prog Fn_parse_dimension [GTree.out x] (.v (.bool (isD x))) := fun x _ => call_parse_dimension (dimension_ev x)
  have fI : ∀ x ∈ t.Kids, FVal prog Fn_parse_item [GTree.out x] (.v (.bool (isI x))) := fun x _ => call_parse_item (item_ev x)
  have fR : ∀ x ∈ t.Kids, FVal prog Fn_parse_rule [GTree.out x] (.v (.bool (isR x))) := fun x _ => call_parse_rule (rule_ev x)
  have fK : ∀ ks : List Int, ks.length ≤ 1000 → ∀ x ∈ t.Kids, FVal prog (Fn_parse_kind_1 ks) [GTree.out x] (.v (.bool (isKs ks x))) := fun ks h x _ => kind_fn h
  have one1 : ∀ (f : DV) (p : GTree → Bool), IsFn f → (∀ x ∈ t.Kids, FVal prog f [GTree.out x] (.v (.bool (p x)))) → Ev_parse_each t.Kids [f] (eachB [p] t.Kids) := fun f p h1 h2 =>
    each_ev hl rfl fun i f' p' hf hp => by
      match i with
      | 0 => simp at hf hp; subst hf hp; exact ⟨h1, h2⟩
      | i + 1 => simp at hf
  have two : ∀ (f g : DV) (p q : GTree → Bool), IsFn f → IsFn g → (∀ x ∈ t.Kids, FVal prog f [GTree.out x] (.v (.bool (p x)))) → (∀ x ∈ t.Kids, FVal prog g [GTree.out x] (.v (.bool (q x)))) → Ev_parse_each t.Kids [f, g] (eachB [p, q] t.Kids) := fun f g p q h1 h1' h2 h2' =>
    each_ev hl rfl fun i f' p' hf hp => by
      match i with
      | 0 => simp at hf hp; subst hf hp; exact ⟨h1, h2⟩
      | 1 => simp at hf hp; subst hf hp; exact ⟨h1', h2'⟩
      | i + 2 => simp at hf
  have three : ∀ (f g k : DV) (p q s : GTree → Bool), IsFn f → IsFn g → IsFn k → (∀ x ∈ t.Kids, FVal prog f [GTree.out x] (.v (.bool (p x)))) → (∀ x ∈ t.Kids, FVal prog g [GTree.out x] (.v (.bool (q x)))) → (∀ x ∈ t.Kids, FVal prog k [GTree.out x] (.v (.bool (s x)))) → Ev_parse_each t.Kids [f, g, k] (eachB [p, q, s] t.Kids) := fun f g k p q s h1 h1' h1'' h2 h2' h2'' =>
    each_ev hl rfl fun i f' p' hf hp => by
      match i with
      | 0 => simp at hf hp; subst hf hp; exact ⟨h1, h2⟩
      | 1 => simp at hf hp; subst hf hp; exact ⟨h1', h2'⟩
      | 2 => simp at hf hp; subst hf hp; exact ⟨h1'', h2''⟩
      | i + 3 => simp at hf
  have iE : IsFn Fn_parse_expression := isFn_v
  have iD : IsFn Fn_parse_dimension := isFn_v
  have iI : IsFn Fn_parse_item := isFn_v
  have iR : IsFn Fn_parse_rule := isFn_v
  have iK : ∀ ks, IsFn (Fn_parse_kind_1 ks) := fun _ => isFn_c
  have bad : ∀ (w : GTree) (ok : Bool), w.Name.size ≤ maxLen → ok = false → oneB nm indexB t = false → w.Name.size ≤ maxLen ∧ finB nm t w ok = oneB nm indexB t := fun w ok h3 h1 h2 => ⟨h3, by unfold finB; rw [h1, h2]; rfl⟩
  have h00 : noText.size ≤ maxLen := by decide
  refine walk_parse_shape ?_
  unfold W_parse_shape
  refine ⟨fun w ok => w.Name.size ≤ maxLen ∧ finB nm t w ok = oneB nm indexB t, ?_, ?_⟩
  rotate_left
  · rintro w ok ⟨hws, hw⟩
    rw [← hw]
    unfold finB
    rw [noText_iff]
    refine ⟨fun h => Br.d (fun h1 => Call.mk (same_ev t w) ⟨fun h2 => ⟨fun h3 => ?_, fun h3 => Call.mk (names_ev _) ?_⟩, fun h2 => ?_⟩) (fun h1 => Call.mk (hnm _ hws) ⟨fun h2 => Call.mk (same_ev t w) ⟨fun h3 => ⟨fun h4 => ?_, fun h4 => ?_⟩, fun h3 => ?_⟩, fun h2 => ?_⟩), fun h => ?_⟩
    · simp [h1] at h3
    · show _ = _; rw [h, h2]; simp [h1]
    · show _ = _; rw [h2]; simp
    · show _ = _; rw [h, h2, h3]; simp [h1]
    · simp [h1] at h4
    · show _ = _; rw [h3]; simp
    · show _ = _; rw [h2]; simp [h1]
    · show _ = _; rw [h]; simp
  refine Br.e (fun h => ?_) (fun n30 => Br.e (fun h => ?_) (fun n31 => Br.e (fun h => ?_) (fun n32 => Br.e (fun h => ?_) (fun n33 => Br.e (fun h => ?_) (fun n34 => Br.e (fun h => ?_) (fun n35 => Br.e (fun h => ?_) (fun n36 => Br.e (fun h => ?_) (fun n37 => Br.e (fun h => ?_) (fun n38 =>
    ⟨fun b => b = decide (t.Kind = 39 ∨ t.Kind = 8 ∨ t.Kind = 9 ∨ t.Kind = 10 ∨ t.Kind = 11), ?_, ?_⟩)))))))))
  · refine Call.mk (kind_ev _) (Call.mk (all_ev hl (iK _) (fK _ (by decide))) ⟨h00, ?_⟩)
    unfold finB oneB spec sameB many noNum namesB
    simp [h]; grind
  · refine Call.mk (all_ev hl iD fD) ⟨hns, ?_⟩
    unfold finB oneB spec sameB optB noNum namesB
    simp [h]; grind
  · refine Call.mk (upto_ev _ _ _) ⟨fun hb => Call.mk (all_ev hl iI fI) ⟨hns, ?_⟩, fun hb => bad _ _ hns rfl ?_⟩
    · simp at hb
      unfold finB oneB spec sameB many noNum namesB
      simp [h, hb]; grind
    · simp at hb
      unfold oneB spec; simp [h]; grind
  · refine Call.mk (kind_ev _) ⟨iK _, Call.mk (two _ _ _ _ (iK _) iE (fK _ (by decide)) fE) ⟨hns, ?_⟩⟩
    unfold finB oneB spec sameB noNum namesB
    simp [h]; grind
  · refine Call.mk (upto_ev _ _ _) ⟨fun hb => Call.mk (kind_ev _) ⟨iK _, Call.mk (one1 _ _ (iK _) (fK _ (by decide))) ⟨hns, ?_⟩⟩, fun hb => bad _ _ hns rfl ?_⟩
    · simp at hb
      unfold finB oneB spec sameB noNum namesB
      simp [h, hb]; grind
    · simp at hb
      unfold oneB spec; simp [h]; grind
  · refine Call.mk (upto_ev _ _ _) ⟨fun hb => Call.mk (hnm _ has) ⟨fun hb2 => Call.mk (kind_ev _) (Call.mk (all_ev hl (iK _) (fK _ (by decide))) ⟨hns, ?_⟩), fun hb2 => bad _ _ hns rfl ?_⟩, fun hb => bad _ _ hns rfl ?_⟩
    · simp at hb
      unfold finB oneB spec sameB many noNum namesB
      simp [h, hb, hb2]; grind
    · unfold oneB spec; simp [h, hb2]
    · simp at hb
      unfold oneB spec; simp [h]; grind
  · refine Call.mk (one1 _ _ iE fE) ⟨hns, ?_⟩
    unfold finB oneB spec sameB noNum namesB
    simp [h]; grind
  · refine Call.mk (kind_ev _) ⟨iK _, Call.mk (three _ _ _ _ _ _ (iK _) iE iE (fK _ (by decide)) fE fE) ⟨h00, ?_⟩⟩
    unfold finB oneB spec sameB noNum namesB
    simp [h]; grind
  · refine Call.mk (kind_ev _) (Call.mk (kind_ev _) ⟨iK _, iK _, Call.mk (two _ _ _ _ (iK _) (iK _) (fK _ (by decide)) (fK _ (by decide))) ⟨h00, ?_⟩⟩)
    unfold finB oneB spec sameB noNum namesB
    simp [h]; grind
  · refine Br.e (fun e => by simp [e]) (fun e1 => Br.e (fun e => by simp [e]) (fun e2 => Br.e (fun e => by simp [e]) (fun e3 => Br.e (fun e => by simp [e]) (fun e4 => ?_))))
    show _ = _
    rw [Bool.eq_iff_iff]; simp [e1, e2, e3, e4]
  rintro _ rfl
  refine Br.d (fun h => Call.mk (two _ _ _ _ iE iE fE fE) ⟨h00, ?_⟩) (fun n39 => Br.e (fun h => ?_) (fun n40 => Br.e (fun h => ?_) (fun n41 => ?_)))
  · unfold finB oneB spec sameB noNum namesB
    rcases h with h | h | h | h | h <;> simp [h] <;> grind
  · refine Call.mk (upto_ev _ _ _) ⟨fun hb => Call.mk (upto_ev _ _ _) ⟨fun hb2 => Call.mk (all_ev hl iR fR) ⟨hns, ?_⟩, fun hb2 => bad _ _ hns rfl ?_⟩, fun hb => bad _ _ hns rfl ?_⟩
    · simp at hb hb2
      unfold finB oneB spec sameB many noNum namesB
      simp [h, hb, hb2]; grind
    · simp at hb2
      unfold oneB spec; simp [h]; grind
    · simp at hb
      unfold oneB spec; simp [h]; grind
  · refine Call.mk (all_ev hl iD fD) ⟨h00, ?_⟩
    unfold finB oneB spec sameB optB noNum namesB
    simp [h]; grind
  · exact Call.mk (low_ev hnm hr hd ht (by omega)) rfl
end
end Go.Sim.YtffglpibobogcaaGreatDoor
