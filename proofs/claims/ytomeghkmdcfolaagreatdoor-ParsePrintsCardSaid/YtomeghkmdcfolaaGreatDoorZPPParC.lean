/- What is proved: which nodes may be, by themselves, as the program tells. -/
import Derived.Test.YtomeghkmdcfolaaGreatDoorZPPPureK
import Derived.Test.YtomeghkmdcfolaaGreatDoorZPPRatY

namespace Go.Sim.YtomeghkmdcfolaaGreatDoor
open Go.RowKit Go.Proofs Go.Proofs.Tryz
structure Sp where
 hasN : Bool
 hasA : Bool
 hasF : Bool
 lo : Int
 hi : Int
 m : Int
 kids : List GTree -> Bool
 num : GRat -> Bool
def many (p : GTree -> Bool) (ks : List GTree) : Bool := ks.all p
def optB (p : GTree -> Bool) (ks : List GTree) : Bool := decide (ks.length <= 1) && ks.all p
def plusB (p : GTree -> Bool) (ks : List GTree) : Bool := decide (1 <= ks.length) && ks.all p
def noNum (r : GRat) : Bool := GRat.beq r GRat.zero
def decB (r : GRat) : Bool := r.right && decide (0 <= r.N) && (Int.tmod 1000000000000000000 r.D == 0)
def powB (r : GRat) : Bool := r.right && decide (-64 <= r.N) && decide (r.N <= 64) && decide (r.D <= 64)
def spec (ix : GTree -> Bool) (k : Int) : Option Sp :=
 if k = 30 then some ⟨false, false, false, 0, 0, 0, many (isKs [31, 32]), noNum⟩
 else if k = 31 then some ⟨true, false, false, 0, 0, 0, optB isD, noNum⟩
 else if k = 32 then some ⟨true, false, false, 1, 2, 0, many isI, noNum⟩
 else if k = 33 then some ⟨true, false, false, 0, 0, 0, eachB [isKs [41], isE], noNum⟩
 else if k = 34 then some ⟨true, false, true, 0, 1000000, 0, eachB [isKs [41]], noNum⟩
 else if k = 35 then some ⟨true, true, false, 0, 1000000, 0, many (isKs [36]), noNum⟩
 else if k = 36 then some ⟨true, false, false, 0, 0, 0, eachB [isE], noNum⟩
 else if k = 37 then some ⟨false, false, false, 0, 0, 0, eachB [isKs [2, 4], isE, isE], noNum⟩
 else if k = 38 then some ⟨false, false, false, 0, 0, 0, eachB [isKs [2], isKs [2]], noNum⟩
 else if k = 39 \/ k = 8 \/ k = 9 \/ k = 10 \/ k = 11 then some ⟨false, false, false, 0, 0, 0, eachB [isE, isE], noNum⟩
 else if k = 40 then some ⟨true, false, false, 0, 1000000, 1000000, many isR, noNum⟩
 else if k = 41 then some ⟨false, false, false, 0, 0, 0, optB isD, noNum⟩
 else if k = 1 then some ⟨false, false, false, 0, 0, 0, List.isEmpty, decB⟩
 else if k = 2 then some ⟨false, false, false, 0, 0, 0, plusB (isKs [3]), noNum⟩
 else if k = 3 then some ⟨true, false, false, 0, 0, 0, optB ix, noNum⟩
 else if k = 4 then some ⟨false, false, false, 0, 0, 0, eachB [isKs [2]], noNum⟩
 else if k = 5 \/ k = 20 then some ⟨false, false, false, 0, 0, 0, List.isEmpty, noNum⟩
 else if k = 6 then some ⟨false, false, false, 9, 14, 0, eachB [isE], noNum⟩
 else if k = 7 then some ⟨false, false, false, 0, 0, 0, eachB [isE], noNum⟩
 else if k = 12 then some ⟨false, false, false, -64, 64, 0, eachB [isE], noNum⟩
 else if k = 21 then some ⟨true, false, false, 0, 0, 0, List.isEmpty, noNum⟩
 else if k = 22 \/ k = 23 then some ⟨false, false, false, 0, 0, 0, eachB [isD, isD], noNum⟩
 else if k = 24 then some ⟨false, false, false, 0, 0, 0, eachB [isD], powB⟩
 else none
def oneB (nm : ByteArray -> Bool) (ix : GTree -> Bool) (t : GTree) : Bool := match spec ix t.Kind with
  | none => false
  | some s => (if s.hasN then nm t.Name else decide (t.Name = noText)) && (if s.hasA then nm t.Alias else decide (t.Alias = noText)) && (!t.Flag || s.hasF) &&
      decide (s.lo <= t.N) && decide (t.N <= s.hi) && decide (0 <= t.M) && decide (t.M <= s.m) && s.kids t.Kids && s.num t.Num
def finB (nm : ByteArray -> Bool) (t w : GTree) (ok : Bool) : Bool := ok && (decide (w.Name = noText) || nm w.Name) && sameB t w && (!decide (w.Name = noText) || !namesB t.Kind)
theorem rat_beq_self (a : GRat) : GRat.beq a a = true := (GRat.beq_iff a a).2 rfl
theorem isEmpty_len (ks : List GTree) : (((ks.length : Nat) : Int) == 0) = ks.isEmpty := by
 cases ks with
 | nil => rfl
 | cons a b => simp; omega
theorem parseDecimal_ev (hr : ∀ a : GRat, a.ok -> Ev_rat_Right a a.right) {a : GRat} (ha : a.ok) (hd : a.right = true -> a.D ≠ 0) : Ev_parse_decimal a (decB a) := by
 refine walk_parse_decimal ?_
 unfold W_parse_decimal decB
 refine Call.mk (hr a ha) ⟨fun h => Br.d (fun h2 => ⟨hd h, Let.it ?_⟩) (fun h2 => ?_), fun h => ?_⟩
 ·show _ = _; rw [h, decide_eq_true (show (0 : Int) <= _ from h2)]; rfl
 ·show _ = _; rw [decide_eq_false (show ¬ (0 : Int) <= _ from h2)]; simp
 ·show _ = _; rw [h]; rfl
section
variable {nm : ByteArray -> Bool} (hnm : ∀ s : ByteArray, s.size <= maxLen -> Ev_parse_named s (nm s))
 (hr : ∀ a : GRat, a.ok -> Ev_rat_Right a a.right) (hd : ∀ a : GRat, a.right = true -> a.D ≠ 0)
include hnm hr hd
theorem low_ev {t : GTree} (ht : t.ok) (hk : ¬ (30 <= t.Kind /\ t.Kind <= 35) /\ ¬ (36 <= t.Kind /\ t.Kind <= 41) /\ ¬ (8 <= t.Kind /\ t.Kind <= 11)) :
    Ev_parse_low t ({ GTree.zero with Kind := t.Kind, Kids := t.Kids }) (oneB nm indexB t) := by
  have hl := kids_le ht
  have hnum : t.Num.ok := ((GTree.ok_iff t).1 ht).2.2.2.2.2.1
  have hns : t.Name.size <= maxLen := ((GTree.ok_iff t).1 ht).2.1
  have fE : ∀ x ∈ t.Kids, FVal prog Fn_parse_expression [GTree.out x] (.v (.bool (isE x))) := fun x _ => call_parse_expression (expression_ev x)
  have fD : ∀ x ∈ t.Kids, FVal prog Fn_parse_dimension [GTree.out x] (.v (.bool (isD x))) := fun x _ => call_parse_dimension (dimension_ev x)
  have fX : ∀ x ∈ t.Kids, FVal prog Fn_parse_index [GTree.out x] (.v (.bool (indexB x))) := fun x _ => call_parse_index (pindex_ev x)
  have fK : ∀ ks : List Int, ks.length <= 1000 -> ∀ x ∈ t.Kids, FVal prog (Fn_parse_kind_1 ks) [GTree.out x] (.v (.bool (isKs ks x))) := fun ks h x _ => kind_fn h
  have one1 : ∀ (f : DV) (p : GTree -> Bool), IsFn f -> (∀ x ∈ t.Kids, FVal prog f [GTree.out x] (.v (.bool (p x)))) -> Ev_parse_each t.Kids [f] (eachB [p] t.Kids) := fun f p h1 h2 =>
    each_ev hl rfl fun i f' p' hf hp => by
      match i with
      | 0 => simp at hf hp; subst hf hp; exact ⟨h1, h2⟩
      | i + 1 => simp at hf
  have two : ∀ (f g : DV) (p q : GTree -> Bool), IsFn f -> IsFn g -> (∀ x ∈ t.Kids, FVal prog f [GTree.out x] (.v (.bool (p x)))) -> (∀ x ∈ t.Kids, FVal prog g [GTree.out x] (.v (.bool (q x)))) -> Ev_parse_each t.Kids [f, g] (eachB [p, q] t.Kids) := fun f g p q h1 h1' h2 h2' =>
    each_ev hl rfl fun i f' p' hf hp => by
      match i with
      | 0 => simp at hf hp; subst hf hp; exact ⟨h1, h2⟩
      | 1 => simp at hf hp; subst hf hp; exact ⟨h1', h2'⟩
      | i + 2 => simp at hf
  refine walk_parse_low ?_
  unfold W_parse_low
  refine ⟨fun w ok => (ok && sameB t w) = oneB nm indexB t, ?_, ?_⟩
  rotate_left
  · intro w ok hw
    refine ⟨fun h => Call.mk (same_ev t w) ?_, fun h => ?_⟩
    · show _ = _; rw [← hw, h, Bool.true_and]
    · show _ = _; rw [← hw, h, Bool.false_and]
  have iE : IsFn Fn_parse_expression := isFn_v
  have iD : IsFn Fn_parse_dimension := isFn_v
  have iX : IsFn Fn_parse_index := isFn_v
  have iK : ∀ ks, IsFn (Fn_parse_kind_1 ks) := fun _ => isFn_c
  have fin : ∀ (w : GTree) (ok : Bool), ok = false -> oneB nm indexB t = false -> (ok && sameB t w) = oneB nm indexB t := fun w ok h1 h2 => by rw [h1, h2]; rfl
  refine Br.e (fun h => ?_) (fun n1 => Br.e (fun h => ?_) (fun n2 => Br.e (fun h => ?_) (fun n3 => Br.e (fun h => ?_) (fun n4 => ⟨fun b => b = decide (t.Kind = 5 \/ t.Kind = 20), Br.e (fun e => by simp [e]) (fun e => by show _ = _; rw [Bool.eq_iff_iff]; simp [e]), ?_⟩))))
  · refine Call.mk (parseDecimal_ev hr hnum (hd _)) ⟨fun hb => ?_, fun hb => fin _ _ rfl ?_⟩
    · show (_ && sameB t _) = _
      rw [isEmpty_len]
      unfold oneB spec sameB
      simp [h, hb, rat_beq_self]
      grind
    · unfold oneB spec; simp [h, hb]
  · refine Call.mk (kind_ev _) (Call.mk (all_ev hl (iK _) (fK _ (by decide))) ?_)
    show (_ && sameB t _) = _
    unfold oneB spec sameB plusB noNum
    simp [h]
    grind
  · refine Call.mk (hnm _ hns) ⟨fun hb => Call.mk (all_ev hl iX fX) ?_, fun hb => fin _ _ rfl ?_⟩
    · show (_ && sameB t _) = _
      unfold oneB spec sameB optB noNum
      simp [h, hb]
      grind
    · unfold oneB spec; simp [h, hb]
  · refine Call.mk (kind_ev _) ⟨iK _, Call.mk (one1 _ _ (iK _) (fK _ (by decide))) ?_⟩
    show (_ && sameB t _) = _
    unfold oneB spec sameB noNum
    simp [h]
    grind
  rintro _ rfl
  refine Br.d (fun h => ?_) (fun n5 => Br.e (fun h => Call.mk (upto_ev _ _ _) ⟨fun hb => Call.mk (one1 _ _ iE fE) ?_, fun hb => fin _ _ rfl ?_⟩) (fun n6 => Br.e (fun h => Call.mk (one1 _ _ iE fE) ?_) (fun n7 => Br.e (fun h => Call.mk (upto_ev _ _ _) ⟨fun hb => Call.mk (one1 _ _ iE fE) ?_, fun hb => fin _ _ rfl ?_⟩) (fun n12 => Br.e (fun h => Call.mk (hnm _ hns) ⟨fun hb => ?_, fun hb => fin _ _ rfl ?_⟩) (fun n21 => ⟨fun b => b = decide (t.Kind = 22 \/ t.Kind = 23), Br.e (fun e => by simp [e]) (fun e => by show _ = _; rw [Bool.eq_iff_iff]; simp [e]), ?_⟩)))))
  · show (_ && sameB t _) = _
    rw [isEmpty_len]
    unfold oneB spec sameB noNum
    rcases h with h | h <;> simp [h] <;> grind
  · show (_ && sameB t _) = _
    unfold oneB spec sameB noNum
    simp at hb
    simp [h, hb]
    grind
  · unfold oneB spec
    simp at hb
    simp [h]; grind
  · show (_ && sameB t _) = _
    unfold oneB spec sameB noNum
    simp [h]
    grind
  · show (_ && sameB t _) = _
    unfold oneB spec sameB noNum
    simp at hb
    simp [h, hb]
    grind
  · unfold oneB spec
    simp at hb
    simp [h]; grind
  · show (_ && sameB t _) = _
    rw [isEmpty_len]
    unfold oneB spec sameB noNum
    simp [h, hb]
    grind
  · unfold oneB spec; simp [h, hb]
  rintro _ rfl
  refine Br.d (fun h => Call.mk (two _ _ _ _ iD iD fD fD) ?_) (fun n22 => Br.e (fun h => Call.mk (hr _ hnum) ⟨fun b1 => Br.d (fun b2 => Br.d (fun b3 => Br.d (fun b4 => Call.mk (one1 _ _ iD fD) ?_) (fun b4 => fin _ _ rfl ?_)) (fun b3 => fin _ _ rfl ?_)) (fun b2 => fin _ _ rfl ?_), fun b1 => fin _ _ rfl ?_⟩) (fun n24 => fin _ _ rfl ?_))
  · show (_ && sameB t _) = _
    unfold oneB spec sameB noNum
    rcases h with h | h <;> simp [h] <;> grind
  · show (_ && sameB t _) = _
    unfold oneB spec sameB powB
    simp [h, b1, b3, b4, rat_beq_self, show (-64 : Int) <= _ from b2]
    grind
  · unfold oneB spec powB; simp [h, b1, b4]
  · unfold oneB spec powB; simp [h, b1, b3]
  · unfold oneB spec powB; simp [h, b1, show ¬ (-64 : Int) <= _ from b2]
  · unfold oneB spec powB; simp [h, b1]
  · unfold oneB spec
    rw [if_neg (by omega), if_neg (by omega), if_neg (by omega), if_neg (by omega), if_neg (by omega), if_neg (by omega), if_neg (by omega), if_neg (by omega), if_neg (by omega), if_neg (by omega), if_neg (by omega), if_neg (by omega), if_neg n1, if_neg n2, if_neg n3, if_neg n4, if_neg n5, if_neg n6, if_neg n7, if_neg n12, if_neg n21, if_neg n22, if_neg n24]
end
end Go.Sim.YtomeghkmdcfolaaGreatDoor
