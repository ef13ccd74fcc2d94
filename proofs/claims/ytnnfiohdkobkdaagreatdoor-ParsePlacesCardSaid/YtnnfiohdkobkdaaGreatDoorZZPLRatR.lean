/- What is proved: rat.Read yields something for every text (given what strings and strconv yield). -/
import Derived.Test.YtnnfiohdkobkdaaGreatDoorZZPLBytK
import Derived.Test.YtnnfiohdkobkdaaGreatDoorZZPLWR
import Derived.Test.YtnnfiohdkobkdaaGreatDoorZZPLExtB

namespace Go.Sim.YtnnfiohdkobkdaaGreatDoor
open Go.RowKit Go.Proofs Go.Proofs.Tryz
abbrev tens : ByteArray := ByteArray.mk #[48, 49, 50, 51, 52, 53, 54, 55, 56, 57]
def zeroB (c : Int) : Bool := c == 48
/-- What is asked of the library. -/
structure StrOk : Prop where
  t10 : ∀ s : ByteArray, s.size ≤ 9223372036854775807 → Ev_strings_TrimLeft s tens (bs ((tl s 0).drop (span digitB (tl s 0))))
  t0 : ∀ s : ByteArray, s.size ≤ 9223372036854775807 → Ev_strings_TrimLeft s (ByteArray.mk #[48]) (bs ((tl s 0).drop (span zeroB (tl s 0))))
  atoi : ∀ l : List UInt8, 1 ≤ l.length → l.length ≤ 2 → span digitB l = l.length → ∃ n : Int, Ev_strconv_Atoi (bs l) (n, false) ∧ 0 ≤ n ∧ n ≤ 99
  pu : ∀ s : ByteArray, s.size ≤ 20000 → ∃ (n : Nat) (e : Bool), n < 18446744073709551616 ∧ Ev_strconv_ParseUint s 10 64 ((n : Int), e)
theorem bs_tl (s : ByteArray) : bs (tl s 0) = s := by
  unfold bs tl; rw [List.drop_zero]
theorem tl_bs (l : List UInt8) : tl (bs l) 0 = l := by unfold bs tl; rfl
theorem bs_nil {l : List UInt8} : ((bs l).toList == (ByteArray.mk #[]).toList) = decide (l = []) := by
  by_cases h : l = []
  · subst h; rw [decide_eq_true rfl]; exact beq_str.2 rfl
  · rw [decide_eq_false h]
    apply Bool.eq_false_iff.2
    intro e
    have := beq_str.1 e
    apply h
    have h2 := congrArg (fun x : ByteArray => x.data.toList) this
    simpa [bs] using h2
theorem digits_ev (h : StrOk) {l : List UInt8} (hl : l.length ≤ 9223372036854775807) : Ev_rat_digits (bs l) (bs (l.take (span digitB l)), bs (l.drop (span digitB l))) := by
  refine walk_rat_digits ?_
  unfold W_rat_digits
  have h1 := h.t10 (bs l) (by rw [bs_size]; exact hl)
  rw [tl_bs] at h1
  have h2 := span_le digitB l
  refine Call.mk h1 (Let.as ((span digitB l : Nat) : Int) (by rw [bs_size, bs_size, List.length_drop, wi (by omega) (by omega)]; omega) ?_)
  have h3 : SlS (bs l) ((0 : Nat) : Int) ((0 + span digitB l : Nat) : Int) (fun x5 => (x5, bs (l.drop (span digitB l))) = (bs (l.take (span digitB l)), bs (l.drop (span digitB l)))) :=
    SlS.tl (by rw [bs_size]; omega) (by rw [tl_bs])
  rw [Nat.zero_add] at h3
  exact h3
theorem dot_yes {l : List UInt8} (h : (decide (1 ≤ l.length) && ((bs (l.take 1)).toList == (ByteArray.mk #[46]).toList)) = true) : peek l 0 = 46 := by
  simp only [Bool.and_eq_true] at h
  have e := beq_str.1 h.2
  cases l with
  | nil => simp at h
  | cons b l =>
    have h2 := congrArg (fun x : ByteArray => x.data.toList) e
    have h3 : b = 46 := by simpa [bs] using h2
    rw [h3]; rfl
theorem dot_no {l : List UInt8} (h : (decide (1 ≤ l.length) && ((bs (l.take 1)).toList == (ByteArray.mk #[46]).toList)) = false) : peek l 0 ≠ 46 := by
  intro hp
  cases l with
  | nil => simp [peek] at hp
  | cons b l =>
    have hb : (b.toNat : Int) = 46 := by simpa [peek] using hp
    have h3 : b = 46 := UInt8.toNat_inj.1 (by show b.toNat = 46; omega)
    rw [h3] at h
    rw [Bool.and_eq_false_iff] at h
    rcases h with h | h
    · simp at h
    · rw [show bs (List.take 1 ((46 : UInt8) :: l)) = ByteArray.mk #[46] from rfl] at h
      simp at h
theorem cut_ev (l : List UInt8) (hl : l.length ≤ 9223372036854775807) : ∃ (r : List UInt8) (b : Bool), r.length ≤ l.length ∧ Ev_strings_CutPrefix (bs l) (ByteArray.mk #[46]) (bs r, b) ∧ (b = true → peek l 0 = 46 ∧ l.drop 1 = r) ∧ (b = false → peek l 0 ≠ 46) := by
  have hp : Ev_internal_stringslite_HasPrefix (bs l) (ByteArray.mk #[46]) (decide (1 ≤ l.length) && ((bs (l.take 1)).toList == (ByteArray.mk #[46]).toList)) := by
    refine walk_internal_stringslite_HasPrefix ?_
    unfold W_internal_stringslite_HasPrefix
    have e1 : (ByteArray.mk #[46]).size = 1 := rfl
    rw [bs_size, e1]
    refine Br.d (fun h => ?_) (fun h => ?_)
    · have h1 : 1 ≤ l.length := by omega
      rw [decide_eq_true h1, Bool.true_and]
      exact SlS.tl (s := bs l) (p := 0) (n := 1) (by rw [bs_size]; omega) (by rw [tl_bs])
    · rw [decide_eq_false (by omega), Bool.false_and]
  cases hb : (decide (1 ≤ l.length) && ((bs (l.take 1)).toList == (ByteArray.mk #[46]).toList)) with
  | false =>
    rw [hb] at hp
    refine ⟨l, false, Nat.le_refl _, walk_strings_CutPrefix ?_, fun h => by simp at h, fun _ => dot_no hb⟩
    unfold W_strings_CutPrefix
    refine Call.mk (walk_internal_stringslite_CutPrefix (r := (bs l, false)) ?_) rfl
    unfold W_internal_stringslite_CutPrefix
    exact Call.mk hp (Br.t rfl rfl)
  | true =>
    rw [hb] at hp
    have h1 : 1 ≤ l.length := by simp only [Bool.and_eq_true, decide_eq_true_eq] at hb; exact hb.1
    refine ⟨l.drop 1, true, by rw [List.length_drop]; omega, walk_strings_CutPrefix ?_, fun _ => ⟨dot_yes hb, rfl⟩, fun h => by simp at h⟩
    unfold W_strings_CutPrefix
    refine Call.mk (walk_internal_stringslite_CutPrefix (r := (bs (l.drop 1), true)) ?_) rfl
    unfold W_internal_stringslite_CutPrefix
    refine Call.mk hp (Br.f rfl ?_)
    have e : ((bs l).size : Int) = ((1 + (l.length - 1) : Nat) : Int) := by rw [bs_size]; omega
    rw [e]
    refine SlS.tl (s := bs l) (p := 1) (n := l.length - 1) (by rw [bs_size]; omega) ?_
    have : tl (bs l) 1 = l.drop 1 := by rw [← tl_drop (bs l) 0 1, tl_bs]
    rw [this, List.take_of_length_le (by rw [List.length_drop]; exact Nat.le_refl _)]
/-- Something is yielded: of a statement with a result. -/
theorem SlS_from {l : List UInt8} {p : Nat} {k : ByteArray → Prop} (h : p ≤ l.length) (hk : k (bs (l.drop p))) : SlS (bs l) (p : Int) ((bs l).size : Int) k := by
  have e : ((bs l).size : Int) = ((p + (l.length - p) : Nat) : Int) := by rw [bs_size]; omega
  rw [e]
  refine SlS.tl (s := bs l) (by rw [bs_size]; omega) ?_
  have : tl (bs l) p = l.drop p := by
    have := tl_drop (bs l) 0 p
    rw [tl_bs, Nat.zero_add] at this; exact this.symm
  rw [this, List.take_of_length_le (by rw [List.length_drop]; exact Nat.le_refl _)]
  exact hk
theorem AtS.first {l : List UInt8} {k : Int → Prop} (h : l ≠ []) (hk : ∀ b : UInt8, k ((b.toNat : Nat) : Int)) : AtS (bs l) (0 : Int) k := by
  cases l with
  | nil => exact absurd rfl h
  | cons b l => exact AtS.nat (p := 0) (b := b) (by unfold bs; rfl) (hk b)
def shortL (y : Int) : List Int → Int → List Int
  | [], _ => []
  | c :: t, r =>
    let v := IntKind.u8.wrap (IntKind.u8.wrap (IntKind.u8.wrap (r * 10) + c) - 48)
    IntKind.u8.wrap (48 + IntKind.u8.wrap (Int.tdiv v y)) :: shortL y t (Int.tmod v y)
theorem shortL_len (y : Int) : ∀ (l : List Int) (r : Int), (shortL y l r).length = l.length
  | [], _ => rfl
  | c :: t, r => by unfold shortL; simp [shortL_len y t]
theorem short_ev (l : List Int) (y : Int) (hy : y ≠ 0) (hl : l.length ≤ 20000) : Ev_rat_short l y (shortL y l 0) := by
  refine walk_rat_short ?_
  unfold W_rat_short
  refine ⟨by omega, by omega, by omega, Let.as (List.replicate l.length 0) (by rw [Int.toNat_natCast]) ?_⟩
  refine ⟨fun out rest i => ∃ j : Nat, i = (j : Int) ∧ j ≤ l.length ∧ out.length = l.length ∧ out.take j ++ shortL y (l.drop j) rest = shortL y l 0, fun _ _ i => l.length - i.toNat, ⟨0, rfl, Nat.zero_le _, by simp, by simp⟩, ?_⟩
  rintro out rest _ ⟨j, rfl, hj, ho, he⟩
  refine Br.d (fun h => ?_) (fun h => ?_)
  · have hj1 : j < l.length := by omega
    have hx : l[j]? = some l[j] := List.getElem?_eq_getElem hj1
    have hz : out[j]? = some (out[j]'(by omega)) := List.getElem?_eq_getElem (by omega)
    refine ⟨by omega, l[j], by rw [Int.toNat_natCast]; exact hx, ?_⟩
    refine Let.it (Let.it (Let.it ⟨hy, Let.it (Let.it ⟨hy, Let.it ⟨by omega, _, by rw [Int.toNat_natCast]; exact hz, Let.as ((j + 1 : Nat) : Int) (wi1 (by omega)) ⟨⟨j + 1, rfl, hj1, by simp [ho], ?_⟩, ?_⟩⟩⟩)⟩))
    · rw [← he, Int.toNat_natCast, List.drop_eq_getElem_cons hj1]
      conv => rhs; unfold shortL
      rw [List.take_set]
      have e2 : out.take (j + 1) = out.take j ++ [out[j]'(by omega)] := by rw [List.take_add_one, hz]; rfl
      rw [e2, List.set_append_right _ _ (by rw [List.length_take]; omega)]
      rw [List.length_take, show j - min j out.length = 0 by omega, List.set_cons_zero, List.append_assoc]
      rfl
    · show l.length - ((j + 1 : Nat) : Int).toNat < l.length - ((j : Nat) : Int).toNat
      rw [Int.toNat_natCast, Int.toNat_natCast]; omega
  · have : j = l.length := by omega
    subst this
    rw [List.drop_of_length_le (Nat.le_refl _), List.take_of_length_le (by omega)] at he
    show out = _
    rw [← he]; simp [shortL]
/-- Digits without twos, or fives. -/
def stripF (y : Int) : Nat → List Int → Nat × List Int
  | 0, l => (0, l)
  | k + 1, l => if Int.tmod (IntKind.u8.wrap ((l[l.length - 1]?).getD 0 - 48)) y = 0 then stripF y k (shortL y l 0) else (k + 1, l)
theorem stripF_le (y : Int) : ∀ (k : Nat) (l : List Int), (stripF y k l).1 ≤ k ∧ (stripF y k l).2.length = l.length
  | 0, l => ⟨Nat.le_refl _, rfl⟩
  | k + 1, l => by
    unfold stripF
    split
    · have := stripF_le y k (shortL y l 0)
      rw [shortL_len] at this
      exact ⟨by omega, this.2⟩
    · exact ⟨Nat.le_refl _, rfl⟩
theorem strip_ev {y : Int} (hy : y ≠ 0) {k0 : Nat} {l0 : List Int} (hl0 : 1 ≤ l0.length) (hl1 : l0.length ≤ 20000) (hk0 : k0 ≤ 100000) {k : Int → List Int → Prop} (hk : k ((stripF y k0 l0).1 : Int) (stripF y k0 l0).2) :
    Join2 (fun j54 => Loop2 (k0 : Int) l0 (fun (x75 : Int) (x76 : List Int) next77 =>
      Br (decide (x75 > (0 : Int))) (
        Let (IntKind.i64.wrap (((x76.length : Nat) : Int) - (1 : Int))) fun x86 =>
        At x76 x86 fun x88 =>
        Let (IntKind.u8.wrap (x88 - (48 : Int))) fun x90 =>
        Let (Int.tmod x90 y) fun x91 =>
        Br (x91 == (0 : Int)) (
          Call (Ev_rat_short x76 y) fun x92 =>
          Let (IntKind.i64.wrap (x75 - (1 : Int))) fun x94 =>
          next77 x94 x92) (
          j54 x75 x76)) (
        j54 x75 x76))) k := by
  refine ⟨fun a b => a = ((stripF y k0 l0).1 : Int) ∧ b = (stripF y k0 l0).2, ?_, fun a b hab => by rw [hab.1, hab.2]; exact hk⟩
  refine ⟨fun a b => ∃ j : Nat, a = (j : Int) ∧ j ≤ k0 ∧ b.length = l0.length ∧ stripF y j b = stripF y k0 l0, fun a _ => a.toNat, ⟨k0, rfl, Nat.le_refl _, rfl, rfl⟩, ?_⟩
  rintro _ b ⟨j, rfl, hj, hb, he⟩
  refine Br.d (fun h => ?_) (fun h => ?_)
  · obtain ⟨i, rfl⟩ : ∃ i, j = i + 1 := ⟨j - 1, by omega⟩
    have hx : b[b.length - 1]? = some (b[b.length - 1]'(by omega)) := List.getElem?_eq_getElem (by omega)
    refine Let.as ((b.length - 1 : Nat) : Int) (by rw [wi (by omega) (by omega)]; omega) ⟨by omega, _, by rw [Int.toNat_natCast]; exact hx, Let.it (Let.it ?_)⟩
    refine Br.e (fun h1 => ?_) (fun h1 => ?_)
    · rw [stripF, if_pos (by rw [hx]; exact h1)] at he
      refine Call.mk (short_ev b y hy (by omega)) (Let.as ((i : Nat) : Int) (by rw [wi (by omega) (by omega)]; omega) ⟨⟨i, rfl, by omega, by rw [shortL_len]; exact hb, he⟩, ?_⟩)
      show ((i : Nat) : Int).toNat < ((i + 1 : Nat) : Int).toNat
      rw [Int.toNat_natCast, Int.toNat_natCast]; omega
    · rw [stripF, if_neg (by rw [hx]; exact h1)] at he
      rw [← he]; exact ⟨rfl, rfl⟩
  · have : j = 0 := by omega
    subst this
    rw [← he]; exact ⟨rfl, rfl⟩
end Go.Sim.YtnnfiohdkobkdaaGreatDoor
