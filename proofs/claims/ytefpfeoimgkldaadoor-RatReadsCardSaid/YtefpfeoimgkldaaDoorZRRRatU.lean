/- What is proved: rat.Read yields something for every text (given what strings and strconv yield). -/
import Derived.Test.YtefpfeoimgkldaaDoorZRRRatS

namespace Go.Sim.YtefpfeoimgkldaaDoor
open Go.RowKit Go.Proofs Go.Proofs.Tryd
theorem AtS.head {b : UInt8} {l : List UInt8} {k : Int → Prop} (hk : k ((b.toNat : Nat) : Int)) : AtS (bs (b :: l)) (0 : Int) k := AtS.nat (p := 0) (b := b) (by unfold bs; rfl) hk
abbrev noParts : ByteArray × Int × Int × Bool := (ByteArray.mk #[], 0, 0, false)
/-- An exponent's digits. -/
def expW (x10 : ByteArray) (x11 : Int) (x54 : ByteArray) (x55 : Int) (Q : ByteArray × Int × Int × Bool → Prop) : Prop :=
  Call (Ev_rat_digits x54) fun x66 =>
  Br (decide (((x66.1.size : Nat) : Int) < (1 : Int))) (Q ((ByteArray.mk #[]), (0 : Int), (0 : Int), false)) (
    Br (decide (((x66.1.size : Nat) : Int) > (2 : Int))) (Q ((ByteArray.mk #[]), (0 : Int), (0 : Int), false)) (
      Br (!(x66.2.toList == (ByteArray.mk #[]).toList)) (Q ((ByteArray.mk #[]), (0 : Int), (0 : Int), false)) (
        Call (Ev_strconv_Atoi x66.1) fun x68 =>
        Let (IntKind.i64.wrap (x55 * x68.1)) fun x70 =>
        Q (x10, x11, x70, true))))
theorem span_take (f : Int → Bool) : ∀ l : List UInt8, span f (l.take (span f l)) = (l.take (span f l)).length
  | [] => rfl
  | b :: l => by
    by_cases h : f (b.toNat : Int) = true
    · rw [show span f (b :: l) = span f l + 1 by rw [span, if_pos h], List.take_succ_cons]
      rw [show span f (b :: l.take (span f l)) = span f (l.take (span f l)) + 1 by rw [span, if_pos h], span_take f l]
      simp
    · rw [show span f (b :: l) = 0 by rw [span, if_neg h]]; rfl
/-- What stands behind a number's digits. -/
def restW (x9 : ByteArray) (x10 : ByteArray) (x11 : Int) (Q : ByteArray × Int × Int × Bool → Prop) : Prop :=
  Br (x9.toList == (ByteArray.mk #[]).toList) (Q (x10, x11, (0 : Int), true)) (
    Join1 (fun j23 =>
      AtS x9 (0 : Int) fun x25 =>
      Br (x25 != (101 : Int)) (
        AtS x9 (0 : Int) fun x28 =>
        j23 (x28 != (69 : Int))) (
        j23 false)
    ) (fun (x22 : Bool) =>
      Br x22 (Q ((ByteArray.mk #[]), (0 : Int), (0 : Int), false)) (
        SlS x9 (1 : Int) ((x9.size : Nat) : Int) fun x30 =>
        Join1 (fun j38 =>
          Br (!(x30.toList == (ByteArray.mk #[]).toList)) (
            AtS x30 (0 : Int) fun x40 =>
            Br (x40 == (43 : Int)) (j38 true) (
              AtS x30 (0 : Int) fun x43 =>
              j38 (x43 == (45 : Int)))) (
            j38 false)
        ) (fun (x37 : Bool) =>
          Join2 (fun j56 =>
            Br x37 (
              AtS x30 (0 : Int) fun x58 =>
              Join1 (fun j61 =>
                Br (x58 == (45 : Int)) (j61 (-1 : Int)) (
                  j61 (1 : Int))
              ) (fun (x60 : Int) =>
                SlS x30 (1 : Int) ((x30.size : Nat) : Int) fun x62 =>
                j56 x62 x60)) (
              j56 x30 (1 : Int))
          ) (fun (x54 : ByteArray) (x55 : Int) => expW x10 x11 x54 x55 Q)))))
theorem bs_append (a b : List UInt8) : bs a ++ bs b = bs (a ++ b) := by
  apply ByteArray.ext
  rw [ByteArray.data_append]
  unfold bs
  simp
/-! ### All of Read -/
/-- Zeros at an end, taken off. -/
def offF : Nat → List UInt8 → Int → List UInt8 × Int
  | 0, a, e => (a, e)
  | k + 1, a, e => if a ≠ [] ∧ (a.getD (a.length - 1) 0).toNat = 48 then offF k (a.take (a.length - 1)) (e + 1) else (a, e)
theorem offF_le : ∀ (k : Nat) (a : List UInt8) (e : Int), (offF k a e).1.length ≤ a.length ∧ e ≤ (offF k a e).2 ∧ (offF k a e).2 ≤ e + k
  | 0, a, e => ⟨Nat.le_refl _, Int.le_refl _, by simp [offF]⟩
  | k + 1, a, e => by
    unfold offF
    split
    · have := offF_le k (a.take (a.length - 1)) (e + 1)
      rw [List.length_take] at this
      refine ⟨by omega, by omega, by omega⟩
    · exact ⟨Nat.le_refl _, Int.le_refl _, by show e ≤ e + ((k + 1 : Nat) : Int); omega⟩
theorem off_ev {a1 a2 : List UInt8} {e1 e2 : Int} (l1 : a1.length ≤ 80) (b0 : -200 ≤ e1) (b1 : e1 ≤ 400 - a1.length) (ha2 : a2 = (offF a1.length a1 e1).1) (he2 : e2 = (offF a1.length a1 e1).2) :
    Loop2 (bs a1) e1 (fun (all56 : ByteArray) (e57 : Int) next58 =>
      Br (decide (((all56.size : Nat) : Int) > (0 : Int))) (
        Let (IntKind.i64.wrap (((all56.size : Nat) : Int) - (1 : Int))) fun x63 =>
        AtS all56 x63 fun x65 =>
        Br (x65 == (48 : Int)) (
          Let (IntKind.i64.wrap (((all56.size : Nat) : Int) - (1 : Int))) fun x67 =>
          SlS all56 (0 : Int) x67 fun x68 =>
          Let (IntKind.i64.wrap (e57 + (1 : Int))) fun x69 =>
          next58 x68 x69) (
          all56 = bs a2 ∧ e57 = e2)) (
        all56 = bs a2 ∧ e57 = e2)) := by
  refine ⟨fun x y => ∃ (k : Nat) (b : List UInt8), x = bs b ∧ b.length ≤ k ∧ k ≤ 80 ∧ -200 ≤ y ∧ y ≤ 400 - k ∧ offF k b y = offF a1.length a1 e1, fun x _ => x.size, ⟨a1.length, a1, rfl, Nat.le_refl _, l1, b0, b1, rfl⟩, ?_⟩
  rintro _ y ⟨k, b, rfl, hb, hk, y0, y1, he⟩
  have done : b = [] ∨ (b.getD (b.length - 1) 0).toNat ≠ 48 → bs b = bs a2 ∧ y = e2 := by
    intro hor
    have : offF k b y = (b, y) := by
      cases k with
      | zero => rfl
      | succ k => rw [offF, if_neg (by rintro ⟨g1, g2⟩; exact hor.elim g1 (fun g => g g2))]
    rw [this] at he
    rw [ha2, he2, ← he]; exact ⟨rfl, rfl⟩
  refine Br.d (fun g => ?_) (fun g => done (.inl ?_))
  · rw [bs_size] at g
    have hlt : b.length - 1 < b.length := by omega
    refine Let.as ((b.length - 1 : Nat) : Int) (by rw [bs_size, wi (by omega) (by omega)]; omega) ?_
    have hget : (bs b)[b.length - 1]? = some (b[b.length - 1]) := by
      show (if hh : b.length - 1 < (bs b).size then some (bs b)[b.length - 1] else none) = _
      rw [dif_pos (by rw [bs_size]; exact hlt)]
      rfl
    have hgd : b.getD (b.length - 1) 0 = b[b.length - 1] := by simp [List.getD, List.getElem?_eq_getElem hlt]
    refine AtS.nat hget (Br.e (fun g1 => ?_) (fun g1 => done (.inr (by rw [hgd]; omega))))
    cases k with
    | zero => omega
    | succ k =>
      rw [offF, if_pos ⟨fun hn => by rw [hn] at hlt; simp at hlt, by rw [hgd]; omega⟩] at he
      refine Let.as ((b.length - 1 : Nat) : Int) (by rw [bs_size, wi (by omega) (by omega)]; omega) ?_
      have sl := SlS.tl (s := bs b) (p := 0) (n := b.length - 1) (k := fun x68 => Let (IntKind.i64.wrap (y + (1 : Int))) fun x69 =>
        (∃ (k : Nat) (b : List UInt8), x68 = bs b ∧ b.length ≤ k ∧ k ≤ 80 ∧ -200 ≤ x69 ∧ x69 ≤ 400 - k ∧ offF k b x69 = offF a1.length a1 e1) ∧ x68.size < (bs b).size) (by rw [bs_size]; omega)
        (by
          rw [tl_bs]
          refine Let.as (y + 1) (wi (by omega) (by omega)) ⟨⟨k, b.take (b.length - 1), rfl, by rw [List.length_take]; omega, by omega, by omega, by omega, he⟩, by rw [bs_size, bs_size, List.length_take]; omega⟩)
      rw [Nat.zero_add] at sl
      exact sl
  · rw [bs_size] at g
    exact List.eq_nil_of_length_eq_zero (by omega)
end Go.Sim.YtefpfeoimgkldaaDoor
