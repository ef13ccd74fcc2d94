/- What is proved: of the tokens of a text: their places, the text from a token's place on, and where no blanks stand. -/
import Derived.Test.YtifjflhnfjhijaaGreatDoorZPSLexC
import Derived.Test.YtifjflhnfjhijaaGreatDoorZPSWE
import Derived.Test.YtifjflhnfjhijaaGreatDoorZPSRatR
import Derived.Test.YtifjflhnfjhijaaGreatDoorZPSStrN
import Derived.Lib.ParseIntBCases

namespace Go.Sim.YtifjflhnfjhijaaGreatDoor
open Go.RowKit Go.Proofs Go.Proofs.Tryz
theorem qJm (f : Int -> Bool) : ∀ l : List UInt8, span f (l.drop (span f l)) = 0
 | [] => rfl
 | b :: l => by
  by_cases h : f (b.toNat : Int) = true
  ·rw [show span f (b :: l) = span f l + 1 by rw [span, if_pos h]]
   exact qJm f l
  ·rw [show span f (b :: l) = 0 by rw [span, if_neg h], List.drop_zero, span, if_neg h]
def comment (l : List UInt8) : Prop := peek l 0 = 47 /\ peek l 1 = 47
theorem qW3 {l : List UInt8} (h0 : span q20 l = 0) : span q20 (l.drop (cm l)) = 0 /\ ¬ comment (l.drop (cm l)) := by
 induction hn : l.length using Nat.strongRecOn generalizing l with
 | _ n ih =>
  rw [cm]
  split
  ·rename_i h
   have h1 := qMp h.1
   have h2 := q1o q7x l
   have := ih _ (by simp only [List.length_drop]; omega) (l := (l.drop (span q7x l)).drop (span q20 (l.drop (span q7x l)))) (qJm _ _) rfl
   rw [List.drop_drop, List.drop_drop] at this
   rw [List.drop_drop] at this ⊢
   exact this
  ·rename_i h
   rw [List.drop_zero]; exact ⟨h0, h⟩
theorem qRz {l : List UInt8} (h0 : span q20 l = 0) (h1 : ¬ comment l) : skip l = 0 := by
 unfold skip
 rw [h0, List.drop_zero, cm, dif_neg (show ¬ (peek l 0 = 47 /\ peek l 1 = 47) from h1)]
theorem qS0 (l : List UInt8) : skip (l.drop (skip l)) = 0 := by
 have := qW3 (qJm q20 l)
 rw [List.drop_drop] at this
 exact qRz this.1 this.2
variable {L : LexL}
theorem qD7 {l : List UInt8} {p n : Nat} (h : (lexL L l p n).2.1 = 0) :
    (l = [] /\ lexL L l p n = ([{ GToken.zero with At := p }], 0, 0)) \/
    (l ≠ [] /\ ¬ 4000 <= n /\ (tok L l p).1.2 = 0 /\ (lexL L (l.drop (more L l p)) (p + more L l p) (n + 1)).2.1 = 0 /\ lexL L l p n = ((tok L l p).1.1 :: (lexL L (l.drop (more L l p)) (p + more L l p) (n + 1)).1, 0, 0)) := by
  by_cases h0 : l = []
  · exact .inl ⟨h0, qHi h0⟩
  by_cases hn : 4000 <= n
  · rw [qF3 h0 hn] at h; simp at h
  by_cases hb : (tok L l p).1.2 = 0
  · have hm := qF4 h0 hn hb
    by_cases hz : (lexL L (l.drop (more L l p)) (p + more L l p) (n + 1)).2.1 = 0
    · rw [if_pos hz] at hm
      exact .inr ⟨h0, hn, hb, hz, hm⟩
    · rw [if_neg hz] at hm
      rw [hm] at h
      exact absurd h hz
  · rw [qHj h0 hn hb] at h; exact absurd h hb
theorem qP5 {l : List UInt8} {p : Nat} (h0 : l ≠ []) (hb : (tok L l p).1.2 = 0) : 1 <= more L l p /\ more L l p <= l.length /\ skip (l.drop (more L l p)) = 0 := by
 have h1 := qJl (L := L) (p := p) h0
 have h2 := h1.2 hb
 have h3 := qJk (l.drop (tok L l p).2)
 rw [List.length_drop] at h3
 have h4 := qS0 (l.drop (tok L l p).2)
 rw [List.drop_drop] at h4
 unfold more
 exact ⟨by omega, by omega, h4⟩
end Go.Sim.YtifjflhnfjhijaaGreatDoor

/- What is proved: functions of the program compute what plain statements tell. -/
namespace Go.Sim.YtifjflhnfjhijaaGreatDoor
open Go.RowKit Go.Proofs Go.Proofs.Tryz
set_option maxRecDepth 100000
end Go.Sim.YtifjflhnfjhijaaGreatDoor

/- What is proved: the statement LexPlaces, given what the lexer's callees yield. -/
namespace Go.Sim.YtifjflhnfjhijaaGreatDoor
open Go.RowKit Go.Proofs Go.Proofs.Tryz
theorem At.is {α : Type} {xs : List α} {i : Nat} {k : α -> Prop} {x : α} (hx : xs[i]? = some x) (hk : k x) : At xs (i : Int) k := ⟨by omega, x, by rw [Int.toNat_natCast]; exact hx, hk⟩
variable {L : LexL}
end Go.Sim.YtifjflhnfjhijaaGreatDoor

/- What is proved: the statement LexNumbers, given what the lexer's callees yield. -/
namespace Go.Sim.YtifjflhnfjhijaaGreatDoor
open Go.RowKit Go.Proofs Go.Proofs.Tryz
variable {L : LexL}
end Go.Sim.YtifjflhnfjhijaaGreatDoor

/- What is proved: what the library's functions for strings and numbers yield for this seat's functions. -/
namespace Go.Sim.YtifjflhnfjhijaaGreatDoor
open Go.RowKit Go.Proofs Go.Proofs.Tryz
theorem qTt (b : UInt8) : q4j signs (b.toNat : Int) (Lib.indexByte signs.data.toList b) := by
 refine ⟨⟨_, Tryz.func52, by kernel_rfl, by kernel_rfl⟩, fun F w vs hgl hvs => ?_⟩
 have hv : vs = [.string signs, .int .u8 (b.toNat : Int)] := by
  cases hvs with
  | cons h1 hr =>
   cases hr with
   | cons h2 hr2 =>
    cases hr2
    simp only [RepV, RepD, List.cons.injEq, and_true] at h1 h2
    rw [h1.1, h2.1]
 subst hv
 refine Calls.mono (Tryz.strings_IndexByte signs (b.toNat : Int) w) ?_
 rintro e w' ⟨rfl, rfl⟩
 refine ⟨_, rfl, Below.refl _ _, ?_⟩
 rw [show ((b.toNat : Int).toNat).toUInt8 = b by simp]
 exact ⟨rfl, rfl⟩
abbrev q7z : ByteArray := ByteArray.mk #[97, 116, 97, 110, 32, 99, 111, 110, 110, 101, 99, 116, 32, 99, 111, 110, 110, 101, 99, 116, 111, 114, 32, 99, 111, 115, 32, 100, 101, 114, 32, 100, 111, 32, 101, 110, 100, 32, 101, 120, 112, 32, 102, 108, 111, 119, 32, 102, 111, 114, 32, 105, 110, 32, 108, 111, 103, 32, 109, 111, 100, 101, 108, 32, 112, 97, 114, 97, 109, 32, 112, 97, 114, 116, 32, 115, 105, 110, 32, 115, 113, 114, 116, 32, 115, 116, 97, 114, 116, 32, 116, 105, 109, 101, 32, 117, 110, 105, 116, 32, 118, 97, 114]
theorem qP6 {w : World} {S : Nat -> Prop} : ∀ l : List ByteArray, RepF w S (l.map eStr) (List.replicate (l.map eStr).length 1) (l.map Value.string)
 | [] => by simp [RepF]
 | b :: l => by
  have ih := qP6 (w := w) (S := S) l
  simp only [List.map_cons, List.length_cons, List.replicate_succ, RepF]
  exact ⟨1, _, [_], _, rfl, rfl, rfl, by simp [RepD, Value.oneCell'], ih⟩
theorem qS1 : q9y q7z ((Lib.fields q7z.data.toList).map bs) := by
 refine ⟨⟨_, Tryz.func43, by kernel_rfl, by kernel_rfl⟩, fun F w vs hgl hvs => ?_⟩
 rw [qLe hvs]
 have hG : GW w := hgl w (Nat.le_refl _) fun _ _ _ => rfl
 have hasc : ∀ (j : Nat) b, q7z.data.toList[j]? = some b -> b.toNat < 128 := by
  have : ∀ b ∈ q7z.data.toList, b.toNat < 128 := by decide +kernel
  exact fun j b h => this b (List.mem_of_getElem? h)
 refine Calls.mono (Tryz.strings_Fields q7z w (by decide) hasc hG.blanks) ?_
 rintro e w' ⟨rfl, rfl⟩
 refine ⟨_, rfl, (Below.refl _ w).alloc (Nat.le_refl _) _, ?_⟩
 simp only [RepV, RepD]
 refine ⟨_, _, ((Lib.fields q7z.data.toList).map bs).map Value.string, by rw [List.length_map, List.length_map], by rw [List.length_map, List.length_map]; exact Nat.le_refl _, qP6 _, .inr ⟨w.heap.size, 0, rfl, .inr (Nat.le_refl _), fun j u hj => ?_⟩⟩
 rw [Nat.zero_add]
 refine (World.cell?_alloc_mark w _ _ _ j).trans ?_
 rw [List.map_map] at hj
 rw [← hj, List.getElem?_toArray]
 rfl
def qKi : List (ByteArray × Unit) := ((Lib.fields q7z.data.toList).map bs).foldl (fun m x => mput m x ()) []
theorem qS2 : q9c qKi := by
 unfold qKi
 obtain ⟨l, hl⟩ : ∃ l, l = (Lib.fields q7z.data.toList).map bs := ⟨_, rfl⟩
 have hf := qS1
 rw [← hl] at hf ⊢
 have hlen : l.length <= 1000 := by rw [hl]; decide +kernel
 refine qK2 ?_
 unfold qEa
 refine Call.mk hf (Loop2.up l.length (fun i m => m = (l.take i).foldl (fun m x => mput m x ()) []) rfl ?_)
 rintro i _ k hi rfl hk
 refine Br.d (fun h => ?_) (fun h => ?_)
 ·have hi1 : i < l.length := by omega
  have hx : l[i]? = some l[i] := List.getElem?_eq_getElem hi1
  refine At.is hx (Let.it (Let.as _ (wi1 (by omega)) (hk _ (by omega) ?_)))
  rw [List.take_add_one, hx, List.foldl_append]
  rfl
 ·have : i = l.length := by omega
  subst this
  show (l.take l.length).foldl _ [] = _
  rw [List.take_length]
end Go.Sim.YtifjflhnfjhijaaGreatDoor

/- What is proved: numbers written in digits: twos and fives taken out of them; what rat's way to a quotient comes to: the quotient itself, or that it has no room. -/
namespace Go.Sim.YtifjflhnfjhijaaGreatDoor
open Go.RowKit Go.Proofs Go.Proofs.Tryz
theorem w8 {n : Int} (h0 : 0 <= n) (h1 : n < 256) : IntKind.u8.wrap n = n := by simp only [IntKind.wrap, IntKind.bits, IntKind.signed, Bool.false_and, Bool.false_eq_true, if_false]; omega
def dvA : Nat -> List Int -> Nat
 | n, [] => n
 | n, c :: l => dvA (n * 10 + (c - 48).toNat) l
def DigI (l : List Int) : Prop := ∀ c ∈ l, 48 <= c /\ c <= 57
theorem DigI.tl {c : Int} {l : List Int} (h : DigI (c :: l)) : DigI l := fun x hx => h x (List.mem_cons_of_mem _ hx)
theorem qMv {y : Nat} (hy : 0 < y) (hy9 : y <= 9) : ∀ (l : List Int) (q r : Nat), DigI l -> r < y -> DigI (q5t (y : Int) l (r : Int)) /\ ∃ r', r' < y /\ dvA (y * q + r) l = y * dvA q (q5t (y : Int) l (r : Int)) + r'
 | [], q, r, _, hr => ⟨fun _ h => by simp [q5t] at h, r, hr, by simp [q5t, dvA]⟩
 | c :: t, q, r, hl, hr => by
  obtain ⟨h1, h2⟩ := hl c (List.mem_cons_self ..)
  obtain ⟨d, rfl⟩ : ∃ d : Nat, c = 48 + (d : Int) := ⟨(c - 48).toNat, by omega⟩
  have hd : d <= 9 := by omega
  have e1 : IntKind.u8.wrap (IntKind.u8.wrap (IntKind.u8.wrap ((r : Int) * 10) + (48 + (d : Int))) - 48) = ((r * 10 + d : Nat) : Int) := by
   rw [w8 (n := (r : Int) * 10) (by omega) (by omega), w8 (n := (r : Int) * 10 + (48 + (d : Int))) (by omega) (by omega), w8 (by omega) (by omega)]; omega
  obtain ⟨Q, hQ⟩ : ∃ Q, Q = (r * 10 + d) / y := ⟨_, rfl⟩
  obtain ⟨R, hR⟩ : ∃ R, R = (r * 10 + d) % y := ⟨_, rfl⟩
  have hv : Q <= 9 := by
   have := Nat.div_lt_of_lt_mul (m := r * 10 + d) (n := y) (k := 10) (by omega)
   omega
  have e2 : Int.tdiv ((r * 10 + d : Nat) : Int) (y : Int) = (Q : Int) := by rw [← Int.ofNat_tdiv, ← hQ]
  have e3 : Int.tmod ((r * 10 + d : Nat) : Int) (y : Int) = (R : Int) := by rw [← Int.ofNat_tmod, ← hR]
  have e4 : q5t (y : Int) ((48 + (d : Int)) :: t) (r : Int) = (48 + (Q : Int)) :: q5t (y : Int) t (R : Int) := by
   rw [q5t]
   simp only [e1, e2, e3]
   rw [w8 (n := (Q : Int)) (by omega) (by omega), w8 (by omega) (by omega)]
  obtain ⟨g1, r', g2, g3⟩ := qMv hy hy9 t (q * 10 + Q) R hl.tl (by rw [hR]; exact Nat.mod_lt _ hy)
  rw [e4]
  refine ⟨fun x hx => ?_, r', g2, ?_⟩
  ·rcases List.mem_cons.1 hx with rfl | hx
   ·omega
   ·exact g1 x hx
  ·rw [dvA, dvA, show (48 + (d : Int) - 48).toNat = d by omega, show (48 + (Q : Int) - 48).toNat = Q by omega, ← g3]
   congr 1
   have h3 := Nat.div_add_mod (r * 10 + d) y
   rw [← hQ, ← hR] at h3
   rw [Nat.mul_add, Nat.add_mul]
   have e5 : y * q * 10 = y * (q * 10) := by rw [Nat.mul_assoc]
   omega
theorem qF5 : ∀ (l : List Int) (n : Nat) (c : Int), dvA n (l ++ [c]) = dvA n l * 10 + (c - 48).toNat
 | [], n, c => rfl
 | b :: l, n, c => by rw [List.cons_append, dvA, dvA, qF5]
theorem qP7 {y : Nat} (hy : y ∣ 10) {l : List Int} (hl : DigI l) (hne : 1 <= l.length) : Int.tmod (IntKind.u8.wrap ((l[l.length - 1]?).getD 0 - 48)) (y : Int) = 0 ↔ y ∣ dvA 0 l := by
 have hne' : l ≠ [] := fun e => by rw [e] at hne; simp at hne
 obtain ⟨i, c, rfl⟩ : ∃ i c, l = i ++ [c] := ⟨l.dropLast, l.getLast hne', (List.dropLast_concat_getLast hne').symm⟩
 have e : (i ++ [c])[(i ++ [c]).length - 1]? = some c := by simp
 obtain ⟨h1, h2⟩ := hl c (by simp)
 obtain ⟨d, rfl⟩ : ∃ d : Nat, c = 48 + (d : Int) := ⟨(c - 48).toNat, by omega⟩
 rw [e, Option.getD_some, qF5, w8 (by omega) (by omega), show (48 + (d : Int) - 48) = (d : Int) by omega, ← Int.ofNat_tmod, Int.toNat_natCast]
 have h10 : y ∣ dvA 0 i * 10 := Nat.dvd_trans hy (Nat.dvd_mul_left ..)
 rw [← Nat.dvd_add_iff_right h10, Nat.dvd_iff_mod_eq_zero]
 omega
theorem qJn {y : Nat} (hy : y ∣ 10) (hy0 : 0 < y) (hy9 : y <= 9) : ∀ (k : Nat) (l : List Int), DigI l -> 1 <= l.length ->
    DigI (q1e (y : Int) k l).2 /\ ∃ j, (q1e (y : Int) k l).1 + j = k /\ dvA 0 l = y ^ j * dvA 0 (q1e (y : Int) k l).2 /\ ((q1e (y : Int) k l).1 = 0 \/ ¬ y ∣ dvA 0 (q1e (y : Int) k l).2)
  | 0, l, hl, _ => ⟨hl, 0, rfl, by simp [q1e], .inl rfl⟩
  | k + 1, l, hl, hne => by
    unfold q1e
    split
    · rename_i h
      have hdv := (qP7 hy hl hne).1 h
      obtain ⟨g1, r', g2, g3⟩ := qMv hy0 hy9 l 0 0 hl hy0
      have g3' : dvA 0 l = y * dvA 0 (q5t (y : Int) l 0) := by
        have : dvA 0 l = y * dvA 0 (q5t (y : Int) l 0) + r' := by simpa using g3
        have hr : y ∣ r' := by rw [this] at hdv; exact (Nat.dvd_add_iff_right (Nat.dvd_mul_right ..)).2 hdv
        have : r' = 0 := Nat.eq_zero_of_dvd_of_lt hr g2
        omega
      obtain ⟨f1, j, f2, f3, f4⟩ := qJn hy hy0 hy9 k (q5t (y : Int) l 0) g1 (by rw [qD6]; exact hne)
      refine ⟨f1, j + 1, by omega, ?_, f4⟩
      rw [g3', f3, Nat.pow_succ, Nat.mul_comm (y ^ j) y, Nat.mul_assoc]
    · rename_i h
      exact ⟨hl, 0, rfl, by simp, .inr fun hd => h ((qP7 hy hl hne).2 hd)⟩
theorem qP8 : ∀ (e n : Nat), n < 18446744073709551616 -> mulF e n = if n * 10 ^ e < 18446744073709551616 then some (n * 10 ^ e) else none
 | 0, n, h => by simp [mulF, h]
 | e + 1, n, h => by
  rw [mulF]
  by_cases h1 : n * 10 < 18446744073709551616
  ·rw [if_neg (by rw [Nat.div_eq_of_lt h1]; omega), Nat.mod_eq_of_lt h1, qP8 e _ h1, Nat.pow_succ, Nat.mul_comm (10 ^ e) 10, ← Nat.mul_assoc]
  ·have hp : 0 < 10 ^ e := Nat.pow_pos (by decide)
   rw [if_pos (Nat.div_pos (by omega) (by decide)), if_neg]
   rw [Nat.pow_succ, Nat.mul_comm (10 ^ e) 10, ← Nat.mul_assoc]
   have := Nat.le_mul_of_pos_right (n * 10) hp
   omega
theorem qS3 {s : Bool} {n d : Nat} (hc : Nat.gcd n d = 1) (h : 9223372036854775808 <= n \/ 9223372036854775808 <= d) : q4d s n d = ((0, 0), 3) := by
 rw [qR1 hc, if_neg (by omega)]
theorem qYp {v two five : Nat} (c2 : two = 0 \/ ¬ 2 ∣ v) (c5 : five = 0 \/ ¬ 5 ∣ v) : Nat.gcd v (5 ^ five * 2 ^ two) = 1 := by
 have a2 : Nat.Coprime v (2 ^ two) := by
  rcases c2 with c | c
  ·rw [c]; exact Nat.coprime_one_right _
  ·refine Nat.Coprime.pow_right _ ?_
   have h1 := Nat.le_of_dvd (by decide) (Nat.gcd_dvd_right v 2)
   have h2 := Nat.gcd_dvd_left v 2
   have h3 := Nat.gcd_dvd_right v 2
   show Nat.gcd v 2 = 1
   generalize Nat.gcd v 2 = g at *
   match g, h1, h2, h3 with
   | 0, _, _, h3 => simp at h3
   | 1, _, _, _ => rfl
   | 2, _, h2, _ => exact absurd h2 c
 have a5 : Nat.Coprime v (5 ^ five) := by
  rcases c5 with c | c
  ·rw [c]; exact Nat.coprime_one_right _
  ·refine Nat.Coprime.pow_right _ ?_
   have h1 := Nat.le_of_dvd (by decide) (Nat.gcd_dvd_right v 5)
   have h2 := Nat.gcd_dvd_left v 5
   have h3 := Nat.gcd_dvd_right v 5
   show Nat.gcd v 5 = 1
   generalize Nat.gcd v 5 = g at *
   match g, h1, h2, h3 with
   | 0, _, _, h3 => simp at h3
   | 1, _, _, _ => rfl
   | 2, _, _, h3 => exact absurd h3 (by decide)
   | 3, _, _, h3 => exact absurd h3 (by decide)
   | 4, _, _, h3 => exact absurd h3 (by decide)
   | 5, _, h2, _ => exact absurd h2 c
 exact Nat.Coprime.mul_right a5 a2
theorem qTu {v v1 i j two five : Nat} {k0 : Nat} {e : Int} (hv : 0 < v) (hk : k0 = (-e).toNat) (h2 : two + i = k0) (h5 : five + j = k0) (hval : v = 2 ^ i * (5 ^ j * v1))
    (c2 : two = 0 \/ ¬ 2 ∣ v1) (c5 : five = 0 \/ ¬ 5 ∣ v1) :
    (if 18446744073709551616 <= v1 then (GRat.zero, 3) else qJi two five e v1) = toR (q4d false (v * 10 ^ e.toNat) (10 ^ k0)) := by
  have zero : ((GRat.zero, 3) : GRat × Int) = toR ((0, 0), 3) := rfl
  have cop : Nat.gcd v1 (5 ^ five * 2 ^ two) = 1 := qYp c2 c5
  have p2 : ∀ k, 0 < 2 ^ k := fun k => Nat.two_pow_pos k
  have p5 : ∀ k, 0 < 5 ^ k := fun k => Nat.pow_pos (by decide)
  have hP : 0 < 5 ^ five * 2 ^ two := Nat.mul_pos (p5 _) (p2 _)
  have main : q4d false (v * 10 ^ e.toNat) (10 ^ k0) = q4d false (v1 * 10 ^ e.toNat) (5 ^ five * 2 ^ two) := by
    have e10 : (10 : Nat) ^ k0 = (5 ^ five * 2 ^ two) * (2 ^ i * 5 ^ j) := by
      rw [show (10 : Nat) = 5 * 2 from rfl, Nat.mul_pow, ← h5, Nat.pow_add, h5, ← h2, Nat.pow_add]
      simp only [Nat.mul_assoc, Nat.mul_comm, Nat.mul_left_comm]
    have ev : v * 10 ^ e.toNat = (v1 * 10 ^ e.toNat) * (2 ^ i * 5 ^ j) := by
      rw [hval]; simp only [Nat.mul_assoc, Nat.mul_comm, Nat.mul_left_comm]
    rw [e10, ev, qI5 (Nat.mul_pos (p2 _) (p5 _))]
  rw [main]
  have v1p : 0 < v1 := by
    rcases Nat.eq_zero_or_pos v1 with h | h
    · rw [h] at hval; simp at hval; omega
    · exact h
  have big : ∀ n, Nat.gcd n (5 ^ five * 2 ^ two) = 1 -> (9223372036854775808 <= n \/ 9223372036854775808 <= 5 ^ five * 2 ^ two) -> (GRat.zero, (3 : Int)) = toR (q4d false n (5 ^ five * 2 ^ two)) := fun n h1 h2 => by rw [qS3 h1 h2] <;> rfl
  have cop2 : Nat.gcd (v1 * 10 ^ e.toNat) (5 ^ five * 2 ^ two) = 1 := by
    by_cases he : 0 <= e
    · have t0 : two = 0 := by omega
      have f0 : five = 0 := by omega
      rw [t0, f0]; simp
    · rw [show e.toNat = 0 by omega]; simpa using cop
  have le10 : v1 <= v1 * 10 ^ e.toNat := Nat.le_mul_of_pos_right _ (Nat.pow_pos (by decide))
  split
  · exact big _ cop2 (.inl (by omega))
  rename_i hlt
  unfold qJi
  split
  · rename_i h
    refine big _ cop2 (.inr ?_)
    have h1 : 2 ^ 63 <= 2 ^ two := Nat.pow_le_pow_right (by decide) (by omega)
    have h3 := Nat.le_mul_of_pos_left (2 ^ two) (p5 five)
    exact Nat.le_trans h1 h3
  split
  · rename_i h
    refine big _ cop2 (.inr ?_)
    have h1 : 5 ^ 28 <= 5 ^ five := Nat.pow_le_pow_right (by decide) (by omega)
    have h3 := Nat.le_mul_of_pos_right (5 ^ five) (p2 two)
    exact Nat.le_trans (Nat.le_trans (by decide) h1) h3
  rw [qP8 _ _ (by omega)]
  by_cases hr : v1 * 10 ^ e.toNat < 18446744073709551616
  · rw [if_pos hr]
    show (if _ then _ else _) = _
    split
    · rename_i h
      refine big _ cop2 (.inr ?_)
      have hb : ¬ blen (5 ^ five) <= blen (5 ^ five) - 1 := by
        have := p5 five
        have h0 : ¬ blen (5 ^ five) <= 0 := fun h => by have := (q2w _ _).1 h; simp at this <;> omega
        omega
      rw [q2w] at hb
      have h1 : 2 ^ (64 - (blen (5 ^ five) - 1)) <= 2 ^ two := Nat.pow_le_pow_right (by decide) (by omega)
      have h3 := Nat.mul_le_mul (Nat.le_of_not_lt hb) h1
      rw [← Nat.pow_add] at h3
      have h4 : 2 ^ 64 <= 2 ^ (blen (5 ^ five) - 1 + (64 - (blen (5 ^ five) - 1))) := Nat.pow_le_pow_right (by decide) (by omega)
      exact Nat.le_trans (by decide) (Nat.le_trans h4 h3)
    · rfl
  · rw [if_neg hr]
    exact big _ cop2 (.inl (by omega))
theorem qGl {M : Nat} (hM : M = 18446744073709551615) : ∀ (l : List UInt8) (acc : Nat), (∀ b ∈ l, q05 (b.toNat : Int) = true) -> acc <= M ->
    Lib.parseUintM M acc l = if dvA acc (l.map fun b => (b.toNat : Int)) <= M then .ok (dvA acc (l.map fun b => (b.toNat : Int))) else .range
  | [], acc, _, h => by simp [Lib.parseUintM, dvA, h]
  | c :: r, acc, hl, h => by
    have hc : 48 <= c.toNat /\ c.toNat <= 57 := by
      have := hl c (List.mem_cons_self ..)
      unfold q05 at this; simp only [Bool.and_eq_true, decide_eq_true_eq] at this; omega
    have ge : ∀ (l : List Int) (n : Nat), n <= dvA n l := by
      intro l
      induction l with
      | nil => intro n; exact Nat.le_refl _
      | cons b l ih => intro n; rw [dvA]; exact Nat.le_trans (by omega) (ih _)
    have g := ge (r.map fun b => (b.toNat : Int)) (acc * 10 + (c.toNat - 48))
    have e : dvA acc ((c :: r).map fun b => (b.toNat : Int)) = dvA (acc * 10 + (c.toNat - 48)) (r.map fun b => (b.toNat : Int)) := by
      rw [List.map_cons, dvA, show ((c.toNat : Int) - 48).toNat = c.toNat - 48 by omega]
    rw [Lib.parseUintM, if_pos hc, e]
    split
    · rw [if_neg (by omega)]
    split
    · rw [if_neg (by omega)]
    · exact qGl hM r _ (fun b hb => hl b (List.mem_cons_of_mem _ hb)) (by omega)
end Go.Sim.YtifjflhnfjhijaaGreatDoor
