/- What is proved: 128 bits divided by 64 bits: math/bits.Div64 and Rem64 yield the quotient and the rest. -/
import Derived.Test.YtffglpibobogcaaGreatDoorZUNExtB
import Derived.Test.YtffglpibobogcaaGreatDoorZUNDivM
import Derived.Test.YtffglpibobogcaaGreatDoorZUNBig

namespace Go.Sim.YtffglpibobogcaaGreatDoor
open Go.RowKit Go.Proofs Go.Proofs.Tryz
theorem shrC (a k : Nat) : Int.fdiv (a : Int) (2 ^ k) = ((a / 2 ^ k : Nat) : Int) := by
  rw [Int.fdiv_eq_ediv_of_nonneg _ (Int.pow_nonneg (by omega))]
  simp
theorem tab_k {s : ByteArray} (h : tabB s = true) {x : Nat} (hx : x < 256) {k : Int → Prop} (hk : k ((blen x : Nat) : Int)) : AtS s (x : Int) k := by
  obtain ⟨b, hb, e⟩ := tab_at h hx
  exact ⟨by omega, b, hb, by rw [e]; exact hk⟩
theorem Loop2.swap {α β : Type} {a : α} {b : β} {B : α → β → (α → β → Prop) → Prop} (h : Loop2 a b B) : Loop2 b a (fun y x k => B x y (fun x' y' => k y' x')) := by
  obtain ⟨I, μ, h0, h1⟩ := h
  exact ⟨fun y x => I x y, fun y x => μ x y, h0, fun y x hI => h1 x y hI⟩
theorem len64_ev (a : Nat) (ha : a < 18446744073709551616) : Ev_math_bits_Len64 (a : Int) ((blen a : Nat) : Int) := by
  refine walk_math_bits_Len64 ?_
  unfold W_math_bits_Len64
  refine ⟨fun x n => ∃ b m : Nat, x = (b : Int) ∧ n = (m : Int) ∧ b < 4294967296 ∧ blen b + m = blen a ∧ m ≤ 32, Br.d (fun g => Let.as _ (shrC a 32) ⟨_, 32, rfl, rfl, by omega, blen_shift (k := 32) (by simp only [Nat.reducePow]; omega), by omega⟩) (fun g => ⟨a, 0, rfl, rfl, by omega, by simp, by omega⟩), ?_⟩
  rintro _ _ ⟨x, n, rfl, rfl, k1, k2, k3⟩
  refine ⟨fun y m => ∃ b c : Nat, y = (b : Int) ∧ m = (c : Int) ∧ b < 65536 ∧ blen b + c = blen a ∧ c ≤ 48, Br.d (fun g => Let.as _ (shrC x 16) (Let.as _ (show _ = ((n + 16 : Nat) : Int) by rw [wi (by omega) (by omega)]; omega) ⟨_, _, rfl, rfl, by omega, by rw [← k2, ← blen_shift (a := x) (k := 16) (by simp only [Nat.reducePow]; omega)]; omega, by omega⟩)) (fun g => ⟨x, n, rfl, rfl, by omega, k2, by omega⟩), ?_⟩
  rintro _ _ ⟨y, m, rfl, rfl, k1, k2, k3⟩
  refine ⟨fun z l => ∃ b c : Nat, z = (b : Int) ∧ l = (c : Int) ∧ b < 256 ∧ blen b + c = blen a ∧ c ≤ 56, Br.d (fun g => Let.as _ (shrC y 8) (Let.as _ (show _ = ((m + 8 : Nat) : Int) by rw [wi (by omega) (by omega)]; omega) ⟨_, _, rfl, rfl, by omega, by rw [← k2, ← blen_shift (a := y) (k := 8) (by simp only [Nat.reducePow]; omega)]; omega, by omega⟩)) (fun g => ⟨y, m, rfl, rfl, by omega, k2, by omega⟩), ?_⟩
  rintro _ _ ⟨z, l, rfl, rfl, k1, k2, k3⟩
  have hz := (blen_le z 8).2 k1
  refine Let.as (z : Int) (by rw [IntKind.wrap_u8]; omega) ?_
  refine tab_k (by decide +kernel) k1 ?_
  refine Let.as ((blen z : Nat) : Int) (wi (by omega) (by omega)) ?_
  refine Let.as ((blen a : Nat) : Int) (by rw [wi (by omega) (by omega)]; omega) rfl
theorem lz64_ev (a : Nat) (ha : a < 18446744073709551616) : Ev_math_bits_LeadingZeros64 (a : Int) ((64 - blen a : Nat) : Int) := by
  have hb := (blen_le a 64).2 (by simpa using ha)
  refine walk_math_bits_LeadingZeros64 ?_
  unfold W_math_bits_LeadingZeros64
  refine Call.mk (len64_ev a ha) (Let.as _ (show _ = ((64 - blen a : Nat) : Int) by rw [wi (by omega) (by omega)]; omega) rfl)
/-- One digit: the loop that mends a guess. -/
theorem mend {Y y1 y0 U u1 : Nat} (hY : Y = y1 * 4294967296 + y0) (b1 : 2147483648 ≤ y1) (b2 : y1 < 4294967296) (b3 : y0 < 4294967296) (hU : U < Y) (h1 : u1 < 4294967296) (j : Int → Prop) (hj : j ((U * 4294967296 + u1) / Y : Nat)) :
    Loop2 ((U / y1 : Nat) : Int) ((U % y1 : Nat) : Int) (fun (x74 : Int) (x75 : Int) next76 =>
      Join1 (fun j81 =>
        Br (decide (x74 ≥ (4294967296 : Int))) (j81 true) (
          Let (IntKind.u64.wrap (x74 * (y0 : Int))) fun x82 =>
          Let (IntKind.u64.wrap ((4294967296 : Int) * x75)) fun x83 =>
          Let (IntKind.u64.wrap (x83 + (u1 : Int))) fun x84 =>
          j81 (decide (x82 > x84)))
      ) (fun (x80 : Bool) =>
        Br x80 (
          Let (IntKind.u64.wrap (x74 - (1 : Int))) fun x85 =>
          Let (IntKind.u64.wrap (x75 + (y1 : Int))) fun x86 =>
          Br (decide (x86 ≥ (4294967296 : Int))) (j x85) (
            next76 x85 x86)) (
          j x74))) := by
  have top := guess_top b1 (hY ▸ hU) b3
  have g0 := guess_init (U := U) (y0 := y0) b1 h1
  rw [hY] at hj
  refine ⟨fun a b => ∃ q rh : Nat, a = (q : Int) ∧ b = (rh : Int) ∧ Guess U y1 y0 u1 q rh ∧ rh < 4294967296 ∧ q ≤ 4294967297, fun a _ => a.toNat, ⟨_, _, rfl, rfl, g0, by have := Nat.mod_lt U (show y1 > 0 by omega); omega, top⟩, ?_⟩
  rintro _ _ ⟨q, rh, rfl, rfl, g, hr, hq⟩
  refine ⟨fun c => c = decide ((U * 4294967296 + u1) / (y1 * 4294967296 + y0) < q), Br.d (fun h => ?_) (fun h => ?_), ?_⟩
  · exact (decide_eq_true (guess_big b1 (hY ▸ hU) h1 (by omega))).symm
  · have hm : q * y0 ≤ 4294967295 * 4294967295 := Nat.mul_le_mul (by omega) (by omega)
    refine Let.as ((q * y0 : Nat) : Int) (by rw [← Int.natCast_mul, wu (by omega) (by omega)]) ?_
    refine Let.as ((4294967296 * rh : Nat) : Int) (by rw [wu (by omega) (by omega)]; omega) ?_
    refine Let.as ((4294967296 * rh + u1 : Nat) : Int) (by rw [wu (by omega) (by omega)]; omega) ?_
    have := guess_test b1 g
    show decide _ = decide _
    by_cases hh : 4294967296 * rh + u1 < q * y0
    · rw [decide_eq_true (by omega), decide_eq_true (this.1 hh)]
    · rw [decide_eq_false (by omega), decide_eq_false (fun h => hh (this.2 h))]
  · rintro _ rfl
    refine Br.d (fun ht => ?_) (fun hn => ?_)
    · have gd := guess_dec g ht
      have hq0 : 0 < q := Nat.lt_of_le_of_lt (Nat.zero_le _) ht
      refine Let.as ((q - 1 : Nat) : Int) (by rw [wu (by omega) (by omega)]; omega) ?_
      refine Let.as ((rh + y1 : Nat) : Int) (by rw [wu (by omega) (by omega)]; omega) ?_
      refine Br.d (fun hb => ?_) (fun hb => ?_)
      · rw [guess_stop b1 b3 gd (by omega) (by omega)]; exact hj
      · exact ⟨⟨_, _, rfl, rfl, gd, by omega, by omega⟩, by simp only [Int.toNat_natCast]; omega⟩
    · rw [← guess_test b1 g] at hn
      rw [guess_done b1 g hn]; exact hj
theorem div64_ev (hi lo y : Nat) (hlo : lo < 18446744073709551616) (hy : y < 18446744073709551616) (hlt : hi < y) :
    Ev_math_bits_Div64 (hi : Int) (lo : Int) (y : Int) ((((hi * 18446744073709551616 + lo) / y : Nat) : Int), (((hi * 18446744073709551616 + lo) % y : Nat) : Int)) := by
  have hy0 : y ≠ 0 := by omega
  refine walk_math_bits_Div64 ?_
  unfold W_math_bits_Div64
  refine Br.eF (by omega) (Br.dF (by omega) (Br.e (fun h0 => ?_) (fun h0 => ?_)))
  · have hh : hi = 0 := by omega
    subst hh
    refine ⟨by omega, Let.as ((lo / y : Nat) : Int) (by rw [← Int.ofNat_tdiv, wuN, Nat.mod_eq_of_lt (Nat.lt_of_le_of_lt (Nat.div_le_self _ _) hlo)]) ⟨by omega, Let.as ((lo % y : Nat) : Int) (by simp [Int.tmod]) ?_⟩⟩
    rw [Nat.zero_mul, Nat.zero_add]
  · obtain ⟨s, Y, y1, y0, U, l, u1, u0, f⟩ := div_set hy0 hy hlo hlt
    obtain ⟨fs, fs64, fY, fYlo, fYhi, fy1, fy0, fU, fc, fx, fUY, fl, fu1, fu0⟩ := f
    have b1 : 2147483648 ≤ y1 := by omega
    have b2 : y1 < 4294967296 := by omega
    have b3 : y0 < 4294967296 := by omega
    have bl64 : l < 18446744073709551616 := by rw [fl]; exact Nat.mod_lt _ (by omega)
    have bu1 : u1 < 4294967296 := by omega
    have bu0 : u0 < 4294967296 := by omega
    have bY : Y = y1 * 4294967296 + y0 := by omega
    have e64 : IntKind.u64.bits = 64 := rfl
    have hY2 := fY
    have hN := norm_top (hi := hi) (lo := lo) (s := s) (by omega)
    rw [show (2 : Nat) ^ 64 = 18446744073709551616 by decide, ← fl] at hN
    refine Call.mk (lz64_ev y hy) ?_
    rw [← fs]
    refine Let.as ((s : Nat) : Int) (wu (by omega) (by omega)) ⟨by omega, ?_⟩
    refine Let.as ((Y : Nat) : Int) (by rw [← e64, shlN y s (by omega), ← fY, Nat.mod_eq_of_lt fYhi]) ?_
    refine Let.as ((y1 : Nat) : Int) (by rw [fy1]; exact shrC Y 32) ?_
    refine Let.as ((y0 : Nat) : Int) (by rw [and32 fYhi, fy0]) ⟨by omega, ?_⟩
    refine Let.as ((hi * 2 ^ s : Nat) : Int) (by rw [← e64, shlN hi s (by omega), Nat.mod_eq_of_lt fx]) ?_
    refine Let.as ((64 - s : Nat) : Int) (by rw [wu (by omega) (by omega)]; omega) ⟨by omega, ?_⟩
    refine Let.as ((lo / 2 ^ (64 - s) : Nat) : Int) (shrN lo (64 - s) (by omega)) ?_
    refine Let.as ((U : Nat) : Int) (by rw [or_ok' fc (Nat.mul_mod_left _ _) fs64 fx, fU]) ⟨by omega, ?_⟩
    refine Let.as ((l : Nat) : Int) (by rw [← e64, shlN lo s (by omega), fl]) ?_
    refine Let.as ((u1 : Nat) : Int) (by rw [fu1]; exact shrC l 32) ?_
    refine Let.as ((u0 : Nat) : Int) (by rw [and32 bl64, fu0]) ⟨by omega, ?_⟩
    have hdU := Nat.div_add_mod U y1
    have hmU := Nat.mod_lt U (show y1 > 0 by omega)
    refine Let.as ((U / y1 : Nat) : Int) (by rw [← Int.ofNat_tdiv, wuN, Nat.mod_eq_of_lt (Nat.lt_of_le_of_lt (Nat.div_le_self _ _) (by omega))]) ?_
    have hU1 : U / y1 * y1 ≤ U := Nat.div_mul_le_self _ _
    refine Let.as ((U / y1 * y1 : Nat) : Int) (by rw [← Int.natCast_mul, wu (by omega) (by omega)]) ?_
    refine Let.as ((U % y1 : Nat) : Int) (by rw [Nat.mul_comm] at hdU; rw [wu (by omega) (by omega)]; omega) ?_
    have hY0 : 0 < Y := by omega
    obtain ⟨q1, hq1⟩ : ∃ q, q = (U * 4294967296 + u1) / Y := ⟨_, rfl⟩
    obtain ⟨V, hV⟩ : ∃ V, V = (U * 4294967296 + u1) % Y := ⟨_, rfl⟩
    have hVY : V < Y := by rw [hV]; exact Nat.mod_lt _ hY0
    have hA : U * 4294967296 + u1 = q1 * Y + V := by rw [hq1, hV, Nat.mul_comm _ Y]; exact (Nat.div_add_mod _ _).symm
    refine ⟨fun x => x = (q1 : Int), mend bY b1 b2 b3 fUY bu1 _ (by rw [hq1]), ?_⟩
    rintro _ rfl
    refine Let.as ((U * 4294967296 % 18446744073709551616 : Nat) : Int) (by rw [show ((U : Int) * 4294967296) = ((U * 4294967296 : Nat) : Int) by omega, wuN]) ?_
    refine Let.as (((U * 4294967296 + u1) % 18446744073709551616 : Nat) : Int) (by rw [← Int.natCast_add, wuN]; omega) ?_
    refine Let.as ((q1 * Y % 18446744073709551616 : Nat) : Int) (by rw [← Int.natCast_mul, wuN]) ?_
    refine Let.as ((V : Nat) : Int) (by
      simp only [IntKind.wrap, IntKind.bits, IntKind.signed, Bool.false_and, Bool.false_eq_true, if_false]
      omega) ⟨by omega, ?_⟩
    have hdV := Nat.div_add_mod V y1
    have hmV := Nat.mod_lt V (show y1 > 0 by omega)
    refine Let.as ((V / y1 : Nat) : Int) (by rw [← Int.ofNat_tdiv, wuN, Nat.mod_eq_of_lt (Nat.lt_of_le_of_lt (Nat.div_le_self _ _) (by omega))]) ?_
    have hV1 : V / y1 * y1 ≤ V := Nat.div_mul_le_self _ _
    refine Let.as ((V / y1 * y1 : Nat) : Int) (by rw [← Int.natCast_mul, wu (by omega) (by omega)]) ?_
    refine Let.as ((V % y1 : Nat) : Int) (by rw [Nat.mul_comm] at hdV; rw [wu (by omega) (by omega)]; omega) ?_
    obtain ⟨q0, hq0⟩ : ∃ q, q = (V * 4294967296 + u0) / Y := ⟨_, rfl⟩
    obtain ⟨R, hR⟩ : ∃ R, R = (V * 4294967296 + u0) % Y := ⟨_, rfl⟩
    have hRY : R < Y := by rw [hR]; exact Nat.mod_lt _ hY0
    have hB : V * 4294967296 + u0 = q0 * Y + R := by rw [hq0, hR, Nat.mul_comm _ Y]; exact (Nat.div_add_mod _ _).symm
    refine ⟨fun x => x = (q0 : Int), ?_, ?_⟩
    · have t := Loop2.swap (mend bY b1 b2 b3 hVY bu0 (fun x => x = (q0 : Int)) (by rw [hq0]))
      exact t
    rintro _ rfl
    have all := div_allW (W := 4294967296) (A := hi * 18446744073709551616 + lo) (y := y) (s := s) hY2 (by rw [fU, Nat.add_comm (lo / _)]; exact hN) (l := l) (u1 := u1) (u0 := u0) (by omega) hA hB hRY
    have hlt64 : (hi * 18446744073709551616 + lo) / y < 18446744073709551616 := Nat.div_lt_of_lt_mul (by have := Nat.mul_le_mul_right 18446744073709551616 (show hi + 1 ≤ y by omega); omega)
    have all1 := all.1
    refine Let.as ((q1 * 4294967296 % 18446744073709551616 : Nat) : Int) (by rw [show ((q1 : Int) * 4294967296) = ((q1 * 4294967296 : Nat) : Int) by omega, wuN]) ?_
    refine Let.as (((hi * 18446744073709551616 + lo) / y : Nat) : Int) (by rw [← Int.natCast_add, wuN]; omega) ?_
    refine Let.as ((V * 4294967296 % 18446744073709551616 : Nat) : Int) (by rw [show ((V : Int) * 4294967296) = ((V * 4294967296 : Nat) : Int) by omega, wuN]) ?_
    refine Let.as (((V * 4294967296 + u0) % 18446744073709551616 : Nat) : Int) (by rw [← Int.natCast_add, wuN]; omega) ?_
    refine Let.as ((q0 * Y % 18446744073709551616 : Nat) : Int) (by rw [← Int.natCast_mul, wuN]) ?_
    refine Let.as ((R : Nat) : Int) (by
      simp only [IntKind.wrap, IntKind.bits, IntKind.signed, Bool.false_and, Bool.false_eq_true, if_false]
      omega) ⟨by omega, ?_⟩
    refine Let.as (((hi * 18446744073709551616 + lo) % y : Nat) : Int) ((shrN R s (by omega)).trans (by rw [all.2])) rfl
theorem rem_of (hi lo y W : Nat) : (hi % y * W + lo) % y = (hi * W + lo) % y := by
  rw [Nat.add_mod, Nat.mul_mod, Nat.mod_mod, ← Nat.mul_mod, ← Nat.add_mod]
theorem rem64_ev (hi lo y : Nat) (hlo : lo < 18446744073709551616) (hy : y < 18446744073709551616) (hy0 : y ≠ 0) :
    Ev_math_bits_Rem64 (hi : Int) (lo : Int) (y : Int) (((hi * 18446744073709551616 + lo) % y : Nat) : Int) := by
  refine walk_math_bits_Rem64 ?_
  unfold W_math_bits_Rem64
  have h1 := Nat.mod_lt hi (show y > 0 by omega)
  refine ⟨by omega, Let.as ((hi % y : Nat) : Int) (by simp [Int.tmod]) ?_⟩
  refine Call.mk (div64_ev (hi % y) lo y hlo hy h1) ?_
  rw [rem_of hi lo y 18446744073709551616]
end Go.Sim.YtffglpibobogcaaGreatDoor
