/- What is proved: both writings of a number with a point yield one text. -/
import Derived.Test.YtomeghkmdcfolaaGreatDoorZPPStrP

namespace Go.Sim.YtomeghkmdcfolaaGreatDoor
open Go.RowKit Go.Proofs Go.Proofs.Tryz
theorem Cat.l {a b : ByteArray} {l m : List UInt8} {k : ByteArray -> Prop} (ha : a = bs l) (hb : b = bs m) (h : l.length + m.length <= 1000000000) (hk : k (bs (l ++ m))) : Cat a b k := by
 subst ha hb
 refine ⟨by rw [bs_size, bs_size]; omega, ?_⟩
 have e : bs l ++ bs m = bs (l ++ m) := by apply bs_of; rw [lst_app, lst_bs, lst_bs]
 exact Let.as _ e hk
theorem dec_spec {a : GRat} (h : decB a = true) : 1 <= a.D /\ 0 <= a.N /\ a.D.toNat ∣ 10 ^ 18 /\ (a.D ≠ 1 -> Int.tmod a.N a.D ≠ 0) := by
 unfold decB at h
 simp only [Bool.and_eq_true, decide_eq_true_eq, beq_iff_eq] at h
 obtain ⟨⟨hr, h0⟩, hm⟩ := h
 obtain ⟨hD, _, hg⟩ := GRat.right_spec.1 hr
 refine ⟨hD, h0, ?_, fun h1 hz => ?_⟩
 ·have e : ((a.D.toNat : Nat) : Int) = a.D := by omega
  have hd : (a.D : Int) ∣ 1000000000000000000 := Int.dvd_of_tmod_eq_zero hm
  rw [← e] at hd
  have : ((1000000000000000000 : Nat) : Int) = 1000000000000000000 := rfl
  rw [← this, Int.natCast_dvd_natCast] at hd
  exact hd
 ·have hd := Int.dvd_of_tmod_eq_zero hz
  have h2 : a.D.natAbs ∣ a.N.natAbs := Int.natAbs_dvd_natAbs.2 hd
  have h3 : Nat.gcd a.N.natAbs a.D.natAbs = a.D.natAbs := Nat.gcd_eq_right h2
  omega
theorem nat_digits {n D : Nat} (hD : 1 <= D) (hn : n < 2 ^ 63) (hD2 : D < 2 ^ 63) (hd : D ∣ 10 ^ 18) : (n % D) * (10 ^ 18 / D) = n % D * 10 ^ 18 / D /\ n % D * (10 ^ 18 / D) < 10 ^ 18 := by
 have h1 : n % D < D := Nat.mod_lt _ hD
 refine ⟨(Nat.mul_div_assoc _ hd).symm, ?_⟩
 have h2 : D * (10 ^ 18 / D) = 10 ^ 18 := Nat.mul_div_cancel' hd
 have h3 : 0 < 10 ^ 18 / D := Nat.div_pos (Nat.le_of_dvd (by decide) hd) hD
 calc n % D * (10 ^ 18 / D) < D * (10 ^ 18 / D) := Nat.mul_lt_mul_of_pos_right h1 h3
  _ = 10 ^ 18 := h2
theorem pdigits_ev {a : GRat} (ha : a.ok) (h : decB a = true) : Ev_parse_digits a (bs (digL a)) := by
 obtain ⟨hD, h0, hd, hne⟩ := dec_spec h
 have hi := rat_inI ha
 obtain ⟨n, hn⟩ : ∃ n : Nat, a.N = n := ⟨a.N.toNat, by omega⟩
 obtain ⟨d, hdd⟩ : ∃ d : Nat, a.D = d := ⟨a.D.toNat, by omega⟩
 have hiN := hi.1
 have hiD := hi.2
 unfold Sim.inI at hiN hiD
 have hd1 : 1 <= d := by omega
 have hdv : d ∣ 10 ^ 18 := by rw [hdd] at hd; exact hd
 obtain ⟨e1, e2⟩ := nat_digits (n := n) hd1 (by omega) (by omega) hdv
 have q1 : Int.tdiv a.N a.D = ((n / d : Nat) : Int) := by rw [hn, hdd]; exact (Int.ofNat_tdiv n d).symm
 have q2 : Int.tmod a.N a.D = ((n % d : Nat) : Int) := by rw [hn, hdd]; exact (Int.ofNat_tmod n d).symm
 have q3 : Int.tdiv 1000000000000000000 a.D = ((10 ^ 18 / d : Nat) : Int) := by rw [hdd]; exact (Int.ofNat_tdiv (10 ^ 18) d).symm
 obtain ⟨q, hq⟩ : ∃ q, q = n / d := ⟨_, rfl⟩
 have k1 : q <= n := by rw [hq]; exact Nat.div_le_self _ _
 rw [← hq] at q1
 obtain ⟨q', hq'⟩ : ∃ q', q' = 10 ^ 18 / d := ⟨_, rfl⟩
 have k3 : q' <= 10 ^ 18 := by rw [hq']; exact Nat.div_le_self _ _
 rw [← hq'] at q3 e1 e2
 have l1 := itoa_len (tdiv_inI hi.1 hD)
 refine walk_parse_digits ?_
 unfold W_parse_digits
 refine ⟨by omega, Let.as (Int.tdiv a.N a.D) (by rw [q1, wi (by omega) (by omega)]) (Call.mk (fmt2_ev (tdiv_inI hi.1 hD)) (Br.e (fun e => ?_) (fun e => ⟨by omega, Let.as _ q2 ⟨by omega, Let.as _ (by rw [q3, wi (by omega) (by omega)]) (Let.as ((n % d * 10 ^ 18 / d : Nat) : Int) ?_ ?_)⟩⟩)))⟩
 ·unfold digL
  rw [if_pos e, List.append_nil]
 ·rw [← Int.natCast_mul, e1, wi (by omega) (by omega)]
 obtain ⟨v, hv⟩ : ∃ v, v = n % d * 10 ^ 18 / d := ⟨_, rfl⟩
 rw [e1, ← hv] at e2
 rw [← hv]
 have hp := pd_dec 17 v e2
 have hfr := fr_trim d hd1 18 (n % d) (Nat.mod_lt _ hd1) (Nat.dvd_trans hdv (Nat.dvd_mul_left _ _))
 rw [← hv] at hfr
 have hfl := fr_len d 18 (n % d)
 have hit : Lib.itoa (v : Int) = Lib.decDigits v := Lib.itoa_nonneg v
 have hl : (Lib.itoa (v : Int)).length = Lib.nDigits v := by rw [hit, Lib.decDigits_length]
 refine Call.mk (fmt2_ev (n := (v : Int)) (by unfold Sim.inI; omega)) (Let.as ((17 + 1 - Lib.nDigits v : Nat) : Int) (by rw [bs_size, hl, wi (by omega) (by omega)]; omega) (Call.mk (rept_ev (by omega)) (Cat.l rfl rfl (by rw [hl, List.length_replicate]; omega) ?_)))
 rw [hit, hp.2]
 refine Cat.l rfl (m := [46]) rfl (by simp only [List.length_cons, List.length_nil]; omega) (Call.mk (trimr_ev (by rw [pd_len]; omega)) (Cat.l rfl rfl ?_ ?_))
 ·rw [hfr.1]; simp only [List.length_append, List.length_cons, List.length_nil]; omega
 ·rw [hfr.1]
  show _ = _
  unfold digL
  rw [if_neg e, q2, hdd, Int.toNat_natCast, Int.toNat_natCast, List.append_assoc]
  rfl
theorem rdecimal_ev {a : GRat} (ha : a.ok) (h : decB a = true) : Ev_ref13_decimal a (bs (digL a)) := by
  obtain ⟨hD, h0, hd, hne⟩ := dec_spec h
  have hi := rat_inI ha
  obtain ⟨n, hn⟩ : ∃ n : Nat, a.N = n := ⟨a.N.toNat, by omega⟩
  obtain ⟨d, hdd⟩ : ∃ d : Nat, a.D = d := ⟨a.D.toNat, by omega⟩
  have hiN := hi.1
  have hiD := hi.2
  unfold Sim.inI at hiN hiD
  have hd1 : 1 <= d := by omega
  have hdv : d ∣ 10 ^ 18 := by rw [hdd] at hd; exact hd
  have q1 : Int.tdiv a.N a.D = ((n / d : Nat) : Int) := by rw [hn, hdd]; exact (Int.ofNat_tdiv n d).symm
  have q2 : Int.tmod a.N a.D = ((n % d : Nat) : Int) := by rw [hn, hdd]; exact (Int.ofNat_tmod n d).symm
  obtain ⟨q, hq⟩ : ∃ q, q = n / d := ⟨_, rfl⟩
  have k1 : q <= n := by rw [hq]; exact Nat.div_le_self _ _
  rw [← hq] at q1
  have l1 := itoa_len (tdiv_inI hi.1 hD)
  have hmod : n % d < d := Nat.mod_lt _ hd1
  have hone : d = 1 -> n % d = 0 := fun e => by rw [e, Nat.mod_one]
  obtain ⟨r, hr⟩ : ∃ r, r = n % d := ⟨_, rfl⟩
  have hdig : digL a = Lib.itoa (Int.tdiv a.N a.D) ++ (if r = 0 then [] else [46]) ++ fr d 18 r := by
    unfold digL
    by_cases e : a.D = 1
    · have hr0 : r = 0 := by rw [hr]; exact hone (by omega)
      rw [if_pos e, if_pos hr0, hr0]; simp [fr]
    · have hr0 : r ≠ 0 := by
        have := hne e
        rw [q2] at this; omega
      rw [if_neg e, if_neg hr0, q2, hdd, Int.toNat_natCast, Int.toNat_natCast, ← hr, List.append_assoc]; rfl
  refine walk_ref13_decimal ?_
  unfold W_ref13_decimal
  refine ⟨by omega, Let.as (Int.tdiv a.N a.D) (by rw [q1, wi (by omega) (by omega)]) (Call.mk (num_ev (tdiv_inI hi.1 hD)) ⟨by omega, Let.as _ (q2.trans (by rw [← hr])) ?_⟩)⟩
  refine ⟨fun s => s = bs (Lib.itoa (Int.tdiv a.N a.D) ++ if r = 0 then [] else [46]), Br.d (fun h1 => ?_) (fun h1 => ?_), ?_⟩
  · refine Cat.l rfl (m := [46]) rfl (by simp only [List.length_cons, List.length_nil]; omega) ?_
    rw [if_neg (by omega)]
  · rw [if_pos (by omega), List.append_nil]
  rintro _ rfl
  obtain ⟨p, hp⟩ : ∃ p, p = Lib.itoa (Int.tdiv a.N a.D) ++ if r = 0 then [] else [46] := ⟨_, rfl⟩
  have hpl : p.length <= 22 := by
    rw [hp, List.length_append]; split <;> (simp only [List.length_cons, List.length_nil]; omega)
  rw [← hp] at hdig ⊢
  refine ⟨fun s x => ∃ (w r' : Nat) (t : List UInt8), w <= 18 /\ s = bs (p ++ t) /\ x = r' /\ r' < d /\ d ∣ r' * 10 ^ w /\ t.length + w <= 18 /\ t ++ fr d w r' = fr d 18 r,
    fun s _ => 60 - s.size, ?_, ?_⟩
  · exact ⟨18, r, [], by omega, by rw [List.append_nil], rfl, by omega, Nat.dvd_trans hdv (Nat.dvd_mul_left _ _), by simp, rfl⟩
  rintro _ _ ⟨w, r', t, hw, rfl, rfl, hlt, hdv', htl, hfr⟩
  refine Br.d (fun hpos => ?_) (fun hz => ?_)
  · -- one digit more
    have hw1 : ∃ w', w = w' + 1 := by
      cases w with
      | zero =>
        rw [Nat.pow_zero, Nat.mul_one] at hdv'
        exact absurd (Nat.le_of_dvd (by omega) hdv') (by omega)
      | succ w' => exact ⟨w', rfl⟩
    obtain ⟨w', rfl⟩ := hw1
    refine ⟨fun dg left i => ∃ i' D' l' : Nat, i = i' /\ dg = D' /\ left = l' /\ i' <= 10 /\ i' * r' = D' * d + l' /\ l' < d /\ D' <= i', fun _ _ i => 10 - i.toNat, ⟨0, 0, 0, rfl, rfl, rfl, by omega, by simp, by omega, by omega⟩, ?_⟩
    rintro _ _ _ ⟨i', D', l', rfl, rfl, rfl, hi10, heq, hl', hDi⟩
    refine Br.d (fun hlt10 => ?_) (fun hge => ?_)
    · have hs1 : (i' + 1) * r' = i' * r' + r' := Nat.succ_mul _ _
      refine ⟨fun dg left => ∃ D'' l'' : Nat, dg = D'' /\ left = l'' /\ (i' + 1) * r' = D'' * d + l'' /\ l'' < d /\ D'' <= i' + 1, Let.as (a.D - (r' : Int)) (by rw [wi (by omega) (by omega)]) (Br.d (fun hge => Let.as (a.D - (r' : Int)) (by rw [wi (by omega) (by omega)]) (Let.as ((l' - (d - r') : Nat) : Int) (by rw [wi (by omega) (by omega)]; omega) (Let.as ((D' + 1 : Nat) : Int) (by rw [wi (by omega) (by omega)]; omega) ?_))) (fun hlt2 => Let.as ((l' + r' : Nat) : Int) (by rw [wi (by omega) (by omega)]; omega) ?_)), ?_⟩
      · exact ⟨D' + 1, l' - (d - r'), rfl, rfl, by rw [hs1, heq, Nat.succ_mul]; omega, by omega, by omega⟩
      · exact ⟨D', l' + r', rfl, rfl, by rw [hs1, heq]; omega, by omega, by omega⟩
      · rintro _ _ ⟨D'', l'', rfl, rfl, g1, g2, g3⟩
        exact Let.as ((i' + 1 : Nat) : Int) (by rw [wi (by omega) (by omega)]; omega) ⟨⟨i' + 1, D'', l'', rfl, rfl, rfl, by omega, g1, g2, g3⟩, by show 10 - (((i' + 1 : Nat) : Int)).toNat < 10 - ((i' : Nat) : Int).toNat; omega⟩
    · have hi' : i' = 10 := by omega
      subst hi'
      have g1 : 10 * r' / d = D' := by
        rw [heq, Nat.mul_comm D' d, Nat.mul_add_div hd1, Nat.div_eq_of_lt hl']; rfl
      have g2 : 10 * r' % d = l' := by
        rw [heq, Nat.mul_comm D' d, Nat.mul_add_mod, Nat.mod_eq_of_lt hl']
      have hD10 : D' < 10 := by
        rw [← g1]; exact Nat.div_lt_of_lt_mul (by rw [Nat.mul_comm d 10]; omega)
      have hit : Lib.itoa (D' : Int) = [UInt8.ofNat (48 + D')] := by rw [Lib.itoa_nonneg, Lib.decDigits_one hD10]
      refine Call.mk (num_ev (n := (D' : Int)) (by unfold Sim.inI; omega)) (Cat.l rfl rfl (by rw [hit]; simp only [List.length_append, List.length_cons, List.length_nil]; omega) ?_)
      rw [hit]
      have hd' : d ∣ l' * 10 ^ w' := by
        have e0 : r' * 10 ^ (w' + 1) = d * (D' * 10 ^ w') + l' * 10 ^ w' := by
          rw [Nat.pow_succ, Nat.mul_comm (10 ^ w') 10, ← Nat.mul_assoc, Nat.mul_comm r' 10, ← Nat.mul_assoc, ← Nat.add_mul, Nat.mul_comm d D', heq]
        rw [e0] at hdv'
        exact (Nat.dvd_add_right (Nat.dvd_mul_right _ _)).1 hdv'
      refine ⟨⟨w', l', t ++ [UInt8.ofNat (48 + D')], by omega, by rw [List.append_assoc], rfl, hl', hd', by simp only [List.length_append, List.length_cons, List.length_nil]; omega, ?_⟩, ?_⟩
      · rw [← hfr, fr, if_neg (by omega), g1, g2, List.append_assoc]; rfl
      · simp only [bs_size, List.length_append, List.length_cons, List.length_nil]
        omega
  · have hr0 : r' = 0 := by omega
    subst hr0
    show _ = _
    have hf0 : fr d w 0 = [] := by cases w <;> simp [fr]
    rw [hf0, List.append_nil] at hfr
    rw [hdig, hfr]
end Go.Sim.YtomeghkmdcfolaaGreatDoor
