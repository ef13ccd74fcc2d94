/- What is proved: what lin.straight tells of a square matrix. -/
import Derived.Test.YtlkpbnhinnhlfaaGreatZLFNerD
import Derived.Test.YtlkpbnhinnhlfaaGreatZLFWNh

namespace Go.Sim.YtlkpbnhinnhlfaaGreat
open Go.RowKit Go.Proofs Go.Proofs.Tryz
/-- A matrix that is nearly orthogonal, of floats from -2 to 2. -/
def StrP (n : Nat) (q : Nat → Nat → Nat) : Prop := SqF n q ∧ (∀ i j, i < n → j < n → fI (rungB (q i j)) ≤ 4611686018427387904) ∧ fI (dlt n (fun i j => q j i) q) ≤ 4517110426252607488
theorem str_unit {n : Nat} : StrP n oneV := by
  refine ⟨⟨fun i j _ _ => oneV_lt i j, fun i j _ _ => oneV_F i j⟩, fun i j _ _ => ?_, ?_⟩
  · unfold oneV; split <;> decide
  · rw [unit_dlt]; decide
theorem le_lim {d : Nat} (hd : NN d) : ((FloatKind.f64.format.order d (4517110426252607488 : Nat) == some .lt) || (FloatKind.f64.format.order d (4517110426252607488 : Nat) == some .eq)) = decide (fI d ≤ 4517110426252607488) := by
  rw [le_b hd.n.l (by decide), decide_eq_decide, show fI 4517110426252607488 = 4517110426252607488 by decide]
  exact ⟨fun h => h.2.2, fun h => ⟨hd.n.n, by decide, h⟩⟩
theorem straight_ev {n : Nat} (h1 : 1 ≤ n) (hn : n ≤ 24) {q : Nat → Nat → Nat} (hq : ∀ i j, i < n → j < n → q i j < 18446744073709551616) : ∃ b, Ev_lin_straight (mkM n q) b ∧ (b = true ↔ StrP n q) := by
  obtain ⟨b, hb⟩ : ∃ b : Bool, (b = true ↔ StrP n q) := by
    by_cases h : StrP n q
    · exact ⟨true, by simp [h]⟩
    · exact ⟨false, by simp [h]⟩
  refine ⟨b, walk_lin_straight ?_, hb⟩
  have hno : ¬ StrP n q → false = b := fun h => by
    cases b with
    | false => rfl
    | true => exact absurd (hb.1 rfl) h
  have hl : (mkM n q).length = n := mkM_len
  unfold W_lin_straight
  refine Call.mk (floats_ev (SqF.ff hn hq) (by omega)) ?_
  cases hB : floatsB (mkM n q) with
  | false => exact Br.t rfl (hno fun h => by rw [h.1.floats h1 hn] at hB; cases hB)
  | true =>
    have ht := floatsB_true hB
    have hr : SqF n q := ⟨hq, fun i j hi hj => (ht.1 _ (List.mem_of_getElem? (mkM_get hi))).2 _ (List.mem_of_getElem? (rowM_get hj))⟩
    rw [hl]
    refine Br.f rfl (Call.mk (unitR_ev hn) ?_)
    rw [unitL_mk]
    refine Loop2.up n (fun i t => (t = mkM n fun a c => if a < i then q c a else oneV a c) ∧ ∀ a c, a < i → c < n → fI (rungB (q a c)) ≤ 4611686018427387904) ⟨mkM_congr fun a c _ _ => by simp, fun a c ha => by omega⟩ ?_
    rintro i t k hi ⟨rfl, hP⟩ hk
    refine Br.d (fun hlt => ?_) (fun hge => ?_)
    · have hin : i < n := by omega
      refine Loop2.up n (fun j t => (t = mkM n fun a c => if a < i ∨ a = i ∧ c < j then q c a else oneV a c) ∧ ∀ c, c < j → fI (rungB (q i c)) ≤ 4611686018427387904) ⟨mkM_congr fun a c _ _ => by simp, fun c hc => by omega⟩ ?_
      rintro j t k2 hj ⟨rfl, hP2⟩ hk2
      refine Br.d (fun hlt2 => ?_) (fun hge2 => Let.as _ (wi1 (by omega)) (hk _ (by omega) ⟨mkM_congr fun a c _ hc => ?_, fun a c ha hc => ?_⟩))
      · have hjn : j < n := by omega
        refine At.nat (by rw [mkM_len]; omega) fun r hr' => ?_
        rw [mkM_get hin] at hr'
        cases hr'
        refine At.nat (by rw [mkM_len]; omega) fun r hr' => ?_
        rw [mkM_get hjn] at hr'
        cases hr'
        refine At.nat (by rw [rowM_len]; omega) fun x hx => ?_
        rw [rowM_get hin] at hx
        cases hx
        refine At.nat (by rw [rowM_len]; omega) fun _ _ => ?_
        refine At.nat (by rw [mkM_len]; omega) fun r hr' => ?_
        rw [mkM_get hin] at hr'
        cases hr'
        refine At.nat (by rw [rowM_len]; omega) fun x hx => ?_
        rw [rowM_get hjn] at hx
        cases hx
        refine Call.mk (abs_ev (hq i j hin hjn)) ?_
        have hrl := rung_lt (hq i j hin hjn)
        have hnn := NN.rung (hq i j hin hjn) (hr.fin i j hin hjn).n
        rw [fmt64, order_gt (by omega) (by decide), show fI 4611686018427387904 = 4611686018427387904 by decide]
        by_cases c : 4611686018427387904 < fI (rungB (q i j))
        · exact Br.dT ⟨hnn.n.n, by decide, c⟩ (hno fun h => by have := h.2.1 i j hin hjn; omega)
        · refine Br.dF (fun h => c h.2.2) (Let.as _ (wi1 (by omega)) (hk2 _ (by omega) ⟨?_, fun c' hc' => ?_⟩))
          · rw [Int.toNat_natCast, Int.toNat_natCast]
            refine (mkM_put (i := i) (j := j) (v := q j i) (f := fun a c => if a < i ∨ a = i ∧ c < j then q c a else oneV a c)).trans ?_
            refine mkM_congr fun a b _ _ => ?_
            by_cases e : a = i ∧ b = j
            · obtain ⟨rfl, rfl⟩ := e; simp
            · rw [if_neg e]
              by_cases c : a < i ∨ a = i ∧ b < j
              · rw [if_pos c, if_pos (by omega)]
              · rw [if_neg c, if_neg (by omega)]
          · by_cases e : c' = j
            · subst e; omega
            · exact hP2 c' (by omega)
      · by_cases c1 : a < i
        · rw [if_pos (.inl c1), if_pos (by omega)]
        · by_cases c2 : a = i
          · rw [if_pos (.inr ⟨c2, by omega⟩), if_pos (by omega)]
          · rw [if_neg (by omega), if_neg (by omega)]
      · by_cases c1 : a = i
        · subst c1; exact hP2 c (by omega)
        · exact hP a c (by omega) hc
    · have hi' : i = n := by omega
      subst hi'
      have hT : SqF i (fun a c => q c a) := ⟨fun a c ha hc => hq c a hc ha, fun a c ha hc => hr.fin c a hc ha⟩
      rw [mkM_congr (g := fun a c => q c a) fun a c ha _ => by rw [if_pos ha]]
      have p1 := points_ev (f := mkM i fun a c => q c a) (SqF.ff hn hT.lt) (by rw [mkM_len]; omega)
      have p2 := points_ev (f := mkM i q) (SqF.ff hn hr.lt) (by omega)
      rw [if_pos (hT.floats h1 hn), ptsI_mk] at p1
      rw [if_pos hB, ptsI_mk] at p2
      have okp : ∀ {f : Nat → Nat → Nat}, SqF i f → ∀ a c, a < i → c < i → okI (ptI (f a c)) := fun hf a c ha hc => ok_pt (hf.lt a c ha hc)
      have rp : ∀ {f : Nat → Nat → Nat}, SqF i f → ∀ a c, a < i → c < i → rightB (ptI (f a c)) = true := fun hf a c ha hc => rightB_of (pt_in (hf.lt a c ha hc) (hf.fin a c ha hc)).1
      have p3 := linmul_ev (okM_mk hn (okp hT)) (okM_mk hn (okp hr)) (by rw [mkM_len]; omega) (by rw [mkM_len]; omega)
      rw [if_pos (by unfold mmB; rw [matB_mk h1 hn (rp hT), matB_mk h1 hn (rp hr), headD_mk h1, rowM_len, mkM_len]; simp), mmI_mk h1] at p3
      have p4 := lessOne_ev h1 hn (f := prodI i (fun a c => q c a) q) (fun a c _ _ => ok_prod a c)
      have p5 := norm_ev (m := mkM i (gM i (fun a c => q c a) q)) (okM_mk hn fun a c _ _ => ok_g a c) (by rw [mkM_len]; omega)
      rw [if_pos (matB_mk h1 hn fun a c ha hc => rightB_of (g_in hT hr ha hc).1)] at p5
      refine Call.mk p1 (Call.mk p2 (Call.mk p3 (Call.mk p4 (Call.mk p5 (Call.mk ldexp20 ?_)))))
      have hd : NN (normI (mkM i (gM i (fun a c => q c a) q))) := nn_dlt hn
      show _ = b
      rw [le_lim hd]
      by_cases c : fI (normI (mkM i (gM i (fun a c => q c a) q))) ≤ 4517110426252607488
      · rw [decide_eq_true c]; exact (hb.2 ⟨hr, fun a c ha hc => hP a c (by omega) hc, c⟩).symm
      · rw [decide_eq_false c]; exact hno fun h => c h.2.2
end Go.Sim.YtlkpbnhinnhlfaaGreat
