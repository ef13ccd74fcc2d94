/- What is proved: of a square matrix with two rows that are one, or of at most three rows with no determinant, something that is not nought is taken to nought. -/
import Derived.Test.YtlkpbnhinnhlfaaZSHLaQ
import Derived.Test.YtlkpbnhinnhlfaaZSHNerG

namespace Go.Sim
theorem ker_rows {n : Nat} {A : Nat → Nat → Rat} {i j : Nat} (hi : i < n) (hj : j < n) (hij : i ≠ j) (hr : ∀ k, k < n → A i k = A j k) : ∃ x : Nat → Rat, (∃ k, k < n ∧ x k ≠ 0) ∧ ∀ k, k < n → applyQ A n x k = 0 := by
  obtain ⟨x, hx, h⟩ := kernQ (n - 1) n (by omega) (fun k => A (if k < j then k else k + 1))
  have h2 : ∀ k, k < n → k ≠ j → applyQ A n x k = 0 := fun k hk hkj => by
    have := h (if k < j then k else k - 1) (by split <;> omega)
    have e : (if (if k < j then k else k - 1) < j then (if k < j then k else k - 1) else (if k < j then k else k - 1) + 1) = k := by
      by_cases c : k < j
      · simp only [if_pos c]
      · simp only [if_neg c]; rw [if_neg (by omega)]; omega
    rw [e] at this
    exact this
  refine ⟨x, hx, fun k hk => ?_⟩
  by_cases c : k = j
  · subst c
    rw [← h2 i hi hij]
    exact sumQ_congr fun c hc => by rw [hr c hc]
  · exact h2 k hk c
theorem perp3 (a b c : Rat) : ∃ x y z : Rat, (x ≠ 0 ∨ y ≠ 0 ∨ z ≠ 0) ∧ a * x + b * y + c * z = 0 := by
  by_cases h : a ≠ 0 ∨ b ≠ 0
  · exact ⟨-b, a, 0, by grind, by grind⟩
  · exact ⟨1, 0, 0, .inl (by decide), by grind⟩
theorem par3 {a b c p q r x y z : Rat} (h : a ≠ 0 ∨ b ≠ 0 ∨ c ≠ 0) (h1 : b * r = c * q) (h2 : c * p = a * r) (h3 : a * q = b * p) (hx : a * x + b * y + c * z = 0) : p * x + q * y + r * z = 0 := by
  rcases h with h | h | h
  · have : a * (p * x + q * y + r * z) = 0 := by grind
    rcases Rat.mul_eq_zero.1 this with e | e
    · exact absurd e h
    · exact e
  · have : b * (p * x + q * y + r * z) = 0 := by grind
    rcases Rat.mul_eq_zero.1 this with e | e
    · exact absurd e h
    · exact e
  · have : c * (p * x + q * y + r * z) = 0 := by grind
    rcases Rat.mul_eq_zero.1 this with e | e
    · exact absurd e h
    · exact e
theorem ker3 (a b c p q r u v w : Rat) (hd : a * (q * w - r * v) - b * (p * w - r * u) + c * (p * v - q * u) = 0) :
    ∃ x y z : Rat, (x ≠ 0 ∨ y ≠ 0 ∨ z ≠ 0) ∧ a * x + b * y + c * z = 0 ∧ p * x + q * y + r * z = 0 ∧ u * x + v * y + w * z = 0 := by
  by_cases c1 : q * w - r * v ≠ 0 ∨ r * u - p * w ≠ 0 ∨ p * v - q * u ≠ 0
  · exact ⟨q * w - r * v, r * u - p * w, p * v - q * u, c1, by grind, by grind, by grind⟩
  by_cases c2 : v * c - w * b ≠ 0 ∨ w * a - u * c ≠ 0 ∨ u * b - v * a ≠ 0
  · exact ⟨v * c - w * b, w * a - u * c, u * b - v * a, c2, by grind, by grind, by grind⟩
  by_cases c3 : b * r - c * q ≠ 0 ∨ c * p - a * r ≠ 0 ∨ a * q - b * p ≠ 0
  · exact ⟨b * r - c * q, c * p - a * r, a * q - b * p, c3, by grind, by grind, by grind⟩
  by_cases z1 : a ≠ 0 ∨ b ≠ 0 ∨ c ≠ 0
  · obtain ⟨x, y, z, h0, h1⟩ := perp3 a b c
    exact ⟨x, y, z, h0, h1, par3 z1 (by grind) (by grind) (by grind) h1, par3 z1 (by grind) (by grind) (by grind) h1⟩
  by_cases z2 : p ≠ 0 ∨ q ≠ 0 ∨ r ≠ 0
  · obtain ⟨x, y, z, h0, h1⟩ := perp3 p q r
    exact ⟨x, y, z, h0, by grind, h1, par3 z2 (by grind) (by grind) (by grind) h1⟩
  · obtain ⟨x, y, z, h0, h1⟩ := perp3 u v w
    exact ⟨x, y, z, h0, by grind, by grind, h1⟩
theorem ker2 (a b p q : Rat) (hd : a * q - b * p = 0) : ∃ x y : Rat, (x ≠ 0 ∨ y ≠ 0) ∧ a * x + b * y = 0 ∧ p * x + q * y = 0 := by
  by_cases c1 : a ≠ 0 ∨ b ≠ 0
  · exact ⟨-b, a, by grind, by grind, by grind⟩
  by_cases c2 : p ≠ 0 ∨ q ≠ 0
  · exact ⟨-q, p, by grind, by grind, by grind⟩
  · exact ⟨1, 0, .inl (by decide), by grind, by grind⟩
end Go.Sim

/- What is proved: LinSingular holds. -/
namespace Go.Sim.Ytlkpbnhinnhlfaa
open Go.RowKit Go.Proofs Go.Proofs.Try
theorem ker_det {n : Nat} (h1 : 1 ≤ n) (h3 : n ≤ 3) {A : Nat → Nat → Rat} (hd : detN n A = 0) : ∃ x : Nat → Rat, (∃ k, k < n ∧ x k ≠ 0) ∧ ∀ k, k < n → applyQ A n x k = 0 := by
  have hn : n = 1 ∨ n = 2 ∨ n = 3 := by omega
  rcases hn with rfl | rfl | rfl
  · simp only [detN, sumQ, sgQ, minor] at hd
    refine ⟨fun _ => 1, ⟨0, by decide, by decide⟩, fun k hk => ?_⟩
    have : k = 0 := by omega
    subst this
    simp only [applyQ, sumQ]
    simp at hd
    grind
  · simp [detN, sumQ, sgQ, minor] at hd
    obtain ⟨x, y, h0, e1, e2⟩ := ker2 (A 0 0) (A 0 1) (A 1 0) (A 1 1) (by grind)
    refine ⟨fun k => if k = 0 then x else y, ?_, fun k hk => ?_⟩
    · rcases h0 with h | h
      · exact ⟨0, by decide, by simpa using h⟩
      · exact ⟨1, by decide, by simpa using h⟩
    · have : k = 0 ∨ k = 1 := by omega
      rcases this with rfl | rfl <;> simp [applyQ, sumQ] <;> grind
  · simp [detN, sumQ, sgQ, minor] at hd
    obtain ⟨x, y, z, h0, e1, e2, e3⟩ := ker3 (A 0 0) (A 0 1) (A 0 2) (A 1 0) (A 1 1) (A 1 2) (A 2 0) (A 2 1) (A 2 2) (by grind)
    refine ⟨fun k => if k = 0 then x else if k = 1 then y else z, ?_, fun k hk => ?_⟩
    · rcases h0 with h | h | h
      · exact ⟨0, by decide, by simpa using h⟩
      · exact ⟨1, by decide, by simpa using h⟩
      · exact ⟨2, by decide, by simpa using h⟩
    · have : k = 0 ∨ k = 1 ∨ k = 2 := by omega
      rcases this with rfl | rfl | rfl <;> simp [applyQ, sumQ] <;> grind
/-- What takes something to nought is refused. -/
theorem refused_W {n : Nat} (h1 : 1 ≤ n) (hn : n ≤ 24) {a : Nat → Nat → Nat} (ha : SqF n a) (hk : ∃ x : Nat → Rat, (∃ k, k < n ∧ x k ≠ 0) ∧ ∀ k, k < n → applyQ (fun i j => vQ (fI (a i j))) n x k = 0) : W_lin_Inverse (mkM n a) (fun y => y.2 = 40) := by
  refine inverse_W h1 hn ha rfl fun r hr hs _ => ?_
  obtain ⟨x, ⟨k, hk1, hk2⟩, hx⟩ := hk
  obtain ⟨q1, q2⟩ := dlt_near hr ha hs
  refine absurd (near_inj q2 (by grind) (x := x) (fun i hi => ?_) k hk1) hk2
  rw [apply_mul]
  refine sumQ_zero fun j hj => ?_
  rw [hx j hj]; simp
theorem any_W {n : Nat} (h1 : 1 ≤ n) (hn : n ≤ 24) {a : Nat → Nat → Nat} (ha : SqF n a) : W_lin_Inverse (mkM n a) (fun _ => True) := inverse_W h1 hn ha trivial fun _ _ _ _ => trivial
theorem rem_place {n : Nat} (h1 : 1 ≤ n) (hn : n ≤ 24) (x : Int) : ∃ i : Nat, i < n ∧ Int.tmod (IntKind.i64.wrap (Int.tmod x (n : Int) + (n : Int))) (n : Int) = (i : Int) := by
  have b1 : -(n : Int) < Int.tmod x n ∧ Int.tmod x n < n := by
    have := Int.tmod_lt_of_pos x (show (0 : Int) < n by omega)
    have h2 := Int.lt_tmod_of_pos x (show (0 : Int) < n by omega)
    omega
  rw [wi (by omega) (by omega), Int.tmod_eq_emod_of_nonneg (by omega)]
  have h3 := Int.emod_nonneg (Int.tmod x n + n) (show (n : Int) ≠ 0 by omega)
  have h4 := Int.emod_lt_of_pos (Int.tmod x n + n) (show (0 : Int) < n by omega)
  exact ⟨((Int.tmod x n + n) % n).toNat, by omega, by omega⟩
theorem square_ev {a : List (List Nat)} (hf : okFF a) (lf : a.length ≤ 9223372036854775807) : Ev_law04_square a (floatsB a && decide (a.length = (a.headD []).length)) := by
  refine walk_law04_square ?_
  unfold W_law04_square
  refine Call.mk (reffloats_ev hf lf) ?_
  cases hB : floatsB a with
  | false => exact Br.f rfl rfl
  | true =>
    have ht := floatsB_true hB
    refine Br.t rfl (At.nat (i := 0) (by omega) fun r hr => ?_)
    rw [headD_of hr]
    show _ = _
    rw [Bool.true_and, Bool.eq_iff_iff, beq_iff_eq, decide_eq_true_iff]
    omega
theorem linSingular_ev (a0 : List (List Nat)) (i0 j0 : Int) (h : a0.length ≤ maxLen ∧ ∀ r ∈ a0, (r.length ≤ maxLen ∧ ∀ z ∈ r, okFlt z)) (_ : okInt .i64 i0) (_ : okInt .i64 j0) : Ev_law04_LinSingular a0 i0 j0 true := by
  have hf : okFF a0 := fun r hr => ⟨fun v hv => okF.1 ((h.2 r hr).2 v hv), (h.2 r hr).1⟩
  have lf : a0.length ≤ 9223372036854775807 := h.1
  refine AFnS.det (AFnS.mono (walkS_law04_LinSingular (R := fun b => b = true) ?_) (by rintro y ⟨b, rfl, rfl⟩; rfl))
  unfold W_law04_LinSingular
  refine Call.mk (square_ev hf lf) ?_
  by_cases c : ¬ (floatsB a0 = true ∧ a0.length = (a0.headD []).length)
  · refine Br.t ?_ rfl
    cases h1 : floatsB a0 with
    | false => rfl
    | true => rw [Bool.true_and, decide_eq_false (fun h2 => c ⟨h1, h2⟩)]; rfl
  obtain ⟨hB, hsq⟩ := Classical.not_not.1 c
  rw [hB, decide_eq_true hsq]
  have ht := floatsB_true hB
  obtain ⟨n, hn⟩ : ∃ n, a0.length = n := ⟨_, rfl⟩
  have h1 : 1 ≤ n := by rw [← hn]; exact ht.2.1.1
  have h24 : n ≤ 24 := by rw [← hn]; exact ht.2.1.2
  have e0 := mk_entry (n := n) 0 hn (fun r hr => by rw [(ht.1 r hr).1, ← hsq]; exact hn)
  generalize entry 0 a0 = a at e0
  subst e0
  have ha : SqF n a := ⟨fun i j hi hj => (hf _ (List.mem_of_getElem? (mkM_get hi))).1 _ (List.mem_of_getElem? (rowM_get hj)), fun i j hi hj => (ht.1 _ (List.mem_of_getElem? (mkM_get hi))).2 _ (List.mem_of_getElem? (rowM_get hj))⟩
  rw [hn]
  obtain ⟨i, hi, ei⟩ := rem_place h1 h24 i0
  obtain ⟨j, hj, ej⟩ := rem_place h1 h24 j0
  refine Br.f rfl ⟨by omega, Let.as _ rfl (Let.as _ rfl ⟨by omega, Let.as _ ei ⟨by omega, Let.as _ rfl (Let.as _ rfl ⟨by omega, Let.as _ ej ?_⟩)⟩⟩)⟩
  refine Loop2.up n (fun k out => out = (List.range k).map fun r => (List.range n).map (fun c => if r = j then a i c else a r c)) rfl ?_
  rintro k out kk hk rfl hkk
  refine Br.d (fun hlt => ?_) (fun hge => ?_)
  · have hkn : k < n := by omega
    refine At.nat (by rw [mkM_len]; omega) fun q hq => ?_
    rw [mkM_get hkn] at hq
    cases hq
    refine ⟨fun r => r = (List.range n).map (fun c => if k = j then a i c else a k c), ?_, ?_⟩
    · refine Br.e (fun e => At.nat (by rw [mkM_len]; omega) fun q hq => ?_) (fun e => ?_)
      · rw [mkM_get hi] at hq
        cases hq
        exact rowM_congr fun b _ => by rw [if_pos (by omega)]
      · exact rowM_congr fun b _ => by rw [if_neg (by omega)]
    · rintro _ rfl
      refine App.le (by omega) (by simp; omega) (App.le (by omega) (by simp; omega) (Let.as _ (wi1 (by omega)) (hkk _ (by omega) ?_)))
      rw [List.nil_append, List.range_succ (n := k), List.map_append]; rfl
  · have : k = n := by omega
    subst this
    obtain ⟨b, hb⟩ : ∃ b : Nat → Nat → Nat, b = fun r c => if r = j then a i c else a r c := ⟨_, rfl⟩
    have eb : ((List.range k).map fun r => (List.range k).map (fun c => if r = j then a i c else a r c)) = mkM k b := by rw [hb]; rfl
    rw [eb]
    have hbF : SqF k b := ⟨fun r c hr hc => by rw [hb]; show (if r = j then a i c else a r c) < _; split <;> first | exact ha.lt i c hi hc | exact ha.lt r c hr hc, fun r c hr hc => by rw [hb]; show isF (if r = j then a i c else a r c); split <;> first | exact ha.fin i c hi hc | exact ha.fin r c hr hc⟩
    -- the rest
    have fin : CallS (EvS_lin_Inverse (mkM k a)) fun x155 =>
      Br (decide (((k : Nat) : Int) > (3 : Int))) (true = true) (
       Br (x155.2 == (40 : Int)) (true = true) (
        Call (Ev_ref04_Nums (mkM k a)) fun x162 =>
        Call (Ev_ref04_Det x162) fun x164 =>
        Call (Ev_ref01_Sign x164) fun x166 => (x166 != (0 : Int)) = true)) := by
      by_cases c3 : k ≤ 3
      · have hdet := det_ev k c3 (g := fun i j => fltZ (a i j)) (f := fun i j => vQ (fI (a i j))) (fun i j hi hj => NumV.flt (ha.fin i j hi hj))
        obtain ⟨d, d1, d2⟩ := hdet
        obtain ⟨z, z1, z2⟩ := d2.sign
        by_cases hd : detN k (fun i j => vQ (fI (a i j))) = 0
        · refine ⟨fun y => y.2 = 40, walkS_lin_Inverse (refused_W h1 h24 ha (ker_det h1 c3 hd)), fun y hy => ?_⟩
          exact Br.dF (by omega) (Br.eT hy rfl)
        · refine ⟨fun _ => True, walkS_lin_Inverse (any_W h1 h24 ha), fun y _ => ?_⟩
          refine Br.dF (by omega) (Br.e (fun _ => rfl) (fun _ => Call.mk (nums_ev h24 ha) (Call.mk d1 (Call.mk z1 ?_))))
          simpa using z2 hd
      · exact ⟨fun _ => True, walkS_lin_Inverse (any_W h1 h24 ha), fun y _ => Br.dT (by omega) rfl⟩
    have hl : (mkM k a).length = k := mkM_len
    by_cases hij : i = j
    · refine ⟨fun _ => True, walkS_lin_Inverse (any_W h1 h24 hbF), fun y _ => ⟨fun q => q = false, Br.f (by simp [hij]) rfl, ?_⟩⟩
      rintro _ rfl
      exact Br.f rfl fin
    · have hker := ker_rows (n := k) (A := fun r c => vQ (fI (b r c))) hi hj hij (fun c hc => by
        rw [hb]; simp only [if_neg hij, if_true])
      refine ⟨fun y => y.2 = 40, walkS_lin_Inverse (refused_W h1 h24 hbF hker), fun y hy => ⟨fun q => q = false, Br.t (by simp; omega) ?_, ?_⟩⟩
      · show (y.2 != 40) = false
        rw [hy]; rfl
      · rintro _ rfl
        exact Br.f rfl fin
end Go.Sim.Ytlkpbnhinnhlfaa
