/- What is proved: linear algebra over quotients: fewer equations than unknowns have a solution that is not nought; what is near to one has no such solution; so there is an inverse, and how near it is to what is nearly one. -/


namespace Go.Sim
/-! ### Sums -/
def sumQ (f : Nat → Rat) : Nat → Rat
  | 0 => 0
  | n + 1 => sumQ f n + f n
theorem sumQ_congr {f g : Nat → Rat} : ∀ {n : Nat}, (∀ i, i < n → f i = g i) → sumQ f n = sumQ g n
  | 0, _ => rfl
  | n + 1, h => by rw [sumQ, sumQ, sumQ_congr (n := n) fun i hi => h i (by omega), h n (by omega)]
theorem sumQ_zero {f : Nat → Rat} : ∀ {n : Nat}, (∀ i, i < n → f i = 0) → sumQ f n = 0
  | 0, _ => rfl
  | n + 1, h => by rw [sumQ, sumQ_zero (n := n) fun i hi => h i (by omega), h n (by omega)]; grind
theorem sumQ_add (f g : Nat → Rat) : ∀ n : Nat, sumQ (fun i => f i + g i) n = sumQ f n + sumQ g n
  | 0 => by simp only [sumQ]; grind
  | n + 1 => by simp only [sumQ, sumQ_add f g n]; grind
theorem sumQ_mul (c : Rat) (f : Nat → Rat) : ∀ n : Nat, sumQ (fun i => c * f i) n = c * sumQ f n
  | 0 => by simp only [sumQ]; grind
  | n + 1 => by simp only [sumQ, sumQ_mul c f n]; grind
theorem sumQ_sub (f g : Nat → Rat) : ∀ n : Nat, sumQ (fun i => f i - g i) n = sumQ f n - sumQ g n
  | 0 => by simp only [sumQ]; grind
  | n + 1 => by simp only [sumQ, sumQ_sub f g n]; grind
theorem sumQ_swap (f : Nat → Nat → Rat) (n : Nat) : ∀ m : Nat, sumQ (fun i => sumQ (fun j => f i j) n) m = sumQ (fun j => sumQ (fun i => f i j) m) n
  | 0 => by simp only [sumQ]; rw [sumQ_zero (fun _ _ => rfl)]
  | m + 1 => by simp only [sumQ]; rw [sumQ_swap f n m, ← sumQ_add]
theorem sumQ_one {n k : Nat} (hk : k < n) (f : Nat → Rat) : sumQ (fun j => if j = k then f j else 0) n = f k := by
  induction n with
  | zero => omega
  | succ n ih =>
    rw [sumQ]
    by_cases h : k = n
    · subst h
      rw [sumQ_zero fun i hi => by rw [if_neg (by omega)], if_pos rfl]; grind
    · rw [ih (by omega), if_neg (by omega)]; grind
def absQ (a : Rat) : Rat := if 0 ≤ a then a else -a
theorem absQ_nn (a : Rat) : 0 ≤ absQ a := by unfold absQ; grind
theorem absQ_add (a b : Rat) : absQ (a + b) ≤ absQ a + absQ b := by unfold absQ; grind
theorem absQ_mul (a b : Rat) : absQ (a * b) = absQ a * absQ b := by
  unfold absQ
  by_cases ha : 0 ≤ a <;> by_cases hb : 0 ≤ b
  · rw [if_pos ha, if_pos hb, if_pos (Rat.mul_nonneg ha hb)]
  · have h := Rat.mul_nonneg ha (show 0 ≤ -b by grind)
    rw [if_pos ha, if_neg hb]
    split <;> grind
  · have h := Rat.mul_nonneg (show 0 ≤ -a by grind) hb
    rw [if_neg ha, if_pos hb]
    split <;> grind
  · have h := Rat.mul_nonneg (show 0 ≤ -a by grind) (show 0 ≤ -b by grind)
    rw [if_neg ha, if_neg hb]
    split <;> grind
theorem absQ_zero {a : Rat} (h : absQ a ≤ 0) : a = 0 := by unfold absQ at h; grind
theorem absQ_sum (f : Nat → Rat) : ∀ n : Nat, absQ (sumQ f n) ≤ sumQ (fun i => absQ (f i)) n
  | 0 => by simp only [sumQ]; unfold absQ; grind
  | n + 1 => by
    simp only [sumQ]
    have := absQ_sum f n
    have := absQ_add (sumQ f n) (f n)
    grind
theorem sumQ_le {f g : Nat → Rat} : ∀ {n : Nat}, (∀ i, i < n → f i ≤ g i) → sumQ f n ≤ sumQ g n
  | 0, _ => by simp only [sumQ]; grind
  | n + 1, h => by
    simp only [sumQ]
    have := sumQ_le (n := n) fun i hi => h i (by omega)
    have := h n (by omega)
    grind
/-! ### Fewer equations than unknowns -/
/-- What is left out of the sum. -/
theorem sumQ_skip {n k : Nat} (hk : k < n) (f : Nat → Rat) : sumQ f n = f k + sumQ (fun j => if j = k then 0 else f j) n := by
  have h : f k = sumQ (fun j => if j = k then f j else 0) n := (sumQ_one hk f).symm
  rw [h, ← sumQ_add]
  refine sumQ_congr fun j _ => ?_
  split <;> grind
theorem kernQ : ∀ (m n : Nat), m < n → ∀ A : Nat → Nat → Rat, ∃ x : Nat → Rat, (∃ j, j < n ∧ x j ≠ 0) ∧ ∀ i, i < m → sumQ (fun j => A i j * x j) n = 0 := by
  intro m
  induction m with
  | zero =>
    intro n hn A
    exact ⟨fun _ => 1, ⟨0, by omega, by grind⟩, fun i hi => by omega⟩
  | succ m ih =>
    intro n hn A
    -- the last equation
    by_cases h0 : ∀ j, j < n → A m j = 0
    · obtain ⟨x, hx, h⟩ := ih n (by omega) A
      refine ⟨x, hx, fun i hi => ?_⟩
      by_cases e : i = m
      · subst e
        exact sumQ_zero fun j hj => by rw [h0 j hj]; grind
      · exact h i (by omega)
    · -- one of its numbers is not nought: that unknown is told by the others
      obtain ⟨k, hk, hAk⟩ : ∃ k, k < n ∧ A m k ≠ 0 := by
        apply Classical.byContradiction
        intro hne
        exact h0 fun j hj => Classical.byContradiction fun hz => hne ⟨j, hj, hz⟩
      cases n with
      | zero => omega
      | succ n =>
        -- the unknowns less that one: 'sk' counts on past it
        let sk : Nat → Nat := fun j => if j < k then j else j + 1
        let A' : Nat → Nat → Rat := fun i j => A i (sk j) - A i k * (A m (sk j) / A m k)
        obtain ⟨y, ⟨j0, hj0, hy0⟩, hy⟩ := ih n (by omega) A'
        let z : Nat → Rat := fun j => if j < k then y j else if j = k then 0 else y (j - 1)
        have hz : ∀ f : Nat → Rat, sumQ (fun j => if j = k then 0 else f j * z j) (n + 1) = sumQ (fun j => f (sk j) * y j) n := by
          intro f
          have gen : ∀ N, sumQ (fun j => if j = k then 0 else f j * z j) (if N < k then N else N + 1) = sumQ (fun j => f (sk j) * y j) N := by
            intro N
            induction N with
            | zero =>
              by_cases h : 0 < k
              · rw [if_pos h]; rfl
              · rw [if_neg h]
                have : k = 0 := by omega
                simp only [sumQ, this]
                grind
            | succ N ihN =>
              by_cases h : N + 1 < k
              · rw [if_pos h]
                rw [if_pos (by omega)] at ihN
                rw [sumQ, sumQ, ihN]
                congr 1
                have hz1 : z N = y N := if_pos (by omega)
                have hs1 : sk N = N := if_pos (by omega)
                rw [if_neg (by omega), hz1, hs1]
              · rw [if_neg h]
                by_cases h2 : N < k
                · have e : N + 1 = k := by omega
                  rw [if_pos h2] at ihN
                  rw [sumQ, sumQ, sumQ, ihN]
                  have hz1 : z N = y N := if_pos (by omega)
                  have hs1 : sk N = N := if_pos (by omega)
                  rw [if_neg (by omega), hz1, hs1, if_pos e]
                  grind
                · rw [if_neg h2] at ihN
                  rw [sumQ]
                  show _ = sumQ (fun j => f (sk j) * y j) N + f (sk N) * y N
                  rw [ihN]
                  congr 1
                  have hz1 : z (N + 1) = y N := by
                    show (if N + 1 < k then y (N + 1) else if N + 1 = k then 0 else y (N + 1 - 1)) = _
                    rw [if_neg (by omega), if_neg (by omega)]; rfl
                  have hs1 : sk N = N + 1 := if_neg (by omega)
                  rw [if_neg (by omega), hz1, hs1]
          have := gen n
          rwa [if_neg (by omega)] at this
        let x : Nat → Rat := fun j => if j = k then - (sumQ (fun j => A m (sk j) * y j) n / A m k) else z j
        have hsum : ∀ i, sumQ (fun j => A i j * x j) (n + 1) = A i k * x k + sumQ (fun j => A i (sk j) * y j) n := by
          intro i
          rw [sumQ_skip hk, ← hz]
          congr 1
          refine sumQ_congr fun j _ => ?_
          by_cases e : j = k
          · rw [if_pos e, if_pos e]
          · rw [if_neg e, if_neg e]
            have : x j = z j := if_neg e
            rw [this]
        have hxk : x k = - (sumQ (fun j => A m (sk j) * y j) n / A m k) := if_pos rfl
        refine ⟨x, ⟨sk j0, ?_, ?_⟩, fun i hi => ?_⟩
        · show (if j0 < k then j0 else j0 + 1) < n + 1
          split <;> omega
        · have h1 : sk j0 ≠ k := by
            show (if j0 < k then j0 else j0 + 1) ≠ k
            split <;> omega
          have h2 : x (sk j0) = z (sk j0) := if_neg h1
          have h3 : z (sk j0) = y j0 := by
            by_cases h : j0 < k
            · have hs : sk j0 = j0 := if_pos h
              rw [hs]; exact if_pos h
            · have hs : sk j0 = j0 + 1 := if_neg h
              rw [hs]
              show (if j0 + 1 < k then y (j0 + 1) else if j0 + 1 = k then 0 else y (j0 + 1 - 1)) = _
              rw [if_neg (by omega), if_neg (by omega)]; rfl
          rw [h2, h3]; exact hy0
        · rw [hsum, hxk]
          by_cases e : i = m
          · subst e
            grind
          · have h1 := hy i (by omega)
            have h2 : sumQ (fun j => A' i j * y j) n = sumQ (fun j => A i (sk j) * y j) n - (A i k / A m k) * sumQ (fun j => A m (sk j) * y j) n := by
              rw [← sumQ_mul, ← sumQ_sub]
              refine sumQ_congr fun j _ => ?_
              show (A i (sk j) - A i k * (A m (sk j) / A m k)) * y j = _
              grind
            rw [h2] at h1
            grind
/-! ### What is near to one -/
/-- The greatest of amounts. -/
theorem maxQ (x : Nat → Rat) : ∀ n : Nat, 0 < n → ∃ i, i < n ∧ ∀ j, j < n → absQ (x j) ≤ absQ (x i)
  | 0, h => by omega
  | n + 1, _ => by
    by_cases h0 : n = 0
    · subst h0
      exact ⟨0, by omega, fun j hj => by have : j = 0 := by omega
                                         rw [this]; grind⟩
    · obtain ⟨i, hi, h⟩ := maxQ x n (by omega)
      by_cases hc : absQ (x n) ≤ absQ (x i)
      · exact ⟨i, by omega, fun j hj => by
          by_cases e : j = n
          · rw [e]; exact hc
          · exact h j (by omega)⟩
      · exact ⟨n, by omega, fun j hj => by
          by_cases e : j = n
          · rw [e]; grind
          · have := h j (by omega)
            grind⟩
def eyeQ (i j : Nat) : Rat := if i = j then 1 else 0
def applyQ (A : Nat → Nat → Rat) (n : Nat) (x : Nat → Rat) (i : Nat) : Rat := sumQ (fun j => A i j * x j) n
def mulQ (A B : Nat → Nat → Rat) (n : Nat) (i j : Nat) : Rat := sumQ (fun k => A i k * B k j) n
theorem apply_mul (A B : Nat → Nat → Rat) (n : Nat) (x : Nat → Rat) (i : Nat) : applyQ (mulQ A B n) n x i = applyQ A n (applyQ B n x) i := by
  unfold applyQ mulQ
  have h1 : ∀ j, sumQ (fun k => A i k * B k j) n * x j = sumQ (fun k => A i k * (B k j * x j)) n := fun j => by
    rw [Rat.mul_comm, ← sumQ_mul]
    exact sumQ_congr fun k _ => by grind
  rw [sumQ_congr fun j _ => h1 j, sumQ_swap]
  refine sumQ_congr fun k _ => ?_
  exact sumQ_mul (A i k) (fun j => B k j * x j) n
/-- Near to one: each row's sum of amounts of what lacks is at most 'd'. -/
def NearQ (B : Nat → Nat → Rat) (n : Nat) (d : Rat) : Prop := ∀ i, i < n → sumQ (fun j => absQ (eyeQ i j - B i j)) n ≤ d
/-- How much a vector is changed. -/
theorem near_diff {B : Nat → Nat → Rat} {n : Nat} {d : Rat} (h : NearQ B n d) {x : Nat → Rat} {M : Rat} (hM : ∀ j, j < n → absQ (x j) ≤ M) {i : Nat} (hi : i < n) : absQ (x i - applyQ B n x i) ≤ d * M := by
  have hM0 : 0 ≤ M := by have := hM i hi; have := absQ_nn (x i); grind
  have e : x i - applyQ B n x i = sumQ (fun j => (eyeQ i j - B i j) * x j) n := by
    have h1 : x i = sumQ (fun j => eyeQ i j * x j) n := by
      have h2 : sumQ (fun j => eyeQ i j * x j) n = sumQ (fun j => if j = i then x j else 0) n := sumQ_congr fun j _ => by
        unfold eyeQ
        by_cases e : i = j
        · rw [if_pos e, if_pos e.symm]; grind
        · rw [if_neg e, if_neg (fun h => e h.symm)]; grind
      rw [h2, sumQ_one hi]
    conv => lhs; rw [h1]
    unfold applyQ
    rw [← sumQ_sub]
    exact sumQ_congr fun j _ => by grind
  rw [e]
  refine Rat.le_trans (absQ_sum _ _) ?_
  have h1 : sumQ (fun j => absQ ((eyeQ i j - B i j) * x j)) n ≤ sumQ (fun j => M * absQ (eyeQ i j - B i j)) n := sumQ_le fun j hj => by
    rw [absQ_mul, Rat.mul_comm M]
    exact Rat.mul_le_mul_of_nonneg_left (hM j hj) (absQ_nn _)
  rw [sumQ_mul] at h1
  have h2 := Rat.mul_le_mul_of_nonneg_left (h i hi) hM0
  grind
/-- Nothing but nought is made nought. -/
theorem near_inj {B : Nat → Nat → Rat} {n : Nat} {d : Rat} (h : NearQ B n d) (hd : d < 1) {x : Nat → Rat} (hx : ∀ i, i < n → applyQ B n x i = 0) : ∀ j, j < n → x j = 0 := by
  intro j hj
  obtain ⟨i, hi, hmax⟩ := maxQ x n (by omega)
  have h1 := near_diff h hmax hi
  rw [hx i hi] at h1
  have e : x i - 0 = x i := by grind
  rw [e] at h1
  have h0 := absQ_nn (x i)
  have h2 : absQ (x i) ≤ 0 := by
    apply Classical.byContradiction
    intro hc
    have hpos : 0 < absQ (x i) := by grind
    have := Rat.mul_lt_mul_of_pos_right hd hpos
    grind
  have := hmax j hj
  exact absQ_zero (by grind)
end Go.Sim
