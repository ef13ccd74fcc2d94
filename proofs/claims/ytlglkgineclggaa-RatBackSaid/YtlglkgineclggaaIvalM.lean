/- What is proved: the product of two intervals with finite ends; the interval of a number. -/
import Derived.Test.YtlglkgineclggaaIvalP
namespace Go.Sim.Ytlglkgineclggaa
open Go.RowKit Go.Proofs Go.Proofs.Try

theorem Loop3.two {α β : Type} {a0 a1 a2 : α} {b0 b1 b2 : β} {B : α → β → Int → (α → β → Int → Prop) → Prop} (h0 : ∀ k : α → β → Int → Prop, k a1 b1 1 → B a0 b0 0 k) (h1 : ∀ k : α → β → Int → Prop, k a2 b2 2 → B a1 b1 1 k)
    (h2 : ∀ k : α → β → Int → Prop, B a2 b2 2 k) : Loop3 a0 b0 (0 : Int) B := by
  refine ⟨fun a b i => (i = 0 ∧ a = a0 ∧ b = b0) ∨ (i = 1 ∧ a = a1 ∧ b = b1) ∨ (i = 2 ∧ a = a2 ∧ b = b2), fun _ _ i => (2 - i).toNat, .inl ⟨rfl, rfl, rfl⟩, ?_⟩
  rintro a b i (⟨rfl, rfl, rfl⟩ | ⟨rfl, rfl, rfl⟩ | ⟨rfl, rfl, rfl⟩)
  · exact h0 _ ⟨.inr (.inl ⟨rfl, rfl, rfl⟩), by show (2 - (1 : Int)).toNat < (2 - (0 : Int)).toNat; decide⟩
  · exact h1 _ ⟨.inr (.inr ⟨rfl, rfl, rfl⟩), by show (2 - (2 : Int)).toNat < (2 - (1 : Int)).toNat; decide⟩
  · exact h2 _

/-- A word that is a number, not -0. -/
structure NumB (b : Nat) : Prop where
  l : b < 18446744073709551616
  n : isN b
  z : b ≠ 9223372036854775808

theorem NumB.min {a b : Nat} (ha : NumB a) (hb : NumB b) : NumB (fminB a b) ∧ fI (fminB a b) = min (fI a) (fI b) := by
  rw [fmin_eq ha.l hb.l ha.n hb.n ha.z hb.z]
  split
  · exact ⟨ha, by omega⟩
  · exact ⟨hb, by omega⟩
theorem NumB.max {a b : Nat} (ha : NumB a) (hb : NumB b) : NumB (fmaxB a b) ∧ fI (fmaxB a b) = max (fI a) (fI b) := by
  rw [fmax_eq ha.l hb.l ha.n hb.n ha.z hb.z]
  split
  · exact ⟨hb, by omega⟩
  · exact ⟨ha, by omega⟩

theorem mulB_rd (a b : Nat) (dir : Int) : mulB a b dir = rd (fV (fI a) * fV (fI b)) (2 ^ 1074) dir := rfl
theorem addB_rd (a b : Nat) (dir : Int) : addB a b dir = rd (fV (fI a) + fV (fI b)) 1 dir := rfl
theorem rd_num (P : Int) (Q : Nat) (dir : Int) : NumB (rd P Q dir) := ⟨(rd_ok P Q dir).1, (rd_ok P Q dir).2.2, (rd_ok P Q dir).2.1⟩

/-- The product's ends are the least and the greatest of the four corners', rounded outwards. -/
theorem imul_ev {x y : GIval} (hx : FinI x) (hy : FinI y) (M : Int) (hM : M ≤ 9218868437227405311) (hb : ∀ a, a = x.Lo ∨ a = x.Hi → ∀ b, b = y.Lo ∨ b = y.Hi → -M ≤ fI (mulB a b (-1)) ∧ fI (mulB a b (-1)) ≤ fI (mulB a b 1) ∧ fI (mulB a b 1) ≤ M) :
    ∃ z : GIval, Ev_ival_Mul x y z ∧ FinI z ∧ fI z.Lo = min (min (min (fI (mulB x.Lo y.Lo (-1))) (fI (mulB x.Lo y.Hi (-1)))) (fI (mulB x.Hi y.Lo (-1)))) (fI (mulB x.Hi y.Hi (-1))) ∧
      fI z.Hi = max (max (max (fI (mulB x.Lo y.Lo 1)) (fI (mulB x.Lo y.Hi 1))) (fI (mulB x.Hi y.Lo 1))) (fI (mulB x.Hi y.Hi 1)) := by
  have nm : ∀ a b d, NumB (mulB a b d) := fun a b d => rd_num _ _ _
  have hi0 : NumB 9218868437227405312 := ⟨by decide, isN_inf.1, by decide⟩
  have hi1 : NumB 18442240474082181120 := ⟨by decide, isN_inf.2, by decide⟩
  have mk : ∀ {lo : Nat} (d : Nat), NumB lo → NumB d → ∃ l, fminB lo d = l ∧ NumB l ∧ fI l = min (fI lo) (fI d) := fun d h1 h2 => ⟨_, rfl, (h1.min h2).1, (h1.min h2).2⟩
  have mx : ∀ {lo : Nat} (d : Nat), NumB lo → NumB d → ∃ l, fmaxB lo d = l ∧ NumB l ∧ fI l = max (fI lo) (fI d) := fun d h1 h2 => ⟨_, rfl, (h1.max h2).1, (h1.max h2).2⟩
  obtain ⟨l1, c1, n1, v1⟩ := mk _ hi0 (nm x.Lo y.Lo (-1))
  obtain ⟨l2, c2, n2, v2⟩ := mk _ n1 (nm x.Lo y.Hi (-1))
  obtain ⟨l3, c3, n3, v3⟩ := mk _ n2 (nm x.Hi y.Lo (-1))
  obtain ⟨l4, c4, n4, v4⟩ := mk _ n3 (nm x.Hi y.Hi (-1))
  obtain ⟨u1, d1, m1, w1⟩ := mx _ hi1 (nm x.Lo y.Lo 1)
  obtain ⟨u2, d2, m2, w2⟩ := mx _ m1 (nm x.Lo y.Hi 1)
  obtain ⟨u3, d3, m3, w3⟩ := mx _ m2 (nm x.Hi y.Lo 1)
  obtain ⟨u4, d4, m4, w4⟩ := mx _ m3 (nm x.Hi y.Hi 1)
  have b1 := hb x.Lo (.inl rfl) y.Lo (.inl rfl)
  have b2 := hb x.Lo (.inl rfl) y.Hi (.inr rfl)
  have b3 := hb x.Hi (.inr rfl) y.Lo (.inl rfl)
  have b4 := hb x.Hi (.inr rfl) y.Hi (.inr rfl)
  rw [v3, v2, v1, fI_inf.1] at v4
  rw [w3, w2, w1, fI_inf.2] at w4
  have r1 : fI l4 = min (min (min (fI (mulB x.Lo y.Lo (-1))) (fI (mulB x.Lo y.Hi (-1)))) (fI (mulB x.Hi y.Lo (-1)))) (fI (mulB x.Hi y.Hi (-1))) := by
    clear v1 v2 v3 w1 w2 w3 w4; omega
  have r2 : fI u4 = max (max (max (fI (mulB x.Lo y.Lo 1)) (fI (mulB x.Lo y.Hi 1))) (fI (mulB x.Hi y.Lo 1))) (fI (mulB x.Hi y.Hi 1)) := by
    clear v1 v2 v3 v4 w1 w2 w3; omega
  have f1 : isF l4 := by unfold isF; rw [r1]; omega
  have f2 : isF u4 := by unfold isF; rw [r2]; omega
  have f3 : fI l4 ≤ fI u4 := by rw [r1, r2]; omega
  clear v1 v2 v3 v4 w1 w2 w3 w4 b1 b2 b3 b4
  have fz : FinI ⟨l4, u4⟩ := { l := n4.l, h := m4.l, fl := f1, fh := f2, zl := n4.z, zh := m4.z, le := f3 }
  refine ⟨⟨l4, u4⟩, ?_, fz, r1, r2⟩
  refine walk_ival_Mul ?_
  unfold W_ival_Mul
  refine Call.mk (none_ev (l := [x, y]) (fun z hz => by simp at hz; rcases hz with rfl | rfl <;> assumption) (by simp)) (Br.f rfl (Call.mk (walk_ival_corners ?_) rfl))
  unfold W_ival_corners
  refine Call.mk inf1_ev (Call.mk infm_ev ?_)
  -- one corner
  have step : ∀ (a b lo hi : Nat) (i : Int), isF a → isF b → a < 18446744073709551616 → b < 18446744073709551616 → NumB lo → NumB hi → -1 ≤ i → i ≤ 5 → ∀ k : Nat → Nat → Int → Prop, k (fminB lo (mulB a b (-1))) (fmaxB hi (mulB a b 1)) (i + 1) →
      Call (fun x540 : Nat => FVal prog Fn_ulp_Mul [.v (.float .f64 a), .v (.float .f64 b), .v (.int .i64 (-1 : Int))] (.v (.float .f64 x540))) fun x540 =>
      Call (fun x542 : Nat => FVal prog Fn_ulp_Mul [.v (.float .f64 a), .v (.float .f64 b), .v (.int .i64 (1 : Int))] (.v (.float .f64 x542))) fun x542 =>
      Call (Ev_math_IsNaN x540) fun x544 =>
      Br (!x544) (
        FMn lo x540 fun x546 =>
        FMx hi x542 fun x547 =>
        Let (IntKind.i64.wrap (i + (1 : Int))) fun x548 =>
        k x546 x547 x548) (
        Let (IntKind.i64.wrap (i + (1 : Int))) fun x549 =>
        k lo hi x549) := by
    intro a b lo hi i fa fb ha hb nlo nhi i1 i2 k hk
    have q1 := nm a b (-1)
    have q2 := nm a b 1
    refine Call.mk (call_ulp_Mul (mul_ev _ ha hb fa fb)) (Call.mk (call_ulp_Mul (mul_ev _ ha hb fa fb)) (Call.mk (isNaN_ev q1.l) (Br.t (by simp [q1.n]) ⟨order_ne nlo.l q1.l nlo.n q1.n, Let.as _ rfl ⟨order_ne nhi.l q2.l nhi.n q2.n, Let.as _ rfl (Let.as (i + 1) (wi (by omega) (by omega)) hk)⟩⟩)))
  have at0 : ∀ (u w : Nat) (K : Nat → Prop), K u → At [u, w] (0 : Int) K := fun u w K h => At.nat (i := 0) (by simp) fun z hz => by simp at hz; subst hz; exact h
  have at1 : ∀ (u w : Nat) (K : Nat → Prop), K w → At [u, w] (1 : Int) K := fun u w K h => At.nat (i := 1) (by simp) fun z hz => by simp at hz; subst hz; exact h
  refine Loop3.two (a1 := l2) (b1 := u2) (a2 := l4) (b2 := u4) (fun k hk => ?_) (fun k hk => ?_) (fun k => ?_)
  · refine Br.dT (by simp) (at0 _ _ _ ?_)
    refine Loop3.two (a1 := l1) (b1 := u1) (a2 := l2) (b2 := u2) (fun k2 hk2 => Br.dT (by simp) (at0 _ _ _ (step _ _ _ _ _ hx.fl hy.fl hx.l hy.l hi0 hi1 (by omega) (by omega) k2 (by rw [c1, d1]; exact hk2)))) (fun k2 hk2 => Br.dT (by simp) (at1 _ _ _ (step _ _ _ _ _ hx.fl hy.fh hx.l hy.h n1 m1 (by omega) (by omega) k2 (by rw [c2, d2]; exact hk2)))) (fun k2 => Br.dF (by simp) (Let.as 1 (wi (by omega) (by omega)) hk))
  · refine Br.dT (by simp) (at1 _ _ _ ?_)
    refine Loop3.two (a1 := l3) (b1 := u3) (a2 := l4) (b2 := u4) (fun k2 hk2 => Br.dT (by simp) (at0 _ _ _ (step _ _ _ _ _ hx.fh hy.fl hx.h hy.l n2 m2 (by omega) (by omega) k2 (by rw [c3, d3]; exact hk2)))) (fun k2 hk2 => Br.dT (by simp) (at1 _ _ _ (step _ _ _ _ _ hx.fh hy.fh hx.h hy.h n3 m3 (by omega) (by omega) k2 (by rw [c4, d4]; exact hk2)))) (fun k2 => Br.dF (by simp) (Let.as 2 (wi (by omega) (by omega)) hk))
  · exact Br.dF (by simp) (Call.mk (ends_ev fz) rfl)

end Go.Sim.Ytlglkgineclggaa
