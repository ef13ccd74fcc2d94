/- What is proved: the statement LexBlanks, given what the lexer's callees yield. -/
import Derived.Test.YtnnfiohdkobkdaaDoorZLBLexO
namespace Go.Sim.YtnnfiohdkobkdaaDoor
open Go.RowKit Go.Proofs Go.Proofs.Tryd
variable {L : LexL}
theorem tl_part {s : ByteArray} {q P : Nat} (h1 : q ≤ P) (h2 : P ≤ s.size) : tl (s.extract q P) 0 = (tl s q).take (P - q) := by
  obtain ⟨n, rfl⟩ : ∃ n, P = q + n := ⟨P - q, by omega⟩
  rw [extract_tl, Nat.add_sub_cancel_left, tl_bs0]
theorem Cat.tl {a b : ByteArray} {k : ByteArray → Prop} (h : a.size + b.size ≤ 9223372036854775807) (hk : ∀ x, tl x 0 = tl a 0 ++ tl b 0 → k x) : Cat a b k :=
  ⟨h, Let.as (a ++ b) rfl (hk _ (tl_append a b))⟩
theorem lexBlanks_of (hL : L.Ok) (s : ByteArray) (m : List Int) : Ev_law12_LexBlanks s m true := by
  refine walk_law12_LexBlanks ?_
  unfold W_law12_LexBlanks
  refine Call.mk alive_ev (Br.f rfl ?_)
  have h0 := tl_len s 0
  refine Call.mk (lex_ev hL s) ?_
  by_cases hz : (lexS L (tl s 0)).2.1 = 0
  rotate_left
  · exact Br.t (by simpa using hz) rfl
  refine Br.f (by simp [hz]) (Br.d (fun _ => rfl) (fun hlen => ?_))
  have hsz : ¬ 20000 < (tl s 0).length := fun h => by unfold lexS at hz; rw [if_pos h] at hz; simp at hz
  have hsz2 : s.size ≤ 20000 := by omega
  have hW := fun hw => whole_ok (L := L) (bl_blank m) (l := tl s 0) (by omega) hz hw
  have eS : lexS L (tl s 0) = lexL L ((tl s 0).drop (skip (tl s 0))) (skip (tl s 0)) 0 := by unfold lexS; rw [if_neg hsz]
  have hsk := skip_le (tl s 0)
  have hss := skip_skip (tl s 0)
  obtain ⟨a, ea⟩ : ∃ a, a = (lexS L (tl s 0)).1 := ⟨_, rfl⟩
  rw [← ea] at hlen hW ⊢
  have hmid0 : Mid L m s a 0 (ByteArray.mk #[]) 0 := by
    rw [eS] at hz ea
    rw [tl_drop, Nat.zero_add] at hz ea hss
    refine ⟨Nat.zero_le _, Nat.zero_le _, .inl ⟨?_, skip (tl s 0), Nat.zero_le _, by omega, hz, by rw [ea]; rfl, hss, ?_⟩⟩
    · obtain ⟨u, us, e1, _⟩ := lexL_head hz
      rw [ea, e1]; simp
    · unfold whole
      rw [tl_drop, Nat.zero_add]; rfl
  refine ⟨fun t q z => ∃ i Q : Nat, z = (i : Int) ∧ q = (Q : Int) ∧ i ≤ a.length ∧ Mid L m s a i t Q, fun _ _ z => a.length - z.toNat, ⟨0, 0, rfl, rfl, Nat.zero_le _, hmid0⟩, ?_⟩
  rintro t _ _ ⟨i, Q, rfl, rfl, hi, hM⟩
  have hsize := hM.2.1
  have hq := hM.1
  have hi3 : i ≤ 300 := by simp at hlen; omega
  refine Br.d (fun hlt => ?_) (fun hge => ?_)
  · have hi1 : i < a.length := by omega
    obtain ⟨P, p1, p2, p3, p4⟩ := hM.next hi1 hsz2
    refine At.is (List.getElem?_eq_getElem hi1) ?_
    rw [p3]
    have hpl : (s.extract Q P).size = P - Q := by
      have := congrArg List.length (tl_part p1 p2)
      rw [tl_len, List.length_take, tl_len] at this; omega
    refine ⟨by omega, by omega, by omega, Let.as (s.extract Q P) (by rw [Int.toNat_natCast, Int.toNat_natCast]) (Cat.tl (by omega) fun t1 ht1 => ?_)⟩
    rw [tl_part p1 p2] at ht1
    have hs1 : t1.size = t.size + (P - Q) := by
      have := congrArg List.length ht1
      rw [tl_len, List.length_append, List.length_take, tl_len, tl_len] at this; omega
    have fin : ∀ t2, tl t2 0 = tl t1 0 ++ bl m i → (∃ i' Q' : Nat, ((i + 1 : Nat) : Int) = (i' : Int) ∧ (P : Int) = (Q' : Int) ∧ i' ≤ a.length ∧ Mid L m s a i' t2 Q') ∧ a.length - (((i + 1 : Nat) : Int)).toNat < a.length - ((i : Int)).toNat := fun t2 h2 =>
      ⟨⟨i + 1, P, rfl, rfl, by omega, p4 t2 (by rw [h2, ht1, List.append_assoc])⟩, by rw [Int.toNat_natCast, Int.toNat_natCast]; omega⟩
    refine Br.d (fun hmi => ?_) (fun hmi => ?_)
    · have hx : m[i]? = some (m[i]'(by omega)) := List.getElem?_eq_getElem (by omega)
      refine At.is hx (Let.as _ rfl ?_)
      have hbl : bl m i = if Int.tmod (m[i]'(by omega)) 4 = 1 then [32, 9, 13, 10] else if Int.tmod (m[i]'(by omega)) 4 = 2 then [32, 47, 47, 32, 109, 111, 100, 101, 108, 32, 40, 32, 49, 101, 10] else if Int.tmod (m[i]'(by omega)) 4 = 3 then [10, 47, 47, 10, 47, 47, 10] else [] := by
        unfold bl; rw [hx]
      refine Br.e (fun h1 => ?_) (fun h1 => Br.e (fun h2 => ?_) (fun h2 => Br.e (fun h3 => ?_) (fun h3 => ?_)))
      · refine Cat.tl (by show _ + 4 ≤ _; omega) fun t2 h2 => Let.as _ (wi1 (by omega)) (fin t2 ?_)
        rw [h2, hbl, if_pos h1]; rfl
      · refine Cat.tl (by show _ + 15 ≤ _; omega) fun t2 h4 => Let.as _ (wi1 (by omega)) (fin t2 ?_)
        rw [h4, hbl, if_neg h1, if_pos h2]; rfl
      · refine Cat.tl (by show _ + 7 ≤ _; omega) fun t2 h4 => Let.as _ (wi1 (by omega)) (fin t2 ?_)
        rw [h4, hbl, if_neg h1, if_neg h2, if_pos h3]; rfl
      · refine Let.as _ (wi1 (by omega)) (fin t1 ?_)
        rw [hbl, if_neg h1, if_neg h2, if_neg h3, List.append_nil]
    · refine Let.as _ (wi1 (by omega)) (fin t1 ?_)
      have : bl m i = [] := by unfold bl; rw [List.getElem?_eq_none (by omega)]
      rw [this, List.append_nil]
  · obtain ⟨_, _, ⟨h3, _⟩ | ⟨_, hw⟩⟩ := hM
    · omega
    have hpl : (s.extract Q s.size).size = s.size - Q := by
      have := congrArg List.length (tl_extract hq)
      rw [tl_len, tl_len] at this; omega
    refine ⟨by omega, by omega, Int.le_refl _, Let.as (s.extract Q s.size) (by rw [Int.toNat_natCast, Int.toNat_natCast]) (Cat.tl (by omega) fun t1 ht1 => ?_)⟩
    rw [tl_extract hq, hw] at ht1
    have hl1 := congrArg List.length ht1
    rw [tl_len] at hl1
    refine Br.d (fun _ => rfl) (fun hbig => ?_)
    have hev := lex_ev hL t1
    rw [ht1] at hev
    obtain ⟨w1, w2⟩ := hW (by omega)
    refine Call.mk hev (Br.t (by simp [w1]) (Call.mk (like_ev w2 (by simp at hlen; omega)) rfl))
end Go.Sim.YtnnfiohdkobkdaaDoor
