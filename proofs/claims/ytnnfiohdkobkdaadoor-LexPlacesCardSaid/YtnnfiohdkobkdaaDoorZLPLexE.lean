/- What is proved: the statement LexPlaces, given what the lexer's callees yield. -/
import Derived.Test.YtnnfiohdkobkdaaDoorZLPLexD
import Derived.Test.YtnnfiohdkobkdaaDoorZLPWLw
namespace Go.Sim.YtnnfiohdkobkdaaDoor
open Go.RowKit Go.Proofs Go.Proofs.Tryd
theorem At.is {α : Type} {xs : List α} {i : Nat} {k : α → Prop} {x : α} (hx : xs[i]? = some x) (hk : k x) : At xs (i : Int) k := ⟨by omega, x, by rw [Int.toNat_natCast]; exact hx, hk⟩
theorem like_ev {a b : List GToken} (h : Alike a b) (hl : a.length ≤ 9000000) : Ev_ref12_Like a b false true := by
  refine walk_ref12_Like ?_
  unfold W_ref12_Like
  have hlen := h.1
  refine Br.f (by rw [hlen]; simp) (Loop1.up a.length (fun _ => True) trivial ?_)
  intro i k hi _ hk
  refine Br.d (fun hlt => ?_) (fun _ => rfl)
  have hi1 : i < a.length := by omega
  have hx : a[i]? = some a[i] := List.getElem?_eq_getElem hi1
  have hy : b[i]? = some (b[i]'(by omega)) := List.getElem?_eq_getElem (by omega)
  obtain ⟨h1, h2, h3⟩ := h.2 i _ _ hx hy
  have hnum : (!GRat.beq a[i].Num (b[i]'(by omega)).Num) = false := by rw [(GRat.beq_iff _ _).2 h3]; rfl
  refine At.is hx (At.is hy (Br.f (by rw [h1]; simp) (At.is hx (At.is hy (Br.f (by rw [h2]; simp) (At.is hx (At.is hy (Br.f hnum (Br.f rfl (Let.as _ (wi1 (by omega)) (hk (by omega) trivial)))))))))))
variable {L : LexL}
theorem tl_extract {s : ByteArray} {p : Nat} (h : p ≤ s.size) : tl (s.extract p s.size) 0 = tl s p := by
  have e : s.size = p + (s.size - p) := by omega
  rw [show s.extract p s.size = s.extract p (p + (s.size - p)) by rw [← e], extract_tl]
  unfold tl bs
  rw [List.drop_zero]
  show ((List.drop p s.data.toList).take (s.size - p)) = _
  rw [List.take_of_length_le]
  rw [List.length_drop]; exact Nat.le_refl _
theorem lexPlaces_of (hL : L.Ok) (s : ByteArray) : Ev_law12_LexPlaces s true := by
  refine walk_law12_LexPlaces ?_
  unfold W_law12_LexPlaces
  have h0 := tl_len s 0
  obtain ⟨T, hT⟩ : ∃ T, T = tl s 0 := ⟨_, rfl⟩
  rw [← hT] at h0
  have hev := lex_ev hL s
  rw [← hT] at hev
  refine Call.mk hev ?_
  by_cases hz : (lexS L T).2.1 = 0
  rotate_left
  · refine Br.t (by simpa using hz) ?_
    have : (lexS L T).1 = [] := by
      unfold lexS at hz ⊢
      split
      · rfl
      · rename_i h; rw [if_neg h] at hz; exact lexL_bad0 hz
    rw [this]; rfl
  refine Br.f (by simp [hz]) ?_
  have hsz : ¬ 20000 < T.length := fun h => by unfold lexS at hz; rw [if_pos h] at hz; simp at hz
  have eS : lexS L T = lexL L (T.drop (skip T)) (skip T) 0 := by unfold lexS; rw [if_neg hsz]
  rw [eS] at hz ⊢
  have hsk := skip_le T
  have hss := skip_skip T
  obtain ⟨q, hq⟩ : ∃ q, q = skip T := ⟨_, rfl⟩
  rw [← hq] at hz hsk hss ⊢
  have hln := lexL_len (L := L) (l := T.drop q) (p := q) (n := 0) (by decide)
  have hat := fun i t h => lexL_at (L := L) hz hss i t h
  obtain ⟨a, ea⟩ : ∃ a, a = (lexL L (T.drop q) q 0).1 := ⟨_, rfl⟩
  rw [← ea] at hln hat ⊢
  have hne : 0 < a.length := by
    obtain ⟨t, ts, e, _⟩ := lexL_head hz
    rw [ea, e]; simp
  -- what is known of one token
  have tok1 : ∀ (i : Nat) (t : GToken), a[i]? = some t → ∃ P : Nat, t.At = (P : Int) ∧ P ≤ s.size ∧ (lexL L (tl s P) P i).2.1 = 0 ∧ (lexL L (tl s P) P i).1 = a.drop i ∧ skip (tl s P) = 0 := by
    intro i t ht
    obtain ⟨d, d1, d2, d3, d4, d5⟩ := hat i t ht
    rw [List.length_drop] at d2
    rw [List.drop_drop, Nat.zero_add, hT, tl_drop, Nat.zero_add] at d3 d4
    rw [List.drop_drop, hT, tl_drop, Nat.zero_add] at d5
    exact ⟨q + d, d1, by omega, d3, d4, d5⟩
  have order : ∀ (i : Nat) (t u : GToken), a[i]? = some t → a[i + 1]? = some u → t.At < u.At := by
    intro i t u ht hu
    obtain ⟨P, _, _, p3, p4, _⟩ := tok1 i t ht
    have h1 := (List.getElem?_eq_some_iff.1 ht).1
    have h2 := (List.getElem?_eq_some_iff.1 hu).1
    have e : a.drop i = t :: u :: a.drop (i + 2) := by
      rw [List.drop_eq_getElem_cons h1, List.drop_eq_getElem_cons h2]
      rw [(List.getElem?_eq_some_iff.1 ht).2, (List.getElem?_eq_some_iff.1 hu).2]
    rw [e] at p4
    exact lexL_next p3 p4
  refine Loop1.up a.length (fun _ => True) trivial ?_
  intro i k hi _ hk
  refine Br.d (fun hlt => ?_) (fun hge => ?_)
  · have hi1 : i < a.length := by omega
    have hx : a[i]? = some a[i] := List.getElem?_eq_getElem hi1
    obtain ⟨P, p1, p2, p3, p4, p5⟩ := tok1 i _ hx
    refine At.is hx ⟨fun x => x = false, ?_, ?_⟩
    · refine Br.f (decide_eq_false (by omega)) (Br.f (decide_eq_false (by omega)) (Br.d (fun hp => ?_) (fun _ => rfl)))
      obtain ⟨j, rfl⟩ : ∃ j, i = j + 1 := ⟨i - 1, by omega⟩
      have hy : a[j]? = some (a[j]'(by omega)) := List.getElem?_eq_getElem (by omega)
      refine Let.as ((j : Nat) : Int) (by rw [wi (by omega) (by omega)]; omega) (At.is hy ?_)
      have := order j _ _ hy hx
      show decide _ = false
      exact decide_eq_false (by omega)
    rintro _ rfl
    refine Br.f rfl ⟨fun _ => True, ?_, ?_⟩
    · exact Br.d (fun _ => Let.it trivial) (fun _ => trivial)
    · intro b _
      cases b with
      | true => exact Br.t rfl (Let.as _ (wi1 (by omega)) (hk (by omega) trivial))
      | false =>
        refine Br.f rfl ?_
        rw [p1]
        refine ⟨by omega, by omega, Int.le_refl _, Let.as (s.extract P s.size) (by rw [Int.toNat_natCast, Int.toNat_natCast]) ?_⟩
        have hev2 := lex_ev hL (s.extract P s.size)
        rw [tl_extract p2] at hev2
        have hl2 := tl_len s P
        have e2 : lexS L (tl s P) = lexL L (tl s P) 0 0 := by
          unfold lexS
          rw [if_neg (by omega), p5, List.drop_zero]
        rw [e2] at hev2
        obtain ⟨g1, g2⟩ := lexL_shift (L := L) (p' := 0) (n' := 0) p3 (Nat.zero_le _)
        rw [p4] at g2
        obtain ⟨t0, ts0, e3, e4⟩ := lexL_head g1
        refine Call.mk hev2 (Br.f (by simp [g1]) ?_)
        refine ⟨by omega, by omega, Int.le_refl _, Let.as (a.drop i) (by rw [Int.toNat_natCast, Int.toNat_natCast]; exact List.take_of_length_le (by rw [List.length_drop]; exact Nat.le_refl _)) ?_⟩
        refine Call.mk (like_ev g2 (by rw [List.length_drop]; omega)) (Br.f rfl ?_)
        rw [e3]
        refine At.is (i := 0) rfl (Br.f ?_ (Let.as _ (wi1 (by omega)) (hk (by omega) trivial)))
        show (t0.At != 0) = false
        rw [e4]; rfl
  · refine Br.t (decide_eq_true (by omega)) (Let.as ((a.length - 1 : Nat) : Int) (by rw [wi (by omega) (by omega)]; omega) ?_)
    have hi1 : a.length - 1 < a.length := by omega
    have hx : a[a.length - 1]? = some a[a.length - 1] := List.getElem?_eq_getElem hi1
    obtain ⟨P, p1, p2, p3, p4, p5⟩ := tok1 _ _ hx
    rw [List.drop_eq_getElem_cons hi1, List.drop_of_length_le (by omega)] at p4
    obtain ⟨r1, r2⟩ := lexL_last p3 p4
    refine At.is hx ?_
    have hP : P = s.size := by
      have := tl_len s P
      rw [r1] at this; simp at this; omega
    show GToken.beq _ _ = true
    rw [r2, hP]
    exact (GToken.beq_iff _ _).2 rfl
end Go.Sim.YtnnfiohdkobkdaaDoor
