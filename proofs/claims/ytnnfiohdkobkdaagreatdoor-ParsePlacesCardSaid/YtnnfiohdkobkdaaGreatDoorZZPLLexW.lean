/- What is proved: a text that is cut off ahead of a token yields the tokens ahead of it. -/
import Derived.Test.YtnnfiohdkobkdaaGreatDoorZZPLLexD

namespace Go.Sim.YtnnfiohdkobkdaaGreatDoor
open Go.RowKit Go.Proofs Go.Proofs.Tryz
theorem span_takeW {f : Int → Bool} : ∀ {k : Nat} {l : List UInt8}, span f l ≤ k → span f (l.take k) = span f l
  | 0, l, h => by rw [List.take_zero]; exact (Nat.le_zero.1 h).symm
  | k + 1, [], _ => rfl
  | k + 1, b :: l, h => by
    rw [List.take_succ_cons]
    by_cases hb : f (b.toNat : Int) = true
    · rw [span, if_pos hb] at h
      rw [span, if_pos hb, span, if_pos hb, span_takeW (by omega)]
    · rw [span, if_neg hb, span, if_neg hb]
theorem peek_past {l : List UInt8} {k i : Nat} (h : k ≤ i) : peek (l.take k) i = 0 := by
  unfold peek
  rw [List.getElem?_take_eq_none h]
theorem no_digit0 {x : Int} (h : x = 0) : digitB x = false := by subst h; decide
theorem no_exp0 {x : Int} (h : x = 0) : ¬ bits .or .u8 x 32 = 101 := by subst h; decide +kernel
theorem numLen_take {k : Nat} {l v : List UInt8} (hv : v = l.take k) (_ : k ≤ l.length) (hn : numLen l ≤ k) : numLen v = numLen l := by
  have h : v.take k = l.take k := by rw [hv, List.take_take, Nat.min_self]
  have hpk : peek v k = 0 := by rw [hv]; exact peek_past (Nat.le_refl _)
  have pk : ∀ i, i < k → peek v i = peek l i := fun i hi => cut_peek h hi
  have spd : ∀ i, i ≤ k → span digitB (l.drop i) ≤ k - i → span digitB (v.drop i) = span digitB (l.drop i) := fun i hi hs => by
    rw [hv, List.drop_take]; exact span_takeW hs
  have b0 := span_le digitB l
  have b1 := fracEnd_le b0
  have b2 := expEnd_le b1.2
  have e0 : span digitB v = span digitB l := by
    have := spd 0 (Nat.zero_le _) (by rw [List.drop_zero]; unfold numLen at hn; omega)
    simpa using this
  unfold numLen at hn ⊢
  rw [e0]
  obtain ⟨a, ha⟩ : ∃ a, a = span digitB l := ⟨_, rfl⟩
  rw [← ha] at b0 b1 b2 hn ⊢
  have e1 : fracEnd v a = fracEnd l a := by
    by_cases c0 : peek l a = 46 ∧ digitB (peek l (a + 1)) = true
    · have hf : fracEnd l a = a + 1 + span digitB (l.drop (a + 1)) := by unfold fracEnd; rw [if_pos c0]
      have hpos : 1 ≤ span digitB (l.drop (a + 1)) := span_pos (fun hnil => by
        have := peek_len (digit0 c0.2)
        have h3 := congrArg List.length hnil
        rw [List.length_drop] at h3; simp at h3; omega) (by rw [peek_drop, Nat.add_zero]; exact c0.2)
      unfold fracEnd
      rw [if_pos c0, if_pos (by rw [pk a (by omega), pk (a + 1) (by omega)]; exact c0), spd (a + 1) (by omega) (by omega)]
    · have c1 : ¬ (peek v a = 46 ∧ digitB (peek v (a + 1)) = true) := by
        rintro ⟨g1, g2⟩
        by_cases hk : a = k
        · rw [hk] at g1; omega
        by_cases hk2 : a + 1 = k
        · rw [hk2, no_digit0 hpk] at g2; cases g2
        · rw [pk a (by omega)] at g1
          rw [pk (a + 1) (by omega)] at g2
          exact c0 ⟨g1, g2⟩
      unfold fracEnd
      rw [if_neg c0, if_neg c1]
  rw [e1]
  obtain ⟨b, hb⟩ : ∃ b, b = fracEnd l a := ⟨_, rfl⟩
  rw [← hb] at b1 b2 hn ⊢
  by_cases c0 : bits .or .u8 (peek l b) 32 = 101 ∧ digitB (peek l (b + expSkip l b)) = true
  · have hf : expEnd l b = b + expSkip l b + span digitB (l.drop (b + expSkip l b)) := by unfold expEnd; rw [if_pos c0]
    have hpos : 1 ≤ span digitB (l.drop (b + expSkip l b)) := span_pos (fun hnil => by
      have := peek_len (digit0 c0.2)
      have h3 := congrArg List.length hnil
      rw [List.length_drop] at h3; simp at h3; omega) (by rw [peek_drop, Nat.add_zero]; exact c0.2)
    have hsk : 1 ≤ expSkip l b := by unfold expSkip; split <;> omega
    have esk : expSkip v b = expSkip l b := by unfold expSkip; rw [pk (b + 1) (by omega)]
    unfold expEnd
    rw [esk, if_pos c0, if_pos (by rw [pk b (by omega), pk (b + expSkip l b) (by omega)]; exact c0), spd _ (by omega) (by omega)]
  · have c1 : ¬ (bits .or .u8 (peek v b) 32 = 101 ∧ digitB (peek v (b + expSkip v b)) = true) := by
      rintro ⟨g1, g2⟩
      have hbk : b < k := by
        by_cases hk : b = k
        · rw [hk] at g1; exact absurd g1 (no_exp0 hpk)
        · omega
      by_cases hk1 : b + 1 = k
      · have : expSkip v b = 1 := by unfold expSkip; rw [hk1, if_neg (by omega)]
        rw [this, hk1, no_digit0 hpk] at g2; cases g2
      · have esk : expSkip v b = expSkip l b := by unfold expSkip; rw [pk (b + 1) (by omega)]
        have hsk2 : expSkip l b ≤ 2 := by unfold expSkip; split <;> omega
        rw [esk] at g2
        by_cases hk2 : b + expSkip l b = k
        · rw [hk2, no_digit0 hpk] at g2; cases g2
        · rw [pk b hbk] at g1
          rw [pk (b + expSkip l b) (by omega)] at g2
          exact c0 ⟨g1, g2⟩
    unfold expEnd
    rw [if_neg c0, if_neg c1]
variable {L : LexL}
theorem tok_take {l v : List UInt8} {k p : Nat} (hv : v = l.take k) (h1 : k ≤ l.length) (hl : l ≠ []) (hok : (tok L l p).1.2 = 0) (hk : (tok L l p).2 ≤ k) : tok L v p = tok L l p := by
  have h2 : v.take k = l.take k := by rw [hv, List.take_take, Nat.min_self]
  have hpk : peek v k = 0 := by rw [hv]; exact peek_past (Nat.le_refl _)
  have hpos := (tok_len (L := L) (p := p) hl).2 hok
  have p0 : peek v 0 = peek l 0 := cut_peek h2 (by omega)
  have tk : ∀ n, n ≤ k → v.take n = l.take n := fun n hn => by
    have := congrArg (List.take n) h2
    rwa [List.take_take, List.take_take, Nat.min_eq_left hn] at this
  unfold tok at hok hk hpos ⊢
  rw [p0]
  by_cases c0 : letterB (peek l 0) = true
  · rw [if_pos c0] at hok hk ⊢
    rw [if_pos c0]
    have hs : span nameB l ≤ k := by
      by_cases c1 : 24 < span nameB l
      · rw [if_pos c1] at hok; simp at hok
      · rw [if_neg c1] at hk; exact hk
    have es : span nameB v = span nameB l := by rw [hv]; exact span_takeW hs
    rw [es, tk _ hs]
  · rw [if_neg c0] at hok hk hpos ⊢
    rw [if_neg c0]
    by_cases c1 : digitB (peek l 0) = true
    · rw [if_pos c1] at hok hk ⊢
      rw [if_pos c1]
      rw [numLen_take hv h1 hk, tk _ hk]
    · rw [if_neg c1] at hok hk hpos ⊢
      rw [if_neg c1]
      by_cases c2 : L.ix (peek l 0) < 0
      · rw [if_pos c2, if_pos c2]
      · rw [if_neg c2] at hok hk hpos ⊢
        rw [if_neg c2]
        by_cases c3 : peek l 0 = 46 ∧ peek l 1 = 46
        · rw [if_pos c3] at hk ⊢
          rw [if_pos (by rw [cut_peek h2 (show 1 < k by omega)]; exact c3), tk 2 hk]
        · rw [if_neg c3] at hk ⊢
          rw [if_neg (by
            rintro ⟨g1, g2⟩
            by_cases hk1 : 1 < k
            · rw [cut_peek h2 hk1] at g2; exact c3 ⟨g1, g2⟩
            · have : k = 1 := by omega
              rw [this] at hpk; omega), tk 1 hk]
theorem comment_take {l : List UInt8} {k : Nat} (h : comment (l.take k)) : comment l := by
  unfold comment at h ⊢
  have key : ∀ i, peek (l.take k) i = 47 → peek l i = 47 := fun i hi => by
    by_cases hk : k ≤ i
    · rw [peek_past hk] at hi; omega
    · rw [cut_peek (l := l) (v := l.take k) (k := k) (by rw [List.take_take, Nat.min_self]) (by omega)] at hi; exact hi
  exact ⟨key 0 h.1, key 1 h.2⟩
theorem skip_take0 {l : List UInt8} (h : skip l = 0) (k : Nat) : skip (l.take k) = 0 := by
  obtain ⟨h1, h2⟩ := skip_head h
  refine skip_zero ?_ fun hc => h2 (comment_take hc)
  rw [span_takeW (by omega), h1]
/-- The gap ahead of what is left. -/
theorem skip_gapW {x : List UInt8} (hx : x.drop (skip x) ≠ []) (d : Nat) : skip (x.take (skip x + d)) = skip x := by
  have hle := skip_le x
  have hl : (x.take (skip x)).length = skip x := by rw [List.length_take]; omega
  have hc : Closed (x.take (skip x)) := closed_of (x := x.drop (skip x)) (by rw [List.take_append_drop, hl]) hx
  have h1 := hc ((x.drop (skip x)).take d)
  rw [hl, skip_take0 (skip_skip x) d, Nat.add_zero] at h1
  rw [List.take_add]
  exact h1
theorem lexL_take : ∀ (i : Nat) {l : List UInt8} {p n : Nat} (_ : (lexL L l p n).2.1 = 0) (_ : skip l = 0) {t : GToken} (_ : (lexL L l p n).1[i + 1]? = some t) {d : Nat} (_ : t.At = ((p + d : Nat) : Int)),
    lexL L (l.take d) p n = ((lexL L l p n).1.take (i + 1) ++ [{ GToken.zero with At := ((p + d : Nat) : Int) }], 0, 0) := by
  intro i
  induction i with
  | zero =>
    intro l p n h hs t ht d hd
    rcases lexL_cases h with ⟨h0, e⟩ | ⟨h0, h1, h2, h3, e⟩
    · rw [e] at ht; simp at ht
    · obtain ⟨m1, m2, m3⟩ := more_pos (L := L) h0 h2
      obtain ⟨u, us, e1, e2⟩ := lexL_head h3
      have hd2 : d = more L l p := by
        rw [e, e1] at ht
        simp at ht
        rw [← ht, e2] at hd
        omega
      subst hd2
      have hk : (tok L l p).2 ≤ more L l p := by unfold more; omega
      have ht2 := tok_take (L := L) (p := p) (v := l.take (more L l p)) rfl m2 h0 h2 hk
      have hm : more L (l.take (more L l p)) p = more L l p := by
        have e3 : (l.take (more L l p)).drop (tok L l p).2 = (l.drop (tok L l p).2).take (skip (l.drop (tok L l p).2)) := by
          rw [List.drop_take]; congr 1; unfold more; omega
        have e4 : skip ((l.drop (tok L l p).2).take (skip (l.drop (tok L l p).2))) = skip (l.drop (tok L l p).2) := by
          by_cases hn : (l.drop (tok L l p).2).drop (skip (l.drop (tok L l p).2)) = []
          · rw [List.take_of_length_le (List.drop_eq_nil_iff.1 hn)]
          · have := skip_gapW hn 0
            rwa [Nat.add_zero] at this
        show (tok L (l.take (more L l p)) p).2 + skip ((l.take (more L l p)).drop (tok L (l.take (more L l p)) p).2) = (tok L l p).2 + skip (l.drop (tok L l p).2)
        rw [ht2, e3, e4]
      have hne : l.take (more L l p) ≠ [] := fun hn => by
        have := congrArg List.length hn
        rw [List.length_take, List.length_nil] at this
        omega
      have hmore := lexL_more (L := L) (p := p) (n := n) hne h1 (by rw [ht2]; exact h2)
      have hdr : (l.take (more L l p)).drop (more L l p) = [] := by rw [List.drop_eq_nil_iff, List.length_take]; omega
      rw [hm, hdr, lexL_nil rfl, if_pos rfl, ht2] at hmore
      rw [hmore, e]; rfl
  | succ i ih =>
    intro l p n h hs t ht d hd
    rcases lexL_cases h with ⟨h0, e⟩ | ⟨h0, h1, h2, h3, e⟩
    · rw [e] at ht; simp at ht
    · obtain ⟨m1, m2, m3⟩ := more_pos (L := L) h0 h2
      have ht' : (lexL L (l.drop (more L l p)) (p + more L l p) (n + 1)).1[i + 1]? = some t := by rw [e] at ht; simpa using ht
      obtain ⟨d', hd', _⟩ := lexL_at h3 m3 (i + 1) t ht'
      have hdd : d = more L l p + d' := by rw [hd'] at hd; omega
      subst hdd
      have hrec := ih h3 m3 ht' hd'
      have hnn : l.drop (more L l p) ≠ [] := fun hn => by
        rcases lexL_cases h3 with ⟨_, e5⟩ | ⟨h5, _⟩
        · rw [e5] at ht'; simp at ht'
        · exact h5 hn
      have hk : (tok L l p).2 ≤ more L l p := by unfold more; omega
      have hlt : more L l p + d' ≤ l.length := by
        obtain ⟨d2, g1, g2, _⟩ := lexL_at h3 m3 (i + 1) t ht'
        rw [List.length_drop] at g2
        rw [hd'] at g1
        omega
      have ht2 := tok_take (L := L) (p := p) (v := l.take (more L l p + d')) rfl hlt h0 h2 (by omega)
      have hm : more L (l.take (more L l p + d')) p = more L l p := by
        have e3 : (l.take (more L l p + d')).drop (tok L l p).2 = (l.drop (tok L l p).2).take (skip (l.drop (tok L l p).2) + d') := by
          rw [List.drop_take]; congr 1; unfold more; omega
        have e4 : (l.drop (tok L l p).2).drop (skip (l.drop (tok L l p).2)) = l.drop (more L l p) := by rw [List.drop_drop]; rfl
        show (tok L (l.take (more L l p + d')) p).2 + skip ((l.take (more L l p + d')).drop (tok L (l.take (more L l p + d')) p).2) = (tok L l p).2 + skip (l.drop (tok L l p).2)
        rw [ht2, e3, skip_gapW (by rw [e4]; exact hnn)]
      have hne : l.take (more L l p + d') ≠ [] := fun hn => by
        have := congrArg List.length hn
        rw [List.length_take, List.length_nil] at this
        omega
      have hmore := lexL_more (L := L) (p := p) (n := n) hne h1 (by rw [ht2]; exact h2)
      have hdr : (l.take (more L l p + d')).drop (more L l p) = (l.drop (more L l p)).take d' := by rw [List.drop_take, Nat.add_sub_cancel_left]
      rw [hm, hdr, hrec, if_pos rfl, ht2] at hmore
      rw [hmore, e]
      have e6 : p + more L l p + d' = p + (more L l p + d') := by omega
      simp [e6]
/-- The same of a whole text. -/
theorem lexS_take {l : List UInt8} (h : (lexS L l).2.1 = 0) {i : Nat} {t : GToken} (ht : (lexS L l).1[i + 1]? = some t) : ∃ P : Nat, t.At = (P : Int) ∧ P ≤ l.length ∧ lexS L (l.take P) = ((lexS L l).1.take (i + 1) ++ [{ GToken.zero with At := (P : Int) }], 0, 0) := by
  unfold lexS at h ht ⊢
  split at h
  · simp at h
  · rename_i hl
    rw [if_neg hl] at ht ⊢
    have hs := skip_skip l
    have hle := skip_le l
    obtain ⟨d, g1, g2, _⟩ := lexL_at h hs (i + 1) t ht
    rw [List.length_drop] at g2
    have hne : l.drop (skip l) ≠ [] := fun hn => by
      rcases lexL_cases h with ⟨_, e5⟩ | ⟨h5, _⟩
      · rw [e5] at ht; simp at ht
      · exact h5 hn
    refine ⟨skip l + d, g1, by omega, ?_⟩
    rw [if_neg (by rw [List.length_take]; omega), skip_gapW hne d, List.drop_take, Nat.add_sub_cancel_left]
    exact lexL_take i h hs ht g1
end Go.Sim.YtnnfiohdkobkdaaGreatDoor
