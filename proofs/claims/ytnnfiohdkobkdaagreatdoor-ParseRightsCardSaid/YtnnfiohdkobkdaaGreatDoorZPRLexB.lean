/- What is proved: the lexer's tokens, and what Lex yields, as plain functions of the text. -/
import Derived.Test.YtnnfiohdkobkdaaGreatDoorZPRLexA

namespace Go.Sim.YtnnfiohdkobkdaaGreatDoor
open Go.RowKit Go.Proofs Go.Proofs.Tryz
/-- What the lexer's callees yield: numbers read, signs found, the language's words. -/
structure LexL where
  rd : ByteArray → GRat × Int
  ix : Int → Int
  wd : List (ByteArray × Unit)
abbrev signs : ByteArray := ByteArray.mk #[40, 41, 91, 93, 44, 59, 58, 46, 61, 43, 45, 42, 47, 94]
structure LexL.Ok (L : LexL) : Prop where
  rd : ∀ s, s.size ≤ 20000 → Ev_rat_Read s (L.rd s)
  ix : ∀ b : UInt8, Ev_strings_IndexByte signs (b.toNat : Int) (L.ix b.toNat)
  wd : Ev_lex_words L.wd
def bs (l : List UInt8) : ByteArray := ⟨l.toArray⟩
theorem bs_size (l : List UInt8) : (bs l).size = l.length := by show l.toArray.size = _; simp
theorem extract_tl {s : ByteArray} {p n : Nat} : s.extract p (p + n) = bs ((tl s p).take n) := by
  apply ByteArray.ext
  rw [ByteArray.data_extract]
  unfold bs tl
  apply Array.toList_inj.1
  rw [Array.toList_extract, List.extract_eq_take_drop, show p + n - p = n from Nat.add_sub_cancel_left ..]
theorem SlS.tl {s : ByteArray} {p n : Nat} {k : ByteArray → Prop} (h : p + n ≤ s.size) (hk : k (bs ((tl s p).take n))) : SlS s (p : Int) ((p + n : Nat) : Int) k := by
  refine ⟨by omega, by omega, by omega, ?_⟩
  rw [Int.toNat_natCast, Int.toNat_natCast, extract_tl]
  exact Let.as _ rfl hk
theorem peek_lt {s : ByteArray} {p n : Nat} (h : peek (tl s p) n ≠ 0) : p + n < s.size := by
  unfold peek at h
  cases hg : (tl s p)[n]? with
  | none => simp [hg] at h
  | some b =>
    have := (List.getElem?_eq_some_iff.1 hg).1
    rw [tl_len] at this; omega
theorem peek_drop (l : List UInt8) (a n : Nat) : peek (l.drop a) n = peek l (a + n) := by unfold peek; rw [List.getElem?_drop]
theorem peek_len {l : List UInt8} {n : Nat} (h : peek l n ≠ 0) : n < l.length := by
  unfold peek at h
  cases hg : l[n]? with
  | none => simp [hg] at h
  | some b => exact (List.getElem?_eq_some_iff.1 hg).1
/-! ### Numbers -/
/-- Where a number's fraction ends, behind 'a' digits. -/
def fracEnd (l : List UInt8) (a : Nat) : Nat := if peek l a = 46 ∧ digitB (peek l (a + 1)) = true then a + 1 + span digitB (l.drop (a + 1)) else a
def expSkip (l : List UInt8) (b : Nat) : Nat := if peek l (b + 1) = 43 ∨ peek l (b + 1) = 45 then 2 else 1
def expEnd (l : List UInt8) (b : Nat) : Nat :=
  if bits .or .u8 (peek l b) 32 = 101 ∧ digitB (peek l (b + expSkip l b)) = true then b + expSkip l b + span digitB (l.drop (b + expSkip l b)) else b
def numLen (l : List UInt8) : Nat := expEnd l (fracEnd l (span digitB l))
theorem digit0 {c : Int} (h : digitB c = true) : c ≠ 0 := by
  unfold digitB at h; simp only [Bool.and_eq_true, decide_eq_true_eq] at h; omega
theorem fracEnd_le {l : List UInt8} {a : Nat} (h : a ≤ l.length) : a ≤ fracEnd l a ∧ fracEnd l a ≤ l.length := by
  unfold fracEnd
  split
  · rename_i hc
    have h1 := peek_len (digit0 hc.2)
    have h2 := span_le digitB (l.drop (a + 1))
    rw [List.length_drop] at h2
    omega
  · omega
theorem expEnd_le {l : List UInt8} {b : Nat} (h : b ≤ l.length) : b ≤ expEnd l b ∧ expEnd l b ≤ l.length := by
  unfold expEnd
  split
  · rename_i hc
    have h1 := peek_len (digit0 hc.2)
    have h2 := span_le digitB (l.drop (b + expSkip l b))
    rw [List.length_drop] at h2
    omega
  · omega
theorem numLen_le (l : List UInt8) : span digitB l ≤ numLen l ∧ numLen l ≤ l.length := by
  have h1 := fracEnd_le (span_le digitB l)
  have h2 := expEnd_le h1.2
  unfold numLen
  omega
variable {L : LexL}
theorem number_ev (hL : L.Ok) {s : ByteArray} {p : Nat} (hs : s.size ≤ 20000) (hp : p ≤ s.size) :
    Ev_lex_lexer_number (lx s p L.wd) (({ GToken.zero with Kind := 3, Num := (L.rd (bs ((tl s p).take (numLen (tl s p))))).1, At := p }, (L.rd (bs ((tl s p).take (numLen (tl s p))))).2), lx s (p + numLen (tl s p)) L.wd) := by
  have hs9 : s.size ≤ 9000000000 := by omega
  refine walk_lex_lexer_number ?_
  unfold W_lex_lexer_number
  have hdig : ∀ b : UInt8, FVal prog Fn_lex_digit [.v (.int .u8 (b.toNat : Int))] (.v (.bool (digitB b.toNat))) := fun b => call_lex_digit (digit_ev _)
  obtain ⟨l, hl⟩ : ∃ l, l = tl s p := ⟨_, rfl⟩
  have pk : ∀ a n, peek (tl s (p + a)) n = peek l (a + n) := fun a n => by rw [← tl_drop, peek_drop, hl]
  have ln : l.length = s.size - p := by rw [hl, tl_len]
  have ha := span_le digitB l
  obtain ⟨a, ea⟩ : ∃ a, a = span digitB l := ⟨_, rfl⟩
  have hfr := fracEnd_le (l := l) (a := a) (by omega)
  have hex := expEnd_le hfr.2
  have hn : numLen l = expEnd l (fracEnd l a) := by rw [ea]; rfl
  rw [← hl]
  have w1 := lwhile_ev (w := L.wd) hs9 hp hdig
  rw [← hl, ← ea] at w1
  refine Call.mk w1 ⟨fun x => x = decide (peek l a = 46 ∧ digitB (peek l (a + 1)) = true), ?_, ?_⟩
  · have n0 := lnext_ev (w := L.wd) (p := p + a) hs9 (by omega) 0 (by decide)
    have n1 := lnext_ev (w := L.wd) (p := p + a) hs9 (by omega) 1 (by decide)
    rw [pk] at n0 n1
    refine Call.mk n0 (Br.e (fun h => Call.mk n1 (Call.mk (digit_ev _) ?_)) (fun h => ?_))
    · have h' : peek l a = 46 := h
      show digitB (peek l (a + 1)) = _
      cases hd : digitB (peek l (a + 1)) <;> simp [h']
    · have h' : ¬ peek l a = 46 := h
      show false = _
      simp [h']
  rintro _ rfl
  refine ⟨fun x => x = lx s (p + fracEnd l a) L.wd, ?_, ?_⟩
  · refine Br.d (fun h => ?_) (fun h => ?_)
    · have h1 := peek_len (digit0 h.2)
      refine Let.as ((p + a + 1 : Nat) : Int) (wi1 (by omega)) ?_
      have w2 := lwhile_ev (w := L.wd) (p := p + a + 1) hs9 (by omega) hdig
      refine Call.mk w2 ?_
      show lx _ _ _ = _
      unfold fracEnd
      rw [if_pos h, show p + (a + 1 + span digitB (l.drop (a + 1))) = p + a + 1 + span digitB (tl s (p + a + 1)) by rw [hl, tl_drop, Nat.add_assoc p a]; omega]
    · show lx _ _ _ = _
      unfold fracEnd
      rw [if_neg h]
  rintro _ rfl
  obtain ⟨b, eb⟩ : ∃ b, b = fracEnd l a := ⟨_, rfl⟩
  rw [← eb] at hfr hex hn ⊢
  have n0 := lnext_ev (w := L.wd) (p := p + b) hs9 (by omega) 0 (by decide)
  have n1 := lnext_ev (w := L.wd) (p := p + b) hs9 (by omega) 1 (by decide)
  have n2 := lnext_ev (w := L.wd) (p := p + b) hs9 (by omega) 2 (by decide)
  rw [pk] at n0 n1 n2
  refine Call.mk n0 (Let.as _ rfl ⟨fun x => x = lx s (p + expEnd l b) L.wd, ?_, ?_⟩)
  · refine Br.e (fun h => Call.mk n1 ⟨fun x => x = decide (peek l (b + 1) = 43 ∨ peek l (b + 1) = 45), ?_, ?_⟩) (fun h => ?_)
    · refine Br.e (fun h1 => ?_) (fun h1 => ?_)
      · have h1' : peek l (b + 1) = 43 := h1
        show true = _; simp [h1']
      · have h1' : ¬ peek l (b + 1) = 43 := h1
        show (peek l (b + 1) == 45) = _
        by_cases h2 : peek l (b + 1) = 45
        · simp [h2]
        · rw [decide_eq_false (fun h3 => h3.elim h1' h2)]; exact beq_false_of_ne h2
    · rintro _ rfl
      refine ⟨fun x => x = ((expSkip l b : Nat) : Int), ?_, ?_⟩
      · refine Br.d (fun h1 => ?_) (fun h1 => ?_)
        · show (2 : Int) = _; unfold expSkip; rw [if_pos h1]; rfl
        · show (1 : Int) = _; unfold expSkip; rw [if_neg h1]; rfl
      · rintro _ rfl
        have hsk : expSkip l b = 1 ∨ expSkip l b = 2 := by unfold expSkip; split <;> simp
        have n3 : Ev_lex_lexer_next (lx s (p + b) L.wd) ((expSkip l b : Nat) : Int) (peek l (b + expSkip l b)) := by
          rcases hsk with e | e <;> rw [e]
          · exact n1
          · exact n2
        refine Call.mk n3 (Call.mk (digit_ev _) ?_)
        have h' : bits .or .u8 (peek l b) 32 = 101 := h
        cases hd : digitB (peek l (b + expSkip l b)) with
        | true =>
          have h1 := peek_len (digit0 hd)
          refine Br.t rfl (Let.as ((p + b + expSkip l b : Nat) : Int) (by show IntKind.i64.wrap (((p + b : Nat) : Int) + ((expSkip l b : Nat) : Int)) = _; rw [wi (by omega) (by omega)]; omega) ?_)
          have w2 := lwhile_ev (w := L.wd) (p := p + b + expSkip l b) hs9 (by omega) hdig
          refine Call.mk w2 ?_
          show lx _ _ _ = _
          unfold expEnd
          rw [if_pos ⟨h', hd⟩, show p + (b + expSkip l b + span digitB (l.drop (b + expSkip l b))) = p + b + expSkip l b + span digitB (tl s (p + b + expSkip l b)) by rw [hl, tl_drop, Nat.add_assoc p b]; omega]
        | false =>
          refine Br.f rfl ?_
          show lx _ _ _ = _
          unfold expEnd
          rw [if_neg (by simp [hd])]
    · have h' : ¬ bits .or .u8 (peek l b) 32 = 101 := h
      show lx _ _ _ = _
      unfold expEnd
      rw [if_neg (fun hc => h' hc.1)]
  rintro _ rfl
  rw [← hn] at hex ⊢
  show SlS s (p : Int) ((p + numLen l : Nat) : Int) _
  refine SlS.tl (by omega) ?_
  rw [← hl]
  exact Call.mk (hL.rd _ (by rw [bs_size, List.length_take]; omega)) rfl
end Go.Sim.YtnnfiohdkobkdaaGreatDoor
