/- What is proved: texts as lists of bytes: what stands at places, and how many of the first are so. -/
import Derived.Test.YtnnfiohdkobkdaaGreatDoorZZPLWE
import Derived.Test.YtnnfiohdkobkdaaGreatDoorZZPLPureK
import Derived.Test.YtnnfiohdkobkdaaGreatDoorZZPLWL

namespace Go.Sim.YtnnfiohdkobkdaaGreatDoor
open Go.RowKit Go.Proofs Go.Proofs.Tryz
/-- The text from a place on. -/
def tl (s : ByteArray) (p : Nat) : List UInt8 := s.data.toList.drop p
theorem tl_len (s : ByteArray) (p : Nat) : (tl s p).length = s.size - p := by unfold tl; rw [List.length_drop]; rfl
theorem tl_drop (s : ByteArray) (p n : Nat) : (tl s p).drop n = tl s (p + n) := by unfold tl; rw [List.drop_drop]
theorem tl_get (s : ByteArray) (p n : Nat) : (tl s p)[n]? = s.data.toList[p + n]? := by unfold tl; rw [List.getElem?_drop]
theorem tl_nil {s : ByteArray} {p : Nat} (h : s.size ≤ p) : tl s p = [] := by
  apply List.eq_nil_of_length_eq_zero; rw [tl_len]; omega
theorem tl_cons {s : ByteArray} {p : Nat} (h : p < s.size) : ∃ b, s[p]? = some b ∧ tl s p = b :: tl s (p + 1) := by
  have h' : p < s.data.toList.length := h
  refine ⟨s.data.toList[p], ?_, ?_⟩
  · show (if hh : p < s.size then some s[p] else none) = _
    rw [dif_pos h]; rfl
  · unfold tl; exact List.drop_eq_getElem_cons h'
theorem AtS.nat {s : ByteArray} {p : Nat} {b : UInt8} {k : Int → Prop} (h : s[p]? = some b) (hk : k ((b.toNat : Nat) : Int)) : AtS s (p : Int) k := ⟨by omega, b, by rw [Int.toNat_natCast]; exact h, hk⟩
/-- How many of a text's first bytes are so. -/
def span (f : Int → Bool) : List UInt8 → Nat
  | [] => 0
  | b :: l => if f (b.toNat : Int) = true then span f l + 1 else 0
theorem span_le (f : Int → Bool) : ∀ l, span f l ≤ l.length
  | [] => Nat.le_refl _
  | b :: l => by unfold span; have := span_le f l; split <;> simp <;> omega
/-- What stands so far ahead; 0: nothing. -/
def peek (l : List UInt8) (n : Nat) : Int := match l[n]? with | some b => (b.toNat : Int) | none => 0
def digitB (c : Int) : Bool := decide (c ≥ 48) && decide (c ≤ 57)
def bs (l : List UInt8) : ByteArray := ⟨l.toArray⟩
theorem bs_size (l : List UInt8) : (bs l).size = l.length := by show l.toArray.size = _; simp
theorem extract_tl {s : ByteArray} {p n : Nat} : s.extract p (p + n) = bs ((tl s p).take n) := by
  apply ByteArray.ext
  rw [ByteArray.data_extract]
  unfold bs tl
  apply Array.toList_inj.1
  rw [Array.toList_extract, List.extract_eq_take_drop, show p + n - p = n from Nat.add_sub_cancel_left ..]
theorem SlS.tl {s : ByteArray} {p n : Nat} {k : ByteArray → Prop} (h : p + n ≤ s.size) (hk : k (bs ((tl s p).take n))) : SlS s (p : Int) ((p + n : Nat) : Int) k := by
  refine ⟨by omega, by omega, by omega, ?_⟩
  rw [Int.toNat_natCast, Int.toNat_natCast, extract_tl]
  exact Let.as _ rfl hk
theorem peek_lt {s : ByteArray} {p n : Nat} (h : peek (tl s p) n ≠ 0) : p + n < s.size := by
  unfold peek at h
  cases hg : (tl s p)[n]? with
  | none => simp [hg] at h
  | some b =>
    have := (List.getElem?_eq_some_iff.1 hg).1
    rw [tl_len] at this; omega
theorem peek_drop (l : List UInt8) (a n : Nat) : peek (l.drop a) n = peek l (a + n) := by unfold peek; rw [List.getElem?_drop]
theorem peek_len {l : List UInt8} {n : Nat} (h : peek l n ≠ 0) : n < l.length := by
  unfold peek at h
  cases hg : l[n]? with
  | none => simp [hg] at h
  | some b => exact (List.getElem?_eq_some_iff.1 hg).1
end Go.Sim.YtnnfiohdkobkdaaGreatDoor

/- What is proved: the lexer's steps, as plain functions of the text that is left. -/
namespace Go.Sim.YtnnfiohdkobkdaaGreatDoor
open Go.RowKit Go.Proofs Go.Proofs.Tryz
def lx (s : ByteArray) (p : Nat) (w : List (ByteArray × Unit)) : Glexlexer := ⟨s, p, w⟩
theorem lwhile_ev {s : ByteArray} {p : Nat} {w : List (ByteArray × Unit)} (hs : s.size ≤ 9000000000) (hp : p ≤ s.size) {is : DV} {f : Int → Bool} (hf : ∀ b : UInt8, FVal prog is [.v (.int .u8 (b.toNat : Int))] (.v (.bool (f b.toNat)))) :
    Ev_lex_lexer_while (lx s p w) is (lx s (p + span f (tl s p)) w) := by
  refine walk_lex_lexer_while ?_
  unfold W_lex_lexer_while
  refine ⟨fun x => ∃ q, x = lx s q w ∧ q ≤ s.size ∧ q + span f (tl s q) = p + span f (tl s p), fun x => s.size - x.at_.toNat, ⟨p, rfl, hp, rfl⟩, ?_⟩
  rintro _ ⟨q, rfl, hq, he⟩
  show Br (decide ((q : Int) < ((s.size : Nat) : Int))) _ _
  refine Br.d (fun h => ?_) (fun h => ?_)
  · obtain ⟨b, hb, ht⟩ := tl_cons (s := s) (p := q) (by omega)
    refine AtS.nat hb (Call.mk (hf b) ?_)
    rw [ht] at he
    cases hfb : f b.toNat with
    | true =>
      rw [show span f (b :: tl s (q + 1)) = span f (tl s (q + 1)) + 1 by rw [span, if_pos hfb]] at he
      refine Br.t rfl (Let.as ((q + 1 : Nat) : Int) (wi1 (by omega)) ⟨⟨q + 1, rfl, by omega, by omega⟩, ?_⟩)
      show s.size - ((q + 1 : Nat) : Int).toNat < s.size - ((q : Nat) : Int).toNat
      rw [Int.toNat_natCast, Int.toNat_natCast]; omega
    | false =>
      rw [show span f (b :: tl s (q + 1)) = 0 by rw [span, if_neg (by simp [hfb])]] at he
      exact Br.f rfl (by show lx s q w = _; rw [← he]; rfl)
  · have : q = s.size := by omega
    subst this
    rw [tl_nil (Nat.le_refl _)] at he
    show lx s s.size w = _
    rw [← he]; rfl
theorem lnext_ev {s : ByteArray} {p : Nat} {w : List (ByteArray × Unit)} (hs : s.size ≤ 9000000000) (hp : p ≤ s.size) (n : Nat) (hn : n ≤ 10) : Ev_lex_lexer_next (lx s p w) (n : Int) (peek (tl s p) n) := by
  refine walk_lex_lexer_next ?_
  unfold W_lex_lexer_next
  have e : IntKind.i64.wrap ((p : Int) + (n : Int)) = ((p + n : Nat) : Int) := by rw [wi (by omega) (by omega)]; omega
  refine Let.as _ e (Br.d (fun h => Let.as _ e ?_) (fun h => ?_))
  · have hlt : p + n < s.size := by show p + n < s.size; have : ((p + n : Nat) : Int) < ((s.size : Nat) : Int) := h; omega
    obtain ⟨b, hb, ht⟩ := tl_cons hlt
    refine AtS.nat hb ?_
    show _ = peek (tl s p) n
    unfold peek
    have : (tl s p)[n]? = some b := by
      have h1 : (tl s (p + n))[0]? = some b := by rw [ht]; rfl
      rw [tl_get] at h1 ⊢; exact h1
    rw [this]
  · have hge : s.size ≤ p + n := by have : ¬ ((p + n : Nat) : Int) < ((s.size : Nat) : Int) := h; omega
    show (0 : Int) = peek (tl s p) n
    unfold peek
    rw [List.getElem?_eq_none (by rw [tl_len]; omega)]
/-! ### Classes -/
def letterB (c : Int) : Bool := decide (bits .or .u8 c 32 ≥ 97) && decide (bits .or .u8 c 32 ≤ 122)
def blankB (c : Int) : Bool := c == 32 || c == 9 || c == 10 || c == 13
def lineB (c : Int) : Bool := c != 10
def nameB (c : Int) : Bool := letterB c || digitB c || c == 95
theorem letter_ev (c : Int) : Ev_lex_letter c (letterB c) := by
  refine walk_lex_letter ?_
  unfold W_lex_letter
  refine Let.as _ rfl (Br.d (fun h => Let.as _ rfl ?_) (fun h => ?_))
  · show _ = letterB c; unfold letterB; rw [decide_eq_true h, Bool.true_and]
  · show _ = letterB c; unfold letterB; rw [decide_eq_false h, Bool.false_and]
theorem digit_ev (c : Int) : Ev_lex_digit c (digitB c) := by
  refine walk_lex_digit ?_
  unfold W_lex_digit
  refine Br.d (fun h => ?_) (fun h => ?_)
  · show _ = digitB c; unfold digitB; rw [decide_eq_true h, Bool.true_and]
  · show _ = digitB c; unfold digitB; rw [decide_eq_false h, Bool.false_and]
theorem blank_ev (c : Int) : Ev_lex_lexer_blanks_1 c (blankB c) := by
  refine walk_lex_lexer_blanks_1 ?_
  unfold W_lex_lexer_blanks_1 blankB
  cases h1 : c == 32 <;> cases h2 : c == 9 <;> cases h3 : c == 10 <;> cases h4 : c == 13 <;> simp [Br]
theorem line_ev (c : Int) : Ev_lex_lexer_blanks_2 c (lineB c) := by
  refine walk_lex_lexer_blanks_2 ?_
  unfold W_lex_lexer_blanks_2
  rfl
theorem name1_ev (c : Int) : Ev_lex_lexer_name_1 c (nameB c) := by
  refine walk_lex_lexer_name_1 ?_
  unfold W_lex_lexer_name_1 nameB
  refine Call.mk (letter_ev c) ?_
  cases h1 : letterB c with
  | true => exact Br.t rfl rfl
  | false =>
    refine Br.f rfl (Call.mk (digit_ev c) ?_)
    cases h2 : digitB c with
    | true => exact Br.t rfl rfl
    | false => exact Br.f rfl rfl
/-! ### Blanks and comments -/
theorem cm_dec {l : List UInt8} (h : peek l 0 = 47) : 0 < span lineB l := by
  cases l with
  | nil => simp [peek] at h
  | cons b l =>
    have : (b.toNat : Int) = 47 := by simpa [peek] using h
    unfold span
    rw [if_pos (by rw [this]; rfl)]; omega
/-- How much there is of comments, and of blanks behind them. -/
def cm (l : List UInt8) : Nat :=
  if h : peek l 0 = 47 ∧ peek l 1 = 47 then
    span lineB l + (span blankB (l.drop (span lineB l)) + cm ((l.drop (span lineB l)).drop (span blankB (l.drop (span lineB l)))))
  else 0
termination_by l.length
decreasing_by
  have h1 := cm_dec h.1
  have h2 := span_le lineB l
  simp only [List.length_drop]
  omega
/-- How much there is of blanks and comments. -/
def skip (l : List UInt8) : Nat := span blankB l + cm (l.drop (span blankB l))
theorem cm_le (l : List UInt8) : cm l ≤ l.length := by
  induction hn : l.length using Nat.strongRecOn generalizing l with
  | _ n ih =>
    rw [cm]
    split
    · rename_i h
      have h1 := cm_dec h.1
      have h2 := span_le lineB l
      have h3 := span_le blankB (l.drop (span lineB l))
      have := ih _ (by simp only [List.length_drop]; omega) ((l.drop (span lineB l)).drop (span blankB (l.drop (span lineB l)))) rfl
      simp only [List.length_drop] at this h3 ⊢
      omega
    · omega
theorem skip_le (l : List UInt8) : skip l ≤ l.length := by
  unfold skip
  have h1 := span_le blankB l
  have h2 := cm_le (l.drop (span blankB l))
  rw [List.length_drop] at h2
  omega
theorem blanks_ev {s : ByteArray} {p : Nat} {w : List (ByteArray × Unit)} (hs : s.size ≤ 9000000000) (hp : p ≤ s.size) : Ev_lex_lexer_blanks (lx s p w) (lx s (p + skip (tl s p)) w) := by
  refine walk_lex_lexer_blanks ?_
  unfold W_lex_lexer_blanks
  have hl := span_le blankB (tl s p)
  rw [tl_len] at hl
  refine Call.mk (lwhile_ev hs hp fun b => call_lex_lexer_blanks_1 (blank_ev _)) ?_
  refine ⟨fun x => ∃ q, x = lx s q w ∧ q ≤ s.size ∧ q + cm (tl s q) = p + skip (tl s p), fun x => s.size - x.at_.toNat, ⟨_, rfl, by omega, ?_⟩, ?_⟩
  · unfold skip; rw [tl_drop]; omega
  rintro _ ⟨q, rfl, hq, he⟩
  refine Call.mk (lnext_ev hs hq 0 (by decide)) ?_
  have no : ¬ (peek (tl s q) 0 = 47 ∧ peek (tl s q) 1 = 47) → lx s q w = lx s (p + skip (tl s p)) w := by
    intro h
    rw [cm, dif_neg h] at he
    rw [← he]; rfl
  refine Br.e (fun h0 => Call.mk (lnext_ev hs hq 1 (by decide)) (Br.e (fun h1 => ?_) (fun h1 => no fun h => h1 h.2))) (fun h0 => no fun h => h0 h.1)
  have k1 := span_le lineB (tl s q)
  rw [tl_len] at k1
  have k0 := cm_dec h0
  have k2 := span_le blankB (tl s (q + span lineB (tl s q)))
  rw [tl_len] at k2
  rw [cm, dif_pos ⟨h0, h1⟩, tl_drop, tl_drop] at he
  refine Call.mk (lwhile_ev hs hq fun b => call_lex_lexer_blanks_2 (line_ev _)) (Call.mk (lwhile_ev hs (by omega) fun b => call_lex_lexer_blanks_1 (blank_ev _)) ⟨⟨_, rfl, by omega, by omega⟩, ?_⟩)
  show s.size - ((q + span lineB (tl s q) + span blankB (tl s (q + span lineB (tl s q))) : Nat) : Int).toNat < s.size - ((q : Nat) : Int).toNat
  rw [Int.toNat_natCast, Int.toNat_natCast]; omega
end Go.Sim.YtnnfiohdkobkdaaGreatDoor

/- What is proved: the lexer's tokens, and what Lex yields, as plain functions of the text. -/
namespace Go.Sim.YtnnfiohdkobkdaaGreatDoor
open Go.RowKit Go.Proofs Go.Proofs.Tryz
/-- What the lexer's callees yield: numbers read, signs found, the language's words. -/
structure LexL where
  rd : ByteArray → GRat × Int
  ix : Int → Int
  wd : List (ByteArray × Unit)
abbrev signs : ByteArray := ByteArray.mk #[40, 41, 91, 93, 44, 59, 58, 46, 61, 43, 45, 42, 47, 94]
structure LexL.Ok (L : LexL) : Prop where
  rd : ∀ s, s.size ≤ 20000 → Ev_rat_Read s (L.rd s)
  ix : ∀ b : UInt8, Ev_strings_IndexByte signs (b.toNat : Int) (L.ix b.toNat)
  wd : Ev_lex_words L.wd
/-! ### Numbers -/
/-- Where a number's fraction ends, behind 'a' digits. -/
def fracEnd (l : List UInt8) (a : Nat) : Nat := if peek l a = 46 ∧ digitB (peek l (a + 1)) = true then a + 1 + span digitB (l.drop (a + 1)) else a
def expSkip (l : List UInt8) (b : Nat) : Nat := if peek l (b + 1) = 43 ∨ peek l (b + 1) = 45 then 2 else 1
def expEnd (l : List UInt8) (b : Nat) : Nat :=
  if bits .or .u8 (peek l b) 32 = 101 ∧ digitB (peek l (b + expSkip l b)) = true then b + expSkip l b + span digitB (l.drop (b + expSkip l b)) else b
def numLen (l : List UInt8) : Nat := expEnd l (fracEnd l (span digitB l))
theorem digit0 {c : Int} (h : digitB c = true) : c ≠ 0 := by
  unfold digitB at h; simp only [Bool.and_eq_true, decide_eq_true_eq] at h; omega
theorem fracEnd_le {l : List UInt8} {a : Nat} (h : a ≤ l.length) : a ≤ fracEnd l a ∧ fracEnd l a ≤ l.length := by
  unfold fracEnd
  split
  · rename_i hc
    have h1 := peek_len (digit0 hc.2)
    have h2 := span_le digitB (l.drop (a + 1))
    rw [List.length_drop] at h2
    omega
  · omega
theorem expEnd_le {l : List UInt8} {b : Nat} (h : b ≤ l.length) : b ≤ expEnd l b ∧ expEnd l b ≤ l.length := by
  unfold expEnd
  split
  · rename_i hc
    have h1 := peek_len (digit0 hc.2)
    have h2 := span_le digitB (l.drop (b + expSkip l b))
    rw [List.length_drop] at h2
    omega
  · omega
theorem numLen_le (l : List UInt8) : span digitB l ≤ numLen l ∧ numLen l ≤ l.length := by
  have h1 := fracEnd_le (span_le digitB l)
  have h2 := expEnd_le h1.2
  unfold numLen
  omega
variable {L : LexL}
theorem number_ev (hL : L.Ok) {s : ByteArray} {p : Nat} (hs : s.size ≤ 20000) (hp : p ≤ s.size) :
    Ev_lex_lexer_number (lx s p L.wd) (({ GToken.zero with Kind := 3, Num := (L.rd (bs ((tl s p).take (numLen (tl s p))))).1, At := p }, (L.rd (bs ((tl s p).take (numLen (tl s p))))).2), lx s (p + numLen (tl s p)) L.wd) := by
  have hs9 : s.size ≤ 9000000000 := by omega
  refine walk_lex_lexer_number ?_
  unfold W_lex_lexer_number
  have hdig : ∀ b : UInt8, FVal prog Fn_lex_digit [.v (.int .u8 (b.toNat : Int))] (.v (.bool (digitB b.toNat))) := fun b => call_lex_digit (digit_ev _)
  obtain ⟨l, hl⟩ : ∃ l, l = tl s p := ⟨_, rfl⟩
  have pk : ∀ a n, peek (tl s (p + a)) n = peek l (a + n) := fun a n => by rw [← tl_drop, peek_drop, hl]
  have ln : l.length = s.size - p := by rw [hl, tl_len]
  have ha := span_le digitB l
  obtain ⟨a, ea⟩ : ∃ a, a = span digitB l := ⟨_, rfl⟩
  have hfr := fracEnd_le (l := l) (a := a) (by omega)
  have hex := expEnd_le hfr.2
  have hn : numLen l = expEnd l (fracEnd l a) := by rw [ea]; rfl
  rw [← hl]
  have w1 := lwhile_ev (w := L.wd) hs9 hp hdig
  rw [← hl, ← ea] at w1
  refine Call.mk w1 ⟨fun x => x = decide (peek l a = 46 ∧ digitB (peek l (a + 1)) = true), ?_, ?_⟩
  · have n0 := lnext_ev (w := L.wd) (p := p + a) hs9 (by omega) 0 (by decide)
    have n1 := lnext_ev (w := L.wd) (p := p + a) hs9 (by omega) 1 (by decide)
    rw [pk] at n0 n1
    refine Call.mk n0 (Br.e (fun h => Call.mk n1 (Call.mk (digit_ev _) ?_)) (fun h => ?_))
    · have h' : peek l a = 46 := h
      show digitB (peek l (a + 1)) = _
      cases hd : digitB (peek l (a + 1)) <;> simp [h']
    · have h' : ¬ peek l a = 46 := h
      show false = _
      simp [h']
  rintro _ rfl
  refine ⟨fun x => x = lx s (p + fracEnd l a) L.wd, ?_, ?_⟩
  · refine Br.d (fun h => ?_) (fun h => ?_)
    · have h1 := peek_len (digit0 h.2)
      refine Let.as ((p + a + 1 : Nat) : Int) (wi1 (by omega)) ?_
      have w2 := lwhile_ev (w := L.wd) (p := p + a + 1) hs9 (by omega) hdig
      refine Call.mk w2 ?_
      show lx _ _ _ = _
      unfold fracEnd
      rw [if_pos h, show p + (a + 1 + span digitB (l.drop (a + 1))) = p + a + 1 + span digitB (tl s (p + a + 1)) by rw [hl, tl_drop, Nat.add_assoc p a]; omega]
    · show lx _ _ _ = _
      unfold fracEnd
      rw [if_neg h]
  rintro _ rfl
  obtain ⟨b, eb⟩ : ∃ b, b = fracEnd l a := ⟨_, rfl⟩
  rw [← eb] at hfr hex hn ⊢
  have n0 := lnext_ev (w := L.wd) (p := p + b) hs9 (by omega) 0 (by decide)
  have n1 := lnext_ev (w := L.wd) (p := p + b) hs9 (by omega) 1 (by decide)
  have n2 := lnext_ev (w := L.wd) (p := p + b) hs9 (by omega) 2 (by decide)
  rw [pk] at n0 n1 n2
  refine Call.mk n0 (Let.as _ rfl ⟨fun x => x = lx s (p + expEnd l b) L.wd, ?_, ?_⟩)
  · refine Br.e (fun h => Call.mk n1 ⟨fun x => x = decide (peek l (b + 1) = 43 ∨ peek l (b + 1) = 45), ?_, ?_⟩) (fun h => ?_)
    · refine Br.e (fun h1 => ?_) (fun h1 => ?_)
      · have h1' : peek l (b + 1) = 43 := h1
        show true = _; simp [h1']
      · have h1' : ¬ peek l (b + 1) = 43 := h1
        show (peek l (b + 1) == 45) = _
        by_cases h2 : peek l (b + 1) = 45
        · simp [h2]
        · rw [decide_eq_false (fun h3 => h3.elim h1' h2)]; exact beq_false_of_ne h2
    · rintro _ rfl
      refine ⟨fun x => x = ((expSkip l b : Nat) : Int), ?_, ?_⟩
      · refine Br.d (fun h1 => ?_) (fun h1 => ?_)
        · show (2 : Int) = _; unfold expSkip; rw [if_pos h1]; rfl
        · show (1 : Int) = _; unfold expSkip; rw [if_neg h1]; rfl
      · rintro _ rfl
        have hsk : expSkip l b = 1 ∨ expSkip l b = 2 := by unfold expSkip; split <;> simp
        have n3 : Ev_lex_lexer_next (lx s (p + b) L.wd) ((expSkip l b : Nat) : Int) (peek l (b + expSkip l b)) := by
          rcases hsk with e | e <;> rw [e]
          · exact n1
          · exact n2
        refine Call.mk n3 (Call.mk (digit_ev _) ?_)
        have h' : bits .or .u8 (peek l b) 32 = 101 := h
        cases hd : digitB (peek l (b + expSkip l b)) with
        | true =>
          have h1 := peek_len (digit0 hd)
          refine Br.t rfl (Let.as ((p + b + expSkip l b : Nat) : Int) (by show IntKind.i64.wrap (((p + b : Nat) : Int) + ((expSkip l b : Nat) : Int)) = _; rw [wi (by omega) (by omega)]; omega) ?_)
          have w2 := lwhile_ev (w := L.wd) (p := p + b + expSkip l b) hs9 (by omega) hdig
          refine Call.mk w2 ?_
          show lx _ _ _ = _
          unfold expEnd
          rw [if_pos ⟨h', hd⟩, show p + (b + expSkip l b + span digitB (l.drop (b + expSkip l b))) = p + b + expSkip l b + span digitB (tl s (p + b + expSkip l b)) by rw [hl, tl_drop, Nat.add_assoc p b]; omega]
        | false =>
          refine Br.f rfl ?_
          show lx _ _ _ = _
          unfold expEnd
          rw [if_neg (by simp [hd])]
    · have h' : ¬ bits .or .u8 (peek l b) 32 = 101 := h
      show lx _ _ _ = _
      unfold expEnd
      rw [if_neg (fun hc => h' hc.1)]
  rintro _ rfl
  rw [← hn] at hex ⊢
  show SlS s (p : Int) ((p + numLen l : Nat) : Int) _
  refine SlS.tl (by omega) ?_
  rw [← hl]
  exact Call.mk (hL.rd _ (by rw [bs_size, List.length_take]; omega)) rfl
end Go.Sim.YtnnfiohdkobkdaaGreatDoor
