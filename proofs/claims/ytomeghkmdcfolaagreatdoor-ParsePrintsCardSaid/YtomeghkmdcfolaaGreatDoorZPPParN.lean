/- What is proved: which texts are names, as the program's lexer and the reference tell: one answer. -/
import Derived.Test.YtomeghkmdcfolaaGreatDoorZPPLexC
import Derived.Test.YtomeghkmdcfolaaGreatDoorZPPWPr
import Derived.Test.YtomeghkmdcfolaaGreatDoorZPPWPs
import Derived.Test.YtomeghkmdcfolaaGreatDoorZPPPureK

namespace Go.Sim.YtomeghkmdcfolaaGreatDoor
open Go.RowKit Go.Proofs Go.Proofs.Tryz
def wl : List (List UInt8) := [[97, 116, 97, 110], [99, 111, 110, 110, 101, 99, 116], [99, 111, 110, 110, 101, 99, 116, 111, 114], [99, 111, 115], [100, 101, 114], [100, 111], [101, 110, 100], [101, 120, 112], [102, 108, 111, 119], [102, 111, 114], [105, 110], [108, 111, 103], [109, 111, 100, 101, 108], [112, 97, 114, 97, 109], [112, 97, 114, 116], [115, 105, 110], [115, 113, 114, 116], [115, 116, 97, 114, 116], [116, 105, 109, 101], [117, 110, 105, 116], [118, 97, 114]]
theorem wordsM_keys : wordsM.map (·.1) = wl.map bs := by decide +kernel
theorem mget_any {κ α : Type} [DecidableEq κ] (m : List (κ × α)) (k : κ) : (mget m k).isSome = decide (k ∈ m.map (·.1)) := by
 unfold mget
 rw [Option.isSome_map, Bool.eq_iff_iff, List.find?_isSome, decide_eq_true_iff, List.mem_map]
 constructor
 ·rintro ⟨x, hx, h⟩; exact ⟨x, hx, (by simpa using h : k = x.1).symm⟩
 ·rintro ⟨x, hx, h⟩; exact ⟨x, hx, by simp [h]⟩
theorem bsinj {a b : List UInt8} (h : bs a = bs b) : a = b := by
 have := congrArg (fun s => tl s 0) h
 simpa [tl_bs] using this
theorem wordB (l : List UInt8) : (mget wordsM (bs l)).isSome = decide (l ∈ wl) := by
 rw [mget_any, wordsM_keys, decide_eq_decide, List.mem_map]
 constructor
 ·rintro ⟨a, ha, h⟩; rw [← bsinj h]; exact ha
 ·intro h; exact ⟨l, h, rfl⟩
def nmL (l : List UInt8) : Bool := letterB (peek l 0) && decide (span nameB l = l.length) && decide (l.length <= 24) && !decide (l ∈ wl)
def nmB (s : ByteArray) : Bool := nmL (tl s 0)
theorem letter_plain {b : UInt8} (h : letterB (b.toNat : Int) = true) : blankB (b.toNat : Int) = false /\ (b.toNat : Int) ≠ 47 := by
 have hall : ∀ n : Fin 256, letterB ((UInt8.ofNat n.val).toNat : Int) = true -> (blankB ((UInt8.ofNat n.val).toNat : Int) = false /\ ((UInt8.ofNat n.val).toNat : Int) ≠ 47) := by decide +kernel
 have := hall ⟨b.toNat, b.toNat_lt⟩
 simpa using this (by simpa using h)
theorem skip_letter {l : List UInt8} (h : letterB (peek l 0) = true) : skip l = 0 := by
 cases l with
 | nil => rw [show peek [] 0 = 0 from rfl] at h; exact absurd h (by decide)
 | cons b l =>
  have h' : letterB (b.toNat : Int) = true := h
  obtain ⟨h1, h2⟩ := letter_plain h'
  have e1 : span blankB (b :: l) = 0 := by rw [span, if_neg (by simp [h1])]
  unfold skip
  rw [e1, List.drop_zero, cm, dif_neg]
  rintro ⟨h3, _⟩
  exact h2 h3
theorem take_all {l : List UInt8} {n : Nat} (h : l.length <= n) : l.take n = l := List.take_of_length_le h
variable {L : LexL}
theorem tok_name {l : List UInt8} {p : Nat} (h1 : letterB (peek l 0) = true) (h2 : ¬ 24 < span nameB l) :
    tok L l p = (({ GToken.zero with Kind := if (mget L.wd (bs (l.take (span nameB l)))).isSome = true then 2 else 1, S := bs (l.take (span nameB l)), At := p }, 0), span nameB l) := by
  unfold tok; rw [if_pos h1, if_neg h2]
theorem tok_kind {l : List UInt8} {p : Nat} (h : (tok L l p).1.1.Kind = 1) : letterB (peek l 0) = true /\ ¬ 24 < span nameB l /\ (mget L.wd (bs (l.take (span nameB l)))).isSome = false := by
 unfold tok at h
 by_cases h1 : letterB (peek l 0) = true
 ·rw [if_pos h1] at h
  by_cases h2 : 24 < span nameB l
  ·rw [if_pos h2] at h; simp [GToken.zero] at h
  ·rw [if_neg h2] at h
   refine ⟨h1, h2, ?_⟩
   by_cases h3 : (mget L.wd (bs (l.take (span nameB l)))).isSome = true
   ·simp [h3] at h
   ·simpa using h3
 ·rw [if_neg h1] at h
  split at h
  ·simp at h
  ·split at h
   ·simp [GToken.zero] at h
   ·split at h
    ·simp at h
    ·simp at h
theorem named_ev (hL : L.Ok) (hw : L.wd = wordsM) (s : ByteArray) : Ev_parse_named s (nmB s) := by
 refine walk_parse_named ?_
 unfold W_parse_named
 obtain ⟨l, hl⟩ : ∃ l, l = tl s 0 := ⟨_, rfl⟩
 have hs : s = bs l := by rw [hl, bs_tl]
 have hev := lex_ev hL s
 rw [← hl] at hev
 have hB : nmB s = nmL l := by unfold nmB; rw [hl]
 rw [hB]
 refine Call.mk hev ?_
 by_cases hn : nmL l = true
 ·rw [hn]
  have hn' := hn
  unfold nmL at hn
  simp only [Bool.and_eq_true, decide_eq_true_eq, Bool.not_eq_true', decide_eq_false_iff_not] at hn
  obtain ⟨⟨⟨h1, h2⟩, h3⟩, h4⟩ := hn
  have hne : l ≠ [] := fun h => by rw [h] at h1; exact absurd h1 (by decide)
  have ht := tok_name (L := L) (p := 0) h1 (by omega)
  have hwd : (mget L.wd (bs (l.take (span nameB l)))).isSome = false := by
   rw [h2, take_all (Nat.le_refl _), hw, wordB]; exact decide_eq_false h4
  rw [h2, take_all (Nat.le_refl _)] at hwd ht
  simp only [hwd, Bool.false_eq_true, if_false] at ht
  have e0 : lexS L l = lexL L l 0 0 := by
   unfold lexS; rw [if_neg (by omega), skip_letter h1, List.drop_zero]
  have hm : more L l 0 = l.length := by
   unfold more; rw [ht]
   show l.length + skip (l.drop l.length) = _
   rw [List.drop_length]
   have := skip_le ([] : List UInt8)
   simp at this; omega
  have e1 := lexL_more (L := L) (l := l) (p := 0) (n := 0) hne (by omega) (by rw [ht])
  rw [hm, List.drop_length, lexL_nil rfl] at e1
  rw [e0, e1, ht]
  refine Br.t rfl (Br.t rfl (At.nat (i := 0) (by simp) fun x hx => ?_))
  simp at hx; subst hx
  refine Br.t rfl (At.nat (i := 0) (by simp) fun y hy => ?_)
  simp at hy; subst hy
  show ((bs l).toList == s.toList) = true
  rw [hs]; simp
 ·have hn0 : nmL l = false := by simpa using hn
  rw [hn0]
  refine Br.e (fun h0 => Br.e (fun h1 => At.nat (i := 0) (by omega) fun x hx => Br.e (fun h2 => At.nat (i := 0) (by omega) fun y hy => ?_) (fun _ => rfl)) (fun _ => rfl)) (fun _ => rfl)
  rw [hx] at hy; cases hy
  show (x.S.toList == s.toList) = false
  rw [← Bool.not_eq_true, beq_str]
  intro hS
  apply hn
  by_cases hbig : 20000 < l.length
  ·unfold lexS at h0; rw [if_pos hbig] at h0; simp at h0
  have e0 : lexS L l = lexL L (l.drop (skip l)) (skip l) 0 := by unfold lexS; rw [if_neg hbig]
  rw [e0] at h0 h1 hx
  rcases lexL_cases h0 with ⟨g0, g1⟩ | ⟨g0, _, g2, g3, g4⟩
  ·rw [g1] at h1; simp at h1
  ·rw [g4] at hx
   simp at hx
   subst hx
   obtain ⟨k1, k2, k3⟩ := tok_kind h2
   have ht := tok_name (L := L) (p := skip l) k1 k2
   rw [ht] at hS
   have hS' : bs ((l.drop (skip l)).take (span nameB (l.drop (skip l)))) = s := hS
   rw [hs] at hS'
   have hS2 := bsinj hS'
   have hlen := congrArg List.length hS2
   have hsp := span_le nameB (l.drop (skip l))
   have hsk := skip_le l
   rw [List.length_take, List.length_drop] at hlen
   rw [List.length_drop] at hsp
   have hs0 : skip l = 0 := by omega
   rw [hs0, List.drop_zero] at k1 k2 k3 hS2 hsp
   have hsl : span nameB l = l.length := by rw [hs0, List.drop_zero] at hlen; omega
   unfold nmL
   rw [hsl, take_all (Nat.le_refl _), hw, wordB] at k3
   simp only [Bool.and_eq_true, decide_eq_true_eq, Bool.not_eq_true']
   exact ⟨⟨⟨k1, hsl⟩, by omega⟩, k3⟩
def letR (c : Int) : Bool := (decide (97 <= c) && decide (c <= 122)) || (decide (65 <= c) && decide (c <= 90))
theorem letR_eq (b : UInt8) : letR (b.toNat : Int) = letterB (b.toNat : Int) := by
 have hall : ∀ n : Fin 256, letR ((UInt8.ofNat n.val).toNat : Int) = letterB ((UInt8.ofNat n.val).toNat : Int) := by decide +kernel
 have := hall ⟨b.toNat, b.toNat_lt⟩
 simpa using this
theorem refLetter_ev (b : UInt8) : Ev_ref12_Letter (b.toNat : Int) (letterB (b.toNat : Int)) := by
 rw [← letR_eq]
 refine walk_ref12_Letter ?_
 unfold W_ref12_Letter letR
 refine Br.d (fun h1 => Br.d (fun h2 => ?_) (fun h2 => Br.d (fun h3 => ?_) (fun h3 => ?_))) (fun h1 => Br.d (fun h3 => ?_) (fun h3 => ?_))
 all_goals show _ = _
 ·rw [decide_eq_true (show (97 : Int) <= _ from h1), decide_eq_true h2]; rfl
 ·rw [decide_eq_false h2, decide_eq_true (show (65 : Int) <= _ from h3)]; simp
 ·rw [decide_eq_false h2, decide_eq_false (show ¬ (65 : Int) <= _ from h3)]; simp
 ·rw [decide_eq_false (show ¬ (97 : Int) <= _ from h1), decide_eq_true (show (65 : Int) <= _ from h3)]; simp
 ·rw [decide_eq_false (show ¬ (97 : Int) <= _ from h1), decide_eq_false (show ¬ (65 : Int) <= _ from h3)]; simp
theorem refDigit_ev (c : Int) : Ev_ref12_Digit c (digitB c) := by
 refine walk_ref12_Digit ?_
 unfold W_ref12_Digit digitB
 refine Br.d (fun h => ?_) (fun h => ?_)
 ·show _ = _; rw [decide_eq_true h, Bool.true_and]
 ·show _ = _; rw [decide_eq_false h, Bool.false_and]
def allW : List UInt8 := [32, 97, 116, 97, 110, 32, 99, 111, 110, 110, 101, 99, 116, 32, 99, 111, 110, 110, 101, 99, 116, 111, 114, 32, 99, 111, 115, 32, 100, 101, 114, 32, 100, 111, 32, 101, 110, 100, 32, 101, 120, 112, 32, 102, 108, 111, 119, 32, 102, 111, 114, 32, 105, 110, 32, 108, 111, 103, 32, 109, 111, 100, 101, 108, 32, 112, 97, 114, 97, 109, 32, 112, 97, 114, 116, 32, 115, 105, 110, 32, 115, 113, 114, 116, 32, 115, 116, 97, 114, 116, 32, 116, 105, 109, 101, 32, 117, 110, 105, 116, 32, 118, 97, 114, 32]
theorem allW_len : allW.length = 105 := by decide
theorem word_at : ∀ w ∈ wl, ∃ i : Fin 105, i.val + (w.length + 2) <= 105 /\ (allW.drop i.val).take (w.length + 2) = 32 :: w ++ [32] := by decide +kernel
theorem at_word : ∀ (i : Fin 105) (n : Fin 25), (allW.drop i.val).take (n.val + 2) = 32 :: (allW.drop (i.val + 1)).take n.val ++ [32] -> (allW.drop (i.val + 1)).take n.val ≠ [] -> (32 : UInt8) ∉ (allW.drop (i.val + 1)).take n.val -> (allW.drop (i.val + 1)).take n.val ∈ wl := by decide +kernel
theorem word_plain : ∀ w ∈ wl, (32 : UInt8) ∉ w /\ w ≠ [] := by decide +kernel
theorem refWord_ev {s : ByteArray} (hs : s.size <= 24) : Ev_ref12_Word s (decide (tl s 0 ∈ wl)) := by
 obtain ⟨l, hl⟩ : ∃ l, l = tl s 0 := ⟨_, rfl⟩
 have hbs : s = bs l := by rw [hl, bs_tl]
 have hlen : l.length = s.size := by rw [hl, tl_len]; omega
 rw [← hl]
 have hg : ∀ i : Nat, l[i]? = s[i]? := fun i => by
  by_cases h : i < s.size
  ·obtain ⟨b, h1, h2⟩ := tl_cons h
   rw [h1, hl, show (tl s 0)[i]? = s.data.toList[0 + i]? from tl_get s 0 i, Nat.zero_add]
   have := tl_get s i 0
   rw [h2] at this
   simpa using this.symm
  ·rw [List.getElem?_eq_none (by omega)]
   show none = (if hh : i < s.size then some s[i] else none)
   rw [dif_neg h]
 refine walk_ref12_Word ?_
 unfold W_ref12_Word
 refine Loop1.first l (fun b => b == 32) ?_
 intro i k hi hP hk
 refine Br.d (fun hlt => ?_) (fun hge => ?_)
 ·have hx : l[i]? = some (l[i]'(by omega)) := List.getElem?_eq_getElem (by omega)
  obtain ⟨b, eb⟩ : ∃ b, l[i]? = some b := ⟨_, hx⟩
  refine AtS.nat (by rw [← hg]; exact eb) (Br.e (fun h => ?_) (fun h => Let.as _ (wi1 (by omega)) (hk b eb ?_)))
  ·show false = _
   have : b = 32 := UInt8.toNat_inj.1 (by have h' : ((b.toNat : Nat) : Int) = 32 := h; show b.toNat = 32; omega)
   symm
   rw [decide_eq_false_iff_not]
   intro hw
   exact (word_plain l hw).1 (by rw [← this]; exact List.mem_of_getElem? eb)
  ·apply beq_false_of_ne
   rintro rfl
   exact h rfl
 have h32 : (32 : UInt8) ∉ l := by
  intro hm
  obtain ⟨j, hj⟩ := List.mem_iff_getElem?.1 hm
  have := hP j 32 (by have := (List.getElem?_eq_some_iff.1 hj).1; omega) hj
  simp at this
 clear hk hP
 refine ⟨by show 1 + s.size <= _; omega, Let.it ⟨?_, Let.it ?_⟩⟩
 ·have : (ByteArray.mk #[32] ++ s).size = 1 + s.size := by rw [ByteArray.size_append]; rfl
  rw [this]; show 1 + s.size + 1 <= _; omega
 obtain ⟨w, hw⟩ : ∃ w, w = ByteArray.mk #[32] ++ s ++ ByteArray.mk #[32] := ⟨_, rfl⟩
 rw [← hw]
 have hwb : w = bs (32 :: l ++ [32]) := by
  rw [hw, ← bs_tl (ByteArray.mk #[32] ++ s ++ ByteArray.mk #[32])]
  congr 1
  rw [show ∀ a b : ByteArray, tl (a ++ b) 0 = tl a 0 ++ tl b 0 from fun a b => by unfold tl; simp, show ∀ a b : ByteArray, tl (a ++ b) 0 = tl a 0 ++ tl b 0 from fun a b => by unfold tl; simp, ← hl]
  rfl
 have hws : w.size = l.length + 2 := by rw [hwb, bs_size]; simp
 rw [hws]
 refine Loop1.up 105 (fun i => i + (l.length + 2) <= 106 /\ (l ∈ wl -> ∃ j, i <= j /\ j + (l.length + 2) <= 105 /\ (allW.drop j).take (l.length + 2) = 32 :: l ++ [32])) ⟨by omega, fun h => ?_⟩ ?_
 ·obtain ⟨j, h1, h2⟩ := word_at l h
  exact ⟨j.val, Nat.zero_le _, h1, h2⟩
 intro i k hi ⟨hi2, hex⟩ hk
 have hsum : IntKind.i64.wrap ((i : Int) + ((l.length + 2 : Nat) : Int)) = ((i + (l.length + 2) : Nat) : Int) := by rw [wi (by omega) (by omega)]; omega
 refine Let.as _ hsum (Br.d (fun hlt => ?_) (fun hge => ?_))
 ·have hil : i + (l.length + 2) <= 105 := by omega
  have hext : (ByteArray.mk #[32, 97, 116, 97, 110, 32, 99, 111, 110, 110, 101, 99, 116, 32, 99, 111, 110, 110, 101, 99, 116, 111, 114, 32, 99, 111, 115, 32, 100, 101, 114, 32, 100, 111, 32, 101, 110, 100, 32, 101, 120, 112, 32, 102, 108, 111, 119, 32, 102, 111, 114, 32, 105, 110, 32, 108, 111, 103, 32, 109, 111, 100, 101, 108, 32, 112, 97, 114, 97, 109, 32, 112, 97, 114, 116, 32, 115, 105, 110, 32, 115, 113, 114, 116, 32, 115, 116, 97, 114, 116, 32, 116, 105, 109, 101, 32, 117, 110, 105, 116, 32, 118, 97, 114, 32]) = bs allW := rfl
  have next : ((l ∈ wl) -> (allW.drop i).take (l.length + 2) ≠ 32 :: l ++ [32]) -> Let (IntKind.i64.wrap ((i : Int) + 1)) fun x => k x := fun hno => Let.as _ (wi1 (by omega)) (hk (by omega) ⟨by omega, fun hm => by
   obtain ⟨j, h1, h2, h3⟩ := hex hm
   have : i ≠ j := fun e => hno hm (by rw [e]; exact h3)
   exact ⟨j, by omega, h2, h3⟩⟩)
  refine ⟨(l ∈ wl -> (allW.drop i).take (l.length + 2) ≠ 32 :: l ++ [32]), ?_, next⟩
  rw [hext]
  refine ⟨fun he => Let.as _ hsum (SlS.tl (by rw [bs_size, allW_len]; exact hil) ?_), fun he => ?_⟩
  ·rw [show tl (bs allW) i = allW.drop i from rfl, hwb]
   refine ⟨fun heq => ?_, fun hne hm heq => ?_⟩
   ·show true = _
    have h1 := bsinj (beq_str.1 heq)
    have hne : l ≠ [] := by
     rintro rfl
     rw [hbs] at he
     simp [bs] at he
    symm
    rw [decide_eq_true_iff]
    have h2 : (allW.drop (i + 1)).take l.length = l := by
     have h3 := congrArg (fun x => (x.drop 1).take l.length) h1
     simp only [List.drop_take, List.drop_drop] at h3
     rw [List.take_take] at h3
     simpa [Nat.min_eq_left (show l.length <= l.length + 2 - 1 by omega)] using h3
    have h4 := at_word ⟨i, by omega⟩ ⟨l.length, by omega⟩
    simp only [h2] at h4
    exact h4 h1 hne h32
   ·rw [heq] at hne
    rw [beq_str.2 rfl] at hne; cases hne
  ·intro hm _
   have : l = [] := by
    rw [hbs] at he
    have he' : ((bs l).toList == (ByteArray.mk #[]).toList) = true := by simpa using he
    rw [bs_nil] at he'
    simpa using he'
   exact (word_plain l hm).2 this
 ·show false = _
  symm
  rw [decide_eq_false_iff_not]
  intro hm
  obtain ⟨j, h1, h2, _⟩ := hex hm
  omega
end Go.Sim.YtomeghkmdcfolaaGreatDoor
