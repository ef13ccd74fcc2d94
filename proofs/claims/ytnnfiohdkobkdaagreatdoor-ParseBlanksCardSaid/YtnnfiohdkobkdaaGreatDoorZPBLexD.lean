/- What is proved: of the tokens of a text: their places, the text from a token's place on, and where no blanks stand. -/
import Derived.Test.YtnnfiohdkobkdaaGreatDoorZPBLexC
import Derived.Test.YtnnfiohdkobkdaaGreatDoorZPBWE
import Derived.Test.YtnnfiohdkobkdaaGreatDoorZPBRatS
import Derived.Test.YtnnfiohdkobkdaaGreatDoorZPBStrN

namespace Go.Sim.YtnnfiohdkobkdaaGreatDoor
open Go.RowKit Go.Proofs Go.Proofs.Tryz
theorem span_drop (f : Int -> Bool) : ∀ l : List UInt8, span f (l.drop (span f l)) = 0
 | [] => rfl
 | b :: l => by
  by_cases h : f (b.toNat : Int) = true
  ·rw [show span f (b :: l) = span f l + 1 by rw [span, if_pos h]]
   exact span_drop f l
  ·rw [show span f (b :: l) = 0 by rw [span, if_neg h], List.drop_zero, span, if_neg h]
def comment (l : List UInt8) : Prop := peek l 0 = 47 /\ peek l 1 = 47
theorem cm_done {l : List UInt8} (h0 : span blankB l = 0) : span blankB (l.drop (cm l)) = 0 /\ ¬ comment (l.drop (cm l)) := by
 induction hn : l.length using Nat.strongRecOn generalizing l with
 | _ n ih =>
  rw [cm]
  split
  ·rename_i h
   have h1 := cm_dec h.1
   have h2 := span_le lineB l
   have := ih _ (by simp only [List.length_drop]; omega) (l := (l.drop (span lineB l)).drop (span blankB (l.drop (span lineB l)))) (span_drop _ _) rfl
   rw [List.drop_drop, List.drop_drop] at this
   rw [List.drop_drop] at this ⊢
   exact this
  ·rename_i h
   rw [List.drop_zero]; exact ⟨h0, h⟩
theorem skip_zero {l : List UInt8} (h0 : span blankB l = 0) (h1 : ¬ comment l) : skip l = 0 := by
 unfold skip
 rw [h0, List.drop_zero, cm, dif_neg (show ¬ (peek l 0 = 47 /\ peek l 1 = 47) from h1)]
theorem skip_skip (l : List UInt8) : skip (l.drop (skip l)) = 0 := by
 have := cm_done (span_drop blankB l)
 rw [List.drop_drop] at this
 exact skip_zero this.1 this.2
variable {L : LexL}
theorem tok_at {l : List UInt8} {p : Nat} (h : (tok L l p).1.2 = 0) : (tok L l p).1.1.At = p := by
 unfold tok at h ⊢
 split
 ·rename_i h1
  rw [if_pos h1] at h
  split
  ·rename_i h2; rw [if_pos h2] at h; simp at h
  ·rfl
 ·rename_i h1
  rw [if_neg h1] at h
  split
  ·rfl
  ·rename_i h2
   rw [if_neg h2] at h
   split
   ·rename_i h3; rw [if_pos h3] at h; simp at h
   ·split <;> rfl
theorem tok_shift (l : List UInt8) (p p' : Nat) : (tok L l p').2 = (tok L l p).2 /\ (tok L l p').1.2 = (tok L l p).1.2 /\ (tok L l p').1.1.Kind = (tok L l p).1.1.Kind /\ (tok L l p').1.1.S = (tok L l p).1.1.S /\ (tok L l p').1.1.Num = (tok L l p).1.1.Num := by
 unfold tok
 split
 ·split
  ·exact ⟨rfl, rfl, rfl, rfl, rfl⟩
  ·exact ⟨rfl, rfl, rfl, rfl, rfl⟩
 ·split
  ·exact ⟨rfl, rfl, rfl, rfl, rfl⟩
  ·split
   ·exact ⟨rfl, rfl, rfl, rfl, rfl⟩
   ·split
    ·exact ⟨rfl, rfl, rfl, rfl, rfl⟩
    ·exact ⟨rfl, rfl, rfl, rfl, rfl⟩
def Alike (a b : List GToken) : Prop := a.length = b.length /\ ∀ (i : Nat) (x y : GToken), a[i]? = some x -> b[i]? = some y -> x.Kind = y.Kind /\ x.S = y.S /\ x.Num = y.Num
theorem Alike.cons {x y : GToken} {a b : List GToken} (h : x.Kind = y.Kind /\ x.S = y.S /\ x.Num = y.Num) (k : Alike a b) : Alike (x :: a) (y :: b) := by
 refine ⟨by simp [k.1], fun i u v hu hv => ?_⟩
 cases i with
 | zero => simp at hu hv; subst hu hv; exact h
 | succ i => exact k.2 i u v (by simpa using hu) (by simpa using hv)
theorem lexL_cases {l : List UInt8} {p n : Nat} (h : (lexL L l p n).2.1 = 0) :
    (l = [] /\ lexL L l p n = ([{ GToken.zero with At := p }], 0, 0)) \/
    (l ≠ [] /\ ¬ 4000 <= n /\ (tok L l p).1.2 = 0 /\ (lexL L (l.drop (more L l p)) (p + more L l p) (n + 1)).2.1 = 0 /\ lexL L l p n = ((tok L l p).1.1 :: (lexL L (l.drop (more L l p)) (p + more L l p) (n + 1)).1, 0, 0)) := by
  by_cases h0 : l = []
  · exact .inl ⟨h0, lexL_nil h0⟩
  by_cases hn : 4000 <= n
  · rw [lexL_many h0 hn] at h; simp at h
  by_cases hb : (tok L l p).1.2 = 0
  · have hm := lexL_more h0 hn hb
    by_cases hz : (lexL L (l.drop (more L l p)) (p + more L l p) (n + 1)).2.1 = 0
    · rw [if_pos hz] at hm
      exact .inr ⟨h0, hn, hb, hz, hm⟩
    · rw [if_neg hz] at hm
      rw [hm] at h
      exact absurd h hz
  · rw [lexL_bad h0 hn hb] at h; exact absurd h hb
theorem more_pos {l : List UInt8} {p : Nat} (h0 : l ≠ []) (hb : (tok L l p).1.2 = 0) : 1 <= more L l p /\ more L l p <= l.length /\ skip (l.drop (more L l p)) = 0 := by
 have h1 := tok_len (L := L) (p := p) h0
 have h2 := h1.2 hb
 have h3 := skip_le (l.drop (tok L l p).2)
 rw [List.length_drop] at h3
 have h4 := skip_skip (l.drop (tok L l p).2)
 rw [List.drop_drop] at h4
 unfold more
 exact ⟨by omega, by omega, h4⟩
theorem lexL_head {l : List UInt8} {p n : Nat} (h : (lexL L l p n).2.1 = 0) : ∃ t ts, (lexL L l p n).1 = t :: ts /\ t.At = p := by
 rcases lexL_cases h with ⟨h0, e⟩ | ⟨h0, h1, h2, h3, e⟩
 ·rw [e]; exact ⟨_, [], rfl, rfl⟩
 ·rw [e]; exact ⟨_, _, rfl, tok_at h2⟩
end Go.Sim.YtnnfiohdkobkdaaGreatDoor

/- What is proved: functions of the program compute what plain statements tell. -/
namespace Go.Sim.YtnnfiohdkobkdaaGreatDoor
open Go.RowKit Go.Proofs Go.Proofs.Tryz
set_option maxRecDepth 100000
end Go.Sim.YtnnfiohdkobkdaaGreatDoor

/- What is proved: the statement LexPlaces, given what the lexer's callees yield. -/
namespace Go.Sim.YtnnfiohdkobkdaaGreatDoor
open Go.RowKit Go.Proofs Go.Proofs.Tryz
theorem At.is {α : Type} {xs : List α} {i : Nat} {k : α -> Prop} {x : α} (hx : xs[i]? = some x) (hk : k x) : At xs (i : Int) k := ⟨by omega, x, by rw [Int.toNat_natCast]; exact hx, hk⟩
variable {L : LexL}
theorem tl_extract {s : ByteArray} {p : Nat} (h : p <= s.size) : tl (s.extract p s.size) 0 = tl s p := by
 have e : s.size = p + (s.size - p) := by omega
 rw [show s.extract p s.size = s.extract p (p + (s.size - p)) by rw [← e], extract_tl]
 unfold tl bs
 rw [List.drop_zero]
 show ((List.drop p s.data.toList).take (s.size - p)) = _
 rw [List.take_of_length_le]
 rw [List.length_drop]; exact Nat.le_refl _
end Go.Sim.YtnnfiohdkobkdaaGreatDoor

/- What is proved: the statement LexNumbers, given what the lexer's callees yield. -/
namespace Go.Sim.YtnnfiohdkobkdaaGreatDoor
open Go.RowKit Go.Proofs Go.Proofs.Tryz
variable {L : LexL}
end Go.Sim.YtnnfiohdkobkdaaGreatDoor

/- What is proved: what the library's functions for strings and numbers yield for this seat's functions. -/
namespace Go.Sim.YtnnfiohdkobkdaaGreatDoor
open Go.RowKit Go.Proofs Go.Proofs.Tryz
theorem index_ev (b : UInt8) : Ev_strings_IndexByte signs (b.toNat : Int) (Lib.indexByte signs.data.toList b) := by
 refine ⟨⟨_, Tryz.func77, by kernel_rfl, by kernel_rfl⟩, fun F w vs hgl hvs => ?_⟩
 have hv : vs = [.string signs, .int .u8 (b.toNat : Int)] := by
  cases hvs with
  | cons h1 hr =>
   cases hr with
   | cons h2 hr2 =>
    cases hr2
    simp only [RepV, RepD, List.cons.injEq, and_true] at h1 h2
    rw [h1.1, h2.1]
 subst hv
 refine Calls.mono (Tryz.strings_IndexByte signs (b.toNat : Int) w) ?_
 rintro e w' ⟨rfl, rfl⟩
 refine ⟨_, rfl, Below.refl _ _, ?_⟩
 rw [show ((b.toNat : Int).toNat).toUInt8 = b by simp]
 exact ⟨rfl, rfl⟩
abbrev wordsText : ByteArray := ByteArray.mk #[97, 116, 97, 110, 32, 99, 111, 110, 110, 101, 99, 116, 32, 99, 111, 110, 110, 101, 99, 116, 111, 114, 32, 99, 111, 115, 32, 100, 101, 114, 32, 100, 111, 32, 101, 110, 100, 32, 101, 120, 112, 32, 102, 108, 111, 119, 32, 102, 111, 114, 32, 105, 110, 32, 108, 111, 103, 32, 109, 111, 100, 101, 108, 32, 112, 97, 114, 97, 109, 32, 112, 97, 114, 116, 32, 115, 105, 110, 32, 115, 113, 114, 116, 32, 115, 116, 97, 114, 116, 32, 116, 105, 109, 101, 32, 117, 110, 105, 116, 32, 118, 97, 114]
theorem rep_strs {w : World} {S : Nat -> Prop} : ∀ l : List ByteArray, RepF w S (l.map eStr) (List.replicate (l.map eStr).length 1) (l.map Value.string)
 | [] => by simp [RepF]
 | b :: l => by
  have ih := rep_strs (w := w) (S := S) l
  simp only [List.map_cons, List.length_cons, List.replicate_succ, RepF]
  exact ⟨1, _, [_], _, rfl, rfl, rfl, by simp [RepD, Value.oneCell'], ih⟩
theorem fields_ev : Ev_strings_Fields wordsText ((Lib.fields wordsText.data.toList).map bs) := by
 refine ⟨⟨_, Tryz.func68, by kernel_rfl, by kernel_rfl⟩, fun F w vs hgl hvs => ?_⟩
 rw [one_str hvs]
 have hG : GW w := hgl w (Nat.le_refl _) fun _ _ _ => rfl
 have hasc : ∀ (j : Nat) b, wordsText.data.toList[j]? = some b -> b.toNat < 128 := by
  have : ∀ b ∈ wordsText.data.toList, b.toNat < 128 := by decide +kernel
  exact fun j b h => this b (List.mem_of_getElem? h)
 refine Calls.mono (Tryz.strings_Fields wordsText w (by decide) hasc hG.blanks) ?_
 rintro e w' ⟨rfl, rfl⟩
 refine ⟨_, rfl, (Below.refl _ w).alloc (Nat.le_refl _) _, ?_⟩
 simp only [RepV, RepD]
 refine ⟨_, _, ((Lib.fields wordsText.data.toList).map bs).map Value.string, by rw [List.length_map, List.length_map], by rw [List.length_map, List.length_map]; exact Nat.le_refl _, rep_strs _, .inr ⟨w.heap.size, 0, rfl, .inr (Nat.le_refl _), fun j u hj => ?_⟩⟩
 rw [Nat.zero_add]
 refine (World.cell?_alloc_mark w _ _ _ j).trans ?_
 rw [List.map_map] at hj
 rw [← hj, List.getElem?_toArray]
 rfl
def wordsM : List (ByteArray × Unit) := ((Lib.fields wordsText.data.toList).map bs).foldl (fun m x => mput m x ()) []
theorem wordsM_ev : Ev_lex_words wordsM := by
 unfold wordsM
 obtain ⟨l, hl⟩ : ∃ l, l = (Lib.fields wordsText.data.toList).map bs := ⟨_, rfl⟩
 have hf := fields_ev
 rw [← hl] at hf ⊢
 have hlen : l.length <= 1000 := by rw [hl]; decide +kernel
 refine walk_lex_words ?_
 unfold W_lex_words
 refine Call.mk hf (Loop2.up l.length (fun i m => m = (l.take i).foldl (fun m x => mput m x ()) []) rfl ?_)
 rintro i _ k hi rfl hk
 refine Br.d (fun h => ?_) (fun h => ?_)
 ·have hi1 : i < l.length := by omega
  have hx : l[i]? = some l[i] := List.getElem?_eq_getElem hi1
  refine At.is hx (Let.it (Let.as _ (wi1 (by omega)) (hk _ (by omega) ?_)))
  rw [List.take_add_one, hx, List.foldl_append]
  rfl
 ·have : i = l.length := by omega
  subst this
  show (l.take l.length).foldl _ [] = _
  rw [List.take_length]
end Go.Sim.YtnnfiohdkobkdaaGreatDoor
