/- What is proved: what the library's functions for strings and numbers yield for rat.Read. -/
import Derived.Test.YtnnfiohdkobkdaaGreatDoorZZPLRatS
import Derived.Test.YtnnfiohdkobkdaaGreatDoorZZPLShelf
import Derived.Lib.ParseIntBCases
import Derived.Lib.SlTrimSet
import Derived.ProofKit
import Derived.Test.YtnnfiohdkobkdaaGreatDoorZZPLWE
import Derived.Test.YtnnfiohdkobkdaaGreatDoorZZPLLexD

namespace Go.Sim.YtnnfiohdkobkdaaGreatDoor
open Go.RowKit Go.Proofs Go.Proofs.Tryz
theorem one_str {w : World} {S : Nat → Prop} {a : ByteArray} {vs : List Value} (h : All2 (RepV w S) [.v (.string a)] vs) : vs = [.string a] := by
  cases h with
  | cons h1 hr =>
    cases hr
    simp only [RepV, RepD, List.cons.injEq, and_true] at h1
    rw [h1.1]
theorem two_str {w : World} {S : Nat → Prop} {a b : ByteArray} {vs : List Value} (h : All2 (RepV w S) [.v (.string a), .v (.string b)] vs) : vs = [.string a, .string b] := by
  cases h with
  | cons h1 hr =>
    rw [one_str hr]
    simp only [RepV, RepD, List.cons.injEq, and_true] at h1
    rw [h1.1]
theorem trim_span (f : Int → Bool) (cs : List UInt8) (h : ∀ b : UInt8, cs.contains b = f (b.toNat : Int)) : ∀ l : List UInt8, Lib.trimLeftS l cs = l.drop (span f l)
  | [] => rfl
  | b :: l => by
    have ih := trim_span f cs h l
    unfold Lib.trimLeftS at ih ⊢
    by_cases hb : f (b.toNat : Int) = true
    · rw [List.dropWhile_cons_of_pos (by rw [h]; exact hb), ih, show span f (b :: l) = span f l + 1 by rw [span, if_pos hb]]; rfl
    · rw [List.dropWhile_cons_of_neg (by rw [h]; exact hb), show span f (b :: l) = 0 by rw [span, if_neg hb]]; rfl
theorem strim_ev (s cs : ByteArray) (f : Int → Bool) (h1 : cs.size < 4294967281) (h2 : ∀ (j : Nat) b, cs.data.toList[j]? = some b → b.toNat < 128) (h3 : ∀ b : UInt8, cs.data.toList.contains b = f (b.toNat : Int)) :
    Ev_strings_TrimLeft s cs (bs ((tl s 0).drop (span f (tl s 0)))) := by
  refine ⟨⟨_, Tryz.func187, by kernel_rfl, by kernel_rfl⟩, fun F w vs hgl hvs => ?_⟩
  rw [two_str hvs]
  refine Calls.mono (Any.strings_TrimLeft_laid Tryz.lays161 (by kernel_rfl) s cs w h1 h2) ?_
  rintro e w' ⟨rfl, hb⟩
  refine ⟨_, rfl, hb, ?_⟩
  rw [trim_span f _ h3]
  unfold bs tl
  rw [List.drop_zero]
  exact ⟨rfl, rfl⟩
theorem tens_ok : ∀ b : UInt8, tens.data.toList.contains b = digitB (b.toNat : Int) := by
  have h : ∀ n : Fin 256, tens.data.toList.contains (UInt8.ofNat n.val) = digitB ((UInt8.ofNat n.val).toNat : Int) := by decide +kernel
  intro b
  have := h ⟨b.toNat, b.toNat_lt⟩
  simpa using this
theorem zero_ok : ∀ b : UInt8, (ByteArray.mk #[48]).data.toList.contains b = zeroB (b.toNat : Int) := by
  have h : ∀ n : Fin 256, (ByteArray.mk #[48]).data.toList.contains (UInt8.ofNat n.val) = zeroB ((UInt8.ofNat n.val).toNat : Int) := by decide +kernel
  intro b
  have := h ⟨b.toNat, b.toNat_lt⟩
  simpa using this
theorem digit_val {b : UInt8} (h : digitB (b.toNat : Int) = true) : 48 ≤ b.toNat ∧ b.toNat ≤ 57 := by
  unfold digitB at h; simp only [Bool.and_eq_true, decide_eq_true_eq] at h; omega
theorem atoi_ev (l : List UInt8) (h1 : 1 ≤ l.length) (h2 : l.length ≤ 2) (h3 : span digitB l = l.length) : ∃ n : Int, Ev_strconv_Atoi (bs l) (n, false) ∧ 0 ≤ n ∧ n ≤ 99 := by
  have key : ∃ n : Int, Lib.atoi l = some n ∧ 0 ≤ n ∧ n ≤ 99 := by
    have dig1 : ∀ (b : UInt8) (t : List UInt8), span digitB (b :: t) = (b :: t).length → digitB (b.toNat : Int) = true ∧ span digitB t = t.length := by
      intro b t h
      by_cases hb : digitB (b.toNat : Int) = true
      · rw [span, if_pos hb] at h; exact ⟨hb, by simpa using h⟩
      · rw [span, if_neg hb] at h; simp at h
    have one : ∀ n : Fin 256, digitB ((UInt8.ofNat n.val).toNat : Int) = true → ∃ m : Fin 10, Lib.atoi [UInt8.ofNat n.val] = some (m.val : Int) := by decide +kernel
    match l, h1, h2, h3 with
    | [b], _, _, h =>
      obtain ⟨hb, _⟩ := dig1 b [] h
      obtain ⟨m, hm⟩ := one ⟨b.toNat, b.toNat_lt⟩ (by simpa using hb)
      exact ⟨m.val, by simpa using hm, by omega, by omega⟩
    | [b, c], _, _, h =>
      obtain ⟨hb, h'⟩ := dig1 b [c] h
      obtain ⟨hc, _⟩ := dig1 c [] h'
      have e1 := digit_val hb
      have e2 := digit_val hc
      have dv : ∀ d : UInt8, 48 ≤ d.toNat ∧ d.toNat ≤ 57 → Lib.digitVal d = some (d.toNat - 48) := by
        intro d hd
        unfold Lib.digitVal
        first | (rw [if_pos hd]; done) | (simp [hd.1, hd.2]; done) | (rw [if_pos (by simp only [UInt8.le_iff_toNat_le]; exact hd)])
      have nb : (b == 45) = false ∧ (b == 43) = false := by
        constructor <;> (apply beq_false_of_ne; rintro rfl; simp at e1)
      refine ⟨((((0 * 10 + (b.toNat - 48)) * 10 + (c.toNat - 48) : Nat) : Nat) : Int), ?_, by omega, by omega⟩
      simp [Lib.atoi, nb.1, nb.2, Lib.decNat, Lib.decFrom, dv b e1, dv c e2]
  obtain ⟨n, hn, h0, h9⟩ := key
  refine ⟨n, ⟨⟨_, Tryz.func118, by kernel_rfl, by kernel_rfl⟩, fun F w vs hgl hvs => ?_⟩, h0, h9⟩
  rw [one_str hvs]
  refine Calls.mono (Tryz.strconv_Atoi (bs l) n (by rw [bs_size]; omega) hn w) ?_
  rintro e w' ⟨rfl, t, rfl⟩
  refine ⟨_, rfl, ⟨rfl, rfl, rfl, by rw [Lib.bytesWorld_size]; omega, fun j hj => Lib.bytesWorld_at_old w _ t j hj⟩, ⟨[.int .i64 n, .nilIface], rfl, .cons (.inr ⟨rfl, rfl, rfl⟩) (.cons (.inr ⟨rfl, rfl, rfl⟩) .nil)⟩⟩
theorem rep_num {w : World} {S : Nat → Prop} (n : Nat) (v : Value) (b : Bool) (h : (b = false ∧ v = .nilIface) ∨ (b = true ∧ ∃ t u, v = .iface t u)) :
    RepV w S (.tup [.v (.int .u64 (n : Int)), eErr b]) (.tuple #[.int .u64 (n : Int), v]) := by
  refine ⟨[.int .u64 (n : Int), v], rfl, .cons (.inr ⟨rfl, rfl, rfl⟩) (.cons ?_ .nil)⟩
  rcases h with ⟨rfl, rfl⟩ | ⟨rfl, t, u, rfl⟩
  · exact .inr ⟨rfl, rfl, rfl⟩
  · exact .inr ⟨rfl, _, rfl, rfl, t, u, rfl⟩
theorem parse_ev (s : ByteArray) (hs : s.size ≤ 20000) : ∃ (n : Nat) (e : Bool), n < 18446744073709551616 ∧ Ev_strconv_ParseUint s 10 64 ((n : Int), e) := by
  have args : ∀ {w : World} {S : Nat → Prop} {vs : List Value}, All2 (RepV w S) [.v (.string s), .v (.int .i64 10), .v (.int .i64 64)] vs → vs = [.string s, .int .i64 10, .int .i64 64] := by
    intro w S vs h
    cases h with
    | cons h1 hr =>
      cases hr with
      | cons h2 hr2 =>
        cases hr2 with
        | cons h3 hr3 =>
          cases hr3
          simp only [RepV, RepD, List.cons.injEq, and_true] at h1 h2 h3
          rw [h1.1, h2.1, h3.1]
  cases hp : Lib.parseUintB 64 s.data.toList with
  | ok u =>
    have hu := Lib.parseUintB_le hp
    refine ⟨u, false, by simp at hu; omega, ⟨_, Tryz.func229, by kernel_rfl, by kernel_rfl⟩, fun F w vs hgl hvs => ?_⟩
    rw [args hvs]
    refine Calls.mono (Any.strconv_ParseUint_10_at64_ok Tryz.laysPu14 s (by omega) u hp w) ?_
    rintro e w' ⟨rfl, hw⟩
    refine ⟨_, rfl, ?_, rep_num u _ false (.inl ⟨rfl, rfl⟩)⟩
    rcases hw with rfl | rfl
    · exact Below.refl _ _
    · exact ⟨rfl, rfl, rfl, by rw [Lib.bytesWorld_size]; omega, fun j hj => Lib.bytesWorld_at_old w _ s j hj⟩
  | range =>
    refine ⟨18446744073709551615, true, by decide, ⟨_, Tryz.func229, by kernel_rfl, by kernel_rfl⟩, fun F w vs hgl hvs => ?_⟩
    rw [args hvs]
    have hG : GW w := hgl w (Nat.le_refl _) fun _ _ _ => rfl
    obtain ⟨t, p, he⟩ := hG.err5
    refine Calls.mono (Any.strconv_ParseUint_10_at64_range Tryz.laysPu14 s (by omega) hp _ w he (.inr ⟨t, p, rfl⟩)) ?_
    rintro e w' ⟨N, rfl, _, _, hb⟩
    exact ⟨_, rfl, hb, rep_num 18446744073709551615 _ true (.inr ⟨rfl, _, _, rfl⟩)⟩
  | _ =>
    refine ⟨0, true, by decide, ⟨_, Tryz.func229, by kernel_rfl, by kernel_rfl⟩, fun F w vs hgl hvs => ?_⟩
    rw [args hvs]
    have hG : GW w := hgl w (Nat.le_refl _) fun _ _ _ => rfl
    obtain ⟨t, p, he⟩ := hG.err4
    refine Calls.mono (Any.strconv_ParseUint_10_at64_syntax Tryz.laysPu14 s (by omega) hp _ w he (.inr ⟨t, p, rfl⟩)) ?_
    rintro e w' ⟨N, rfl, _, _, hb⟩
    exact ⟨_, rfl, hb, rep_num 0 _ true (.inr ⟨rfl, _, _, rfl⟩)⟩
theorem str_ok : StrOk where
  t10 := fun s _ => strim_ev s tens digitB (by decide) (by
    have : ∀ b ∈ tens.data.toList, b.toNat < 128 := by decide +kernel
    exact fun j b h => this b (List.mem_of_getElem? h)) tens_ok
  t0 := fun s _ => strim_ev s _ zeroB (by decide) (by
    have : ∀ b ∈ (ByteArray.mk #[48]).data.toList, b.toNat < 128 := by decide +kernel
    exact fun j b h => this b (List.mem_of_getElem? h)) zero_ok
  atoi := atoi_ev
  pu := parse_ev
end Go.Sim.YtnnfiohdkobkdaaGreatDoor

/- What is proved: functions of the program compute what plain statements tell. -/
namespace Go.Sim.YtnnfiohdkobkdaaGreatDoor
open Go.RowKit Go.Proofs Go.Proofs.Tryz
set_option maxRecDepth 100000
end Go.Sim.YtnnfiohdkobkdaaGreatDoor

/- What is proved: the statement LexPlaces, given what the lexer's callees yield. -/
namespace Go.Sim.YtnnfiohdkobkdaaGreatDoor
open Go.RowKit Go.Proofs Go.Proofs.Tryz
theorem At.is {α : Type} {xs : List α} {i : Nat} {k : α → Prop} {x : α} (hx : xs[i]? = some x) (hk : k x) : At xs (i : Int) k := ⟨by omega, x, by rw [Int.toNat_natCast]; exact hx, hk⟩
variable {L : LexL}
end Go.Sim.YtnnfiohdkobkdaaGreatDoor

/- What is proved: the statement LexNumbers, given what the lexer's callees yield. -/
namespace Go.Sim.YtnnfiohdkobkdaaGreatDoor
open Go.RowKit Go.Proofs Go.Proofs.Tryz
variable {L : LexL}
end Go.Sim.YtnnfiohdkobkdaaGreatDoor

/- What is proved: what the library's functions for strings and numbers yield for this seat's functions. -/
namespace Go.Sim.YtnnfiohdkobkdaaGreatDoor
open Go.RowKit Go.Proofs Go.Proofs.Tryz
theorem index_ev (b : UInt8) : Ev_strings_IndexByte signs (b.toNat : Int) (Lib.indexByte signs.data.toList b) := by
  refine ⟨⟨_, Tryz.func77, by kernel_rfl, by kernel_rfl⟩, fun F w vs hgl hvs => ?_⟩
  have hv : vs = [.string signs, .int .u8 (b.toNat : Int)] := by
    cases hvs with
    | cons h1 hr =>
      cases hr with
      | cons h2 hr2 =>
        cases hr2
        simp only [RepV, RepD, List.cons.injEq, and_true] at h1 h2
        rw [h1.1, h2.1]
  subst hv
  refine Calls.mono (Tryz.strings_IndexByte signs (b.toNat : Int) w) ?_
  rintro e w' ⟨rfl, rfl⟩
  refine ⟨_, rfl, Below.refl _ _, ?_⟩
  rw [show ((b.toNat : Int).toNat).toUInt8 = b by simp]
  exact ⟨rfl, rfl⟩
abbrev wordsText : ByteArray := ByteArray.mk #[97, 116, 97, 110, 32, 99, 111, 110, 110, 101, 99, 116, 32, 99, 111, 110, 110, 101, 99, 116, 111, 114, 32, 99, 111, 115, 32, 100, 101, 114, 32, 100, 111, 32, 101, 110, 100, 32, 101, 120, 112, 32, 102, 108, 111, 119, 32, 102, 111, 114, 32, 105, 110, 32, 108, 111, 103, 32, 109, 111, 100, 101, 108, 32, 112, 97, 114, 97, 109, 32, 112, 97, 114, 116, 32, 115, 105, 110, 32, 115, 113, 114, 116, 32, 115, 116, 97, 114, 116, 32, 116, 105, 109, 101, 32, 117, 110, 105, 116, 32, 118, 97, 114]
theorem rep_strs {w : World} {S : Nat → Prop} : ∀ l : List ByteArray, RepF w S (l.map eStr) (List.replicate (l.map eStr).length 1) (l.map Value.string)
  | [] => by simp [RepF]
  | b :: l => by
    have ih := rep_strs (w := w) (S := S) l
    simp only [List.map_cons, List.length_cons, List.replicate_succ, RepF]
    exact ⟨1, _, [_], _, rfl, rfl, rfl, by simp [RepD, Value.oneCell'], ih⟩
theorem fields_ev : Ev_strings_Fields wordsText ((Lib.fields wordsText.data.toList).map bs) := by
  refine ⟨⟨_, Tryz.func68, by kernel_rfl, by kernel_rfl⟩, fun F w vs hgl hvs => ?_⟩
  rw [one_str hvs]
  have hG : GW w := hgl w (Nat.le_refl _) fun _ _ _ => rfl
  have hasc : ∀ (j : Nat) b, wordsText.data.toList[j]? = some b → b.toNat < 128 := by
    have : ∀ b ∈ wordsText.data.toList, b.toNat < 128 := by decide +kernel
    exact fun j b h => this b (List.mem_of_getElem? h)
  refine Calls.mono (Tryz.strings_Fields wordsText w (by decide) hasc hG.blanks) ?_
  rintro e w' ⟨rfl, rfl⟩
  refine ⟨_, rfl, (Below.refl _ w).alloc (Nat.le_refl _) _, ?_⟩
  simp only [RepV, RepD]
  refine ⟨_, _, ((Lib.fields wordsText.data.toList).map bs).map Value.string, by rw [List.length_map, List.length_map], by rw [List.length_map, List.length_map]; exact Nat.le_refl _, rep_strs _, .inr ⟨w.heap.size, 0, rfl, .inr (Nat.le_refl _), fun j u hj => ?_⟩⟩
  rw [Nat.zero_add]
  refine (World.cell?_alloc_mark w _ _ _ j).trans ?_
  rw [List.map_map] at hj
  rw [← hj, List.getElem?_toArray]
  rfl
/-- The language's words, as the lexer's map has them. -/
def wordsM : List (ByteArray × Unit) := ((Lib.fields wordsText.data.toList).map bs).foldl (fun m x => mput m x ()) []
theorem wordsM_ev : Ev_lex_words wordsM := by
  unfold wordsM
  obtain ⟨l, hl⟩ : ∃ l, l = (Lib.fields wordsText.data.toList).map bs := ⟨_, rfl⟩
  have hf := fields_ev
  rw [← hl] at hf ⊢
  have hlen : l.length ≤ 1000 := by rw [hl]; decide +kernel
  refine walk_lex_words ?_
  unfold W_lex_words
  refine Call.mk hf (Loop2.up l.length (fun i m => m = (l.take i).foldl (fun m x => mput m x ()) []) rfl ?_)
  rintro i _ k hi rfl hk
  refine Br.d (fun h => ?_) (fun h => ?_)
  · have hi1 : i < l.length := by omega
    have hx : l[i]? = some l[i] := List.getElem?_eq_getElem hi1
    refine At.is hx (Let.it (Let.as _ (wi1 (by omega)) (hk _ (by omega) ?_)))
    rw [List.take_add_one, hx, List.foldl_append]
    rfl
  · have : i = l.length := by omega
    subst this
    show (l.take l.length).foldl _ [] = _
    rw [List.take_length]
end Go.Sim.YtnnfiohdkobkdaaGreatDoor
