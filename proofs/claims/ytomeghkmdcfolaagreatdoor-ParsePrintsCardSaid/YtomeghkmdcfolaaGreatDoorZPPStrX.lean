/- What is proved: what the library's functions for strings and numbers yield, exactly. -/
import Derived.Test.YtomeghkmdcfolaaGreatDoorZPPStrN
import Derived.Test.YtomeghkmdcfolaaGreatDoorZPPRatV
import Derived.Test.YtomeghkmdcfolaaGreatDoorZPPLexS
import Derived.Test.YtomeghkmdcfolaaGreatDoorZPPRatW

namespace Go.Sim.YtomeghkmdcfolaaGreatDoor
open Go.RowKit Go.Proofs Go.Proofs.Tryz
theorem atoi_evX (l : List UInt8) (h1 : 1 <= l.length) (h2 : l.length <= 2) (h3 : span digitB l = l.length) : Ev_strconv_Atoi (bs l) ((dvB l : Int), false) := by
 have key : Lib.atoi l = some (dvB l : Int) := by
  have dv : ∀ d : UInt8, 48 <= d.toNat /\ d.toNat <= 57 -> Lib.digitVal d = some (d.toNat - 48) := by
   intro d hd
   unfold Lib.digitVal
   first | (rw [if_pos hd]; done) | (simp [hd.1, hd.2]; done) | (rw [if_pos (by simp only [UInt8.le_iff_toNat_le]; exact hd)])
  have sub : ∀ d : UInt8, 48 <= d.toNat -> ((d.toNat : Int) - 48).toNat = d.toNat - 48 := fun d hd => by omega
  match l, h1, h2, h3 with
  | [b], _, _, h =>
   have e1 := digit_val (span_all.1 h b (by simp))
   have nb : (b == 45) = false /\ (b == 43) = false := by
    constructor <;> (apply beq_false_of_ne; rintro rfl; simp at e1)
   simp [Lib.atoi, nb.1, nb.2, Lib.decNat, Lib.decFrom, dv b e1, dvB, dvA, sub b e1.1]
  | [b, c], _, _, h =>
   have e1 := digit_val (span_all.1 h b (by simp))
   have e2 := digit_val (span_all.1 h c (by simp))
   have nb : (b == 45) = false /\ (b == 43) = false := by
    constructor <;> (apply beq_false_of_ne; rintro rfl; simp at e1)
   simp [Lib.atoi, nb.1, nb.2, Lib.decNat, Lib.decFrom, dv b e1, dv c e2, dvB, dvA, sub b e1.1, sub c e2.1]
 refine ⟨⟨_, Tryz.func71, by kernel_rfl, by kernel_rfl⟩, fun F w vs hgl hvs => ?_⟩
 rw [one_str hvs]
 refine Calls.mono (Tryz.strconv_Atoi (bs l) _ (by rw [bs_size]; omega) key w) ?_
 rintro e w' ⟨rfl, t, rfl⟩
 refine ⟨_, rfl, ⟨rfl, rfl, rfl, by rw [Lib.bytesWorld_size]; omega, fun j hj => Lib.bytesWorld_at_old w _ t j hj⟩, ⟨[.int .i64 (dvB l : Int), .nilIface], rfl, .cons (.inr ⟨rfl, rfl, rfl⟩) (.cons (.inr ⟨rfl, rfl, rfl⟩) .nil)⟩⟩
theorem parse_evX (l : List UInt8) (h1 : 1 <= l.length) (h2 : l.length <= 200) (h3 : span digitB l = l.length) : ∃ n : Nat, n < 18446744073709551616 /\ (dvB l < 18446744073709551616 -> n = dvB l) /\ Ev_strconv_ParseUint (bs l) 10 64 ((n : Int), decide (18446744073709551616 <= dvB l)) := by
 have args : ∀ {w : World} {S : Nat -> Prop} {vs : List Value}, All2 (RepV w S) [.v (.string (bs l)), .v (.int .i64 10), .v (.int .i64 64)] vs -> vs = [.string (bs l), .int .i64 10, .int .i64 64] := by
  intro w S vs h
  cases h with
  | cons h1 hr =>
   cases hr with
   | cons h2 hr2 =>
    cases hr2 with
    | cons h3 hr3 =>
     cases hr3
     simp only [RepV, RepD, List.cons.injEq, and_true] at h1 h2 h3
     rw [h1.1, h2.1, h3.1]
 have hp : Lib.parseUintB 64 (bs l).data.toList = if dvB l <= 18446744073709551615 then .ok (dvB l) else .range := by
  have e : (bs l).data.toList = l := by simp [bs]
  rw [e]
  unfold Lib.parseUintB
  rw [if_neg (by rintro rfl; simp at h1)]
  exact parse_digits rfl l 0 (span_all.1 h3) (by decide)
 have hsz : (bs l).size <= 200 := by rw [bs_size]; exact h2
 by_cases hlt : dvB l <= 18446744073709551615
 ·rw [if_pos hlt] at hp
  refine ⟨dvB l, by omega, fun _ => rfl, ?_⟩
  rw [decide_eq_false (by omega)]
  refine ⟨⟨_, Tryz.func178, by kernel_rfl, by kernel_rfl⟩, fun F w vs hgl hvs => ?_⟩
  rw [args hvs]
  refine Calls.mono (Any.strconv_ParseUint_10_at64_ok Tryz.laysPu14 (bs l) (by omega) _ hp w) ?_
  rintro e w' ⟨rfl, hw⟩
  refine ⟨_, rfl, ?_, rep_num _ _ false (.inl ⟨rfl, rfl⟩)⟩
  rcases hw with rfl | rfl
  ·exact Below.refl _ _
  ·exact ⟨rfl, rfl, rfl, by rw [Lib.bytesWorld_size]; omega, fun j hj => Lib.bytesWorld_at_old w _ _ j hj⟩
 ·rw [if_neg hlt] at hp
  refine ⟨18446744073709551615, by decide, fun h => by omega, ?_⟩
  rw [decide_eq_true (by omega)]
  refine ⟨⟨_, Tryz.func178, by kernel_rfl, by kernel_rfl⟩, fun F w vs hgl hvs => ?_⟩
  rw [args hvs]
  have hG : GW w := hgl w (Nat.le_refl _) fun _ _ _ => rfl
  obtain ⟨t, p, he⟩ := hG.err5
  refine Calls.mono (Any.strconv_ParseUint_10_at64_range Tryz.laysPu14 (bs l) (by omega) hp _ w he (.inr ⟨t, p, rfl⟩)) ?_
  rintro e w' ⟨N, rfl, _, _, hb⟩
  exact ⟨_, rfl, hb, rep_num 18446744073709551615 _ true (.inr ⟨rfl, _, _, rfl⟩)⟩
theorem strx_ok : StrOkX := ⟨str_ok, atoi_evX, parse_evX⟩
end Go.Sim.YtomeghkmdcfolaaGreatDoor

/- What is proved: both Lex yield one thing. -/
namespace Go.Sim.YtomeghkmdcfolaaGreatDoor
open Go.RowKit Go.Proofs Go.Proofs.Tryz
def lexK : LexL := ⟨fun s => readS (tl s 0), fun c => Lib.indexByte signs.data.toList c.toNat.toUInt8, wordsM⟩
theorem ix_sign : ∀ b : UInt8, Lib.indexByte signs.data.toList b < 0 ↔ sgL.contains (b.toNat : Int) = false := by
 have h : ∀ n : Fin 256, decide (Lib.indexByte signs.data.toList (UInt8.ofNat n.val) < 0) = decide (sgL.contains ((UInt8.ofNat n.val).toNat : Int) = false) := by decide +kernel
 intro b
 have := h ⟨b.toNat, b.toNat_lt⟩
 simp only [UInt8.ofNat_toNat] at this
 exact decide_eq_decide.1 this
theorem lexK_ok : lexK.Ok where
 rd := fun s hs => by
  have := xread_ev strx_ok (l := tl s 0) (by rw [tl_len]; omega)
  rw [bs_tl] at this
  exact this
 ix := fun b => by
  have := index_ev b
  rw [show Lib.indexByte signs.data.toList b = Lib.indexByte signs.data.toList ((b.toNat : Int).toNat).toUInt8 by simp] at this
  exact this
 wd := wordsM_ev
theorem lexK_ref : RefOk lexK where
 rd := fun s hs => by
  have := refread_ev strx_ok (l := tl s 0) (by rw [tl_len]; omega)
  rw [bs_tl] at this
  exact this
 ix := fun b => by
  have := ix_sign b
  show Lib.indexByte signs.data.toList ((b.toNat : Int).toNat).toUInt8 < 0 ↔ _
  rw [show ((b.toNat : Int).toNat).toUInt8 = b by simp]
  exact this
 wd := fun s hs => by
  have h1 := refWord_ev hs
  have h2 := wordB (tl s 0)
  rw [bs_tl] at h2
  show Ev_ref12_Word s (mget wordsM s).isSome
  rw [h2]; exact h1
theorem lex_both (s : ByteArray) : Ev_lex_Lex s (lexS lexK (tl s 0)) /\ Ev_ref12_Lex s (lexS lexK (tl s 0)) := by
 refine ⟨lex_ev lexK_ok s, ?_⟩
 have := reflex_ev lexK_ref (tl s 0)
 rw [bs_tl] at this
 exact this
end Go.Sim.YtomeghkmdcfolaaGreatDoor
