/- What is proved: what the library's functions for strings and numbers yield, exactly. -/
import Derived.Test.YtnnfiohdkobkdaaGreatDoorZPBStrN
import Derived.Test.YtnnfiohdkobkdaaGreatDoorZPBRatV
import Derived.Test.YtnnfiohdkobkdaaGreatDoorZPBLexD
import Derived.Test.YtnnfiohdkobkdaaGreatDoorZPBParU

namespace Go.Sim.YtnnfiohdkobkdaaGreatDoor
open Go.RowKit Go.Proofs Go.Proofs.Tryz
theorem atoi_evX (l : List UInt8) (h1 : 1 <= l.length) (h2 : l.length <= 2) (h3 : span digitB l = l.length) : Ev_strconv_Atoi (bs l) ((dvB l : Int), false) := by
 have key : Lib.atoi l = some (dvB l : Int) := by
  have dv : ∀ d : UInt8, 48 <= d.toNat /\ d.toNat <= 57 -> Lib.digitVal d = some (d.toNat - 48) := by
   intro d hd
   unfold Lib.digitVal
   first | (rw [if_pos hd]; done) | (simp [hd.1, hd.2]; done) | (rw [if_pos (by simp only [UInt8.le_iff_toNat_le]; exact hd)])
  have sub : ∀ d : UInt8, 48 <= d.toNat -> ((d.toNat : Int) - 48).toNat = d.toNat - 48 := fun d hd => by omega
  match l, h1, h2, h3 with
  | [b], _, _, h =>
   have e1 := digit_val (span_all.1 h b (by simp))
   have nb : (b == 45) = false /\ (b == 43) = false := by
    constructor <;> (apply beq_false_of_ne; rintro rfl; simp at e1)
   simp [Lib.atoi, nb.1, nb.2, Lib.decNat, Lib.decFrom, dv b e1, dvB, dvA, sub b e1.1]
  | [b, c], _, _, h =>
   have e1 := digit_val (span_all.1 h b (by simp))
   have e2 := digit_val (span_all.1 h c (by simp))
   have nb : (b == 45) = false /\ (b == 43) = false := by
    constructor <;> (apply beq_false_of_ne; rintro rfl; simp at e1)
   simp [Lib.atoi, nb.1, nb.2, Lib.decNat, Lib.decFrom, dv b e1, dv c e2, dvB, dvA, sub b e1.1, sub c e2.1]
 refine ⟨⟨_, Tryz.func118, by kernel_rfl, by kernel_rfl⟩, fun F w vs hgl hvs => ?_⟩
 rw [one_str hvs]
 refine Calls.mono (Tryz.strconv_Atoi (bs l) _ (by rw [bs_size]; omega) key w) ?_
 rintro e w' ⟨rfl, t, rfl⟩
 refine ⟨_, rfl, ⟨rfl, rfl, rfl, by rw [Lib.bytesWorld_size]; omega, fun j hj => Lib.bytesWorld_at_old w _ t j hj⟩, ⟨[.int .i64 (dvB l : Int), .nilIface], rfl, .cons (.inr ⟨rfl, rfl, rfl⟩) (.cons (.inr ⟨rfl, rfl, rfl⟩) .nil)⟩⟩
theorem parse_evX (l : List UInt8) (h1 : 1 <= l.length) (h2 : l.length <= 200) (h3 : span digitB l = l.length) : ∃ n : Nat, n < 18446744073709551616 /\ (dvB l < 18446744073709551616 -> n = dvB l) /\ Ev_strconv_ParseUint (bs l) 10 64 ((n : Int), decide (18446744073709551616 <= dvB l)) := by
 have args : ∀ {w : World} {S : Nat -> Prop} {vs : List Value}, All2 (RepV w S) [.v (.string (bs l)), .v (.int .i64 10), .v (.int .i64 64)] vs -> vs = [.string (bs l), .int .i64 10, .int .i64 64] := by
  intro w S vs h
  cases h with
  | cons h1 hr =>
   cases hr with
   | cons h2 hr2 =>
    cases hr2 with
    | cons h3 hr3 =>
     cases hr3
     simp only [RepV, RepD, List.cons.injEq, and_true] at h1 h2 h3
     rw [h1.1, h2.1, h3.1]
 have hp : Lib.parseUintB 64 (bs l).data.toList = if dvB l <= 18446744073709551615 then .ok (dvB l) else .range := by
  have e : (bs l).data.toList = l := by simp [bs]
  rw [e]
  unfold Lib.parseUintB
  rw [if_neg (by rintro rfl; simp at h1)]
  exact parse_digits rfl l 0 (span_all.1 h3) (by decide)
 have hsz : (bs l).size <= 200 := by rw [bs_size]; exact h2
 by_cases hlt : dvB l <= 18446744073709551615
 ·rw [if_pos hlt] at hp
  refine ⟨dvB l, by omega, fun _ => rfl, ?_⟩
  rw [decide_eq_false (by omega)]
  refine ⟨⟨_, Tryz.func229, by kernel_rfl, by kernel_rfl⟩, fun F w vs hgl hvs => ?_⟩
  rw [args hvs]
  refine Calls.mono (Any.strconv_ParseUint_10_at64_ok Tryz.laysPu14 (bs l) (by omega) _ hp w) ?_
  rintro e w' ⟨rfl, hw⟩
  refine ⟨_, rfl, ?_, rep_num _ _ false (.inl ⟨rfl, rfl⟩)⟩
  rcases hw with rfl | rfl
  ·exact Below.refl _ _
  ·exact ⟨rfl, rfl, rfl, by rw [Lib.bytesWorld_size]; omega, fun j hj => Lib.bytesWorld_at_old w _ _ j hj⟩
 ·rw [if_neg hlt] at hp
  refine ⟨18446744073709551615, by decide, fun h => by omega, ?_⟩
  rw [decide_eq_true (by omega)]
  refine ⟨⟨_, Tryz.func229, by kernel_rfl, by kernel_rfl⟩, fun F w vs hgl hvs => ?_⟩
  rw [args hvs]
  have hG : GW w := hgl w (Nat.le_refl _) fun _ _ _ => rfl
  obtain ⟨t, p, he⟩ := hG.err5
  refine Calls.mono (Any.strconv_ParseUint_10_at64_range Tryz.laysPu14 (bs l) (by omega) hp _ w he (.inr ⟨t, p, rfl⟩)) ?_
  rintro e w' ⟨N, rfl, _, _, hb⟩
  exact ⟨_, rfl, hb, rep_num 18446744073709551615 _ true (.inr ⟨rfl, _, _, rfl⟩)⟩
theorem strx_ok : StrOkX := ⟨str_ok, atoi_evX, parse_evX⟩
end Go.Sim.YtnnfiohdkobkdaaGreatDoor

/- What is proved: what the callees of Lex yield. -/
namespace Go.Sim.YtnnfiohdkobkdaaGreatDoor
open Go.RowKit Go.Proofs Go.Proofs.Tryz
def lexK : LexL := ⟨fun s => readS (tl s 0), fun c => Lib.indexByte signs.data.toList c.toNat.toUInt8, wordsM⟩
theorem lexK_ok : lexK.Ok where
 rd := fun s hs => by
  have := xread_ev strx_ok (l := tl s 0) (by rw [tl_len]; omega)
  rw [bs_tl] at this
  exact this
 ix := fun b => by
  have := index_ev b
  rw [show Lib.indexByte signs.data.toList b = Lib.indexByte signs.data.toList ((b.toNat : Int).toNat).toUInt8 by simp] at this
  exact this
 wd := wordsM_ev
end Go.Sim.YtnnfiohdkobkdaaGreatDoor

/- What is proved: the tokens that Lex yields may be, and the last one is the end. -/
namespace Go.Sim.YtnnfiohdkobkdaaGreatDoor
open Go.RowKit Go.Proofs Go.Proofs.Tryz
theorem right_pos {a : GRat} (h : a.right = true) : a.D ≠ 0 := by
 have := (GRat.right_spec.1 h).1
 omega
theorem no_size : (ByteArray.mk #[]).size <= maxLen := by decide
theorem made_num (n d : Nat) : NumOk (toR (madeS false n d)).1 := by
 refine ⟨?_, ?_, right_pos⟩
 ·unfold madeS
  generalize n / Nat.gcd n d = x
  generalize d / Nat.gcd n d = y
  split
  ·exact ⟨oki (k := (x : Int)) (by omega) (by omega), oki (k := (y : Int)) (by omega) (by omega)⟩
  ·exact ⟨oki (k := 0) (by decide) (by decide), oki (k := 0) (by decide) (by decide)⟩
 ·unfold madeS
  generalize n / Nat.gcd n d = x
  split
  ·show (0 : Int) <= (x : Int); omega
  ·exact Int.le_refl 0
theorem zero_num : NumOk GRat.zero := ⟨⟨oki (k := 0) (by decide) (by decide), oki (k := 0) (by decide) (by decide)⟩, Int.le_refl 0, right_pos⟩
theorem readS_num (l : List UInt8) : NumOk (readS l).1 := by
 unfold readS
 split
 ·exact zero_num
 ·exact made_num _ _
theorem tok_tk {l : List UInt8} {p : Nat} (hl : l.length <= 20000) : TkOk (tok lexK l p).1.1 := by
 have z : TkOk GToken.zero := ⟨zero_num, no_size⟩
 have h1 : ∀ n, (bs (l.take n)).size <= maxLen := fun n => by rw [bs_size, List.length_take]; unfold maxLen; omega
 unfold tok
 split
 ·split
  ·exact z
  ·exact ⟨zero_num, h1 _⟩
 ·split
  ·exact ⟨readS_num _, no_size⟩
  ·split
   ·exact z
   ·split
    ·exact ⟨zero_num, h1 _⟩
    ·exact ⟨zero_num, h1 _⟩
theorem lexL_us : ∀ (m : Nat) (l : List UInt8) (p n : Nat), l.length <= m -> m <= 20000 -> (lexL lexK l p n).2.1 = 0 -> EndT (lexL lexK l p n).1 /\ (∀ t ∈ (lexL lexK l p n).1, TkOk t) /\ (lexL lexK l p n).1.length <= l.length + 1 := by
 intro m
 induction m with
 | zero =>
  intro l p n hl _ h
  rcases lexL_cases h with ⟨h0, e⟩ | ⟨h0, _⟩
  ·rw [e]; exact ⟨⟨[], _, rfl, rfl⟩, by intro t ht; rw [List.mem_singleton.1 ht]; exact ⟨zero_num, no_size⟩, by simp⟩
  ·exact absurd (List.eq_nil_of_length_eq_zero (Nat.le_zero.1 hl)) h0
 | succ m ih =>
  intro l p n hl hm h
  rcases lexL_cases h with ⟨h0, e⟩ | ⟨h0, h1, h2, h3, e⟩
  ·rw [e]; exact ⟨⟨[], _, rfl, rfl⟩, by intro t ht; rw [List.mem_singleton.1 ht]; exact ⟨zero_num, no_size⟩, by simp⟩
  ·obtain ⟨m1, m2, _⟩ := more_pos (L := lexK) h0 h2
   obtain ⟨⟨pre, u, e1, e2⟩, k2, k3⟩ := ih _ _ _ (by rw [List.length_drop]; omega) (by omega) h3
   rw [e]
   refine ⟨⟨_ :: pre, u, by rw [e1]; rfl, e2⟩, ?_, ?_⟩
   ·intro t ht
    rcases List.mem_cons.1 ht with rfl | ht
    ·exact tok_tk (by omega)
    ·exact k2 t ht
   ·rw [List.length_drop] at k3
    simp only [List.length_cons]; omega
theorem lexS_us {l : List UInt8} (h : (lexS lexK l).2.1 = 0) : Us ((lexS lexK l).1, 0) := by
 unfold lexS at h ⊢
 split at h
 ·simp at h
 ·rename_i hl
  rw [if_neg hl]
  obtain ⟨h1, h2, h3⟩ := lexL_us 20000 _ _ _ (by rw [List.length_drop]; omega) (Nat.le_refl _) h
  exact ⟨h1, h2, by show (lexL lexK _ _ _).1.length <= _; rw [List.length_drop] at h3; omega⟩
end Go.Sim.YtnnfiohdkobkdaaGreatDoor
