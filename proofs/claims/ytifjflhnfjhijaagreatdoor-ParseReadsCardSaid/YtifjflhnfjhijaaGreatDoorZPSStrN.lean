/- What is proved: what the library's functions for strings and numbers yield for rat.Read. -/
import Derived.Test.YtifjflhnfjhijaaGreatDoorZPSRatR
import Derived.Test.YtifjflhnfjhijaaGreatDoorZPSShelf
import Derived.Lib.ParseIntBCases
import Derived.Lib.SlTrimSet
import Derived.ProofKit
import Derived.Test.YtifjflhnfjhijaaGreatDoorZPSWL
import Derived.Test.YtifjflhnfjhijaaGreatDoorZPSPevD

namespace Go.Sim.YtifjflhnfjhijaaGreatDoor
open Go.RowKit Go.Proofs Go.Proofs.Tryz
theorem qLe {w : World} {S : Nat -> Prop} {a : ByteArray} {vs : List Value} (h : All2 (RepV w S) [.v (.string a)] vs) : vs = [.string a] := by
 cases h with
 | cons h1 hr =>
  cases hr
  simp only [RepV, RepD, List.cons.injEq, and_true] at h1
  rw [h1.1]
theorem qVx {w : World} {S : Nat -> Prop} {a b : ByteArray} {vs : List Value} (h : All2 (RepV w S) [.v (.string a), .v (.string b)] vs) : vs = [.string a, .string b] := by
 cases h with
 | cons h1 hr =>
  rw [qLe hr]
  simp only [RepV, RepD, List.cons.injEq, and_true] at h1
  rw [h1.1]
theorem qMn (f : Int -> Bool) (cs : List UInt8) (h : ∀ b : UInt8, cs.contains b = f (b.toNat : Int)) : ∀ l : List UInt8, Lib.trimLeftS l cs = l.drop (span f l)
 | [] => rfl
 | b :: l => by
  have ih := qMn f cs h l
  unfold Lib.trimLeftS at ih ⊢
  by_cases hb : f (b.toNat : Int) = true
  ·rw [List.dropWhile_cons_of_pos (by rw [h]; exact hb), ih, show span f (b :: l) = span f l + 1 by rw [span, if_pos hb]]; rfl
  ·rw [List.dropWhile_cons_of_neg (by rw [h]; exact hb), show span f (b :: l) = 0 by rw [span, if_neg hb]]; rfl
theorem qP2 (s cs : ByteArray) (f : Int -> Bool) (h1 : cs.size < 4294967281) (h2 : ∀ (j : Nat) b, cs.data.toList[j]? = some b -> b.toNat < 128) (h3 : ∀ b : UInt8, cs.data.toList.contains b = f (b.toNat : Int)) :
    q17 s cs (bs ((tl s 0).drop (span f (tl s 0)))) := by
  refine ⟨⟨_, Tryz.func110, by kernel_rfl, by kernel_rfl⟩, fun F w vs hgl hvs => ?_⟩
  rw [qVx hvs]
  refine Calls.mono (Any.strings_TrimLeft_laid Tryz.lays161 (by kernel_rfl) s cs w h1 h2) ?_
  rintro e w' ⟨rfl, hb⟩
  refine ⟨_, rfl, hb, ?_⟩
  rw [qMn f _ h3]
  unfold bs tl
  rw [List.drop_zero]
  exact ⟨rfl, rfl⟩
theorem qVy : ∀ b : UInt8, tens.data.toList.contains b = q05 (b.toNat : Int) := by
 have h : ∀ n : Fin 256, tens.data.toList.contains (UInt8.ofNat n.val) = q05 ((UInt8.ofNat n.val).toNat : Int) := by decide +kernel
 intro b
 have := h ⟨b.toNat, b.toNat_lt⟩
 simpa using this
theorem qVz : ∀ b : UInt8, (ByteArray.mk #[48]).data.toList.contains b = qJf (b.toNat : Int) := by
 have h : ∀ n : Fin 256, (ByteArray.mk #[48]).data.toList.contains (UInt8.ofNat n.val) = qJf ((UInt8.ofNat n.val).toNat : Int) := by decide +kernel
 intro b
 have := h ⟨b.toNat, b.toNat_lt⟩
 simpa using this
theorem qCw {b : UInt8} (h : q05 (b.toNat : Int) = true) : 48 <= b.toNat /\ b.toNat <= 57 := by
 unfold q05 at h; simp only [Bool.and_eq_true, decide_eq_true_eq] at h; omega
theorem qW0 (l : List UInt8) (h1 : 1 <= l.length) (h2 : l.length <= 2) (h3 : span q05 l = l.length) : ∃ n : Int, q0z (bs l) (n, false) /\ 0 <= n /\ n <= 99 := by
 have key : ∃ n : Int, Lib.atoi l = some n /\ 0 <= n /\ n <= 99 := by
  have dig1 : ∀ (b : UInt8) (t : List UInt8), span q05 (b :: t) = (b :: t).length -> q05 (b.toNat : Int) = true /\ span q05 t = t.length := by
   intro b t h
   by_cases hb : q05 (b.toNat : Int) = true
   ·rw [span, if_pos hb] at h; exact ⟨hb, by simpa using h⟩
   ·rw [span, if_neg hb] at h; simp at h
  have one : ∀ n : Fin 256, q05 ((UInt8.ofNat n.val).toNat : Int) = true -> ∃ m : Fin 10, Lib.atoi [UInt8.ofNat n.val] = some (m.val : Int) := by decide +kernel
  match l, h1, h2, h3 with
  | [b], _, _, h =>
   obtain ⟨hb, _⟩ := dig1 b [] h
   obtain ⟨m, hm⟩ := one ⟨b.toNat, b.toNat_lt⟩ (by simpa using hb)
   exact ⟨m.val, by simpa using hm, by omega, by omega⟩
  | [b, c], _, _, h =>
   obtain ⟨hb, h'⟩ := dig1 b [c] h
   obtain ⟨hc, _⟩ := dig1 c [] h'
   have e1 := qCw hb
   have e2 := qCw hc
   have dv : ∀ d : UInt8, 48 <= d.toNat /\ d.toNat <= 57 -> Lib.digitVal d = some (d.toNat - 48) := by
    intro d hd
    unfold Lib.digitVal
    first | (rw [if_pos hd]; done) | (simp [hd.1, hd.2]; done) | (rw [if_pos (by simp only [UInt8.le_iff_toNat_le]; exact hd)])
   have nb : (b == 45) = false /\ (b == 43) = false := by
    constructor <;> (apply beq_false_of_ne; rintro rfl; simp at e1)
   refine ⟨((((0 * 10 + (b.toNat - 48)) * 10 + (c.toNat - 48) : Nat) : Nat) : Int), ?_, by omega, by omega⟩
   simp [Lib.atoi, nb.1, nb.2, Lib.decNat, Lib.decFrom, dv b e1, dv c e2]
 obtain ⟨n, hn, h0, h9⟩ := key
 refine ⟨n, ⟨⟨_, Tryz.func60, by kernel_rfl, by kernel_rfl⟩, fun F w vs hgl hvs => ?_⟩, h0, h9⟩
 rw [qLe hvs]
 refine Calls.mono (Tryz.strconv_Atoi (bs l) n (by rw [q0f]; omega) hn w) ?_
 rintro e w' ⟨rfl, t, rfl⟩
 refine ⟨_, rfl, ⟨rfl, rfl, rfl, by rw [Lib.bytesWorld_size]; omega, fun j hj => Lib.bytesWorld_at_old w _ t j hj⟩, ⟨[.int .i64 n, .nilIface], rfl, .cons (.inr ⟨rfl, rfl, rfl⟩) (.cons (.inr ⟨rfl, rfl, rfl⟩) .nil)⟩⟩
theorem qJj {w : World} {S : Nat -> Prop} (n : Nat) (v : Value) (b : Bool) (h : (b = false /\ v = .nilIface) \/ (b = true /\ ∃ t u, v = .iface t u)) :
    RepV w S (.tup [.v (.int .u64 (n : Int)), eErr b]) (.tuple #[.int .u64 (n : Int), v]) := by
  refine ⟨[.int .u64 (n : Int), v], rfl, .cons (.inr ⟨rfl, rfl, rfl⟩) (.cons ?_ .nil)⟩
  rcases h with ⟨rfl, rfl⟩ | ⟨rfl, t, u, rfl⟩
  · exact .inr ⟨rfl, rfl, rfl⟩
  · exact .inr ⟨rfl, _, rfl, rfl, t, u, rfl⟩
theorem qTq (s : ByteArray) (hs : s.size <= 20000) : ∃ (n : Nat) (e : Bool), n < 18446744073709551616 /\ q1c s 10 64 ((n : Int), e) := by
 have args : ∀ {w : World} {S : Nat -> Prop} {vs : List Value}, All2 (RepV w S) [.v (.string s), .v (.int .i64 10), .v (.int .i64 64)] vs -> vs = [.string s, .int .i64 10, .int .i64 64] := by
  intro w S vs h
  cases h with
  | cons h1 hr =>
   cases hr with
   | cons h2 hr2 =>
    cases hr2 with
    | cons h3 hr3 =>
     cases hr3
     simp only [RepV, RepD, List.cons.injEq, and_true] at h1 h2 h3
     rw [h1.1, h2.1, h3.1]
 cases hp : Lib.parseUintB 64 s.data.toList with
 | ok u =>
  have hu := Lib.parseUintB_le hp
  refine ⟨u, false, by simp at hu; omega, ⟨_, Tryz.func142, by kernel_rfl, by kernel_rfl⟩, fun F w vs hgl hvs => ?_⟩
  rw [args hvs]
  refine Calls.mono (Any.strconv_ParseUint_10_at64_ok Tryz.laysPu14 s (by omega) u hp w) ?_
  rintro e w' ⟨rfl, hw⟩
  refine ⟨_, rfl, ?_, qJj u _ false (.inl ⟨rfl, rfl⟩)⟩
  rcases hw with rfl | rfl
  ·exact Below.refl _ _
  ·exact ⟨rfl, rfl, rfl, by rw [Lib.bytesWorld_size]; omega, fun j hj => Lib.bytesWorld_at_old w _ s j hj⟩
 | range =>
  refine ⟨18446744073709551615, true, by decide, ⟨_, Tryz.func142, by kernel_rfl, by kernel_rfl⟩, fun F w vs hgl hvs => ?_⟩
  rw [args hvs]
  have hG : GW w := hgl w (Nat.le_refl _) fun _ _ _ => rfl
  obtain ⟨t, p, he⟩ := hG.err5
  refine Calls.mono (Any.strconv_ParseUint_10_at64_range Tryz.laysPu14 s (by omega) hp _ w he (.inr ⟨t, p, rfl⟩)) ?_
  rintro e w' ⟨N, rfl, _, _, hb⟩
  exact ⟨_, rfl, hb, qJj 18446744073709551615 _ true (.inr ⟨rfl, _, _, rfl⟩)⟩
 | _ =>
  refine ⟨0, true, by decide, ⟨_, Tryz.func142, by kernel_rfl, by kernel_rfl⟩, fun F w vs hgl hvs => ?_⟩
  rw [args hvs]
  have hG : GW w := hgl w (Nat.le_refl _) fun _ _ _ => rfl
  obtain ⟨t, p, he⟩ := hG.err4
  refine Calls.mono (Any.strconv_ParseUint_10_at64_syntax Tryz.laysPu14 s (by omega) hp _ w he (.inr ⟨t, p, rfl⟩)) ?_
  rintro e w' ⟨N, rfl, _, _, hb⟩
  exact ⟨_, rfl, hb, qJj 0 _ true (.inr ⟨rfl, _, _, rfl⟩)⟩
theorem qYo : qVv where
 t10 := fun s _ => qP2 s tens q05 (by decide) (by
  have : ∀ b ∈ tens.data.toList, b.toNat < 128 := by decide +kernel
  exact fun j b h => this b (List.mem_of_getElem? h)) qVy
 t0 := fun s _ => qP2 s _ qJf (by decide) (by
  have : ∀ b ∈ (ByteArray.mk #[48]).data.toList, b.toNat < 128 := by decide +kernel
  exact fun j b h => this b (List.mem_of_getElem? h)) qVz
 atoi := qW0
 pu := qTq
end Go.Sim.YtifjflhnfjhijaaGreatDoor

/- What is proved: the lexer's steps, as plain functions of the text that is left. -/
namespace Go.Sim.YtifjflhnfjhijaaGreatDoor
open Go.RowKit Go.Proofs Go.Proofs.Tryz
def lx (s : ByteArray) (p : Nat) (w : List (ByteArray × Unit)) : Glexlexer := ⟨s, p, w⟩
theorem q93 {s : ByteArray} {p : Nat} {w : List (ByteArray × Unit)} (hs : s.size <= 9000000000) (hp : p <= s.size) {is : DV} {f : Int -> Bool} (hf : ∀ b : UInt8, FVal prog is [.v (.int .u8 (b.toNat : Int))] (.v (.bool (f b.toNat)))) :
    q0x (lx s p w) is (lx s (p + span f (tl s p)) w) := by
  refine qDl ?_
  unfold q7g
  refine ⟨fun x => ∃ q, x = lx s q w /\ q <= s.size /\ q + span f (tl s q) = p + span f (tl s p), fun x => s.size - x.at_.toNat, ⟨p, rfl, hp, rfl⟩, ?_⟩
  rintro _ ⟨q, rfl, hq, he⟩
  show Br (decide ((q : Int) < ((s.size : Nat) : Int))) _ _
  refine Br.d (fun h => ?_) (fun h => ?_)
  · obtain ⟨b, hb, ht⟩ := qNy (s := s) (p := q) (by omega)
    refine AtS.nat hb (Call.mk (hf b) ?_)
    rw [ht] at he
    cases hfb : f b.toNat with
    | true =>
      rw [show span f (b :: tl s (q + 1)) = span f (tl s (q + 1)) + 1 by rw [span, if_pos hfb]] at he
      refine Br.t rfl (Let.as ((q + 1 : Nat) : Int) (wi1 (by omega)) ⟨⟨q + 1, rfl, by omega, by omega⟩, ?_⟩)
      show s.size - ((q + 1 : Nat) : Int).toNat < s.size - ((q : Nat) : Int).toNat
      rw [Int.toNat_natCast, Int.toNat_natCast]; omega
    | false =>
      rw [show span f (b :: tl s (q + 1)) = 0 by rw [span, if_neg (by simp [hfb])]] at he
      exact Br.f rfl (by show lx s q w = _; rw [← he]; rfl)
  · have : q = s.size := by omega
    subst this
    rw [qUu (Nat.le_refl _)] at he
    show lx s s.size w = _
    rw [← he]; rfl
theorem q8l {s : ByteArray} {p : Nat} {w : List (ByteArray × Unit)} (hs : s.size <= 9000000000) (hp : p <= s.size) (n : Nat) (hn : n <= 10) : q0n (lx s p w) (n : Int) (peek (tl s p) n) := by
 refine qEb ?_
 unfold q84
 have e : IntKind.i64.wrap ((p : Int) + (n : Int)) = ((p + n : Nat) : Int) := by rw [wi (by omega) (by omega)]; omega
 refine Let.as _ e (Br.d (fun h => Let.as _ e ?_) (fun h => ?_))
 ·have hlt : p + n < s.size := by show p + n < s.size; have : ((p + n : Nat) : Int) < ((s.size : Nat) : Int) := h; omega
  obtain ⟨b, hb, ht⟩ := qNy hlt
  refine AtS.nat hb ?_
  show _ = peek (tl s p) n
  unfold peek
  have : (tl s p)[n]? = some b := by
   have h1 : (tl s (p + n))[0]? = some b := by rw [ht]; rfl
   rw [qRu] at h1 ⊢; exact h1
  rw [this]
 ·have hge : s.size <= p + n := by have : ¬ ((p + n : Nat) : Int) < ((s.size : Nat) : Int) := h; omega
  show (0 : Int) = peek (tl s p) n
  unfold peek
  rw [List.getElem?_eq_none (by rw [q90]; omega)]
def q4z (c : Int) : Bool := decide (bits .or .u8 c 32 >= 97) && decide (bits .or .u8 c 32 <= 122)
def q20 (c : Int) : Bool := c == 32 || c == 9 || c == 10 || c == 13
def q7x (c : Int) : Bool := c != 10
def q7y (c : Int) : Bool := q4z c || q05 c || c == 95
theorem qMo (c : Int) : q8f c (q4z c) := by
 refine qJc ?_
 unfold qCr
 refine Let.as _ rfl (Br.d (fun h => Let.as _ rfl ?_) (fun h => ?_))
 ·show _ = q4z c; unfold q4z; rw [decide_eq_true h, Bool.true_and]
 ·show _ = q4z c; unfold q4z; rw [decide_eq_false h, Bool.false_and]
theorem qF2 (c : Int) : q3y c (q05 c) := by
 refine qK3 ?_
 unfold qEd
 refine Br.d (fun h => ?_) (fun h => ?_)
 ·show _ = q05 c; unfold q05; rw [decide_eq_true h, Bool.true_and]
 ·show _ = q05 c; unfold q05; rw [decide_eq_false h, Bool.false_and]
theorem qP3 (c : Int) : q3w c (q20 c) := by
 refine qB3 ?_
 unfold q4x q20
 cases h1 : c == 32 <;> cases h2 : c == 9 <;> cases h3 : c == 10 <;> cases h4 : c == 13 <;> simp [Br]
theorem qW1 (c : Int) : q3x c (q7x c) := by
 refine qB4 ?_
 unfold q4y
 rfl
theorem qTr (c : Int) : q5c c (q7y c) := by
 refine qCt ?_
 unfold q6v q7y
 refine Call.mk (qMo c) ?_
 cases h1 : q4z c with
 | true => exact Br.t rfl rfl
 | false =>
  refine Br.f rfl (Call.mk (qF2 c) ?_)
  cases h2 : q05 c with
  | true => exact Br.t rfl rfl
  | false => exact Br.f rfl rfl
theorem qMp {l : List UInt8} (h : peek l 0 = 47) : 0 < span q7x l := by
 cases l with
 | nil => simp [peek] at h
 | cons b l =>
  have : (b.toNat : Int) = 47 := by simpa [peek] using h
  unfold span
  rw [if_pos (by rw [this]; rfl)]; omega
def cm (l : List UInt8) : Nat :=
 if h : peek l 0 = 47 /\ peek l 1 = 47 then
  span q7x l + (span q20 (l.drop (span q7x l)) + cm ((l.drop (span q7x l)).drop (span q20 (l.drop (span q7x l)))))
 else 0
termination_by l.length
decreasing_by
 have h1 := qMp h.1
 have h2 := q1o q7x l
 simp only [List.length_drop]
 omega
def skip (l : List UInt8) : Nat := span q20 l + cm (l.drop (span q20 l))
theorem z09 (l : List UInt8) : cm l <= l.length := by
 induction hn : l.length using Nat.strongRecOn generalizing l with
 | _ n ih =>
  rw [cm]
  split
  ·rename_i h
   have h1 := qMp h.1
   have h2 := q1o q7x l
   have h3 := q1o q20 (l.drop (span q7x l))
   have := ih _ (by simp only [List.length_drop]; omega) ((l.drop (span q7x l)).drop (span q20 (l.drop (span q7x l)))) rfl
   simp only [List.length_drop] at this h3 ⊢
   omega
  ·omega
theorem qJk (l : List UInt8) : skip l <= l.length := by
 unfold skip
 have h1 := q1o q20 l
 have h2 := z09 (l.drop (span q20 l))
 rw [List.length_drop] at h2
 omega
theorem qMq {s : ByteArray} {p : Nat} {w : List (ByteArray × Unit)} (hs : s.size <= 9000000000) (hp : p <= s.size) : q2x (lx s p w) (lx s (p + skip (tl s p)) w) := by
 refine qCq ?_
 unfold q6t
 have hl := q1o q20 (tl s p)
 rw [q90] at hl
 refine Call.mk (q93 hs hp fun b => q6d (qP3 _)) ?_
 refine ⟨fun x => ∃ q, x = lx s q w /\ q <= s.size /\ q + cm (tl s q) = p + skip (tl s p), fun x => s.size - x.at_.toNat, ⟨_, rfl, by omega, ?_⟩, ?_⟩
 ·unfold skip; rw [q5n]; omega
 rintro _ ⟨q, rfl, hq, he⟩
 refine Call.mk (q8l hs hq 0 (by decide)) ?_
 have no : ¬ (peek (tl s q) 0 = 47 /\ peek (tl s q) 1 = 47) -> lx s q w = lx s (p + skip (tl s p)) w := by
  intro h
  rw [cm, dif_neg h] at he
  rw [← he]; rfl
 refine Br.e (fun h0 => Call.mk (q8l hs hq 1 (by decide)) (Br.e (fun h1 => ?_) (fun h1 => no fun h => h1 h.2))) (fun h0 => no fun h => h0 h.1)
 have k1 := q1o q7x (tl s q)
 rw [q90] at k1
 have k0 := qMp h0
 have k2 := q1o q20 (tl s (q + span q7x (tl s q)))
 rw [q90] at k2
 rw [cm, dif_pos ⟨h0, h1⟩, q5n, q5n] at he
 refine Call.mk (q93 hs hq fun b => qAk (qW1 _)) (Call.mk (q93 hs (by omega) fun b => q6d (qP3 _)) ⟨⟨_, rfl, by omega, by omega⟩, ?_⟩)
 show s.size - ((q + span q7x (tl s q) + span q20 (tl s (q + span q7x (tl s q))) : Nat) : Int).toNat < s.size - ((q : Nat) : Int).toNat
 rw [Int.toNat_natCast, Int.toNat_natCast]; omega
end Go.Sim.YtifjflhnfjhijaaGreatDoor

/- What is proved: the lexer's tokens, and what Lex yields, as plain functions of the text. -/
namespace Go.Sim.YtifjflhnfjhijaaGreatDoor
open Go.RowKit Go.Proofs Go.Proofs.Tryz
structure LexL where
 rd : ByteArray -> GRat × Int
 ix : Int -> Int
 wd : List (ByteArray × Unit)
abbrev signs : ByteArray := ByteArray.mk #[40, 41, 91, 93, 44, 59, 58, 46, 61, 43, 45, 42, 47, 94]
structure LexL.Ok (L : LexL) : Prop where
 rd : ∀ s, s.size <= 20000 -> q8s s (L.rd s)
 ix : ∀ b : UInt8, q4j signs (b.toNat : Int) (L.ix b.toNat)
 wd : q9c L.wd
def q86 (l : List UInt8) (a : Nat) : Nat := if peek l a = 46 /\ q05 (peek l (a + 1)) = true then a + 1 + span q05 (l.drop (a + 1)) else a
def q1p (l : List UInt8) (b : Nat) : Nat := if peek l (b + 1) = 43 \/ peek l (b + 1) = 45 then 2 else 1
def qA6 (l : List UInt8) (b : Nat) : Nat :=
 if bits .or .u8 (peek l b) 32 = 101 /\ q05 (peek l (b + q1p l b)) = true then b + q1p l b + span q05 (l.drop (b + q1p l b)) else b
def q55 (l : List UInt8) : Nat := qA6 l (q86 l (span q05 l))
theorem qMr {c : Int} (h : q05 c = true) : c ≠ 0 := by
 unfold q05 at h; simp only [Bool.and_eq_true, decide_eq_true_eq] at h; omega
theorem qG8 {l : List UInt8} {a : Nat} (h : a <= l.length) : a <= q86 l a /\ q86 l a <= l.length := by
 unfold q86
 split
 ·rename_i hc
  have h1 := q8k (qMr hc.2)
  have h2 := q1o q05 (l.drop (a + 1))
  rw [List.length_drop] at h2
  omega
 ·omega
theorem qMs {l : List UInt8} {b : Nat} (h : b <= l.length) : b <= qA6 l b /\ qA6 l b <= l.length := by
 unfold qA6
 split
 ·rename_i hc
  have h1 := q8k (qMr hc.2)
  have h2 := q1o q05 (l.drop (b + q1p l b))
  rw [List.length_drop] at h2
  omega
 ·omega
theorem qMt (l : List UInt8) : span q05 l <= q55 l /\ q55 l <= l.length := by
 have h1 := qG8 (q1o q05 l)
 have h2 := qMs h1.2
 unfold q55
 omega
variable {L : LexL}
theorem qRx (hL : L.Ok) {s : ByteArray} {p : Nat} (hs : s.size <= 20000) (hp : p <= s.size) :
    q5a (lx s p L.wd) (({ GToken.zero with Kind := 3, Num := (L.rd (bs ((tl s p).take (q55 (tl s p))))).1, At := p }, (L.rd (bs ((tl s p).take (q55 (tl s p))))).2), lx s (p + q55 (tl s p)) L.wd) := by
  have hs9 : s.size <= 9000000000 := by omega
  refine qCs ?_
  unfold q6u
  have hdig : ∀ b : UInt8, FVal prog q7r [.v (.int .u8 (b.toNat : Int))] (.v (.bool (q05 b.toNat))) := fun b => qJs (qF2 _)
  obtain ⟨l, hl⟩ : ∃ l, l = tl s p := ⟨_, rfl⟩
  have pk : ∀ a n, peek (tl s (p + a)) n = peek l (a + n) := fun a n => by rw [← q5n, q91, hl]
  have ln : l.length = s.size - p := by rw [hl, q90]
  have ha := q1o q05 l
  obtain ⟨a, ea⟩ : ∃ a, a = span q05 l := ⟨_, rfl⟩
  have hfr := qG8 (l := l) (a := a) (by omega)
  have hex := qMs hfr.2
  have hn : q55 l = qA6 l (q86 l a) := by rw [ea]; rfl
  rw [← hl]
  have w1 := q93 (w := L.wd) hs9 hp hdig
  rw [← hl, ← ea] at w1
  refine Call.mk w1 ⟨fun x => x = decide (peek l a = 46 /\ q05 (peek l (a + 1)) = true), ?_, ?_⟩
  · have n0 := q8l (w := L.wd) (p := p + a) hs9 (by omega) 0 (by decide)
    have n1 := q8l (w := L.wd) (p := p + a) hs9 (by omega) 1 (by decide)
    rw [pk] at n0 n1
    refine Call.mk n0 (Br.e (fun h => Call.mk n1 (Call.mk (qF2 _) ?_)) (fun h => ?_))
    · have h' : peek l a = 46 := h
      show q05 (peek l (a + 1)) = _
      cases hd : q05 (peek l (a + 1)) <;> simp [h']
    · have h' : ¬ peek l a = 46 := h
      show false = _
      simp [h']
  rintro _ rfl
  refine ⟨fun x => x = lx s (p + q86 l a) L.wd, ?_, ?_⟩
  · refine Br.d (fun h => ?_) (fun h => ?_)
    · have h1 := q8k (qMr h.2)
      refine Let.as ((p + a + 1 : Nat) : Int) (wi1 (by omega)) ?_
      have w2 := q93 (w := L.wd) (p := p + a + 1) hs9 (by omega) hdig
      refine Call.mk w2 ?_
      show lx _ _ _ = _
      unfold q86
      rw [if_pos h, show p + (a + 1 + span q05 (l.drop (a + 1))) = p + a + 1 + span q05 (tl s (p + a + 1)) by rw [hl, q5n, Nat.add_assoc p a]; omega]
    · show lx _ _ _ = _
      unfold q86
      rw [if_neg h]
  rintro _ rfl
  obtain ⟨b, eb⟩ : ∃ b, b = q86 l a := ⟨_, rfl⟩
  rw [← eb] at hfr hex hn ⊢
  have n0 := q8l (w := L.wd) (p := p + b) hs9 (by omega) 0 (by decide)
  have n1 := q8l (w := L.wd) (p := p + b) hs9 (by omega) 1 (by decide)
  have n2 := q8l (w := L.wd) (p := p + b) hs9 (by omega) 2 (by decide)
  rw [pk] at n0 n1 n2
  refine Call.mk n0 (Let.as _ rfl ⟨fun x => x = lx s (p + qA6 l b) L.wd, ?_, ?_⟩)
  · refine Br.e (fun h => Call.mk n1 ⟨fun x => x = decide (peek l (b + 1) = 43 \/ peek l (b + 1) = 45), ?_, ?_⟩) (fun h => ?_)
    · refine Br.e (fun h1 => ?_) (fun h1 => ?_)
      · have h1' : peek l (b + 1) = 43 := h1
        show true = _; simp [h1']
      · have h1' : ¬ peek l (b + 1) = 43 := h1
        show (peek l (b + 1) == 45) = _
        by_cases h2 : peek l (b + 1) = 45
        · simp [h2]
        · rw [decide_eq_false (fun h3 => h3.elim h1' h2)]; exact beq_false_of_ne h2
    · rintro _ rfl
      refine ⟨fun x => x = ((q1p l b : Nat) : Int), ?_, ?_⟩
      · refine Br.d (fun h1 => ?_) (fun h1 => ?_)
        · show (2 : Int) = _; unfold q1p; rw [if_pos h1]; rfl
        · show (1 : Int) = _; unfold q1p; rw [if_neg h1]; rfl
      · rintro _ rfl
        have hsk : q1p l b = 1 \/ q1p l b = 2 := by unfold q1p; split <;> simp
        have n3 : q0n (lx s (p + b) L.wd) ((q1p l b : Nat) : Int) (peek l (b + q1p l b)) := by
          rcases hsk with e | e <;> rw [e]
          · exact n1
          · exact n2
        refine Call.mk n3 (Call.mk (qF2 _) ?_)
        have h' : bits .or .u8 (peek l b) 32 = 101 := h
        cases hd : q05 (peek l (b + q1p l b)) with
        | true =>
          have h1 := q8k (qMr hd)
          refine Br.t rfl (Let.as ((p + b + q1p l b : Nat) : Int) (by show IntKind.i64.wrap (((p + b : Nat) : Int) + ((q1p l b : Nat) : Int)) = _; rw [wi (by omega) (by omega)]; omega) ?_)
          have w2 := q93 (w := L.wd) (p := p + b + q1p l b) hs9 (by omega) hdig
          refine Call.mk w2 ?_
          show lx _ _ _ = _
          unfold qA6
          rw [if_pos ⟨h', hd⟩, show p + (b + q1p l b + span q05 (l.drop (b + q1p l b))) = p + b + q1p l b + span q05 (tl s (p + b + q1p l b)) by rw [hl, q5n, Nat.add_assoc p b]; omega]
        | false =>
          refine Br.f rfl ?_
          show lx _ _ _ = _
          unfold qA6
          rw [if_neg (by simp [hd])]
    · have h' : ¬ bits .or .u8 (peek l b) 32 = 101 := h
      show lx _ _ _ = _
      unfold qA6
      rw [if_neg (fun hc => h' hc.1)]
  rintro _ rfl
  rw [← hn] at hex ⊢
  show SlS s (p : Int) ((p + q55 l : Nat) : Int) _
  refine SlS.tl (by omega) ?_
  rw [← hl]
  exact Call.mk (hL.rd _ (by rw [q0f, List.length_take]; omega)) rfl
end Go.Sim.YtifjflhnfjhijaaGreatDoor
