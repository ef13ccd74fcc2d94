/- What is proved: what the library's functions for strings and numbers yield, exactly. -/
import Derived.Test.YtifjflhnfjhijaaGreatDoorZPSStrN
import Derived.Test.YtifjflhnfjhijaaGreatDoorZPSRatV
import Derived.Test.YtifjflhnfjhijaaGreatDoorZPSLexD
import Derived.Test.YtifjflhnfjhijaaGreatDoorZPSParU
import Derived.Test.YtifjflhnfjhijaaGreatDoorZPSWE
import Derived.Test.YtifjflhnfjhijaaGreatDoorZPSPevD
import Derived.Test.YtifjflhnfjhijaaGreatDoorZPSWPv
import Derived.Test.YtifjflhnfjhijaaGreatDoorZPSBigY
import Derived.Test.YtifjflhnfjhijaaGreatDoorZPSPureK

namespace Go.Sim.YtifjflhnfjhijaaGreatDoor
open Go.RowKit Go.Proofs Go.Proofs.Tryz
theorem qTx (l : List UInt8) (h1 : 1 <= l.length) (h2 : l.length <= 2) (h3 : span q05 l = l.length) : q0z (bs l) ((dvB l : Int), false) := by
 have key : Lib.atoi l = some (dvB l : Int) := by
  have dv : ∀ d : UInt8, 48 <= d.toNat /\ d.toNat <= 57 -> Lib.digitVal d = some (d.toNat - 48) := by
   intro d hd
   unfold Lib.digitVal
   first | (rw [if_pos hd]; done) | (simp [hd.1, hd.2]; done) | (rw [if_pos (by simp only [UInt8.le_iff_toNat_le]; exact hd)])
  have sub : ∀ d : UInt8, 48 <= d.toNat -> ((d.toNat : Int) - 48).toNat = d.toNat - 48 := fun d hd => by omega
  match l, h1, h2, h3 with
  | [b], _, _, h =>
   have e1 := qCw (q1l.1 h b (by simp))
   have nb : (b == 45) = false /\ (b == 43) = false := by
    constructor <;> (apply beq_false_of_ne; rintro rfl; simp at e1)
   simp [Lib.atoi, nb.1, nb.2, Lib.decNat, Lib.decFrom, dv b e1, dvB, dvA, sub b e1.1]
  | [b, c], _, _, h =>
   have e1 := qCw (q1l.1 h b (by simp))
   have e2 := qCw (q1l.1 h c (by simp))
   have nb : (b == 45) = false /\ (b == 43) = false := by
    constructor <;> (apply beq_false_of_ne; rintro rfl; simp at e1)
   simp [Lib.atoi, nb.1, nb.2, Lib.decNat, Lib.decFrom, dv b e1, dv c e2, dvB, dvA, sub b e1.1, sub c e2.1]
 refine ⟨⟨_, Tryz.func60, by kernel_rfl, by kernel_rfl⟩, fun F w vs hgl hvs => ?_⟩
 rw [qLe hvs]
 refine Calls.mono (Tryz.strconv_Atoi (bs l) _ (by rw [q0f]; omega) key w) ?_
 rintro e w' ⟨rfl, t, rfl⟩
 refine ⟨_, rfl, ⟨rfl, rfl, rfl, by rw [Lib.bytesWorld_size]; omega, fun j hj => Lib.bytesWorld_at_old w _ t j hj⟩, ⟨[.int .i64 (dvB l : Int), .nilIface], rfl, .cons (.inr ⟨rfl, rfl, rfl⟩) (.cons (.inr ⟨rfl, rfl, rfl⟩) .nil)⟩⟩
theorem qSa (l : List UInt8) (h1 : 1 <= l.length) (h2 : l.length <= 200) (h3 : span q05 l = l.length) : ∃ n : Nat, n < 18446744073709551616 /\ (dvB l < 18446744073709551616 -> n = dvB l) /\ q1c (bs l) 10 64 ((n : Int), decide (18446744073709551616 <= dvB l)) := by
 have args : ∀ {w : World} {S : Nat -> Prop} {vs : List Value}, All2 (RepV w S) [.v (.string (bs l)), .v (.int .i64 10), .v (.int .i64 64)] vs -> vs = [.string (bs l), .int .i64 10, .int .i64 64] := by
  intro w S vs h
  cases h with
  | cons h1 hr =>
   cases hr with
   | cons h2 hr2 =>
    cases hr2 with
    | cons h3 hr3 =>
     cases hr3
     simp only [RepV, RepD, List.cons.injEq, and_true] at h1 h2 h3
     rw [h1.1, h2.1, h3.1]
 have hp : Lib.parseUintB 64 (bs l).data.toList = if dvB l <= 18446744073709551615 then .ok (dvB l) else .range := by
  have e : (bs l).data.toList = l := by simp [bs]
  rw [e]
  unfold Lib.parseUintB
  rw [if_neg (by rintro rfl; simp at h1)]
  exact qGl rfl l 0 (q1l.1 h3) (by decide)
 have hsz : (bs l).size <= 200 := by rw [q0f]; exact h2
 by_cases hlt : dvB l <= 18446744073709551615
 ·rw [if_pos hlt] at hp
  refine ⟨dvB l, by omega, fun _ => rfl, ?_⟩
  rw [decide_eq_false (by omega)]
  refine ⟨⟨_, Tryz.func142, by kernel_rfl, by kernel_rfl⟩, fun F w vs hgl hvs => ?_⟩
  rw [args hvs]
  refine Calls.mono (Any.strconv_ParseUint_10_at64_ok Tryz.laysPu14 (bs l) (by omega) _ hp w) ?_
  rintro e w' ⟨rfl, hw⟩
  refine ⟨_, rfl, ?_, qJj _ _ false (.inl ⟨rfl, rfl⟩)⟩
  rcases hw with rfl | rfl
  ·exact Below.refl _ _
  ·exact ⟨rfl, rfl, rfl, by rw [Lib.bytesWorld_size]; omega, fun j hj => Lib.bytesWorld_at_old w _ _ j hj⟩
 ·rw [if_neg hlt] at hp
  refine ⟨18446744073709551615, by decide, fun h => by omega, ?_⟩
  rw [decide_eq_true (by omega)]
  refine ⟨⟨_, Tryz.func142, by kernel_rfl, by kernel_rfl⟩, fun F w vs hgl hvs => ?_⟩
  rw [args hvs]
  have hG : GW w := hgl w (Nat.le_refl _) fun _ _ _ => rfl
  obtain ⟨t, p, he⟩ := hG.err5
  refine Calls.mono (Any.strconv_ParseUint_10_at64_range Tryz.laysPu14 (bs l) (by omega) hp _ w he (.inr ⟨t, p, rfl⟩)) ?_
  rintro e w' ⟨N, rfl, _, _, hb⟩
  exact ⟨_, rfl, hb, qJj 18446744073709551615 _ true (.inr ⟨rfl, _, _, rfl⟩)⟩
theorem qSb : qF6 := ⟨qYo, qTx, qSa⟩
end Go.Sim.YtifjflhnfjhijaaGreatDoor

/- What is proved: what the callees of Lex yield. -/
namespace Go.Sim.YtifjflhnfjhijaaGreatDoor
open Go.RowKit Go.Proofs Go.Proofs.Tryz
def lexK : LexL := ⟨fun s => qK6 (tl s 0), fun c => Lib.indexByte signs.data.toList c.toNat.toUInt8, qKi⟩
theorem qSc : lexK.Ok where
 rd := fun s hs => by
  have := qTw qSb (l := tl s 0) (by rw [q90]; omega)
  rw [qPv] at this
  exact this
 ix := fun b => by
  have := qTt b
  rw [show Lib.indexByte signs.data.toList b = Lib.indexByte signs.data.toList ((b.toNat : Int).toNat).toUInt8 by simp] at this
  exact this
 wd := qS2
end Go.Sim.YtifjflhnfjhijaaGreatDoor

/- What is proved: the tokens that Lex yields may be, and the last one is the end. -/
namespace Go.Sim.YtifjflhnfjhijaaGreatDoor
open Go.RowKit Go.Proofs Go.Proofs.Tryz
theorem qMx {a : GRat} (h : a.right = true) : a.D ≠ 0 := by
 have := (GRat.right_spec.1 h).1
 omega
theorem qLh : (ByteArray.mk #[]).size <= maxLen := by decide
theorem qTy (n d : Nat) : qDi (toR (q4d false n d)).1 := by
 refine ⟨?_, ?_, qMx⟩
 ·unfold q4d
  generalize n / Nat.gcd n d = x
  generalize d / Nat.gcd n d = y
  split
  ·exact ⟨oki (k := (x : Int)) (by omega) (by omega), oki (k := (y : Int)) (by omega) (by omega)⟩
  ·exact ⟨oki (k := 0) (by decide) (by decide), oki (k := 0) (by decide) (by decide)⟩
 ·unfold q4d
  generalize n / Nat.gcd n d = x
  split
  ·show (0 : Int) <= (x : Int); omega
  ·exact Int.le_refl 0
theorem qB5 : qDi GRat.zero := ⟨⟨oki (k := 0) (by decide) (by decide), oki (k := 0) (by decide) (by decide)⟩, Int.le_refl 0, qMx⟩
theorem qSd (l : List UInt8) : qDi (qK6 l).1 := by
 unfold qK6
 split
 ·exact qB5
 ·exact qTy _ _
theorem qYq {l : List UInt8} {p : Nat} (hl : l.length <= 20000) : TkOk (tok lexK l p).1.1 := by
 have z : TkOk GToken.zero := ⟨qB5, qLh⟩
 have h1 : ∀ n, (bs (l.take n)).size <= maxLen := fun n => by rw [q0f, List.length_take]; unfold maxLen; omega
 unfold tok
 split
 ·split
  ·exact z
  ·exact ⟨qB5, h1 _⟩
 ·split
  ·exact ⟨qSd _, qLh⟩
  ·split
   ·exact z
   ·split
    ·exact ⟨qB5, h1 _⟩
    ·exact ⟨qB5, h1 _⟩
theorem qW4 : ∀ (m : Nat) (l : List UInt8) (p n : Nat), l.length <= m -> m <= 20000 -> (lexL lexK l p n).2.1 = 0 -> EndT (lexL lexK l p n).1 /\ (∀ t ∈ (lexL lexK l p n).1, TkOk t) /\ (lexL lexK l p n).1.length <= l.length + 1 := by
 intro m
 induction m with
 | zero =>
  intro l p n hl _ h
  rcases qD7 h with ⟨h0, e⟩ | ⟨h0, _⟩
  ·rw [e]; exact ⟨⟨[], _, rfl, rfl⟩, by intro t ht; rw [List.mem_singleton.1 ht]; exact ⟨qB5, qLh⟩, by simp⟩
  ·exact absurd (List.eq_nil_of_length_eq_zero (Nat.le_zero.1 hl)) h0
 | succ m ih =>
  intro l p n hl hm h
  rcases qD7 h with ⟨h0, e⟩ | ⟨h0, h1, h2, h3, e⟩
  ·rw [e]; exact ⟨⟨[], _, rfl, rfl⟩, by intro t ht; rw [List.mem_singleton.1 ht]; exact ⟨qB5, qLh⟩, by simp⟩
  ·obtain ⟨m1, m2, _⟩ := qP5 (L := lexK) h0 h2
   obtain ⟨⟨pre, u, e1, e2⟩, k2, k3⟩ := ih _ _ _ (by rw [List.length_drop]; omega) (by omega) h3
   rw [e]
   refine ⟨⟨_ :: pre, u, by rw [e1]; rfl, e2⟩, ?_, ?_⟩
   ·intro t ht
    rcases List.mem_cons.1 ht with rfl | ht
    ·exact qYq (by omega)
    ·exact k2 t ht
   ·rw [List.length_drop] at k3
    simp only [List.length_cons]; omega
theorem qO2 {l : List UInt8} (h : (lexS lexK l).2.1 = 0) : Us ((lexS lexK l).1, 0) := by
 unfold lexS at h ⊢
 split at h
 ·simp at h
 ·rename_i hl
  rw [if_neg hl]
  obtain ⟨h1, h2, h3⟩ := qW4 20000 _ _ _ (by rw [List.length_drop]; omega) (Nat.le_refl _) h
  exact ⟨h1, h2, by show (lexL lexK _ _ _).1.length <= _; rw [List.length_drop] at h3; omega⟩
end Go.Sim.YtifjflhnfjhijaaGreatDoor

/- What is proved: functions of the program compute what plain statements tell. -/
namespace Go.Sim.YtifjflhnfjhijaaGreatDoor
open Go.RowKit Go.Proofs Go.Proofs.Tryz
set_option maxRecDepth 100000
def qCx (x1 : GTree) (x2 : GTree) (Q : Bool -> Prop) : Prop :=
 Br (x1.Kind != x2.Kind) (Q false) (
 Br (!(x1.Name.toList == x2.Name.toList)) (Q false) (
 Br (!(x1.Alias.toList == x2.Alias.toList)) (Q false) (
 Br (x1.N != x2.N) (Q false) (
 Br (x1.M != x2.M) (Q false) (
 Br (x1.Flag != x2.Flag) (Q false) (
 Br (!(GRat.beq x1.Num x2.Num)) (Q false) (
 Br (((x1.Kids.length : Nat) : Int) != ((x2.Kids.length : Nat) : Int)) (Q false) (
 Loop1 (0 : Int) (fun (x71 : Int) next72 =>
 Br (decide (x71 < ((x1.Kids.length : Nat) : Int))) (
 At x1.Kids x71 fun x82 =>
 At x2.Kids x71 fun x85 =>
 Call (q5w x82 x85) fun x87 =>
 Br (!x87) (Q false) (
 Let (IntKind.i64.wrap (x71 + (1 : Int))) fun x89 =>
 next72 x89)) (
 Q true))))))))))
theorem qJp {x1 : GTree} {x2 : GTree} {r : Bool} (h : qCx x1 x2 (fun r' => r' = r)) : q5w x1 x2 r := by
 unfold qCx at h
 refine intr (L := [(0, .dat (GTree.out x1)), (1, .dat (GTree.out x2))]) Tryz.func6 Tryz.ntmps6 ?_
 refine sN (bx (v := .dat (.st _ _)) ?_)
 refine bx (v := .dat (.st _ _)) ?_
 refine pB rfl (dn (AWp.seq (AWp.seq (rN (pP rfl (pI rfl (pP rfl (pI rfl (pB rfl (pB rfl (sB 11 h (fun h => ?_) (fun h => ?_))))))))))))
 ·refine fo 5 rfl (pB rfl (pB rfl (fo 5 rfl (pB rfl (pB rfl (fo 5 rfl (pB rfl (pB rfl (fo 5 rfl (pB rfl (pB rfl (fo 3 rfl ?_))))))))))))
  refine ff rfl (ff rfl (pB rfl (pB rfl (fo 5 rfl (pB rfl (pB rfl (fo 7 rfl (pB rfl (dn ?_)))))))))
  refine AWp.condT rfl ?_
  refine sN (pB rfl (dn (AWp.ret ?_)))
  subst h
  exact ⟨_, rfl, rfl⟩
 refine pP rfl (pG rfl (pP rfl (pG rfl (pB rfl (pB rfl (pB rfl (sB 18 h (fun h => ?_) (fun h => ?_))))))))
 ·refine fo 5 rfl (pB rfl (pB rfl (fo 5 rfl (pB rfl (pB rfl (fo 5 rfl (pB rfl (pB rfl (fo 5 rfl (pB rfl (pB rfl (fo 3 rfl ?_))))))))))))
  refine ff rfl (ff rfl (pB rfl (pB rfl (fo 7 rfl (pB rfl (dn ?_))))))
  refine AWp.condT rfl ?_
  refine sN (pB rfl (dn (AWp.ret ?_)))
  subst h
  exact ⟨_, rfl, rfl⟩
 refine pP rfl (pG rfl (pP rfl (pG rfl (pB rfl (pB rfl (pB rfl (sB 25 h (fun h => ?_) (fun h => ?_))))))))
 ·refine fo 5 rfl (pB rfl (pB rfl (fo 5 rfl (pB rfl (pB rfl (fo 5 rfl (pB rfl (pB rfl (fo 5 rfl (pB rfl (pB rfl (fo 3 rfl ?_))))))))))))
  refine fo 4 rfl (pB rfl (dn ?_))
  refine AWp.condT rfl ?_
  refine sN (pB rfl (dn (AWp.ret ?_)))
  subst h
  exact ⟨_, rfl, rfl⟩
 refine pP rfl (pI rfl (pP rfl (pI rfl (pB rfl (pB rfl (pB rfl (sB 32 h (fun h => ?_) (fun h => ?_))))))))
 ·refine fo 5 rfl (pB rfl (pB rfl (fo 5 rfl (pB rfl (pB rfl (fo 5 rfl (pB rfl (pB rfl (fo 7 rfl (pB rfl (dn ?_)))))))))))
  refine AWp.condT rfl ?_
  refine sN (pB rfl (dn (AWp.ret ?_)))
  subst h
  exact ⟨_, rfl, rfl⟩
 refine pP rfl (pI rfl (pP rfl (pI rfl (pB rfl (pB rfl (pB rfl (sB 39 h (fun h => ?_) (fun h => ?_))))))))
 ·refine fo 5 rfl (pB rfl (pB rfl (fo 5 rfl (pB rfl (pB rfl (fo 7 rfl (pB rfl (dn ?_))))))))
  refine AWp.condT rfl ?_
  refine sN (pB rfl (dn (AWp.ret ?_)))
  subst h
  exact ⟨_, rfl, rfl⟩
 refine pP rfl (pB rfl (pP rfl (pB rfl (pB rfl (pB rfl (pB rfl (sB 46 h (fun h => ?_) (fun h => ?_))))))))
 ·refine fo 5 rfl (pB rfl (pB rfl (fo 7 rfl (pB rfl (dn ?_)))))
  refine AWp.condT rfl ?_
  refine sN (pB rfl (dn (AWp.ret ?_)))
  subst h
  exact ⟨_, rfl, rfl⟩
 refine pP rfl (pT rfl (pP rfl (pT rfl ?_)))
 refine AOps.nes rfl rfl rfl rfl rfl rfl rfl (by decide +kernel) (GRat.eqok23 _ x1.Num x2.Num) ?_
 refine pB rfl (pB rfl (sB 53 h (fun h => ?_) (fun h => ?_)))
 ·refine fo 7 rfl (pB rfl (dn ?_))
  refine AWp.condT rfl ?_
  refine sN (pB rfl (dn (AWp.ret ?_)))
  subst h
  exact ⟨_, rfl, rfl⟩
 refine pP rfl (pS rfl (al (((x1.Kids.length : Nat) : Int)) rfl (pP rfl (pS rfl (al (((x2.Kids.length : Nat) : Int)) rfl (pB rfl (pB rfl (dn (cB h (fun h => ?_) (fun h => ?_))))))))))
 ·refine sN (pB rfl (dn (AWp.ret ?_)))
  subst h
  exact ⟨_, rfl, rfl⟩
 refine AWp.skip (AWp.seq (AWp.seq (rN (pP rfl (pS rfl (al (((x1.Kids.length : Nat) : Int)) rfl (pI rfl (dn (AWp.block ?_)))))))))
 obtain ⟨I90, x91, hz92, hr93⟩ := h
 refine AWp.loop (I := fun p : Int => mkSt [(2, .pt 2 [] 0), (3, .pt 3 [] 0), (64, .dat (.v (.int .i64 ((x1.Kids.length : Nat) : Int)))), (65, .dat (.v (.int .i64 p)))] [(2, .box 26 9 (.dat (GTree.out x1))), (3, .box 26 9 (.dat (GTree.out x2)))]) (Inv := fun p => I90 p) (μ := fun p => x91 p) (x0 := (0 : Int)) hz92 sl (fun p hp => ?_)
 have h := hr93 p hp
 revert h; clear hp; generalize p = x71; intro h
 refine sN (pW rfl (dn (AWp.seq (cB h (fun h => ?_) (fun h => ?_)))))
 ·refine AWp.skip (AWp.seq (AWp.block (AWp.seq (rN (pI rfl (pI rfl (dn (AWp.seq (rD (pP rfl (pS rfl (pI rfl (kI h GTree.get rfl rfl rfl rfl rfl rfl rfl fun x82 h => ?_)))))))))))))
  refine pT rfl (pP rfl (pS rfl (pI rfl (kI h GTree.get rfl rfl rfl rfl rfl rfl rfl fun x85 h => ?_))))
  refine pT rfl (kC h rfl ⟨.inl rfl, .inl rfl, trivial⟩ rfl fun x87 h => ?_)
  refine pB rfl (dn (cB h (fun h => ?_) (fun h => ?_)))
  ·refine sN (pB rfl (dn (AWp.ret ?_)))
   subst h
   exact ⟨_, rfl, rfl⟩
  refine AWp.skip (rN ?_)
  obtain ⟨x89, ex89, h⟩ := h.get
  refine ai ex89 rfl (pI rfl (dn ?_))
  exact ⟨x89, h.1, h.2, sl⟩
 refine AWp.exit ?_
 refine sN (pB rfl (dn (AWp.ret ?_)))
 subst h
 exact ⟨_, rfl, rfl⟩
end Go.Sim.YtifjflhnfjhijaaGreatDoor

/- What is proved: what parse.Parse yields for a text; any tree is like itself. -/
namespace Go.Sim.YtifjflhnfjhijaaGreatDoor
open Go.RowKit Go.Proofs Go.Proofs.Tryz
def mkR (a d : Int) : GRat := (toR (qNf a d)).1
theorem qSe {a d : Int} (h1 : -64 <= a) (h2 : a <= 64) (h3 : 1 <= d) (h4 : d <= 64) : (mkR a d).ok := by
 unfold mkR qNf q4d
 rw [if_neg (by omega)]
 have e1 : a.natAbs / Nat.gcd a.natAbs d.natAbs <= a.natAbs := Nat.div_le_self _ _
 have e2 : d.natAbs / Nat.gcd a.natAbs d.natAbs <= d.natAbs := Nat.div_le_self _ _
 generalize a.natAbs / Nat.gcd a.natAbs d.natAbs = x at e1 ⊢
 generalize d.natAbs / Nat.gcd a.natAbs d.natAbs = y at e2 ⊢
 rw [if_pos ⟨by omega, by omega⟩]
 refine ⟨?_, oki (k := (y : Int)) (by omega) (by omega)⟩
 show qBp .i64 (if _ then _ else _)
 split
 ·exact oki (k := -(x : Int)) (by omega) (by omega)
 ·exact oki (k := (x : Int)) (by omega) (by omega)
theorem qUx {a : GRat} (h : a.ok) : a.inI := by
 have e1 : IntKind.i64.min = -9223372036854775808 := rfl
 have e2 : IntKind.i64.max = 9223372036854775807 := rfl
 obtain ⟨⟨h1, h2⟩, h3, h4⟩ := h
 rw [e1] at h1 h3
 rw [e2] at h2 h4
 exact ⟨⟨h1, by omega⟩, h3, by omega⟩
theorem qYr {a d : Int} (h1 : -64 <= a) (h2 : a <= 64) (h3 : 1 <= d) (h4 : d <= 64) : q77 a d (mkR a d, (toR (qNf a d)).2) := by
 refine qKx ?_
 unfold qFm
 refine Br.eF (by omega) (Call.mk (qHf ⟨by omega, by omega⟩) (Call.mk (qHf ⟨by omega, by omega⟩) (Call.mk (qR9 _ _ _ (by omega) (by omega) (by omega)) ?_)))
 show (_, _) = (_, _)
 unfold mkR qNf
 rw [if_neg (by omega)]
theorem qSf (s : ByteArray) : q9k s (q7w mkR (lexS lexK (tl s 0))) :=
 qNx (fun _ h => qTd (qUx h)) (fun _ _ h1 h2 h3 h4 => ⟨qSe h1 h2 h3 h4, _, qYr h1 h2 h3 h4⟩) (qUv qSc s) qO2
theorem qHk : GTree.zero.ok := okN all0 (by simp)
theorem qSg {A : List GToken × Int × Int} (hU : A.2.1 = 0 -> Us (A.1, 0)) : (q7w mkR A).1.ok := by
 unfold q7w
 split
 ·exact qHk
 ·rename_i h
  have hu := qRh (mk := mkR) (fun _ _ h1 h2 h3 h4 => qSe h1 h2 h3 h4) (hU (Decidable.not_not.1 h))
  split
  ·exact qHk
  ·rename_i t ht
   split
   ·exact qHk
   ·split
    ·exact qHk
    ·exact hu t ht
theorem qF7 (a : GTree) (ha : a.ok) : q5w a a true := by
 have hm : maxLen = 9223372036854775807 := rfl
 have ih : ∀ x ∈ a.Kids, q5w x x true := fun x hx => qF7 x (qI8 ha x hx)
 have k1 := qI7 ha
 refine qJp ?_
 unfold qCx
 refine Br.f (by simp) (Br.f (by simp) (Br.f (by simp) (Br.f (by simp) (Br.f (by simp) (Br.f (by simp) (Br.f (by rw [qM6]; rfl) (Br.f (by simp) ?_)))))))
 refine Loop1.up a.Kids.length (fun _ => True) trivial fun i k hi _ hk => Br.d (fun hlt => ?_) fun _ => rfl
 refine At.mk (by omega) (by omega) fun x hx => ?_
 rw [Int.toNat_natCast] at hx
 refine ⟨by omega, x, by rw [Int.toNat_natCast]; exact hx, Call.mk (ih x (List.mem_of_getElem? hx)) (Br.f rfl (Let.as _ (wi1 (by omega)) (hk (by omega) trivial)))⟩
termination_by SizeOf.sizeOf a
decreasing_by
 have := List.sizeOf_lt_of_mem hx
 cases a; simp at this ⊢; omega
end Go.Sim.YtifjflhnfjhijaaGreatDoor

/- What is proved: which texts are names, as the program's lexer and the reference tell: one answer. -/
namespace Go.Sim.YtifjflhnfjhijaaGreatDoor
open Go.RowKit Go.Proofs Go.Proofs.Tryz
def wl : List (List UInt8) := [[97, 116, 97, 110], [99, 111, 110, 110, 101, 99, 116], [99, 111, 110, 110, 101, 99, 116, 111, 114], [99, 111, 115], [100, 101, 114], [100, 111], [101, 110, 100], [101, 120, 112], [102, 108, 111, 119], [102, 111, 114], [105, 110], [108, 111, 103], [109, 111, 100, 101, 108], [112, 97, 114, 97, 109], [112, 97, 114, 116], [115, 105, 110], [115, 113, 114, 116], [115, 116, 97, 114, 116], [116, 105, 109, 101], [117, 110, 105, 116], [118, 97, 114]]
theorem qO3 : qKi.map (·.1) = wl.map bs := by decide +kernel
theorem qTz {κ α : Type} [DecidableEq κ] (m : List (κ × α)) (k : κ) : (mget m k).isSome = decide (k ∈ m.map (·.1)) := by
 unfold mget
 rw [Option.isSome_map, Bool.eq_iff_iff, List.find?_isSome, decide_eq_true_iff, List.mem_map]
 constructor
 ·rintro ⟨x, hx, h⟩; exact ⟨x, hx, (by simpa using h : k = x.1).symm⟩
 ·rintro ⟨x, hx, h⟩; exact ⟨x, hx, by simp [h]⟩
theorem bsinj {a b : List UInt8} (h : bs a = bs b) : a = b := by
 have := congrArg (fun s => tl s 0) h
 simpa [qJg] using this
theorem z0a (l : List UInt8) : (mget qKi (bs l)).isSome = decide (l ∈ wl) := by
 rw [qTz, qO3, decide_eq_decide, List.mem_map]
 constructor
 ·rintro ⟨a, ha, h⟩; rw [← bsinj h]; exact ha
 ·intro h; exact ⟨l, h, rfl⟩
variable {L : LexL}
def letR (c : Int) : Bool := (decide (97 <= c) && decide (c <= 122)) || (decide (65 <= c) && decide (c <= 90))
theorem qW5 (b : UInt8) : letR (b.toNat : Int) = q4z (b.toNat : Int) := by
 have hall : ∀ n : Fin 256, letR ((UInt8.ofNat n.val).toNat : Int) = q4z ((UInt8.ofNat n.val).toNat : Int) := by decide +kernel
 have := hall ⟨b.toNat, b.toNat_lt⟩
 simpa using this
theorem qGm (b : UInt8) : q60 (b.toNat : Int) (q4z (b.toNat : Int)) := by
 rw [← qW5]
 refine qG5 ?_
 unfold q9t letR
 refine Br.d (fun h1 => Br.d (fun h2 => ?_) (fun h2 => Br.d (fun h3 => ?_) (fun h3 => ?_))) (fun h1 => Br.d (fun h3 => ?_) (fun h3 => ?_))
 all_goals show _ = _
 ·rw [decide_eq_true (show (97 : Int) <= _ from h1), decide_eq_true h2]; rfl
 ·rw [decide_eq_false h2, decide_eq_true (show (65 : Int) <= _ from h3)]; simp
 ·rw [decide_eq_false h2, decide_eq_false (show ¬ (65 : Int) <= _ from h3)]; simp
 ·rw [decide_eq_false (show ¬ (97 : Int) <= _ from h1), decide_eq_true (show (65 : Int) <= _ from h3)]; simp
 ·rw [decide_eq_false (show ¬ (97 : Int) <= _ from h1), decide_eq_false (show ¬ (65 : Int) <= _ from h3)]; simp
theorem q94 (c : Int) : q2c c (q05 c) := by
 refine qHb ?_
 unfold qB2 q05
 refine Br.d (fun h => ?_) (fun h => ?_)
 ·show _ = _; rw [decide_eq_true h, Bool.true_and]
 ·show _ = _; rw [decide_eq_false h, Bool.false_and]
def allW : List UInt8 := [32, 97, 116, 97, 110, 32, 99, 111, 110, 110, 101, 99, 116, 32, 99, 111, 110, 110, 101, 99, 116, 111, 114, 32, 99, 111, 115, 32, 100, 101, 114, 32, 100, 111, 32, 101, 110, 100, 32, 101, 120, 112, 32, 102, 108, 111, 119, 32, 102, 111, 114, 32, 105, 110, 32, 108, 111, 103, 32, 109, 111, 100, 101, 108, 32, 112, 97, 114, 97, 109, 32, 112, 97, 114, 116, 32, 115, 105, 110, 32, 115, 113, 114, 116, 32, 115, 116, 97, 114, 116, 32, 116, 105, 109, 101, 32, 117, 110, 105, 116, 32, 118, 97, 114, 32]
theorem qU0 : allW.length = 105 := by decide
theorem qW6 : ∀ w ∈ wl, ∃ i : Fin 105, i.val + (w.length + 2) <= 105 /\ (allW.drop i.val).take (w.length + 2) = 32 :: w ++ [32] := by decide +kernel
theorem qW7 : ∀ (i : Fin 105) (n : Fin 25), (allW.drop i.val).take (n.val + 2) = 32 :: (allW.drop (i.val + 1)).take n.val ++ [32] -> (allW.drop (i.val + 1)).take n.val ≠ [] -> (32 : UInt8) ∉ (allW.drop (i.val + 1)).take n.val -> (allW.drop (i.val + 1)).take n.val ∈ wl := by decide +kernel
theorem qKj : ∀ w ∈ wl, (32 : UInt8) ∉ w /\ w ≠ [] := by decide +kernel
theorem qPz {s : ByteArray} (hs : s.size <= 24) : q61 s (decide (tl s 0 ∈ wl)) := by
 obtain ⟨l, hl⟩ : ∃ l, l = tl s 0 := ⟨_, rfl⟩
 have hbs : s = bs l := by rw [hl, qPv]
 have hlen : l.length = s.size := by rw [hl, q90]; omega
 rw [← hl]
 have hg : ∀ i : Nat, l[i]? = s[i]? := fun i => by
  by_cases h : i < s.size
  ·obtain ⟨b, h1, h2⟩ := qNy h
   rw [h1, hl, show (tl s 0)[i]? = s.data.toList[0 + i]? from qRu s 0 i, Nat.zero_add]
   have := qRu s i 0
   rw [h2] at this
   simpa using this.symm
  ·rw [List.getElem?_eq_none (by omega)]
   show none = (if hh : i < s.size then some s[i] else none)
   rw [dif_neg h]
 refine qJ9 ?_
 unfold qCp
 refine Loop1.first l (fun b => b == 32) ?_
 intro i k hi hP hk
 refine Br.d (fun hlt => ?_) (fun hge => ?_)
 ·have hx : l[i]? = some (l[i]'(by omega)) := List.getElem?_eq_getElem (by omega)
  obtain ⟨b, eb⟩ : ∃ b, l[i]? = some b := ⟨_, hx⟩
  refine AtS.nat (by rw [← hg]; exact eb) (Br.e (fun h => ?_) (fun h => Let.as _ (wi1 (by omega)) (hk b eb ?_)))
  ·show false = _
   have : b = 32 := UInt8.toNat_inj.1 (by have h' : ((b.toNat : Nat) : Int) = 32 := h; show b.toNat = 32; omega)
   symm
   rw [decide_eq_false_iff_not]
   intro hw
   exact (qKj l hw).1 (by rw [← this]; exact List.mem_of_getElem? eb)
  ·apply beq_false_of_ne
   rintro rfl
   exact h rfl
 have h32 : (32 : UInt8) ∉ l := by
  intro hm
  obtain ⟨j, hj⟩ := List.mem_iff_getElem?.1 hm
  have := hP j 32 (by have := (List.getElem?_eq_some_iff.1 hj).1; omega) hj
  simp at this
 clear hk hP
 refine ⟨by show 1 + s.size <= _; omega, Let.it ⟨?_, Let.it ?_⟩⟩
 ·have : (ByteArray.mk #[32] ++ s).size = 1 + s.size := by rw [ByteArray.size_append]; rfl
  rw [this]; show 1 + s.size + 1 <= _; omega
 obtain ⟨w, hw⟩ : ∃ w, w = ByteArray.mk #[32] ++ s ++ ByteArray.mk #[32] := ⟨_, rfl⟩
 rw [← hw]
 have hwb : w = bs (32 :: l ++ [32]) := by
  rw [hw, ← qPv (ByteArray.mk #[32] ++ s ++ ByteArray.mk #[32])]
  congr 1
  rw [show ∀ a b : ByteArray, tl (a ++ b) 0 = tl a 0 ++ tl b 0 from fun a b => by unfold tl; simp, show ∀ a b : ByteArray, tl (a ++ b) 0 = tl a 0 ++ tl b 0 from fun a b => by unfold tl; simp, ← hl]
  rfl
 have hws : w.size = l.length + 2 := by rw [hwb, q0f]; simp
 rw [hws]
 refine Loop1.up 105 (fun i => i + (l.length + 2) <= 106 /\ (l ∈ wl -> ∃ j, i <= j /\ j + (l.length + 2) <= 105 /\ (allW.drop j).take (l.length + 2) = 32 :: l ++ [32])) ⟨by omega, fun h => ?_⟩ ?_
 ·obtain ⟨j, h1, h2⟩ := qW6 l h
  exact ⟨j.val, Nat.zero_le _, h1, h2⟩
 intro i k hi ⟨hi2, hex⟩ hk
 have hsum : IntKind.i64.wrap ((i : Int) + ((l.length + 2 : Nat) : Int)) = ((i + (l.length + 2) : Nat) : Int) := by rw [wi (by omega) (by omega)]; omega
 refine Let.as _ hsum (Br.d (fun hlt => ?_) (fun hge => ?_))
 ·have hil : i + (l.length + 2) <= 105 := by omega
  have hext : (ByteArray.mk #[32, 97, 116, 97, 110, 32, 99, 111, 110, 110, 101, 99, 116, 32, 99, 111, 110, 110, 101, 99, 116, 111, 114, 32, 99, 111, 115, 32, 100, 101, 114, 32, 100, 111, 32, 101, 110, 100, 32, 101, 120, 112, 32, 102, 108, 111, 119, 32, 102, 111, 114, 32, 105, 110, 32, 108, 111, 103, 32, 109, 111, 100, 101, 108, 32, 112, 97, 114, 97, 109, 32, 112, 97, 114, 116, 32, 115, 105, 110, 32, 115, 113, 114, 116, 32, 115, 116, 97, 114, 116, 32, 116, 105, 109, 101, 32, 117, 110, 105, 116, 32, 118, 97, 114, 32]) = bs allW := rfl
  have next : ((l ∈ wl) -> (allW.drop i).take (l.length + 2) ≠ 32 :: l ++ [32]) -> Let (IntKind.i64.wrap ((i : Int) + 1)) fun x => k x := fun hno => Let.as _ (wi1 (by omega)) (hk (by omega) ⟨by omega, fun hm => by
   obtain ⟨j, h1, h2, h3⟩ := hex hm
   have : i ≠ j := fun e => hno hm (by rw [e]; exact h3)
   exact ⟨j, by omega, h2, h3⟩⟩)
  refine ⟨(l ∈ wl -> (allW.drop i).take (l.length + 2) ≠ 32 :: l ++ [32]), ?_, next⟩
  rw [hext]
  refine ⟨fun he => Let.as _ hsum (SlS.tl (by rw [q0f, qU0]; exact hil) ?_), fun he => ?_⟩
  ·rw [show tl (bs allW) i = allW.drop i from rfl, hwb]
   refine ⟨fun heq => ?_, fun hne hm heq => ?_⟩
   ·show true = _
    have h1 := bsinj (q9p.1 heq)
    have hne : l ≠ [] := by
     rintro rfl
     rw [hbs] at he
     simp [bs] at he
    symm
    rw [decide_eq_true_iff]
    have h2 : (allW.drop (i + 1)).take l.length = l := by
     have h3 := congrArg (fun x => (x.drop 1).take l.length) h1
     simp only [List.drop_take, List.drop_drop] at h3
     rw [List.take_take] at h3
     simpa [Nat.min_eq_left (show l.length <= l.length + 2 - 1 by omega)] using h3
    have h4 := qW7 ⟨i, by omega⟩ ⟨l.length, by omega⟩
    simp only [h2] at h4
    exact h4 h1 hne h32
   ·rw [heq] at hne
    rw [q9p.2 rfl] at hne; cases hne
  ·intro hm _
   have : l = [] := by
    rw [hbs] at he
    have he' : ((bs l).toList == (ByteArray.mk #[]).toList) = true := by simpa using he
    rw [qF1] at he'
    simpa using he'
   exact (qKj l hm).2 this
 ·show false = _
  symm
  rw [decide_eq_false_iff_not]
  intro hm
  obtain ⟨j, h1, h2, _⟩ := hex hm
  omega
end Go.Sim.YtifjflhnfjhijaaGreatDoor
