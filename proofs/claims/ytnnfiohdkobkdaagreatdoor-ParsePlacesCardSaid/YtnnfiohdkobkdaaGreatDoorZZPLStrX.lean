/- What is proved: what the library's functions for strings and numbers yield, exactly. -/
import Derived.Test.YtnnfiohdkobkdaaGreatDoorZZPLStrN
import Derived.Test.YtnnfiohdkobkdaaGreatDoorZZPLRatV
import Derived.Test.YtnnfiohdkobkdaaGreatDoorZZPLLexD
import Derived.Test.YtnnfiohdkobkdaaGreatDoorZZPLParU
import Derived.Test.YtnnfiohdkobkdaaGreatDoorZZPLWE
import Derived.Test.YtnnfiohdkobkdaaGreatDoorZZPLPevD
import Derived.Test.YtnnfiohdkobkdaaGreatDoorZZPLParP

namespace Go.Sim.YtnnfiohdkobkdaaGreatDoor
open Go.RowKit Go.Proofs Go.Proofs.Tryz
theorem atoi_evX (l : List UInt8) (h1 : 1 ≤ l.length) (h2 : l.length ≤ 2) (h3 : span digitB l = l.length) : Ev_strconv_Atoi (bs l) ((dvB l : Int), false) := by
  have key : Lib.atoi l = some (dvB l : Int) := by
    have dv : ∀ d : UInt8, 48 ≤ d.toNat ∧ d.toNat ≤ 57 → Lib.digitVal d = some (d.toNat - 48) := by
      intro d hd
      unfold Lib.digitVal
      first | (rw [if_pos hd]; done) | (simp [hd.1, hd.2]; done) | (rw [if_pos (by simp only [UInt8.le_iff_toNat_le]; exact hd)])
    have sub : ∀ d : UInt8, 48 ≤ d.toNat → ((d.toNat : Int) - 48).toNat = d.toNat - 48 := fun d hd => by omega
    match l, h1, h2, h3 with
    | [b], _, _, h =>
      have e1 := digit_val (span_all.1 h b (by simp))
      have nb : (b == 45) = false ∧ (b == 43) = false := by
        constructor <;> (apply beq_false_of_ne; rintro rfl; simp at e1)
      simp [Lib.atoi, nb.1, nb.2, Lib.decNat, Lib.decFrom, dv b e1, dvB, dvA, sub b e1.1]
    | [b, c], _, _, h =>
      have e1 := digit_val (span_all.1 h b (by simp))
      have e2 := digit_val (span_all.1 h c (by simp))
      have nb : (b == 45) = false ∧ (b == 43) = false := by
        constructor <;> (apply beq_false_of_ne; rintro rfl; simp at e1)
      simp [Lib.atoi, nb.1, nb.2, Lib.decNat, Lib.decFrom, dv b e1, dv c e2, dvB, dvA, sub b e1.1, sub c e2.1]
  refine ⟨⟨_, Tryz.func118, by kernel_rfl, by kernel_rfl⟩, fun F w vs hgl hvs => ?_⟩
  rw [one_str hvs]
  refine Calls.mono (Tryz.strconv_Atoi (bs l) _ (by rw [bs_size]; omega) key w) ?_
  rintro e w' ⟨rfl, t, rfl⟩
  refine ⟨_, rfl, ⟨rfl, rfl, rfl, by rw [Lib.bytesWorld_size]; omega, fun j hj => Lib.bytesWorld_at_old w _ t j hj⟩, ⟨[.int .i64 (dvB l : Int), .nilIface], rfl, .cons (.inr ⟨rfl, rfl, rfl⟩) (.cons (.inr ⟨rfl, rfl, rfl⟩) .nil)⟩⟩
theorem parse_evX (l : List UInt8) (h1 : 1 ≤ l.length) (h2 : l.length ≤ 200) (h3 : span digitB l = l.length) : ∃ n : Nat, n < 18446744073709551616 ∧ (dvB l < 18446744073709551616 → n = dvB l) ∧ Ev_strconv_ParseUint (bs l) 10 64 ((n : Int), decide (18446744073709551616 ≤ dvB l)) := by
  have args : ∀ {w : World} {S : Nat → Prop} {vs : List Value}, All2 (RepV w S) [.v (.string (bs l)), .v (.int .i64 10), .v (.int .i64 64)] vs → vs = [.string (bs l), .int .i64 10, .int .i64 64] := by
    intro w S vs h
    cases h with
    | cons h1 hr =>
      cases hr with
      | cons h2 hr2 =>
        cases hr2 with
        | cons h3 hr3 =>
          cases hr3
          simp only [RepV, RepD, List.cons.injEq, and_true] at h1 h2 h3
          rw [h1.1, h2.1, h3.1]
  have hp : Lib.parseUintB 64 (bs l).data.toList = if dvB l ≤ 18446744073709551615 then .ok (dvB l) else .range := by
    have e : (bs l).data.toList = l := by simp [bs]
    rw [e]
    unfold Lib.parseUintB
    rw [if_neg (by rintro rfl; simp at h1)]
    exact parse_digits rfl l 0 (span_all.1 h3) (by decide)
  have hsz : (bs l).size ≤ 200 := by rw [bs_size]; exact h2
  by_cases hlt : dvB l ≤ 18446744073709551615
  · rw [if_pos hlt] at hp
    refine ⟨dvB l, by omega, fun _ => rfl, ?_⟩
    rw [decide_eq_false (by omega)]
    refine ⟨⟨_, Tryz.func229, by kernel_rfl, by kernel_rfl⟩, fun F w vs hgl hvs => ?_⟩
    rw [args hvs]
    refine Calls.mono (Any.strconv_ParseUint_10_at64_ok Tryz.laysPu14 (bs l) (by omega) _ hp w) ?_
    rintro e w' ⟨rfl, hw⟩
    refine ⟨_, rfl, ?_, rep_num _ _ false (.inl ⟨rfl, rfl⟩)⟩
    rcases hw with rfl | rfl
    · exact Below.refl _ _
    · exact ⟨rfl, rfl, rfl, by rw [Lib.bytesWorld_size]; omega, fun j hj => Lib.bytesWorld_at_old w _ _ j hj⟩
  · rw [if_neg hlt] at hp
    refine ⟨18446744073709551615, by decide, fun h => by omega, ?_⟩
    rw [decide_eq_true (by omega)]
    refine ⟨⟨_, Tryz.func229, by kernel_rfl, by kernel_rfl⟩, fun F w vs hgl hvs => ?_⟩
    rw [args hvs]
    have hG : GW w := hgl w (Nat.le_refl _) fun _ _ _ => rfl
    obtain ⟨t, p, he⟩ := hG.err5
    refine Calls.mono (Any.strconv_ParseUint_10_at64_range Tryz.laysPu14 (bs l) (by omega) hp _ w he (.inr ⟨t, p, rfl⟩)) ?_
    rintro e w' ⟨N, rfl, _, _, hb⟩
    exact ⟨_, rfl, hb, rep_num 18446744073709551615 _ true (.inr ⟨rfl, _, _, rfl⟩)⟩
theorem strx_ok : StrOkX := ⟨str_ok, atoi_evX, parse_evX⟩
end Go.Sim.YtnnfiohdkobkdaaGreatDoor

/- What is proved: what the callees of Lex yield. -/
namespace Go.Sim.YtnnfiohdkobkdaaGreatDoor
open Go.RowKit Go.Proofs Go.Proofs.Tryz
/-- What the callees of Lex yield. -/
def lexK : LexL := ⟨fun s => readS (tl s 0), fun c => Lib.indexByte signs.data.toList c.toNat.toUInt8, wordsM⟩
theorem lexK_ok : lexK.Ok where
  rd := fun s hs => by
    have := xread_ev strx_ok (l := tl s 0) (by rw [tl_len]; omega)
    rw [bs_tl] at this
    exact this
  ix := fun b => by
    have := index_ev b
    rw [show Lib.indexByte signs.data.toList b = Lib.indexByte signs.data.toList ((b.toNat : Int).toNat).toUInt8 by simp] at this
    exact this
  wd := wordsM_ev
end Go.Sim.YtnnfiohdkobkdaaGreatDoor

/- What is proved: the tokens that Lex yields may be, and the last one is the end. -/
namespace Go.Sim.YtnnfiohdkobkdaaGreatDoor
open Go.RowKit Go.Proofs Go.Proofs.Tryz
theorem right_pos {a : GRat} (h : a.right = true) : a.D ≠ 0 := by
  have := (GRat.right_spec.1 h).1
  omega
theorem no_size : (ByteArray.mk #[]).size ≤ maxLen := by decide
theorem made_num (n d : Nat) : NumOk (toR (madeS false n d)).1 := by
  refine ⟨?_, ?_, right_pos⟩
  · unfold madeS
    generalize n / Nat.gcd n d = x
    generalize d / Nat.gcd n d = y
    split
    · exact ⟨oki (k := (x : Int)) (by omega) (by omega), oki (k := (y : Int)) (by omega) (by omega)⟩
    · exact ⟨oki (k := 0) (by decide) (by decide), oki (k := 0) (by decide) (by decide)⟩
  · unfold madeS
    generalize n / Nat.gcd n d = x
    split
    · show (0 : Int) ≤ (x : Int); omega
    · exact Int.le_refl 0
theorem zero_num : NumOk GRat.zero := ⟨⟨oki (k := 0) (by decide) (by decide), oki (k := 0) (by decide) (by decide)⟩, Int.le_refl 0, right_pos⟩
theorem readS_num (l : List UInt8) : NumOk (readS l).1 := by
  unfold readS
  split
  · exact zero_num
  · exact made_num _ _
theorem tok_tk {l : List UInt8} {p : Nat} (hl : l.length ≤ 20000) : TkOk (tok lexK l p).1.1 := by
  have z : TkOk GToken.zero := ⟨zero_num, no_size⟩
  have h1 : ∀ n, (bs (l.take n)).size ≤ maxLen := fun n => by rw [bs_size, List.length_take]; unfold maxLen; omega
  unfold tok
  split
  · split
    · exact z
    · exact ⟨zero_num, h1 _⟩
  · split
    · exact ⟨readS_num _, no_size⟩
    · split
      · exact z
      · split
        · exact ⟨zero_num, h1 _⟩
        · exact ⟨zero_num, h1 _⟩
theorem lexL_us : ∀ (m : Nat) (l : List UInt8) (p n : Nat), l.length ≤ m → m ≤ 20000 → (lexL lexK l p n).2.1 = 0 → EndT (lexL lexK l p n).1 ∧ (∀ t ∈ (lexL lexK l p n).1, TkOk t) ∧ (lexL lexK l p n).1.length ≤ l.length + 1 := by
  intro m
  induction m with
  | zero =>
    intro l p n hl _ h
    rcases lexL_cases h with ⟨h0, e⟩ | ⟨h0, _⟩
    · rw [e]; exact ⟨⟨[], _, rfl, rfl⟩, by intro t ht; rw [List.mem_singleton.1 ht]; exact ⟨zero_num, no_size⟩, by simp⟩
    · exact absurd (List.eq_nil_of_length_eq_zero (Nat.le_zero.1 hl)) h0
  | succ m ih =>
    intro l p n hl hm h
    rcases lexL_cases h with ⟨h0, e⟩ | ⟨h0, h1, h2, h3, e⟩
    · rw [e]; exact ⟨⟨[], _, rfl, rfl⟩, by intro t ht; rw [List.mem_singleton.1 ht]; exact ⟨zero_num, no_size⟩, by simp⟩
    · obtain ⟨m1, m2, _⟩ := more_pos (L := lexK) h0 h2
      obtain ⟨⟨pre, u, e1, e2⟩, k2, k3⟩ := ih _ _ _ (by rw [List.length_drop]; omega) (by omega) h3
      rw [e]
      refine ⟨⟨_ :: pre, u, by rw [e1]; rfl, e2⟩, ?_, ?_⟩
      · intro t ht
        rcases List.mem_cons.1 ht with rfl | ht
        · exact tok_tk (by omega)
        · exact k2 t ht
      · rw [List.length_drop] at k3
        simp only [List.length_cons]; omega
theorem lexS_us {l : List UInt8} (h : (lexS lexK l).2.1 = 0) : Us ((lexS lexK l).1, 0) := by
  unfold lexS at h ⊢
  split at h
  · simp at h
  · rename_i hl
    rw [if_neg hl]
    obtain ⟨h1, h2, h3⟩ := lexL_us 20000 _ _ _ (by rw [List.length_drop]; omega) (Nat.le_refl _) h
    exact ⟨h1, h2, by show (lexL lexK _ _ _).1.length ≤ _; rw [List.length_drop] at h3; omega⟩
end Go.Sim.YtnnfiohdkobkdaaGreatDoor

/- What is proved: functions of the program compute what plain statements tell. -/
namespace Go.Sim.YtnnfiohdkobkdaaGreatDoor
open Go.RowKit Go.Proofs Go.Proofs.Tryz
set_option maxRecDepth 100000
def W_law13_alive (Q : Bool → Prop) : Prop :=
 Call (Ev_ulp_Next (4607182418800017408 : Nat)) fun x1 =>
 Q (FloatKind.f64.format.order x1 (4607182418800017408 : Nat) == some .gt)
theorem walk_law13_alive {r : Bool} (h : W_law13_alive (fun r' => r' = r)) : Ev_law13_alive r := by
  unfold W_law13_alive at h
  refine intr (L := []) Tryz.func16 Tryz.ntmps16 ?_
  refine sN (pB rfl (dn (AWp.seq (rN (kC h rfl ⟨.inl rfl, trivial⟩ rfl fun x1 h => ?_)))))
  refine pB rfl (pB rfl (dn (AWp.ret ?_)))
  subst h
  exact ⟨_, rfl, rfl⟩
end Go.Sim.YtnnfiohdkobkdaaGreatDoor

/- What is proved: what parse.Parse yields for a text; any tree is like itself. -/
namespace Go.Sim.YtnnfiohdkobkdaaGreatDoor
open Go.RowKit Go.Proofs Go.Proofs.Tryz
/-- What the library's numbers make of two whole ones. -/
def mkR (a d : Int) : GRat := (toR (makeS a d)).1
theorem mkR_ok {a d : Int} (h1 : -64 ≤ a) (h2 : a ≤ 64) (h3 : 1 ≤ d) (h4 : d ≤ 64) : (mkR a d).ok := by
  unfold mkR makeS madeS
  rw [if_neg (by omega)]
  have e1 : a.natAbs / Nat.gcd a.natAbs d.natAbs ≤ a.natAbs := Nat.div_le_self _ _
  have e2 : d.natAbs / Nat.gcd a.natAbs d.natAbs ≤ d.natAbs := Nat.div_le_self _ _
  generalize a.natAbs / Nat.gcd a.natAbs d.natAbs = x at e1 ⊢
  generalize d.natAbs / Nat.gcd a.natAbs d.natAbs = y at e2 ⊢
  rw [if_pos ⟨by omega, by omega⟩]
  refine ⟨?_, oki (k := (y : Int)) (by omega) (by omega)⟩
  show okInt .i64 (if _ then _ else _)
  split
  · exact oki (k := -(x : Int)) (by omega) (by omega)
  · exact oki (k := (x : Int)) (by omega) (by omega)
theorem ok_inI {a : GRat} (h : a.ok) : a.inI := by
  have e1 : IntKind.i64.min = -9223372036854775808 := rfl
  have e2 : IntKind.i64.max = 9223372036854775807 := rfl
  obtain ⟨⟨h1, h2⟩, h3, h4⟩ := h
  rw [e1] at h1 h3
  rw [e2] at h2 h4
  exact ⟨⟨h1, by omega⟩, h3, by omega⟩
theorem mk_evP {a d : Int} (h1 : -64 ≤ a) (h2 : a ≤ 64) (h3 : 1 ≤ d) (h4 : d ≤ 64) : Ev_rat_Make a d (mkR a d, (toR (makeS a d)).2) := by
  refine walk_rat_Make ?_
  unfold W_rat_Make
  refine Br.eF (by omega) (Call.mk (rsize_ev ⟨by omega, by omega⟩) (Call.mk (rsize_ev ⟨by omega, by omega⟩) (Call.mk (made_ev _ _ _ (by omega) (by omega) (by omega)) ?_)))
  show (_, _) = (_, _)
  unfold mkR makeS
  rw [if_neg (by omega)]
theorem parse_evK (s : ByteArray) : Ev_parse_Parse s (parseS mkR (lexS lexK (tl s 0))) :=
  parseAll_ev (fun _ h => right_ev (ok_inI h)) (fun _ _ h1 h2 h3 h4 => ⟨mkR_ok h1 h2 h3 h4, _, mk_evP h1 h2 h3 h4⟩) (lex_ev lexK_ok s) lexS_us
end Go.Sim.YtnnfiohdkobkdaaGreatDoor

/- What is proved: where tokens stand changes nothing of what is read, but an error's place. -/
namespace Go.Sim.YtnnfiohdkobkdaaGreatDoor
open Go.RowKit Go.Proofs Go.Proofs.Tryz
/-- A token but for its place. -/
def key (t : GToken) : Int × ByteArray × GRat := (t.Kind, t.S, t.Num)
/-- Both yield related things, or one error. -/
def RR {α β : Type} (R : α → β → Prop) : Except PE α → Except PE β → Prop
  | .ok a, .ok b => R a b
  | .error e, .error f => e.1 = f.1
  | _, _ => False
theorem RR.bnd {α β γ δ : Type} {R : α → β → Prop} {S : γ → δ → Prop} {x : Except PE α} {y : Except PE β} {f : α → Except PE γ} {g : β → Except PE δ} (h : RR R x y) (k : ∀ a b, R a b → RR S (f a) (g b)) : RR S (Sim.YtnnfiohdkobkdaaGreatDoor.bnd x f) (Sim.YtnnfiohdkobkdaaGreatDoor.bnd y g) := by
  cases x <;> cases y
  · exact h
  · exact h.elim
  · exact h.elim
  · exact k _ _ h
variable (mk : Int → Int → GRat)
end Go.Sim.YtnnfiohdkobkdaaGreatDoor

/- What is proved: the three blanks of the law may be put in. -/
namespace Go.Sim.YtnnfiohdkobkdaaGreatDoor
open Go.RowKit Go.Proofs Go.Proofs.Tryz
end Go.Sim.YtnnfiohdkobkdaaGreatDoor

/- What is proved: the whole text with blanks put in. -/
namespace Go.Sim.YtnnfiohdkobkdaaGreatDoor
open Go.RowKit Go.Proofs Go.Proofs.Tryz
variable {L : LexL} {B : Nat → List UInt8}
def whole (L : LexL) (B : Nat → List UInt8) (l : List UInt8) : List UInt8 := l.take (skip l) ++ (B 0 ++ re L B (l.drop (skip l)) (skip l) 0)
end Go.Sim.YtnnfiohdkobkdaaGreatDoor

/- What is proved: how a text with blanks put in is put together. -/
namespace Go.Sim.YtnnfiohdkobkdaaGreatDoor
open Go.RowKit Go.Proofs Go.Proofs.Tryz
variable {L : LexL}
theorem tl_append (a b : ByteArray) : tl (a ++ b) 0 = tl a 0 ++ tl b 0 := by
  unfold tl; simp
theorem tl_bs0 (l : List UInt8) : tl (bs l) 0 = l := by unfold tl bs; simp
/-- What holds ahead of token i: the text so far t, the last place q. -/
def Mid (L : LexL) (B : Nat → List UInt8) (s : ByteArray) (a : List GToken) (i : Nat) (t : ByteArray) (q : Nat) : Prop :=
  q ≤ s.size ∧ t.size ≤ i * 20015 ∧
  ((i < a.length ∧ ∃ P, q ≤ P ∧ P ≤ s.size ∧ (lexL L (tl s P) P i).2.1 = 0 ∧ (lexL L (tl s P) P i).1 = a.drop i ∧ skip (tl s P) = 0 ∧
    tl t 0 ++ ((tl s q).take (P - q) ++ (B i ++ re L B (tl s P) P i)) = whole L B (tl s 0)) ∨
   (i = a.length ∧ tl t 0 ++ tl s q = whole L B (tl s 0)))
theorem Mid.next {B : Nat → List UInt8} (hb : ∀ i, (B i).length ≤ 15) {s : ByteArray} {a : List GToken} {i : Nat} {t : ByteArray} {q : Nat} (h : Mid L B s a i t q) (hi : i < a.length) (hs : s.size ≤ 20000) :
    ∃ P, q ≤ P ∧ P ≤ s.size ∧ (a[i]'hi).At = (P : Int) ∧ ∀ t', tl t' 0 = tl t 0 ++ ((tl s q).take (P - q) ++ B i) → Mid L B s a (i + 1) t' P := by
  obtain ⟨h1, h2, ⟨_, P, h3, h4, h5, h6, h7, h8⟩ | ⟨h3, _⟩⟩ := h
  rotate_left
  · omega
  have hd := List.drop_eq_getElem_cons hi
  obtain ⟨u, us, e1, e2⟩ := lexL_head h5
  have e3 : u = a[i] := by rw [h6, hd] at e1; exact (List.cons.inj e1).1.symm
  refine ⟨P, h3, h4, by rw [← e3, e2], fun t' ht' => ?_⟩
  have hsz : t'.size = t.size + ((tl s q).take (P - q)).length + (B i).length := by
    have := congrArg List.length ht'
    rw [tl_len, List.length_append, List.length_append, tl_len] at this
    omega
  have hb := hb i
  have hw : tl t' 0 ++ re L B (tl s P) P i = whole L B (tl s 0) := by
    rw [ht', ← h8]; simp only [List.append_assoc]
  refine ⟨h4, by rw [hsz, List.length_take, tl_len]; omega, ?_⟩
  rcases lexL_cases h5 with ⟨g0, e⟩ | ⟨g0, g1, g2, g3, e⟩
  · right
    rw [re_nil g0] at hw
    rw [g0]
    refine ⟨?_, hw⟩
    have h9 := congrArg Prod.fst e
    rw [h6, hd] at h9
    have h10 := congrArg List.length h9
    simp at h10
    omega
  · left
    obtain ⟨m1, m2, m3⟩ := more_pos (L := L) g0 g2
    rw [re_more g0 m1] at hw
    rw [tl_len] at m2
    rw [tl_drop] at g3 m3 hw
    have h9 := congrArg Prod.fst e
    rw [h6, hd] at h9
    have h10 := (List.cons.inj h9).2
    rw [tl_drop] at h10
    obtain ⟨u2, us2, k1, _⟩ := lexL_head g3
    have hi2 : i + 1 < a.length := by
      have := congrArg List.length (h10.trans k1)
      simp at this
      omega
    refine ⟨hi2, P + more L (tl s P) P, by omega, by omega, g3, h10.symm, m3, ?_⟩
    rw [Nat.add_sub_cancel_left]
    exact hw
theorem tl_part {s : ByteArray} {q P : Nat} (h1 : q ≤ P) (h2 : P ≤ s.size) : tl (s.extract q P) 0 = (tl s q).take (P - q) := by
  obtain ⟨n, rfl⟩ : ∃ n, P = q + n := ⟨P - q, by omega⟩
  rw [extract_tl, Nat.add_sub_cancel_left, tl_bs0]
theorem Cat.tl {a b : ByteArray} {k : ByteArray → Prop} (h : a.size + b.size ≤ 9223372036854775807) (hk : ∀ x, tl x 0 = tl a 0 ++ tl b 0 → k x) : Cat a b k :=
  ⟨h, Let.as (a ++ b) rfl (hk _ (tl_append a b))⟩
end Go.Sim.YtnnfiohdkobkdaaGreatDoor
