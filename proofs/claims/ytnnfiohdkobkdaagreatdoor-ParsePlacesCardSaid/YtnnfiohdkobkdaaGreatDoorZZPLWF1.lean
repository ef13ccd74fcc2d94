/- What is proved: functions of the program compute what plain statements tell. -/
import Derived.Test.YtnnfiohdkobkdaaGreatDoorZZPLWE
import Derived.ProofKit
import Derived.Test.YtnnfiohdkobkdaaGreatDoorZZPLPureK
import Derived.Test.YtnnfiohdkobkdaaGreatDoorZZPLStrX
import Derived.Test.YtnnfiohdkobkdaaGreatDoorZZPLStrN
import Derived.Test.YtnnfiohdkobkdaaGreatDoorZZPLParL
import Derived.Test.YtnnfiohdkobkdaaGreatDoorZZPLLexW
import Derived.Test.YtnnfiohdkobkdaaGreatDoorZZPLWPl

namespace Go.Sim.YtnnfiohdkobkdaaGreatDoor
open Go.RowKit Go.Proofs Go.Proofs.Tryz
set_option maxRecDepth 100000
def W_ulp_Next (x1 : Nat) (Q : Nat → Prop) : Prop :=
 Call (Ev_math_IsNaN x1) fun x17 =>
 Join1 (fun j22 =>
  Br x17 (j22 x17) (
   Call (Ev_math_Inf (1 : Int)) fun x23 =>
   j22 (FloatKind.f64.format.order x1 x23 == some .eq))
 ) (fun (x21 : Bool) =>
  Br x21 (Q x1) (
   Br (FloatKind.f64.format.order x1 (0 : Nat) == some .eq) (Q (1 : Nat)) (
    Br (FloatKind.f64.format.order x1 (0 : Nat) == some .gt) (
     Call (Ev_math_Float64bits x1) fun x25 =>
     Let (IntKind.u64.wrap (x25 + (1 : Int))) fun x27 =>
     Call (Ev_math_Float64frombits x27) fun x28 =>
     Q x28) (
     Call (Ev_math_Float64bits x1) fun x30 =>
     Let (IntKind.u64.wrap (x30 - (1 : Int))) fun x32 =>
     Call (Ev_math_Float64frombits x32) fun x33 =>
     Call (Ev_ulp_clean x33) fun x35 =>
     Q x35))))
theorem walk_ulp_Next {x1 : Nat} {r : Nat} (h : W_ulp_Next x1 (fun r' => r' = r)) : Ev_ulp_Next x1 r := by
  unfold W_ulp_Next at h
  refine intr (L := [(0, .dat (.v (.float .f64 x1)))]) Tryz.func30 Tryz.ntmps30 ?_
  refine sN (pF rfl (dn (AWp.seq (AWp.block (AWp.seq (AWp.seq (rN (pF rfl ?_))))))))
  obtain ⟨x17, hc18, h⟩ := h
  refine ca hc18 rfl ⟨.inl rfl, trivial⟩ rfl (pB rfl (dn ?_))
  obtain ⟨J37, h, hk38⟩ := h
  refine AWp.cutK (I := fun p : Bool => mkSt [(0, .dat (.v (.float .f64 x1))), (3, .dat (.v (.bool p)))] []) (Inv := fun p : Bool => J37 p) ?_ (fun p hp => ?_)
  · refine cB h (fun h => ?_) (fun h => ?_)
    · refine AWp.skip ?_
      exact ⟨x17, h, sl⟩
    refine rN (pF rfl ?_)
    obtain ⟨x23, hc24, h⟩ := h
    refine ca hc24 rfl ⟨.inl rfl, trivial⟩ rfl (pB rfl (pB rfl (dn ?_)))
    exact ⟨(FloatKind.f64.format.order x1 x23 == some .eq), h, sl⟩
  replace h := hk38 p hp
  revert h; clear hp; generalize p = x21; intro h
  refine cB h (fun h => ?_) (fun h => ?_)
  · refine sN (pF rfl (pF rfl (dn (AWp.ret ?_))))
    subst h
    exact ⟨_, rfl, rfl⟩
  refine sN (pF rfl (pB rfl (pB rfl (dn (cB h (fun h => ?_) (fun h => ?_))))))
  · refine sN (pF rfl (dn (AWp.ret ?_)))
    subst h
    exact ⟨_, rfl, rfl⟩
  refine sN (pF rfl (pB rfl (pB rfl (dn (cB h (fun h => ?_) (fun h => ?_))))))
  · refine sN (pF rfl ?_)
    obtain ⟨x25, hc26, h⟩ := h
    refine AOps.extC hc26 rfl rfl rfl (.cons rfl .nil) ?_
    obtain ⟨x27, ex27, h⟩ := h.get
    refine ai ex27 rfl ?_
    obtain ⟨x28, hc29, h⟩ := h
    refine AOps.extC hc29 rfl rfl rfl (.cons rfl .nil) ?_
    refine pF rfl (dn (AWp.ret ?_))
    subst h
    exact ⟨_, rfl, rfl⟩
  refine AWp.skip ?_
  refine sN (pF rfl ?_)
  obtain ⟨x30, hc31, h⟩ := h
  refine AOps.extC hc31 rfl rfl rfl (.cons rfl .nil) ?_
  obtain ⟨x32, ex32, h⟩ := h.get
  refine ai ex32 rfl ?_
  obtain ⟨x33, hc34, h⟩ := h
  refine AOps.extC hc34 rfl rfl rfl (.cons rfl .nil) ?_
  obtain ⟨x35, hc36, h⟩ := h
  refine ca hc36 rfl ⟨.inl rfl, trivial⟩ rfl (pF rfl (dn (AWp.ret ?_)))
  subst h
  exact ⟨_, rfl, rfl⟩
def W_math_IsNaN (f1 : Nat) (Q : Bool → Prop) : Prop :=
 Q (FloatKind.f64.format.order f1 f1 != some .eq)
theorem walk_math_IsNaN {f1 : Nat} {r : Bool} (h : W_math_IsNaN f1 (fun r' => r' = r)) : Ev_math_IsNaN f1 r := by
  unfold W_math_IsNaN at h
  refine intr (L := [(0, .dat (.v (.float .f64 f1)))]) Tryz.func63 Tryz.ntmps63 ?_
  refine sN (pB rfl (dn (AWp.seq (rN (pF rfl (pF rfl (pB rfl (pB rfl (dn (AWp.ret ?_))))))))))
  subst h
  exact ⟨_, rfl, rfl⟩
def W_math_Inf (sign1 : Int) (Q : Nat → Prop) : Prop :=
 Join1 (fun j3 =>
  Br (decide (sign1 ≥ (0 : Int))) (j3 (9218868437227405312 : Int)) (
   j3 (18442240474082181120 : Int))
 ) (fun (v2 : Int) =>
  Call (Ev_math_Float64frombits v2) fun x4 =>
  Q x4)
theorem walk_math_Inf {sign1 : Int} {r : Nat} (h : W_math_Inf sign1 (fun r' => r' = r)) : Ev_math_Inf sign1 r := by
  unfold W_math_Inf at h
  refine intr (L := [(0, .dat (.v (.int .i64 sign1)))]) Tryz.func64 Tryz.ntmps64 ?_
  refine sN (pF rfl (dn (AWp.seq (rN (pI rfl (dn (AWp.seq (AWp.seq (rN (pI rfl (pB rfl (dn ?_))))))))))))
  obtain ⟨J6, h, hk7⟩ := h
  refine AWp.cutK (I := fun p : Int => mkSt [(3, .dat (.v (.int .u64 p)))] []) (Inv := fun p : Int => J6 p) ?_ (fun p hp => ?_)
  · refine cB h (fun h => ?_) (fun h => ?_)
    · refine rN (pI rfl (dn ?_))
      exact ⟨(9218868437227405312 : Int), h, sl⟩
    refine rN (pI rfl (dn ?_))
    exact ⟨(18442240474082181120 : Int), h, sl⟩
  replace h := hk7 p hp
  revert h; clear hp; generalize p = v2; intro h
  refine sN (pI rfl ?_)
  obtain ⟨x4, hc5, h⟩ := h
  refine AOps.extC hc5 rfl rfl rfl (.cons rfl .nil) ?_
  refine pF rfl (dn (AWp.ret ?_))
  subst h
  exact ⟨_, rfl, rfl⟩
end Go.Sim.YtnnfiohdkobkdaaGreatDoor

/- What is proved: a float's bits, and the float of bits. -/
namespace Go.Sim.YtnnfiohdkobkdaaGreatDoor
open Go.RowKit Go.Proofs Go.Proofs.Tryz
theorem float64bits_ev (b : Nat) : Ev_math_Float64bits b (b : Int) := by
  refine ⟨.int .u64 b, fun w => ?_, fun w S => by simp [RepV, RepD, Value.oneCell']⟩
  rw [run_callFunc_extern Tryz.func66 (by kernel_rfl) (by kernel_rfl) (by kernel_rfl) (e := Extern.MathFloatBits.float64bits) (by kernel_rfl)]
  rfl
theorem float64frombits_ev (b : Nat) : Ev_math_Float64frombits (b : Int) b := by
  refine ⟨.float .f64 b, fun w => ?_, fun w S => by simp [RepV, RepD, Value.oneCell']⟩
  rw [run_callFunc_extern Tryz.func65 (by kernel_rfl) (by kernel_rfl) (by kernel_rfl) (e := Extern.MathFloatBits.float64frombits) (by kernel_rfl)]
  rfl
end Go.Sim.YtnnfiohdkobkdaaGreatDoor

/- What is proved: the float next to 1. -/
namespace Go.Sim.YtnnfiohdkobkdaaGreatDoor
open Go.RowKit Go.Proofs Go.Proofs.Tryz
theorem isNaN_one : Ev_math_IsNaN 4607182418800017408 false := by
  refine walk_math_IsNaN ?_
  unfold W_math_IsNaN
  decide +kernel
theorem inf_one : Ev_math_Inf 1 9218868437227405312 := by
  refine walk_math_Inf ?_
  unfold W_math_Inf
  exact ⟨fun x => x = 9218868437227405312, Br.t (by decide) rfl, fun x hx => by subst hx; exact Call.mk (float64frombits_ev 9218868437227405312) rfl⟩
theorem next_one : Ev_ulp_Next 4607182418800017408 4607182418800017409 := by
  refine walk_ulp_Next ?_
  unfold W_ulp_Next
  refine Call.mk isNaN_one ⟨fun x => x = false, Br.f rfl (Call.mk inf_one (by decide +kernel)), ?_⟩
  rintro _ rfl
  refine Br.f rfl (Br.f (by decide +kernel) (Br.t (by decide +kernel) (Call.mk (float64bits_ev _) (Let.as (4607182418800017409 : Int) (by decide +kernel) (Call.mk (float64frombits_ev 4607182418800017409) rfl)))))
end Go.Sim.YtnnfiohdkobkdaaGreatDoor

/- What is proved: blanks and comments between tokens change no tree, and no error but for its place: the statement ParseBlanks. -/
namespace Go.Sim.YtnnfiohdkobkdaaGreatDoor
open Go.RowKit Go.Proofs Go.Proofs.Tryz
theorem alive13_ev : Ev_law13_alive true := by
  refine walk_law13_alive ?_
  unfold W_law13_alive
  exact Call.mk next_one (by decide +kernel)
end Go.Sim.YtnnfiohdkobkdaaGreatDoor

/- What is proved: a place that is told is a token's, the end's, or 0, and what stands behind the token that can't stand there changes nothing: the statement ParsePlaces. -/
namespace Go.Sim.YtnnfiohdkobkdaaGreatDoor
open Go.RowKit Go.Proofs Go.Proofs.Tryz
theorem lexS_step {L : LexL} {l : List UInt8} (h : (lexS L l).2.1 = 0) {i : Nat} {t u : GToken} (ht : (lexS L l).1[i]? = some t) (hu : (lexS L l).1[i + 1]? = some u) : t.At < u.At := by
  unfold lexS at h ht hu
  split at h
  · simp at h
  · rename_i hl
    rw [if_neg hl] at ht hu
    obtain ⟨d, _, _, d3, d4, _⟩ := lexL_at h (skip_skip l) i t ht
    have h1 := (List.getElem?_eq_some_iff.1 ht)
    have h2 := (List.getElem?_eq_some_iff.1 hu)
    obtain ⟨g1, e1⟩ := h1
    obtain ⟨g2, e2⟩ := h2
    refine lexL_next d3 (ts := (lexL L (l.drop (skip l)) (skip l) 0).1.drop (i + 2)) ?_
    rw [d4, List.drop_eq_getElem_cons g1, List.drop_eq_getElem_cons g2, e1, e2]
theorem lexS_mono {L : LexL} {l : List UInt8} (h : (lexS L l).2.1 = 0) : ∀ (k i : Nat) {t u : GToken}, (lexS L l).1[i]? = some t → (lexS L l).1[i + 1 + k]? = some u → t.At < u.At
  | 0, i, _, _, ht, hu => lexS_step h ht hu
  | k + 1, i, t, u, ht, hu => by
    have hlt := (List.getElem?_eq_some_iff.1 hu).1
    have hv : (lexS L l).1[i + 1 + k]? = some ((lexS L l).1[i + 1 + k]'(by omega)) := List.getElem?_eq_getElem (by omega)
    have h1 := lexS_mono h k i ht hv
    have h2 := lexS_step h hv hu
    omega
theorem tl_take {s : ByteArray} {P : Nat} (h : P ≤ s.size) : tl (s.extract 0 P) 0 = (tl s 0).take P := by
  have := tl_part (s := s) (q := 0) (P := P) (Nat.zero_le _) h
  rwa [Nat.sub_zero] at this
theorem parsePlaces_of (s : ByteArray) : Ev_law13_ParsePlaces s true := by
  refine walk_law13_ParsePlaces ?_
  unfold W_law13_ParsePlaces
  refine Call.mk alive13_ev (Br.f rfl (Call.mk (parse_evK s) (Call.mk (lex_ev lexK_ok s) ?_)))
  have hlen := tl_len s 0
  obtain ⟨A, hA⟩ : ∃ A, A = lexS lexK (tl s 0) := ⟨_, rfl⟩
  by_cases hz : (lexS lexK (tl s 0)).2.1 = 0
  rotate_left
  · have hp : parseS mkR (lexS lexK (tl s 0)) = (GTree.zero, (lexS lexK (tl s 0)).2.1, (lexS lexK (tl s 0)).2.2) := by unfold parseS; rw [if_pos hz]
    rw [hp]
    exact Br.t (bne_iff_ne.2 hz) (Br.eT rfl (by simp))
  refine Br.f (by rw [hz]; rfl) ?_
  have hU := lexS_us hz
  have htake := fun {i : Nat} {t : GToken} h => lexS_take (L := lexK) (l := tl s 0) hz (i := i) (t := t) h
  have hmono := fun k i {t u : GToken} h1 h2 => lexS_mono (L := lexK) (l := tl s 0) hz k i (t := t) (u := u) h1 h2
  rw [← hA] at hz hU htake hmono ⊢
  have hl := file_l mkR (s := (A.1, 0)) rfl hU.fin
  cases hf : fileP mkR (A.1, 0) with
  | ok t =>
    have hp : (parseS mkR A).2.2 = 0 ∧ ((parseS mkR A).2.1 = 0 ∨ (parseS mkR A).2.1 = 132 ∨ (parseS mkR A).2.1 = 2) := by
      unfold parseS
      rw [if_neg (by simp [hz]), hf]
      dsimp only
      split
      · simp
      · split <;> simp
    obtain ⟨p1, p2⟩ := hp
    refine ⟨fun p => p = true, Br.e (fun _ => rfl) fun h0 => Br.e (fun _ => by rw [p1]; rfl) fun h1 => Br.e (fun _ => by rw [p1]; rfl) fun h2 => absurd p2 (by simp [h0, h1, h2]), ?_⟩
    rintro _ rfl
    exact Br.t rfl (by rw [p1]; rfl)
  | error e =>
    have hp : parseS mkR A = (GTree.zero, e.1, e.2) := by
      unfold parseS
      rw [if_neg (by simp [hz]), hf]
    rw [hp]
    obtain ⟨pre, u, post, hL, hE, hloc⟩ := hl.2 e hf
    have hL : A.1 = pre ++ u :: post := hL
    have hone := hE.one
    refine ⟨fun p => p = true → e.2 = 0, Br.e (fun h => by have h : e.1 = 0 := h; omega) fun h0 => Br.e (fun _ h => by simpa using h) fun h1 => Br.e (fun _ h => by simpa using h) fun h2 h => by simp at h, ?_⟩
    rintro p hpz
    cases p with
    | true => exact Br.t rfl (by have h0 : e.2 = 0 := hpz rfl; show (e.2 == 0) = true; rw [h0]; rfl)
    | false =>
      refine Br.f rfl ?_
      have hlenA := hU.len
      refine ⟨fun z => ∃ j : Nat, z = (j : Int) ∧ j ≤ pre.length, fun z => pre.length - z.toNat, ⟨0, rfl, Nat.zero_le _⟩, ?_⟩
      rintro _ ⟨j, rfl, hj⟩
      have hAl : A.1.length = pre.length + 1 + post.length := by rw [hL]; simp <;> omega
      have hlenA : A.1.length ≤ 1000000 := hlenA
      refine Br.dT (by omega) ?_
      have hu : A.1[pre.length]? = some u := by rw [hL, List.getElem?_append_right (Nat.le_refl _), Nat.sub_self]; rfl
      by_cases hjp : j = pre.length
      · subst hjp
        refine At.is hu (Br.f (by simp [hE.at']) (Br.f ?_ ?_))
        · show ((e.1 == 131) != (u.Kind == 0)) = false
          have := hE.fin
          by_cases h1 : e.1 = 131
          · rw [h1, this.1 h1]; rfl
          · have h2 : ¬ u.Kind = 0 := fun h => h1 (this.2 h)
            rw [beq_eq_false_iff_ne.2 h1, beq_eq_false_iff_ne.2 h2]; rfl
        · refine Br.e (fun _ => rfl) fun hk => Let.as ((pre.length + 1 : Nat) : Int) (wi1 (by omega)) ?_
          have hpost : 0 < post.length := by
            obtain ⟨q, x, h1, h2⟩ := hU.fin
            cases post with
            | nil =>
              have h1 : A.1 = q ++ [x] := h1
              rw [hL] at h1
              have := (List.append_inj_right' h1 rfl)
              simp only [List.cons.injEq, and_true] at this
              exact absurd (this ▸ h2) hk
            | cons => simp
          have hv : A.1[pre.length + 1]? = some (A.1[pre.length + 1]'(by omega)) := List.getElem?_eq_getElem (by omega)
          obtain ⟨P, p1, p2, p3⟩ := htake hv
          refine At.is hv ?_
          rw [p1]
          rw [hlen] at p2
          refine ⟨Int.le_refl _, by omega, by omega, Let.as (s.extract 0 P) (by rw [Int.toNat_natCast]; rfl) ?_⟩
          have hev := parse_evK (s.extract 0 P)
          rw [tl_take (by omega), p3] at hev
          have htk : A.1.take (pre.length + 1) = pre ++ [u] := by
            rw [hL, List.take_append, List.take_of_length_le (by omega)]
            simp
          have hp2 : parseS mkR (A.1.take (pre.length + 1) ++ [{ GToken.zero with At := (P : Int) }], 0, 0) = (GTree.zero, e.1, e.2) := by
            unfold parseS
            rw [if_neg (by simp)]
            have h3 := hloc (u :: [{ GToken.zero with At := (P : Int) }]) ⟨[u], _, rfl, rfl⟩ rfl
            rw [htk]
            dsimp only at h3 ⊢
            rw [List.append_assoc]
            show (match fileP mkR (pre ++ [u, { GToken.zero with At := (P : Int) }], 0) with | .error e => _ | .ok t => _) = _
            rw [h3]
          rw [hp2] at hev
          exact Call.mk hev (Br.eT rfl (by simp))
      · have hv : A.1[j]? = some (A.1[j]'(by omega)) := List.getElem?_eq_getElem (by omega)
        have hlt := hmono (pre.length - j - 1) j hv (by rw [show j + 1 + (pre.length - j - 1) = pre.length by omega]; exact hu)
        refine At.is hv (Br.t (bne_iff_ne.2 ?_) (Let.as ((j + 1 : Nat) : Int) (wi1 (by omega)) ⟨⟨j + 1, rfl, by omega⟩, ?_⟩))
        · show (A.1[j]'(by omega)).At ≠ e.2
          rw [hE.at']; omega
        · show pre.length - ((j + 1 : Nat) : Int).toNat < pre.length - ((j : Nat) : Int).toNat
          rw [Int.toNat_natCast, Int.toNat_natCast]; omega
theorem parsePlaces_ev (s : ByteArray) (_ : s.size ≤ maxLen) : Ev_law13_ParsePlaces s true := parsePlaces_of s
end Go.Sim.YtnnfiohdkobkdaaGreatDoor
