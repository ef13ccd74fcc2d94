/- What is proved: the three blanks of the law may be put in. -/
import Derived.Test.YtnnfiohdkobkdaaGreatDoorZPBLexH
import Derived.Test.YtnnfiohdkobkdaaGreatDoorZPBWE
import Derived.ProofKit
import Derived.Test.YtnnfiohdkobkdaaGreatDoorZPBPureK

namespace Go.Sim.YtnnfiohdkobkdaaGreatDoor
open Go.RowKit Go.Proofs Go.Proofs.Tryz
end Go.Sim.YtnnfiohdkobkdaaGreatDoor

/- What is proved: the whole text with blanks put in. -/
namespace Go.Sim.YtnnfiohdkobkdaaGreatDoor
open Go.RowKit Go.Proofs Go.Proofs.Tryz
variable {L : LexL} {B : Nat -> List UInt8}
def whole (L : LexL) (B : Nat -> List UInt8) (l : List UInt8) : List UInt8 := l.take (skip l) ++ (B 0 ++ re L B (l.drop (skip l)) (skip l) 0)
theorem whole_ok {l : List UInt8} (hB : ∀ i, B i = [] \/ Blank (B i)) (hl : l.length <= 20000) (h : (lexS L l).2.1 = 0) (hw : (whole L B l).length <= 20000) :
    (lexS L (whole L B l)).2.1 = 0 /\ Alike (lexS L l).1 (lexS L (whole L B l)).1 := by
  have hle := skip_le l
  have hT := skip_skip l
  obtain ⟨sk, hsk⟩ : ∃ sk, sk = skip l := ⟨_, rfl⟩
  unfold lexS at h ⊢
  rw [if_neg (by omega)] at h ⊢
  rw [if_neg (by omega)]
  rw [← hsk] at h hle hT ⊢
  have hwe : whole L B l = l.take sk ++ (B 0 ++ re L B (l.drop sk) sk 0) := by rw [hsk]; rfl
  rw [hwe]
  have tl : (l.take sk).length = sk := by rw [List.length_take]; omega
  have hm := fun p' => re_main (L := L) (B := B) hB h hT (i := 0) (p' := p') (n' := 0) (Nat.le_refl _)
  obtain ⟨V, eV⟩ : ∃ V, V = re L B (l.drop sk) sk 0 := ⟨_, rfl⟩
  rw [← eV] at hm ⊢
  have hs : skip (l.take sk ++ (B 0 ++ V)) = sk + (B 0).length := by
    have h1 : skip (l.take sk ++ l.drop sk) = (l.take sk).length := by rw [List.take_append_drop, tl, hsk]
    by_cases hd : l.drop sk = []
    · have hV : V = [] := by rw [eV]; exact re_nil hd
      rw [hd, List.append_nil] at h1
      rw [hV, List.append_nil]
      rcases hB 0 with hb | hb
      · rw [hb, List.append_nil, h1, tl]; rfl
      · rw [blank_behind h1 hb, tl]
    · rw [closed_of h1 hd, tl]
      rcases hB 0 with hb | hb
      · rw [hb, List.nil_append, (hm 0).2.1]; rfl
      · rw [hb.closed, (hm 0).2.1]; rfl
  rw [hs]
  have hdr : (l.take sk ++ (B 0 ++ V)).drop (sk + (B 0).length) = V := by
    rw [← List.append_assoc]
    exact List.drop_left' (by rw [List.length_append, tl])
  rw [hdr]
  obtain ⟨_, _, j1, j2⟩ := hm (sk + (B 0).length)
  exact ⟨j1, j2⟩
end Go.Sim.YtnnfiohdkobkdaaGreatDoor

/- What is proved: how a text with blanks put in is put together. -/
namespace Go.Sim.YtnnfiohdkobkdaaGreatDoor
open Go.RowKit Go.Proofs Go.Proofs.Tryz
variable {L : LexL}
theorem tl_append (a b : ByteArray) : tl (a ++ b) 0 = tl a 0 ++ tl b 0 := by
 unfold tl; simp
theorem tl_bs0 (l : List UInt8) : tl (bs l) 0 = l := by unfold tl bs; simp
def Mid (L : LexL) (B : Nat -> List UInt8) (s : ByteArray) (a : List GToken) (i : Nat) (t : ByteArray) (q : Nat) : Prop :=
  q <= s.size /\ t.size <= i * 20015 /\
  ((i < a.length /\ ∃ P, q <= P /\ P <= s.size /\ (lexL L (tl s P) P i).2.1 = 0 /\ (lexL L (tl s P) P i).1 = a.drop i /\ skip (tl s P) = 0 /\
    tl t 0 ++ ((tl s q).take (P - q) ++ (B i ++ re L B (tl s P) P i)) = whole L B (tl s 0)) \/
   (i = a.length /\ tl t 0 ++ tl s q = whole L B (tl s 0)))
theorem Mid.next {B : Nat -> List UInt8} (hb : ∀ i, (B i).length <= 15) {s : ByteArray} {a : List GToken} {i : Nat} {t : ByteArray} {q : Nat} (h : Mid L B s a i t q) (hi : i < a.length) (hs : s.size <= 20000) :
    ∃ P, q <= P /\ P <= s.size /\ (a[i]'hi).At = (P : Int) /\ ∀ t', tl t' 0 = tl t 0 ++ ((tl s q).take (P - q) ++ B i) -> Mid L B s a (i + 1) t' P := by
  obtain ⟨h1, h2, ⟨_, P, h3, h4, h5, h6, h7, h8⟩ | ⟨h3, _⟩⟩ := h
  rotate_left
  · omega
  have hd := List.drop_eq_getElem_cons hi
  obtain ⟨u, us, e1, e2⟩ := lexL_head h5
  have e3 : u = a[i] := by rw [h6, hd] at e1; exact (List.cons.inj e1).1.symm
  refine ⟨P, h3, h4, by rw [← e3, e2], fun t' ht' => ?_⟩
  have hsz : t'.size = t.size + ((tl s q).take (P - q)).length + (B i).length := by
    have := congrArg List.length ht'
    rw [tl_len, List.length_append, List.length_append, tl_len] at this
    omega
  have hb := hb i
  have hw : tl t' 0 ++ re L B (tl s P) P i = whole L B (tl s 0) := by
    rw [ht', ← h8]; simp only [List.append_assoc]
  refine ⟨h4, by rw [hsz, List.length_take, tl_len]; omega, ?_⟩
  rcases lexL_cases h5 with ⟨g0, e⟩ | ⟨g0, g1, g2, g3, e⟩
  · right
    rw [re_nil g0] at hw
    rw [g0]
    refine ⟨?_, hw⟩
    have h9 := congrArg Prod.fst e
    rw [h6, hd] at h9
    have h10 := congrArg List.length h9
    simp at h10
    omega
  · left
    obtain ⟨m1, m2, m3⟩ := more_pos (L := L) g0 g2
    rw [re_more g0 m1] at hw
    rw [tl_len] at m2
    rw [tl_drop] at g3 m3 hw
    have h9 := congrArg Prod.fst e
    rw [h6, hd] at h9
    have h10 := (List.cons.inj h9).2
    rw [tl_drop] at h10
    obtain ⟨u2, us2, k1, _⟩ := lexL_head g3
    have hi2 : i + 1 < a.length := by
      have := congrArg List.length (h10.trans k1)
      simp at this
      omega
    refine ⟨hi2, P + more L (tl s P) P, by omega, by omega, g3, h10.symm, m3, ?_⟩
    rw [Nat.add_sub_cancel_left]
    exact hw
theorem tl_part {s : ByteArray} {q P : Nat} (h1 : q <= P) (h2 : P <= s.size) : tl (s.extract q P) 0 = (tl s q).take (P - q) := by
 obtain ⟨n, rfl⟩ : ∃ n, P = q + n := ⟨P - q, by omega⟩
 rw [extract_tl, Nat.add_sub_cancel_left, tl_bs0]
theorem Cat.tl {a b : ByteArray} {k : ByteArray -> Prop} (h : a.size + b.size <= 9223372036854775807) (hk : ∀ x, tl x 0 = tl a 0 ++ tl b 0 -> k x) : Cat a b k :=
 ⟨h, Let.as (a ++ b) rfl (hk _ (tl_append a b))⟩
end Go.Sim.YtnnfiohdkobkdaaGreatDoor

/- What is proved: functions of the program compute what plain statements tell. -/
namespace Go.Sim.YtnnfiohdkobkdaaGreatDoor
open Go.RowKit Go.Proofs Go.Proofs.Tryz
set_option maxRecDepth 100000
def W_ulp_Next (x1 : Nat) (Q : Nat -> Prop) : Prop :=
 Call (Ev_math_IsNaN x1) fun x17 =>
 Join1 (fun j22 =>
 Br x17 (j22 x17) (
 Call (Ev_math_Inf (1 : Int)) fun x23 =>
 j22 (FloatKind.f64.format.order x1 x23 == some .eq))
 ) (fun (x21 : Bool) =>
 Br x21 (Q x1) (
 Br (FloatKind.f64.format.order x1 (0 : Nat) == some .eq) (Q (1 : Nat)) (
 Br (FloatKind.f64.format.order x1 (0 : Nat) == some .gt) (
 Call (Ev_math_Float64bits x1) fun x25 =>
 Let (IntKind.u64.wrap (x25 + (1 : Int))) fun x27 =>
 Call (Ev_math_Float64frombits x27) fun x28 =>
 Q x28) (
 Call (Ev_math_Float64bits x1) fun x30 =>
 Let (IntKind.u64.wrap (x30 - (1 : Int))) fun x32 =>
 Call (Ev_math_Float64frombits x32) fun x33 =>
 Call (Ev_ulp_clean x33) fun x35 =>
 Q x35))))
theorem walk_ulp_Next {x1 : Nat} {r : Nat} (h : W_ulp_Next x1 (fun r' => r' = r)) : Ev_ulp_Next x1 r := by
 unfold W_ulp_Next at h
 refine intr (L := [(0, .dat (.v (.float .f64 x1)))]) Tryz.func30 Tryz.ntmps30 ?_
 refine sN (pF rfl (dn (AWp.seq (AWp.block (AWp.seq (AWp.seq (rN (pF rfl ?_))))))))
 obtain ⟨x17, hc18, h⟩ := h
 refine ca hc18 rfl ⟨.inl rfl, trivial⟩ rfl (pB rfl (dn ?_))
 obtain ⟨J37, h, hk38⟩ := h
 refine AWp.cutK (I := fun p : Bool => mkSt [(0, .dat (.v (.float .f64 x1))), (3, .dat (.v (.bool p)))] []) (Inv := fun p : Bool => J37 p) ?_ (fun p hp => ?_)
 ·refine cB h (fun h => ?_) (fun h => ?_)
  ·refine AWp.skip ?_
   exact ⟨x17, h, sl⟩
  refine rN (pF rfl ?_)
  obtain ⟨x23, hc24, h⟩ := h
  refine ca hc24 rfl ⟨.inl rfl, trivial⟩ rfl (pB rfl (pB rfl (dn ?_)))
  exact ⟨(FloatKind.f64.format.order x1 x23 == some .eq), h, sl⟩
 replace h := hk38 p hp
 revert h; clear hp; generalize p = x21; intro h
 refine cB h (fun h => ?_) (fun h => ?_)
 ·refine sN (pF rfl (pF rfl (dn (AWp.ret ?_))))
  subst h
  exact ⟨_, rfl, rfl⟩
 refine sN (pF rfl (pB rfl (pB rfl (dn (cB h (fun h => ?_) (fun h => ?_))))))
 ·refine sN (pF rfl (dn (AWp.ret ?_)))
  subst h
  exact ⟨_, rfl, rfl⟩
 refine sN (pF rfl (pB rfl (pB rfl (dn (cB h (fun h => ?_) (fun h => ?_))))))
 ·refine sN (pF rfl ?_)
  obtain ⟨x25, hc26, h⟩ := h
  refine AOps.extC hc26 rfl rfl rfl (.cons rfl .nil) ?_
  obtain ⟨x27, ex27, h⟩ := h.get
  refine ai ex27 rfl ?_
  obtain ⟨x28, hc29, h⟩ := h
  refine AOps.extC hc29 rfl rfl rfl (.cons rfl .nil) ?_
  refine pF rfl (dn (AWp.ret ?_))
  subst h
  exact ⟨_, rfl, rfl⟩
 refine AWp.skip ?_
 refine sN (pF rfl ?_)
 obtain ⟨x30, hc31, h⟩ := h
 refine AOps.extC hc31 rfl rfl rfl (.cons rfl .nil) ?_
 obtain ⟨x32, ex32, h⟩ := h.get
 refine ai ex32 rfl ?_
 obtain ⟨x33, hc34, h⟩ := h
 refine AOps.extC hc34 rfl rfl rfl (.cons rfl .nil) ?_
 obtain ⟨x35, hc36, h⟩ := h
 refine ca hc36 rfl ⟨.inl rfl, trivial⟩ rfl (pF rfl (dn (AWp.ret ?_)))
 subst h
 exact ⟨_, rfl, rfl⟩
def W_math_IsNaN (f1 : Nat) (Q : Bool -> Prop) : Prop :=
 Q (FloatKind.f64.format.order f1 f1 != some .eq)
theorem walk_math_IsNaN {f1 : Nat} {r : Bool} (h : W_math_IsNaN f1 (fun r' => r' = r)) : Ev_math_IsNaN f1 r := by
 unfold W_math_IsNaN at h
 refine intr (L := [(0, .dat (.v (.float .f64 f1)))]) Tryz.func63 Tryz.ntmps63 ?_
 refine sN (pB rfl (dn (AWp.seq (rN (pF rfl (pF rfl (pB rfl (pB rfl (dn (AWp.ret ?_))))))))))
 subst h
 exact ⟨_, rfl, rfl⟩
def W_math_Inf (sign1 : Int) (Q : Nat -> Prop) : Prop :=
 Join1 (fun j3 =>
 Br (decide (sign1 >= (0 : Int))) (j3 (9218868437227405312 : Int)) (
 j3 (18442240474082181120 : Int))
 ) (fun (v2 : Int) =>
 Call (Ev_math_Float64frombits v2) fun x4 =>
 Q x4)
theorem walk_math_Inf {sign1 : Int} {r : Nat} (h : W_math_Inf sign1 (fun r' => r' = r)) : Ev_math_Inf sign1 r := by
 unfold W_math_Inf at h
 refine intr (L := [(0, .dat (.v (.int .i64 sign1)))]) Tryz.func64 Tryz.ntmps64 ?_
 refine sN (pF rfl (dn (AWp.seq (rN (pI rfl (dn (AWp.seq (AWp.seq (rN (pI rfl (pB rfl (dn ?_))))))))))))
 obtain ⟨J6, h, hk7⟩ := h
 refine AWp.cutK (I := fun p : Int => mkSt [(3, .dat (.v (.int .u64 p)))] []) (Inv := fun p : Int => J6 p) ?_ (fun p hp => ?_)
 ·refine cB h (fun h => ?_) (fun h => ?_)
  ·refine rN (pI rfl (dn ?_))
   exact ⟨(9218868437227405312 : Int), h, sl⟩
  refine rN (pI rfl (dn ?_))
  exact ⟨(18442240474082181120 : Int), h, sl⟩
 replace h := hk7 p hp
 revert h; clear hp; generalize p = v2; intro h
 refine sN (pI rfl ?_)
 obtain ⟨x4, hc5, h⟩ := h
 refine AOps.extC hc5 rfl rfl rfl (.cons rfl .nil) ?_
 refine pF rfl (dn (AWp.ret ?_))
 subst h
 exact ⟨_, rfl, rfl⟩
end Go.Sim.YtnnfiohdkobkdaaGreatDoor

/- What is proved: a float's bits, and the float of bits. -/
namespace Go.Sim.YtnnfiohdkobkdaaGreatDoor
open Go.RowKit Go.Proofs Go.Proofs.Tryz
theorem float64bits_ev (b : Nat) : Ev_math_Float64bits b (b : Int) := by
 refine ⟨.int .u64 b, fun w => ?_, fun w S => by simp [RepV, RepD, Value.oneCell']⟩
 rw [run_callFunc_extern Tryz.func66 (by kernel_rfl) (by kernel_rfl) (by kernel_rfl) (e := Extern.MathFloatBits.float64bits) (by kernel_rfl)]
 rfl
theorem float64frombits_ev (b : Nat) : Ev_math_Float64frombits (b : Int) b := by
 refine ⟨.float .f64 b, fun w => ?_, fun w S => by simp [RepV, RepD, Value.oneCell']⟩
 rw [run_callFunc_extern Tryz.func65 (by kernel_rfl) (by kernel_rfl) (by kernel_rfl) (e := Extern.MathFloatBits.float64frombits) (by kernel_rfl)]
 rfl
end Go.Sim.YtnnfiohdkobkdaaGreatDoor

/- What is proved: the float next to 1. -/
namespace Go.Sim.YtnnfiohdkobkdaaGreatDoor
open Go.RowKit Go.Proofs Go.Proofs.Tryz
theorem isNaN_one : Ev_math_IsNaN 4607182418800017408 false := by
 refine walk_math_IsNaN ?_
 unfold W_math_IsNaN
 decide +kernel
theorem inf_one : Ev_math_Inf 1 9218868437227405312 := by
 refine walk_math_Inf ?_
 unfold W_math_Inf
 exact ⟨fun x => x = 9218868437227405312, Br.t (by decide) rfl, fun x hx => by subst hx; exact Call.mk (float64frombits_ev 9218868437227405312) rfl⟩
theorem next_one : Ev_ulp_Next 4607182418800017408 4607182418800017409 := by
 refine walk_ulp_Next ?_
 unfold W_ulp_Next
 refine Call.mk isNaN_one ⟨fun x => x = false, Br.f rfl (Call.mk inf_one (by decide +kernel)), ?_⟩
 rintro _ rfl
 refine Br.f rfl (Br.f (by decide +kernel) (Br.t (by decide +kernel) (Call.mk (float64bits_ev _) (Let.as (4607182418800017409 : Int) (by decide +kernel) (Call.mk (float64frombits_ev 4607182418800017409) rfl)))))
end Go.Sim.YtnnfiohdkobkdaaGreatDoor
