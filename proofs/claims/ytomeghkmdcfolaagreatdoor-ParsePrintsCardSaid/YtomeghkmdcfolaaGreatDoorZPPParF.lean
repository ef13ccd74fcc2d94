/- What is proved: which nodes may be, by themselves, as the reference tells: all kinds. -/
import Derived.Test.YtomeghkmdcfolaaGreatDoorZPPParE
import Derived.Test.YtomeghkmdcfolaaGreatDoorZPPParC

namespace Go.Sim.YtomeghkmdcfolaaGreatDoor
open Go.RowKit Go.Proofs Go.Proofs.Tryz
def numR (t : GTree) : Bool := t.Kind == 1 && t.Num.D == 1 && decide (t.Num.N <= 1000000)
def ixR (t : GTree) : Bool :=
 if t.Kind = 8 \/ t.Kind = 9 then (match t.Kids with | [a, b] => refB a && numR b | _ => false) else numR t || refB t
theorem ixleaf_ev {t : GTree} (h : ¬ (t.Kind = 8 \/ t.Kind = 9)) : Ev_ref13_isIndex t (numR t || refB t) := by
 refine walk_ref13_isIndex ?_
 unfold W_ref13_isIndex
 refine Br.e (fun h1 => Br.e (fun h2 => ?_) (fun h2 => ?_)) (fun h1 => ⟨fun b => b = false, Br.e (fun e => absurd (.inl e) h) (fun _ => ?_), ?_⟩)
 ·show _ = _; unfold numR refB; rw [h1, h2]; simp
 ·show _ = _; unfold numR refB; rw [h1, beq_false_of_ne h2]; simp
 ·show _ = false; exact beq_false_of_ne (fun e => h (.inr e))
 rintro _ rfl
 have e1 : numR t = false := by unfold numR; rw [beq_false_of_ne h1]; rfl
 rw [e1, Bool.false_or]
 refine Br.f rfl ?_
 unfold refB
 refine Br.e (fun h2 => ?_) (fun h2 => ?_)
 ·rw [h2]
  cases hk : t.Kids with
  | nil => exact Br.f rfl rfl
  | cons k ks =>
   cases ks with
   | nil =>
    refine Br.t rfl (At.nat (i := 0) (by simp) fun x hx => ?_)
    simp at hx; subst hx
    show (((k.Kids.length : Nat) : Int) == 0) = k.Kids.isEmpty
    exact isEmpty_len _
   | cons a b => exact Br.f (by simp; omega) (by simp)
 ·show _ = _; rw [beq_false_of_ne h2]; simp
theorem ixR_ev (t : GTree) : Ev_ref13_isIndex t (ixR t) := by
 by_cases h : t.Kind = 8 \/ t.Kind = 9
 rotate_left
 ·unfold ixR; rw [if_neg h]; exact ixleaf_ev h
 unfold ixR; rw [if_pos h]
 refine walk_ref13_isIndex ?_
 unfold W_ref13_isIndex
 refine Br.eF (by omega) ⟨fun b => b = true, Br.e (fun _ => rfl) (fun e => ?_), ?_⟩
 ·show _ = true
  rcases h with h | h
  ·exact absurd h e
  ·simpa using h
 rintro _ rfl
 refine Br.t rfl ?_
 match hk : t.Kids with
 | [] => exact Br.f rfl rfl
 | [_] => exact Br.f rfl rfl
 | [a, b] =>
  refine Br.t rfl (At.nat (i := 0) (by simp) fun x hx => ?_)
  simp at hx; subst hx
  have ra : a.Kind ≠ 2 -> refB a = false := fun e => by unfold refB; rw [beq_false_of_ne e]; rfl
  have nb : b.Kind ≠ 1 -> numR b = false := fun e => by unfold numR; rw [beq_false_of_ne e]; rfl
  have na : a.Kind = 2 -> numR a = false := fun e => by unfold numR; rw [e]; rfl
  have rb : b.Kind = 1 -> refB b = false := fun e => by unfold refB; rw [e]; rfl
  refine Br.e (fun h2 => At.nat (i := 0) (by simp) fun x hx => ?_) (fun h2 => ?_)
  ·simp at hx; subst hx
   refine Call.mk (ixleaf_ev (t := a) (by omega)) ?_
   rw [na h2, Bool.false_or]
   refine ⟨fun h3 => At.nat (i := 1) (by simp) fun y hy => ?_, fun h3 => ?_⟩
   ·simp at hy; subst hy
    refine Br.e (fun h4 => At.nat (i := 1) (by simp) fun y hy => ?_) (fun h4 => ?_)
    ·simp at hy; subst hy
     refine Call.mk (ixleaf_ev (t := b) (by omega)) ?_
     show _ = (refB a && numR b); rw [rb h4, h3]; simp
    ·show _ = _; simp [nb h4]
   ·show _ = _; simp [h3]
  ·show _ = _; simp [ra h2]
 | _ :: _ :: _ :: _ => exact Br.f (by simp; omega) rfl
theorem kidsM_nil (ks : List GTree) : kidsM [] ks = ks.isEmpty := rfl
theorem kidsM_one (c : UInt8) (its : List (UInt8 × UInt8)) (ks : List GTree) : kidsM ((c, 0) :: its) ks = (match ks with | [] => false | k :: ks => fitsB c.toNat k && kidsM its ks) := by
 cases ks with
 | nil => rfl
 | cons k ks =>
  show (decide (1 <= cnt (fitsB c.toNat) 1 (k :: ks)) && kidsM its ((k :: ks).drop (cnt (fitsB c.toNat) 1 (k :: ks)))) = (fitsB c.toNat k && kidsM its ks)
  rw [cnt]
  by_cases h : fitsB (c.toNat : Int) k = true
  ·rw [if_pos h, h]; rfl
  ·rw [if_neg h]
   have : fitsB (c.toNat : Int) k = false := by simpa using h
   rw [this]; rfl
theorem cnt_all (p : GTree -> Bool) : ∀ (m : Nat) (ks : List GTree), ks.length <= m -> (ks.drop (cnt p m ks)).isEmpty = ks.all p
 | m, [], _ => by cases m <;> rfl
 | 0, _ :: _, h => by simp at h
 | m + 1, k :: ks, h => by
  rw [cnt]
  by_cases hp : p k = true
  ·rw [if_pos hp, List.drop_succ_cons, cnt_all p m ks (by simp at h; omega), List.all_cons, hp, Bool.true_and]
  ·rw [if_neg hp]
   have : p k = false := by simpa using hp
   rw [List.all_cons, this]; rfl
theorem kidsM_star {c : UInt8} {ks : List GTree} (h : ks.length <= 100000) : kidsM [(c, 42)] ks = ks.all (fitsB c.toNat) := by
 show (decide (0 <= cnt (fitsB c.toNat) 1000000 ks) && (ks.drop (cnt (fitsB c.toNat) 1000000 ks)).isEmpty) = _
 rw [cnt_all _ _ _ (by omega)]; rfl
theorem kidsM_plus {c : UInt8} {ks : List GTree} (h : ks.length <= 100000) : kidsM [(c, 43)] ks = plusB (fitsB c.toNat) ks := by
 show (decide (1 <= cnt (fitsB c.toNat) 1000000 ks) && (ks.drop (cnt (fitsB c.toNat) 1000000 ks)).isEmpty) = _
 rw [cnt_all _ _ _ (by omega)]
 unfold plusB
 cases ks with
 | nil => rfl
 | cons k ks =>
  rw [cnt, List.all_cons]
  by_cases hp : fitsB (c.toNat : Int) k = true
  ·rw [if_pos hp]; simp
  ·have : fitsB (c.toNat : Int) k = false := by simpa using hp
   rw [this]; simp
theorem kidsM_opt {c : UInt8} {ks : List GTree} : kidsM [(c, 63)] ks = optB (fitsB c.toNat) ks := by
 show (decide (0 <= cnt (fitsB c.toNat) 1 ks) && (ks.drop (cnt (fitsB c.toNat) 1 ks)).isEmpty) = _
 unfold optB
 match ks with
 | [] => rfl
 | [k] =>
  rw [cnt]
  by_cases hp : fitsB (c.toNat : Int) k = true
  ·rw [if_pos hp]; simp [hp]
  ·have : fitsB (c.toNat : Int) k = false := by simpa using hp
   rw [if_neg hp]; simp [this]
 | k :: k' :: ks =>
  rw [cnt]
  by_cases hp : fitsB (c.toNat : Int) k = true
  ·rw [if_pos hp]; simp [cnt]
  ·rw [if_neg hp]; simp
theorem letter_val (t : GTree) : (t.Kind = 3 /\ letterI t = 120) \/ (t.Kind = 2 /\ letterI t = 102) \/ (t.Kind = 4 /\ letterI t = 118) \/ (1 <= t.Kind /\ t.Kind <= 12 /\ t.Kind ≠ 2 /\ t.Kind ≠ 3 /\ t.Kind ≠ 4 /\ letterI t = 101) \/ (20 <= t.Kind /\ t.Kind <= 24 /\ letterI t = 100) \/
    ((t.Kind = 31 \/ t.Kind = 32) /\ letterI t = 117) \/ (((33 <= t.Kind /\ t.Kind <= 35) \/ t.Kind = 37) /\ letterI t = 105) \/ (t.Kind = 36 /\ letterI t = 109) \/ (38 <= t.Kind /\ t.Kind <= 40 /\ letterI t = 114) \/ (t.Kind = 41 /\ letterI t = 116) \/
    ((t.Kind <= 0 \/ (13 <= t.Kind /\ t.Kind <= 19) \/ (25 <= t.Kind /\ t.Kind <= 30) \/ 42 <= t.Kind) /\ letterI t = 45) := by
  unfold letterI
  split
  · left; omega
  split
  · right; left; omega
  split
  · right; right; left; omega
  split
  · right; right; right; left; omega
  split
  · right; right; right; right; left; omega
  split
  · right; right; right; right; right; left; omega
  split
  · right; right; right; right; right; left; omega
  split
  · right; right; right; right; right; right; left; omega
  split
  · right; right; right; right; right; right; right; left; omega
  split
  · right; right; right; right; right; right; right; right; left; omega
  split
  · right; right; right; right; right; right; right; right; right; left; omega
  right; right; right; right; right; right; right; right; right; right; omega
theorem fit_u : fitsB ((117 : UInt8).toNat : Int) = isKs [31, 32] := by
 funext t
 have h := letter_val t
 rw [Bool.eq_iff_iff]
 simp [fitsB, isKs]
 omega
theorem fit_d : fitsB ((100 : UInt8).toNat : Int) = isD := by
 funext t
 have h := letter_val t
 rw [Bool.eq_iff_iff]
 simp [fitsB, isD]
 omega
theorem fit_I : fitsB ((73 : UInt8).toNat : Int) = isI := by
 funext t
 have h := letter_val t
 rw [Bool.eq_iff_iff]
 simp [fitsB, isI, isR]
 omega
theorem fit_t : fitsB ((116 : UInt8).toNat : Int) = isKs [41] := by
 funext t
 have h := letter_val t
 rw [Bool.eq_iff_iff]
 simp [fitsB, isKs]
 omega
theorem fit_E : fitsB ((69 : UInt8).toNat : Int) = isE := by
 funext t
 have h := letter_val t
 rw [Bool.eq_iff_iff]
 simp [fitsB, isE]
 omega
theorem fit_m : fitsB ((109 : UInt8).toNat : Int) = isKs [36] := by
 funext t
 have h := letter_val t
 rw [Bool.eq_iff_iff]
 simp [fitsB, isKs]
 omega
theorem fit_S : fitsB ((83 : UInt8).toNat : Int) = isKs [2, 4] := by
 funext t
 have h := letter_val t
 rw [Bool.eq_iff_iff]
 simp [fitsB, isKs]
 omega
theorem fit_f : fitsB ((102 : UInt8).toNat : Int) = isKs [2] := by
 funext t
 have h := letter_val t
 rw [Bool.eq_iff_iff]
 simp [fitsB, isKs]
 omega
theorem fit_r : fitsB ((114 : UInt8).toNat : Int) = isR := by
 funext t
 have h := letter_val t
 rw [Bool.eq_iff_iff]
 simp [fitsB, isR]
 omega
theorem fit_x : fitsB ((120 : UInt8).toNat : Int) = isKs [3] := by
 funext t
 have h := letter_val t
 rw [Bool.eq_iff_iff]
 simp [fitsB, isKs]
 omega
theorem refDecimal_ev (hr : ∀ a : GRat, a.ok -> Ev_ref11_Right a a.right) {a : GRat} (ha : a.ok) (hd : a.right = true -> a.D ≠ 0) : Ev_ref13_Decimal a (decB a) := by
 refine walk_ref13_Decimal ?_
 unfold W_ref13_Decimal decB
 refine Call.mk (hr a ha) ⟨fun h => Br.d (fun h2 => ⟨hd h, Let.it ?_⟩) (fun h2 => ?_), fun h => ?_⟩
 ·show _ = _; rw [h, decide_eq_true (show (0 : Int) <= _ from h2)]; rfl
 ·show _ = _; rw [decide_eq_false (show ¬ (0 : Int) <= _ from h2)]; simp
 ·show _ = _; rw [h]; rfl
def nmOr (nm : ByteArray -> Bool) (s : ByteArray) (b : Bool) : Bool := if b = true then nm s else decide (s = noText)
def lastB (t : GTree) : Bool :=
 if t.Kind = 1 then decB t.Num else if t.Kind = 24 then powB t.Num else if t.Kind = 3 then noNum t.Num && (match t.Kids with | [] => true | k :: _ => ixR k) else noNum t.Num
section
variable {nm : ByteArray -> Bool} (hnm : ∀ s : ByteArray, s.size <= maxLen -> Ev_ref12_Name s (nm s))
 (hr : ∀ a : GRat, a.ok -> Ev_ref11_Right a a.right) (hd : ∀ a : GRat, a.right = true -> a.D ≠ 0)
include hnm
theorem refname_ev {s : ByteArray} (hs : s.size <= maxLen) (b : Bool) : Ev_ref13_name s b (nmOr nm s b) := by
 refine walk_ref13_name ?_
 unfold W_ref13_name nmOr
 refine ⟨fun h => Call.mk (hnm s hs) ?_, fun h => ?_⟩
 ·show _ = _; rw [if_pos h]
 ·show _ = _; rw [if_neg (by simp [h]), noText_iff]
include hr hd
theorem oneR_ev {t : GTree} (ht : t.ok) (hl : t.Kids.length <= 100000) {H : List UInt8} {lo hi m : Int} {its : List (UInt8 × UInt8)} (hH : H.length <= 1000) (hq : ∀ x ∈ its, okQ x) (hE : (encQ its).length <= 1000)
    (hs : Ev_ref13_spec t.Kind (⟨bsl H, lo, hi, m, bsl (encQ its)⟩, true)) :
    Ev_ref13_one t (nmOr nm t.Name (H.contains 78) && nmOr nm t.Alias (H.contains 65) && (!t.Flag || H.contains 70) && decide (lo <= t.N) && decide (t.N <= hi) && decide (0 <= t.M) && decide (t.M <= m) && kidsM its t.Kids && lastB t) := by
  have hns : t.Name.size <= maxLen := ((GTree.ok_iff t).1 ht).2.1
  have has : t.Alias.size <= maxLen := ((GTree.ok_iff t).1 ht).2.2.1
  have hnum : t.Num.ok := ((GTree.ok_iff t).1 ht).2.2.2.2.2.1
  have has' : ∀ c : UInt8, Ev_ref13_has (bsl H) (c.toNat : Int) (H.contains c) := fun c => has_ev hH c
  refine walk_ref13_one ?_
  unfold W_ref13_one
  refine Call.mk hs ⟨fun b => b = !(nmOr nm t.Name (H.contains 78) && nmOr nm t.Alias (H.contains 65) && (!t.Flag || H.contains 70)), Br.f rfl (Call.mk (has' 78) (Call.mk (refname_ev hnm hns _) ⟨fun h1 => ?_, fun h1 => Call.mk (has' 65) (Call.mk (refname_ev hnm has _) ⟨fun h2 => ?_, fun h2 => ⟨fun h3 => Call.mk (has' 70) ?_, fun h3 => ?_⟩⟩)⟩)), ?_⟩
  · show true = _
    have : nmOr nm t.Name (H.contains 78) = false := by simpa using h1
    rw [this]; rfl
  · show true = _
    have : nmOr nm t.Alias (H.contains 65) = false := by simpa using h2
    rw [this]; simp
  · show (!(H.contains 70)) = _
    have e1 : nmOr nm t.Name (H.contains 78) = true := by simpa using h1
    have e2 : nmOr nm t.Alias (H.contains 65) = true := by simpa using h2
    rw [e1, e2, h3]; simp
  · show false = _
    have e1 : nmOr nm t.Name (H.contains 78) = true := by simpa using h1
    have e2 : nmOr nm t.Alias (H.contains 65) = true := by simpa using h2
    rw [e1, e2, h3]; rfl
  rintro _ rfl
  generalize (nmOr nm t.Name (H.contains 78) && nmOr nm t.Alias (H.contains 65) && (!t.Flag || H.contains 70)) = X
  cases X with
  | false => exact Br.t rfl (by simp)
  | true =>
    refine Br.f rfl (Br.d (fun h1 => ?_) (fun h1 => Br.d (fun h2 => ?_) (fun h2 => Br.d (fun h3 => ?_) (fun h3 => Br.d (fun h4 => ?_) (fun h4 => Call.mk (kids_ev hq hE hl) ⟨fun h5 => ?_, fun h5 => ?_⟩)))))
    · show _ = _; rw [decide_eq_false (show ¬ lo <= t.N from by simpa using h1)]; simp
    · show _ = _; rw [decide_eq_false (show ¬ t.N <= hi from by simpa using h2)]; simp
    · show _ = _; rw [decide_eq_false (show ¬ 0 <= t.M from by simpa using h3)]; simp
    · show _ = _; rw [decide_eq_false (show ¬ t.M <= m from by simpa using h4)]; simp
    · show _ = _
      have : kidsM its t.Kids = false := by simpa using h5
      rw [this]; simp
    · have e5 : kidsM its t.Kids = true := by simpa using h5
      have e1 : lo <= t.N := by simpa using h1
      have e2 : t.N <= hi := by simpa using h2
      have e3 : 0 <= t.M := by simpa using h3
      have e4 : t.M <= m := by simpa using h4
      rw [e5, decide_eq_true e1, decide_eq_true e2, decide_eq_true e3, decide_eq_true e4]
      simp only [Bool.true_and]
      unfold lastB
      refine Br.e (fun k1 => ?_) (fun k1 => Br.e (fun k24 => ?_) (fun k24 => Br.e (fun k3 => ?_) (fun k3 => ?_)))
      · rw [if_pos k1]; exact Call.mk (refDecimal_ev hr hnum (hd _)) rfl
      · rw [if_neg k1, if_pos k24]
        unfold powB
        refine Call.mk (hr _ hnum) ⟨fun b1 => Br.d (fun b2 => Br.d (fun b3 => ?_) (fun b3 => ?_)) (fun b2 => ?_), fun b1 => ?_⟩
        · show _ = _; rw [b1, decide_eq_true (show (-64 : Int) <= _ from b2), decide_eq_true b3]; rfl
        · show _ = _; rw [decide_eq_false b3]; simp
        · show _ = _; rw [decide_eq_false (show ¬ (-64 : Int) <= _ from b2)]; simp
        · show _ = _; rw [b1]; rfl
      · rw [if_neg k1, if_neg k24, if_pos k3]
        unfold noNum
        refine ⟨fun b1 => ?_, fun b1 => ?_⟩
        · rw [b1]
          cases hk : t.Kids with
          | nil => exact Br.t rfl rfl
          | cons k ks =>
            refine Br.f (by simp; omega) (At.nat (i := 0) (by simp) fun x hx => ?_)
            simp at hx; subst hx
            exact Call.mk (ixR_ev k) rfl
        · show _ = _; rw [b1]; rfl
      · rw [if_neg k1, if_neg k24, if_neg k3]; rfl
end
end Go.Sim.YtomeghkmdcfolaaGreatDoor

/- What is proved: which nodes may be, by themselves, as the program tells: all kinds. -/
namespace Go.Sim.YtomeghkmdcfolaaGreatDoor
open Go.RowKit Go.Proofs Go.Proofs.Tryz
section
variable {nm : ByteArray -> Bool} (hnm : ∀ s : ByteArray, s.size <= maxLen -> Ev_parse_named s (nm s)) (h0 : nm noText = false)
 (hr : ∀ a : GRat, a.ok -> Ev_rat_Right a a.right) (hd : ∀ a : GRat, a.right = true -> a.D ≠ 0)
include hnm h0 hr hd
theorem shape_ev {t : GTree} (ht : t.ok) : Ev_parse_shape t (oneB nm indexB t) := by
 have hl := kids_le ht
 have hns : t.Name.size <= maxLen := ((GTree.ok_iff t).1 ht).2.1
 have has : t.Alias.size <= maxLen := ((GTree.ok_iff t).1 ht).2.2.1
 have fE : ∀ x ∈ t.Kids, FVal prog Fn_parse_expression [GTree.out x] (.v (.bool (isE x))) := fun x _ => call_parse_expression (expression_ev x)
 have fD : ∀ x ∈ t.Kids, FVal prog Fn_parse_dimension [GTree.out x] (.v (.bool (isD x))) := fun x _ => call_parse_dimension (dimension_ev x)
 have fI : ∀ x ∈ t.Kids, FVal prog Fn_parse_item [GTree.out x] (.v (.bool (isI x))) := fun x _ => call_parse_item (item_ev x)
 have fR : ∀ x ∈ t.Kids, FVal prog Fn_parse_rule [GTree.out x] (.v (.bool (isR x))) := fun x _ => call_parse_rule (rule_ev x)
 have fK : ∀ ks : List Int, ks.length <= 1000 -> ∀ x ∈ t.Kids, FVal prog (Fn_parse_kind_1 ks) [GTree.out x] (.v (.bool (isKs ks x))) := fun ks h x _ => kind_fn h
 have one1 : ∀ (f : DV) (p : GTree -> Bool), IsFn f -> (∀ x ∈ t.Kids, FVal prog f [GTree.out x] (.v (.bool (p x)))) -> Ev_parse_each t.Kids [f] (eachB [p] t.Kids) := fun f p h1 h2 =>
  each_ev hl rfl fun i f' p' hf hp => by
   match i with
   | 0 => simp at hf hp; subst hf hp; exact ⟨h1, h2⟩
   | i + 1 => simp at hf
 have two : ∀ (f g : DV) (p q : GTree -> Bool), IsFn f -> IsFn g -> (∀ x ∈ t.Kids, FVal prog f [GTree.out x] (.v (.bool (p x)))) -> (∀ x ∈ t.Kids, FVal prog g [GTree.out x] (.v (.bool (q x)))) -> Ev_parse_each t.Kids [f, g] (eachB [p, q] t.Kids) := fun f g p q h1 h1' h2 h2' =>
  each_ev hl rfl fun i f' p' hf hp => by
   match i with
   | 0 => simp at hf hp; subst hf hp; exact ⟨h1, h2⟩
   | 1 => simp at hf hp; subst hf hp; exact ⟨h1', h2'⟩
   | i + 2 => simp at hf
 have three : ∀ (f g k : DV) (p q s : GTree -> Bool), IsFn f -> IsFn g -> IsFn k -> (∀ x ∈ t.Kids, FVal prog f [GTree.out x] (.v (.bool (p x)))) -> (∀ x ∈ t.Kids, FVal prog g [GTree.out x] (.v (.bool (q x)))) -> (∀ x ∈ t.Kids, FVal prog k [GTree.out x] (.v (.bool (s x)))) -> Ev_parse_each t.Kids [f, g, k] (eachB [p, q, s] t.Kids) := fun f g k p q s h1 h1' h1'' h2 h2' h2'' =>
  each_ev hl rfl fun i f' p' hf hp => by
   match i with
   | 0 => simp at hf hp; subst hf hp; exact ⟨h1, h2⟩
   | 1 => simp at hf hp; subst hf hp; exact ⟨h1', h2'⟩
   | 2 => simp at hf hp; subst hf hp; exact ⟨h1'', h2''⟩
   | i + 3 => simp at hf
 have iE : IsFn Fn_parse_expression := isFn_v
 have iD : IsFn Fn_parse_dimension := isFn_v
 have iI : IsFn Fn_parse_item := isFn_v
 have iR : IsFn Fn_parse_rule := isFn_v
 have iK : ∀ ks, IsFn (Fn_parse_kind_1 ks) := fun _ => isFn_c
 have bad : ∀ (w : GTree) (ok : Bool), w.Name.size <= maxLen -> ok = false -> oneB nm indexB t = false -> w.Name.size <= maxLen /\ finB nm t w ok = oneB nm indexB t := fun w ok h3 h1 h2 => ⟨h3, by unfold finB; rw [h1, h2]; rfl⟩
 have h00 : noText.size <= maxLen := by decide
 refine walk_parse_shape ?_
 unfold W_parse_shape
 refine ⟨fun w ok => w.Name.size <= maxLen /\ finB nm t w ok = oneB nm indexB t, ?_, ?_⟩
 rotate_left
 ·rintro w ok ⟨hws, hw⟩
  rw [← hw]
  unfold finB
  rw [noText_iff]
  refine ⟨fun h => Br.d (fun h1 => Call.mk (same_ev t w) ⟨fun h2 => ⟨fun h3 => ?_, fun h3 => Call.mk (names_ev _) ?_⟩, fun h2 => ?_⟩) (fun h1 => Call.mk (hnm _ hws) ⟨fun h2 => Call.mk (same_ev t w) ⟨fun h3 => ⟨fun h4 => ?_, fun h4 => ?_⟩, fun h3 => ?_⟩, fun h2 => ?_⟩), fun h => ?_⟩
  ·simp [h1] at h3
  ·show _ = _; rw [h, h2]; simp [h1]
  ·show _ = _; rw [h2]; simp
  ·show _ = _; rw [h, h2, h3]; simp [h1]
  ·simp [h1] at h4
  ·show _ = _; rw [h3]; simp
  ·show _ = _; rw [h2]; simp [h1]
  ·show _ = _; rw [h]; simp
 refine Br.e (fun h => ?_) (fun n30 => Br.e (fun h => ?_) (fun n31 => Br.e (fun h => ?_) (fun n32 => Br.e (fun h => ?_) (fun n33 => Br.e (fun h => ?_) (fun n34 => Br.e (fun h => ?_) (fun n35 => Br.e (fun h => ?_) (fun n36 => Br.e (fun h => ?_) (fun n37 => Br.e (fun h => ?_) (fun n38 =>
  ⟨fun b => b = decide (t.Kind = 39 \/ t.Kind = 8 \/ t.Kind = 9 \/ t.Kind = 10 \/ t.Kind = 11), ?_, ?_⟩)))))))))
 ·refine Call.mk (kind_ev _) (Call.mk (all_ev hl (iK _) (fK _ (by decide))) ⟨h00, ?_⟩)
  unfold finB oneB spec sameB many noNum namesB
  simp [h]; grind
 ·refine Call.mk (all_ev hl iD fD) ⟨hns, ?_⟩
  unfold finB oneB spec sameB optB noNum namesB
  simp [h]; grind
 ·refine Call.mk (upto_ev _ _ _) ⟨fun hb => Call.mk (all_ev hl iI fI) ⟨hns, ?_⟩, fun hb => bad _ _ hns rfl ?_⟩
  ·simp at hb
   unfold finB oneB spec sameB many noNum namesB
   simp [h, hb]; grind
  ·simp at hb
   unfold oneB spec; simp [h]; grind
 ·refine Call.mk (kind_ev _) ⟨iK _, Call.mk (two _ _ _ _ (iK _) iE (fK _ (by decide)) fE) ⟨hns, ?_⟩⟩
  unfold finB oneB spec sameB noNum namesB
  simp [h]; grind
 ·refine Call.mk (upto_ev _ _ _) ⟨fun hb => Call.mk (kind_ev _) ⟨iK _, Call.mk (one1 _ _ (iK _) (fK _ (by decide))) ⟨hns, ?_⟩⟩, fun hb => bad _ _ hns rfl ?_⟩
  ·simp at hb
   unfold finB oneB spec sameB noNum namesB
   simp [h, hb]; grind
  ·simp at hb
   unfold oneB spec; simp [h]; grind
 ·refine Call.mk (upto_ev _ _ _) ⟨fun hb => Call.mk (hnm _ has) ⟨fun hb2 => Call.mk (kind_ev _) (Call.mk (all_ev hl (iK _) (fK _ (by decide))) ⟨hns, ?_⟩), fun hb2 => bad _ _ hns rfl ?_⟩, fun hb => bad _ _ hns rfl ?_⟩
  ·simp at hb
   unfold finB oneB spec sameB many noNum namesB
   simp [h, hb, hb2]; grind
  ·unfold oneB spec; simp [h, hb2]
  ·simp at hb
   unfold oneB spec; simp [h]; grind
 ·refine Call.mk (one1 _ _ iE fE) ⟨hns, ?_⟩
  unfold finB oneB spec sameB noNum namesB
  simp [h]; grind
 ·refine Call.mk (kind_ev _) ⟨iK _, Call.mk (three _ _ _ _ _ _ (iK _) iE iE (fK _ (by decide)) fE fE) ⟨h00, ?_⟩⟩
  unfold finB oneB spec sameB noNum namesB
  simp [h]; grind
 ·refine Call.mk (kind_ev _) (Call.mk (kind_ev _) ⟨iK _, iK _, Call.mk (two _ _ _ _ (iK _) (iK _) (fK _ (by decide)) (fK _ (by decide))) ⟨h00, ?_⟩⟩)
  unfold finB oneB spec sameB noNum namesB
  simp [h]; grind
 ·refine Br.e (fun e => by simp [e]) (fun e1 => Br.e (fun e => by simp [e]) (fun e2 => Br.e (fun e => by simp [e]) (fun e3 => Br.e (fun e => by simp [e]) (fun e4 => ?_))))
  show _ = _
  rw [Bool.eq_iff_iff]; simp [e1, e2, e3, e4]
 rintro _ rfl
 refine Br.d (fun h => Call.mk (two _ _ _ _ iE iE fE fE) ⟨h00, ?_⟩) (fun n39 => Br.e (fun h => ?_) (fun n40 => Br.e (fun h => ?_) (fun n41 => ?_)))
 ·unfold finB oneB spec sameB noNum namesB
  rcases h with h | h | h | h | h <;> simp [h] <;> grind
 ·refine Call.mk (upto_ev _ _ _) ⟨fun hb => Call.mk (upto_ev _ _ _) ⟨fun hb2 => Call.mk (all_ev hl iR fR) ⟨hns, ?_⟩, fun hb2 => bad _ _ hns rfl ?_⟩, fun hb => bad _ _ hns rfl ?_⟩
  ·simp at hb hb2
   unfold finB oneB spec sameB many noNum namesB
   simp [h, hb, hb2]; grind
  ·simp at hb2
   unfold oneB spec; simp [h]; grind
  ·simp at hb
   unfold oneB spec; simp [h]; grind
 ·refine Call.mk (all_ev hl iD fD) ⟨h00, ?_⟩
  unfold finB oneB spec sameB optB noNum namesB
  simp [h]; grind
 ·exact Call.mk (low_ev hnm hr hd ht (by omega)) rfl
end
end Go.Sim.YtomeghkmdcfolaaGreatDoor
