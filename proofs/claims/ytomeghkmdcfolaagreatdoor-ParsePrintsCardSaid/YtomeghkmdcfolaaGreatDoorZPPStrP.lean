/- What is proved: what the library's functions yield that the writing of trees calls: numerals, texts joined, repeated, cut at their end. -/
import Derived.Test.YtomeghkmdcfolaaGreatDoorZPPWPp
import Derived.Test.YtomeghkmdcfolaaGreatDoorZPPShelf
import Derived.Test.YtomeghkmdcfolaaGreatDoorZPPDecV
import Derived.ProofKit
import Derived.Test.YtomeghkmdcfolaaGreatDoorZPPParH

namespace Go.Sim.YtomeghkmdcfolaaGreatDoor
open Go.RowKit Go.Proofs Go.Proofs.Tryz
theorem rep_row {w : World} {S : Nat -> Prop} : ∀ (xs : List ByteArray) (ns : List Nat) (row : List Value), RepF w S (xs.map eStr) ns row -> row = xs.map Value.string
 | [], ns, row, h => by simp only [List.map_nil, RepF] at h; rw [h.2]; rfl
 | x :: xs, ns, row, h => by
  simp only [List.map_cons, RepF] at h
  obtain ⟨n, ns', c1, c2, _, rfl, _, h4, h5⟩ := h
  rw [rep_row xs ns' c2 h5]
  simp only [RepD] at h4
  rw [h4.1]; rfl
theorem bs_map (xs : List (List UInt8)) : (xs.map bs).map (fun s : ByteArray => s.data.toList) = xs := by
 rw [List.map_map]
 have : ((fun s : ByteArray => s.data.toList) ∘ bs) = id := by funext l; simp [bs]
 rw [this, List.map_id]
theorem join_jn (sep : List UInt8) : ∀ xs : List (List UInt8), Lib.join xs sep = jn sep xs
 | [] => rfl
 | x :: r => by
  rw [Lib.join_cons, jn]
  congr 1
  induction r with
  | nil => rfl
  | cons y r ih => simp only [Lib.joinTail, List.map_cons, List.flatten_cons, jtl] at ih ⊢; rw [ih]; simp
theorem sjoin_ev {xs : List (List UInt8)} {sep : List UInt8} (hl : xs.length <= 1000000) (h : (jn sep xs).length <= 1000000000) : Ev_strings_Join (xs.map bs) (bs sep) (bs (jn sep xs)) := by
 refine ⟨⟨_, Tryz.func47, by kernel_rfl, by kernel_rfl⟩, fun F w vs hgl hvs => ?_⟩
 cases hvs with
 | cons h1 hr =>
  cases hr with
  | cons h2 hr2 =>
   cases hr2
   simp only [RepV, RepD, List.cons.injEq, and_true] at h1 h2
   obtain ⟨a, c, row, e1, e2, e3, e4⟩ := h1
   rw [h2.1, e1]
   have hrow := rep_row _ _ _ e3
   rw [List.length_map] at e2 e1 ⊢
   rw [List.length_map] at e2 ⊢
   cases hxs : xs with
   | nil =>
    refine Calls.mono (Tryz.strings_Join_none a c (bs sep) w) ?_
    rintro e w' ⟨rfl, rfl⟩
    exact ⟨_, rfl, Below.refl _ _, rfl, rfl⟩
   | cons x r =>
    rw [← hxs]
    have hne : row ≠ [] := by rw [hrow, hxs]; simp
    rcases e4 with e4 | ⟨b, o, rfl, _, e5⟩
    ·exact absurd e4 hne
    have hcells : ∀ (j : Nat) y, (xs.map bs)[j]? = some y -> w.cell? ⟨b, o + j, none⟩ = some (.string y) := fun j y hy => e5 j _ (by rw [hrow, List.getElem?_map, hy]; rfl)
    have hb : b < w.heap.size := by
     have := hcells 0 (bs x) (by rw [hxs]; rfl)
     exact World.block_lt_of_cell? w _ this
    have hj : Lib.join ((xs.map bs).map (·.data.toList)) (bs sep).data.toList = jn sep xs := by
     rw [bs_map, join_jn]; unfold bs; rfl
    have hc := Tryz.strings_Join b o c (xs.map bs) (bs sep) w hcells hb (by rw [List.length_map]; omega) (by rw [List.length_map]; omega) (by rw [hj]; omega)
    rw [hj, List.length_map] at hc
    refine Calls.mono hc ?_
    rintro e w' ⟨rfl, hw⟩
    exact ⟨_, rfl, hw, rfl, rfl⟩
theorem fmt_ev {n : Int} (h : Sim.inI n) : Ev_internal_strconv_FormatInt n 10 (bs (Lib.itoa n)) := by
 unfold Sim.inI at h
 refine ⟨⟨_, Tryz.func93, by kernel_rfl, by kernel_rfl⟩, fun F w vs hgl hvs => ?_⟩
 have hv : vs = [.int .i64 n, .int .i64 10] := by
  cases hvs with
  | cons h1 hr =>
   cases hr with
   | cons h2 hr2 =>
    cases hr2
    simp only [RepV, RepD, List.cons.injEq, and_true] at h1 h2
    rw [h1.1, h2.1]
 subst hv
 have hG : GW w := hgl w (Nat.le_refl _) fun _ _ _ => rfl
 refine Calls.mono (Tryz.internal_strconv_FormatInt_10 n (by omega) (by omega) w hG.pow10) ?_
 rintro e w' ⟨rfl, k, os, rfl⟩
 refine ⟨_, rfl, ⟨rfl, rfl, rfl, ?_, fun i hi => ?_⟩, rfl, rfl⟩
 ·simp [Go.Sort.grow, World.drewN]
 ·simp only [Go.Sort.grow, World.drewN]
  exact Array.getElem?_append_left hi
theorem fmt2_ev {n : Int} (h : Sim.inI n) : Ev_strconv_FormatInt n 10 (bs (Lib.itoa n)) := by
 refine walk_strconv_FormatInt ?_
 unfold W_strconv_FormatInt
 exact Call.mk (fmt_ev h) rfl
theorem itoa_ev {n : Int} (h : Sim.inI n) : Ev_strconv_Itoa n (bs (Lib.itoa n)) := by
 refine walk_strconv_Itoa ?_
 unfold W_strconv_Itoa
 refine Call.mk (x := bs (Lib.itoa n)) (walk_internal_strconv_Itoa ?_) rfl
 unfold W_internal_strconv_Itoa
 exact Call.mk (fmt_ev h) rfl
theorem num_ev {n : Int} (h : Sim.inI n) : Ev_ref13_num n (bs (Lib.itoa n)) := by
 refine walk_ref13_num ?_
 unfold W_ref13_num
 exact Call.mk (itoa_ev h) rfl
theorem itoa_len {n : Int} (h : Sim.inI n) : (Lib.itoa n).length <= 21 := by
 unfold Sim.inI at h
 exact Lib.itoa_length_le n (by omega) (by omega)
theorem repeat_rep (c : UInt8) : ∀ n, Lib.repeatL [c] n = List.replicate n c
 | 0 => rfl
 | n + 1 => by rw [Lib.repeatL, repeat_rep c n]; rfl
theorem rept_ev {n : Nat} (h : n <= 1000) : Ev_strings_Repeat (ByteArray.mk #[48]) (n : Int) (bs (List.replicate n 48)) := by
 refine ⟨⟨_, Tryz.func95, by kernel_rfl, by kernel_rfl⟩, fun F w vs hgl hvs => ?_⟩
 have hv : vs = [.string (ByteArray.mk #[48]), .int .i64 n] := by
  cases hvs with
  | cons h1 hr =>
   cases hr with
   | cons h2 hr2 =>
    cases hr2
    simp only [RepV, RepD, List.cons.injEq, and_true] at h1 h2
    rw [h1.1, h2.1]
 subst hv
 have hc := Tryz.strings_Repeat (ByteArray.mk #[48]) n w (by omega) (by show 1 * n <= _; omega)
 rw [show (ByteArray.mk #[48]).data.toList = [48] from rfl, repeat_rep] at hc
 refine Calls.mono hc ?_
 rintro e w' ⟨rfl, hw⟩
 exact ⟨_, rfl, hw, rfl, rfl⟩
theorem trimr_ev {l : List UInt8} (h : l.length <= 1000) : Ev_strings_TrimRight (bs l) (ByteArray.mk #[48]) (bs (Lib.trimRightB l 48)) := by
 refine ⟨⟨_, Tryz.func96, by kernel_rfl, by kernel_rfl⟩, fun F w vs hgl hvs => ?_⟩
 have hv : vs = [.string (bs l), .string (ByteArray.mk #[48])] := by
  cases hvs with
  | cons h1 hr =>
   cases hr with
   | cons h2 hr2 =>
    cases hr2
    simp only [RepV, RepD, List.cons.injEq, and_true] at h1 h2
    rw [h1.1, h2.1]
 subst hv
 have hc := Tryz.strings_TrimRight_one (bs l) 48 (by decide) w (by rw [bs_size]; omega)
 rw [show (bs l).data.toList = l by simp [bs]] at hc
 refine Calls.mono hc ?_
 rintro e w' ⟨rfl, rfl⟩
 exact ⟨_, rfl, Below.refl _ _, rfl, rfl⟩
end Go.Sim.YtomeghkmdcfolaaGreatDoor

/- What is proved: how long the text of a tree is that may be. -/
namespace Go.Sim.YtomeghkmdcfolaaGreatDoor
open Go.RowKit Go.Proofs Go.Proofs.Tryz
def sumL : List (List UInt8) -> Nat
 | [] => 0
 | x :: r => x.length + 4 + sumL r
theorem sumL_append : ∀ xs ys, sumL (xs ++ ys) = sumL xs + sumL ys
 | [], ys => by simp [sumL]
 | x :: xs, ys => by simp only [List.cons_append, sumL, sumL_append xs ys]; omega
theorem sumL_take (L : List (List UInt8)) (i : Nat) : sumL (L.take i) <= sumL L := by
 have := sumL_append (L.take i) (L.drop i)
 rw [List.take_append_drop] at this; omega
theorem jtl_len {sep : List UInt8} (h : sep.length <= 4) : ∀ L, (jtl sep L).length <= sumL L
 | [] => by simp [jtl, sumL]
 | x :: r => by have := jtl_len h r; simp only [jtl, sumL, List.length_append]; omega
theorem jn_len {sep : List UInt8} (h : sep.length <= 4) (L : List (List UInt8)) : (jn sep L).length <= sumL L := by
 cases L with
 | nil => simp [jn, sumL]
 | cons x r => have := jtl_len h r; simp only [jn, sumL, List.length_append]; omega
theorem jtl_map_len {f : List UInt8 -> List UInt8} (hf : ∀ s, (f s).length <= s.length + 4) : ∀ L : List (List UInt8), (jtl [] (L.map f)).length <= sumL L
 | [] => by simp [jtl, sumL]
 | x :: r => by have := jtl_map_len hf r; have := hf x; simp only [List.map_cons, jtl, sumL, List.length_append, List.nil_append]; omega
theorem jn_map_len {f : List UInt8 -> List UInt8} (hf : ∀ s, (f s).length <= s.length + 4) (L : List (List UInt8)) : (jn [] (L.map f)).length <= sumL L := by
 cases L with
 | nil => simp [jn, sumL]
 | cons x r => have := jtl_map_len hf r; have := hf x; simp only [List.map_cons, jn, sumL, List.length_append]; omega
theorem gt_len (L : List (List UInt8)) : (gt L 0).length + (gt L 1).length + (gt L 2).length <= sumL L := by
 match L with
 | [] => simp [gt, sumL]
 | [a] => simp [gt, sumL]
 | [a, b] => simp [gt, sumL]; omega
 | a :: b :: c :: r => simp [gt, sumL]; omega
theorem opL_len (t : GTree) (s : List UInt8) : (opL t s).length <= s.length + 2 := by
 unfold opL; split <;> simp
theorem op_len (t : GTree) (L : List (List UInt8)) (i : Nat) : (op t L i).length <= (gt L i).length + 2 := opL_len _ _
theorem szL_len {n : Int} (h : Sim.inI n) : (szL n).length <= 23 := by
 unfold szL; split
 ·simp
 ·have := itoa_len h; simp; omega
theorem powL_len {q : GRat} (h : q.inI) : (powL q).length <= 50 := by
 have h1 := itoa_len h.1
 have h2 := itoa_len h.2
 unfold powL; split
 ·omega
 ·simp; omega
theorem tdiv_inI {n d : Int} (hn : Sim.inI n) (hd : 1 <= d) : Sim.inI (Int.tdiv n d) := by
  have h := Int.natAbs_tdiv_le_natAbs n d
  have h1 : 0 <= n -> 0 <= Int.tdiv n d := fun h => Int.tdiv_nonneg h (by omega)
  unfold Sim.inI at *
  by_cases h0 : 0 <= n
  · have := h1 h0; omega
  · have h2 : Int.tdiv n d <= 0 := by
      have e : Int.tdiv (-n) d = -(Int.tdiv n d) := Int.neg_tdiv n d
      have := Int.tdiv_nonneg (a := -n) (b := d) (by omega) (by omega)
      omega
    omega
theorem digL_len {a : GRat} (h : a.inI) (hd : 1 <= a.D) : (digL a).length <= 50 := by
 have h1 := itoa_len (tdiv_inI h.1 hd)
 unfold digL
 rw [List.length_append]
 split
 ·simp; omega
 ·have := fr_len a.D.toNat 18 (Int.tmod a.N a.D).toNat
  simp only [List.length_cons]; omega
theorem fnL_len (n : Int) : (fnL n).length <= 4 := by
 unfold fnL
 repeat (split; · simp)
 simp
theorem node_len {t : GTree} (ht : t.ok) (h1 : t.Name.size <= 24) (h2 : t.Alias.size <= 24) (h3 : t.Kind = 1 -> 1 <= t.Num.D) (L : List (List UInt8)) : (nodeT t L).length + 4 <= 200 + sumL L := by
 have g := gt_len L
 have o0 := op_len t L 0
 have o1 := op_len t L 1
 have lN : (lst t.Name).length <= 24 := h1
 have lA : (lst t.Alias).length <= 24 := h2
 obtain ⟨_, _, _, kN, kM, kR, _⟩ := (GTree.ok_iff t).1 ht
 have iN := itoa_len (inI_of kN)
 have iM := itoa_len (inI_of kM)
 have sN := szL_len (inI_of kN)
 have pq := powL_len (rat_inI kR)
 have fl := fnL_len t.N
 unfold nodeT
 by_cases k30 : t.Kind = 30
 ·rw [if_pos k30]
  have := jn_len (sep := [10]) (by decide) L; omega
 rw [if_neg k30]
 by_cases k31 : t.Kind = 31
 ·rw [if_pos k31]
  have := jn_map_len (f := fun s => [32, 61, 32] ++ s) (by intro s; simp) L
  simp only [List.length_append, List.length_cons, List.length_nil] at *; omega
 rw [if_neg k31]
 by_cases k32 : t.Kind = 32
 ·rw [if_pos k32]
  have := jn_map_len (f := fun s => s ++ [10]) (by intro s; simp) L
  have e : (if t.N = 2 then ([99, 111, 110, 110, 101, 99, 116, 111, 114, 32] : List UInt8) else [109, 111, 100, 101, 108, 32]).length <= 10 := by split <;> simp
  simp only [List.length_append, List.length_cons, List.length_nil] at *; omega
 rw [if_neg k32]
 by_cases k33 : t.Kind = 33
 ·rw [if_pos k33]
  simp only [List.length_append, List.length_cons, List.length_nil] at *; omega
 rw [if_neg k33]
 by_cases k34 : t.Kind = 34
 ·rw [if_pos k34]
  have e : (if t.Flag = true then ([102, 108, 111, 119, 32] : List UInt8) else [118, 97, 114, 32]).length <= 5 := by split <;> simp
  simp only [List.length_append, List.length_cons, List.length_nil] at *; omega
 rw [if_neg k34]
 by_cases k35 : t.Kind = 35
 ·rw [if_pos k35]
  have e : (if L = [] then ([] : List UInt8) else 40 :: (jn [44, 32] L ++ [41])).length <= sumL L + 2 := by
   have := jn_len (sep := [44, 32]) (by decide) L
   split
   ·simp
   ·simp; omega
  simp only [List.length_append, List.length_cons, List.length_nil] at *; omega
 rw [if_neg k35]
 by_cases k36 : t.Kind = 36
 ·rw [if_pos k36]
  simp only [List.length_append, List.length_cons, List.length_nil] at *; omega
 rw [if_neg k36]
 by_cases k37 : t.Kind = 37
 ·rw [if_pos k37]
  split <;> (simp only [List.length_append, List.length_cons, List.length_nil] at *; omega)
 rw [if_neg k37]
 by_cases k38 : t.Kind = 38
 ·rw [if_pos k38]
  simp only [List.length_append, List.length_cons, List.length_nil] at *; omega
 rw [if_neg k38]
 by_cases k39 : t.Kind = 39
 ·rw [if_pos k39]
  simp only [List.length_append, List.length_cons, List.length_nil] at *; omega
 rw [if_neg k39]
 by_cases k40 : t.Kind = 40
 ·rw [if_pos k40]
  have := jn_map_len (f := fun s => s ++ [10]) (by intro s; simp) L
  simp only [List.length_append, List.length_cons, List.length_nil] at *; omega
 rw [if_neg k40]
 by_cases k41 : t.Kind = 41
 ·rw [if_pos k41]
  have := jn_map_len (f := fun s => [58, 32] ++ s) (by intro s; simp) L
  omega
 rw [if_neg k41]
 unfold lowT
 by_cases c1 : t.Kind = 1
 ·rw [if_pos c1]
  have := digL_len (rat_inI kR) (h3 c1); omega
 rw [if_neg c1]
 by_cases c2 : t.Kind = 2
 ·rw [if_pos c2]
  have := jn_len (sep := [46]) (by decide) L; omega
 rw [if_neg c2]
 by_cases c3 : t.Kind = 3
 ·rw [if_pos c3]
  have := jn_map_len (f := fun s => 91 :: (s ++ [93])) (by intro s; simp) L
  simp only [List.length_append] at *; omega
 rw [if_neg c3]
 by_cases c4 : t.Kind = 4
 ·rw [if_pos c4]
  (simp only [List.length_append, List.length_cons, List.length_nil] at *; omega)
 rw [if_neg c4]
 by_cases c5 : t.Kind = 5
 ·rw [if_pos c5]
  (simp only [List.length_append, List.length_cons, List.length_nil] at *; omega)
 rw [if_neg c5]
 by_cases c6 : t.Kind = 6
 ·rw [if_pos c6]
  (simp only [List.length_append, List.length_cons, List.length_nil] at *; omega)
 rw [if_neg c6]
 by_cases c7 : t.Kind = 7
 ·rw [if_pos c7]
  (simp only [List.length_append, List.length_cons, List.length_nil] at *; omega)
 rw [if_neg c7]
 by_cases c8 : t.Kind = 8
 ·rw [if_pos c8]
  (simp only [List.length_append, List.length_cons, List.length_nil] at *; omega)
 rw [if_neg c8]
 by_cases c9 : t.Kind = 9
 ·rw [if_pos c9]
  (simp only [List.length_append, List.length_cons, List.length_nil] at *; omega)
 rw [if_neg c9]
 by_cases c10 : t.Kind = 10 \/ t.Kind = 22
 ·rw [if_pos c10]
  (simp only [List.length_append, List.length_cons, List.length_nil] at *; omega)
 rw [if_neg c10]
 by_cases c11 : t.Kind = 11 \/ t.Kind = 23
 ·rw [if_pos c11]
  (simp only [List.length_append, List.length_cons, List.length_nil] at *; omega)
 rw [if_neg c11]
 by_cases c12 : t.Kind = 12
 ·rw [if_pos c12]
  (simp only [List.length_append, List.length_cons, List.length_nil] at *; omega)
 rw [if_neg c12]
 by_cases c21 : t.Kind = 21
 ·rw [if_pos c21]
  omega
 rw [if_neg c21]
 by_cases c24 : t.Kind = 24
 ·rw [if_pos c24]
  (simp only [List.length_append, List.length_cons, List.length_nil] at *; omega)
 rw [if_neg c24]
 simp only [List.length_cons, List.length_nil]; omega
theorem nmB_size {s : ByteArray} (h : nmB s = true) : s.size <= 24 := by
 unfold nmB nmL at h
 simp only [Bool.and_eq_true, decide_eq_true_eq] at h
 have := h.1.2
 rw [tl_len] at this; omega
theorem one_names {t : GTree} {ix : GTree -> Bool} (h : oneB nmB ix t = true) : t.Name.size <= 24 /\ t.Alias.size <= 24 := by
 have h0 : noText.size = 0 := rfl
 unfold oneB at h
 split at h
 ·cases h
 ·simp only [Bool.and_eq_true] at h
  have hn := h.1.1.1.1.1.1.1.1
  have ha := h.1.1.1.1.1.1.1.2
  constructor
  ·split at hn
   ·exact nmB_size hn
   ·simp only [decide_eq_true_eq] at hn; rw [hn, h0]; omega
  ·split at ha
   ·exact nmB_size ha
   ·simp only [decide_eq_true_eq] at ha; rw [ha, h0]; omega
theorem one_dec {nm : ByteArray -> Bool} {ix : GTree -> Bool} {t : GTree} (h : oneB nm ix t = true) (hk : t.Kind = 1) : decB t.Num = true /\ t.Kids = [] := by
 unfold oneB spec at h
 simp [hk] at h
 exact ⟨h.2, h.1.2⟩
theorem txt_sum {c : Nat} : ∀ ks : List GTree, (∀ k ∈ ks, (txt k).length + 4 <= c * siz k) -> sumL (ks.map txt) <= c * sizL ks
 | [], _ => by simp [sumL]
 | k :: ks, h => by
  have h1 := h k (List.mem_cons_self ..)
  have h2 := txt_sum ks fun k hk => h k (List.mem_cons_of_mem _ hk)
  simp only [List.map_cons, sumL, sizL, Nat.mul_add]; omega
theorem txt_len (t : GTree) (ht : t.ok) (he : everyB nmB t = true) : (txt t).length + 4 <= 200 * siz t := by
 rw [everyB_eq, Bool.and_eq_true] at he
 have hs := txt_sum (c := 200) t.Kids fun k hk => txt_len k (kids_ok ht k hk) (List.all_eq_true.1 he.2 k hk)
 have hn := one_names he.1
 have hd : t.Kind = 1 -> 1 <= t.Num.D := fun hk => by
  have := (one_dec he.1 hk).1
  unfold decB at this
  simp only [Bool.and_eq_true] at this
  exact (GRat.right_spec.1 this.1.1).1
 have := node_len ht hn.1 hn.2 hd (t.Kids.map txt)
 rw [txt_eq, siz_eq]
 omega
termination_by SizeOf.sizeOf t
decreasing_by
 have := List.sizeOf_lt_of_mem hk
 cases t; simp at this ⊢; omega
end Go.Sim.YtomeghkmdcfolaaGreatDoor
