/- What is proved: whether two trees are the same, as the program and the reference tell; texts of lists of trees. -/
import Derived.Test.YtomeghkmdcfolaaGreatDoorZPPTxtC

namespace Go.Sim.YtomeghkmdcfolaaGreatDoor
open Go.RowKit Go.Proofs Go.Proofs.Tryz
theorem zip_at {α β : Type} {xs : List α} {ys : List β} {i : Nat} {x : α} {y : β} (hx : xs[i]? = some x) (hy : ys[i]? = some y) : (xs.zip ys)[i]? = some (x, y) := by
 rw [List.getElem?_zip_eq_some]; exact ⟨hx, hy⟩
theorem equalFunc_ev {s1 s2 : List GTree} {f : DV} {p : GTree -> GTree -> Bool} (hs : s1.length <= maxLen) (hs2 : s2.length <= maxLen) (h : ∀ x ∈ s1, ∀ y ∈ s2, FVal prog f [GTree.out x, GTree.out y] (.v (.bool (p x y)))) :
    Ev_slices_EqualFunc_api_Tree s1 s2 f (decide (s1.length = s2.length) && (s1.zip s2).all fun q => p q.1 q.2) := by
  have hm : maxLen = 9223372036854775807 := rfl
  refine walk_slices_EqualFunc_api_Tree ?_
  unfold W_slices_EqualFunc_api_Tree
  refine ⟨fun hl => ?_, fun hl => ?_⟩
  · show false = _
    have : s1.length ≠ s2.length := by
      intro e; rw [e] at hl; simp at hl
    rw [decide_eq_false this]; rfl
  · have he : s1.length = s2.length := by simp only [bne_eq_false_iff_eq] at hl; omega
    rw [decide_eq_true he]
    have hzl : (s1.zip s2).length = s1.length := by rw [List.length_zip]; omega
    refine Loop1.first (s1.zip s2) (fun q => !p q.1 q.2) ?_
    intro i k hi hP hk
    refine Br.d (fun hlt => At.nat (by omega) fun x hx => At.nat (by omega) fun y hy => Call.mk (h x (List.mem_of_getElem? hx) y (List.mem_of_getElem? hy)) ⟨fun hp => ?_, fun hp => ?_⟩) (fun hge => ?_)
    · show false = _
      have : (s1.zip s2).all (fun q => p q.1 q.2) = false := by
        rw [← Bool.not_eq_true, List.all_eq_true]
        intro hall
        have := hall (x, y) (List.mem_of_getElem? (zip_at hx hy))
        rw [this] at hp; cases hp
      rw [this]; rfl
    · exact Let.as _ (wi1 (by omega)) (hk (x, y) (zip_at hx hy) hp)
    · show true = _
      have : (s1.zip s2).all (fun q => p q.1 q.2) = true := by
        rw [List.all_eq_true]
        intro q hq
        obtain ⟨j, hj⟩ := List.mem_iff_getElem?.1 hq
        have := hP j q (by have := (List.getElem?_eq_some_iff.1 hj).1; omega) hj
        simpa using this
      rw [this]; rfl
theorem eqB_eq' (t u : GTree) : eqB t u = (sameB t u && (decide (t.Kids.length = u.Kids.length) && (t.Kids.zip u.Kids).all fun q => eqB q.1 q.2)) := by rw [eqB_eq, eqL_zip]
theorem treeEq_both (a b : GTree) (ha : a.ok) (hb : b.ok) : Ev_parse_equal a b (eqB a b) /\ Ev_ref13_Like a b (eqB a b) := by
 have hm : maxLen = 9223372036854775807 := rfl
 have ih : ∀ x ∈ a.Kids, ∀ y ∈ b.Kids, Ev_parse_equal x y (eqB x y) /\ Ev_ref13_Like x y (eqB x y) := fun x hx y hy => treeEq_both x y (kids_ok ha x hx) (kids_ok hb y hy)
 have k1 := kids_le ha
 have k2 := kids_le hb
 constructor
 ·refine walk_parse_equal ?_
  unfold W_parse_equal
  rw [eqB_eq']
  refine Call.mk (same_ev a b) ⟨fun h => Call.mk (equalFunc_ev (p := eqB) k1 k2 fun x hx y hy => call_parse_equal (ih x hx y hy).1) ?_, fun h => ?_⟩
  ·show _ = _; rw [h]; simp
  ·show false = _; rw [h]; rfl
 ·refine walk_ref13_Like ?_
  unfold W_ref13_Like
  rw [eqB_eq']
  have es : ∀ x y : ByteArray, (x.toList == y.toList) = decide (x = y) := fun x y => by rw [Bool.eq_iff_iff, beq_str]; simp
  rw [es, es]
  have hS : sameB a b = false -> false = (sameB a b && (decide (a.Kids.length = b.Kids.length) && (a.Kids.zip b.Kids).all fun q => eqB q.1 q.2)) := fun h => by rw [h]; rfl
  refine ⟨fun h => hS (by unfold sameB; simp at h; simp [h]), fun h1 => ?_⟩
  refine ⟨fun h => hS (by unfold sameB; simp at h; simp [h]), fun h2 => ?_⟩
  refine ⟨fun h => hS (by unfold sameB; simp at h; simp [h]), fun h3 => ?_⟩
  refine ⟨fun h => hS (by unfold sameB; simp at h; simp [h]), fun h4 => ?_⟩
  refine ⟨fun h => hS (by unfold sameB; simp at h; simp [h]), fun h5 => ?_⟩
  refine ⟨fun h => hS (by unfold sameB; simp at h; simp [h]), fun h6 => ?_⟩
  refine ⟨fun h => hS (by unfold sameB; simp at h; simp [h]), fun h7 => ?_⟩
  have hT : sameB a b = true := by
   unfold sameB
   simp at h1 h2 h3 h4 h5 h6 h7
   simp [h1, h2, h3, h4, h5, h6, h7]
  rw [hT]
  refine ⟨fun hl => ?_, fun hl => ?_⟩
  ·show false = _
   have : a.Kids.length ≠ b.Kids.length := by
    intro e; rw [e] at hl; simp at hl
   rw [decide_eq_false this]; rfl
  have he : a.Kids.length = b.Kids.length := by simp only [bne_eq_false_iff_eq] at hl; omega
  rw [decide_eq_true he]
  have hzl : (a.Kids.zip b.Kids).length = a.Kids.length := by rw [List.length_zip]; omega
  refine Loop1.first (a.Kids.zip b.Kids) (fun q => !eqB q.1 q.2) ?_
  intro i k hi hP hk
  refine Br.d (fun hlt => At.nat (by omega) fun x hx => At.nat (by omega) fun y hy => Call.mk (ih x (List.mem_of_getElem? hx) y (List.mem_of_getElem? hy)).2 ⟨fun hp => ?_, fun hp => ?_⟩) (fun hge => ?_)
  ·show false = _
   have : (a.Kids.zip b.Kids).all (fun q => eqB q.1 q.2) = false := by
    rw [← Bool.not_eq_true, List.all_eq_true]
    intro hall
    have := hall (x, y) (List.mem_of_getElem? (zip_at hx hy))
    rw [this] at hp; cases hp
   rw [this]; rfl
  ·exact Let.as _ (wi1 (by omega)) (hk (x, y) (zip_at hx hy) hp)
  ·show true = _
   have : (a.Kids.zip b.Kids).all (fun q => eqB q.1 q.2) = true := by
    rw [List.all_eq_true]
    intro q hq
    obtain ⟨j, hj⟩ := List.mem_iff_getElem?.1 hq
    have := hP j q (by have := (List.getElem?_eq_some_iff.1 hj).1; omega) hj
    simpa using this
   rw [this]; rfl
termination_by SizeOf.sizeOf a
decreasing_by
 have := List.sizeOf_lt_of_mem hx
 cases a; simp at this ⊢; omega
theorem pjoin_ev {ks : List GTree} {f : DV} {g : GTree -> List UInt8} {sep : List UInt8} {s : ByteArray} (hs : s = bs sep) (hl : ks.length <= 100000) (hn : (jn sep (ks.map g)).length <= 1000000000) (h : ∀ t ∈ ks, FVal prog f [GTree.out t] (.v (.string (bs (g t))))) :
    Ev_parse_join ks s f (bs (jn sep (ks.map g))) := by
  have hm : maxLen = 9223372036854775807 := rfl
  subst hs
  refine walk_parse_join ?_
  unfold W_parse_join
  refine Loop2.up ks.length (fun i s => s = ((ks.take i).map g).map bs) (by simp) ?_
  rintro i _ k hi rfl hk
  refine Br.d (fun hlt => At.nat (by omega) fun x hx => Call.mk (h x (List.mem_of_getElem? hx)) ⟨?_, ?_, Let.it (Let.as _ (wi1 (by omega)) (hk _ (by omega) ?_))⟩) (fun hge => ?_)
  · simp only [List.length_map, List.length_take, List.length_cons, List.length_nil]; omega
  · simp only [List.length_map, List.length_take, List.length_cons, List.length_nil]; omega
  · rw [List.take_add_one, hx]; simp
  · have : i = ks.length := by omega
    subst this
    rw [List.take_length]
    exact Call.mk (sjoin_ev (by rw [List.length_map]; omega) hn) rfl
theorem jn_take {sep : List UInt8} {L : List (List UInt8)} {i : Nat} {x : List UInt8} (h : L[i]? = some x) (h0 : 0 < i) : jn sep (L.take (i + 1)) = jn sep (L.take i) ++ (sep ++ x) := by
 rw [List.take_add_one, h, Option.toList]
 refine jn_snoc sep _ x ?_
 have hl : i < L.length := (List.getElem?_eq_some_iff.1 h).1
 intro e
 have : (L.take i).length = 0 := by rw [e]; rfl
 rw [List.length_take] at this; omega
theorem jn_take0 {sep : List UInt8} {L : List (List UInt8)} {x : List UInt8} (h : L[0]? = some x) : jn sep (L.take (0 + 1)) = x := by
 rw [List.take_add_one, h]; simp [jn, jtl]
theorem jn_take' {L : List (List UInt8)} {i : Nat} {x : List UInt8} (h : L[i]? = some x) : jn [] (L.take (i + 1)) = jn [] (L.take i) ++ x := by
 rw [List.take_add_one, h, Option.toList]
 exact jn_nil_snoc _ x
theorem jn_take_len {sep : List UInt8} (h : sep.length <= 4) (L : List (List UInt8)) (i : Nat) : (jn sep (L.take i)).length <= sumL L := Nat.le_trans (jn_len h _) (sumL_take L i)
end Go.Sim.YtomeghkmdcfolaaGreatDoor

/- What is proved: what the kids of a tree's nodes are, where the tree may be; steps of the writing. -/
namespace Go.Sim.YtomeghkmdcfolaaGreatDoor
open Go.RowKit Go.Proofs Go.Proofs.Tryz
theorem each1 {p : GTree -> Bool} {ks : List GTree} (h : eachB [p] ks = true) : ∃ a, ks = [a] /\ p a = true := by
 match ks, h with
 | [a], h => exact ⟨a, rfl, by simpa [eachB] using h⟩
 | [], h => simp [eachB] at h
 | _ :: _ :: _, h => simp [eachB] at h
theorem each2 {p q : GTree -> Bool} {ks : List GTree} (h : eachB [p, q] ks = true) : ∃ a b, ks = [a, b] /\ p a = true /\ q b = true := by
 match ks, h with
 | [a, b], h => exact ⟨a, b, rfl, by simpa [eachB] using h⟩
 | [], h => simp [eachB] at h
 | [_], h => simp [eachB] at h
 | _ :: _ :: _ :: _, h => simp [eachB] at h
theorem each3 {p q r : GTree -> Bool} {ks : List GTree} (h : eachB [p, q, r] ks = true) : ∃ a b c, ks = [a, b, c] /\ p a = true /\ q b = true /\ r c = true := by
 match ks, h with
 | [a, b, c], h => exact ⟨a, b, c, rfl, by simpa [eachB] using h⟩
 | [], h => simp [eachB] at h
 | [_], h => simp [eachB] at h
 | [_, _], h => simp [eachB] at h
 | _ :: _ :: _ :: _ :: _, h => simp [eachB] at h
theorem one_at {nm : ByteArray -> Bool} {ix : GTree -> Bool} {t : GTree} {s : Sp} (h : oneB nm ix t = true) (hs : spec ix t.Kind = some s) : s.kids t.Kids = true /\ s.num t.Num = true /\ s.lo <= t.N /\ t.N <= s.hi /\ t.M <= s.m /\ 0 <= t.M := by
 unfold oneB at h
 rw [hs] at h
 simp only [Bool.and_eq_true, decide_eq_true_eq] at h
 exact ⟨h.1.2, h.2, h.1.1.1.1.1.2, h.1.1.1.1.2, h.1.1.2, h.1.1.1.2⟩
def lowK (t : GTree) : Prop := (1 <= t.Kind /\ t.Kind <= 12) \/ (20 <= t.Kind /\ t.Kind <= 24)
theorem one_low {nm : ByteArray -> Bool} {ix : GTree -> Bool} {t : GTree} (h : oneB nm ix t = true) : (30 <= t.Kind /\ t.Kind <= 41) \/ lowK t := by
 by_cases hk : (30 <= t.Kind /\ t.Kind <= 41) \/ lowK t
 ·exact hk
 ·unfold lowK at hk
  have : spec ix t.Kind = none := by
   unfold spec
   repeat rw [if_neg (by omega)]
  unfold oneB at h
  rw [this] at h; cases h
theorem isE_low {t : GTree} (h : isE t = true) : lowK t := by
 unfold isE at h
 simp only [Bool.and_eq_true, decide_eq_true_eq] at h
 unfold lowK; omega
theorem isD_low {t : GTree} (h : isD t = true) : lowK t := by
 unfold isD at h
 simp only [Bool.and_eq_true, decide_eq_true_eq] at h
 unfold lowK; omega
theorem isK1 {a : Int} {t : GTree} (h : isKs [a] t = true) : t.Kind = a := by
 unfold isKs at h; simpa using h
theorem isK2 {a b : Int} {t : GTree} (h : isKs [a, b] t = true) : t.Kind = a \/ t.Kind = b := by
 unfold isKs at h; simpa using h
theorem isI_ne {t : GTree} (h : isI t = true) : t.Kind ≠ 36 := by
 unfold isI isR at h; simp at h; omega
theorem isR_ne {t : GTree} (h : isR t = true) : t.Kind ≠ 36 := by
 unfold isR at h; simp at h; omega
theorem low_ne {t : GTree} (h : lowK t) : t.Kind ≠ 36 := by unfold lowK at h; omega
theorem all_of {p : GTree -> Bool} {ks : List GTree} (h : ks.all p = true) : ∀ k ∈ ks, p k = true := List.all_eq_true.1 h
theorem many_of {p : GTree -> Bool} {ks : List GTree} (h : many p ks = true) : ∀ k ∈ ks, p k = true := all_of h
theorem opt_of {p : GTree -> Bool} {ks : List GTree} (h : optB p ks = true) : ks.length <= 1 /\ ∀ k ∈ ks, p k = true := by
 unfold optB at h
 simp only [Bool.and_eq_true, decide_eq_true_eq] at h
 exact ⟨h.1, all_of h.2⟩
theorem plus_of {p : GTree -> Bool} {ks : List GTree} (h : plusB p ks = true) : 1 <= ks.length /\ ∀ k ∈ ks, p k = true := by
 unfold plusB at h
 simp only [Bool.and_eq_true, decide_eq_true_eq] at h
 exact ⟨h.1, all_of h.2⟩
theorem At.k0 {α : Type} {ks r : List α} {a : α} {k : α -> Prop} (h : ks = a :: r) (hk : k a) : At ks (0 : Int) k := ⟨by decide, a, by rw [h]; rfl, hk⟩
theorem At.k1 {α : Type} {ks r : List α} {a b : α} {k : α -> Prop} (h : ks = a :: b :: r) (hk : k b) : At ks (1 : Int) k := ⟨by decide, b, by rw [h]; rfl, hk⟩
theorem At.k2 {α : Type} {ks r : List α} {a b c : α} {k : α -> Prop} (h : ks = a :: b :: c :: r) (hk : k c) : At ks (2 : Int) k := ⟨by decide, c, by rw [h]; rfl, hk⟩
structure TX (k : GTree) : Prop where
 len : (txt k).length <= 1000000
 tx : Ev_parse_text k (bs (txt k))
 ex : lowK k -> Ev_parse_exprText k (bs (txt k))
 rt : k.Kind ≠ 36 -> Ev_ref13_Text k (bs (txt k))
 rl : lowK k -> Ev_ref13_low k (bs (txt k))
 md : k.Kind = 36 -> ∃ e, k.Kids = [e] /\ Ev_ref13_Text e (bs (txt e)) /\ txt k = lst k.Name ++ ([32, 61, 32] ++ txt e)
theorem op_cond {t : GTree} {k : Bool -> Prop} (h : k (parB t)) : Join1 (fun j3 =>
  Br (decide (t.Kind >= (7 : Int))) (
   Br (decide (t.Kind <= (12 : Int))) (j3 true) (
    Br (decide (t.Kind >= (22 : Int))) (j3 (decide (t.Kind <= (24 : Int)))) (
     j3 false))) (
   Br (decide (t.Kind >= (22 : Int))) (j3 (decide (t.Kind <= (24 : Int)))) (
    j3 false))) k := by
  refine ⟨fun b => b = parB t, Br.d (fun h1 => Br.d (fun h2 => ?_) (fun h2 => Br.d (fun h3 => ?_) (fun h3 => ?_))) (fun h1 => Br.d (fun h3 => ?_) (fun h3 => ?_)), ?_⟩
  · show _ = _; unfold parB; rw [Bool.eq_iff_iff]; simp; omega
  · show _ = _; unfold parB; rw [Bool.eq_iff_iff]; simp; omega
  · show _ = _; unfold parB; rw [Bool.eq_iff_iff]; simp; omega
  · show _ = _; unfold parB; rw [Bool.eq_iff_iff]; simp; omega
  · show _ = _; unfold parB; rw [Bool.eq_iff_iff]; simp; omega
  · rintro _ rfl; exact h
theorem operand_ev {k : GTree} (h : TX k) (hl : lowK k) : Ev_parse_operand k (bs (opL k (txt k))) := by
 have hlen := h.len
 refine walk_parse_operand ?_
 unfold W_parse_operand
 refine op_cond ⟨fun hp => Call.mk (h.ex hl) (Cat.l rfl rfl (by simp only [List.length_cons, List.length_nil]; omega) (Cat.l rfl rfl (by simp only [List.length_append, List.length_cons, List.length_nil]; omega) ?_)), fun hp => Call.mk (h.ex hl) ?_⟩
 ·show bs _ = bs _; unfold opL; rw [if_pos hp]; rfl
 ·show bs _ = bs _; unfold opL; rw [if_neg (by rw [hp]; decide)]
theorem within_ev {k : GTree} (h : TX k) (hl : lowK k) : Ev_ref13_within k (bs (opL k (txt k))) := by
 have hlen := h.len
 have ht := h.rt (low_ne hl)
 refine walk_ref13_within ?_
 unfold W_ref13_within
 refine op_cond ⟨fun hp => Call.mk ht (Cat.l rfl rfl (by simp only [List.length_cons, List.length_nil]; omega) (Cat.l rfl rfl (by simp only [List.length_append, List.length_cons, List.length_nil]; omega) ?_)), fun hp => Call.mk ht ?_⟩
 ·show bs _ = bs _; unfold opL; rw [if_pos hp]; rfl
 ·show bs _ = bs _; unfold opL; rw [if_neg (by rw [hp]; decide)]
theorem array_ev {n : Int} (h : Sim.inI n) : Ev_parse_array n (bs (szL n)) := by
 have := itoa_len h
 refine walk_parse_array ?_
 unfold W_parse_array
 refine Br.e (fun e => ?_) (fun e => Call.mk (itoa_ev h) (Cat.l rfl rfl (by simp only [List.length_cons, List.length_nil]; omega) (Cat.l rfl rfl (by simp only [List.length_append, List.length_cons, List.length_nil]; omega) ?_)))
 ·show _ = bs (szL n); unfold szL; rw [if_pos e]; rfl
 ·show bs _ = bs _; unfold szL; rw [if_neg e]; rfl
theorem rsize13_ev {n : Int} (h : Sim.inI n) : Ev_ref13_size n (bs (szL n)) := by
 have := itoa_len h
 refine walk_ref13_size ?_
 unfold W_ref13_size
 refine Br.e (fun e => ?_) (fun e => Call.mk (num_ev h) (Cat.l rfl rfl (by simp only [List.length_cons, List.length_nil]; omega) (Cat.l rfl rfl (by simp only [List.length_append, List.length_cons, List.length_nil]; omega) ?_)))
 ·show _ = bs (szL n); unfold szL; rw [if_pos e]; rfl
 ·show bs _ = bs _; unfold szL; rw [if_neg e]; rfl
end Go.Sim.YtomeghkmdcfolaaGreatDoor
