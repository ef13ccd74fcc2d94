/- What is proved: which nodes may be, by themselves, as the reference tells. -/
import Derived.Test.YtomeghkmdcfolaaGreatDoorZPPParC
import Derived.Test.YtomeghkmdcfolaaGreatDoorZPPBigY
import Derived.Test.YtomeghkmdcfolaaGreatDoorZPPWPs

namespace Go.Sim.YtomeghkmdcfolaaGreatDoor
open Go.RowKit Go.Proofs Go.Proofs.Tryz
abbrev bsl (l : List UInt8) : ByteArray := ByteArray.mk l.toArray
theorem atS_l {l : List UInt8} {i : Nat} {b : UInt8} {k : Int -> Prop} (h : l[i]? = some b) (hk : k ((b.toNat : Nat) : Int)) : AtS (bsl l) (i : Int) k := by
 refine ⟨by omega, b, ?_, hk⟩
 rw [Int.toNat_natCast]
 obtain ⟨h1, h2⟩ := List.getElem?_eq_some_iff.1 h
 have hs : i < (bsl l).size := by show i < l.toArray.size; simpa using h1
 show (if hh : i < (bsl l).size then some (bsl l)[i] else none) = _
 rw [dif_pos hs]
 have h2' : (bsl l)[i] = b := by
  show l.toArray[i] = b
  simpa using h2
 rw [h2']
theorem has_ev {l : List UInt8} (hl : l.length <= 1000) (c : UInt8) : Ev_ref13_has (bsl l) (c.toNat : Int) (l.contains c) := by
 have hsz : (bsl l).size = l.length := by show l.toArray.size = _; simp
 refine walk_ref13_has ?_
 unfold W_ref13_has
 rw [hsz]
 refine Loop1.first l (fun x => x == c) ?_
 intro i k hi hP hk
 refine Br.d (fun h => ?_) (fun h => ?_)
 ·have hx : l[i]? = some (l[i]'(by omega)) := List.getElem?_eq_getElem (by omega)
  refine atS_l hx ⟨fun hp => ?_, fun hp => Let.as _ (wi1 (by omega)) (hk _ hx ?_)⟩
  ·show true = _
   have : l[i]'(by omega) = c := by
    have h2 : ((l[i]'(by omega)).toNat : Int) = c.toNat := by simpa using hp
    exact UInt8.toNat_inj.1 (by omega)
   rw [← this]
   exact (List.contains_iff_mem.2 (List.getElem_mem _)).symm
  ·apply beq_false_of_ne
   intro e
   rw [e] at hp; simp at hp
 ·show false = _
  symm
  rw [← Bool.not_eq_true, List.contains_iff_mem]
  intro hm
  obtain ⟨j, hj⟩ := List.mem_iff_getElem?.1 hm
  have := hP j c (by have := (List.getElem?_eq_some_iff.1 hj).1; omega) hj
  simp at this
def letterI (t : GTree) : Int :=
 if t.Kind = 3 then 120 else if t.Kind = 2 then 102 else if t.Kind = 4 then 118 else if 1 <= t.Kind /\ t.Kind <= 12 then 101 else if 20 <= t.Kind /\ t.Kind <= 24 then 100
 else if t.Kind = 31 then 117 else if t.Kind = 32 then 117 else if (33 <= t.Kind /\ t.Kind <= 35) \/ t.Kind = 37 then 105 else if t.Kind = 36 then 109 else if 38 <= t.Kind /\ t.Kind <= 40 then 114 else if t.Kind = 41 then 116 else 45
theorem letterI_ev (t : GTree) : Ev_ref13_letter t (letterI t) := by
 refine walk_ref13_letter ?_
 unfold W_ref13_letter letterI
 refine Br.e (fun h => by rw [if_pos h]) (fun h => ?_); rw [if_neg h]
 refine Br.e (fun h => by rw [if_pos h]) (fun h => ?_); rw [if_neg h]
 refine Br.e (fun h => by rw [if_pos h]) (fun h => ?_); rw [if_neg h]
 refine ⟨fun b => b = decide (1 <= t.Kind /\ t.Kind <= 12), Br.d (fun h1 => ?_) (fun h1 => ?_), ?_⟩
 ·show _ = _; rw [decide_eq_decide]; exact ⟨fun h => ⟨h1, h⟩, fun h => h.2⟩
 ·show _ = _; exact (decide_eq_false (fun h => h1 h.1)).symm
 rintro _ rfl
 refine Br.d (fun h => by rw [if_pos h]) (fun h => ?_); rw [if_neg h]
 refine ⟨fun b => b = decide (20 <= t.Kind /\ t.Kind <= 24), Br.d (fun h1 => ?_) (fun h1 => ?_), ?_⟩
 ·show _ = _; rw [decide_eq_decide]; exact ⟨fun h => ⟨h1, h⟩, fun h => h.2⟩
 ·show _ = _; exact (decide_eq_false (fun h => h1 h.1)).symm
 rintro _ rfl
 refine Br.d (fun h => by rw [if_pos h]) (fun h => ?_); rw [if_neg h]
 refine Br.e (fun h => by rw [if_pos h]) (fun h => ?_); rw [if_neg h]
 refine Br.e (fun h => by rw [if_pos h]) (fun h => ?_); rw [if_neg h]
 refine ⟨fun b => b = decide ((33 <= t.Kind /\ t.Kind <= 35) \/ t.Kind = 37), Br.d (fun h1 => Br.d (fun h2 => ?_) (fun h2 => ?_)) (fun h1 => ?_), ?_⟩
 ·show _ = _; exact (decide_eq_true (.inl ⟨h1, h2⟩)).symm
 ·show _ = _; rw [Bool.eq_iff_iff]; simp; omega
 ·show _ = _; rw [Bool.eq_iff_iff]; simp; omega
 rintro _ rfl
 refine Br.d (fun h => by rw [if_pos h]) (fun h => ?_); rw [if_neg h]
 refine Br.e (fun h => by rw [if_pos h]) (fun h => ?_); rw [if_neg h]
 have rest : ∀ hn : ¬ (38 <= t.Kind /\ t.Kind <= 40), Br (t.Kind == (41 : Int)) ((fun r' => r' = if 38 <= t.Kind /\ t.Kind <= 40 then 114 else if t.Kind = 41 then 116 else 45) (116 : Int)) ((fun r' => r' = if 38 <= t.Kind /\ t.Kind <= 40 then 114 else if t.Kind = 41 then 116 else 45) (45 : Int)) := fun hn =>
  Br.e (fun h => by show _ = _; rw [if_neg hn, if_pos h]) (fun h => by show _ = _; rw [if_neg hn, if_neg h])
 exact Br.d (fun h1 => Br.d (fun h2 => by show _ = _; rw [if_pos ⟨h1, h2⟩]) (fun h2 => rest (fun h => h2 h.2))) (fun h1 => rest (fun h => h1 h.1))
def fitsB (c : Int) (t : GTree) : Bool :=
 if c = 69 then letterI t == 101 || letterI t == 102 || letterI t == 118 else if c = 83 then letterI t == 102 || letterI t == 118 else if c = 73 then letterI t == 105 || letterI t == 114 else letterI t == c
theorem fits_ev (t : GTree) (c : Int) : Ev_ref13_fits t c (fitsB c t) := by
 refine walk_ref13_fits ?_
 unfold W_ref13_fits fitsB
 refine Call.mk (letterI_ev t) (Br.e (fun h => ?_) (fun h => Br.e (fun h2 => ?_) (fun h2 => Br.e (fun h3 => ?_) (fun h3 => ?_))))
 ·rw [if_pos h]
  exact Br.e (fun a => by simp [a]) (fun a => Br.e (fun b => by simp [b]) (fun b => by simp [a, b]))
 ·rw [if_neg h, if_pos h2]
  exact Br.e (fun a => by simp [a]) (fun a => by simp [a])
 ·rw [if_neg h, if_neg h2, if_pos h3]
  exact Br.e (fun a => by simp [a]) (fun a => by simp [a])
 ·rw [if_neg h, if_neg h2, if_neg h3]
def cnt (p : GTree -> Bool) : Nat -> List GTree -> Nat
 | 0, _ => 0
 | _, [] => 0
 | m + 1, t :: ts => if p t = true then cnt p m ts + 1 else 0
theorem cnt_le (p : GTree -> Bool) : ∀ (m : Nat) (l : List GTree), cnt p m l <= m /\ cnt p m l <= l.length
 | 0, _ => by simp [cnt]
 | m + 1, [] => by simp [cnt]
 | m + 1, t :: ts => by have := cnt_le p m ts; unfold cnt; split <;> simp <;> omega
def leastQ (q : UInt8) : Nat := if q = 0 \/ q = 43 then 1 else 0
def mostQ (q : UInt8) : Nat := if q = 42 \/ q = 43 then 1000000 else 1
def encQ : List (UInt8 × UInt8) -> List UInt8
 | [] => []
 | (c, q) :: its => if q = 0 then c :: encQ its else c :: q :: encQ its
theorem encQ_cons (c q : UInt8) (its : List (UInt8 × UInt8)) : encQ ((c, q) :: its) = c :: (if q = 0 then encQ its else q :: encQ its) := by
 rw [encQ]
 by_cases h : q = 0
 ·rw [if_pos h, if_pos h]
 ·rw [if_neg h, if_neg h]
def kidsM : List (UInt8 × UInt8) -> List GTree -> Bool
 | [], l => l.isEmpty
 | (c, q) :: its, l => decide (leastQ q <= cnt (fitsB c.toNat) (mostQ q) l) && kidsM its (l.drop (cnt (fitsB c.toNat) (mostQ q) l))
def okQ (x : UInt8 × UInt8) : Prop := (x.1 ≠ 42 /\ x.1 ≠ 43 /\ x.1 ≠ 63) /\ (x.2 = 0 \/ x.2 = 42 \/ x.2 = 43 \/ x.2 = 63)
theorem drop_at {α : Type} {E : List α} {i : Nat} {b : α} {r : List α} (h : E.drop i = b :: r) : E[i]? = some b /\ E.drop (i + 1) = r /\ i < E.length := by
 have hi : i < E.length := by
  have := congrArg List.length h; simp at this; omega
 rw [List.drop_eq_getElem_cons hi] at h
 injection h with h1 h2
 exact ⟨by rw [List.getElem?_eq_getElem hi, h1], h2, hi⟩
theorem kids_ev {its : List (UInt8 × UInt8)} (hq : ∀ x ∈ its, okQ x) (hE : (encQ its).length <= 1000) {l : List GTree} (hl : l.length <= 100000) : Ev_ref13_kids l (bsl (encQ its)) (kidsM its l) := by
  obtain ⟨E, eE⟩ : ∃ E, E = encQ its := ⟨_, rfl⟩
  have hsz : (bsl E).size = E.length := by show E.toArray.size = _; simp
  have wN : ∀ {i : Nat}, i <= 10000000 -> IntKind.i64.wrap ((i : Int) + 1) = ((i + 1 : Nat) : Int) := fun h => wi1 (by omega)
  rw [← eE] at hE ⊢
  refine walk_ref13_kids ?_
  unfold W_ref13_kids
  rw [hsz]
  refine ⟨fun a z => ∃ (j i : Nat) (suf : List (UInt8 × UInt8)), a = (j : Int) /\ z = (i : Int) /\ j <= l.length /\ i <= E.length /\ (∀ x ∈ suf, okQ x) /\ E.drop i = encQ suf /\ kidsM its l = kidsM suf (l.drop j),
    fun _ z => E.length - z.toNat, ⟨0, 0, its, rfl, rfl, Nat.zero_le _, Nat.zero_le _, hq, by rw [List.drop_zero, eE], by rw [List.drop_zero]⟩, ?_⟩
  rintro _ _ ⟨j, i, suf, rfl, rfl, hj, hi, hs, hd, hk⟩
  refine Br.d (fun hlt => ?_) (fun hge => ?_)
  rotate_left
  · have he : E.drop i = [] := List.drop_of_length_le (by omega)
    have hsn : suf = [] := by
      match suf, hd with
      | [], _ => rfl
      | (c, q) :: suf', hd => rw [he] at hd; unfold encQ at hd; split at hd <;> simp at hd
    subst hsn
    show _ = _
    rw [hk]
    show _ = (l.drop j).isEmpty
    rw [Bool.eq_iff_iff]
    simp
    omega
  match suf, hs, hd, hk with
  | [], _, hd, _ =>
    have := congrArg List.length hd
    simp [encQ] at this; omega
  | (c, q) :: suf', hs, hd, hk =>
    have hcq := hs (c, q) List.mem_cons_self
    obtain ⟨⟨c1, c2, c3⟩, hq4⟩ := hcq
    simp only at c1 c2 c3 hq4
    have hs' : ∀ x ∈ suf', okQ x := fun x hx => hs x (List.mem_cons_of_mem _ hx)
    have hd0 : ∃ r, E.drop i = c :: r /\ ((q = 0 /\ r = encQ suf') \/ (q ≠ 0 /\ r = q :: encQ suf')) := by
      rw [hd, encQ_cons]
      by_cases h : q = 0
      · rw [if_pos h]; exact ⟨_, rfl, .inl ⟨h, rfl⟩⟩
      · rw [if_neg h]; exact ⟨_, rfl, .inr ⟨h, rfl⟩⟩
    obtain ⟨r, hr, hr2⟩ := hd0
    obtain ⟨g1, g2, _⟩ := drop_at hr
    refine atS_l g1 ?_
    have toI : ∀ (a b : UInt8), ((a.toNat : Nat) : Int) = ((b.toNat : Nat) : Int) ↔ a = b := fun a b => ⟨fun h => UInt8.toNat_inj.1 (by omega), fun h => by rw [h]⟩
    refine ⟨fun b => b = decide (q ≠ 0), ?_, ?_⟩
    · refine Let.as _ (wN (by omega)) (Br.d (fun h1 => Let.as _ (wN (by omega)) ?_) (fun h1 => ?_))
      · have hx : E[i + 1]? = some (E[i + 1]'(by omega)) := List.getElem?_eq_getElem (by omega)
        obtain ⟨x, ex⟩ : ∃ x, E[i + 1]? = some x := ⟨_, hx⟩
        have hxq : (q ≠ 0 /\ x = q) \/ (q = 0 /\ x ≠ 42 /\ x ≠ 43 /\ x ≠ 63) := by
          rcases hr2 with ⟨h2, h3⟩ | ⟨h2, h3⟩
          · right
            refine ⟨h2, ?_⟩
            rw [h3] at g2
            match suf', hs', g2 with
            | [], _, g2 => have := congrArg List.length g2; simp [encQ] at this; omega
            | (c', q') :: suf'', hs', g2 =>
              have h4 := hs' (c', q') List.mem_cons_self
              obtain ⟨⟨d1, d2, d3⟩, _⟩ := h4
              rw [encQ_cons] at g2
              have := (drop_at g2).1
              rw [ex] at this; cases this
              exact ⟨d1, d2, d3⟩
          · left
            rw [h3] at g2
            have := (drop_at g2).1
            rw [ex] at this; cases this
            exact ⟨h2, rfl⟩
        refine atS_l ex (Br.e (fun h2 => ?_) (fun h2 => Let.as _ (wN (by omega)) (atS_l ex (Br.e (fun h3 => ?_) (fun h3 => Let.as _ (wN (by omega)) (atS_l ex ?_))))))
        · have : x = 42 := (toI x 42).1 h2
          show true = _
          rcases hxq with ⟨a, _⟩ | ⟨_, a, _⟩
          · exact (decide_eq_true a).symm
          · exact absurd this a
        · have : x = 63 := (toI x 63).1 h3
          show true = _
          rcases hxq with ⟨a, _⟩ | ⟨_, _, _, a⟩
          · exact (decide_eq_true a).symm
          · exact absurd this a
        · show (((x.toNat : Nat) : Int) == 43) = _
          rcases hxq with ⟨a, b⟩ | ⟨a, _, b, _⟩
          · rw [decide_eq_true a]
            have n42 : x ≠ 42 := fun h => h2 ((toI x 42).2 h)
            have n63 : x ≠ 63 := fun h => h3 ((toI x 63).2 h)
            rw [b] at n42 n63
            rcases hq4 with h | h | h | h
            · exact absurd h a
            · exact absurd h n42
            · rw [b, h]; rfl
            · exact absurd h n63
          · rw [decide_eq_false (fun h => h a)]
            exact beq_false_of_ne (fun h => b ((toI x 43).1 h))
      · show false = _
        rcases hr2 with ⟨h2, _⟩ | ⟨h2, h3⟩
        · exact (decide_eq_false (fun h => h h2)).symm
        · rw [h3] at g2
          have := (drop_at g2).2.2
          omega
    rintro _ rfl
    refine ⟨fun z a b => ∃ i' : Nat, z = (i' : Int) /\ i <= i' /\ i' < E.length /\ E.drop (i' + 1) = encQ suf' /\ a = (leastQ q : Int) /\ b = (mostQ q : Int), ?_, ?_⟩
    · refine Br.d (fun h => ?_) (fun h => ?_)
      · have h3 : r = q :: encQ suf' := by rcases hr2 with ⟨h2, _⟩ | ⟨_, h3⟩
                                           · exact absurd h2 h
                                           · exact h3
        rw [h3] at g2
        obtain ⟨k1, k2, k3⟩ := drop_at g2
        refine Let.as _ (wN (by omega)) (atS_l k1 ⟨fun z => z = (leastQ q : Int), ?_, ?_⟩)
        · refine ⟨fun h4 => ?_, fun h4 => ?_⟩
          · show (0 : Int) = _
            have : ¬ (q = 0 \/ q = 43) := by
              rintro (h5 | h5)
              · exact h h5
              · rw [h5] at h4; simp at h4
            unfold leastQ; rw [if_neg this]; rfl
          · show (1 : Int) = _
            have : q = 43 := (toI q 43).1 (by simpa using h4)
            unfold leastQ; rw [if_pos (.inr this)]; rfl
        rintro _ rfl
        refine atS_l k1 ⟨fun h4 => ⟨i + 1, rfl, by omega, k3, k2, rfl, ?_⟩, fun h4 => ⟨i + 1, rfl, by omega, k3, k2, rfl, ?_⟩⟩
        · have h63 : q ≠ 63 := fun h5 => by rw [h5] at h4; simp at h4
          have : q = 42 \/ q = 43 := by
            rcases hq4 with h5 | h5 | h5 | h5
            · exact absurd h5 h
            · exact .inl h5
            · exact .inr h5
            · exact absurd h5 h63
          unfold mostQ; rw [if_pos this]; rfl
        · have h63 : q = 63 := (toI q 63).1 (by simpa using h4)
          subst h63; rfl
      · have h0 : q = 0 := by
          by_cases e : q = 0
          · exact e
          · exact absurd e h
        have h3 : r = encQ suf' := by rcases hr2 with ⟨_, h3⟩ | ⟨h2, _⟩
                                      · exact h3
                                      · exact absurd h0 h2
        rw [h3] at g2
        subst h0
        exact ⟨i, rfl, Nat.le_refl _, by omega, g2, rfl, rfl⟩
    rintro _ _ _ ⟨i', rfl, hi', hi'l, hd', rfl, rfl⟩
    obtain ⟨p, ep⟩ : ∃ p, p = fitsB (c.toNat : Int) := ⟨_, rfl⟩
    obtain ⟨M, eM⟩ : ∃ M, M = mostQ q := ⟨_, rfl⟩
    have hM : M <= 1000000 := by rw [eM]; unfold mostQ; split <;> omega
    have hkm : kidsM its l = (decide (leastQ q <= cnt p M (l.drop j)) && kidsM suf' (l.drop (j + cnt p M (l.drop j)))) := by
      rw [hk, ep, eM, ← List.drop_drop]; rfl
    have hc := cnt_le p M (l.drop j)
    rw [List.length_drop] at hc
    rw [← eM]
    refine ⟨fun a n => a = ((j + cnt p M (l.drop j) : Nat) : Int) /\ n = ((cnt p M (l.drop j) : Nat) : Int), ?_, ?_⟩
    · refine ⟨fun a z => ∃ n : Nat, a = ((j + n : Nat) : Int) /\ z = (n : Int) /\ n <= M /\ j + n <= l.length /\ n + cnt p (M - n) (l.drop (j + n)) = cnt p M (l.drop j), fun _ z => M - z.toNat, ⟨0, rfl, rfl, Nat.zero_le _, by omega, by simp⟩, ?_⟩
      rintro _ _ ⟨n, rfl, rfl, hn, hjn, hc2⟩
      refine Br.d (fun h1 => Br.d (fun h2 => At.nat (by omega) fun x hx => Call.mk (fits_ev x _) ?_) (fun h2 => ?_)) (fun h1 => ?_)
      · have hlx := (List.getElem?_eq_some_iff.1 hx)
        have ed : l.drop (j + n) = x :: l.drop (j + n + 1) := by rw [List.drop_eq_getElem_cons hlx.1, hlx.2]
        have em : M - n = (M - (n + 1)) + 1 := by omega
        rw [ed, em] at hc2
        rw [← ep]
        refine ⟨fun hp => Let.as _ (wN (by omega)) (Let.as _ (wN (by omega)) ⟨⟨n + 1, by rw [Nat.add_assoc], rfl, by omega, by omega, ?_⟩, ?_⟩), fun hp => ?_⟩
        · rw [cnt, if_pos hp] at hc2
          rw [← Nat.add_assoc]; omega
        · simp only [Int.toNat_natCast]; omega
        · rw [cnt, if_neg (by simp [hp])] at hc2
          exact ⟨by omega, by omega⟩
      · have : l.drop (j + n) = [] := List.drop_of_length_le (by omega)
        rw [this] at hc2
        have : cnt p (M - n) [] = 0 := by cases M - n <;> rfl
        rw [this] at hc2
        exact ⟨by omega, by omega⟩
      · have e0 : M - n = 0 := by omega
        rw [e0] at hc2
        have : cnt p 0 (l.drop (j + n)) = 0 := rfl
        rw [this] at hc2
        exact ⟨by omega, by omega⟩
    rintro _ _ ⟨rfl, rfl⟩
    refine Br.d (fun h1 => ?_) (fun h1 => Let.as _ (wN (by omega)) ⟨⟨j + cnt p M (l.drop j), i' + 1, suf', rfl, rfl, by omega, by omega, hs', hd', ?_⟩, ?_⟩)
    · show false = _
      rw [hkm, decide_eq_false (by omega)]; rfl
    · rw [hkm, decide_eq_true (by omega), Bool.true_and]
    · simp only [Int.toNat_natCast]; omega
end Go.Sim.YtomeghkmdcfolaaGreatDoor
