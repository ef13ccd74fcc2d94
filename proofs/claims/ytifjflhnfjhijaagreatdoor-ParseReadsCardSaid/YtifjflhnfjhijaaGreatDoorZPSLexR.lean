/- What is proved: the reference's lexer, piece by piece, as plain functions of the text: digits, numbers. -/
import Derived.Test.YtifjflhnfjhijaaGreatDoorZPSLexC
import Derived.Test.YtifjflhnfjhijaaGreatDoorZPSStrX
import Derived.Test.YtifjflhnfjhijaaGreatDoorZPSWLr

namespace Go.Sim.YtifjflhnfjhijaaGreatDoor
open Go.RowKit Go.Proofs Go.Proofs.Tryz
theorem bsg {l : List UInt8} {q : Nat} {b : UInt8} (h : l[q]? = some b) : (bs l)[q]? = some b := by
 obtain ⟨h1, h2⟩ := List.getElem?_eq_some_iff.1 h
 show (if hh : q < (bs l).size then some (bs l)[q] else none) = _
 rw [dif_pos (by rw [q0f]; exact h1), ← h2]
 rfl
theorem q87 {l : List UInt8} {q : Nat} (h : q < l.length) : ∃ b : UInt8, (bs l)[q]? = some b /\ peek l q = (b.toNat : Int) := by
 obtain ⟨b, hb⟩ : ∃ b, l[q]? = some b := ⟨_, List.getElem?_eq_getElem h⟩
 exact ⟨b, bsg hb, by unfold peek; rw [hb]⟩
theorem qD8 {l : List UInt8} {q : Nat} (h : l.length <= q) : peek l q = 0 := by unfold peek; rw [List.getElem?_eq_none h]
theorem qO4 {f : Int -> Bool} {l : List UInt8} {q : Nat} (h : q < l.length) : span f (l.drop q) = if f (peek l q) = true then span f (l.drop (q + 1)) + 1 else 0 := by
 have e : peek l q = ((l[q]'h).toNat : Int) := by unfold peek; rw [List.getElem?_eq_getElem h]
 rw [e, List.drop_eq_getElem_cons h, span]
theorem qCz {l : List UInt8} (hl : l.length <= 20000) {p : Nat} (hp : p <= l.length) : q3z (bs l) (p : Int) ((p + span q05 (l.drop p) : Nat) : Int) := by
 refine qGb ?_
 unfold q9w
 refine ⟨fun z => ∃ q : Nat, z = (q : Int) /\ q <= l.length /\ q + span q05 (l.drop q) = p + span q05 (l.drop p), fun z => l.length - z.toNat, ⟨p, rfl, hp, rfl⟩, ?_⟩
 rintro _ ⟨q, rfl, hq, he⟩
 rw [q0f]
 refine Br.d (fun hlt => ?_) (fun hge => ?_)
 ·have hq1 : q < l.length := by omega
  obtain ⟨b, hb, hpk⟩ := q87 hq1
  rw [qO4 hq1, hpk] at he
  refine AtS.nat hb (Call.mk (q94 _) ⟨fun h => ?_, fun h => ?_⟩)
  ·rw [if_pos h] at he
   refine Let.as _ (wi1 (by omega)) ⟨⟨q + 1, rfl, by omega, by omega⟩, ?_⟩
   simp only [Int.toNat_natCast]; omega
  ·rw [if_neg (by rw [h]; decide)] at he
   show (q : Int) = _
   omega
 ·rw [List.drop_of_length_le (by omega)] at he
  show (q : Int) = _
  simp only [span] at he
  omega
theorem or_e : ∀ b : UInt8, bits .or .u8 (b.toNat : Int) 32 = 101 ↔ (b.toNat : Int) = 101 \/ (b.toNat : Int) = 69 := by
 have h : ∀ n : Fin 256, decide (bits .or .u8 ((UInt8.ofNat n.val).toNat : Int) 32 = 101) = decide (((UInt8.ofNat n.val).toNat : Int) = 101 \/ ((UInt8.ofNat n.val).toNat : Int) = 69) := by decide +kernel
 intro b
 have := h ⟨b.toNat, b.toNat_lt⟩
 simp only [UInt8.ofNat_toNat] at this
 exact decide_eq_decide.1 this
theorem qMy {l : List UInt8} (hl : l.length <= 20000) {p : Nat} (hp : p <= l.length) : q8r (bs l) (p : Int) ((p + q55 (l.drop p) : Nat) : Int) := by
 refine qGa ?_
 unfold q9v q55
 obtain ⟨u, hu⟩ : ∃ u, u = l.drop p := ⟨_, rfl⟩
 have pk : ∀ n, peek u n = peek l (p + n) := fun n => by rw [hu, q91]
 have ud : ∀ n, u.drop n = l.drop (p + n) := fun n => by rw [hu, List.drop_drop]
 have ulen : u.length = l.length - p := by rw [hu, List.length_drop]
 rw [← hu]
 have hd := qCz hl hp
 rw [← hu] at hd
 have hsp := q1o q05 u
 obtain ⟨n, hn⟩ : ∃ n, n = span q05 u := ⟨_, rfl⟩
 rw [← hn] at hd hsp ⊢
 rw [q0f]
 refine Call.mk hd ⟨fun b => b = decide (peek u n = 46 /\ q05 (peek u (n + 1)) = true), ?_, ?_⟩
 ·refine Let.as _ (wi1 (by omega)) (Br.d (fun hlt => ?_) (fun hge => ?_))
  ·obtain ⟨b, hb, hpk⟩ := q87 (l := l) (q := p + n) (by omega)
   obtain ⟨c, hc, hck⟩ := q87 (l := l) (q := p + n + 1) (by omega)
   rw [pk n, pk (n + 1), ← Nat.add_assoc, hpk, hck]
   refine AtS.nat hb (Br.e (fun h => Let.as _ (wi1 (by omega)) (AtS.nat hc (Call.mk (q94 _) ?_))) (fun h => ?_))
   ·cases hdg : q05 (c.toNat : Int) with
    | true => simp [h]
    | false => simp
   ·rw [decide_eq_false (fun h2 => h h2.1)]
  ·rw [pk (n + 1), qD8 (l := l) (q := p + (n + 1)) (by omega)]
   have : q05 0 = false := rfl
   simp [this]
 rintro _ rfl
 have fl := qG8 (l := u) (a := n) hsp
 obtain ⟨f, hf⟩ : ∃ f, f = q86 u n := ⟨_, rfl⟩
 refine ⟨fun x => x = ((p + f : Nat) : Int), ?_, ?_⟩
 ·refine Br.d (fun h => ?_) (fun h => ?_)
  ·have e : f = n + 1 + span q05 (u.drop (n + 1)) := by rw [hf]; unfold q86; rw [if_pos h]
   have hlt := q8k (qMr h.2)
   have h2 := qCz hl (p := p + n + 1) (by omega)
   refine Let.as _ (wi1 (by omega)) (Call.mk h2 ?_)
   rw [e, ud (n + 1)]
   show _ = _
   rw [← Nat.add_assoc p n 1]
   omega
  ·have e : f = n := by rw [hf]; unfold q86; rw [if_neg h]
   rw [e]
 rintro _ rfl
 rw [← hf] at fl ⊢
 have no : ¬ (bits .or .u8 (peek u f) 32 = 101 /\ q05 (peek u (f + q1p u f)) = true) -> ((p + f : Nat) : Int) = ((p + qA6 u f : Nat) : Int) := fun h => by unfold qA6; rw [if_neg h]
 refine ⟨fun b => b = decide (bits .or .u8 (peek u f) 32 = 101), ?_, ?_⟩
 ·refine Br.d (fun hlt => ?_) (fun hge => ?_)
  ·obtain ⟨b, hb, hpk⟩ := q87 (l := l) (q := p + f) (by omega)
   rw [pk f, hpk]
   have ho := or_e b
   refine AtS.nat hb (Br.e (fun h => ?_) (fun h => AtS.nat hb ?_))
   ·rw [decide_eq_true (ho.2 (.inl h))]
   ·show ((b.toNat : Int) == 69) = _
    rw [Bool.eq_iff_iff, decide_eq_true_iff, ho, beq_iff_eq]
    exact ⟨.inr, fun h2 => h2.resolve_left h⟩
  ·rw [pk f, qD8 (l := l) (q := p + f) (by omega)]
   rfl
 rintro _ rfl
 refine Br.d (fun h => ?_) (fun h => no fun h2 => h h2.1)
 have hlt : f < u.length := by
  refine q8k (l := u) (n := f) fun h0 => ?_
  rw [h0] at h
  exact absurd h (by decide)
 refine Let.as _ (wi1 (by omega)) ⟨fun b => b = decide (peek u (f + 1) = 43 \/ peek u (f + 1) = 45), ?_, ?_⟩
 ·refine Br.d (fun hlt2 => ?_) (fun hge => ?_)
  ·obtain ⟨b, hb, hpk⟩ := q87 (l := l) (q := p + f + 1) (by omega)
   rw [pk (f + 1), ← Nat.add_assoc, hpk]
   refine AtS.nat hb (Br.e (fun h => ?_) (fun h => AtS.nat hb ?_))
   ·rw [decide_eq_true (.inl h)]
   ·show ((b.toNat : Int) == 45) = _
    rw [Bool.eq_iff_iff, decide_eq_true_iff, beq_iff_eq]
    exact ⟨.inr, fun h2 => h2.resolve_left h⟩
  ·rw [pk (f + 1), qD8 (l := l) (q := p + (f + 1)) (by omega)]
   rfl
 rintro _ rfl
 obtain ⟨k, hk⟩ : ∃ k, k = q1p u f := ⟨_, rfl⟩
 rw [← hk] at no
 have hk12 : k = 1 \/ k = 2 := by rw [hk]; unfold q1p; split <;> simp
 have hk2 : k = 2 -> f + 1 < u.length := fun h2 => by
  rw [hk] at h2
  unfold q1p at h2
  split at h2
  ·rename_i hc
   exact q8k fun h0 => by rw [h0] at hc; simp at hc
  ·omega
 refine ⟨fun x => x = ((p + f + k : Nat) : Int), ?_, ?_⟩
 ·refine Br.d (fun h3 => ?_) (fun h3 => ?_)
  ·have : k = 2 := by rw [hk]; unfold q1p; rw [if_pos h3]
   have := hk2 this
   exact Let.as _ (wi1 (by omega)) (by show _ = _; rw [‹k = 2›])
  ·have : k = 1 := by rw [hk]; unfold q1p; rw [if_neg h3]
   rw [this]
 rintro _ rfl
 refine Br.d (fun h4 => ?_) (fun h4 => no fun h2 => ?_)
 ·obtain ⟨b, hb, hpk⟩ := q87 (l := l) (q := p + f + k) (by omega)
  refine AtS.nat hb (Call.mk (q94 _) ⟨fun h5 => ?_, fun h5 => no fun h2 => ?_⟩)
  ·refine Call.mk (qCz hl (p := p + f + k) (by omega)) ?_
   show _ = _
   have e : qA6 u f = f + k + span q05 (l.drop (p + f + k)) := by
    unfold qA6
    rw [← hk, if_pos ⟨h, by rw [pk (f + k), ← Nat.add_assoc, hpk]; exact h5⟩, ud, ← Nat.add_assoc p f k]
   rw [e]; omega
  ·have h6 := h2.2
   rw [pk (f + k), ← Nat.add_assoc, hpk, h5] at h6
   cases h6
 ·have h6 := h2.2
  rw [pk (f + k), ← Nat.add_assoc, qD8 (l := l) (q := p + f + k) (by omega)] at h6
  exact absurd h6 (by decide)
def sgL : List Int := [40, 41, 91, 93, 44, 59, 58, 46, 61, 43, 45, 42, 47, 94]
def sgN (l : List UInt8) : Nat := if peek l 0 = 46 /\ peek l 1 = 46 then 2 else if sgL.contains (peek l 0) = true then 1 else 0
theorem dots {l : List UInt8} (h : 2 <= l.length) : ((bs (l.take 2)).toList == (ByteArray.mk #[46, 46]).toList) = decide (peek l 0 = 46 /\ peek l 1 = 46) := by
 match l, h with
 | a :: b :: t, _ =>
  rw [Bool.eq_iff_iff, q9p, decide_eq_true_iff]
  show bs [a, b] = _ ↔ ((a.toNat : Int) = 46 /\ (b.toNat : Int) = 46)
  constructor
  ·intro e
   have h2 := congrArg (fun x : ByteArray => x.data.toList) e
   have h3 : a = 46 /\ b = 46 := by simpa [bs] using h2
   rw [h3.1, h3.2]; exact ⟨rfl, rfl⟩
  ·rintro ⟨h1, h2⟩
   have e1 : a = 46 := UInt8.toNat_inj.1 (by show a.toNat = 46; omega)
   have e2 : b = 46 := UInt8.toNat_inj.1 (by show b.toNat = 46; omega)
   rw [e1, e2]; rfl
theorem qQ0 {l : List UInt8} (hl : l.length <= 20000) {p : Nat} (hp : p < l.length) : qAh (bs l) (p : Int) ((p + sgN (l.drop p) : Nat) : Int) := by
  refine qJq ?_
  unfold qCy
  rw [q0f]
  obtain ⟨b, hb, hpk⟩ := q87 hp
  have pk : ∀ n, peek (l.drop p) n = peek l (p + n) := fun n => q91 l p n
  refine ⟨fun x => x = decide (peek (l.drop p) 0 = 46 /\ peek (l.drop p) 1 = 46), ?_, ?_⟩
  · refine Let.as _ (wi1 (by omega)) (Br.d (fun hlt => ?_) (fun hge => ?_))
    · refine Let.as ((p + 2 : Nat) : Int) (by rw [wi (by omega) (by omega)]; omega) ?_
      refine SlS.tl (s := bs l) (by rw [q0f]; omega) ?_
      have e : tl (bs l) p = l.drop p := by
        have := q5n (bs l) 0 p
        rw [qJg, Nat.zero_add] at this; exact this.symm
      rw [e]
      exact dots (by rw [List.length_drop]; omega)
    · have : peek (l.drop p) 1 = 0 := by rw [pk, qD8 (by omega)]
      rw [this]; simp
  rintro _ rfl
  refine Br.d (fun h => ?_) (fun h => ?_)
  · refine Let.as ((p + 2 : Nat) : Int) (by rw [wi (by omega) (by omega)]; omega) ?_
    unfold sgN; rw [if_pos h]
  have e0 : peek (l.drop p) 0 = (b.toNat : Int) := by rw [pk, Nat.add_zero, hpk]
  refine Loop1.first sgL (fun x => x == (b.toNat : Int)) ?_
  intro i k hi hP hk
  refine Br.d (fun hlt => At.nat (xs := sgL) (by have h1 : (i : Int) < ((sgL.length : Nat) : Int) := hlt; omega) fun x hx => AtS.nat hb ⟨fun hq => ?_, fun hq => Let.as _ (wi1 (by have : sgL.length = 14 := rfl; omega)) (hk x hx hq)⟩) (fun hge => ?_)
  · refine Let.as _ (wi1 (by omega)) ?_
    have : sgL.contains (b.toNat : Int) = true := by
      rw [List.contains_iff_mem, ← beq_iff_eq.1 hq]
      exact List.mem_of_getElem? hx
    unfold sgN; rw [if_neg h, e0, if_pos this]
  · have : ¬ sgL.contains (b.toNat : Int) = true := by
      rw [List.contains_iff_mem]
      intro hm
      obtain ⟨j, hj⟩ := List.mem_iff_getElem?.1 hm
      have hjl := (List.getElem?_eq_some_iff.1 hj).1
      have hge' : ¬ (i : Int) < ((sgL.length : Nat) : Int) := hge
      have := hP j _ (by omega) hj
      simp at this
    show (p : Int) = _
    unfold sgN; rw [if_neg h, e0, if_neg this, Nat.add_zero]
theorem qQ1 {b : UInt8} {t : List UInt8} (h : q20 (b.toNat : Int) = true) : skip (b :: t) = skip t + 1 := by
 have e : span q20 (b :: t) = span q20 t + 1 := by rw [span, if_pos h]
 unfold skip
 rw [e]
 show span q20 t + 1 + cm (t.drop (span q20 t)) = _
 omega
theorem qW8 {l : List UInt8} (h : peek l 0 = 47 /\ peek l 1 = 47) : skip l = span q7x l + skip (l.drop (span q7x l)) := by
 have e : span q20 l = 0 := by
  cases l with
  | nil => rfl
  | cons b t =>
   have : (b.toNat : Int) = 47 := h.1
   rw [span, if_neg (by rw [this]; decide)]
 unfold skip
 rw [e, List.drop_zero, cm, dif_pos h]
 omega
theorem qLi {l : List UInt8} (h1 : q20 (peek l 0) = false) (h2 : ¬ (peek l 0 = 47 /\ peek l 1 = 47)) : skip l = 0 := by
 have e : span q20 l = 0 := by
  cases l with
  | nil => rfl
  | cons b t =>
   have : q20 (b.toNat : Int) = false := h1
   rw [span, if_neg (by rw [this]; decide)]
 unfold skip
 rw [e, List.drop_zero, cm, dif_neg h2]
theorem qGn {l : List UInt8} (hl : l.length <= 20000) {p : Nat} (hp : p <= l.length) : q5z (bs l) (p : Int) ((p + skip (l.drop p) : Nat) : Int) := by
 refine qG9 ?_
 unfold q9u
 refine ⟨fun z => ∃ q : Nat, z = (q : Int) /\ q <= l.length /\ q + skip (l.drop q) = p + skip (l.drop p), fun z => l.length - z.toNat, ⟨p, rfl, hp, rfl⟩, ?_⟩
 rintro _ ⟨q, rfl, hq, he⟩
 rw [q0f]
 have pk : ∀ n, peek (l.drop q) n = peek l (q + n) := fun n => q91 l q n
 have stop : skip (l.drop q) = 0 -> (q : Int) = ((p + skip (l.drop p) : Nat) : Int) := fun h => by rw [h] at he; omega
 refine Br.d (fun hlt => ?_) (fun hge => stop ?_)
 rotate_left
 ·rw [List.drop_of_length_le (by omega)]; exact qLi rfl (by simp [peek])
 have hq1 : q < l.length := by omega
 obtain ⟨b, hb, hpk⟩ := q87 hq1
 have hd : l.drop q = l[q]'hq1 :: l.drop (q + 1) := List.drop_eq_getElem_cons hq1
 have hbb : ((l[q]'hq1).toNat : Int) = (b.toNat : Int) := by
  rw [← hpk]; unfold peek; rw [List.getElem?_eq_getElem hq1]
 have e0 : peek (l.drop q) 0 = (b.toNat : Int) := by rw [pk, Nat.add_zero, hpk]
 have go : q20 (b.toNat : Int) = true -> Let (IntKind.i64.wrap ((q : Int) + (1 : Int))) fun x => (∃ q : Nat, x = (q : Int) /\ q <= l.length /\ q + skip (l.drop q) = p + skip (l.drop p)) /\ l.length - x.toNat < l.length - (q : Int).toNat := fun h => by
  rw [hd, qQ1 (by rw [hbb]; exact h)] at he
  refine Let.as _ (wi1 (by omega)) ⟨⟨q + 1, rfl, by omega, by omega⟩, ?_⟩
  simp only [Int.toNat_natCast]; omega
 refine AtS.nat hb (Br.e (fun h => go (by rw [h]; rfl)) (fun n1 => Br.e (fun h => go (by rw [h]; rfl)) (fun n2 => Br.e (fun h => go (by rw [h]; rfl)) (fun n3 => Br.e (fun h => go (by rw [h]; rfl)) (fun n4 => ?_)))))
 have nb : q20 (peek (l.drop q) 0) = false := by
  rw [e0]; unfold q20
  rw [beq_false_of_ne n1, beq_false_of_ne n2, beq_false_of_ne n3, beq_false_of_ne n4]; rfl
 refine ⟨fun h => stop (qLi nb fun h2 => ?_), fun h => ?_⟩
 ·rw [e0] at h2; rw [h2.1] at h; cases h
 have h47 : (b.toNat : Int) = 47 := by simpa using h
 refine Let.as _ (wi1 (by omega)) (Br.d (fun h5 => stop (qLi nb fun h2 => ?_)) (fun h5 => Let.as _ (wi1 (by omega)) ?_))
 ·have h8 := h2.2
  rw [pk 1, qD8 (l := l) (q := q + 1) (by omega)] at h8; exact absurd h8 (by decide)
 obtain ⟨c, hc, hck⟩ := q87 (l := l) (q := q + 1) (by omega)
 refine AtS.nat hc ⟨fun h6 => stop (qLi nb fun h2 => ?_), fun h6 => ?_⟩
 ·rw [pk 1, hck] at h2; rw [h2.2] at h6; cases h6
 have c47 : (c.toNat : Int) = 47 := by simpa using h6
 have hcm : peek (l.drop q) 0 = 47 /\ peek (l.drop q) 1 = 47 := ⟨by rw [e0]; exact h47, by rw [pk 1, hck]; exact c47⟩
 have hsk := qW8 hcm
 have hpos := qMp hcm.1
 have hle := q1o q7x (l.drop q)
 rw [List.length_drop] at hle
 rw [List.drop_drop] at hsk
 have fin : ∀ r : Nat, r = q + span q7x (l.drop q) -> ((∃ q : Nat, (r : Int) = (q : Int) /\ q <= l.length /\ q + skip (l.drop q) = p + skip (l.drop p)) /\ l.length - (r : Int).toNat < l.length - (q : Int).toNat) := fun r hr => by
  refine ⟨⟨r, rfl, by omega, by rw [hr]; omega⟩, ?_⟩
  simp only [Int.toNat_natCast]; omega
 refine ⟨fun z => ∃ r : Nat, z = (r : Int) /\ r <= l.length /\ r + span q7x (l.drop r) = q + span q7x (l.drop q), fun z => l.length - z.toNat, ⟨q, rfl, hq, rfl⟩, ?_⟩
 rintro _ ⟨r, rfl, hr, hre⟩
 refine Br.d (fun hlt2 => ?_) (fun hge2 => fin r ?_)
 ·have hr1 : r < l.length := by omega
  obtain ⟨d, hd1, hdk⟩ := q87 hr1
  rw [qO4 hr1, hdk] at hre
  refine AtS.nat hd1 ⟨fun h7 => ?_, fun h7 => fin r ?_⟩
  ·rw [if_pos (by unfold q7x; exact h7)] at hre
   refine Let.as _ (wi1 (by omega)) ⟨⟨r + 1, rfl, by omega, by omega⟩, ?_⟩
   simp only [Int.toNat_natCast]; omega
  ·rw [if_neg (by unfold q7x; rw [h7]; decide)] at hre
   omega
 ·rw [List.drop_of_length_le (by omega)] at hre
  simp only [span] at hre
  omega
end Go.Sim.YtifjflhnfjhijaaGreatDoor
