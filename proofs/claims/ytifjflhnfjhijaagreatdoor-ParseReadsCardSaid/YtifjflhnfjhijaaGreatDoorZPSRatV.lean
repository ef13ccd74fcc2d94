/- What is proved: rat.Read yields just the number that a text writes (given what strings and strconv yield). -/
import Derived.Test.YtifjflhnfjhijaaGreatDoorZPSLexD
import Derived.Test.YtifjflhnfjhijaaGreatDoorZPSRatR

namespace Go.Sim.YtifjflhnfjhijaaGreatDoor
open Go.RowKit Go.Proofs Go.Proofs.Tryz
def dvB (l : List UInt8) : Nat := dvA 0 (l.map fun b => (b.toNat : Int))
structure qF6 : Prop where
 ok : qVv
 atoi : ∀ l : List UInt8, 1 <= l.length -> l.length <= 2 -> span q05 l = l.length -> q0z (bs l) ((dvB l : Int), false)
 pu : ∀ l : List UInt8, 1 <= l.length -> l.length <= 200 -> span q05 l = l.length -> ∃ n : Nat, n < 18446744073709551616 /\ (dvB l < 18446744073709551616 -> n = dvB l) /\ q1c (bs l) 10 64 ((n : Int), decide (18446744073709551616 <= dvB l))
theorem q1l {f : Int -> Bool} : ∀ {l : List UInt8}, span f l = l.length ↔ ∀ b ∈ l, f (b.toNat : Int) = true
 | [] => by simp [span]
 | b :: l => by
  have ih := q1l (f := f) (l := l)
  have := q1o f l
  by_cases hb : f (b.toNat : Int) = true
  ·rw [span, if_pos hb]; simp [hb]; exact ih
  ·rw [span, if_neg hb]; simp [hb]
theorem qJo : ∀ l : List UInt8, dvB (l.drop (span qJf l)) = dvB l
 | [] => rfl
 | b :: l => by
  by_cases hb : qJf (b.toNat : Int) = true
  ·rw [span, if_pos hb]
   show dvB (l.drop (span qJf l)) = _
   rw [qJo l]
   have : (b.toNat : Int) = 48 := by simpa [qJf] using hb
   unfold dvB
   rw [List.map_cons, dvA, this]; rfl
  ·rw [span, if_neg hb]; rfl
theorem qO0 : ∀ (l : List Int) (n : Nat), dvA n l = n * 10 ^ l.length + dvA 0 l
 | [], n => by simp [dvA]
 | c :: l, n => by
  rw [dvA, dvA, qO0 l (n * 10 + _), qO0 l (0 * 10 + _), List.length_cons, Nat.pow_succ]
  grind
theorem qUw : ∀ (l : List Int), DigI l -> dvA 0 l < 10 ^ l.length
 | [], _ => by simp [dvA]
 | c :: l, h => by
  have ih := qUw l h.tl
  obtain ⟨h1, h2⟩ := h c (List.mem_cons_self ..)
  rw [dvA, qO0, List.length_cons, Nat.pow_succ]
  have : (0 * 10 + (c - 48).toNat) * 10 ^ l.length <= 9 * 10 ^ l.length := Nat.mul_le_mul_right _ (by omega)
  omega
theorem qS4 {l : List Int} (h : DigI l) : (tl (strOfNums l) 0).map (fun b => (b.toNat : Int)) = l := by
 unfold tl strOfNums
 simp only [List.drop_zero, List.map_map]
 conv => rhs; rw [← List.map_id l]
 refine List.map_congr_left fun c hc => ?_
 obtain ⟨h1, h2⟩ := h c hc
 simp
 omega
theorem qS5 {l : List UInt8} (h : span q05 l = l.length) : DigI (l.map fun b => (b.toNat : Int)) := by
 intro c hc
 obtain ⟨b, hb, rfl⟩ := List.mem_map.1 hc
 have := q1l.1 h b hb
 unfold q05 at this; simp only [Bool.and_eq_true, decide_eq_true_eq] at this; omega
theorem qPx (h : qF6) {l : List UInt8} (h1 : 1 <= l.length) (h2 : l.length <= 200) (hd : span q05 l = l.length) (h0 : 0 < dvB l) {e : Int} (he : -1000 <= e /\ e <= 1000) :
    q68 (bs l) e (toR (q4d false (dvB l * 10 ^ e.toNat) (10 ^ (-e).toNat))) := by
  obtain ⟨k0, hk0⟩ : ∃ k0, k0 = (-e).toNat := ⟨_, rfl⟩
  have eB : q9a (bs l) = l.map fun b => (b.toNat : Int) := rfl
  have d0 := qS5 hd
  obtain ⟨a1, i, a2, a3, a4⟩ := qJn (y := 2) (by decide) (by decide) (by decide) k0 _ d0 (by rw [List.length_map]; exact h1)
  have len1 := (q92 2 k0 (l.map fun b => (b.toNat : Int))).2
  obtain ⟨b1, j, b2, b3, b4⟩ := qJn (y := 5) (by decide) (by decide) (by decide) k0 _ a1 (by rw [show ((2 : Nat) : Int) = 2 from rfl, len1, List.length_map]; exact h1)
  have len2 := (q92 5 k0 (q1e 2 k0 (l.map fun b => (b.toNat : Int))).2).2
  simp only [show ((2 : Nat) : Int) = 2 from rfl, show ((5 : Nat) : Int) = 5 from rfl] at *
  have rd : dvB (qG7 k0 l) = dvA 0 (q1e 5 k0 (q1e 2 k0 (l.map fun b => (b.toNat : Int))).2).2 := by
    unfold qG7
    rw [qJo, eB]
    unfold dvB
    rw [qS4 b1]
  have rdl := qRv k0 l
  have rdd : span q05 (qG7 k0 l) = (qG7 k0 l).length := by
    refine q1l.2 fun b hb => ?_
    unfold qG7 at hb
    have hb := List.mem_of_mem_drop hb
    rw [eB] at hb
    have hm := List.mem_map_of_mem (f := fun b : UInt8 => (b.toNat : Int)) hb
    rw [qS4 b1] at hm
    have := b1 _ hm
    unfold q05; simp only [Bool.and_eq_true, decide_eq_true_eq]; omega
  obtain ⟨v1, hv1⟩ : ∃ v1, v1 = dvA 0 (q1e 5 k0 (q1e 2 k0 (l.map fun b => (b.toNat : Int))).2).2 := ⟨_, rfl⟩
  rw [← hv1] at rd b3 b4
  have hv : dvB l = 2 ^ i * (5 ^ j * v1) := by unfold dvB; rw [a3, b3]
  have v1p : 0 < v1 := by
    rcases Nat.eq_zero_or_pos v1 with h | h
    · rw [h] at hv; simp at hv; omega
    · exact h
  have rd1 : 1 <= (qG7 k0 l).length := by
    by_cases hh : 1 <= (qG7 k0 l).length
    · exact hh
    · have : qG7 k0 l = [] := List.eq_nil_of_length_eq_zero (by omega)
      rw [this] at rd
      have : dvB [] = 0 := rfl
      omega
  obtain ⟨n, hn, hn2, hpu⟩ := h.pu (qG7 k0 l) rd1 (by omega) rdd
  have hs := qPw h.ok.t0 h1 h2 he hk0 hn hpu
  rw [eB] at hs
  have c2 : (q1e 2 k0 (l.map fun b => (b.toNat : Int))).1 = 0 \/ ¬ 2 ∣ v1 := by
    rcases a4 with h | h
    · exact .inl h
    · right
      intro hd2
      apply h
      rw [b3]
      exact Nat.dvd_trans hd2 (Nat.dvd_mul_left ..)
  have ht := qTu h0 hk0 a2 b2 hv c2 b4
  rw [← hk0, ← ht]
  rw [rd] at hs hn2
  by_cases hlt : 18446744073709551616 <= v1
  · rw [decide_eq_true hlt] at hs
    rw [if_pos hlt]
    exact hs
  · rw [decide_eq_false hlt] at hs
    rw [if_neg hlt, ← hn2 (by omega)]
    exact hs
def qTv (x10 : ByteArray) (x11 : Int) : Option Int -> ByteArray × Int × Int × Bool
 | none => qLd
 | some e => (x10, x11, e, true)
def expS (u : List UInt8) (sg : Int) : Option Int := if span q05 u = u.length /\ 1 <= u.length /\ u.length <= 2 then some (sg * (dvB u : Int)) else none
def q97 : List UInt8 -> Option Int
  | [] => some 0
  | b :: v => if (b.toNat : Int) = 101 \/ (b.toNat : Int) = 69 then
      (if peek v 0 = 45 then expS (v.drop 1) (-1) else if peek v 0 = 43 then expS (v.drop 1) 1 else expS v 1)
    else none
theorem q2u (b : UInt8) (v : List UInt8) : q97 (b :: v) = if (b.toNat : Int) = 101 \/ (b.toNat : Int) = 69 then
      (if peek v 0 = 45 then expS (v.drop 1) (-1) else if peek v 0 = 43 then expS (v.drop 1) 1 else expS v 1)
    else none := rfl
def qBa (l : List UInt8) : Option (List UInt8 × Nat × Int) :=
 if span q05 l < 1 \/ 40 < span q05 l then none
 else if peek l (span q05 l) = 46 then
  (if span q05 (l.drop (span q05 l + 1)) < 1 \/ 40 < span q05 (l.drop (span q05 l + 1)) then none
  else (q97 ((l.drop (span q05 l + 1)).drop (span q05 (l.drop (span q05 l + 1))))).map fun e => (l.take (span q05 l) ++ (l.drop (span q05 l + 1)).take (span q05 (l.drop (span q05 l + 1))), span q05 (l.drop (span q05 l + 1)), e))
 else (q97 (l.drop (span q05 l))).map fun e => (l.take (span q05 l), 0, e)
theorem qMw {l : List UInt8} (h : span q05 l = l.length) : dvB l < 10 ^ l.length := by
 have := qUw _ (qS5 h)
 rw [List.length_map] at this
 exact this
theorem qLf {u : List UInt8} {sg e : Int} (hs : sg = 1 \/ sg = -1) (h : expS u sg = some e) : -99 <= e /\ e <= 99 := by
 unfold expS at h
 split at h
 ·rename_i hc
  have h1 := qMw hc.1
  have h2 : 10 ^ u.length <= 10 ^ 2 := Nat.pow_le_pow_right (by decide) hc.2.2
  have h3 : dvB u <= 99 := by omega
  cases h
  rcases hs with rfl | rfl <;> omega
 ·cases h
theorem qLg {u : List UInt8} {e : Int} (h : q97 u = some e) : -99 <= e /\ e <= 99 := by
 cases u with
 | nil => simp [q97] at h; omega
 | cons b v =>
  rw [q2u] at h
  split at h
  ·split at h
   ·exact qLf (.inr rfl) h
   ·split at h
    ·exact qLf (.inl rfl) h
    ·exact qLf (.inl rfl) h
  ·cases h
theorem qO1 (h : qF6) (x10 : ByteArray) (x11 : Int) {u : List UInt8} (hu : u.length <= 9223372036854775807) {x55 : Int} (hx : x55 = 1 \/ x55 = -1) : expW x10 x11 (bs u) x55 (fun r' => r' = qTv x10 x11 (expS u x55)) := by
 have hd := qJh h.ok hu
 have hl := q1o q05 u
 have st : (bs (u.take (span q05 u))).size = span q05 u := by rw [q0f, List.length_take]; omega
 have no : ¬ (span q05 u = u.length /\ 1 <= u.length /\ u.length <= 2) -> qLd = qTv x10 x11 (expS u x55) := fun hn => by unfold expS; rw [if_neg hn]; rfl
 by_cases c1 : span q05 u < 1
 ·exact Call.mk hd (Br.t (decide_eq_true (by rw [st]; omega)) (no (by omega)))
 by_cases c2 : 2 < span q05 u
 ·exact Call.mk hd (Br.f (decide_eq_false (by rw [st]; omega)) (Br.t (decide_eq_true (by rw [st]; omega)) (no (by omega))))
 by_cases c3 : u.drop (span q05 u) = []
 ·have hlen : span q05 u = u.length := by have := List.drop_eq_nil_iff.1 c3; omega
  have hn := h.atoi u (by omega) (by omega) hlen
  have htk : u.take (span q05 u) = u := List.take_of_length_le (by omega)
  have hlt := qMw hlen
  have h2 : 10 ^ u.length <= 10 ^ 2 := Nat.pow_le_pow_right (by decide) (by omega)
  refine Call.mk hd (Br.f (decide_eq_false (by rw [st]; omega)) (Br.f (decide_eq_false (by rw [st]; omega)) (Br.f ?_ ?_)))
  ·show (!((bs (u.drop (span q05 u))).toList == (ByteArray.mk #[]).toList)) = false
   rw [qF1, decide_eq_true c3]; rfl
  ·show Call (q0z (bs (u.take (span q05 u)))) _
   rw [htk]
   refine Call.mk hn (Let.as (x55 * (dvB u : Int)) ?_ ?_)
   ·rcases hx with rfl | rfl <;> exact wi (by show _ <= _ * (dvB u : Int); omega) (by show _ * (dvB u : Int) < _; omega)
   ·unfold expS; rw [if_pos ⟨hlen, by omega, by omega⟩]; rfl
 ·refine Call.mk hd (Br.f (decide_eq_false (by rw [st]; omega)) (Br.f (decide_eq_false (by rw [st]; omega)) (Br.t ?_ (no fun hh => c3 (by rw [List.drop_eq_nil_iff]; omega)))))
  show (!((bs (u.drop (span q05 u))).toList == (ByteArray.mk #[]).toList)) = true
  rw [qF1, decide_eq_false c3]; rfl
theorem qP9 (h : qF6) (x10 : ByteArray) (x11 : Int) {u : List UInt8} (hu : u.length <= 9223372036854775807) : z08 (bs u) x10 x11 (fun r' => r' = qTv x10 x11 (q97 u)) := by
  cases u with
  | nil => exact Br.t (by rw [qF1]; rfl) rfl
  | cons b u =>
    have hnil : ((bs (b :: u)).toList == (ByteArray.mk #[]).toList) = false := by rw [qF1]; exact decide_eq_false (by simp)
    by_cases c : (b.toNat : Int) = 101 \/ (b.toNat : Int) = 69
    · have join : ∀ k : Bool -> Prop, k false -> q16 (fun j23 => AtS (bs (b :: u)) (0 : Int) fun x25 => Br (x25 != (101 : Int)) (AtS (bs (b :: u)) (0 : Int) fun x28 => j23 (x28 != (69 : Int))) (j23 false)) k := by
        intro k hk
        refine ⟨fun x => x = false, AtS.head ?_, fun x hx => by subst hx; exact hk⟩
        rcases c with c | c
        · exact Br.f (by rw [c]; rfl) rfl
        · exact Br.t (by rw [c]; rfl) (AtS.head (by rw [c]; rfl))
      have sl1 : ∀ {v : List UInt8} {a : UInt8} {k : ByteArray -> Prop}, k (bs v) -> SlS (bs (a :: v)) (1 : Int) ((bs (a :: v)).size : Int) k := fun {v a k} hk => qTo (l := a :: v) (p := 1) (by simp) hk
      cases u with
      | nil =>
        have e1 : q97 [b] = expS [] 1 := by rw [q2u, if_pos c]; rfl
        rw [e1]
        refine Br.f hnil (join _ (Br.f rfl (sl1 ⟨fun x => x = false, ?_, ?_⟩)))
        · exact Br.f (by rw [qF1]; rfl) rfl
        · rintro _ rfl
          exact ⟨fun a s => a = bs [] /\ s = 1, Br.f rfl ⟨rfl, rfl⟩, fun a s hs => by rw [hs.1, hs.2]; exact qO1 h x10 x11 (u := []) (by simp) (.inl rfl)⟩
      | cons a v =>
        have hav : (!((bs (a :: v)).toList == (ByteArray.mk #[]).toList)) = true := by rw [qF1, decide_eq_false (by simp)]; rfl
        have hlen : v.length <= 9223372036854775807 := by simp at hu; omega
        have pk : peek (a :: v) 0 = (a.toNat : Int) := rfl
        by_cases c2 : (a.toNat : Int) = 43 \/ (a.toNat : Int) = 45
        · obtain ⟨sg, hsg, hre, hsj⟩ : ∃ sg : Int, (sg = 1 \/ sg = -1) /\ q97 (b :: a :: v) = expS v sg /\ ∀ k : Int -> Prop, k sg -> q16 (fun j61 => Br ((a.toNat : Int) == (45 : Int)) (j61 (-1 : Int)) (j61 (1 : Int))) k := by
            by_cases c3 : (a.toNat : Int) = 45
            · exact ⟨-1, .inr rfl, by rw [q2u, if_pos c, pk, if_pos c3]; rfl, fun k hk => ⟨fun x => x = -1, Br.t (by rw [c3]; rfl) rfl, fun x hx => by subst hx; exact hk⟩⟩
            · exact ⟨1, .inl rfl, by rw [q2u, if_pos c, pk, if_neg c3, if_pos (c2.resolve_right c3)]; rfl, fun k hk => ⟨fun x => x = 1, Br.f (beq_false_of_ne c3) rfl, fun x hx => by subst hx; exact hk⟩⟩
          rw [hre]
          refine Br.f hnil (join _ (Br.f rfl (sl1 ⟨fun x => x = true, ?_, ?_⟩)))
          · refine Br.t hav (AtS.head ?_)
            rcases c2 with c3 | c3
            · exact Br.t (by rw [c3]; rfl) rfl
            · exact Br.f (by rw [c3]; rfl) (AtS.head (by rw [c3]; rfl))
          · rintro _ rfl
            exact ⟨fun x s => x = bs v /\ s = sg, Br.t rfl (AtS.head (hsj _ (sl1 ⟨rfl, rfl⟩))), fun x s hs => by rw [hs.1, hs.2]; exact qO1 h x10 x11 (u := v) hlen hsg⟩
        · have hre : q97 (b :: a :: v) = expS (a :: v) 1 := by rw [q2u, if_pos c, pk, if_neg fun e => c2 (.inr e), if_neg fun e => c2 (.inl e)]
          rw [hre]
          refine Br.f hnil (join _ (Br.f rfl (sl1 ⟨fun x => x = false, ?_, ?_⟩)))
          · exact Br.t hav (AtS.head (Br.f (beq_false_of_ne fun e => c2 (.inl e)) (AtS.head (beq_false_of_ne fun e => c2 (.inr e)))))
          · rintro _ rfl
            exact ⟨fun x s => x = bs (a :: v) /\ s = 1, Br.f rfl ⟨rfl, rfl⟩, fun x s hs => by rw [hs.1, hs.2]; exact qO1 h x10 x11 (u := a :: v) (by simp at hu ⊢; omega) (.inl rfl)⟩
    · have hre : q97 (b :: u) = none := by rw [q2u, if_neg c]
      rw [hre]
      refine Br.f hnil ⟨fun x => x = true, AtS.head (Br.t ?_ (AtS.head ?_)), ?_⟩
      · show ((b.toNat : Int) != 101) = true
        simpa using fun e => c (.inl e)
      · show ((b.toNat : Int) != 69) = true
        simpa using fun e => c (.inr e)
      · rintro _ rfl
        exact Br.t rfl rfl
def qS6 (l : List UInt8) : ByteArray × Int × Int × Bool := match qBa l with
 | none => qLd
 | some (a, m, e) => (bs a, (m : Int), e, true)
theorem qS7 (h : qF6) {l : List UInt8} (hl : l.length <= 9223372036854775807) : qBr (bs l) (qS6 l) := by
 refine qK4 ?_
 unfold qEe
 have hd := qJh h.ok hl
 have hsp := q1o q05 l
 unfold qS6 qBa
 obtain ⟨n, hn⟩ : ∃ n, n = span q05 l := ⟨_, rfl⟩
 rw [← hn] at hd hsp ⊢
 have st : (bs (l.take n)).size = n := by rw [q0f, List.length_take]; omega
 by_cases c1 : n < 1
 ·rw [if_pos (.inl c1)]
  exact Call.mk hd (Br.t (decide_eq_true (by rw [st]; omega)) rfl)
 by_cases c2 : 40 < n
 ·rw [if_pos (.inr c2)]
  exact Call.mk hd (Br.f (decide_eq_false (by rw [st]; omega)) (Br.t (decide_eq_true (by rw [st]; omega)) rfl))
 rw [if_neg (by omega)]
 obtain ⟨u, b, hu, hcut, hub, hub2⟩ := qYm (l.drop n) (by rw [List.length_drop]; omega)
 rw [List.length_drop] at hu
 have pr : ∀ (a : List UInt8) (m : Nat) (o : Option Int), (match o.map fun e => (a, m, e) with | none => qLd | some (a, m, e) => (bs a, (m : Int), e, true)) = qTv (bs a) (m : Int) o := by
  intro a m o; cases o <;> rfl
 cases b with
 | true =>
  obtain ⟨g1, g2⟩ := hub rfl
  rw [List.drop_drop] at g2
  rw [q91, Nat.add_zero] at g1
  rw [if_pos g1, g2]
  have hd2 := qJh h.ok (l := u) (by omega)
  have hsp2 := q1o q05 u
  obtain ⟨m, hm⟩ : ∃ m, m = span q05 u := ⟨_, rfl⟩
  rw [← hm] at hd2 hsp2 ⊢
  have st2 : (bs (u.take m)).size = m := by rw [q0f, List.length_take]; omega
  by_cases c3 : m < 1
  ·rw [if_pos (.inl c3)]
   exact Call.mk hd (Br.f (decide_eq_false (by rw [st]; omega)) (Br.f (decide_eq_false (by rw [st]; omega)) (Call.mk hcut ⟨fun _ _ _ => False, Br.t rfl (Call.mk hd2 (Br.t (decide_eq_true (by rw [st2]; omega)) rfl)), fun _ _ _ h => h.elim⟩)))
  by_cases c4 : 40 < m
  ·rw [if_pos (.inr c4)]
   exact Call.mk hd (Br.f (decide_eq_false (by rw [st]; omega)) (Br.f (decide_eq_false (by rw [st]; omega)) (Call.mk hcut ⟨fun _ _ _ => False, Br.t rfl (Call.mk hd2 (Br.f (decide_eq_false (by rw [st2]; omega)) (Br.t (decide_eq_true (by rw [st2]; omega)) rfl))), fun _ _ _ h => h.elim⟩)))
  rw [if_neg (by omega), pr]
  refine Call.mk hd (Br.f (decide_eq_false (by rw [st]; omega)) (Br.f (decide_eq_false (by rw [st]; omega)) (Call.mk hcut ⟨fun x y z => x = bs (u.drop m) /\ y = bs (l.take n ++ u.take m) /\ z = ((m : Nat) : Int), ?_, ?_⟩)))
  ·refine Br.t rfl (Call.mk hd2 (Br.f (decide_eq_false (by rw [st2]; omega)) (Br.f (decide_eq_false (by rw [st2]; omega)) ⟨by rw [st, st2]; omega, Let.as (bs (l.take n ++ u.take m)) (qMm _ _) ⟨rfl, rfl, by rw [st2]⟩⟩)))
  ·rintro _ _ _ ⟨rfl, rfl, rfl⟩; exact qP9 h _ _ (by rw [List.length_drop]; omega)
 | false =>
  have g1 := hub2 rfl
  rw [q91, Nat.add_zero] at g1
  rw [if_neg g1, pr]
  refine Call.mk hd (Br.f (decide_eq_false (by rw [st]; omega)) (Br.f (decide_eq_false (by rw [st]; omega)) (Call.mk hcut ⟨fun x y z => x = bs (l.drop n) /\ y = bs (l.take n) /\ z = 0, Br.f rfl ⟨rfl, rfl, rfl⟩, ?_⟩)))
  rintro _ _ _ ⟨rfl, rfl, rfl⟩; exact qP9 h _ _ (by rw [List.length_drop]; omega)
theorem qPy {l : List UInt8} {n : Nat} (h : span q05 l = l.length) : span q05 (l.take n) = (l.take n).length :=
 q1l.2 fun b hb => q1l.1 h b (List.mem_of_mem_take hb)
theorem qS8 {l a : List UInt8} {m : Nat} {e : Int} (h : qBa l = some (a, m, e)) : span q05 a = a.length /\ a.length <= 80 /\ m <= 40 /\ -99 <= e /\ e <= 99 := by
 unfold qBa at h
 split at h
 ·cases h
 rename_i c1
 split at h
 ·split at h
  ·cases h
  ·rename_i c2
   obtain ⟨e', h1, h2⟩ := Option.map_eq_some_iff.1 h
   cases h2
   have := qLg h1
   refine ⟨q1l.2 fun b hb => ?_, by simp; omega, by omega, this⟩
   rcases List.mem_append.1 hb with hb | hb
   ·exact q1l.1 (qA5 q05 l) b hb
   ·exact q1l.1 (qA5 q05 _) b hb
 ·obtain ⟨e', h1, h2⟩ := Option.map_eq_some_iff.1 h
  cases h2
  have := qLg h1
  exact ⟨qA5 q05 l, by simp; omega, by omega, this⟩
theorem qS9 : ∀ (k : Nat) (a : List UInt8) (e : Int), a.length <= k -> span q05 a = a.length ->
    span q05 (offF k a e).1 = (offF k a e).1.length /\ ∃ t : Nat, (offF k a e).2 = e + (t : Int) /\ dvB a = dvB (offF k a e).1 * 10 ^ t /\ ((offF k a e).1 = [] \/ 0 < dvB (offF k a e).1)
  | 0, a, e, hk, hd => by
    have : a = [] := List.eq_nil_of_length_eq_zero (by omega)
    subst this
    exact ⟨rfl, 0, by simp [offF], by simp [offF], .inl rfl⟩
  | k + 1, a, e, hk, hd => by
    unfold offF
    split
    · rename_i h
      obtain ⟨hne, hlast⟩ := h
      obtain ⟨i, c, rfl⟩ : ∃ i c, a = i ++ [c] := ⟨a.dropLast, a.getLast hne, (List.dropLast_concat_getLast hne).symm⟩
      have e1 : (i ++ [c]).take ((i ++ [c]).length - 1) = i := by simp
      have e2 : (i ++ [c]).getD ((i ++ [c]).length - 1) 0 = c := by simp [List.getD]
      rw [e2] at hlast
      rw [e1]
      obtain ⟨g1, t, g2, g3, g4⟩ := qS9 k i (e + 1) (by simp at hk; omega) (q1l.2 fun b hb => q1l.1 hd b (by simp [hb]))
      refine ⟨g1, t + 1, by rw [g2]; omega, ?_, g4⟩
      have : dvB (i ++ [c]) = dvB i * 10 := by
        unfold dvB
        rw [List.map_append, List.map_cons, List.map_nil, qF5, hlast]; rfl
      rw [this, g3, Nat.pow_succ, Nat.mul_assoc]
    · rename_i h
      refine ⟨hd, 0, by simp, by simp, ?_⟩
      by_cases hne : a = []
      · exact .inl hne
      · right
        obtain ⟨i, c, rfl⟩ : ∃ i c, a = i ++ [c] := ⟨a.dropLast, a.getLast hne, (List.dropLast_concat_getLast hne).symm⟩
        have e2 : (i ++ [c]).getD ((i ++ [c]).length - 1) 0 = c := by simp [List.getD]
        have hc : c.toNat ≠ 48 := fun hc => h ⟨hne, by rw [e2]; exact hc⟩
        have hcd := q1l.1 hd c (by simp)
        unfold q05 at hcd; simp only [Bool.and_eq_true, decide_eq_true_eq] at hcd
        show 0 < dvA 0 ((i ++ [c]).map fun b => (b.toNat : Int))
        rw [List.map_append, List.map_cons, List.map_nil, qF5]
        omega
def qK6 (l : List UInt8) : GRat × Int := match qBa l with
 | none => (GRat.zero, 110)
 | some (a, m, e) => toR (q4d false (dvB a * 10 ^ (e - m).toNat) (10 ^ ((m : Int) - e).toNat))
theorem qTw (h : qF6) {l : List UInt8} (hl : l.length <= 9223372036854775807) : q8s (bs l) (qK6 l) := by
 have hp := qS7 h hl
 unfold qS6 at hp
 unfold qK6
 cases hps : qBa l with
 | none =>
  rw [hps] at hp
  refine qF0 ?_
  unfold qD5
  exact Call.mk hp (Br.t rfl rfl)
 | some r =>
  obtain ⟨a, m, e⟩ := r
  rw [hps] at hp
  obtain ⟨hdig, ha, c1, e0, e1⟩ := qS8 hps
  show q8s (bs l) (toR (q4d false (dvB a * 10 ^ (e - m).toNat) (10 ^ ((m : Int) - e).toNat)))
  have t0 := h.ok.t0 (bs a) (by rw [q0f]; omega)
  rw [qJg] at t0
  obtain ⟨a1, ha1⟩ : ∃ a1, a1 = a.drop (span qJf a) := ⟨_, rfl⟩
  have l1 : a1.length <= 80 := by rw [ha1, List.length_drop]; omega
  have d1 : span q05 a1 = a1.length := by rw [ha1]; exact q1l.2 fun b hb => q1l.1 hdig b (List.mem_of_mem_drop hb)
  have v1 : dvB a1 = dvB a := by rw [ha1, qJo]
  rw [← ha1] at t0
  have ho := qRw a1.length a1 (e - m)
  obtain ⟨q1, t, q2, q3, q4⟩ := qS9 a1.length a1 (e - m) (Nat.le_refl _) d1
  obtain ⟨a2, ha2⟩ : ∃ a2, a2 = (offF a1.length a1 (e - m)).1 := ⟨_, rfl⟩
  obtain ⟨e2, he2⟩ : ∃ e2, e2 = (offF a1.length a1 (e - m)).2 := ⟨_, rfl⟩
  rw [← ha2, ← he2] at ho
  rw [← ha2] at q1 q3 q4
  rw [← he2] at q2
  rw [v1] at q3
  have hrr : ∀ Q : GRat × Int -> Prop, Q (toR (q4d false (dvB a * 10 ^ (e - m).toNat) (10 ^ ((m : Int) - e).toNat))) -> Br ((bs a2).toList == (ByteArray.mk #[]).toList) (Q (({ GRat.zero with D := (1 : Int) }), (0 : Int))) (Call (q68 (bs a2) e2) fun x74 => Q (x74.1, x74.2)) := by
   intro Q hQ
   by_cases hz : a2 = []
   ·refine Br.t (by rw [qF1]; exact decide_eq_true hz) ?_
    rw [hz] at q3
    have : dvB [] = 0 := rfl
    rw [q3, this, Nat.zero_mul, Nat.zero_mul, qKe (Nat.ne_of_gt (Nat.pow_pos (by decide)))] at hQ
    exact hQ
   ·have hsc := qPx h (l := a2) (by cases a2 with | nil => exact absurd rfl hz | cons => simp) (by omega) q1 (q4.resolve_left hz) (e := e2) ⟨by omega, by omega⟩
    have same : q4d false (dvB a2 * 10 ^ e2.toNat) (10 ^ (-e2).toNat) = q4d false (dvB a * 10 ^ (e - m).toNat) (10 ^ ((m : Int) - e).toNat) := by
     obtain ⟨c, hc1, hc2⟩ : ∃ c : Nat, t + (e - m).toNat = e2.toNat + c /\ ((m : Int) - e).toNat = (-e2).toNat + c := ⟨((m : Int) - e).toNat - (-e2).toNat, by omega, by omega⟩
     rw [q3, Nat.mul_assoc, ← Nat.pow_add, hc1, hc2, Nat.pow_add, Nat.pow_add, ← Nat.mul_assoc, qI5 (Nat.pow_pos (by decide))]
    rw [same] at hsc
    exact Br.f (by rw [qF1]; exact decide_eq_false hz) (Call.mk hsc hQ)
  refine qF0 ?_
  unfold qD5
  refine Call.mk hp (Br.f rfl (Let.as (e - m) (wi (by show _ <= e - (m : Int); omega) (by show e - (m : Int) < _; omega)) (Call.mk t0 ⟨fun x y => x = bs a2 /\ y = e2, ?_, fun x y hxy => by rw [hxy.1, hxy.2]; exact hrr (fun r' => r' = toR (q4d false (dvB a * 10 ^ (e - m).toNat) (10 ^ ((m : Int) - e).toNat))) rfl⟩)))
  exact qYn l1 (by omega) (by omega) ha2 he2
end Go.Sim.YtifjflhnfjhijaaGreatDoor
