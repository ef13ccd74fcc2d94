/- What is proved: the parser's methods for rules, classes and files read what the plain functions read. -/
import Derived.Test.YtifjflhnfjhijaaGreatDoorZPSPevB

namespace Go.Sim.YtifjflhnfjhijaaGreatDoor
open Go.RowKit Go.Proofs Go.Proofs.Tryz
variable {L : List GToken} {s : PS}
section
variable (hr : ∀ a : GRat, a.ok -> q43 a a.right)
include hr
theorem qTl (h : Gd L s) : q4n (boxP L s) (cvP L (qKy s)) := by
 refine qBm ?_
 unfold q5l
 generalize hT : cvP L (qKy s) = T
 unfold qKy at hT
 refine cqV h hT (q6o h) (q0q s) fun v s1 g1 hT => cqV g1.g hT (qMf g1.g) (q9h _) fun n s2 g2 hT => cqM g2.g hT fun s3 g3 hT => cqV g3.g hT (q6o g3.g) (q0q _) fun a s4 g4 hT => ?_
 refine isNP g4.g hT (fun _ _ hT => ?_) fun _ hT => hT
 refine cqE g4.g hT fun s5 g5 o5 l5 hT => ?_
 have lo := g4.g.lo
 have hL := g5.le
 have hM := g5.len
 refine qPq (fun ks n => ks.length + n <= 2000000) (fun m ks a' => bnd (qJv m ks a') fun q => bnd (q1q [(ByteArray.mk #[41])] q.2) fun s6 => .ok ({ GTree.zero with Kind := 35, Name := v, N := n, Alias := a, Kids := q.1 }, s6)) g5 (by simp only [List.length_nil]; omega) (Nat.lt_succ_self _) hT ?_
 intro m ks a' k g o hP l hT hk
 rw [qJv] at hT
 simp only [q6s, q1b, q1z] at hT
 refine cqV g hT (q6o g) (q0q _) fun w s6 g6 hT => cqM g6.g hT fun s7 g7 hT => cqV g7.g hT (qE4 hr g7.g) (q15 62 _) fun e s8 g8 hT => AppP (by simp only [List.length_singleton]; omega) ?_
 have l6 := g6.l
 have l7 := g7.l
 have l8 := g8.l
 have o6 := g6.o
 have o7 := g7.o
 have o8 := g8.o
 refine qRi g8.g hT (fun g9 _ hT => ?_) fun _ hT => ?_
 ·have o9 := g9.o
  have l9 := g9.l
  exact hk _ _ g9.g (by omega) (by omega) (by simp only [List.length_append, List.length_singleton]; omega) hT
 ·exact cqL g8.g (by omega) (by simp) hT fun b _ _ _ hT => hT
theorem qRr (h : Gd L s) : q44 (boxP L s) (cvP L (qDp s)) := by
 refine qAq ?_
 unfold q4t
 generalize hT : cvP L (qDp s) = T
 unfold qDp at hT
 simp only [q6s] at hT
 refine Call.mk (qL1 h _) ?_
 refine qNn (L := L) (T := T) s.2 L.length (fun o s' => if isP (ByteArray.mk #[61]) s' = true then bnd (q8i 62 (q0i s')) fun e => .ok (tk 37 [o, e.1, e.1], e.2)
  else bnd (qA3 [(ByteArray.mk #[105, 110]), (ByteArray.mk #[91])] s') fun s1 => bnd (q8i 62 s1) fun a => bnd (q0u (ByteArray.mk #[44]) a.2) fun s2 => bnd (q8i 62 s2) fun b => bnd (q0u (ByteArray.mk #[93]) b.2) fun s3 => .ok (tk 37 [o, a.1, b.1], s3)) ?_ fun t s' g o l hT => ?_
 ·cases hi : isP (ByteArray.mk #[100, 101, 114]) s with
  | true => exact Br.t rfl (cqV h (ifT hi hT) (qUj h) (qId s) fun a b g hT => ⟨b, rfl, g.g, g.o, g.g.le, hT⟩)
  | false => exact Br.f rfl (cqV h (ifF (by rw [hi]; decide) hT) (qMe h) (q6n s) fun a b g hT => ⟨b, rfl, g.g, g.o, g.g.le, hT⟩)
 ·refine qDj g hT (fun g1 _ hT => cqV g1.g hT (qE4 hr g1.g) (q15 62 _) fun a b _ hT => hT) fun _ hT => ?_
  exact cqU g hT (qNm g (by simp)) (qD4 _ _) fun s1 g1 hT => cqV g1.g hT (qE4 hr g1.g) (q15 62 _) fun a s2 g2 hT => cqM g2.g hT fun s3 g3 hT => cqV g3.g hT (qE4 hr g3.g) (q15 62 _) fun b s4 g4 hT => cqM g4.g hT fun s5 _ hT => hT
theorem qOz : ∀ (n : Nat) (s : PS), Gd L s -> 61 <= (n : Int) + s.2 -> q2m (boxP L s) (cvP L (qDh n s))
  | 0, s, h, hn => by have := h.hi; omega
  | n + 1, s, h, hn => by
    have ih := qOz n
    have lo := h.lo
    refine qBn ?_
    unfold q5m
    generalize hT : cvP L (qDh (n + 1) s) = T
    rw [qDh] at hT
    refine qDj h hT (fun g1 _ hT => ?_) fun _ hT => isB h hT (fun _ _ hT => ?_) fun _ hT => ?_
    · have o1 := g1.o
      refine cqE g1.g hT fun s2 g2 o2 _ hT => cqV g2 hT (qMe g2) (q6n _) fun a s3 g3 hT => cqM g3.g hT fun s4 g4 hT => cqV g4.g hT (qMe g4.g) (q6n _) fun b s5 g5 hT => ?_
      have o3 := g3.o
      have o4 := g4.o
      have o5 := g5.o
      exact cqL g5.g (by omega) (by simp) hT fun b _ _ _ hT => hT
    · refine cqE h hT fun s1 g1 o1 _ hT => cqV g1 hT (q6o g1) (q0q _) fun v s2 g2 hT => cqM g2.g hT fun s3 g3 hT => cqV g3.g hT (qKh g3.g) (q6y _) fun a s4 g4 hT =>
        cqM g4.g hT fun s5 g5 hT => cqV g5.g hT (qKh g5.g) (q6y _) fun b s6 g6 hT => cqM g6.g hT fun s7 g7 hT => ?_
      have o2 := g2.o
      have o3 := g3.o
      have o4 := g4.o
      have o5 := g5.o
      have o6 := g6.o
      have o7 := g7.o
      have hL := g7.g.le
      have hM := g7.g.len
      refine qPq (fun ks n => ks.length + n <= 2000000) (fun m ks a' => bnd (q8b (qDh n) m ks a') fun q => bnd (q1q [(ByteArray.mk #[101, 110, 100]), (ByteArray.mk #[59])] q.2) fun s8 => .ok ({ GTree.zero with Kind := 40, Name := v, N := a, M := b, Kids := q.1 }, s8)) g7.g (by simp only [List.length_nil]; omega) (Nat.lt_succ_self _) hT ?_
      intro m ks a' k g o hP l hT hk
      rw [q8b] at hT
      simp only [q6s, q1b, q1z] at hT
      refine isNP g hT (fun _ _ hT => ?_) fun _ hT => ?_
      · exact cqL g (by omega) (by simp) hT fun b _ _ _ hT => hT
      · refine cqV g hT (ih a' g (by omega)) (qIf n _) fun e s8 g8 hT => AppP (by simp only [List.length_singleton]; omega) ?_
        have l8 := g8.l
        have o8 := g8.o
        exact hk _ _ g8.g (by omega) (by omega) (by simp only [List.length_append, List.length_singleton]; omega) hT
    · exact cqV h hT (qE4 hr h) (q15 62 _) fun a s1 g1 hT => cqM g1.g hT fun s2 g2 hT => cqV g2.g hT (qE4 hr g2.g) (q15 62 _) fun b s3 g3 hT => cqM g3.g hT fun s4 _ hT => hT
variable {mk : Int -> Int -> GRat} (hm : ∀ a d : Int, -64 <= a -> a <= 64 -> 1 <= d -> d <= 64 -> ∃ e, q77 a d (mk a d, e))
include hm
theorem qTm (h : Gd L s) : q4k (boxP L s) (cvP L (qFo mk s)) := by
  refine qBg ?_
  unfold q5g
  generalize hT : cvP L (qFo mk s) = T
  unfold qFo at hT
  have lo := h.lo
  refine qNn (L := L) (T := T) s.2 L.length (fun t s' => bnd (q0u (ByteArray.mk #[59]) s') fun s2 => .ok (t, s2)) ?_ fun t s' g _ _ hT => cqM g hT fun b _ hT => hT
  refine qDj h hT (fun g1 _ hT => ?_) fun _ hT => ?_
  · exact cqV g1.g hT (q6o g1.g) (q0q _) fun v s2 g2 hT => cqV g2.g hT (qOv hm g2.g) (qC4 mk _) fun d s3 g3 hT => cqM g3.g hT fun s4 g4 hT => cqV g4.g hT (qE4 hr g4.g) (q15 62 _) fun e s5 g5 hT =>
      ⟨s5, rfl, g5.g, by rw [g5.o, g4.o, g3.o, g2.o, g1.o], g5.g.le, hT⟩
  · refine ⟨fun x => x = (isP (ByteArray.mk #[118, 97, 114]) s || isP (ByteArray.mk #[102, 108, 111, 119]) s), Call.mk (qL1 h _) ?_, ?_⟩
    · cases hw : isP (ByteArray.mk #[118, 97, 114]) s with
      | true => exact Br.t rfl rfl
      | false => exact Br.f rfl (Call.mk (qL1 h _) rfl)
    · rintro _ rfl
      by_cases hc : isP (ByteArray.mk #[118, 97, 114]) s = true \/ isP (ByteArray.mk #[102, 108, 111, 119]) s = true
      · have hT := ifT hc hT
        have g1 : Gn L 1 s (q0i s) := h.gn (hc.elim q13 q13)
        refine Br.t (by rw [Bool.or_eq_true]; exact hc) (Call.mk (qL1 h _) (Let.as _ h.wr ?_))
        show CallX (q0d (boxP L (q0i s))) _ _
        exact cqV g1.g hT (q6o g1.g) (q0q _) fun v s2 g2 hT => cqV g2.g hT (qMf g2.g) (q9h _) fun n s3 g3 hT => cqV g3.g hT (qOv hm g3.g) (qC4 mk _) fun d s4 g4 hT =>
          ⟨s4, rfl, g4.g, by rw [g4.o, g3.o, g2.o, g1.o], g4.g.le, hT⟩
      · have hT := ifF hc hT
        refine Br.f (by rw [Bool.or_eq_false_iff]; exact ⟨by simpa using fun x => hc (.inl x), by simpa using fun x => hc (.inr x)⟩) ?_
        refine qDj h hT (fun g1 _ hT => ?_) fun _ hT => qDj h hT (fun g1 _ hT => ?_) fun _ hT => cqZ hT (qOz hr 62 s h (by omega))
        · exact cqV g1.g hT (qTl hr g1.g) (qNj _) fun t s2 g2 hT => ⟨s2, rfl, g2.g, by rw [g2.o, g1.o], g2.g.le, hT⟩
        · exact cqV g1.g hT (qRr hr g1.g) (qHg _) fun t s2 g2 hT => ⟨s2, rfl, g2.g, by rw [g2.o, g1.o], g2.g.le, hT⟩
theorem qMk (k : Int) (h : Gd L s) : q25 (boxP L s) k (cvP L (qC2 mk k s)) := by
 refine qAy ?_
 unfold q4w
 generalize hT : cvP L (qC2 mk k s) = T
 unfold qC2 at hT
 refine cqV h hT (q6o h) (q0q s) fun v s1 g1 hT => ?_
 have hL := g1.g.le
 have hM := g1.g.len
 refine qPq (fun ks n => ks.length + n <= 2000000) (fun m ks a' => bnd (qGj mk m ks a') fun q => bnd (q0u (ByteArray.mk #[59]) q.2) fun s2 => .ok ({ GTree.zero with Kind := 32, N := k, Name := v, Kids := q.1 }, s2)) g1.g (by simp only [List.length_nil]; omega) (Nat.lt_succ_self _) hT ?_
 intro m ks a' kk g o hP l hT hk
 rw [qGj] at hT
 simp only [q6s, q1b, q1z] at hT
 refine qRi g hT (fun g2 _ hT => ?_) fun _ hT => ?_
 ·exact cqM g2.g hT fun b _ hT => hT
 ·refine cqV g hT (qTm hr hm g) (qKz mk _) fun e s2 g2 hT => AppP (by simp only [List.length_singleton]; omega) ?_
  have l2 := g2.l
  have o2 := g2.o
  exact hk _ _ g2.g (by omega) (by omega) (by simp only [List.length_append, List.length_singleton]; omega) hT
theorem qTn (h : Gd L s) : q88 (boxP L s) (cvP L (qIc mk s)) := by
  refine qBl ?_
  unfold q5k
  generalize hT : cvP L (qIc mk s) = T
  unfold qIc at hT
  have hL := h.le
  have hM := h.len
  refine qPq (fun ks n => ks.length + n <= 2000000) (fun m ks a' => bnd (q6x mk m ks a') fun q => .ok (tk 30 q.1, q.2)) h (by simp only [List.length_nil]; omega) (Nat.lt_succ_self _) hT ?_
  intro m ks a' k g o hP l hT hk
  rw [q6x] at hT
  simp only [q6s, q1b, q1z, qRj] at hT
  refine Call.mk (qC7 g) ?_
  by_cases e : (hdT a'.1).Kind = 0
  · exact Br.f (by rw [e]; rfl) (ifT e hT)
  · have hT := ifF e hT
    refine Br.t (bne_iff_ne.2 e) (qDj g hT (fun g1 _ hT => ?_) fun _ hT => qDj g hT (fun g1 _ hT => ?_) fun _ hT => qDj g hT (fun g1 _ hT => ?_) fun _ hT => CallX.er (qIh g) hT)
    · unfold qRa at hT
      simp only [q6s, q1b, q1z] at hT
      have l1 := g1.l
      have o1 := g1.o
      refine cqV g1.g hT (q6o g1.g) (q0q _) fun v s2 g2 hT => ?_
      have l2 := g2.l
      have o2 := g2.o
      have fin : ∀ (u : GTree) (s3 : PS), Gd L s3 -> s3.2 = a'.2 -> s3.1.length <= a'.1.length - 2 -> cvP L (bnd (q0u (ByteArray.mk #[59]) s3) fun s4 => bnd (q6x mk m (ks ++ [u]) s4) fun q => .ok (tk 30 q.1, q.2)) = T ->
          CallX (q04 (boxP L s3) [(ByteArray.mk #[59])]) (fun e => Except.error e = T) fun x107 => App 104 ks [u] fun x108 => k x107 x108 := by
        intro u s3 g3 o3 l3 hT
        refine cqM g3 hT fun s4 g4 hT => AppP (by simp only [List.length_singleton]; omega) ?_
        have l4 := g4.l
        have o4 := g4.o
        exact hk _ _ g4.g (by omega) (by omega) (by simp only [List.length_append, List.length_singleton]; omega) hT
      have fj : ∀ b : (Gparseparser -> GTree -> Prop) -> Prop, b (JI L a'.2 (a'.1.length - 2) (fun r : GTree × PS => (r.1, boxP L r.2)) (fun u s3 => bnd (q0u (ByteArray.mk #[59]) s3) fun s4 => bnd (q6x mk m (ks ++ [u]) s4) fun q => .ok (tk 30 q.1, q.2)) T) ->
          q3r b fun p u => CallX (q04 p [(ByteArray.mk #[59])]) (fun e => Except.error e = T) fun x107 => App 104 ks [u] fun x108 => k x107 x108 :=
        fun b hb => qNn (L := L) (T := T) _ _ _ hb fun u s3 g3 o3 l3 hT => fin u s3 g3 o3 l3 hT
      cases hi : isP (ByteArray.mk #[61]) s2 with
      | true =>
        have hT := ifT hi hT
        have g3 := g2.g.gn (q13 hi)
        have l3 := g3.l
        have o3 := g3.o
        refine Call.mk (qEq g2.g hi) (fj _ (Br.t rfl (cqV g3.g hT (qUm hm g3.g) (qGk mk 62 _) fun d s4 g4 hT => ?_)))
        have l4 := g4.l
        have o4 := g4.o
        exact ⟨s4, rfl, g4.g, by omega, by omega, hT⟩
      | false => exact Call.mk (qEr g2.g hi) (fj _ (Br.f rfl ⟨s2, rfl, g2.g, by omega, by omega, ifF (by rw [hi]; decide) hT⟩))
    · refine cqV g1.g hT (qMk hr hm 1 g1.g) (qHh mk 1 _) fun c s2 g2 hT => AppP (by simp only [List.length_singleton]; omega) ?_
      have l1 := g1.l
      have o1 := g1.o
      have l2 := g2.l
      have o2 := g2.o
      exact hk _ _ g2.g (by omega) (by omega) (by simp only [List.length_append, List.length_singleton]; omega) hT
    · refine cqV g1.g hT (qMk hr hm 2 g1.g) (qHh mk 2 _) fun c s2 g2 hT => AppP (by simp only [List.length_singleton]; omega) ?_
      have l1 := g1.l
      have o1 := g1.o
      have l2 := g2.l
      have o2 := g2.o
      exact hk _ _ g2.g (by omega) (by omega) (by simp only [List.length_append, List.length_singleton]; omega) hT
end
end Go.Sim.YtifjflhnfjhijaaGreatDoor
