/- What is proved: the parser's methods for rules, classes and files read what the plain functions read. -/
import Derived.Test.YtnnfiohdkobkdaaGreatDoorZZPLPevB

namespace Go.Sim.YtnnfiohdkobkdaaGreatDoor
open Go.RowKit Go.Proofs Go.Proofs.Tryz
variable {L : List GToken} {s : PS}
section
variable (hr : ∀ a : GRat, a.ok → Ev_rat_Right a a.right)
include hr
theorem partP_ev (h : Gd L s) : Ev_parse_parser_part (boxP L s) (cvP L (partP s)) := by
  refine walk_parse_parser_part ?_
  unfold W_parse_parser_part
  generalize hT : cvP L (partP s) = T
  unfold partP at hT
  refine cqV h hT (nameP_ev h) (name_go s) fun v s1 g1 hT => cqV g1.g hT (arrayP_ev g1.g) (array_go _) fun n s2 g2 hT => cqM g2.g hT fun s3 g3 hT => cqV g3.g hT (nameP_ev g3.g) (name_go _) fun a s4 g4 hT => ?_
  refine isNP g4.g hT (fun _ _ hT => ?_) fun _ hT => hT
  refine cqE g4.g hT fun s5 g5 o5 l5 hT => ?_
  have lo := g4.g.lo
  have hL := g5.le
  have hM := g5.len
  refine LoopP (fun ks n => ks.length + n ≤ 2000000) (fun m ks a' => bnd (modsP m ks a') fun q => bnd (leaveP [(ByteArray.mk #[41])] q.2) fun s6 => .ok ({ GTree.zero with Kind := 35, Name := v, N := n, Alias := a, Kids := q.1 }, s6)) g5 (by simp only [List.length_nil]; omega) (Nat.lt_succ_self _) hT ?_
  intro m ks a' k g o hP l hT hk
  rw [modsP] at hT
  simp only [bnd_ite, bnd_bnd, bnd_pure] at hT
  refine cqV g hT (nameP_ev g) (name_go _) fun w s6 g6 hT => cqM g6.g hT fun s7 g7 hT => cqV g7.g hT (expr_ev hr g7.g) (expr_go 62 _) fun e s8 g8 hT => AppP (by simp only [List.length_singleton]; omega) ?_
  have l6 := g6.l
  have l7 := g7.l
  have l8 := g8.l
  have o6 := g6.o
  have o7 := g7.o
  have o8 := g8.o
  refine takeN g8.g hT (fun g9 _ hT => ?_) fun _ hT => ?_
  · have o9 := g9.o
    have l9 := g9.l
    exact hk _ _ g9.g (by omega) (by omega) (by simp only [List.length_append, List.length_singleton]; omega) hT
  · exact cqL g8.g (by omega) (by simp) hT fun b _ _ _ hT => hT
theorem startP_ev (h : Gd L s) : Ev_parse_parser_start (boxP L s) (cvP L (startP s)) := by
  refine walk_parse_parser_start ?_
  unfold W_parse_parser_start
  generalize hT : cvP L (startP s) = T
  unfold startP at hT
  simp only [bnd_ite] at hT
  refine Call.mk (is_ev h _) ?_
  refine JoinP (L := L) (T := T) s.2 L.length (fun o s' => if isP (ByteArray.mk #[61]) s' = true then bnd (exprP 62 (nextP s')) fun e => .ok (tk 37 [o, e.1, e.1], e.2)
    else bnd (mustsP [(ByteArray.mk #[105, 110]), (ByteArray.mk #[91])] s') fun s1 => bnd (exprP 62 s1) fun a => bnd (mustP (ByteArray.mk #[44]) a.2) fun s2 => bnd (exprP 62 s2) fun b => bnd (mustP (ByteArray.mk #[93]) b.2) fun s3 => .ok (tk 37 [o, a.1, b.1], s3)) ?_ fun t s' g o l hT => ?_
  · cases hi : isP (ByteArray.mk #[100, 101, 114]) s with
    | true => exact Br.t rfl (cqV h (ifT hi hT) (der_ev h) (der_go s) fun a b g hT => ⟨b, rfl, g.g, g.o, g.g.le, hT⟩)
    | false => exact Br.f rfl (cqV h (ifF (by rw [hi]; decide) hT) (ref_ev h) (ref_go s) fun a b g hT => ⟨b, rfl, g.g, g.o, g.g.le, hT⟩)
  · refine takeB g hT (fun g1 _ hT => cqV g1.g hT (expr_ev hr g1.g) (expr_go 62 _) fun a b _ hT => hT) fun _ hT => ?_
    exact cqU g hT (must_ev g (by simp)) (musts_go _ _) fun s1 g1 hT => cqV g1.g hT (expr_ev hr g1.g) (expr_go 62 _) fun a s2 g2 hT => cqM g2.g hT fun s3 g3 hT => cqV g3.g hT (expr_ev hr g3.g) (expr_go 62 _) fun b s4 g4 hT => cqM g4.g hT fun s5 _ hT => hT
theorem ruleP_ev : ∀ (n : Nat) (s : PS), Gd L s → 61 ≤ (n : Int) + s.2 → Ev_parse_parser_rule (boxP L s) (cvP L (ruleP n s))
  | 0, s, h, hn => by have := h.hi; omega
  | n + 1, s, h, hn => by
    have ih := ruleP_ev n
    have lo := h.lo
    refine walk_parse_parser_rule ?_
    unfold W_parse_parser_rule
    generalize hT : cvP L (ruleP (n + 1) s) = T
    rw [ruleP] at hT
    refine takeB h hT (fun g1 _ hT => ?_) fun _ hT => isB h hT (fun _ _ hT => ?_) fun _ hT => ?_
    · have o1 := g1.o
      refine cqE g1.g hT fun s2 g2 o2 _ hT => cqV g2 hT (ref_ev g2) (ref_go _) fun a s3 g3 hT => cqM g3.g hT fun s4 g4 hT => cqV g4.g hT (ref_ev g4.g) (ref_go _) fun b s5 g5 hT => ?_
      have o3 := g3.o
      have o4 := g4.o
      have o5 := g5.o
      exact cqL g5.g (by omega) (by simp) hT fun b _ _ _ hT => hT
    · refine cqE h hT fun s1 g1 o1 _ hT => cqV g1 hT (nameP_ev g1) (name_go _) fun v s2 g2 hT => cqM g2.g hT fun s3 g3 hT => cqV g3.g hT (int_ev g3.g) (int_go _) fun a s4 g4 hT =>
        cqM g4.g hT fun s5 g5 hT => cqV g5.g hT (int_ev g5.g) (int_go _) fun b s6 g6 hT => cqM g6.g hT fun s7 g7 hT => ?_
      have o2 := g2.o
      have o3 := g3.o
      have o4 := g4.o
      have o5 := g5.o
      have o6 := g6.o
      have o7 := g7.o
      have hL := g7.g.le
      have hM := g7.g.len
      refine LoopP (fun ks n => ks.length + n ≤ 2000000) (fun m ks a' => bnd (rulesP (ruleP n) m ks a') fun q => bnd (leaveP [(ByteArray.mk #[101, 110, 100]), (ByteArray.mk #[59])] q.2) fun s8 => .ok ({ GTree.zero with Kind := 40, Name := v, N := a, M := b, Kids := q.1 }, s8)) g7.g (by simp only [List.length_nil]; omega) (Nat.lt_succ_self _) hT ?_
      intro m ks a' k g o hP l hT hk
      rw [rulesP] at hT
      simp only [bnd_ite, bnd_bnd, bnd_pure] at hT
      refine isNP g hT (fun _ _ hT => ?_) fun _ hT => ?_
      · exact cqL g (by omega) (by simp) hT fun b _ _ _ hT => hT
      · refine cqV g hT (ih a' g (by omega)) (rule_go n _) fun e s8 g8 hT => AppP (by simp only [List.length_singleton]; omega) ?_
        have l8 := g8.l
        have o8 := g8.o
        exact hk _ _ g8.g (by omega) (by omega) (by simp only [List.length_append, List.length_singleton]; omega) hT
    · exact cqV h hT (expr_ev hr h) (expr_go 62 _) fun a s1 g1 hT => cqM g1.g hT fun s2 g2 hT => cqV g2.g hT (expr_ev hr g2.g) (expr_go 62 _) fun b s3 g3 hT => cqM g3.g hT fun s4 _ hT => hT
variable {mk : Int → Int → GRat} (hm : ∀ a d : Int, -64 ≤ a → a ≤ 64 → 1 ≤ d → d ≤ 64 → ∃ e, Ev_rat_Make a d (mk a d, e))
include hm
theorem itemP_ev (h : Gd L s) : Ev_parse_parser_item (boxP L s) (cvP L (itemP mk s)) := by
  refine walk_parse_parser_item ?_
  unfold W_parse_parser_item
  generalize hT : cvP L (itemP mk s) = T
  unfold itemP at hT
  have lo := h.lo
  refine JoinP (L := L) (T := T) s.2 L.length (fun t s' => bnd (mustP (ByteArray.mk #[59]) s') fun s2 => .ok (t, s2)) ?_ fun t s' g _ _ hT => cqM g hT fun b _ hT => hT
  refine takeB h hT (fun g1 _ hT => ?_) fun _ hT => ?_
  · exact cqV g1.g hT (nameP_ev g1.g) (name_go _) fun v s2 g2 hT => cqV g2.g hT (kindP_ev hm g2.g) (kind_go mk _) fun d s3 g3 hT => cqM g3.g hT fun s4 g4 hT => cqV g4.g hT (expr_ev hr g4.g) (expr_go 62 _) fun e s5 g5 hT =>
      ⟨s5, rfl, g5.g, by rw [g5.o, g4.o, g3.o, g2.o, g1.o], g5.g.le, hT⟩
  · refine ⟨fun x => x = (isP (ByteArray.mk #[118, 97, 114]) s || isP (ByteArray.mk #[102, 108, 111, 119]) s), Call.mk (is_ev h _) ?_, ?_⟩
    · cases hw : isP (ByteArray.mk #[118, 97, 114]) s with
      | true => exact Br.t rfl rfl
      | false => exact Br.f rfl (Call.mk (is_ev h _) rfl)
    · rintro _ rfl
      by_cases hc : isP (ByteArray.mk #[118, 97, 114]) s = true ∨ isP (ByteArray.mk #[102, 108, 111, 119]) s = true
      · have hT := ifT hc hT
        have g1 : Gn L 1 s (nextP s) := h.gn (hc.elim is_go is_go)
        refine Br.t (by rw [Bool.or_eq_true]; exact hc) (Call.mk (is_ev h _) (Let.as _ h.wr ?_))
        show CallX (Ev_parse_parser_name (boxP L (nextP s))) _ _
        exact cqV g1.g hT (nameP_ev g1.g) (name_go _) fun v s2 g2 hT => cqV g2.g hT (arrayP_ev g2.g) (array_go _) fun n s3 g3 hT => cqV g3.g hT (kindP_ev hm g3.g) (kind_go mk _) fun d s4 g4 hT =>
          ⟨s4, rfl, g4.g, by rw [g4.o, g3.o, g2.o, g1.o], g4.g.le, hT⟩
      · have hT := ifF hc hT
        refine Br.f (by rw [Bool.or_eq_false_iff]; exact ⟨by simpa using fun x => hc (.inl x), by simpa using fun x => hc (.inr x)⟩) ?_
        refine takeB h hT (fun g1 _ hT => ?_) fun _ hT => takeB h hT (fun g1 _ hT => ?_) fun _ hT => cqZ hT (ruleP_ev hr 62 s h (by omega))
        · exact cqV g1.g hT (partP_ev hr g1.g) (part_go _) fun t s2 g2 hT => ⟨s2, rfl, g2.g, by rw [g2.o, g1.o], g2.g.le, hT⟩
        · exact cqV g1.g hT (startP_ev hr g1.g) (start_go _) fun t s2 g2 hT => ⟨s2, rfl, g2.g, by rw [g2.o, g1.o], g2.g.le, hT⟩
theorem classP_ev (k : Int) (h : Gd L s) : Ev_parse_parser_class (boxP L s) k (cvP L (classP mk k s)) := by
  refine walk_parse_parser_class ?_
  unfold W_parse_parser_class
  generalize hT : cvP L (classP mk k s) = T
  unfold classP at hT
  refine cqV h hT (nameP_ev h) (name_go s) fun v s1 g1 hT => ?_
  have hL := g1.g.le
  have hM := g1.g.len
  refine LoopP (fun ks n => ks.length + n ≤ 2000000) (fun m ks a' => bnd (itemsP mk m ks a') fun q => bnd (mustP (ByteArray.mk #[59]) q.2) fun s2 => .ok ({ GTree.zero with Kind := 32, N := k, Name := v, Kids := q.1 }, s2)) g1.g (by simp only [List.length_nil]; omega) (Nat.lt_succ_self _) hT ?_
  intro m ks a' kk g o hP l hT hk
  rw [itemsP] at hT
  simp only [bnd_ite, bnd_bnd, bnd_pure] at hT
  refine takeN g hT (fun g2 _ hT => ?_) fun _ hT => ?_
  · exact cqM g2.g hT fun b _ hT => hT
  · refine cqV g hT (itemP_ev hr hm g) (item_go mk _) fun e s2 g2 hT => AppP (by simp only [List.length_singleton]; omega) ?_
    have l2 := g2.l
    have o2 := g2.o
    exact hk _ _ g2.g (by omega) (by omega) (by simp only [List.length_append, List.length_singleton]; omega) hT
theorem fileP_ev (h : Gd L s) : Ev_parse_parser_file (boxP L s) (cvP L (fileP mk s)) := by
  refine walk_parse_parser_file ?_
  unfold W_parse_parser_file
  generalize hT : cvP L (fileP mk s) = T
  unfold fileP at hT
  have hL := h.le
  have hM := h.len
  refine LoopP (fun ks n => ks.length + n ≤ 2000000) (fun m ks a' => bnd (filesP mk m ks a') fun q => .ok (tk 30 q.1, q.2)) h (by simp only [List.length_nil]; omega) (Nat.lt_succ_self _) hT ?_
  intro m ks a' k g o hP l hT hk
  rw [filesP] at hT
  simp only [bnd_ite, bnd_bnd, bnd_pure, bnd_err] at hT
  refine Call.mk (now_ev g) ?_
  by_cases e : (hdT a'.1).Kind = 0
  · exact Br.f (by rw [e]; rfl) (ifT e hT)
  · have hT := ifF e hT
    refine Br.t (bne_iff_ne.2 e) (takeB g hT (fun g1 _ hT => ?_) fun _ hT => takeB g hT (fun g1 _ hT => ?_) fun _ hT => takeB g hT (fun g1 _ hT => ?_) fun _ hT => CallX.er (fail_ev g) hT)
    · unfold unitP at hT
      simp only [bnd_ite, bnd_bnd, bnd_pure] at hT
      have l1 := g1.l
      have o1 := g1.o
      refine cqV g1.g hT (nameP_ev g1.g) (name_go _) fun v s2 g2 hT => ?_
      have l2 := g2.l
      have o2 := g2.o
      have fin : ∀ (u : GTree) (s3 : PS), Gd L s3 → s3.2 = a'.2 → s3.1.length ≤ a'.1.length - 2 → cvP L (bnd (mustP (ByteArray.mk #[59]) s3) fun s4 => bnd (filesP mk m (ks ++ [u]) s4) fun q => .ok (tk 30 q.1, q.2)) = T →
          CallX (Ev_parse_parser_must (boxP L s3) [(ByteArray.mk #[59])]) (fun e => Except.error e = T) fun x107 => App 104 ks [u] fun x108 => k x107 x108 := by
        intro u s3 g3 o3 l3 hT
        refine cqM g3 hT fun s4 g4 hT => AppP (by simp only [List.length_singleton]; omega) ?_
        have l4 := g4.l
        have o4 := g4.o
        exact hk _ _ g4.g (by omega) (by omega) (by simp only [List.length_append, List.length_singleton]; omega) hT
      have fj : ∀ b : (Gparseparser → GTree → Prop) → Prop, b (JI L a'.2 (a'.1.length - 2) (fun r : GTree × PS => (r.1, boxP L r.2)) (fun u s3 => bnd (mustP (ByteArray.mk #[59]) s3) fun s4 => bnd (filesP mk m (ks ++ [u]) s4) fun q => .ok (tk 30 q.1, q.2)) T) →
          Join2 b fun p u => CallX (Ev_parse_parser_must p [(ByteArray.mk #[59])]) (fun e => Except.error e = T) fun x107 => App 104 ks [u] fun x108 => k x107 x108 :=
        fun b hb => JoinP (L := L) (T := T) _ _ _ hb fun u s3 g3 o3 l3 hT => fin u s3 g3 o3 l3 hT
      cases hi : isP (ByteArray.mk #[61]) s2 with
      | true =>
        have hT := ifT hi hT
        have g3 := g2.g.gn (is_go hi)
        have l3 := g3.l
        have o3 := g3.o
        refine Call.mk (take_evT g2.g hi) (fj _ (Br.t rfl (cqV g3.g hT (dim_ev hm g3.g) (dim_go mk 62 _) fun d s4 g4 hT => ?_)))
        have l4 := g4.l
        have o4 := g4.o
        exact ⟨s4, rfl, g4.g, by omega, by omega, hT⟩
      | false => exact Call.mk (take_evF g2.g hi) (fj _ (Br.f rfl ⟨s2, rfl, g2.g, by omega, by omega, ifF (by rw [hi]; decide) hT⟩))
    · refine cqV g1.g hT (classP_ev hr hm 1 g1.g) (class_go mk 1 _) fun c s2 g2 hT => AppP (by simp only [List.length_singleton]; omega) ?_
      have l1 := g1.l
      have o1 := g1.o
      have l2 := g2.l
      have o2 := g2.o
      exact hk _ _ g2.g (by omega) (by omega) (by simp only [List.length_append, List.length_singleton]; omega) hT
    · refine cqV g1.g hT (classP_ev hr hm 2 g1.g) (class_go mk 2 _) fun c s2 g2 hT => AppP (by simp only [List.length_singleton]; omega) ?_
      have l1 := g1.l
      have o1 := g1.o
      have l2 := g2.l
      have o2 := g2.o
      exact hk _ _ g2.g (by omega) (by omega) (by simp only [List.length_append, List.length_singleton]; omega) hT
end
end Go.Sim.YtnnfiohdkobkdaaGreatDoor
