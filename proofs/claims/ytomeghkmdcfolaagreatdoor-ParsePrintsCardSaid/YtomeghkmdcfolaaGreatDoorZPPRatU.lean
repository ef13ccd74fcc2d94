/- What is proved: rat.Read yields something for every text (given what strings and strconv yield). -/
import Derived.Test.YtomeghkmdcfolaaGreatDoorZPPRatY

namespace Go.Sim.YtomeghkmdcfolaaGreatDoor
open Go.RowKit Go.Proofs Go.Proofs.Tryz
theorem AtS.head {b : UInt8} {l : List UInt8} {k : Int -> Prop} (hk : k ((b.toNat : Nat) : Int)) : AtS (bs (b :: l)) (0 : Int) k := AtS.nat (p := 0) (b := b) (by unfold bs; rfl) hk
abbrev noParts : ByteArray × Int × Int × Bool := (ByteArray.mk #[], 0, 0, false)
def expW (x10 : ByteArray) (x11 : Int) (x54 : ByteArray) (x55 : Int) (Q : ByteArray × Int × Int × Bool -> Prop) : Prop :=
 Call (Ev_rat_digits x54) fun x66 =>
 Br (decide (((x66.1.size : Nat) : Int) < (1 : Int))) (Q ((ByteArray.mk #[]), (0 : Int), (0 : Int), false)) (
  Br (decide (((x66.1.size : Nat) : Int) > (2 : Int))) (Q ((ByteArray.mk #[]), (0 : Int), (0 : Int), false)) (
   Br (!(x66.2.toList == (ByteArray.mk #[]).toList)) (Q ((ByteArray.mk #[]), (0 : Int), (0 : Int), false)) (
    Call (Ev_strconv_Atoi x66.1) fun x68 =>
    Let (IntKind.i64.wrap (x55 * x68.1)) fun x70 =>
    Q (x10, x11, x70, true))))
def PartsIs (S : Prop) (x10 : ByteArray) (x11 : Int) (r : ByteArray × Int × Int × Bool) : Prop := r = noParts \/ ∃ e : Int, r = (x10, x11, e, true) /\ -99 <= e /\ e <= 99 /\ S
def AllDig (u : List UInt8) : Prop := 1 <= span digitB u /\ u.drop (span digitB u) = []
def RestOk (u : List UInt8) : Prop := u = [] \/ ∃ (b : UInt8) (v w : List UInt8), u = b :: v /\ ((b.toNat : Int) = 101 \/ (b.toNat : Int) = 69) /\
 ((∃ a : UInt8, v = a :: w /\ ((a.toNat : Int) = 43 \/ (a.toNat : Int) = 45)) \/ (v = w /\ ¬ (peek v 0 = 43 \/ peek v 0 = 45))) /\ AllDig w
def PartsOk (l : List UInt8) : Prop := 1 <= span digitB l /\ ((peek l (span digitB l) = 46 /\ 1 <= span digitB (l.drop (span digitB l + 1)) /\ RestOk ((l.drop (span digitB l + 1)).drop (span digitB (l.drop (span digitB l + 1))))) \/ (peek l (span digitB l) ≠ 46 /\ RestOk (l.drop (span digitB l))))
theorem span_take (f : Int -> Bool) : ∀ l : List UInt8, span f (l.take (span f l)) = (l.take (span f l)).length
 | [] => rfl
 | b :: l => by
  by_cases h : f (b.toNat : Int) = true
  ·rw [show span f (b :: l) = span f l + 1 by rw [span, if_pos h], List.take_succ_cons]
   rw [show span f (b :: l.take (span f l)) = span f (l.take (span f l)) + 1 by rw [span, if_pos h], span_take f l]
   simp
  ·rw [show span f (b :: l) = 0 by rw [span, if_neg h]]; rfl
theorem exp_ev (h : StrOk) (x10 : ByteArray) (x11 : Int) {u : List UInt8} (hu : u.length <= 9223372036854775807) {x55 : Int} (hx : x55 = 1 \/ x55 = -1) : ∃ r, PartsIs (AllDig u) x10 x11 r /\ expW x10 x11 (bs u) x55 (fun r' => r' = r) := by
 have hd := digits_ev h hu
 have hl := span_le digitB u
 have st : (bs (u.take (span digitB u))).size = span digitB u := by rw [bs_size, List.length_take]; omega
 by_cases c1 : span digitB u < 1
 ·exact ⟨noParts, .inl rfl, Call.mk hd (Br.t (decide_eq_true (by rw [st]; omega)) rfl)⟩
 by_cases c2 : 2 < span digitB u
 ·exact ⟨noParts, .inl rfl, Call.mk hd (Br.f (decide_eq_false (by rw [st]; omega)) (Br.t (decide_eq_true (by rw [st]; omega)) rfl))⟩
 by_cases c3 : u.drop (span digitB u) = []
 ·obtain ⟨n, hn, n0, n1⟩ := h.atoi (u.take (span digitB u)) (by rw [List.length_take]; omega) (by rw [List.length_take]; omega) (span_take _ _)
  refine ⟨(x10, x11, x55 * n, true), .inr ⟨x55 * n, rfl, ?_, ?_, by omega, c3⟩, Call.mk hd (Br.f (decide_eq_false (by rw [st]; omega)) (Br.f (decide_eq_false (by rw [st]; omega)) (Br.f ?_ (Call.mk hn (Let.as (x55 * n) ?_ rfl)))))⟩
  ·rcases hx with rfl | rfl <;> omega
  ·rcases hx with rfl | rfl <;> omega
  ·show (!((bs (u.drop (span digitB u))).toList == (ByteArray.mk #[]).toList)) = false
   rw [bs_nil, decide_eq_true c3]; rfl
  ·rcases hx with rfl | rfl <;> exact wi (by show _ <= _ * n; omega) (by show _ * n < _; omega)
 ·refine ⟨noParts, .inl rfl, Call.mk hd (Br.f (decide_eq_false (by rw [st]; omega)) (Br.f (decide_eq_false (by rw [st]; omega)) (Br.t ?_ rfl)))⟩
  show (!((bs (u.drop (span digitB u))).toList == (ByteArray.mk #[]).toList)) = true
  rw [bs_nil, decide_eq_false c3]; rfl
def restW (x9 : ByteArray) (x10 : ByteArray) (x11 : Int) (Q : ByteArray × Int × Int × Bool -> Prop) : Prop :=
 Br (x9.toList == (ByteArray.mk #[]).toList) (Q (x10, x11, (0 : Int), true)) (
  Join1 (fun j23 =>
   AtS x9 (0 : Int) fun x25 =>
   Br (x25 != (101 : Int)) (
    AtS x9 (0 : Int) fun x28 =>
    j23 (x28 != (69 : Int))) (
    j23 false)
  ) (fun (x22 : Bool) =>
   Br x22 (Q ((ByteArray.mk #[]), (0 : Int), (0 : Int), false)) (
    SlS x9 (1 : Int) ((x9.size : Nat) : Int) fun x30 =>
    Join1 (fun j38 =>
     Br (!(x30.toList == (ByteArray.mk #[]).toList)) (
      AtS x30 (0 : Int) fun x40 =>
      Br (x40 == (43 : Int)) (j38 true) (
       AtS x30 (0 : Int) fun x43 =>
       j38 (x43 == (45 : Int)))) (
      j38 false)
    ) (fun (x37 : Bool) =>
     Join2 (fun j56 =>
      Br x37 (
       AtS x30 (0 : Int) fun x58 =>
       Join1 (fun j61 =>
        Br (x58 == (45 : Int)) (j61 (-1 : Int)) (
         j61 (1 : Int))
       ) (fun (x60 : Int) =>
        SlS x30 (1 : Int) ((x30.size : Nat) : Int) fun x62 =>
        j56 x62 x60)) (
       j56 x30 (1 : Int))
     ) (fun (x54 : ByteArray) (x55 : Int) => expW x10 x11 x54 x55 Q)))))
theorem rrest_ev (h : StrOk) (x10 : ByteArray) (x11 : Int) {u : List UInt8} (hu : u.length <= 9223372036854775807) : ∃ r, PartsIs (RestOk u) x10 x11 r /\ restW (bs u) x10 x11 (fun r' => r' = r) := by
  cases u with
  | nil => exact ⟨(x10, x11, 0, true), .inr ⟨0, rfl, by omega, by omega, .inl rfl⟩, Br.t (by rw [bs_nil]; rfl) rfl⟩
  | cons b u =>
    have hnil : ((bs (b :: u)).toList == (ByteArray.mk #[]).toList) = false := by rw [bs_nil]; exact decide_eq_false (by simp)
    by_cases c : (b.toNat : Int) = 101 \/ (b.toNat : Int) = 69
    · have join : ∀ k : Bool -> Prop, k false -> Join1 (fun j23 => AtS (bs (b :: u)) (0 : Int) fun x25 => Br (x25 != (101 : Int)) (AtS (bs (b :: u)) (0 : Int) fun x28 => j23 (x28 != (69 : Int))) (j23 false)) k := by
        intro k hk
        refine ⟨fun x => x = false, AtS.head ?_, fun x hx => by subst hx; exact hk⟩
        rcases c with c | c
        · exact Br.f (by rw [c]; rfl) rfl
        · exact Br.t (by rw [c]; rfl) (AtS.head (by rw [c]; rfl))
      have sl1 : ∀ {v : List UInt8} {a : UInt8} {k : ByteArray -> Prop}, k (bs v) -> SlS (bs (a :: v)) (1 : Int) ((bs (a :: v)).size : Int) k := fun {v a k} hk => SlS_from (l := a :: v) (p := 1) (by simp) hk
      cases u with
      | nil =>
        obtain ⟨r, r1, r2⟩ := exp_ev h x10 x11 (u := []) (by simp) (x55 := 1) (.inl rfl)
        refine ⟨r, r1.imp id fun ⟨e, e1, e2, e3, e4⟩ => ⟨e, e1, e2, e3, absurd e4.1 (by simp [span])⟩, Br.f hnil (join _ (Br.f rfl (sl1 ⟨fun x => x = false, ?_, ?_⟩)))⟩
        · exact Br.f (by rw [bs_nil]; rfl) rfl
        · rintro _ rfl
          exact ⟨fun a s => a = bs [] /\ s = 1, Br.f rfl ⟨rfl, rfl⟩, fun a s hs => by rw [hs.1, hs.2]; exact r2⟩
      | cons a v =>
        have hav : (!((bs (a :: v)).toList == (ByteArray.mk #[]).toList)) = true := by rw [bs_nil, decide_eq_false (by simp)]; rfl
        have hlen : v.length <= 9223372036854775807 := by simp at hu; omega
        by_cases c2 : (a.toNat : Int) = 43 \/ (a.toNat : Int) = 45
        · obtain ⟨sg, hsg, hsj⟩ : ∃ sg : Int, (sg = 1 \/ sg = -1) /\ ∀ k : Int -> Prop, k sg -> Join1 (fun j61 => Br ((a.toNat : Int) == (45 : Int)) (j61 (-1 : Int)) (j61 (1 : Int))) k := by
            by_cases c3 : (a.toNat : Int) = 45
            · exact ⟨-1, .inr rfl, fun k hk => ⟨fun x => x = -1, Br.t (by rw [c3]; rfl) rfl, fun x hx => by subst hx; exact hk⟩⟩
            · exact ⟨1, .inl rfl, fun k hk => ⟨fun x => x = 1, Br.f (beq_false_of_ne c3) rfl, fun x hx => by subst hx; exact hk⟩⟩
          obtain ⟨r, r1, r2⟩ := exp_ev h x10 x11 (u := v) hlen hsg
          refine ⟨r, r1.imp id fun ⟨e, e1, e2, e3, e4⟩ => ⟨e, e1, e2, e3, .inr ⟨b, a :: v, v, rfl, c, .inl ⟨a, rfl, c2⟩, e4⟩⟩, Br.f hnil (join _ (Br.f rfl (sl1 ⟨fun x => x = true, ?_, ?_⟩)))⟩
          · refine Br.t hav (AtS.head ?_)
            rcases c2 with c3 | c3
            · exact Br.t (by rw [c3]; rfl) rfl
            · exact Br.f (by rw [c3]; rfl) (AtS.head (by rw [c3]; rfl))
          · rintro _ rfl
            exact ⟨fun x s => x = bs v /\ s = sg, Br.t rfl (AtS.head (hsj _ (sl1 ⟨rfl, rfl⟩))), fun x s hs => by rw [hs.1, hs.2]; exact r2⟩
        · obtain ⟨r, r1, r2⟩ := exp_ev h x10 x11 (u := a :: v) (by simp at hu ⊢; omega) (x55 := 1) (.inl rfl)
          refine ⟨r, r1.imp id fun ⟨e, e1, e2, e3, e4⟩ => ⟨e, e1, e2, e3, .inr ⟨b, a :: v, a :: v, rfl, c, .inr ⟨rfl, c2⟩, e4⟩⟩, Br.f hnil (join _ (Br.f rfl (sl1 ⟨fun x => x = false, ?_, ?_⟩)))⟩
          · exact Br.t hav (AtS.head (Br.f (beq_false_of_ne fun e => c2 (.inl e)) (AtS.head (beq_false_of_ne fun e => c2 (.inr e)))))
          · rintro _ rfl
            exact ⟨fun x s => x = bs (a :: v) /\ s = 1, Br.f rfl ⟨rfl, rfl⟩, fun x s hs => by rw [hs.1, hs.2]; exact r2⟩
    · refine ⟨noParts, .inl rfl, Br.f hnil ⟨fun x => x = true, AtS.head (Br.t ?_ (AtS.head ?_)), ?_⟩⟩
      · show ((b.toNat : Int) != 101) = true
        simpa using fun e => c (.inl e)
      · show ((b.toNat : Int) != 69) = true
        simpa using fun e => c (.inr e)
      · rintro _ rfl
        exact Br.t rfl rfl
theorem bs_append (a b : List UInt8) : bs a ++ bs b = bs (a ++ b) := by
 apply ByteArray.ext
 rw [ByteArray.data_append]
 unfold bs
 simp
theorem parts_ev (h : StrOk) {l : List UInt8} (hl : l.length <= 9223372036854775807) : ∃ r : ByteArray × Int × Int × Bool, Ev_rat_parts (bs l) r /\ (r = noParts \/ ∃ (a : List UInt8) (c e : Int), r = (bs a, c, e, true) /\ a.length <= 80 /\ 0 <= c /\ c <= 40 /\ -99 <= e /\ e <= 99 /\ PartsOk l) := by
 suffices hs : ∃ r : ByteArray × Int × Int × Bool, W_rat_parts (bs l) (fun r' => r' = r) /\ (r = noParts \/ ∃ (a : List UInt8) (c e : Int), r = (bs a, c, e, true) /\ a.length <= 80 /\ 0 <= c /\ c <= 40 /\ -99 <= e /\ e <= 99 /\ PartsOk l) by
  obtain ⟨r, h1, h2⟩ := hs; exact ⟨r, walk_rat_parts h1, h2⟩
 unfold W_rat_parts
 have hd := digits_ev h hl
 have hsp := span_le digitB l
 obtain ⟨n, hn⟩ : ∃ n, n = span digitB l := ⟨_, rfl⟩
 rw [← hn] at hd hsp
 have st : (bs (l.take n)).size = n := by rw [bs_size, List.length_take]; omega
 by_cases c1 : n < 1
 ·exact ⟨noParts, Call.mk hd (Br.t (decide_eq_true (by rw [st]; omega)) rfl), .inl rfl⟩
 by_cases c2 : 40 < n
 ·exact ⟨noParts, Call.mk hd (Br.f (decide_eq_false (by rw [st]; omega)) (Br.t (decide_eq_true (by rw [st]; omega)) rfl)), .inl rfl⟩
 obtain ⟨u, b, hu, hcut, hub, hub2⟩ := cut_ev (l.drop n) (by rw [List.length_drop]; omega)
 rw [List.length_drop] at hu
 have fin : ∀ {S : Prop} {a : List UInt8} {c : Int} {r : ByteArray × Int × Int × Bool}, (S -> PartsOk l) -> a.length <= 80 -> 0 <= c -> c <= 40 -> PartsIs S (bs a) c r -> (r = noParts \/ ∃ (a : List UInt8) (c e : Int), r = (bs a, c, e, true) /\ a.length <= 80 /\ 0 <= c /\ c <= 40 /\ -99 <= e /\ e <= 99 /\ PartsOk l) := by
  intro S a c r hS ha h0 h1 hp
  rcases hp with hp | ⟨e, he, e0, e1, e2⟩
  ·exact .inl hp
  ·exact .inr ⟨a, c, e, he, ha, h0, h1, e0, e1, hS e2⟩
 cases b with
 | true =>
  have hd2 := digits_ev h (l := u) (by omega)
  have hsp2 := span_le digitB u
  obtain ⟨m, hm⟩ : ∃ m, m = span digitB u := ⟨_, rfl⟩
  rw [← hm] at hd2 hsp2
  have st2 : (bs (u.take m)).size = m := by rw [bs_size, List.length_take]; omega
  by_cases c3 : m < 1
  ·exact ⟨noParts, Call.mk hd (Br.f (decide_eq_false (by rw [st]; omega)) (Br.f (decide_eq_false (by rw [st]; omega)) (Call.mk hcut ⟨fun _ _ _ => False, Br.t rfl (Call.mk hd2 (Br.t (decide_eq_true (by rw [st2]; omega)) rfl)), fun _ _ _ h => h.elim⟩))), .inl rfl⟩
  by_cases c4 : 40 < m
  ·exact ⟨noParts, Call.mk hd (Br.f (decide_eq_false (by rw [st]; omega)) (Br.f (decide_eq_false (by rw [st]; omega)) (Call.mk hcut ⟨fun _ _ _ => False, Br.t rfl (Call.mk hd2 (Br.f (decide_eq_false (by rw [st2]; omega)) (Br.t (decide_eq_true (by rw [st2]; omega)) rfl))), fun _ _ _ h => h.elim⟩))), .inl rfl⟩
  obtain ⟨r, r1, r2⟩ := rrest_ev h (bs (l.take n ++ u.take m)) ((m : Nat) : Int) (u := u.drop m) (by rw [List.length_drop]; omega)
  refine ⟨r, Call.mk hd (Br.f (decide_eq_false (by rw [st]; omega)) (Br.f (decide_eq_false (by rw [st]; omega)) (Call.mk hcut ⟨fun x y z => x = bs (u.drop m) /\ y = bs (l.take n ++ u.take m) /\ z = ((m : Nat) : Int), ?_, ?_⟩))), fin (fun hS => ⟨by omega, .inl (by obtain ⟨g1, g2⟩ := hub rfl; rw [← hn]; rw [List.drop_drop] at g2; rw [peek_drop, Nat.add_zero] at g1; rw [g2, ← hm]; exact ⟨g1, by omega, hS⟩)⟩) (by simp; omega) (by omega) (by omega) r1⟩
  ·refine Br.t rfl (Call.mk hd2 (Br.f (decide_eq_false (by rw [st2]; omega)) (Br.f (decide_eq_false (by rw [st2]; omega)) ⟨by rw [st, st2]; omega, Let.as (bs (l.take n ++ u.take m)) (bs_append _ _) ⟨rfl, rfl, by rw [st2]⟩⟩)))
  ·rintro _ _ _ ⟨rfl, rfl, rfl⟩; exact r2
 | false =>
  obtain ⟨r, r1, r2⟩ := rrest_ev h (bs (l.take n)) 0 (u := l.drop n) (by rw [List.length_drop]; omega)
  refine ⟨r, Call.mk hd (Br.f (decide_eq_false (by rw [st]; omega)) (Br.f (decide_eq_false (by rw [st]; omega)) (Call.mk hcut ⟨fun x y z => x = bs (l.drop n) /\ y = bs (l.take n) /\ z = 0, Br.f rfl ⟨rfl, rfl, rfl⟩, ?_⟩))), fin (fun hS => ⟨by omega, .inr (by have g1 := hub2 rfl; rw [← hn]; rw [peek_drop, Nat.add_zero] at g1; exact ⟨g1, hS⟩)⟩) (by simp; omega) (by omega) (by omega) r1⟩
  rintro _ _ _ ⟨rfl, rfl, rfl⟩; exact r2
def offF : Nat -> List UInt8 -> Int -> List UInt8 × Int
 | 0, a, e => (a, e)
 | k + 1, a, e => if a ≠ [] /\ (a.getD (a.length - 1) 0).toNat = 48 then offF k (a.take (a.length - 1)) (e + 1) else (a, e)
theorem offF_le : ∀ (k : Nat) (a : List UInt8) (e : Int), (offF k a e).1.length <= a.length /\ e <= (offF k a e).2 /\ (offF k a e).2 <= e + k
 | 0, a, e => ⟨Nat.le_refl _, Int.le_refl _, by simp [offF]⟩
 | k + 1, a, e => by
  unfold offF
  split
  ·have := offF_le k (a.take (a.length - 1)) (e + 1)
   rw [List.length_take] at this
   refine ⟨by omega, by omega, by omega⟩
  ·exact ⟨Nat.le_refl _, Int.le_refl _, by show e <= e + ((k + 1 : Nat) : Int); omega⟩
theorem off_ev {a1 a2 : List UInt8} {e1 e2 : Int} (l1 : a1.length <= 80) (b0 : -200 <= e1) (b1 : e1 <= 400 - a1.length) (ha2 : a2 = (offF a1.length a1 e1).1) (he2 : e2 = (offF a1.length a1 e1).2) :
    Loop2 (bs a1) e1 (fun (all56 : ByteArray) (e57 : Int) next58 =>
      Br (decide (((all56.size : Nat) : Int) > (0 : Int))) (
        Let (IntKind.i64.wrap (((all56.size : Nat) : Int) - (1 : Int))) fun x63 =>
        AtS all56 x63 fun x65 =>
        Br (x65 == (48 : Int)) (
          Let (IntKind.i64.wrap (((all56.size : Nat) : Int) - (1 : Int))) fun x67 =>
          SlS all56 (0 : Int) x67 fun x68 =>
          Let (IntKind.i64.wrap (e57 + (1 : Int))) fun x69 =>
          next58 x68 x69) (
          all56 = bs a2 /\ e57 = e2)) (
        all56 = bs a2 /\ e57 = e2)) := by
  refine ⟨fun x y => ∃ (k : Nat) (b : List UInt8), x = bs b /\ b.length <= k /\ k <= 80 /\ -200 <= y /\ y <= 400 - k /\ offF k b y = offF a1.length a1 e1, fun x _ => x.size, ⟨a1.length, a1, rfl, Nat.le_refl _, l1, b0, b1, rfl⟩, ?_⟩
  rintro _ y ⟨k, b, rfl, hb, hk, y0, y1, he⟩
  have done : b = [] \/ (b.getD (b.length - 1) 0).toNat ≠ 48 -> bs b = bs a2 /\ y = e2 := by
    intro hor
    have : offF k b y = (b, y) := by
      cases k with
      | zero => rfl
      | succ k => rw [offF, if_neg (by rintro ⟨g1, g2⟩; exact hor.elim g1 (fun g => g g2))]
    rw [this] at he
    rw [ha2, he2, ← he]; exact ⟨rfl, rfl⟩
  refine Br.d (fun g => ?_) (fun g => done (.inl ?_))
  · rw [bs_size] at g
    have hlt : b.length - 1 < b.length := by omega
    refine Let.as ((b.length - 1 : Nat) : Int) (by rw [bs_size, wi (by omega) (by omega)]; omega) ?_
    have hget : (bs b)[b.length - 1]? = some (b[b.length - 1]) := by
      show (if hh : b.length - 1 < (bs b).size then some (bs b)[b.length - 1] else none) = _
      rw [dif_pos (by rw [bs_size]; exact hlt)]
      rfl
    have hgd : b.getD (b.length - 1) 0 = b[b.length - 1] := by simp [List.getD, List.getElem?_eq_getElem hlt]
    refine AtS.nat hget (Br.e (fun g1 => ?_) (fun g1 => done (.inr (by rw [hgd]; omega))))
    cases k with
    | zero => omega
    | succ k =>
      rw [offF, if_pos ⟨fun hn => by rw [hn] at hlt; simp at hlt, by rw [hgd]; omega⟩] at he
      refine Let.as ((b.length - 1 : Nat) : Int) (by rw [bs_size, wi (by omega) (by omega)]; omega) ?_
      have sl := SlS.tl (s := bs b) (p := 0) (n := b.length - 1) (k := fun x68 => Let (IntKind.i64.wrap (y + (1 : Int))) fun x69 =>
        (∃ (k : Nat) (b : List UInt8), x68 = bs b /\ b.length <= k /\ k <= 80 /\ -200 <= x69 /\ x69 <= 400 - k /\ offF k b x69 = offF a1.length a1 e1) /\ x68.size < (bs b).size) (by rw [bs_size]; omega)
        (by
          rw [tl_bs]
          refine Let.as (y + 1) (wi (by omega) (by omega)) ⟨⟨k, b.take (b.length - 1), rfl, by rw [List.length_take]; omega, by omega, by omega, by omega, he⟩, by rw [bs_size, bs_size, List.length_take]; omega⟩)
      rw [Nat.zero_add] at sl
      exact sl
  · rw [bs_size] at g
    exact List.eq_nil_of_length_eq_zero (by omega)
theorem read_ev (h : StrOk) {l : List UInt8} (hl : l.length <= 9223372036854775807) : ∃ r, Ev_rat_Read (bs l) r /\ (r.2 = 0 -> PartsOk l) := by
 obtain ⟨r, hp, hr⟩ := parts_ev h hl
 rcases hr with rfl | ⟨a, c, e, rfl, ha, c0, c1, e0, e1, hok⟩
 ·refine ⟨(GRat.zero, 110), walk_rat_Read ?_, fun h => by simp at h⟩
  unfold W_rat_Read
  exact Call.mk hp (Br.t rfl rfl)
 have t0 := h.t0 (bs a) (by rw [bs_size]; omega)
 rw [tl_bs] at t0
 obtain ⟨a1, ha1⟩ : ∃ a1, a1 = a.drop (span zeroB a) := ⟨_, rfl⟩
 have l1 : a1.length <= 80 := by rw [ha1, List.length_drop]; omega
 rw [← ha1] at t0
 have ho := offF_le a1.length a1 (e - c)
 obtain ⟨a2, ha2⟩ : ∃ a2, a2 = (offF a1.length a1 (e - c)).1 := ⟨_, rfl⟩
 obtain ⟨e2, he2⟩ : ∃ e2, e2 = (offF a1.length a1 (e - c)).2 := ⟨_, rfl⟩
 rw [← ha2, ← he2] at ho
 obtain ⟨r, hrr⟩ : ∃ r : GRat × Int, ∀ Q : GRat × Int -> Prop, Q r -> Br ((bs a2).toList == (ByteArray.mk #[]).toList) (Q (({ GRat.zero with D := (1 : Int) }), (0 : Int))) (Call (Ev_rat_scaled (bs a2) e2) fun x74 => Q (x74.1, x74.2)) := by
  by_cases hz : a2 = []
  ·exact ⟨_, fun Q hQ => Br.t (by rw [bs_nil]; exact decide_eq_true hz) hQ⟩
  ·obtain ⟨r, hsc⟩ := scaled_ev h (l := a2) (by cases a2 with | nil => exact absurd rfl hz | cons => simp) (by omega) (e := e2) ⟨by omega, by omega⟩
   exact ⟨r, fun Q hQ => Br.f (by rw [bs_nil]; exact decide_eq_false hz) (Call.mk hsc hQ)⟩
 refine ⟨r, walk_rat_Read ?_, fun _ => hok⟩
 unfold W_rat_Read
 refine Call.mk hp (Br.f rfl (Let.as (e - c) (wi (by show _ <= e - c; omega) (by show e - c < _; omega)) (Call.mk t0 ⟨fun x y => x = bs a2 /\ y = e2, ?_, fun x y hxy => by rw [hxy.1, hxy.2]; exact hrr (fun r' => r' = r) rfl⟩)))
 exact off_ev l1 (by omega) (by omega) ha2 he2
end Go.Sim.YtomeghkmdcfolaaGreatDoor
