/- What is proved: rat.Read yields just the number that a text writes (given what strings and strconv yield). -/
import Derived.Test.YtnnfiohdkobkdaaGreatDoorZZPLDigV
import Derived.Test.YtnnfiohdkobkdaaGreatDoorZZPLRatS

namespace Go.Sim.YtnnfiohdkobkdaaGreatDoor
open Go.RowKit Go.Proofs Go.Proofs.Tryz
/-- The number that digits write. -/
def dvB (l : List UInt8) : Nat := dvA 0 (l.map fun b => (b.toNat : Int))
/-- What is asked of the library, exactly. -/
structure StrOkX : Prop where
  ok : StrOk
  atoi : ∀ l : List UInt8, 1 ≤ l.length → l.length ≤ 2 → span digitB l = l.length → Ev_strconv_Atoi (bs l) ((dvB l : Int), false)
  pu : ∀ l : List UInt8, 1 ≤ l.length → l.length ≤ 200 → span digitB l = l.length → ∃ n : Nat, n < 18446744073709551616 ∧ (dvB l < 18446744073709551616 → n = dvB l) ∧ Ev_strconv_ParseUint (bs l) 10 64 ((n : Int), decide (18446744073709551616 ≤ dvB l))
theorem span_all {f : Int → Bool} : ∀ {l : List UInt8}, span f l = l.length ↔ ∀ b ∈ l, f (b.toNat : Int) = true
  | [] => by simp [span]
  | b :: l => by
    have ih := span_all (f := f) (l := l)
    have := span_le f l
    by_cases hb : f (b.toNat : Int) = true
    · rw [span, if_pos hb]; simp [hb]; exact ih
    · rw [span, if_neg hb]; simp [hb]
/-- Zeros ahead change nothing. -/
theorem dvB_zeros : ∀ l : List UInt8, dvB (l.drop (span zeroB l)) = dvB l
  | [] => rfl
  | b :: l => by
    by_cases hb : zeroB (b.toNat : Int) = true
    · rw [span, if_pos hb]
      show dvB (l.drop (span zeroB l)) = _
      rw [dvB_zeros l]
      have : (b.toNat : Int) = 48 := by simpa [zeroB] using hb
      unfold dvB
      rw [List.map_cons, dvA, this]; rfl
    · rw [span, if_neg hb]; rfl
theorem dvA_lin : ∀ (l : List Int) (n : Nat), dvA n l = n * 10 ^ l.length + dvA 0 l
  | [], n => by simp [dvA]
  | c :: l, n => by
    rw [dvA, dvA, dvA_lin l (n * 10 + _), dvA_lin l (0 * 10 + _), List.length_cons, Nat.pow_succ]
    grind
theorem dvA_lt : ∀ (l : List Int), DigI l → dvA 0 l < 10 ^ l.length
  | [], _ => by simp [dvA]
  | c :: l, h => by
    have ih := dvA_lt l h.tl
    obtain ⟨h1, h2⟩ := h c (List.mem_cons_self ..)
    rw [dvA, dvA_lin, List.length_cons, Nat.pow_succ]
    have : (0 * 10 + (c - 48).toNat) * 10 ^ l.length ≤ 9 * 10 ^ l.length := Nat.mul_le_mul_right _ (by omega)
    omega
theorem nums_tl {l : List Int} (h : DigI l) : (tl (strOfNums l) 0).map (fun b => (b.toNat : Int)) = l := by
  unfold tl strOfNums
  simp only [List.drop_zero, List.map_map]
  conv => rhs; rw [← List.map_id l]
  refine List.map_congr_left fun c hc => ?_
  obtain ⟨h1, h2⟩ := h c hc
  simp
  omega
theorem DigI_of {l : List UInt8} (h : span digitB l = l.length) : DigI (l.map fun b => (b.toNat : Int)) := by
  intro c hc
  obtain ⟨b, hb, rfl⟩ := List.mem_map.1 hc
  have := span_all.1 h b hb
  unfold digitB at this; simp only [Bool.and_eq_true, decide_eq_true_eq] at this; omega
/-- What scaled yields. -/
theorem scaled_val (h : StrOkX) {l : List UInt8} (h1 : 1 ≤ l.length) (h2 : l.length ≤ 200) (hd : span digitB l = l.length) (h0 : 0 < dvB l) {e : Int} (he : -1000 ≤ e ∧ e ≤ 1000) :
    Ev_rat_scaled (bs l) e (toR (madeS false (dvB l * 10 ^ e.toNat) (10 ^ (-e).toNat))) := by
  obtain ⟨k0, hk0⟩ : ∃ k0, k0 = (-e).toNat := ⟨_, rfl⟩
  have eB : bytesI (bs l) = l.map fun b => (b.toNat : Int) := rfl
  have d0 := DigI_of hd
  obtain ⟨a1, i, a2, a3, a4⟩ := strip_val (y := 2) (by decide) (by decide) (by decide) k0 _ d0 (by rw [List.length_map]; exact h1)
  have len1 := (stripF_le 2 k0 (l.map fun b => (b.toNat : Int))).2
  obtain ⟨b1, j, b2, b3, b4⟩ := strip_val (y := 5) (by decide) (by decide) (by decide) k0 _ a1 (by rw [show ((2 : Nat) : Int) = 2 from rfl, len1, List.length_map]; exact h1)
  have len2 := (stripF_le 5 k0 (stripF 2 k0 (l.map fun b => (b.toNat : Int))).2).2
  simp only [show ((2 : Nat) : Int) = 2 from rfl, show ((5 : Nat) : Int) = 5 from rfl] at *
  have rd : dvB (readD k0 l) = dvA 0 (stripF 5 k0 (stripF 2 k0 (l.map fun b => (b.toNat : Int))).2).2 := by
    unfold readD
    rw [dvB_zeros, eB]
    unfold dvB
    rw [nums_tl b1]
  have rdl := readD_len k0 l
  have rdd : span digitB (readD k0 l) = (readD k0 l).length := by
    refine span_all.2 fun b hb => ?_
    unfold readD at hb
    have hb := List.mem_of_mem_drop hb
    rw [eB] at hb
    have hm := List.mem_map_of_mem (f := fun b : UInt8 => (b.toNat : Int)) hb
    rw [nums_tl b1] at hm
    have := b1 _ hm
    unfold digitB; simp only [Bool.and_eq_true, decide_eq_true_eq]; omega
  obtain ⟨v1, hv1⟩ : ∃ v1, v1 = dvA 0 (stripF 5 k0 (stripF 2 k0 (l.map fun b => (b.toNat : Int))).2).2 := ⟨_, rfl⟩
  rw [← hv1] at rd b3 b4
  have hv : dvB l = 2 ^ i * (5 ^ j * v1) := by unfold dvB; rw [a3, b3]
  have v1p : 0 < v1 := by
    rcases Nat.eq_zero_or_pos v1 with h | h
    · rw [h] at hv; simp at hv; omega
    · exact h
  have rd1 : 1 ≤ (readD k0 l).length := by
    by_cases hh : 1 ≤ (readD k0 l).length
    · exact hh
    · have : readD k0 l = [] := List.eq_nil_of_length_eq_zero (by omega)
      rw [this] at rd
      have : dvB [] = 0 := rfl
      omega
  obtain ⟨n, hn, hn2, hpu⟩ := h.pu (readD k0 l) rd1 (by omega) rdd
  have hs := scaled_evX h.ok.t0 h1 h2 he hk0 hn hpu
  rw [eB] at hs
  have c2 : (stripF 2 k0 (l.map fun b => (b.toNat : Int))).1 = 0 ∨ ¬ 2 ∣ v1 := by
    rcases a4 with h | h
    · exact .inl h
    · right
      intro hd2
      apply h
      rw [b3]
      exact Nat.dvd_trans hd2 (Nat.dvd_mul_left ..)
  have ht := tail_val h0 hk0 a2 b2 hv c2 b4
  rw [← hk0, ← ht]
  rw [rd] at hs hn2
  by_cases hlt : 18446744073709551616 ≤ v1
  · rw [decide_eq_true hlt] at hs
    rw [if_pos hlt]
    exact hs
  · rw [decide_eq_false hlt] at hs
    rw [if_neg hlt, ← hn2 (by omega)]
    exact hs
/-! ### The text's parts -/
def partR (x10 : ByteArray) (x11 : Int) : Option Int → ByteArray × Int × Int × Bool
  | none => noParts
  | some e => (x10, x11, e, true)
/-- An exponent's digits. -/
def expS (u : List UInt8) (sg : Int) : Option Int := if span digitB u = u.length ∧ 1 ≤ u.length ∧ u.length ≤ 2 then some (sg * (dvB u : Int)) else none
/-- What stands behind a number's digits. -/
def restS : List UInt8 → Option Int
  | [] => some 0
  | b :: v => if (b.toNat : Int) = 101 ∨ (b.toNat : Int) = 69 then
      (if peek v 0 = 45 then expS (v.drop 1) (-1) else if peek v 0 = 43 then expS (v.drop 1) 1 else expS v 1)
    else none
theorem restS_cons (b : UInt8) (v : List UInt8) : restS (b :: v) = if (b.toNat : Int) = 101 ∨ (b.toNat : Int) = 69 then
      (if peek v 0 = 45 then expS (v.drop 1) (-1) else if peek v 0 = 43 then expS (v.drop 1) 1 else expS v 1)
    else none := rfl
/-- A number's digits, how many stand behind the point, and the exponent. -/
def partsS (l : List UInt8) : Option (List UInt8 × Nat × Int) :=
  if span digitB l < 1 ∨ 40 < span digitB l then none
  else if peek l (span digitB l) = 46 then
    (if span digitB (l.drop (span digitB l + 1)) < 1 ∨ 40 < span digitB (l.drop (span digitB l + 1)) then none
    else (restS ((l.drop (span digitB l + 1)).drop (span digitB (l.drop (span digitB l + 1))))).map fun e => (l.take (span digitB l) ++ (l.drop (span digitB l + 1)).take (span digitB (l.drop (span digitB l + 1))), span digitB (l.drop (span digitB l + 1)), e))
  else (restS (l.drop (span digitB l))).map fun e => (l.take (span digitB l), 0, e)
theorem dvB_lt {l : List UInt8} (h : span digitB l = l.length) : dvB l < 10 ^ l.length := by
  have := dvA_lt _ (DigI_of h)
  rw [List.length_map] at this
  exact this
theorem expS_lt {u : List UInt8} {sg e : Int} (hs : sg = 1 ∨ sg = -1) (h : expS u sg = some e) : -99 ≤ e ∧ e ≤ 99 := by
  unfold expS at h
  split at h
  · rename_i hc
    have h1 := dvB_lt hc.1
    have h2 : 10 ^ u.length ≤ 10 ^ 2 := Nat.pow_le_pow_right (by decide) hc.2.2
    have h3 : dvB u ≤ 99 := by omega
    cases h
    rcases hs with rfl | rfl <;> omega
  · cases h
theorem restS_lt {u : List UInt8} {e : Int} (h : restS u = some e) : -99 ≤ e ∧ e ≤ 99 := by
  cases u with
  | nil => simp [restS] at h; omega
  | cons b v =>
    rw [restS_cons] at h
    split at h
    · split at h
      · exact expS_lt (.inr rfl) h
      · split at h
        · exact expS_lt (.inl rfl) h
        · exact expS_lt (.inl rfl) h
    · cases h
theorem xexp_ev (h : StrOkX) (x10 : ByteArray) (x11 : Int) {u : List UInt8} (hu : u.length ≤ 9223372036854775807) {x55 : Int} (hx : x55 = 1 ∨ x55 = -1) : expW x10 x11 (bs u) x55 (fun r' => r' = partR x10 x11 (expS u x55)) := by
  have hd := digits_ev h.ok hu
  have hl := span_le digitB u
  have st : (bs (u.take (span digitB u))).size = span digitB u := by rw [bs_size, List.length_take]; omega
  have no : ¬ (span digitB u = u.length ∧ 1 ≤ u.length ∧ u.length ≤ 2) → noParts = partR x10 x11 (expS u x55) := fun hn => by unfold expS; rw [if_neg hn]; rfl
  by_cases c1 : span digitB u < 1
  · exact Call.mk hd (Br.t (decide_eq_true (by rw [st]; omega)) (no (by omega)))
  by_cases c2 : 2 < span digitB u
  · exact Call.mk hd (Br.f (decide_eq_false (by rw [st]; omega)) (Br.t (decide_eq_true (by rw [st]; omega)) (no (by omega))))
  by_cases c3 : u.drop (span digitB u) = []
  · have hlen : span digitB u = u.length := by have := List.drop_eq_nil_iff.1 c3; omega
    have hn := h.atoi u (by omega) (by omega) hlen
    have htk : u.take (span digitB u) = u := List.take_of_length_le (by omega)
    have hlt := dvB_lt hlen
    have h2 : 10 ^ u.length ≤ 10 ^ 2 := Nat.pow_le_pow_right (by decide) (by omega)
    refine Call.mk hd (Br.f (decide_eq_false (by rw [st]; omega)) (Br.f (decide_eq_false (by rw [st]; omega)) (Br.f ?_ ?_)))
    · show (!((bs (u.drop (span digitB u))).toList == (ByteArray.mk #[]).toList)) = false
      rw [bs_nil, decide_eq_true c3]; rfl
    · show Call (Ev_strconv_Atoi (bs (u.take (span digitB u)))) _
      rw [htk]
      refine Call.mk hn (Let.as (x55 * (dvB u : Int)) ?_ ?_)
      · rcases hx with rfl | rfl <;> exact wi (by show _ ≤ _ * (dvB u : Int); omega) (by show _ * (dvB u : Int) < _; omega)
      · unfold expS; rw [if_pos ⟨hlen, by omega, by omega⟩]; rfl
  · refine Call.mk hd (Br.f (decide_eq_false (by rw [st]; omega)) (Br.f (decide_eq_false (by rw [st]; omega)) (Br.t ?_ (no fun hh => c3 (by rw [List.drop_eq_nil_iff]; omega)))))
    show (!((bs (u.drop (span digitB u))).toList == (ByteArray.mk #[]).toList)) = true
    rw [bs_nil, decide_eq_false c3]; rfl
theorem xrest_ev (h : StrOkX) (x10 : ByteArray) (x11 : Int) {u : List UInt8} (hu : u.length ≤ 9223372036854775807) : restW (bs u) x10 x11 (fun r' => r' = partR x10 x11 (restS u)) := by
  cases u with
  | nil => exact Br.t (by rw [bs_nil]; rfl) rfl
  | cons b u =>
    have hnil : ((bs (b :: u)).toList == (ByteArray.mk #[]).toList) = false := by rw [bs_nil]; exact decide_eq_false (by simp)
    by_cases c : (b.toNat : Int) = 101 ∨ (b.toNat : Int) = 69
    · have join : ∀ k : Bool → Prop, k false → Join1 (fun j23 => AtS (bs (b :: u)) (0 : Int) fun x25 => Br (x25 != (101 : Int)) (AtS (bs (b :: u)) (0 : Int) fun x28 => j23 (x28 != (69 : Int))) (j23 false)) k := by
        intro k hk
        refine ⟨fun x => x = false, AtS.head ?_, fun x hx => by subst hx; exact hk⟩
        rcases c with c | c
        · exact Br.f (by rw [c]; rfl) rfl
        · exact Br.t (by rw [c]; rfl) (AtS.head (by rw [c]; rfl))
      have sl1 : ∀ {v : List UInt8} {a : UInt8} {k : ByteArray → Prop}, k (bs v) → SlS (bs (a :: v)) (1 : Int) ((bs (a :: v)).size : Int) k := fun {v a k} hk => SlS_from (l := a :: v) (p := 1) (by simp) hk
      cases u with
      | nil =>
        have e1 : restS [b] = expS [] 1 := by rw [restS_cons, if_pos c]; rfl
        rw [e1]
        refine Br.f hnil (join _ (Br.f rfl (sl1 ⟨fun x => x = false, ?_, ?_⟩)))
        · exact Br.f (by rw [bs_nil]; rfl) rfl
        · rintro _ rfl
          exact ⟨fun a s => a = bs [] ∧ s = 1, Br.f rfl ⟨rfl, rfl⟩, fun a s hs => by rw [hs.1, hs.2]; exact xexp_ev h x10 x11 (u := []) (by simp) (.inl rfl)⟩
      | cons a v =>
        have hav : (!((bs (a :: v)).toList == (ByteArray.mk #[]).toList)) = true := by rw [bs_nil, decide_eq_false (by simp)]; rfl
        have hlen : v.length ≤ 9223372036854775807 := by simp at hu; omega
        have pk : peek (a :: v) 0 = (a.toNat : Int) := rfl
        by_cases c2 : (a.toNat : Int) = 43 ∨ (a.toNat : Int) = 45
        · obtain ⟨sg, hsg, hre, hsj⟩ : ∃ sg : Int, (sg = 1 ∨ sg = -1) ∧ restS (b :: a :: v) = expS v sg ∧ ∀ k : Int → Prop, k sg → Join1 (fun j61 => Br ((a.toNat : Int) == (45 : Int)) (j61 (-1 : Int)) (j61 (1 : Int))) k := by
            by_cases c3 : (a.toNat : Int) = 45
            · exact ⟨-1, .inr rfl, by rw [restS_cons, if_pos c, pk, if_pos c3]; rfl, fun k hk => ⟨fun x => x = -1, Br.t (by rw [c3]; rfl) rfl, fun x hx => by subst hx; exact hk⟩⟩
            · exact ⟨1, .inl rfl, by rw [restS_cons, if_pos c, pk, if_neg c3, if_pos (c2.resolve_right c3)]; rfl, fun k hk => ⟨fun x => x = 1, Br.f (beq_false_of_ne c3) rfl, fun x hx => by subst hx; exact hk⟩⟩
          rw [hre]
          refine Br.f hnil (join _ (Br.f rfl (sl1 ⟨fun x => x = true, ?_, ?_⟩)))
          · refine Br.t hav (AtS.head ?_)
            rcases c2 with c3 | c3
            · exact Br.t (by rw [c3]; rfl) rfl
            · exact Br.f (by rw [c3]; rfl) (AtS.head (by rw [c3]; rfl))
          · rintro _ rfl
            exact ⟨fun x s => x = bs v ∧ s = sg, Br.t rfl (AtS.head (hsj _ (sl1 ⟨rfl, rfl⟩))), fun x s hs => by rw [hs.1, hs.2]; exact xexp_ev h x10 x11 (u := v) hlen hsg⟩
        · have hre : restS (b :: a :: v) = expS (a :: v) 1 := by rw [restS_cons, if_pos c, pk, if_neg fun e => c2 (.inr e), if_neg fun e => c2 (.inl e)]
          rw [hre]
          refine Br.f hnil (join _ (Br.f rfl (sl1 ⟨fun x => x = false, ?_, ?_⟩)))
          · exact Br.t hav (AtS.head (Br.f (beq_false_of_ne fun e => c2 (.inl e)) (AtS.head (beq_false_of_ne fun e => c2 (.inr e)))))
          · rintro _ rfl
            exact ⟨fun x s => x = bs (a :: v) ∧ s = 1, Br.f rfl ⟨rfl, rfl⟩, fun x s hs => by rw [hs.1, hs.2]; exact xexp_ev h x10 x11 (u := a :: v) (by simp at hu ⊢; omega) (.inl rfl)⟩
    · have hre : restS (b :: u) = none := by rw [restS_cons, if_neg c]
      rw [hre]
      refine Br.f hnil ⟨fun x => x = true, AtS.head (Br.t ?_ (AtS.head ?_)), ?_⟩
      · show ((b.toNat : Int) != 101) = true
        simpa using fun e => c (.inl e)
      · show ((b.toNat : Int) != 69) = true
        simpa using fun e => c (.inr e)
      · rintro _ rfl
        exact Br.t rfl rfl
def partsR (l : List UInt8) : ByteArray × Int × Int × Bool := match partsS l with
  | none => noParts
  | some (a, m, e) => (bs a, (m : Int), e, true)
theorem xparts_ev (h : StrOkX) {l : List UInt8} (hl : l.length ≤ 9223372036854775807) : Ev_rat_parts (bs l) (partsR l) := by
  refine walk_rat_parts ?_
  unfold W_rat_parts
  have hd := digits_ev h.ok hl
  have hsp := span_le digitB l
  unfold partsR partsS
  obtain ⟨n, hn⟩ : ∃ n, n = span digitB l := ⟨_, rfl⟩
  rw [← hn] at hd hsp ⊢
  have st : (bs (l.take n)).size = n := by rw [bs_size, List.length_take]; omega
  by_cases c1 : n < 1
  · rw [if_pos (.inl c1)]
    exact Call.mk hd (Br.t (decide_eq_true (by rw [st]; omega)) rfl)
  by_cases c2 : 40 < n
  · rw [if_pos (.inr c2)]
    exact Call.mk hd (Br.f (decide_eq_false (by rw [st]; omega)) (Br.t (decide_eq_true (by rw [st]; omega)) rfl))
  rw [if_neg (by omega)]
  obtain ⟨u, b, hu, hcut, hub, hub2⟩ := cut_ev (l.drop n) (by rw [List.length_drop]; omega)
  rw [List.length_drop] at hu
  have pr : ∀ (a : List UInt8) (m : Nat) (o : Option Int), (match o.map fun e => (a, m, e) with | none => noParts | some (a, m, e) => (bs a, (m : Int), e, true)) = partR (bs a) (m : Int) o := by
    intro a m o; cases o <;> rfl
  cases b with
  | true =>
    obtain ⟨g1, g2⟩ := hub rfl
    rw [List.drop_drop] at g2
    rw [peek_drop, Nat.add_zero] at g1
    rw [if_pos g1, g2]
    have hd2 := digits_ev h.ok (l := u) (by omega)
    have hsp2 := span_le digitB u
    obtain ⟨m, hm⟩ : ∃ m, m = span digitB u := ⟨_, rfl⟩
    rw [← hm] at hd2 hsp2 ⊢
    have st2 : (bs (u.take m)).size = m := by rw [bs_size, List.length_take]; omega
    by_cases c3 : m < 1
    · rw [if_pos (.inl c3)]
      exact Call.mk hd (Br.f (decide_eq_false (by rw [st]; omega)) (Br.f (decide_eq_false (by rw [st]; omega)) (Call.mk hcut ⟨fun _ _ _ => False, Br.t rfl (Call.mk hd2 (Br.t (decide_eq_true (by rw [st2]; omega)) rfl)), fun _ _ _ h => h.elim⟩)))
    by_cases c4 : 40 < m
    · rw [if_pos (.inr c4)]
      exact Call.mk hd (Br.f (decide_eq_false (by rw [st]; omega)) (Br.f (decide_eq_false (by rw [st]; omega)) (Call.mk hcut ⟨fun _ _ _ => False, Br.t rfl (Call.mk hd2 (Br.f (decide_eq_false (by rw [st2]; omega)) (Br.t (decide_eq_true (by rw [st2]; omega)) rfl))), fun _ _ _ h => h.elim⟩)))
    rw [if_neg (by omega), pr]
    refine Call.mk hd (Br.f (decide_eq_false (by rw [st]; omega)) (Br.f (decide_eq_false (by rw [st]; omega)) (Call.mk hcut ⟨fun x y z => x = bs (u.drop m) ∧ y = bs (l.take n ++ u.take m) ∧ z = ((m : Nat) : Int), ?_, ?_⟩)))
    · refine Br.t rfl (Call.mk hd2 (Br.f (decide_eq_false (by rw [st2]; omega)) (Br.f (decide_eq_false (by rw [st2]; omega)) ⟨by rw [st, st2]; omega, Let.as (bs (l.take n ++ u.take m)) (bs_append _ _) ⟨rfl, rfl, by rw [st2]⟩⟩)))
    · rintro _ _ _ ⟨rfl, rfl, rfl⟩; exact xrest_ev h _ _ (by rw [List.length_drop]; omega)
  | false =>
    have g1 := hub2 rfl
    rw [peek_drop, Nat.add_zero] at g1
    rw [if_neg g1, pr]
    refine Call.mk hd (Br.f (decide_eq_false (by rw [st]; omega)) (Br.f (decide_eq_false (by rw [st]; omega)) (Call.mk hcut ⟨fun x y z => x = bs (l.drop n) ∧ y = bs (l.take n) ∧ z = 0, Br.f rfl ⟨rfl, rfl, rfl⟩, ?_⟩)))
    rintro _ _ _ ⟨rfl, rfl, rfl⟩; exact xrest_ev h _ _ (by rw [List.length_drop]; omega)
/-! ### All of Read, exactly -/
theorem partsS_ok {l a : List UInt8} {m : Nat} {e : Int} (h : partsS l = some (a, m, e)) : span digitB a = a.length ∧ a.length ≤ 80 ∧ m ≤ 40 ∧ -99 ≤ e ∧ e ≤ 99 := by
  unfold partsS at h
  split at h
  · cases h
  rename_i c1
  split at h
  · split at h
    · cases h
    · rename_i c2
      obtain ⟨e', h1, h2⟩ := Option.map_eq_some_iff.1 h
      cases h2
      have := restS_lt h1
      refine ⟨span_all.2 fun b hb => ?_, by simp; omega, by omega, this⟩
      rcases List.mem_append.1 hb with hb | hb
      · exact span_all.1 (span_take digitB l) b hb
      · exact span_all.1 (span_take digitB _) b hb
  · obtain ⟨e', h1, h2⟩ := Option.map_eq_some_iff.1 h
    cases h2
    have := restS_lt h1
    exact ⟨span_take digitB l, by simp; omega, by omega, this⟩
theorem off_val : ∀ (k : Nat) (a : List UInt8) (e : Int), a.length ≤ k → span digitB a = a.length →
    span digitB (offF k a e).1 = (offF k a e).1.length ∧ ∃ t : Nat, (offF k a e).2 = e + (t : Int) ∧ dvB a = dvB (offF k a e).1 * 10 ^ t ∧ ((offF k a e).1 = [] ∨ 0 < dvB (offF k a e).1)
  | 0, a, e, hk, hd => by
    have : a = [] := List.eq_nil_of_length_eq_zero (by omega)
    subst this
    exact ⟨rfl, 0, by simp [offF], by simp [offF], .inl rfl⟩
  | k + 1, a, e, hk, hd => by
    unfold offF
    split
    · rename_i h
      obtain ⟨hne, hlast⟩ := h
      obtain ⟨i, c, rfl⟩ : ∃ i c, a = i ++ [c] := ⟨a.dropLast, a.getLast hne, (List.dropLast_concat_getLast hne).symm⟩
      have e1 : (i ++ [c]).take ((i ++ [c]).length - 1) = i := by simp
      have e2 : (i ++ [c]).getD ((i ++ [c]).length - 1) 0 = c := by simp [List.getD]
      rw [e2] at hlast
      rw [e1]
      obtain ⟨g1, t, g2, g3, g4⟩ := off_val k i (e + 1) (by simp at hk; omega) (span_all.2 fun b hb => span_all.1 hd b (by simp [hb]))
      refine ⟨g1, t + 1, by rw [g2]; omega, ?_, g4⟩
      have : dvB (i ++ [c]) = dvB i * 10 := by
        unfold dvB
        rw [List.map_append, List.map_cons, List.map_nil, dvA_snoc, hlast]; rfl
      rw [this, g3, Nat.pow_succ, Nat.mul_assoc]
    · rename_i h
      refine ⟨hd, 0, by simp, by simp, ?_⟩
      by_cases hne : a = []
      · exact .inl hne
      · right
        obtain ⟨i, c, rfl⟩ : ∃ i c, a = i ++ [c] := ⟨a.dropLast, a.getLast hne, (List.dropLast_concat_getLast hne).symm⟩
        have e2 : (i ++ [c]).getD ((i ++ [c]).length - 1) 0 = c := by simp [List.getD]
        have hc : c.toNat ≠ 48 := fun hc => h ⟨hne, by rw [e2]; exact hc⟩
        have hcd := span_all.1 hd c (by simp)
        unfold digitB at hcd; simp only [Bool.and_eq_true, decide_eq_true_eq] at hcd
        show 0 < dvA 0 ((i ++ [c]).map fun b => (b.toNat : Int))
        rw [List.map_append, List.map_cons, List.map_nil, dvA_snoc]
        omega
/-- The number that a text writes. -/
def readS (l : List UInt8) : GRat × Int := match partsS l with
  | none => (GRat.zero, 110)
  | some (a, m, e) => toR (madeS false (dvB a * 10 ^ (e - m).toNat) (10 ^ ((m : Int) - e).toNat))
theorem xread_ev (h : StrOkX) {l : List UInt8} (hl : l.length ≤ 9223372036854775807) : Ev_rat_Read (bs l) (readS l) := by
  have hp := xparts_ev h hl
  unfold partsR at hp
  unfold readS
  cases hps : partsS l with
  | none =>
    rw [hps] at hp
    refine walk_rat_Read ?_
    unfold W_rat_Read
    exact Call.mk hp (Br.t rfl rfl)
  | some r =>
    obtain ⟨a, m, e⟩ := r
    rw [hps] at hp
    obtain ⟨hdig, ha, c1, e0, e1⟩ := partsS_ok hps
    show Ev_rat_Read (bs l) (toR (madeS false (dvB a * 10 ^ (e - m).toNat) (10 ^ ((m : Int) - e).toNat)))
    have t0 := h.ok.t0 (bs a) (by rw [bs_size]; omega)
    rw [tl_bs] at t0
    obtain ⟨a1, ha1⟩ : ∃ a1, a1 = a.drop (span zeroB a) := ⟨_, rfl⟩
    have l1 : a1.length ≤ 80 := by rw [ha1, List.length_drop]; omega
    have d1 : span digitB a1 = a1.length := by rw [ha1]; exact span_all.2 fun b hb => span_all.1 hdig b (List.mem_of_mem_drop hb)
    have v1 : dvB a1 = dvB a := by rw [ha1, dvB_zeros]
    rw [← ha1] at t0
    have ho := offF_le a1.length a1 (e - m)
    obtain ⟨q1, t, q2, q3, q4⟩ := off_val a1.length a1 (e - m) (Nat.le_refl _) d1
    obtain ⟨a2, ha2⟩ : ∃ a2, a2 = (offF a1.length a1 (e - m)).1 := ⟨_, rfl⟩
    obtain ⟨e2, he2⟩ : ∃ e2, e2 = (offF a1.length a1 (e - m)).2 := ⟨_, rfl⟩
    rw [← ha2, ← he2] at ho
    rw [← ha2] at q1 q3 q4
    rw [← he2] at q2
    rw [v1] at q3
    have hrr : ∀ Q : GRat × Int → Prop, Q (toR (madeS false (dvB a * 10 ^ (e - m).toNat) (10 ^ ((m : Int) - e).toNat))) → Br ((bs a2).toList == (ByteArray.mk #[]).toList) (Q (({ GRat.zero with D := (1 : Int) }), (0 : Int))) (Call (Ev_rat_scaled (bs a2) e2) fun x74 => Q (x74.1, x74.2)) := by
      intro Q hQ
      by_cases hz : a2 = []
      · refine Br.t (by rw [bs_nil]; exact decide_eq_true hz) ?_
        rw [hz] at q3
        have : dvB [] = 0 := rfl
        rw [q3, this, Nat.zero_mul, Nat.zero_mul, madeS_zero (Nat.ne_of_gt (Nat.pow_pos (by decide)))] at hQ
        exact hQ
      · have hsc := scaled_val h (l := a2) (by cases a2 with | nil => exact absurd rfl hz | cons => simp) (by omega) q1 (q4.resolve_left hz) (e := e2) ⟨by omega, by omega⟩
        have same : madeS false (dvB a2 * 10 ^ e2.toNat) (10 ^ (-e2).toNat) = madeS false (dvB a * 10 ^ (e - m).toNat) (10 ^ ((m : Int) - e).toNat) := by
          obtain ⟨c, hc1, hc2⟩ : ∃ c : Nat, t + (e - m).toNat = e2.toNat + c ∧ ((m : Int) - e).toNat = (-e2).toNat + c := ⟨((m : Int) - e).toNat - (-e2).toNat, by omega, by omega⟩
          rw [q3, Nat.mul_assoc, ← Nat.pow_add, hc1, hc2, Nat.pow_add, Nat.pow_add, ← Nat.mul_assoc, madeS_scale (Nat.pow_pos (by decide))]
        rw [same] at hsc
        exact Br.f (by rw [bs_nil]; exact decide_eq_false hz) (Call.mk hsc hQ)
    refine walk_rat_Read ?_
    unfold W_rat_Read
    refine Call.mk hp (Br.f rfl (Let.as (e - m) (wi (by show _ ≤ e - (m : Int); omega) (by show e - (m : Int) < _; omega)) (Call.mk t0 ⟨fun x y => x = bs a2 ∧ y = e2, ?_, fun x y hxy => by rw [hxy.1, hxy.2]; exact hrr (fun r' => r' = toR (madeS false (dvB a * 10 ^ (e - m).toNat) (10 ^ ((m : Int) - e).toNat))) rfl⟩)))
    exact off_ev l1 (by omega) (by omega) ha2 he2
end Go.Sim.YtnnfiohdkobkdaaGreatDoor
