/- What is proved: what lin.Inverse yields, given what lin.nearly yields. -/
import Derived.Test.YtlkpbnhinnhlfaaGreatZIVNerD

namespace Go.Sim.YtlkpbnhinnhlfaaGreat
open Go.RowKit Go.Proofs Go.Proofs.Tryz
set_option exponentiation.threshold 5000
/-- The unit matrix less a product of points. -/
def prodI (n : Nat) (r a : Nat → Nat → Nat) (i j : Nat) : GIval := dotI ((List.range n).map fun k => ptI (r i k)) ((List.range n).map fun k => ptI (a k j))
def gM (n : Nat) (r a : Nat → Nat → Nat) (i j : Nat) : GIval := subI (ptI (oneV i j)) (prodI n r a i j)
/-- How far it is from the unit matrix; that over what is left of 1. -/
def dlt (n : Nat) (r a : Nat → Nat → Nat) : Nat := normI (mkM n (gM n r a))
def rst (d : Nat) : Nat := addB 4607182418800017408 (Op.negFloat .f64 d) (-1)
def shr (d : Nat) : Nat := divB d (rst d) 1
/-- The greatest amount in a column. -/
def colF (r : Nat → Nat → Nat) (j : Nat) : Nat → Nat
  | 0 => 0
  | i + 1 => fmaxB (colF r j i) (rungB (r i j))
def errF (n : Nat) (d : Nat) (r : Nat → Nat → Nat) (j : Nat) : Nat := mulX (shr d) (colF r j n) 1
def invI (n : Nat) (d : Nat) (r : Nat → Nat → Nat) (i j : Nat) : GIval := addI (ptI (r i j)) (makeI (Op.negFloat .f64 (errF n d r j)) (errF n d r j))
theorem ptsI_mk {n : Nat} {f : Nat → Nat → Nat} : ptsI (mkM n f) = mkM n fun i j => ptI (f i j) := by rw [ptsI]; exact map_mkM
theorem okM_mk {n : Nat} (hn : n ≤ 24) {g : Nat → Nat → GIval} (hg : ∀ i j, i < n → j < n → okI (g i j)) : okM (mkM n g) := fun r hr => by
  obtain ⟨i, hi, rfl⟩ := mem_mkM hr
  refine ⟨fun x hx => ?_, by rw [rowM_len]; omega⟩
  obtain ⟨j, hj, rfl⟩ := mem_rowM hx
  exact hg i j hi hj
theorem matB_mk {n : Nat} (h1 : 1 ≤ n) (hn : n ≤ 24) {g : Nat → Nat → GIval} (hg : ∀ i j, i < n → j < n → rightB (g i j) = true) : matB (mkM n g) = true := by
  unfold matB
  rw [headD_mk h1, rowM_len, mkM_len]
  simp only [Bool.and_eq_true, List.all_eq_true, decide_eq_true_iff]
  refine ⟨fun r hr => ?_, h1, hn⟩
  obtain ⟨i, hi, rfl⟩ := mem_mkM hr
  rw [rowM_len]
  refine ⟨?_, rfl⟩
  unfold vecB
  rw [rowM_len]
  simp only [Bool.and_eq_true, List.all_eq_true, decide_eq_true_iff]
  refine ⟨fun x hx => ?_, h1, hn⟩
  obtain ⟨j, hj, rfl⟩ := mem_rowM hx
  exact hg i j hi hj
theorem mmI_mk {n : Nat} (h1 : 1 ≤ n) {f g : Nat → Nat → GIval} : mmI (mkM n f) (mkM n g) = mkM n fun i j => dotI ((List.range n).map (f i)) ((List.range n).map fun k => g k j) := by
  unfold mmI
  rw [headD_mk h1, rowM_len]
  unfold mkM
  rw [List.map_map]
  refine rowM_congr fun i _ => ?_
  unfold Function.comp rowI
  refine rowM_congr fun j hj => ?_
  congr 1
  unfold colI
  rw [List.map_map]
  refine rowM_congr fun k _ => ?_
  show List.getD _ j EMP = _
  exact getD_at' (rowM_get hj)
theorem rightB_of {x : GIval} (h : RIp x) : rightB x = true := by unfold rightB; rw [decide_eq_true_iff]; exact .inr h
theorem make_cases (lo hi : Nat) : emptyP (makeI lo hi) ∨ RIp (makeI lo hi) := by
  unfold makeI
  split
  · rename_i h; unfold rightB at h; rw [decide_eq_true_iff] at h; exact h
  · exact .inl ⟨by decide, by decide⟩
theorem add_cases (x y : GIval) : emptyP (addI x y) ∨ RIp (addI x y) := by
  unfold addI
  split
  · exact make_cases _ _
  · exact .inl ⟨by decide, by decide⟩
section
variable {n : Nat} {r a : Nat → Nat → Nat}
theorem prod_in (hr : SqF n r) (ha : SqF n a) {i j : Nat} (hi : i < n) (hj : j < n) : InQ (mulQ (fun i k => vQ (fI (r i k))) (fun k j => vQ (fI (a k j))) n i j) (prodI n r a i j) :=
  dot_in (u := fun k => vQ (fI (r i k))) (v := fun k => vQ (fI (a k j))) fun k hk => mul_pt (hr.lt i k hi hk) (ha.lt k j hk hj) (hr.fin i k hi hk) (ha.fin k j hk hj)
theorem ok_prod (i j : Nat) : okI (prodI n r a i j) := ok_dotF _ _ ok_zero
theorem g_in (hr : SqF n r) (ha : SqF n a) {i j : Nat} (hi : i < n) (hj : j < n) : InQ (eyeQ i j - mulQ (fun i k => vQ (fI (r i k))) (fun k j => vQ (fI (a k j))) n i j) (gM n r a i j) := by
  refine sub_in (ok_pt (oneV_lt i j)) (ok_prod i j) ?_ (prod_in hr ha hi hj)
  rw [← eye_v]
  exact pt_in (oneV_lt i j) (oneV_F i j)
theorem ok_g (i j : Nat) : okI (gM n r a i j) := ok_sub (ok_pt (oneV_lt i j)) (ok_prod i j)
theorem nn_dlt (hn : n ≤ 24) : NN (dlt n r a) := nn_norm (okM_mk hn fun i j _ _ => ok_g i j)
theorem dlt_near (hr : SqF n r) (ha : SqF n a) (hs : fI (dlt n r a) < 4602678819172646912) :
    vQ (fI (dlt n r a)) * 2 < 1 ∧ NearQ (mulQ (fun i k => vQ (fI (r i k))) (fun k j => vQ (fI (a k j))) n) n (vQ (fI (dlt n r a))) :=
  norm_small (fun i j _ _ => ok_g i j) (fun _ _ hi hj => g_in hr ha hi hj) hs
theorem NN.col (hr : SqF n r) {j : Nat} (hj : j < n) : ∀ i, i ≤ n → NN (colF r j i)
  | 0, _ => NN.zero
  | i + 1, h => (NN.col hr hj i (by omega)).max (NN.rung (hr.lt i j (by omega) hj) (hr.fin i j (by omega) hj).n)
/-- What is left of 1. -/
theorem rst_ok {d : Nat} (hd : NN d) (hs : fI d < 4602678819172646912) : rst d < 18446744073709551616 ∧ isF (rst d) ∧ rst d ≠ 9223372036854775808 ∧ 4602678819172646912 ≤ fI (rst d) ∧ isF (Op.negFloat .f64 d) := by
  have e := negW_I hd.n.l
  have hp := hd.p
  have fn : isF (Op.negFloat .f64 d) := by unfold isF; omega
  have h1 := rd_ok (fV (fI 4607182418800017408) + fV (fI (Op.negFloat .f64 d))) 1 (-1)
  have h2 : fI (rst d) = dp (fV (fI 4607182418800017408) + fV (fI (Op.negFloat .f64 d))) 1 := by
    unfold rst; rw [addB_rd, fI_rd_dn]
  have h3 : 4602678819172646912 ≤ fI (rst d) := by
    rw [h2, le_dp (by decide) (by decide) (by decide), e, fV_neg]
    have m := fV_mono (show fI d ≤ 4602678819172646912 by omega)
    have k : fV 4602678819172646912 * 2 = fV (fI 4607182418800017408) := by
      rw [show fI 4607182418800017408 = ((1022 * 4503599627370496 + 4503599627370496 : Nat) : Int) by decide, show (4602678819172646912 : Int) = ((1021 * 4503599627370496 + 4503599627370496 : Nat) : Int) by decide]
      unfold fV
      rw [if_pos (by omega), if_pos (by omega), Int.toNat_natCast, Int.toNat_natCast, fv_mk (by decide) (.inl (by decide)), fv_mk (by decide) (.inl (by decide)), show (1022 : Nat) = 1021 + 1 by decide, Nat.pow_succ]
      omega
    simp only [Int.natCast_one, Int.mul_one]
    omega
  have h4 := dp_range (fV (fI 4607182418800017408) + fV (fI (Op.negFloat .f64 d))) 1
  exact ⟨h1.1, by unfold isF; omega, h1.2.1, h3, fn⟩
theorem rnd_num (s : Bool) (A B : Nat) (dir : Int) : NumB (rnd s A B dir) := by
  have h := capR_ok s (rndR A B (if s = true then -dir else dir)) (if s = true then -dir else dir)
  have e : rnd s A B dir = capR s (rndR A B (if s = true then -dir else dir)) (if s = true then -dir else dir) := rfl
  rw [← e] at h
  have := rung_abs (rnd s A B dir)
  exact ⟨h.1, by unfold isN; omega, h.2.1⟩
theorem shr_num (d : Nat) : NumB (shr d) := by
  unfold shr divB
  split
  · exact NumB.zero
  · exact rnd_num _ _ _ _
theorem ok_inv {d : Nat} (hr : SqF n r) {i j : Nat} (hi : i < n) (hj : j < n) : okI (invI n d r i j) := by
  have he := NumB.mul (shr d) (colF r j n) 1
  exact ok_add (ok_pt (hr.lt i j hi hj)) (ok_make (negF_lt he.l) he.l)
/-- What is told behind the norm. -/
theorem tail_W (_h1 : 1 ≤ n) (hn : n ≤ 24) (hr : SqF n r) {d : Nat} (hd : NN d) (hs : fI d < 4602678819172646912) {R : List (List GIval) × Int → Prop} (hr1 : R ([], 40)) (hr2 : (∀ i j, i < n → j < n → RIp (invI n d r i j)) → R (mkM n (invI n d r), 0)) :
     Call (Ev_ulp_Sub (4607182418800017408 : Nat) d (-1 : Int)) fun x30 =>
     Call (Ev_ulp_Div d x30 (1 : Int)) fun x32 =>
     Call (EvR_lin_Points (mkM n r)) fun x34 =>
     Loop2 x34 (0 : Int) (fun (x1461 : List (List GIval)) (x1462 : Int) next1463 =>
      Br (decide (x1462 < (((mkM n r).length : Nat) : Int))) (
       Loop2 (0 : Nat) (0 : Int) (fun (x1770 : Nat) (x1771 : Int) next1772 =>
        Br (decide (x1771 < (((mkM n r).length : Nat) : Int))) (
         At (mkM n r) x1771 fun x1783 =>
         At x1783 x1462 fun x1786 =>
         Call (Ev_math_Abs x1786) fun x1788 =>
         FMx x1770 x1788 fun x1790 =>
         Let (IntKind.i64.wrap (x1771 + (1 : Int))) fun x1791 =>
         next1772 x1790 x1791) (
         Call (Ev_ulp_Mul x32 x1770 (1 : Int)) fun x1792 =>
         Loop2 x1461 (0 : Int) (fun (x1860 : List (List GIval)) (x1861 : Int) next1862 =>
          Br (decide (x1861 < (((mkM n r).length : Nat) : Int))) (
           At x1860 x1861 fun x1895 =>
           At x1895 x1462 fun x1904 =>
           Let (Op.negFloat .f64 x1792) fun x1906 =>
           Call (Ev_ival_Make x1906 x1792) fun x1907 =>
           Call (Ev_ival_Add x1904 x1907) fun x1909 =>
           At x1895 x1462 fun _ =>
           At (List.set x1860 (Int.toNat x1861) (List.set x1895 (Int.toNat x1462) x1909)) x1861 fun x1915 =>
           At x1915 x1462 fun x1921 =>
           Call (Ev_ival_Empty) fun x1923 =>
           Br (GIval.beq x1921 x1923) (R (([] : List (List GIval)), (40 : Int))) (
            Let (IntKind.i64.wrap (x1861 + (1 : Int))) fun x1925 =>
            next1862 (List.set (List.set x1860 (Int.toNat x1861) (List.set x1895 (Int.toNat x1462) x1909)) (Int.toNat x1861) x1915) x1925)) (
           Let (IntKind.i64.wrap (x1462 + (1 : Int))) fun x1926 =>
           next1463 x1860 x1926))))) (
       R (x1461, (0 : Int)))) := by
  obtain ⟨s1, s2, s3, s4, s5⟩ := rst_ok hd hs
  have hp := hd.p
  have fd : isF d := by unfold isF; omega
  have hsub : Ev_ulp_Sub 4607182418800017408 d (-1) (rst d) := walk_ulp_Sub (by
    unfold W_ulp_Sub
    exact Let.it (Call.mk (add_ev (-1) (by decide) (negF_lt hd.n.l) (by unfold isF; decide) s5) rfl))
  have hdiv : Ev_ulp_Div d (rst d) 1 (shr d) := div_ev 1 hd.n.l s1 fd s2 (by have := rung_abs (rst d); omega)
  refine Call.mk hsub (Call.mk hdiv (Call.mk (pointsR_ev (SqF.ff hn hr.lt) (by rw [mkM_len]; omega) (hr.floats (by omega) hn)) ?_))
  rw [ptsI_mk, mkM_len]
  refine Loop2.up n (fun j out => (out = mkM n fun a b => if b < j then invI n d r a b else ptI (r a b)) ∧ ∀ a b, a < n → b < j → RIp (invI n d r a b)) ⟨mkM_congr fun a b _ _ => by simp, fun a b _ hb => by omega⟩ ?_
  rintro j out k hj ⟨rfl, hR⟩ hk
  refine Br.d (fun hlt => ?_) (fun hge => ?_)
  · have hjn : j < n := by omega
    refine Loop2.up n (fun i c => c = colF r j i) rfl ?_
    rintro i c k2 hi rfl hk2
    have hc := NN.col hr hjn i hi
    refine Br.d (fun hlt2 => ?_) (fun hge2 => ?_)
    · have hin : i < n := by omega
      refine At.nat (by rw [mkM_len]; omega) fun q hq => ?_
      rw [mkM_get hin] at hq
      cases hq
      refine At.nat (by rw [rowM_len]; omega) fun x hx => ?_
      rw [rowM_get hjn] at hx
      cases hx
      have hm := NN.rung (hr.lt i j hin hjn) (hr.fin i j hin hjn).n
      exact Call.mk (abs_ev (hr.lt i j hin hjn)) ⟨order_ne hc.n.l hm.n.l hc.n.n hm.n.n, Let.as _ rfl (Let.as _ (wi1 (by omega)) (hk2 _ (by omega) rfl))⟩
    · have : i = n := by omega
      subst this
      refine Call.mk (mul_evX 1 (shr_num d) hc.n) ?_
      have he := NumB.mul (shr d) (colF r j i) 1
      refine Loop2.up i (fun m out => (out = mkM i fun a b => if b < j ∨ b = j ∧ a < m then invI i d r a b else ptI (r a b)) ∧ ∀ a, a < m → RIp (invI i d r a j)) ⟨mkM_congr fun a b _ _ => by simp, fun a ha => by omega⟩ ?_
      rintro m out k3 hm ⟨rfl, hR2⟩ hk3
      refine Br.d (fun hlt3 => ?_) (fun hge3 => ?_)
      · have hmn : m < i := by omega
        refine At.nat (by rw [mkM_len]; omega) fun q hq => ?_
        rw [mkM_get hmn] at hq
        cases hq
        refine At.nat (by rw [rowM_len]; omega) fun x hx => ?_
        rw [rowM_get hjn] at hx
        cases hx
        rw [if_neg (by omega)]
        refine Let.it (Call.mk (make_evX (negF_lt he.l) he.l (negW_N he.l he.n) he.n) (Call.mk (iadd_evX (ok_pt (hr.lt m j hmn hjn)) (ok_make (negF_lt he.l) he.l)) ?_))
        refine At.nat (by rw [rowM_len]; omega) fun z _ => ?_
        have eset : List.set (mkM i fun a b => if b < j ∨ b = j ∧ a < m then invI i d r a b else ptI (r a b)) (Int.toNat (m : Int)) (List.set ((List.range i).map fun b => if b < j ∨ b = j ∧ m < m then invI i d r m b else ptI (r m b)) (Int.toNat (j : Int)) (addI (ptI (r m j)) (makeI (Op.negFloat .f64 (mulX (shr d) (colF r j i) 1)) (mulX (shr d) (colF r j i) 1)))) =
            mkM i fun a b => if b < j ∨ b = j ∧ a < m + 1 then invI i d r a b else ptI (r a b) := by
          rw [Int.toNat_natCast, Int.toNat_natCast]
          refine (mkM_put (j := j) (f := fun a b => if b < j ∨ b = j ∧ a < m then invI i d r a b else ptI (r a b))).trans ?_
          refine mkM_congr fun a b _ _ => ?_
          by_cases e : a = m ∧ b = j
          · obtain ⟨rfl, rfl⟩ := e
            rw [if_pos ⟨rfl, rfl⟩, if_pos (by omega)]; rfl
          · rw [if_neg e]
            by_cases c : b < j ∨ b = j ∧ a < m
            · rw [if_pos c, if_pos (by omega)]
            · rw [if_neg c, if_neg (by omega)]
        rw [eset]
        refine At.nat (by rw [mkM_len]; omega) fun q hq => ?_
        rw [mkM_get hmn] at hq
        cases hq
        refine At.nat (by rw [rowM_len]; omega) fun x hx => ?_
        rw [rowM_get hjn] at hx
        cases hx
        rw [if_pos (by omega)]
        refine Call.mk empty_ev ?_
        rw [beq_emp (ok_inv hr hmn hjn)]
        refine Br.d (fun _ => hr1) (fun hne => Let.as _ (wi1 (by omega)) (hk3 _ (by omega) ⟨?_, fun a ha => ?_⟩))
        · rw [Int.toNat_natCast]
          exact mkM_same (f := fun a b => if b < j ∨ b = j ∧ a < m + 1 then invI i d r a b else ptI (r a b))
        · by_cases c : a = m
          · subst c; exact (add_cases _ _).resolve_left hne
          · exact hR2 a (by omega)
      · refine Let.as _ (wi1 (by omega)) (hk _ (by omega) ⟨mkM_congr fun a b ha _ => ?_, fun a b ha hb => ?_⟩)
        · by_cases c : b < j + 1
          · rw [if_pos c, if_pos (by omega)]
          · rw [if_neg c, if_neg (by omega)]
        · by_cases c : b < j
          · exact hR a b ha c
          · have : b = j := by omega
            subst this; exact hR2 a (by omega)
  · have e : (mkM n fun a b => if b < j then invI n d r a b else ptI (r a b)) = mkM n (invI n d r) := mkM_congr fun a b _ hb => by rw [if_pos (by omega)]
    rw [e]
    exact hr2 fun a b ha hb => hR a b ha (by omega)
/-- What lin.Inverse yields. -/
theorem inverse_W (h1 : 1 ≤ n) (hn : n ≤ 24) (ha : SqF n a) {R : List (List GIval) × Int → Prop} (hr1 : R ([], 40))
    (hr2 : ∀ r, SqF n r → fI (dlt n r a) < 4602678819172646912 → (∀ i j, i < n → j < n → RIp (invI n (dlt n r a) r i j)) → R (mkM n (invI n (dlt n r a) r), 0)) : W_lin_Inverse (mkM n a) R := by
  unfold W_lin_Inverse
  have hl : (mkM n a).length = n := mkM_len
  refine Call.mk (floats_ev (SqF.ff hn ha.lt) (by omega)) ?_
  rw [ha.floats h1 hn]
  refine Br.f rfl (At.nat (i := 0) (by omega) fun q hq => ?_)
  rw [mkM_get (by omega)] at hq
  cases hq
  rw [hl, rowM_len]
  refine Br.f (by simp) ⟨sqF n, nearly_ev h1 hn ⟨hl, fun l hl => ?_, fun l hl b hb => ?_⟩, fun r0 hr0 => ?_⟩
  · obtain ⟨i, _, rfl⟩ := mem_mkM hl; exact rowM_len
  · obtain ⟨i, hi, rfl⟩ := mem_mkM hl
    obtain ⟨j, hj, rfl⟩ := mem_rowM hb
    exact ha.lt i j hi hj
  obtain ⟨k1, k2, k3⟩ := hr0
  have e0 := mk_entry 0 k1 k2
  generalize entry 0 r0 = r at e0
  subst e0
  have hrl : ∀ i j, i < n → j < n → r i j < 18446744073709551616 := fun i j hi hj => k3 _ (List.mem_of_getElem? (mkM_get hi)) _ (List.mem_of_getElem? (rowM_get hj))
  refine Call.mk (floats_ev (SqF.ff hn hrl) (by omega)) ?_
  cases hB : floatsB (mkM n r) with
  | false => exact Br.t rfl hr1
  | true =>
    have ht := floatsB_true hB
    have hr : SqF n r := ⟨hrl, fun i j hi hj => (ht.1 _ (List.mem_of_getElem? (mkM_get hi))).2 _ (List.mem_of_getElem? (rowM_get hj))⟩
    have p1 := points_ev (f := mkM n r) (SqF.ff hn hr.lt) (by omega)
    have p2 := points_ev (f := mkM n a) (SqF.ff hn ha.lt) (by omega)
    rw [if_pos (hr.floats h1 hn), ptsI_mk] at p1
    rw [if_pos (ha.floats h1 hn), ptsI_mk] at p2
    have okp : ∀ {f : Nat → Nat → Nat}, SqF n f → ∀ i j, i < n → j < n → okI (ptI (f i j)) := fun hf i j hi hj => ok_pt (hf.lt i j hi hj)
    have rp : ∀ {f : Nat → Nat → Nat}, SqF n f → ∀ i j, i < n → j < n → rightB (ptI (f i j)) = true := fun hf i j hi hj => rightB_of (pt_in (hf.lt i j hi hj) (hf.fin i j hi hj)).1
    have p3 := linmul_ev (okM_mk hn (okp hr)) (okM_mk hn (okp ha)) (by rw [mkM_len]; omega) (by rw [mkM_len]; omega)
    rw [if_pos (by unfold mmB; rw [matB_mk h1 hn (rp hr), matB_mk h1 hn (rp ha), headD_mk h1, rowM_len, mkM_len]; simp), mmI_mk h1] at p3
    have p4 := lessOne_ev h1 hn (f := prodI n r a) (fun i j _ _ => ok_prod i j)
    have p5 := norm_ev (m := mkM n (gM n r a)) (okM_mk hn fun i j _ _ => ok_g i j) (by rw [mkM_len]; omega)
    rw [if_pos (matB_mk h1 hn fun i j hi hj => rightB_of (g_in hr ha hi hj).1)] at p5
    refine Br.f rfl (Call.mk p1 (Call.mk p2 (Call.mk p3 (Call.mk p4 (Call.mk p5 ?_)))))
    have hd : NN (normI (mkM n (gM n r a))) := nn_dlt hn
    have e : (FloatKind.f64.format.order (normI (mkM n (gM n r a))) (4602678819172646912 : Nat) == some .lt) = decide (fI (dlt n r a) < 4602678819172646912) := by
      rw [fmt64, order_lt hd.n.l (by decide), decide_eq_decide, show fI 4602678819172646912 = 4602678819172646912 by decide]
      exact ⟨fun h => h.2.2, fun h => ⟨hd.n.n, by decide, h⟩⟩
    show Br (!(FloatKind.f64.format.order (normI (mkM n (gM n r a))) (4602678819172646912 : Nat) == some .lt)) _ _
    rw [e]
    by_cases c : fI (dlt n r a) < 4602678819172646912
    · rw [decide_eq_true c]
      refine Br.f rfl ?_
      exact tail_W h1 hn hr hd c hr1 fun h => hr2 r hr c h
    · rw [decide_eq_false c]
      exact Br.t rfl hr1
end
end Go.Sim.YtlkpbnhinnhlfaaGreat
