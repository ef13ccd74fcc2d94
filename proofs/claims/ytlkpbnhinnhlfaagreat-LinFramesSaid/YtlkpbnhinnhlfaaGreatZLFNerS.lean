/- What is proved: what lin.Frame yields of a square matrix is nearly orthogonal, of floats from -2 to 2. -/
import Derived.Test.YtlkpbnhinnhlfaaGreatZLFNerR
import Derived.Test.YtlkpbnhinnhlfaaGreatZLFWNf

namespace Go.Sim.YtlkpbnhinnhlfaaGreat
open Go.RowKit Go.Proofs Go.Proofs.Tryz
/-- As many floats, whatever they are. -/
def un (n : Nat) : List Unit := List.replicate n ()
theorem un_len (n : Nat) : (un n).length = n := List.length_replicate
theorem un_set {n i : Nat} : List.set (un n) (Int.toNat (i : Int)) () = un n := set_un
theorem un_at {n i : Nat} {k : Unit → Prop} (h : i < n) (hk : k ()) : At (un n) (i : Int) k := At.rep h hk
theorem sq_len (n : Nat) : (sq n).length = n := List.length_replicate
theorem sq_at {n i : Nat} {k : List Unit → Prop} (h : i < n) (hk : k (un n)) : At (sq n) (i : Int) k := At.rep h hk
theorem column_ev {n j : Nat} (hn : n ≤ 24) (hj : j < n) : Ev_lin_column (sq n) (j : Int) (un n, ()) := by
  refine walk_lin_column ?_
  unfold W_lin_column
  rw [sq_len]
  refine Loop2.up n (fun i v => v = un i) rfl ?_
  rintro i v k hi rfl hk
  refine Br.d (fun hlt => sq_at (by omega) (un_at hj (App.le (by omega) (by rw [un_len]; simp; omega) (un_at hj (Let.as _ (wi1 (by omega)) (hk _ (by omega) ?_)))))) (fun hge => ?_)
  · show List.replicate i () ++ [()] = List.replicate (i + 1) ()
    exact List.replicate_succ'.symm
  · have : i = n := by omega
    subst this; rfl
theorem scaledO_ev {n : Nat} (hn : n ≤ 24) : EvO_lin_scaled (un n) () (un n) := by
  refine walkO_lin_scaled ?_
  unfold W_lin_scaled
  rw [un_len]
  refine Mk.le (by omega) (by omega) ?_
  refine Loop2.up n (fun _ o => o = un n) rfl ?_
  rintro i o k hi rfl hk
  refine Br.d (fun hlt => un_at (by omega) (un_at (by omega) (Let.as _ (wi1 (by omega)) (hk _ (by omega) un_set)))) (fun _ => rfl)
theorem scaled_ev {n : Nat} (hn : n ≤ 24) : Ev_lin_scaled (un n) () (un n) := AFnO.dat (scaledO_ev hn)
/-- Rows as many and as long as they may be. -/
def RowsP (n : Nat) (cs : List (List Unit)) : Prop := ∀ r ∈ cs, r = un n
theorem RowsP.at {n : Nat} {cs : List (List Unit)} (h : RowsP n cs) {i : Nat} (hi : i < cs.length) {k : List Unit → Prop} (hk : k (un n)) : At cs (i : Int) k :=
  At.nat hi fun r hr => by rw [h r (List.mem_of_getElem? hr)]; exact hk
theorem apart_ev {n : Nat} (hn : n ≤ 24) {cs : List (List Unit)} (hc : RowsP n cs) (lc : cs.length ≤ 24) : EvS_lin_apart (un n) cs (fun r => r.2 = true → r.1 = un n) := by
  refine walkS_lin_apart ?_
  unfold W_lin_apart
  rw [un_len]
  refine Mk.le (by omega) (by omega) ?_
  refine ⟨rfl, Loop2.up 2 (fun _ w => w = un n) rfl ?_⟩
  rintro i w k hi rfl hk
  refine Br.d (fun hlt => ?_) (fun hge => ?_)
  · refine Loop2.up cs.length (fun _ w => w = un n) rfl ?_
    rintro j w k2 hj rfl hk2
    refine Br.d (fun hlt2 => hc.at (by omega) ?_) (fun hge2 => Let.as _ (wi1 (by omega)) (hk _ (by omega) rfl))
    rw [un_len]
    refine Loop1.up n (fun _ => True) trivial ?_
    intro m k3 hm _ hk3
    refine Br.d (fun hlt3 => un_at (by omega) (un_at (by omega) (Let.as _ (wi1 (by omega)) (hk3 (by omega) trivial)))) (fun hge3 => ?_)
    refine Loop2.up n (fun _ w => w = un n) rfl ?_
    rintro m2 w k4 hm2 rfl hk4
    exact Br.d (fun hlt4 => un_at (by omega) (un_at (by omega) (un_at (by omega) (Let.as _ (wi1 (by omega)) (hk4 _ (by omega) un_set))))) (fun hge4 => Let.as _ (wi1 (by omega)) (hk2 _ (by omega) rfl))
  · rw [un_len]
    refine Loop1.up n (fun _ => True) trivial ?_
    intro m k3 hm _ hk3
    refine Br.d (fun hlt3 => un_at (by omega) (Let.as _ (wi1 (by omega)) (hk3 (by omega) trivial))) (fun hge3 => ?_)
    exact ⟨fun h => (by cases h), fun h => (by cases h), Call.mk (scaledO_ev hn) fun _ => rfl⟩
theorem unitB_ev {n : Nat} (h : n ≤ 24) : EvB_lin_unit (n : Int) (sq n) := by
  have hu := unit_ev h
  refine ⟨hu.1, fun F w vs hg hv => (hu.2 F w vs hg hv).mono ?_⟩
  rintro e w' ⟨v, e1, e2, e3⟩
  refine ⟨v, e1, e2, ?_⟩
  have := fog_rep (T := 27) (E := 28) (r := unitL n) (fun l hl b hb => ok_unit n h l hl |>.1 b hb) _ _ _ e3
  have e : fogM (unitL n) = sq n := by
    unfold fogM unitL sq
    rw [List.map_map]
    refine List.eq_replicate_iff.2 ⟨by simp, fun b hb => ?_⟩
    obtain ⟨i, _, rfl⟩ := List.mem_map.1 hb
    simp only [Function.comp, List.map_map]
    exact List.eq_replicate_iff.2 ⟨by simp, fun _ _ => rfl⟩
  rw [e] at this
  exact this
theorem fog_mk {n : Nat} {a : Nat → Nat → Nat} : fogM (mkM n a) = sq n := by
  unfold fogM mkM sq
  rw [List.map_map]
  refine List.eq_replicate_iff.2 ⟨by simp, fun b hb => ?_⟩
  obtain ⟨i, _, rfl⟩ := List.mem_map.1 hb
  simp only [Function.comp, List.map_map]
  exact List.eq_replicate_iff.2 ⟨by simp, fun _ _ => rfl⟩
/-- What Frame yields. -/
def FrameP (n : Nat) (y : List (List Nat) × Int) : Prop := y.2 = 0 ∧ ∃ q, y.1 = mkM n q ∧ StrP n q
theorem frame_ev {n : Nat} (h1 : 1 ≤ n) (hn : n ≤ 24) {a : Nat → Nat → Nat} (ha : SqF n a) : EvS_lin_Frame (mkM n a) (FrameP n) := by
  refine walkS_lin_Frame ?_
  unfold W_lin_Frame
  have hl : (mkM n a).length = n := mkM_len
  refine Call.mk (floats_ev (SqF.ff hn ha.lt) (by omega)) ?_
  rw [ha.floats h1 hn]
  refine Br.f rfl (At.nat (i := 0) (by omega) fun r hr => ?_)
  rw [mkM_get (by omega)] at hr
  cases hr
  refine Br.f (by rw [hl, rowM_len]; simp) ⟨fun l hl b hb => (SqF.ff hn ha.lt l hl).1 b hb, ?_⟩
  rw [fog_mk]
  rintro _ rfl
  rw [sq_len]
  -- the order of the columns
  refine Loop2.up n (fun i o => o.length = i ∧ ∀ x ∈ o, ∃ m : Nat, m < n ∧ x = (m : Int)) ⟨rfl, fun x hx => (by cases hx)⟩ ?_
  rintro i o k hi ⟨ho1, ho2⟩ hk
  have oat : ∀ {j : Nat} {k : Int → Prop}, j < o.length → (∀ m : Nat, m < n → k (m : Int)) → At o (j : Int) k := fun hj hk => At.nat hj fun x hx => by
    obtain ⟨m, hm, rfl⟩ := ho2 x (List.mem_of_getElem? hx)
    exact hk m hm
  refine Br.d (fun hlt => ?_) (fun hge => ?_)
  · refine Call.mk (column_ev hn (by omega)) ⟨fun at' => ∃ m : Nat, at' = (m : Int) ∧ m ≤ o.length, ?_, ?_⟩
    · refine ⟨fun at' => ∃ m : Nat, at' = (m : Int) ∧ m ≤ o.length, fun z => z.toNat, ⟨_, rfl, Nat.le_refl _⟩, ?_⟩
      rintro _ ⟨m, rfl, hm⟩
      refine Br.d (fun h => ?_) (fun h => ⟨m, rfl, hm⟩)
      refine Let.as ((m - 1 : Nat) : Int) (by rw [wi (by omega) (by omega)]; omega) (oat (by omega) fun j hj => Call.mk (column_ev hn hj) ⟨⟨m, rfl, hm⟩, Let.as ((m - 1 : Nat) : Int) (by rw [wi (by omega) (by omega)]; omega) ⟨⟨m - 1, rfl, by omega⟩, ?_⟩⟩)
      simp only [Int.toNat_natCast]; omega
    · rintro _ ⟨m, rfl, hm⟩
      refine ⟨by omega, by omega, by omega, by omega, by omega, by omega, App.le (by omega) (by simp; omega) (App.le (by omega) (by simp; omega) (Let.as _ (wi1 (by omega)) (hk _ (by omega) ⟨?_, fun x hx => ?_⟩)))⟩
      · simp only [Int.toNat_natCast, List.length_append, List.length_take, List.length_drop, List.length_cons, List.length_nil]; omega
      · rw [Int.toNat_natCast] at hx
        simp only [List.mem_append, List.mem_singleton] at hx
        rcases hx with hx | rfl | hx
        · exact ho2 x (List.mem_of_mem_take hx)
        · exact ⟨i, by omega, rfl⟩
        · exact ho2 x (List.mem_of_mem_drop hx)
  · -- the columns
    have hin : o.length = n := by omega
    refine Loop2.up n (fun i cs => RowsP n cs ∧ cs.length ≤ i) ⟨fun r hr => (by cases hr), Nat.le_refl _⟩ ?_
    rintro i2 cs k2 hi2 ⟨hc1, hc2⟩ hk2
    have grow : ∀ {cs : List (List Unit)} {x : List Unit}, RowsP n cs → x = un n → RowsP n (cs ++ [x]) := fun h e r hr => by
      rcases List.mem_append.1 hr with hr | hr
      · exact h r hr
      · rw [List.mem_singleton.1 hr, e]
    refine Br.d (fun hlt => oat (by omega) fun m hm => ?_) (fun hge => ?_)
    · refine Call.mk (column_ev hn hm) (Call.mk (scaled_ev hn) ⟨_, apart_ev hn hc1 (by omega), fun y hy => ⟨fun h => ?_, fun h => Let.as _ (wi1 (by omega)) (hk2 _ (by omega) ⟨hc1, by omega⟩)⟩⟩)
      exact App.le (by omega) (by simp; omega) (Let.as _ (wi1 (by omega)) (hk2 _ (by omega) ⟨grow hc1 (hy h), by simp; omega⟩))
    · refine Call.mk (unitB_ev hn) ?_
      rw [sq_len]
      refine Loop2.up n (fun _ cs => RowsP n cs ∧ cs.length ≤ n) ⟨hc1, by omega⟩ ?_
      rintro i3 cs3 k3 hi3 ⟨hd1, hd2⟩ hk3
      refine Br.d (fun hlt => sq_at (by omega) ⟨_, apart_ev hn hd1 (by omega), fun y hy => ⟨fun h => Br.d (fun h2 => ?_) (fun h2 => Let.as _ (wi1 (by omega)) (hk3 _ (by omega) ⟨hd1, hd2⟩)), fun h => Let.as _ (wi1 (by omega)) (hk3 _ (by omega) ⟨hd1, hd2⟩)⟩⟩) (fun hge => ?_)
      · exact App.le (by omega) (by simp; omega) (Let.as _ (wi1 (by omega)) (hk3 _ (by omega) ⟨grow hd1 (hy h), by simp; omega⟩))
      · refine Call.mk (unitU_ev hn) (Loop2.up cs3.length (fun _ q => q = sq n) rfl ?_)
        rintro j q k4 hj rfl hk4
        refine Br.d (fun hlt => hd1.at (by omega) ?_) (fun hge => ?_)
        · rw [un_len]
          refine Loop2.up n (fun _ q => q = sq n) rfl ?_
          rintro i5 q k5 hi5 rfl hk5
          refine Br.d (fun hlt5 => sq_at (by omega) (un_at (by omega) (un_at (by omega) (Let.as _ (wi1 (by omega)) (hk5 _ (by omega) ?_))))) (fun hge5 => Let.as _ (wi1 (by omega)) (hk4 _ (by omega) rfl))
          rw [un_set]; exact set_sq
        · intro r hr1 hr2
          have hlr : r.length = n := by have := congrArg List.length hr1; simpa [sq] using this
          have hrow : ∀ l ∈ r, l.length = n := fun l hl => by
            have h2 : l.length ∈ r.map List.length := List.mem_map.2 ⟨l, hl, rfl⟩
            rw [hr1] at h2
            obtain ⟨u, hu, e⟩ := List.mem_map.1 h2
            rw [← e, (List.mem_replicate.1 hu).2]; exact un_len n
          have e0 := mk_entry (n := n) 0 hlr hrow
          generalize entry 0 r = q at e0
          subst e0
          have hq : ∀ i j, i < n → j < n → q i j < 18446744073709551616 := fun i j hi hj => hr2 _ (List.mem_of_getElem? (mkM_get hi)) _ (List.mem_of_getElem? (rowM_get hj))
          obtain ⟨b, b1, b2⟩ := straight_ev h1 hn hq
          refine ⟨fun x => x = false → StrP n q, Call.mk b1 ⟨fun h => fun h' => (by cases h'), fun h _ => b2.1 (by simpa using h)⟩, fun x hx => ⟨fun h => Call.mk (unit_ev hn) ⟨rfl, oneV, unitL_mk n, str_unit⟩, fun h => ⟨rfl, q, rfl, hx h⟩⟩⟩
end Go.Sim.YtlkpbnhinnhlfaaGreat

/- What is proved: the reference's negatives and differences of intervals, and its products of matrices as own rows. -/
namespace Go.Sim.YtlkpbnhinnhlfaaGreat
open Go.RowKit Go.Proofs Go.Proofs.Tryz
theorem sum_comm (x y : Ieee.Datum) : x.sum y = y.sum x := by
  cases x <;> cases y <;> simp only [Ieee.Datum.sum]
  · rename_i s m i t n j
    rw [Int.min_comm, Int.add_comm, Bool.and_comm]
  · rename_i s t
    by_cases h : s = t
    · rw [if_pos h, if_pos h.symm, h]
    · rw [if_neg h, if_neg fun e => h e.symm]
theorem rung_neg {b : Nat} (hb : b < 18446744073709551616) : rungB (Op.negFloat .f64 b) = rungB b ∧ negB (Op.negFloat .f64 b) = !negB b := by
  by_cases c : b < 9223372036854775808
  · rw [negF c]; unfold rungB negB
    rw [if_neg (by omega), if_pos c, decide_eq_true (by omega), decide_eq_false (by omega)]
    exact ⟨by omega, rfl⟩
  · rw [negW_hi (by omega) hb]; unfold rungB negB
    rw [if_pos (by omega), if_neg c, decide_eq_false (by omega), decide_eq_true (by omega)]
    exact ⟨by omega, rfl⟩
theorem read_neg {b : Nat} (hb : b < 18446744073709551616) : Ieee.double.read (Op.negFloat .f64 b) = (Ieee.double.read b).opposite := by
  obtain ⟨h1, h2⟩ := rung_neg hb
  rw [read_eq (negF_lt hb), read_eq hb, h1, h2]
  repeat' split
  all_goals rfl
theorem sub_zeroN {b : Nat} (hb : b < 18446744073709551616) (hn : isN b) : farith .sub .f64 0 b = some (cleanB (Op.negFloat .f64 b)) := by
  rw [← add_zeroX (negF_lt hb) (negW_N hb hn)]
  show Ieee.double.sub 0 b = Ieee.double.add _ 0
  unfold Ieee.Format.sub Ieee.Format.add
  rw [read_neg hb, sum_comm]
theorem clean_clean (b : Nat) : cleanB (cleanB b) = cleanB b := by
  unfold cleanB
  by_cases h : rungB b = 0
  · rw [if_pos h, if_pos (by decide)]
  · rw [if_neg h, if_neg h]
theorem make_clean (a b : Nat) : makeI (cleanB a) (cleanB b) = makeI a b := by
  unfold makeI; rw [clean_clean, clean_clean]
theorem refnegI_ev {x : GIval} (h : okI x) : Ev_ref02_Neg x (negI x) := by
  refine walk_ref02_Neg ?_
  unfold W_ref02_Neg
  refine Call.mk (refnone_ev h) ?_
  unfold negI noneB
  by_cases hr : RIp x
  · rw [if_pos hr, decide_eq_true hr]
    refine Br.f rfl ⟨_, sub_zeroN h.2 hr.2.1, _, sub_zeroN h.1 hr.1, Call.mk (refmake_ev (cleanB_lt (negF_lt h.2)) (cleanB_lt (negF_lt h.1))) ?_⟩
    exact make_clean _ _
  · rw [if_neg hr, decide_eq_false hr]
    exact Br.t rfl (Call.mk refempty_ev rfl)
theorem refsubI_ev {x y : GIval} (hx : okI x) (hy : okI y) : Ev_ref02_Sub x y (subI x y) := by
  refine walk_ref02_Sub ?_
  unfold W_ref02_Sub
  exact Call.mk (refnegI_ev hy) (Call.mk (refadd_ev02 hx (ok_neg hy)) rfl)
theorem set_last {α : Type} (l : List α) (x : α) : List.set (l ++ [x]) l.length x = l ++ [x] := by
  rw [List.set_append_right _ _ (Nat.le_refl _), Nat.sub_self]; rfl
theorem refmulR_ev {a b : List (List GIval)} (ha : okM a) (hb : okM b) (h : mmB a b = true) : EvR_ref04_Mul a b (mmI a b) := by
  unfold mmB at h
  rw [Bool.and_eq_true, Bool.and_eq_true, decide_eq_true_iff] at h
  obtain ⟨haB, hbB, hlen⟩ := h
  have hat := matB_true haB
  have hbt := matB_true hbB
  refine walkR_ref04_Mul ?_
  unfold WR_ref04_Mul
  unfold mmI
  refine Loop2.up a.length (fun i out => out = (a.take i).map (rowI b (b.headD []).length)) rfl ?_
  rintro i out k hi rfl hk
  refine Br.d (fun hlt => At.nat (by omega) fun r hr => At.nat (i := 0) (by omega) fun y0 hy0 => ?_) (fun hge => ?_)
  · have hr1 := ha r (List.mem_of_getElem? hr)
    have hr2 := hat.1 r (List.mem_of_getElem? hr)
    have hy1 := hbt.1 y0 (List.mem_of_getElem? hy0)
    have hyl := vecB_true hy1.1
    rw [headD_of hy0] at hbt hk ⊢
    refine Loop2.up y0.length (fun j row => row = rowI b j r) rfl ?_
    rintro j row k2 hj rfl hk2
    refine Br.d (fun hlt2 => ?_) (fun hge2 => ?_)
    · refine Loop2.up b.length (fun i c => c = (b.take i).map fun r => r.getD j EMP) rfl ?_
      rintro i3 c k3 hi3 rfl hk3
      refine Br.d (fun hlt3 => At.nat (by omega) fun s hs => ?_) (fun hge3 => ?_)
      · have hs1 := hbt.1 s (List.mem_of_getElem? hs)
        refine At.nat (by omega) fun z hz => App.le (by omega) (by simp; omega) (Let.as _ (wi1 (by omega)) (hk3 _ (by omega) ?_))
        rw [take_snoc hs, List.map_append, List.map_cons, List.map_nil, getD_at' hz]
      · have hcol : (b.take i3).map (fun r => r.getD j EMP) = colI b j := by rw [List.take_of_length_le (by omega)]; rfl
        rw [hcol]
        have hcl : (colI b j).length = b.length := by unfold colI; rw [List.length_map]
        refine Call.mk (refdot_ev hr1.1 (ok_col hb j) hr1.2 (by omega)) (App.le (by omega) (by unfold rowI; simp; omega) (Let.as _ (wi1 (by omega)) (hk2 _ (by omega) ?_)))
        rw [rowI_succ]
    · refine App.le (by omega) (by simp; omega) (Let.as _ (wi1 (by omega)) (hk _ (by omega) ?_))
      rw [set_last, take_snoc hr, List.map_append, show j = y0.length by omega]; rfl
  · show _ = _
    rw [List.take_of_length_le (by omega)]
theorem frame_bad {a : List (List Nat)} (hf : okFF a) (lf : a.length ≤ 9223372036854775807) (h : ¬ (floatsB a = true ∧ a.length = (a.headD []).length)) : EvS_lin_Frame a (fun y => y = ([], 1)) := by
  refine walkS_lin_Frame ?_
  unfold W_lin_Frame
  refine Call.mk (floats_ev hf lf) ?_
  cases hB : floatsB a with
  | false => exact Br.t rfl rfl
  | true =>
    have ht := floatsB_true hB
    refine Br.f rfl (At.nat (i := 0) (by omega) fun r hr => ?_)
    have e := headD_of hr
    have : a.length ≠ r.length := fun c => h ⟨hB, by rw [e]; exact c⟩
    exact Br.t (by simp; omega) rfl
end Go.Sim.YtlkpbnhinnhlfaaGreat

/- What is proved: LinFrames holds. -/
namespace Go.Sim.YtlkpbnhinnhlfaaGreat
open Go.RowKit Go.Proofs Go.Proofs.Tryz
theorem squareF_ev {a : List (List Nat)} (hf : okFF a) (lf : a.length ≤ 9223372036854775807) : Ev_law04_square a (floatsB a && decide (a.length = (a.headD []).length)) := by
  refine walk_law04_square ?_
  unfold W_law04_square
  refine Call.mk (reffloats_ev hf lf) ?_
  cases hB : floatsB a with
  | false => exact Br.f rfl rfl
  | true =>
    have ht := floatsB_true hB
    refine Br.t rfl (At.nat (i := 0) (by omega) fun r hr => ?_)
    rw [headD_of hr]
    show _ = _
    rw [Bool.true_and, Bool.eq_iff_iff, beq_iff_eq, decide_eq_true_iff]
    omega
theorem within {v : Nat} (hv : v < 18446744073709551616) (h : fI (rungB v) ≤ 4611686018427387904) : ¬ fI v < -4611686018427387904 ∧ ¬ 4611686018427387904 < fI v := by
  rw [fI_small (rung_lt hv)] at h
  have := rung_abs v
  omega
theorem linFrames_ev (a0 : List (List Nat)) (h : a0.length ≤ maxLen ∧ ∀ r ∈ a0, (r.length ≤ maxLen ∧ ∀ z ∈ r, okFlt z)) : Ev_law04_LinFrames a0 true := by
  have hf : okFF a0 := fun r hr => ⟨fun v hv => okF.1 ((h.2 r hr).2 v hv), (h.2 r hr).1⟩
  have lf : a0.length ≤ 9223372036854775807 := h.1
  refine AFnS.det (AFnS.mono (walkS_law04_LinFrames (R := fun b => b = true) ?_) (by rintro y ⟨b, rfl, rfl⟩; rfl))
  unfold W_law04_LinFrames
  by_cases c : ¬ (floatsB a0 = true ∧ a0.length = (a0.headD []).length)
  · refine ⟨_, frame_bad hf lf c, ?_⟩
    rintro _ rfl
    refine Call.mk (squareF_ev hf lf) (Br.t ?_ (Br.t rfl rfl))
    cases h1 : floatsB a0 with
    | false => rfl
    | true => rw [Bool.true_and, decide_eq_false (fun h2 => c ⟨h1, h2⟩)]; rfl
  obtain ⟨hB, hsq⟩ := Classical.not_not.1 c
  have hsqe := squareF_ev hf lf
  rw [hB, decide_eq_true hsq] at hsqe
  have ht := floatsB_true hB
  obtain ⟨n, hn⟩ : ∃ n, a0.length = n := ⟨_, rfl⟩
  have h1 : 1 ≤ n := by rw [← hn]; exact ht.2.1.1
  have h24 : n ≤ 24 := by rw [← hn]; exact ht.2.1.2
  have e0 := mk_entry (n := n) 0 hn (fun r hr => by rw [(ht.1 r hr).1, ← hsq]; exact hn)
  generalize entry 0 a0 = a at e0
  subst e0
  have ha : SqF n a := ⟨fun i j hi hj => (hf _ (List.mem_of_getElem? (mkM_get hi))).1 _ (List.mem_of_getElem? (rowM_get hj)), fun i j hi hj => (ht.1 _ (List.mem_of_getElem? (mkM_get hi))).2 _ (List.mem_of_getElem? (rowM_get hj))⟩
  refine ⟨_, frame_ev h1 h24 ha, ?_⟩
  rintro ⟨Y, e⟩ ⟨rfl, q, rfl, hq, hq2, hq3⟩
  have hl : (mkM n q).length = n := mkM_len
  have hqB := hq.floats h1 h24
  have hsq2 := squareF_ev (a := mkM n q) (SqF.ff h24 hq.lt) (by omega)
  rw [hqB, headD_mk h1, rowM_len, hl, decide_eq_true rfl] at hsq2
  refine Call.mk hsqe (Br.f rfl (Br.f rfl (Call.mk hsq2 (Br.f rfl (Br.f (by rw [hl, hn]; simp) ?_)))))
  simp only [hl]
  -- the columns as rows
  refine Loop2.up n (fun i t => t = (List.range i).map fun a => (List.range n).map fun c => q c a) rfl ?_
  rintro i t k hi rfl hk
  refine Br.d (fun hlt => ?_) (fun hge => ?_)
  · have hin : i < n := by omega
    refine Loop2.up n (fun j r => r = (List.range j).map fun c => q c i) rfl ?_
    rintro j r k2 hj rfl hk2
    refine Br.d (fun hlt2 => ?_) (fun hge2 => ?_)
    · have hjn : j < n := by omega
      refine At.nat (by omega) fun r hr => ?_
      rw [mkM_get hjn] at hr
      cases hr
      refine At.nat (by rw [rowM_len]; omega) fun x hx => ?_
      rw [rowM_get hin] at hx
      cases hx
      refine App.le (by omega) (by simp; omega) (At.nat (by omega) fun r hr => ?_)
      rw [mkM_get hin] at hr
      cases hr
      refine At.nat (by rw [rowM_len]; omega) fun x hx => ?_
      rw [rowM_get hjn] at hx
      cases hx
      obtain ⟨w1, w2⟩ := within (hq.lt i j hin hjn) (hq2 i j hin hjn)
      rw [fmt64, order_lt (hq.lt i j hin hjn) (by decide), show fI 13835058055282163712 = -4611686018427387904 by decide]
      refine Br.dF (fun h => w1 h.2.2) (At.nat (by omega) fun r hr => ?_)
      rw [mkM_get hin] at hr
      cases hr
      refine At.nat (by rw [rowM_len]; omega) fun x hx => ?_
      rw [rowM_get hjn] at hx
      cases hx
      rw [order_gt (hq.lt i j hin hjn) (by decide), show fI 4611686018427387904 = 4611686018427387904 by decide]
      refine Br.dF (fun h => w2 h.2.2) (Let.as _ (wi1 (by omega)) (hk2 _ (by omega) ?_))
      rw [List.range_succ, List.map_append]; rfl
    · have : j = n := by omega
      subst this
      refine App.le (by omega) (by simp; omega) (Let.as _ (wi1 (by omega)) (hk _ (by omega) ?_))
      rw [List.range_succ (n := i), List.map_append]; rfl
  · have hi' : i = n := by omega
    subst hi'
    have hT : SqF i (fun a c => q c a) := ⟨fun a c ha hc => hq.lt c a hc ha, fun a c ha hc => hq.fin c a hc ha⟩
    have et : ((List.range i).map fun a => (List.range i).map fun c => q c a) = mkM i fun a c => q c a := rfl
    rw [et]
    have p1 := refpoints_ev (f := mkM i fun a c => q c a) (SqF.ff h24 hT.lt) (by rw [mkM_len]; omega)
    have p2 := refpoints_ev (f := mkM i q) (SqF.ff h24 hq.lt) (by omega)
    rw [if_pos (hT.floats h1 h24), ptsI_mk] at p1
    rw [if_pos hqB, ptsI_mk] at p2
    have okp : ∀ {f : Nat → Nat → Nat}, SqF i f → ∀ a c, a < i → c < i → okI (ptI (f a c)) := fun hf a c ha hc => ok_pt (hf.lt a c ha hc)
    have rp : ∀ {f : Nat → Nat → Nat}, SqF i f → ∀ a c, a < i → c < i → rightB (ptI (f a c)) = true := fun hf a c ha hc => rightB_of (pt_in (hf.lt a c ha hc) (hf.fin a c ha hc)).1
    have p3 := refmulR_ev (okM_mk h24 (okp hT)) (okM_mk h24 (okp hq)) (by unfold mmB; rw [matB_mk h1 h24 (rp hT), matB_mk h1 h24 (rp hq), headD_mk h1, rowM_len, mkM_len]; simp)
    rw [mmI_mk h1] at p3
    have p4 := refone_ev (n := i) h24
    have eo : oneI i = mkM i fun a c => ptI (oneV a c) := by unfold oneI; rw [unitL_mk, ptsI_mk]
    rw [eo] at p4
    refine Call.mk p1 (Call.mk p2 (Call.mk p3 (Call.mk p4 ?_)))
    obtain ⟨f, ef⟩ : ∃ f, f = prodI i (fun a c => q c a) q := ⟨_, rfl⟩
    have hfok : ∀ a c, okI (f a c) := fun a c => by rw [ef]; exact ok_prod a c
    have em : (mkM i fun a c => dotI ((List.range i).map fun k => ptI (q k a)) ((List.range i).map fun k => ptI (q k c))) = mkM i f := by rw [ef]; rfl
    show Loop2 (mkM i fun a c => dotI ((List.range i).map fun k => ptI (q k a)) ((List.range i).map fun k => ptI (q k c))) _ _
    rw [em]
    simp only [mkM_len]
    refine Loop2.up i (fun m out => out = mkM i fun a b => if a < m then subI (ptI (oneV a b)) (f a b) else f a b) (mkM_congr fun a b _ _ => by simp) ?_
    rintro m out k hm rfl hk
    refine Br.d (fun hlt => At.nat (by rw [mkM_len]; omega) fun r hr => ?_) (fun hge => ?_)
    · have hin : m < i := by omega
      rw [mkM_get hin] at hr
      cases hr
      rw [Int.toNat_natCast, mkM_same, rowM_len]
      refine Loop2.up i (fun j out => out = mkM i fun a b => if a < m ∨ a = m ∧ b < j then subI (ptI (oneV a b)) (f a b) else f a b) (mkM_congr fun a b _ _ => by simp) ?_
      rintro j out k2 hj rfl hk2
      refine Br.d (fun hlt2 => ?_) (fun hge2 => ?_)
      · have hjn : j < i := by omega
        refine At.nat (by rw [mkM_len]; omega) fun r hr => ?_
        rw [mkM_get hin] at hr
        cases hr
        refine At.nat (by rw [mkM_len]; omega) fun r hr => ?_
        rw [mkM_get hin] at hr
        cases hr
        refine At.nat (by rw [rowM_len]; omega) fun x hx => ?_
        rw [rowM_get hjn] at hx
        cases hx
        refine At.nat (by rw [rowM_len]; omega) fun y hy => ?_
        rw [rowM_get hjn, if_neg (by omega)] at hy
        cases hy
        refine Call.mk (refsubI_ev (ok_pt (oneV_lt m j)) (hfok m j)) (At.nat (by rw [rowM_len]; omega) fun z _ => Let.as _ (wi1 (by omega)) (hk2 _ (by omega) ?_))
        refine (mkM_put (j := j) (f := fun a b => if a < m ∨ a = m ∧ b < j then subI (ptI (oneV a b)) (f a b) else f a b)).trans ?_
        refine mkM_congr fun a b _ _ => ?_
        by_cases e : a = m ∧ b = j
        · obtain ⟨rfl, rfl⟩ := e; simp
        · rw [if_neg e]
          by_cases c : a < m ∨ a = m ∧ b < j
          · rw [if_pos c, if_pos (by omega)]
          · rw [if_neg c, if_neg (by omega)]
      · refine Let.as _ (wi1 (by omega)) (hk _ (by omega) ?_)
        refine mkM_congr fun a b _ hb => ?_
        by_cases c : a < m + 1
        · rw [if_pos c, if_pos (by omega)]
        · rw [if_neg c, if_neg (by omega)]
    · have : m = i := by omega
      subst this
      have eg : (mkM m fun a b => if a < m then subI (ptI (oneV a b)) (f a b) else f a b) = mkM m (gM m (fun a c => q c a) q) := mkM_congr fun a b ha _ => by rw [if_pos ha, ef]; rfl
      rw [eg]
      have p5 := refnorm_ev (m := mkM m (gM m (fun a c => q c a) q)) (okM_mk h24 fun a c _ _ => ok_g a c) (by rw [mkM_len]; omega)
      refine Call.mk p5 (Call.mk ldexp20 ?_)
      have hd : NN (normI (mkM m (gM m (fun a c => q c a) q))) := nn_dlt h24
      show _ = true
      rw [le_lim hd]
      exact decide_eq_true hq3
end Go.Sim.YtlkpbnhinnhlfaaGreat
