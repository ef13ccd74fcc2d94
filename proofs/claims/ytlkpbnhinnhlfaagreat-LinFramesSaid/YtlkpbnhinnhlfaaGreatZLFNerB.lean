/- What is proved: lin.nearly yields a matrix of as many rows and columns as its argument, whatever its floats are. -/
import Derived.Test.YtlkpbnhinnhlfaaGreatZLFFltD
import Derived.Test.YtlkpbnhinnhlfaaGreatZLFWNr
import Derived.Test.YtlkpbnhinnhlfaaGreatZLFLinY
import Derived.Test.YtlkpbnhinnhlfaaGreatZLFWE

namespace Go.Sim.YtlkpbnhinnhlfaaGreat
open Go.RowKit Go.Proofs Go.Proofs.Tryz
theorem unit_W {n : Nat} (h : n ≤ 24) : W_lin_unit (n : Int) (fun r => r = unitL n) := by
  unfold W_lin_unit
  refine Mk.le (by omega) (by omega) ?_
  rw [List.length_replicate]
  refine Loop2.up n (fun i out => out = ((List.range i).map fun i => (List.range n).map (oneV i)) ++ List.replicate (n - i) []) (by simp) ?_
  rintro i out k hi rfl hk
  have hlt' : ((List.range i).map fun i => (List.range n).map (oneV i)).length = i := by simp
  refine Br.d (fun hlt => ?_) (fun hge => ?_)
  · rw [rep_mid (by omega)]
    refine At.nat (by simp) fun z hz => Mk.le (by omega) (by omega) ?_
    rw [Int.toNat_natCast, set_mid hlt']
    refine At.nat (by simp) fun y hy => ?_
    rw [get_mid hlt'] at hy
    cases hy
    refine At.nat (by simp; omega) fun y hy => Let.as _ (wi1 (by omega)) (hk _ (by omega) ?_)
    rw [set_mid hlt', unit_row (by omega), List.range_succ, List.map_append, List.append_assoc]; rfl
  · show _ = _
    have : i = n := by omega
    subst this
    rw [Nat.sub_self]; simp [unitL]
theorem unitR_ev {n : Nat} (h : n ≤ 24) : EvR_lin_unit (n : Int) (unitL n) := walkR_lin_unit (unit_W h)
/-- Rows of floats that are not known. -/
def sq (n : Nat) : List (List Unit) := List.replicate n (List.replicate n ())
theorem unitU_ev {n : Nat} (h : n ≤ 24) : EvU_lin_unit (n : Int) (sq n) := by
  refine (unitR_ev h).blind ?_ (fun l hl b hb => ok_unit n h l hl |>.1 b hb)
  rw [sq, unitL, List.map_replicate, List.length_replicate, List.map_map]
  refine (List.eq_replicate_iff.2 ⟨by simp, fun b hb => ?_⟩).symm
  obtain ⟨i, _, rfl⟩ := List.mem_map.1 hb
  simp
theorem At.rep {α : Type} {a : α} {n i : Nat} {k : α → Prop} (h : i < n) (hk : k a) : At (List.replicate n a) (i : Int) k :=
  At.nat (by simpa using h) fun x hx => by rw [(List.mem_replicate.1 (List.mem_of_getElem? hx)).2]; exact hk
theorem set_sq {n i : Nat} : List.set (sq n) (Int.toNat (i : Int)) (List.replicate n ()) = sq n := by rw [Int.toNat_natCast, sq, List.set_replicate_self]
theorem set_un {n i : Nat} : List.set (List.replicate n ()) (Int.toNat (i : Int)) () = List.replicate n () := by rw [Int.toNat_natCast, List.set_replicate_self]
theorem Loop1.rep {b : Int → (Int → Prop) → Prop} (n : Nat) (st : ∀ (i : Nat) (k : Int → Prop), i ≤ n → (i + 1 ≤ n → k ((i + 1 : Nat) : Int)) → b (i : Int) k) : Loop1 (0 : Int) b :=
  Loop1.up n (fun _ => True) trivial fun i k hi _ hk => st i k hi fun h => hk h trivial
/-- A loop that counts, and keeps two matrices. -/
theorem Loop3.sq {n : Nat} {X Y : List (List Unit)} {b : List (List Unit) → List (List Unit) → Int → (List (List Unit) → List (List Unit) → Int → Prop) → Prop}
    (st : ∀ (i : Nat) (k : List (List Unit) → List (List Unit) → Int → Prop), i ≤ n → (i + 1 ≤ n → k X Y ((i + 1 : Nat) : Int)) → b X Y (i : Int) k) : Loop3 X Y (0 : Int) b := by
  refine ⟨fun x y z => ∃ j : Nat, z = (j : Int) ∧ j ≤ n ∧ x = X ∧ y = Y, fun _ _ z => n - z.toNat, ⟨0, rfl, Nat.zero_le _, rfl, rfl⟩, ?_⟩
  rintro _ _ _ ⟨j, rfl, hj, rfl, rfl⟩
  refine st j _ hj fun h => ⟨⟨j + 1, rfl, h, rfl, rfl⟩, ?_⟩
  simp only [Int.toNat_natCast]; omega
end Go.Sim.YtlkpbnhinnhlfaaGreat

/- What is proved: functions of the program compute what plain statements tell. -/
namespace Go.Sim.YtlkpbnhinnhlfaaGreat
open Go.RowKit Go.Proofs Go.Proofs.Tryz
set_option maxRecDepth 100000
def W_lin_lessOne (m1 : List (List GIval)) (Q : List (List GIval) → Prop) : Prop :=
 Call (EvR_lin_One ((m1.length : Nat) : Int)) fun x3 =>
 Loop2 x3 (0 : Int) (fun (out680 : List (List GIval)) (x681 : Int) next682 =>
  Br (decide (x681 < ((x3.length : Nat) : Int))) (
   At out680 x681 fun x794 =>
   Loop2 (List.set out680 (Int.toNat x681) x794) (0 : Int) (fun (out849 : List (List GIval)) (x850 : Int) next851 =>
    Br (decide (x850 < ((x794.length : Nat) : Int))) (
     At out849 x681 fun x876 =>
     At x876 x850 fun x885 =>
     At m1 x681 fun x888 =>
     At x888 x850 fun x891 =>
     Call (Ev_ival_Sub x885 x891) fun x893 =>
     At x876 x850 fun x896 =>
     Let (IntKind.i64.wrap (x850 + (1 : Int))) fun x898 =>
     next851 (List.set out849 (Int.toNat x681) (List.set x876 (Int.toNat x850) x893)) x898) (
     Let (IntKind.i64.wrap (x681 + (1 : Int))) fun x899 =>
     next682 out849 x899))) (
   Q out680))
theorem walk_lin_lessOne {m1 : List (List GIval)} {r : List (List GIval)} (h : W_lin_lessOne m1 (fun r' => r' = r)) : Ev_lin_lessOne m1 r := by
  unfold W_lin_lessOne at h
  refine intr (L := [(0, .dat (.sl 33 1 (List.map (eSl 35 2 GIval.enc) m1)))]) Tryz.func35 Tryz.ntmps35 ?_
  refine sN (pS rfl (dn (AWp.seq (rN (pS rfl (al (((m1.length : Nat) : Int)) rfl ?_))))))
  obtain ⟨x3, hc4, h⟩ := h
  refine AOps.callRR hc4 rfl rfl rfl rfl ⟨.inl rfl, trivial⟩ ?_
  refine pO rfl (dn (AWp.seq (AWp.seq (rN (pO rfl (al (((x3.length : Nat) : Int)) rfl (pI rfl (dn (AWp.block ?_)))))))))
  obtain ⟨I904, x905, hz906, hr907⟩ := h
  refine AWp.loop (I := fun p : (List (List GIval)) × Int => mkSt [(0, .dat (.sl 33 1 (List.map (eSl 35 2 GIval.enc) m1))), (3, .oref 1003), (10, .dat (.v (.int .i64 ((x3.length : Nat) : Int)))), (11, .dat (.v (.int .i64 p.2)))] [(1003, .rr 33 35 2 (List.map (List.map GIval.enc) p.1) [])]) (Inv := fun p => I904 p.1 p.2) (μ := fun p => x905 p.1 p.2) (x0 := ⟨x3, (0 : Int)⟩) hz906 (slf (fun i => (if Nat.beq i 1003 then 8 else i))) (fun p hp => ?_)
  obtain ⟨out680, x681⟩ := p
  have h := hr907 out680 x681 hp
  refine sN (pW rfl (dn (AWp.seq (cB h (fun h => ?_) (fun h => ?_)))))
  · refine AWp.skip (AWp.seq (AWp.block (AWp.seq (rN (pI rfl (pI rfl (dn (AWp.seq ?_))))))))
    obtain ⟨hi793, x794, hx795, h⟩ := h
    refine AWp.sub (Sub.lend (id := 1003) (d := 5795) (m := (Int.toNat x681)) rfl rfl (mm_get hx795) holeAt_nil) ?_
    refine rN (pO rfl (pI rfl ?_))
    refine AOps.idxrr tabOk rfl rfl rfl rfl rfl rfl rfl rfl hi793 (mm_lt hi793 hx795) rfl ?_
    refine AOps.loadrr tabOk rfl rfl rfl rfl rfl rfl rfl (mm_lt2 hx795) holeAt_hd ?_
    refine al (((x794.length : Nat) : Int)) rfl (pI rfl (dn ?_))
    refine AWp.sub (Sub.unlend (id := 1003) (d := 5795) (m := (Int.toNat x681)) rfl rfl holeAt_nil mm_set) ?_
    refine AWp.block ?_
    obtain ⟨I900, x901, hz902, hr903⟩ := h
    refine AWp.loop (I := fun p : (List (List GIval)) × Int => mkSt [(0, .dat (.sl 33 1 (List.map (eSl 35 2 GIval.enc) m1))), (3, .oref 1003), (4, .dat (.v (.int .i64 x681))), (10, .dat (.v (.int .i64 ((x3.length : Nat) : Int)))), (11, .dat (.v (.int .i64 x681))), (18, .dat (.v (.int .i64 ((x794.length : Nat) : Int)))), (19, .dat (.v (.int .i64 p.2)))] [(1003, .rr 33 35 2 (List.map (List.map GIval.enc) p.1) [])]) (Inv := fun p => I900 p.1 p.2) (μ := fun p => x901 p.1 p.2) (x0 := ⟨(List.set out680 (Int.toNat x681) x794), (0 : Int)⟩) hz902 sl (fun p hp => ?_)
    obtain ⟨out849, x850⟩ := p
    have h := hr903 out849 x850 hp
    refine sN (pW rfl (dn (AWp.seq (cB h (fun h => ?_) (fun h => ?_)))))
    · refine AWp.skip (AWp.seq (AWp.block (AWp.seq (rN (pI rfl (pI rfl (dn ?_)))))))
      obtain ⟨hi875, x876, hx877, h⟩ := h
      refine AWp.sub (Sub.lend (id := 1003) (d := 5877) (m := (Int.toNat x681)) rfl rfl (mm_get hx877) holeAt_nil) ?_
      refine rE [(0, []), (3, [1003]), (4, []), (5, []), (22, [1003]), (23, []), (26, []), (27, [1003]), (28, []), (31, []), (34, []), (35, []), (38, [])] (pO rfl (pI rfl ?_))
      refine AOps.idxrr tabOk rfl rfl rfl rfl rfl rfl rfl rfl hi875 (mm_lt hi875 hx877) rfl ?_
      refine AOps.loadrr tabOk rfl rfl rfl rfl rfl rfl rfl (mm_lt2 hx877) holeAt_hd ?_
      refine pI rfl (pO rfl (pI rfl ?_))
      refine AOps.idxrr tabOk rfl rfl rfl rfl rfl rfl rfl rfl hi875 (mm_lt hi875 hx877) rfl ?_
      refine AOps.loadrr tabOk rfl rfl rfl rfl rfl rfl rfl (mm_lt2 hx877) holeAt_hd ?_
      refine pI rfl ?_
      obtain ⟨hi884, x885, hx886, h⟩ := h
      refine AOps.idxown tabOk rfl rfl rfl rfl rfl rfl rfl rfl hi884 (map_lt hi884 hx886) rfl ?_
      refine AOps.loadrow tabOk rfl rfl rfl rfl rfl rfl rfl (map_get hx886) rfl ?_
      refine pS rfl (pI rfl (kI h map_get rfl rfl rfl rfl rfl rfl rfl fun x888 h => ?_))
      refine pS rfl (pI rfl (kI h map_get rfl rfl rfl rfl rfl rfl rfl fun x891 h => ?_))
      refine pT rfl (kC h rfl ⟨.inl rfl, .inl rfl, trivial⟩ rfl fun x893 h => ?_)
      obtain ⟨hi895, x896, hx897, h⟩ := h
      refine AOps.idxown tabOk rfl rfl rfl rfl rfl rfl rfl rfl hi895 (map_lt hi895 hx897) rfl ?_
      refine AOps.storerow tabOk rfl rfl rfl rfl rfl rfl rfl rfl (map_lt2 hx897) rfl rfl rfl (map_set1 (e := GIval.enc) (x := x893)) ?_
      refine dn (AWp.sub (Sub.unlend (id := 1003) (d := 5877) (m := (Int.toNat x681)) rfl rfl holeAt_nil mm_set) ?_)
      refine rN ?_
      obtain ⟨x898, ex898, h⟩ := h.get
      refine ai ex898 rfl (pI rfl (dn ?_))
      exact ⟨⟨(List.set out849 (Int.toNat x681) (List.set x876 (Int.toNat x850) x893)), x898⟩, h.1, h.2, sl⟩
    refine AWp.exit ?_
    refine rN ?_
    obtain ⟨x899, ex899, h⟩ := h.get
    refine ai ex899 rfl (pI rfl (dn ?_))
    exact ⟨⟨out849, x899⟩, h.1, h.2, sl⟩
  refine AWp.exit ?_
  refine sN (pO rfl (pO rfl (dn ?_)))
  refine AWp.freezerr 2 1003 rfl rfl mm_sl ?_
  subst h; exact AWp.ret ⟨_, rfl, rfl⟩
def W_law04_square (a1 : List (List Nat)) (Q : Bool → Prop) : Prop :=
 Call (Ev_ref04_Floats a1) fun x9 =>
 Br x9 (
  At a1 (0 : Int) fun x13 =>
  Q (((a1.length : Nat) : Int) == ((x13.length : Nat) : Int))) (
  Q false)
theorem walk_law04_square {a1 : List (List Nat)} {r : Bool} (h : W_law04_square a1 (fun r' => r' = r)) : Ev_law04_square a1 r := by
  unfold W_law04_square at h
  refine intr (L := [(0, .dat (.sl 27 1 (List.map (eSl 28 1 (eFlt .f64)) a1)))]) Tryz.func6 Tryz.ntmps6 ?_
  refine sN (pB rfl (dn (AWp.seq (rN (pS rfl (kC h rfl ⟨.inl rfl, trivial⟩ rfl fun x9 h => ?_))))))
  refine pB rfl (sB 5 h (fun h => ?_) (fun h => ?_))
  · refine pS rfl (al (((a1.length : Nat) : Int)) rfl (pS rfl (kI h map_get rfl rfl rfl rfl rfl rfl rfl fun x13 h => ?_)))
    refine pS rfl (al (((x13.length : Nat) : Int)) rfl (pB rfl (pB rfl (pB rfl (dn (AWp.ret ?_))))))
    subst h
    exact ⟨_, rfl, rfl⟩
  refine fo 7 rfl (pB rfl (pB rfl (dn (AWp.ret ?_))))
  subst h
  exact ⟨_, rfl, rfl⟩
end Go.Sim.YtlkpbnhinnhlfaaGreat

/- What is proved: square matrices as lists of rows, and what becomes of them where one place is written. -/
namespace Go.Sim
/-- The matrix of a function's values. -/
def mkM {α : Type} (n : Nat) (f : Nat → Nat → α) : List (List α) := (List.range n).map fun i => (List.range n).map (f i)
section
variable {α β : Type} {n : Nat}
theorem rowM_get {h : Nat → α} {j : Nat} (hj : j < n) : ((List.range n).map h)[j]? = some (h j) := by rw [List.getElem?_map, List.getElem?_range hj]; rfl
theorem mkM_get {f : Nat → Nat → α} {i : Nat} (hi : i < n) : (mkM n f)[i]? = some ((List.range n).map (f i)) := rowM_get hi
theorem mkM_len {f : Nat → Nat → α} : (mkM n f).length = n := by simp [mkM]
theorem rowM_len {h : Nat → α} : ((List.range n).map h).length = n := by simp
theorem rowM_congr {h g : Nat → α} (e : ∀ b, b < n → h b = g b) : (List.range n).map h = (List.range n).map g :=
  List.map_congr_left fun b hb => e b (List.mem_range.1 hb)
theorem mkM_congr {f g : Nat → Nat → α} (e : ∀ a b, a < n → b < n → f a b = g a b) : mkM n f = mkM n g :=
  rowM_congr fun a ha => rowM_congr fun b hb => e a b ha hb
theorem rowM_set {h : Nat → α} {j : Nat} {v : α} : ((List.range n).map h).set j v = (List.range n).map (fun b => if b = j then v else h b) := by
  refine List.ext_getElem? fun k => ?_
  rw [List.getElem?_set]
  by_cases hk : k < n
  · by_cases e : j = k
    · subst e
      rw [if_pos rfl, if_pos (by simpa using hk), rowM_get hk, if_pos rfl]
    · rw [if_neg e, rowM_get hk, rowM_get hk, if_neg (fun h => e h.symm)]
  · rw [List.getElem?_eq_none (l := List.map _ _) (by simpa using hk), List.getElem?_eq_none (l := List.map _ _) (by simpa using hk)]
    split
    · rw [if_neg (by simp; omega)]
    · rfl
theorem mkM_set {f : Nat → Nat → α} {i : Nat} {h : Nat → α} : (mkM n f).set i ((List.range n).map h) = mkM n (fun a b => if a = i then h b else f a b) := by
  unfold mkM
  rw [rowM_set]
  refine rowM_congr fun a _ => ?_
  by_cases e : a = i
  · simp only [if_pos e]
  · simp only [if_neg e]
theorem mkM_same {f : Nat → Nat → α} {i : Nat} : (mkM n f).set i ((List.range n).map (f i)) = mkM n f := by
  rw [mkM_set]
  exact mkM_congr fun a b _ _ => by split <;> simp_all
/-- One place is written. -/
theorem mkM_put {f : Nat → Nat → α} {i j : Nat} {v : α} : (mkM n f).set i (((List.range n).map (f i)).set j v) = mkM n (fun a b => if a = i ∧ b = j then v else f a b) := by
  rw [rowM_set, mkM_set]
  refine mkM_congr fun a b _ _ => ?_
  by_cases e : a = i
  · subst e; simp
  · simp [e]
/-- What stands at a place. -/
def entry (d : α) (m : List (List α)) (i j : Nat) : α := ((m[i]?).getD [])[j]?.getD d
theorem row_mk (d : α) {l : List α} (h : l.length = n) : l = (List.range n).map (fun j => l[j]?.getD d) := by
  refine List.ext_getElem? fun k => ?_
  by_cases hk : k < n
  · rw [rowM_get hk, List.getElem?_eq_getElem (by omega)]; rfl
  · rw [List.getElem?_eq_none (by omega), List.getElem?_eq_none (by simpa using hk)]
theorem mk_entry (d : α) {m : List (List α)} (h : m.length = n) (hr : ∀ r ∈ m, r.length = n) : m = mkM n (entry d m) := by
  refine List.ext_getElem? fun k => ?_
  by_cases hk : k < n
  · rw [mkM_get hk, List.getElem?_eq_getElem (by omega)]
    rw [row_mk d (hr m[k] (List.getElem_mem (by omega)))]
    unfold entry
    rw [List.getElem?_eq_getElem (by omega)]
    simp
  · rw [List.getElem?_eq_none (by omega), List.getElem?_eq_none (by rw [mkM_len]; omega)]
theorem map_mkM {f : Nat → Nat → α} {g : α → β} : (mkM n f).map (List.map g) = mkM n (fun i j => g (f i j)) := by
  unfold mkM; rw [List.map_map]
  refine List.map_congr_left fun i _ => ?_
  simp only [Function.comp, List.map_map]
  rfl
theorem mem_mkM {f : Nat → Nat → α} {r : List α} (h : r ∈ mkM n f) : ∃ i, i < n ∧ r = (List.range n).map (f i) := by
  obtain ⟨i, hi, rfl⟩ := List.mem_map.1 h; exact ⟨i, List.mem_range.1 hi, rfl⟩
theorem mem_rowM {h : Nat → α} {v : α} (hv : v ∈ (List.range n).map h) : ∃ j, j < n ∧ v = h j := by
  obtain ⟨j, hj, rfl⟩ := List.mem_map.1 hv; exact ⟨j, List.mem_range.1 hj, rfl⟩
end
end Go.Sim

/- What is proved: floats as intervals and the unit matrix as own rows; the negative of an interval, the difference of two; the unit matrix less a matrix. -/
namespace Go.Sim.YtlkpbnhinnhlfaaGreat
open Go.RowKit Go.Proofs Go.Proofs.Tryz
theorem pointsR_ev {f : List (List Nat)} (hf : okFF f) (lf : f.length ≤ 9223372036854775807) (hB : floatsB f = true) : EvR_lin_Points f (ptsI f) := by
  refine walkR_lin_Points ?_
  unfold WR_lin_Points
  refine Call.mk (floats_ev hf lf) ?_
  rw [hB]
  have ht := floatsB_true hB
  refine Br.f rfl (Mk.le (by omega) (by omega) (Loop2.up f.length (fun i out => out = (f.take i).map (fun r => r.map ptI) ++ List.replicate (f.length - i) []) (by simp) ?_))
  rintro i out k hi rfl hk
  refine Br.d (fun hlt => At.nat (by omega) fun r hr => ?_) (fun hge => ?_)
  · have hr1 := hf r (List.mem_of_getElem? hr)
    have hr2 := ht.1 r (List.mem_of_getElem? hr)
    have hlt' : ((f.take i).map (fun r => r.map ptI)).length = i := by simp; omega
    refine Loop2.up r.length (fun j out => out = (f.take i).map (fun r => r.map ptI) ++ ((r.take j).map ptI) :: List.replicate (f.length - (i + 1)) []) (by rw [rep_mid (by omega)]; rfl) ?_
    rintro j out2 k2 hj rfl hk2
    refine Br.d (fun hlt2 => At.nat (by omega) fun v hv => At.nat (by simp; omega) fun z hz => ?_) (fun hge2 => ?_)
    · rw [get_mid hlt'] at hz
      cases hz
      have hv2 := hr2.2 v (List.mem_of_getElem? hv)
      refine Call.mk (point_ev (hr1.1 v (List.mem_of_getElem? hv)) hv2.n) (App.le (by omega) (by simp; omega) (Let.as _ (wi1 (by omega)) (hk2 _ (by omega) ?_)))
      rw [Int.toNat_natCast, set_mid hlt', take_snoc hv, List.map_append]; rfl
    · refine Let.as _ (wi1 (by omega)) (hk _ (by omega) ?_)
      rw [take_snoc hr, List.map_append, List.take_of_length_le (l := r) (by omega), List.append_assoc]; rfl
  · show _ = _
    have : i = f.length := by omega
    subst this
    rw [Nat.sub_self, List.take_of_length_le (Nat.le_refl _)]; simp [ptsI]
theorem unitL_mk (n : Nat) : unitL n = mkM n oneV := rfl
theorem oneV_lt (i j : Nat) : oneV i j < 18446744073709551616 := by unfold oneV; split <;> decide
theorem oneV_F (i j : Nat) : isF (oneV i j) := by unfold oneV; split <;> (unfold isF; decide)
/-- A square matrix of floats that are numbers. -/
structure SqF (n : Nat) (f : Nat → Nat → Nat) : Prop where
  lt : ∀ i j, i < n → j < n → f i j < 18446744073709551616
  fin : ∀ i j, i < n → j < n → isF (f i j)
theorem SqF.ff {n : Nat} {f : Nat → Nat → Nat} (hn : n ≤ 24) (h : ∀ i j, i < n → j < n → f i j < 18446744073709551616) : okFF (mkM n f) := fun r hr => by
  obtain ⟨i, hi, rfl⟩ := mem_mkM hr
  refine ⟨fun v hv => ?_, by rw [rowM_len]; omega⟩
  obtain ⟨j, hj, rfl⟩ := mem_rowM hv
  exact h i j hi hj
theorem headD_mk {α : Type} {n : Nat} (h : 1 ≤ n) (f : Nat → Nat → α) : ((mkM n f).headD []) = (List.range n).map (f 0) := by
  obtain ⟨m, rfl⟩ : ∃ m, n = m + 1 := ⟨n - 1, by omega⟩
  unfold mkM
  rw [List.range_succ_eq_map]
  rfl
theorem SqF.floats {n : Nat} {f : Nat → Nat → Nat} (h1 : 1 ≤ n) (hn : n ≤ 24) (h : SqF n f) : floatsB (mkM n f) = true := by
  unfold floatsB
  rw [headD_mk h1, rowM_len, mkM_len]
  simp only [Bool.and_eq_true, List.all_eq_true, decide_eq_true_iff]
  refine ⟨fun r hr => ?_, ⟨h1, hn⟩, h1, hn⟩
  obtain ⟨i, hi, rfl⟩ := mem_mkM hr
  unfold rowF
  simp only [Bool.and_eq_true, List.all_eq_true, decide_eq_true_iff, rowM_len, true_and]
  intro v hv
  obtain ⟨j, hj, rfl⟩ := mem_rowM hv
  exact h.fin i j hi hj
theorem oneR_ev {n : Nat} (h1 : 1 ≤ n) (hn : n ≤ 24) : EvR_lin_One (n : Int) (mkM n fun i j => ptI (oneV i j)) := by
  refine walkR_lin_One ?_
  unfold WR_lin_One
  have hq : SqF n oneV := ⟨fun i j _ _ => oneV_lt i j, fun i j _ _ => oneV_F i j⟩
  refine Br.dF (by omega) (Br.dF (by omega) (Call.mk (unit_ev hn) (Call.mk (pointsR_ev (f := unitL n) (SqF.ff hn hq.lt) (by rw [unit_len]; omega) (hq.floats h1 hn)) ?_)))
  show _ = _
  rw [unitL_mk, ptsI, map_mkM]
/-! ### Negatives -/
theorem negW_hi {x : Nat} (h : 9223372036854775808 ≤ x) (h2 : x < 18446744073709551616) : Op.negFloat .f64 x = x - 9223372036854775808 := by
  have : Op.negFloat .f64 (x - 9223372036854775808) = x := by rw [negF (by omega)]; omega
  have e : ∀ y, Op.negFloat .f64 (Op.negFloat .f64 y) = y := fun y => by
    show (y ^^^ _) ^^^ _ = y
    rw [Nat.xor_assoc, Nat.xor_self, Nat.xor_zero]
  rw [← this, e]; omega
theorem negW_I {b : Nat} (h : b < 18446744073709551616) : fI (Op.negFloat .f64 b) = -fI b := by
  by_cases c : b < 9223372036854775808
  · rw [negF c]; unfold fI; rw [if_neg (by omega), if_pos c]; omega
  · rw [negW_hi (by omega) h]; unfold fI; rw [if_pos (by omega), if_neg c]; omega
theorem negW_N {b : Nat} (h : b < 18446744073709551616) (hn : isN b) : isN (Op.negFloat .f64 b) := by
  unfold isN at hn ⊢; rw [negW_I h]; omega
def negI (x : GIval) : GIval := if RIp x then makeI (Op.negFloat .f64 x.Hi) (Op.negFloat .f64 x.Lo) else EMP
def subI (x y : GIval) : GIval := addI x (negI y)
theorem ok_neg {x : GIval} (h : okI x) : okI (negI x) := by
  unfold negI; split
  · exact ok_make (negF_lt h.2) (negF_lt h.1)
  · exact ok_emp
theorem ok_sub {x y : GIval} (hx : okI x) (hy : okI y) : okI (subI x y) := ok_add hx (ok_neg hy)
theorem ineg_ev {x : GIval} (h : okI x) : Ev_ival_Neg x (negI x) := by
  refine walk_ival_Neg ?_
  unfold W_ival_Neg
  refine Call.mk (none_evX (l := [x]) (fun z hz => by simp at hz; subst hz; exact h) (by simp)) ?_
  have e : [x].any noneB = !decide (RIp x) := by simp [noneB]
  rw [e]
  unfold negI
  by_cases hr : RIp x
  · rw [if_pos hr]
    exact Br.f (by simp [hr]) (Let.it (Let.it (Call.mk (make_evX (negF_lt h.2) (negF_lt h.1) (negW_N h.2 hr.2.1) (negW_N h.1 hr.1)) rfl)))
  · rw [if_neg hr]
    exact Br.t (by simp [hr]) (Call.mk empty_ev rfl)
theorem isub_ev {x y : GIval} (hx : okI x) (hy : okI y) : Ev_ival_Sub x y (subI x y) := by
  refine walk_ival_Sub ?_
  unfold W_ival_Sub
  exact Call.mk (ineg_ev hy) (Call.mk (iadd_evX hx (ok_neg hy)) rfl)
theorem ok_pt {v : Nat} (h : v < 18446744073709551616) : okI (ptI v) := ok_make h h
/-- The unit matrix less a matrix. -/
theorem lessOne_ev {n : Nat} (h1 : 1 ≤ n) (hn : n ≤ 24) {f : Nat → Nat → GIval} (hf : ∀ i j, i < n → j < n → okI (f i j)) : Ev_lin_lessOne (mkM n f) (mkM n fun i j => subI (ptI (oneV i j)) (f i j)) := by
  refine walk_lin_lessOne ?_
  unfold W_lin_lessOne
  rw [mkM_len]
  refine Call.mk (oneR_ev h1 hn) ?_
  rw [mkM_len]
  refine Loop2.up n (fun i out => out = mkM n fun a b => if a < i then subI (ptI (oneV a b)) (f a b) else ptI (oneV a b)) (mkM_congr fun a b _ _ => by simp) ?_
  rintro i out k hi rfl hk
  refine Br.d (fun hlt => At.nat (by rw [mkM_len]; omega) fun r hr => ?_) (fun hge => ?_)
  · have hin : i < n := by omega
    rw [mkM_get hin] at hr
    cases hr
    rw [Int.toNat_natCast, mkM_same, rowM_len]
    refine Loop2.up n (fun j out => out = mkM n fun a b => if a < i ∨ a = i ∧ b < j then subI (ptI (oneV a b)) (f a b) else ptI (oneV a b)) (mkM_congr fun a b _ _ => by simp) ?_
    rintro j out k2 hj rfl hk2
    refine Br.d (fun hlt2 => ?_) (fun hge2 => ?_)
    · have hjn : j < n := by omega
      refine At.nat (by rw [mkM_len]; omega) fun r hr => ?_
      rw [mkM_get hin] at hr
      cases hr
      refine At.nat (by rw [rowM_len]; omega) fun x hx => ?_
      rw [rowM_get hjn] at hx
      cases hx
      rw [if_neg (by omega)]
      refine At.nat (by rw [mkM_len]; omega) fun r hr => ?_
      rw [mkM_get hin] at hr
      cases hr
      refine At.nat (by rw [rowM_len]; omega) fun y hy => ?_
      rw [rowM_get hjn] at hy
      cases hy
      refine Call.mk (isub_ev (ok_pt (oneV_lt i j)) (hf i j hin hjn)) (At.nat (by rw [rowM_len]; omega) fun z _ => Let.as _ (wi1 (by omega)) (hk2 _ (by omega) ?_))
      refine (mkM_put (j := j) (f := fun a b => if a < i ∨ a = i ∧ b < j then subI (ptI (oneV a b)) (f a b) else ptI (oneV a b))).trans ?_
      refine mkM_congr fun a b _ _ => ?_
      by_cases e : a = i ∧ b = j
      · obtain ⟨rfl, rfl⟩ := e; simp
      · rw [if_neg e]
        by_cases c : a < i ∨ a = i ∧ b < j
        · rw [if_pos c, if_pos (by omega)]
        · rw [if_neg c, if_neg (by omega)]
    · refine Let.as _ (wi1 (by omega)) (hk _ (by omega) ?_)
      refine mkM_congr fun a b _ hb => ?_
      by_cases c : a < i + 1
      · rw [if_pos c, if_pos (by omega)]
      · rw [if_neg c, if_neg (by omega)]
  · show _ = _
    exact mkM_congr fun a b ha _ => by rw [if_pos (by omega)]
end Go.Sim.YtlkpbnhinnhlfaaGreat

/- What is proved: linear algebra over quotients: fewer equations than unknowns have a solution that is not nought; what is near to one has no such solution; so there is an inverse, and how near it is to what is nearly one. -/
namespace Go.Sim
/-! ### Sums -/
def sumQ (f : Nat → Rat) : Nat → Rat
  | 0 => 0
  | n + 1 => sumQ f n + f n
/-! ### Fewer equations than unknowns -/
/-! ### What is near to one -/
def eyeQ (i j : Nat) : Rat := if i = j then 1 else 0
def mulQ (A B : Nat → Nat → Rat) (n : Nat) (i j : Nat) : Rat := sumQ (fun k => A i k * B k j) n
end Go.Sim
