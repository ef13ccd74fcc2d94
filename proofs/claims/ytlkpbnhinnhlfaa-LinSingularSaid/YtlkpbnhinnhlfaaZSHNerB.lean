/- What is proved: lin.nearly yields a matrix of as many rows and columns as its argument, whatever its floats are. -/
import Derived.Test.YtlkpbnhinnhlfaaZSHWN
import Derived.Test.YtlkpbnhinnhlfaaZSHWNr
import Derived.Test.YtlkpbnhinnhlfaaZSHLinY

namespace Go.Sim.Ytlkpbnhinnhlfaa
open Go.RowKit Go.Proofs Go.Proofs.Try
theorem unit_W {n : Nat} (h : n ≤ 24) : W_lin_unit (n : Int) (fun r => r = unitL n) := by
  unfold W_lin_unit
  refine Mk.le (by omega) (by omega) ?_
  rw [List.length_replicate]
  refine Loop2.up n (fun i out => out = ((List.range i).map fun i => (List.range n).map (oneV i)) ++ List.replicate (n - i) []) (by simp) ?_
  rintro i out k hi rfl hk
  have hlt' : ((List.range i).map fun i => (List.range n).map (oneV i)).length = i := by simp
  refine Br.d (fun hlt => ?_) (fun hge => ?_)
  · rw [rep_mid (by omega)]
    refine At.nat (by simp) fun z hz => Mk.le (by omega) (by omega) ?_
    rw [Int.toNat_natCast, set_mid hlt']
    refine At.nat (by simp) fun y hy => ?_
    rw [get_mid hlt'] at hy
    cases hy
    refine At.nat (by simp; omega) fun y hy => Let.as _ (wi1 (by omega)) (hk _ (by omega) ?_)
    rw [set_mid hlt', unit_row (by omega), List.range_succ, List.map_append, List.append_assoc]; rfl
  · show _ = _
    have : i = n := by omega
    subst this
    rw [Nat.sub_self]; simp [unitL]
theorem unitR_ev {n : Nat} (h : n ≤ 24) : EvR_lin_unit (n : Int) (unitL n) := walkR_lin_unit (unit_W h)
/-- Rows of floats that are not known. -/
def sq (n : Nat) : List (List Unit) := List.replicate n (List.replicate n ())
theorem unitU_ev {n : Nat} (h : n ≤ 24) : EvU_lin_unit (n : Int) (sq n) := by
  refine (unitR_ev h).blind ?_ (fun l hl b hb => ok_unit n h l hl |>.1 b hb)
  rw [sq, unitL, List.map_replicate, List.length_replicate, List.map_map]
  refine (List.eq_replicate_iff.2 ⟨by simp, fun b hb => ?_⟩).symm
  obtain ⟨i, _, rfl⟩ := List.mem_map.1 hb
  simp
theorem At.rep {α : Type} {a : α} {n i : Nat} {k : α → Prop} (h : i < n) (hk : k a) : At (List.replicate n a) (i : Int) k :=
  At.nat (by simpa using h) fun x hx => by rw [(List.mem_replicate.1 (List.mem_of_getElem? hx)).2]; exact hk
theorem set_sq {n i : Nat} : List.set (sq n) (Int.toNat (i : Int)) (List.replicate n ()) = sq n := by rw [Int.toNat_natCast, sq, List.set_replicate_self]
theorem set_un {n i : Nat} : List.set (List.replicate n ()) (Int.toNat (i : Int)) () = List.replicate n () := by rw [Int.toNat_natCast, List.set_replicate_self]
theorem Loop1.rep {b : Int → (Int → Prop) → Prop} (n : Nat) (st : ∀ (i : Nat) (k : Int → Prop), i ≤ n → (i + 1 ≤ n → k ((i + 1 : Nat) : Int)) → b (i : Int) k) : Loop1 (0 : Int) b :=
  Loop1.up n (fun _ => True) trivial fun i k hi _ hk => st i k hi fun h => hk h trivial
/-- A loop that counts, and keeps two matrices. -/
theorem Loop3.sq {n : Nat} {X Y : List (List Unit)} {b : List (List Unit) → List (List Unit) → Int → (List (List Unit) → List (List Unit) → Int → Prop) → Prop}
    (st : ∀ (i : Nat) (k : List (List Unit) → List (List Unit) → Int → Prop), i ≤ n → (i + 1 ≤ n → k X Y ((i + 1 : Nat) : Int)) → b X Y (i : Int) k) : Loop3 X Y (0 : Int) b := by
  refine ⟨fun x y z => ∃ j : Nat, z = (j : Int) ∧ j ≤ n ∧ x = X ∧ y = Y, fun _ _ z => n - z.toNat, ⟨0, rfl, Nat.zero_le _, rfl, rfl⟩, ?_⟩
  rintro _ _ _ ⟨j, rfl, hj, rfl, rfl⟩
  refine st j _ hj fun h => ⟨⟨j + 1, rfl, h, rfl, rfl⟩, ?_⟩
  simp only [Int.toNat_natCast]; omega
theorem nearly_W {n : Nat} (h1 : 1 ≤ n) (h : n ≤ 24) : W_lin_nearly (sq n) (fun r => r = sq n) := by
  have hl : (sq n).length = n := by simp [sq]
  have hr : ∀ {i : Nat} {k : List Unit → Prop}, i < n → k (List.replicate n ()) → At (sq n) (i : Int) k := fun hi hk => At.rep hi hk
  unfold W_lin_nearly
  rw [hl]
  refine Mk.le (by omega) (by omega) (Call.mk (unitU_ev h) ?_)
  -- rows are made alike in size
  refine ⟨fun w r z => ∃ i : Nat, z = (i : Int) ∧ i ≤ n ∧ w = List.replicate i (List.replicate n ()) ++ List.replicate (n - i) [] ∧ r = sq n, fun _ _ z => n - z.toNat, ⟨0, rfl, Nat.zero_le _, by simp, rfl⟩, ?_⟩
  rintro w r _ ⟨i, rfl, hi, rfl, rfl⟩
  have hli : (List.replicate i (List.replicate n ())).length = i := by simp
  refine Br.d (fun hlt => ?_) (fun hge => ?_)
  · have hin : i < n := by omega
    rw [rep_mid (by omega)]
    refine At.nat (by simp) fun z hz => Mk.le (by omega) (by omega) (hr hin ?_)
    refine Loop1.rep n fun j k hj hk => ?_
    rw [List.length_replicate]
    refine Br.d (fun hlt2 => At.rep (by omega) (Let.as _ (wi1 (by omega)) (hk (by omega)))) (fun hge2 => hr hin ?_)
    rw [Int.toNat_natCast, set_mid hli]
    refine Loop2.up n (fun _ w => w = List.replicate i (List.replicate n ()) ++ List.replicate n () :: List.replicate (n - (i + 1)) []) rfl ?_
    rintro j w k2 hj2 rfl hk2
    rw [List.length_replicate]
    refine Br.d (fun hlt3 => At.rep (by omega) (At.nat (by simp) fun y hy => ?_)) (fun hge3 => ?_)
    · rw [get_mid hli] at hy
      cases hy
      refine At.rep (by omega) (Let.as _ (wi1 (by omega)) (hk2 _ (by omega) ?_))
      try simp only [Int.toNat_natCast]
      rw [List.set_replicate_self, set_mid hli]
    · refine hr hin (At.rep hin (Let.as _ (wi1 (by omega)) ⟨⟨i + 1, rfl, by omega, ?_, ?_⟩, ?_⟩))
      · rw [List.replicate_succ', List.append_assoc]; rfl
      · try simp only [Int.toNat_natCast]
        rw [List.set_replicate_self]
        exact List.set_replicate_self
      · simp only [Int.toNat_natCast]; omega
  · have : i = n := by omega
    subst this
    rw [Nat.sub_self, List.replicate_zero, List.append_nil]
    -- the rows, one by one
    refine Loop3.sq (n := i) (X := sq i) (Y := sq i) fun q k hq hk => ?_
    refine Br.d (fun hlt => ?_) (fun _ => rfl)
    have hqi : q < i := by omega
    -- the greatest
    refine ⟨fun w p z => ∃ j p' : Nat, z = (j : Int) ∧ p = (p' : Int) ∧ j ≤ i ∧ p' < i ∧ w = sq i, fun _ _ z => i - z.toNat, ⟨q, q, rfl, rfl, by omega, hqi, rfl⟩, ?_⟩
    rintro w p _ ⟨j, p, rfl, rfl, hj, hp, rfl⟩
    refine Br.d (fun hlt2 => ?_) (fun hge2 => ?_)
    · have hji : j < i := by omega
      refine ⟨fun w p => w = sq i ∧ (p = (j : Int) ∨ ∃ p' : Nat, p = (p' : Int) ∧ p' < i), ?_, ?_⟩
      · refine ⟨fun _ => hr hji (At.rep hqi (At.rep hqi ⟨⟨set_sq, .inl rfl⟩, ⟨set_sq, .inr ⟨p, rfl, hp⟩⟩⟩)), fun _ => hr hji (hr hp (At.rep hqi (At.rep hqi ⟨⟨by rw [set_sq, set_sq], .inl rfl⟩, ⟨by rw [set_sq, set_sq], .inr ⟨p, rfl, hp⟩⟩⟩)))⟩
      · rintro _ p2 ⟨rfl, hp2⟩
        refine Let.as _ (wi1 (by omega)) ⟨?_, ?_⟩
        · rcases hp2 with rfl | ⟨p', rfl, hp'⟩
          · exact ⟨j + 1, j, rfl, rfl, by omega, hji, rfl⟩
          · exact ⟨j + 1, p', rfl, rfl, by omega, hp', rfl⟩
        · simp only [Int.toNat_natCast]; omega
    · -- rows change places
      refine ⟨fun w r => w = sq i ∧ r = sq i, ?_, ?_⟩
      · exact ⟨fun _ => hr hp (hr hp ⟨set_sq, set_sq⟩), fun _ => hr hp (hr hqi (hr hp (hr hqi ⟨by rw [set_sq, set_sq], by rw [set_sq, set_sq]⟩)))⟩
      · rintro _ _ ⟨rfl, rfl⟩
        refine hr hqi (At.rep hqi ?_)
        rw [set_sq]
        refine Loop3.sq (n := i) (X := sq i) (Y := sq i) fun j k2 hj2 hk2 => ?_
        refine Br.d (fun hlt3 => ?_) (fun hge3 => ?_)
        · have hji : j < i := by omega
          refine hr hqi (At.rep hji (At.rep hji (hr hqi (At.rep hji (At.rep hji (Let.as _ (wi1 (by omega)) ?_))))))
          rw [set_un, set_sq]
          exact hk2 (by omega)
        · refine Loop3.sq (n := i) (X := sq i) (Y := sq i) fun j k3 hj3 hk3 => ?_
          refine Br.d (fun hlt4 => ?_) (fun hge4 => Let.as _ (wi1 (by omega)) (hk (by omega)))
          have hji : j < i := by omega
          refine hr hji (At.rep hqi ?_)
          rw [set_sq]
          have hn : Let (IntKind.i64.wrap ((j : Int) + 1)) fun x => k3 (sq i) (sq i) x := Let.as _ (wi1 (by omega)) (hk3 (by omega))
          refine ⟨fun _ => hn, fun _ => ⟨hn, ?_⟩⟩
          refine Loop3.sq (n := i) (X := sq i) (Y := sq i) fun l k4 hl4 hk4 => ?_
          refine Br.d (fun hlt5 => ?_) (fun hge5 => hn)
          have hli : l < i := by omega
          refine ⟨fun w => w = sq i, ?_, ?_⟩
          · refine ⟨fun _ => hr hji (At.rep hli (At.rep hli (At.rep hli ?_))), fun _ => hr hji (hr hqi (At.rep hli (At.rep hli (At.rep hli ?_))))⟩
            · rw [set_un, set_sq]
            · rw [set_sq, set_un, set_sq]
          · rintro _ rfl
            refine ⟨fun _ => hr hji (At.rep hli (At.rep hli (At.rep hli (Let.as _ (wi1 (by omega)) ?_)))), fun _ => hr hji (hr hqi (At.rep hli (At.rep hli (At.rep hli (Let.as _ (wi1 (by omega)) ?_)))))⟩
            · rw [set_un, set_sq]; exact hk4 (by omega)
            · rw [set_sq, set_un, set_sq]; exact hk4 (by omega)
/-- What lin.nearly yields of a square matrix. -/
def sqF (n : Nat) (r : List (List Nat)) : Prop := r.length = n ∧ (∀ l ∈ r, l.length = n) ∧ ∀ l ∈ r, ∀ b ∈ l, b < 18446744073709551616
theorem nearly_ev {n : Nat} (h1 : 1 ≤ n) (h : n ≤ 24) {a : List (List Nat)} (ha : sqF n a) : EvS_lin_nearly a (sqF n) := by
  have e : (sq n).map List.length = a.map List.length := by
    rw [sq, List.map_replicate, List.length_replicate]
    refine (List.eq_replicate_iff.2 ⟨by rw [List.length_map]; exact ha.1, fun b hb => ?_⟩).symm
    obtain ⟨l, hl, rfl⟩ := List.mem_map.1 hb
    exact ha.2.1 l hl
  refine AFnS.mono (AFn.open (AFn.close e ha.2.2 (walk_lin_nearly (nearly_W h1 h)))) ?_
  rintro y ⟨r, k1, k2, rfl⟩
  have hlen : r.length = n := by simpa [sq] using congrArg List.length k1
  refine ⟨r, ⟨hlen, fun l hl => ?_, k2⟩, rfl⟩
  have : l.length ∈ r.map List.length := List.mem_map.2 ⟨l, hl, rfl⟩
  rw [k1, sq, List.map_replicate, List.length_replicate] at this
  exact (List.mem_replicate.1 this).2
end Go.Sim.Ytlkpbnhinnhlfaa
