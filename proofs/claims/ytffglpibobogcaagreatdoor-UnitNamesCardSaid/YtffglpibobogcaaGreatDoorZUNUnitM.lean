/- What is proved: numbers as rational ones; what the functions of dimensions compute. -/
import Derived.Test.YtffglpibobogcaaGreatDoorZUNWU
import Derived.Test.YtffglpibobogcaaGreatDoorZUNPureK
import Derived.Test.YtffglpibobogcaaGreatDoorZUNBigR

namespace Go.Sim.YtffglpibobogcaaGreatDoor
open Go.RowKit Go.Proofs Go.Proofs.Tryz
/-! ### Numbers as rational ones -/
def GRat.v (a : GRat) : Rat := (a.N : Rat) / (a.D : Rat)
theorem GRat.d_ne {a : GRat} (h : a.right = true) : (a.D : Rat) ≠ 0 := by
  obtain ⟨h1, _⟩ := GRat.right_spec.1 h
  intro h
  have : a.D = 0 := by exact_mod_cast h
  omega
theorem add_v {a b : GRat} (h : (toR (addS a.p b.p)).2 = 0) : a.right = true ∧ b.right = true ∧ (toR (addS a.p b.p)).1.right = true ∧ (toR (addS a.p b.p)).1.v = a.v + b.v ∧ (toR (addS a.p b.p)).1.inI := by
  obtain ⟨ra, rb, rs, es, hi⟩ := add_val h
  refine ⟨ra, rb, rs, ?_, hi⟩
  have h1 := GRat.d_ne (a := a) ra
  have h2 := GRat.d_ne (a := b) rb
  have h3 := GRat.d_ne (a := (toR (addS a.p b.p)).1) rs
  generalize addS a.p b.p = A at *
  obtain ⟨⟨s1, s2⟩, e⟩ := A
  simp only [GRat.v] at *
  have e' : (s1 : Rat) * (a.D * b.D) = (a.N * b.D + b.N * a.D) * s2 := by exact_mod_cast es
  grind
theorem mul_val {a b : Int × Int} (h : (mulS a b).2 = 0) : rightS a.1 a.2 = true ∧ rightS b.1 b.2 = true ∧ rightS (mulS a b).1.1 (mulS a b).1.2 = true ∧ (mulS a b).1.1 * (a.2 * b.2) = (a.1 * b.1) * (mulS a b).1.2 ∧ inI (mulS a b).1.1 ∧ inI (mulS a b).1.2 := by
  unfold mulS at h ⊢
  split at h
  · rename_i hr
    simp only [Bool.and_eq_true] at hr
    obtain ⟨ra, rb⟩ := hr
    rw [if_pos (by simp [ra, rb])]
    obtain ⟨p1, _⟩ := rightS_spec.1 ra
    obtain ⟨q1, _⟩ := rightS_spec.1 rb
    have := made_val (Nat.mul_ne_zero (by omega) (by omega)) h
    refine ⟨ra, rb, this.1, ?_, this.2.2⟩
    have h2 := this.2.1
    have e1 : ((a.2.natAbs * b.2.natAbs : Nat) : Int) = a.2 * b.2 := by
      rw [Int.natCast_mul, Int.natAbs_of_nonneg (by omega), Int.natAbs_of_nonneg (by omega)]
    have e2 : valS (decide (a.1 < 0) != decide (b.1 < 0)) (a.1.natAbs * b.1.natAbs) = a.1 * b.1 := by
      have k : ((a.1.natAbs * b.1.natAbs : Nat) : Int) = (a.1.natAbs : Int) * (b.1.natAbs : Int) := Int.natCast_mul ..
      unfold valS
      rw [k]
      by_cases ha : a.1 < 0
      · have ea : (a.1.natAbs : Int) = -a.1 := by omega
        by_cases hb : b.1 < 0
        · have eb : (b.1.natAbs : Int) = -b.1 := by omega
          rw [ea, eb]; simp [ha, hb] <;> grind
        · have eb : (b.1.natAbs : Int) = b.1 := by omega
          rw [ea, eb]; simp [ha, hb] <;> grind
      · have ea : (a.1.natAbs : Int) = a.1 := by omega
        by_cases hb : b.1 < 0
        · have eb : (b.1.natAbs : Int) = -b.1 := by omega
          rw [ea, eb]; simp [ha, hb] <;> grind
        · have eb : (b.1.natAbs : Int) = b.1 := by omega
          rw [ea, eb]; simp [ha, hb] <;> grind
    rw [e1, e2] at h2
    exact h2
  · cases h
theorem mul_v {a b : GRat} (h : (toR (mulS a.p b.p)).2 = 0) : a.right = true ∧ b.right = true ∧ (toR (mulS a.p b.p)).1.right = true ∧ (toR (mulS a.p b.p)).1.v = a.v * b.v ∧ (toR (mulS a.p b.p)).1.inI := by
  obtain ⟨ra, rb, rs, es, hi⟩ := mul_val h
  refine ⟨ra, rb, rs, ?_, hi⟩
  have h1 := GRat.d_ne (a := a) ra
  have h2 := GRat.d_ne (a := b) rb
  have h3 := GRat.d_ne (a := (toR (mulS a.p b.p)).1) rs
  generalize mulS a.p b.p = A at *
  obtain ⟨⟨s1, s2⟩, e⟩ := A
  simp only [GRat.v, GRat.p] at *
  have e' : (s1 : Rat) * (a.D * b.D) = (a.N * b.N) * s2 := by exact_mod_cast es
  grind
/-! ### Dimensions -/
def GDim.right (d : GDim) : Bool := d.E.toList.all GRat.right
def plainS : GDim := ⟨Vector.replicate 7 ⟨0, 1⟩⟩
/-- One exponent of a product. -/
def entS (p a b : GRat) : GRat × Int := if (toR (mulS b.p p.p)).2 = 0 then toR (addS a.p (toR (mulS b.p p.p)).1.p) else (GRat.zero, (toR (mulS b.p p.p)).2)
def entV (a b : GDim) (p : GRat) : Vector (GRat × Int) 7 := Vector.zipWith (entS p) a.E b.E
def timesS (a b : GDim) (p : GRat) : GDim × Int :=
  if (a.right && (b.right && p.right)) = true then
    match (entV a b p).toList.find? (fun r => r.2 != 0) with
    | some r => (GDim.zero, r.2)
    | none => (⟨(entV a b p).map (·.1)⟩, 0)
  else (GDim.zero, 1)
theorem GDim.right_iff {d : GDim} : d.right = true ↔ ∀ z ∈ d.E.toList, z.right = true := by unfold GDim.right; rw [List.all_eq_true]
theorem GDim.all_of {d : GDim} {Q : GRat → Prop} (h : ∀ j x, j < 7 → d.E.toList[j]? = some x → Q x) : ∀ z ∈ d.E.toList, Q z := by
  intro z hz
  obtain ⟨j, hj⟩ := List.mem_iff_getElem?.1 hz
  exact h j z (by have := (List.getElem?_eq_some_iff.1 hj).1; simpa using this) hj
theorem dright_ev {d : GDim} (hd : d.ok) : Ev_unit_Right d d.right := by
  refine walk_unit_Right ?_
  unfold W_unit_Right
  refine Loop1.up 7 (fun i => ∀ j x, j < i → d.E.toList[j]? = some x → x.right = true) (by intro j x h; omega) ?_
  intro i k hi hP hk
  refine Br.d (fun h => At.nat (by simp; omega) fun x hx => Call.mk (right_ev (GRat.ok.inI (hd x (List.mem_of_getElem? hx)))) ⟨fun hr => ?_, fun hr => ?_⟩) (fun h => ?_)
  · have hr : x.right = false := by simpa using hr
    have hn : ¬ d.right = true := fun hh => by
      have := GDim.right_iff.1 hh x (List.mem_of_getElem? hx)
      rw [hr] at this; cases this
    exact (Bool.eq_false_iff.2 hn).symm
  · have hr : x.right = true := by simpa using hr
    refine Let.as _ (wi1 (by omega)) (hk (by omega) fun j y hj hy => ?_)
    by_cases e : j = i
    · subst e; rw [hx] at hy; cases hy; exact hr
    · exact hP j y (by omega) hy
  · exact (GDim.right_iff.2 (GDim.all_of fun j x hj hx => hP j x (by omega) hx)).symm
theorem refdright_ev {d : GDim} (hd : d.ok) : Ev_ref14_Right d d.right := by
  refine walk_ref14_Right ?_
  unfold W_ref14_Right
  refine Loop1.up 7 (fun i => ∀ j x, j < i → d.E.toList[j]? = some x → x.right = true) (by intro j x h; omega) ?_
  intro i k hi hP hk
  refine Br.d (fun h => At.nat (by simp; omega) fun x hx => Call.mk (refright_ev (GRat.ok.inI (hd x (List.mem_of_getElem? hx)))) ⟨fun hr => ?_, fun hr => ?_⟩) (fun h => ?_)
  · have hr : x.right = false := by simpa using hr
    have hn : ¬ d.right = true := fun hh => by
      have := GDim.right_iff.1 hh x (List.mem_of_getElem? hx)
      rw [hr] at this; cases this
    exact (Bool.eq_false_iff.2 hn).symm
  · have hr : x.right = true := by simpa using hr
    refine Let.as _ (wi1 (by omega)) (hk (by omega) fun j y hj hy => ?_)
    by_cases e : j = i
    · subst e; rw [hx] at hy; cases hy; exact hr
    · exact hP j y (by omega) hy
  · exact (GDim.right_iff.2 (GDim.all_of fun j x hj hx => hP j x (by omega) hx)).symm
/-- A dimension by its places. -/
theorem GDim.ext_at {d e : GDim} (h : ∀ j, j < 7 → d.E.toList[j]? = e.E.toList[j]?) : d = e := by
  cases d with | mk d => cases e with | mk e =>
  congr 1
  apply Vector.toList_inj.1
  apply List.ext_getElem?
  intro j
  by_cases hj : j < 7
  · exact h j hj
  · rw [List.getElem?_eq_none (by simp; omega), List.getElem?_eq_none (by simp; omega)]
theorem set_at {α : Type} {n : Nat} {v : Vector α n} {i j : Nat} {x : α} (hi : i < n) : (v.setIfInBounds i x).toList[j]? = if j = i then some x else v.toList[j]? := by
  have : (v.setIfInBounds i x).toList = v.toList.set i x := by simp [Vector.toList, Vector.setIfInBounds]
  rw [this, List.getElem?_set]
  by_cases e : i = j
  · subst e; simp [hi]
  · rw [if_neg e, if_neg (fun h => e h.symm)]
theorem plain_ev : Ev_unit_Plain plainS := by
  refine walk_unit_Plain ?_
  unfold W_unit_Plain
  refine Loop2.up 7 (fun i d => ∀ j, j < 7 → d.E.toList[j]? = some (if j < i then ⟨0, 1⟩ else ⟨0, 0⟩)) ?_ ?_
  · intro j hj
    have : j = 0 ∨ j = 1 ∨ j = 2 ∨ j = 3 ∨ j = 4 ∨ j = 5 ∨ j = 6 := by omega
    rcases this with rfl | rfl | rfl | rfl | rfl | rfl | rfl <;> rfl
  intro i d k hi hP hk
  refine Br.d (fun h => At.nat (by simp; omega) fun x hx => ?_) (fun h => ?_)
  · have hx' := hP i (by omega)
    rw [hx, if_neg (by omega)] at hx'
    cases hx'
    refine Let.as _ (wi1 (by omega)) (hk _ (by omega) fun j hj => ?_)
    show (Vector.setIfInBounds d.E _ _).toList[j]? = _
    rw [Int.toNat_natCast, set_at (by omega), hP j hj]
    by_cases e : j = i
    · rw [if_pos e, if_pos (by omega)]
    · rw [if_neg e]; congr 1; by_cases e2 : j < i
      · rw [if_pos e2, if_pos (by omega)]
      · rw [if_neg e2, if_neg (by omega)]
  · refine GDim.ext_at fun j hj => ?_
    rw [hP j hj, if_pos (by omega)]
    have : j = 0 ∨ j = 1 ∨ j = 2 ∨ j = 3 ∨ j = 4 ∨ j = 5 ∨ j = 6 := by omega
    rcases this with rfl | rfl | rfl | rfl | rfl | rfl | rfl <;> rfl
theorem refplain_ev : Ev_ref14_Plain plainS := by
  refine walk_ref14_Plain ?_
  unfold W_ref14_Plain
  refine Loop2.up 7 (fun i d => ∀ j, j < 7 → d.E.toList[j]? = some (if j < i then ⟨0, 1⟩ else ⟨0, 0⟩)) ?_ ?_
  · intro j hj
    have : j = 0 ∨ j = 1 ∨ j = 2 ∨ j = 3 ∨ j = 4 ∨ j = 5 ∨ j = 6 := by omega
    rcases this with rfl | rfl | rfl | rfl | rfl | rfl | rfl <;> rfl
  intro i d k hi hP hk
  refine Br.d (fun h => Call.mk (x := (⟨0, 1⟩ : GRat)) (walk_ref14_Whole rfl) (At.nat (by simp; omega) fun x hx => ?_)) (fun h => ?_)
  · refine Let.as _ (wi1 (by omega)) (hk _ (by omega) fun j hj => ?_)
    show (Vector.setIfInBounds d.E _ _).toList[j]? = _
    rw [Int.toNat_natCast, set_at (by omega), hP j hj]
    by_cases e : j = i
    · rw [if_pos e, if_pos (by omega)]
    · rw [if_neg e]; congr 1; by_cases e2 : j < i
      · rw [if_pos e2, if_pos (by omega)]
      · rw [if_neg e2, if_neg (by omega)]
  · refine GDim.ext_at fun j hj => ?_
    rw [hP j hj, if_pos (by omega)]
    have : j = 0 ∨ j = 1 ∨ j = 2 ∨ j = 3 ∨ j = 4 ∨ j = 5 ∨ j = 6 := by omega
    rcases this with rfl | rfl | rfl | rfl | rfl | rfl | rfl <;> rfl
theorem entV_at {a b : GDim} {p x y : GRat} {i : Nat} (hx : a.E.toList[i]? = some x) (hy : b.E.toList[i]? = some y) : (entV a b p).toList[i]? = some (entS p x y) := by
  have : (entV a b p).toList = List.zipWith (entS p) a.E.toList b.E.toList := by simp [entV, Vector.toList_zipWith]
  rw [this, List.getElem?_zipWith, hx, hy]
theorem find_ent {a b : GDim} {p : GRat} {i : Nat} {r : GRat × Int} (hr : (entV a b p).toList[i]? = some r) (h0 : r.2 ≠ 0) (hP : ∀ j r', j < i → (entV a b p).toList[j]? = some r' → r'.2 = 0) : (entV a b p).toList.find? (fun r => r.2 != 0) = some r := by
  rw [List.find?_eq_some_iff_getElem]
  obtain ⟨h1, h2⟩ := List.getElem?_eq_some_iff.1 hr
  refine ⟨by simpa using h0, i, h1, h2, fun j hj => ?_⟩
  have := hP j _ hj (List.getElem?_eq_getElem (by omega))
  simpa using this
theorem find_no {a b : GDim} {p : GRat} (hP : ∀ j r', j < 7 → (entV a b p).toList[j]? = some r' → r'.2 = 0) : (entV a b p).toList.find? (fun r => r.2 != 0) = none := by
  rw [List.find?_eq_none]
  intro r hr
  obtain ⟨j, hj⟩ := List.mem_iff_getElem?.1 hr
  have := hP j r (by have := (List.getElem?_eq_some_iff.1 hj).1; simpa using this) hj
  simp [this]
theorem map_at {a b : GDim} {p : GRat} {j : Nat} : (GDim.mk ((entV a b p).map (·.1))).E.toList[j]? = ((entV a b p).toList[j]?).map (·.1) := by
  simp [Vector.toList_map]
theorem times_ev {a b : GDim} {p : GRat} (ha : a.ok) (hb : b.ok) (hp : p.ok) : Ev_unit_Times a b p (timesS a b p) := by
  refine walk_unit_Times ?_
  unfold W_unit_Times
  refine Call.mk (dright_ev ha) ⟨fun h => ?_, fun h1 => Call.mk (dright_ev hb) ⟨fun h => ?_, fun h2 => Call.mk (right_ev (GRat.ok.inI hp)) ⟨fun h => ?_, fun h3 => ?_⟩⟩⟩
  · have h : a.right = false := by simpa using h
    simp [timesS, h]
  · have h : b.right = false := by simpa using h
    simp [timesS, h]
  · have h : p.right = false := by simpa using h
    simp [timesS, h]
  have h1 : a.right = true := by simpa using h1
  have h2 : b.right = true := by simpa using h2
  have h3 : p.right = true := by simpa using h3
  unfold timesS
  rw [if_pos (by simp [h1, h2, h3])]
  refine Loop2.up 7 (fun i d => (∀ j r, j < i → (entV a b p).toList[j]? = some r → r.2 = 0) ∧ ∀ j r, j < i → (entV a b p).toList[j]? = some r → d.E.toList[j]? = some r.1) ⟨by intro j r h; omega, by intro j r h; omega⟩ ?_
  rintro i d k hi ⟨hP, hQ⟩ hk
  refine Br.d (fun h => At.nat (by simp; omega) fun y hy => ?_) (fun h => ?_)
  · refine Call.mk (rmul_ev (GRat.ok.inI (hb y (List.mem_of_getElem? hy))) (GRat.ok.inI hp)) ⟨fun he => ?_, fun he => At.nat (by simp; omega) fun x hx => ?_⟩
    · have he : (toR (mulS y.p p.p)).2 ≠ 0 := by simpa using he
      have hx : ∃ x, a.E.toList[i]? = some x := ⟨_, List.getElem?_eq_getElem (by simp; omega)⟩
      obtain ⟨x, hx⟩ := hx
      have hr := entV_at (p := p) hx hy
      have e : entS p x y = (GRat.zero, (toR (mulS y.p p.p)).2) := by unfold entS; rw [if_neg he]
      rw [find_ent hr (by rw [e]; exact he) hP, e]
    · have he : (toR (mulS y.p p.p)).2 = 0 := by simpa using he
      have hr := entV_at (p := p) hx hy
      have e : entS p x y = toR (addS x.p (toR (mulS y.p p.p)).1.p) := by unfold entS; rw [if_pos he]
      have hm := (mul_v he).2.2.2.2
      refine Call.mk (radd_ev (GRat.ok.inI (ha x (List.mem_of_getElem? hx))) hm) (At.nat (by simp; omega) fun _ _ => ⟨fun he2 => ?_, fun he2 => ?_⟩)
      · have he2 : (toR (addS x.p (toR (mulS y.p p.p)).1.p)).2 ≠ 0 := by simpa using he2
        rw [find_ent hr (by rw [e]; exact he2) hP, e]
      · have he2 : (toR (addS x.p (toR (mulS y.p p.p)).1.p)).2 = 0 := by simpa using he2
        refine Let.as _ (wi1 (by omega)) (hk _ (by omega) ⟨fun j r hj hjr => ?_, fun j r hj hjr => ?_⟩)
        · by_cases ej : j = i
          · subst ej; rw [hr] at hjr; cases hjr; rw [e]; exact he2
          · exact hP j r (by omega) hjr
        · show (Vector.setIfInBounds d.E _ _).toList[j]? = _
          rw [Int.toNat_natCast, set_at (by omega)]
          by_cases ej : j = i
          · subst ej; rw [hr] at hjr; cases hjr; rw [if_pos rfl, e]
          · rw [if_neg ej]; exact hQ j r (by omega) hjr
  · rw [find_no fun j r hj => hP j r (by omega)]
    simp only []
    congr 1
    refine GDim.ext_at fun j hj => ?_
    have hl : j < (entV a b p).toList.length := by simp; omega
    rw [map_at, List.getElem?_eq_getElem (l := (entV a b p).toList) hl]
    exact hQ j _ (by omega) (List.getElem?_eq_getElem hl)
theorem reftimes_ev {a b : GDim} {p : GRat} (ha : a.ok) (hb : b.ok) (hp : p.ok) : Ev_ref14_Times a b p (timesS a b p) := by
  refine walk_ref14_Times ?_
  unfold W_ref14_Times
  refine Call.mk (refdright_ev ha) ⟨fun h => ?_, fun h1 => Call.mk (refdright_ev hb) ⟨fun h => ?_, fun h2 => Call.mk (refright_ev (GRat.ok.inI hp)) ⟨fun h => ?_, fun h3 => ?_⟩⟩⟩
  · have h : a.right = false := by simpa using h
    simp [timesS, h]
  · have h : b.right = false := by simpa using h
    simp [timesS, h]
  · have h : p.right = false := by simpa using h
    simp [timesS, h]
  have h1 : a.right = true := by simpa using h1
  have h2 : b.right = true := by simpa using h2
  have h3 : p.right = true := by simpa using h3
  unfold timesS
  rw [if_pos (by simp [h1, h2, h3])]
  refine Loop2.up 7 (fun i d => (∀ j r, j < i → (entV a b p).toList[j]? = some r → r.2 = 0) ∧ ∀ j r, j < i → (entV a b p).toList[j]? = some r → d.E.toList[j]? = some r.1) ⟨by intro j r h; omega, by intro j r h; omega⟩ ?_
  rintro i d k hi ⟨hP, hQ⟩ hk
  refine Br.d (fun h => At.nat (by simp; omega) fun y hy => ?_) (fun h => ?_)
  · refine Call.mk (refmul_ev (GRat.ok.inI (hb y (List.mem_of_getElem? hy))) (GRat.ok.inI hp)) ⟨fun he => ?_, fun he => At.nat (by simp; omega) fun x hx => ?_⟩
    · have he : (toR (mulS y.p p.p)).2 ≠ 0 := by simpa using he
      have hx : ∃ x, a.E.toList[i]? = some x := ⟨_, List.getElem?_eq_getElem (by simp; omega)⟩
      obtain ⟨x, hx⟩ := hx
      have hr := entV_at (p := p) hx hy
      have e : entS p x y = (GRat.zero, (toR (mulS y.p p.p)).2) := by unfold entS; rw [if_neg he]
      rw [find_ent hr (by rw [e]; exact he) hP, e]
    · have he : (toR (mulS y.p p.p)).2 = 0 := by simpa using he
      have hr := entV_at (p := p) hx hy
      have e : entS p x y = toR (addS x.p (toR (mulS y.p p.p)).1.p) := by unfold entS; rw [if_pos he]
      have hm := (mul_v he).2.2.2.2
      refine Call.mk (refadd_ev (GRat.ok.inI (ha x (List.mem_of_getElem? hx))) hm) ⟨fun he2 => ?_, fun he2 => At.nat (by simp; omega) fun _ _ => ?_⟩
      · have he2 : (toR (addS x.p (toR (mulS y.p p.p)).1.p)).2 ≠ 0 := by simpa using he2
        rw [find_ent hr (by rw [e]; exact he2) hP, e]
      · have he2 : (toR (addS x.p (toR (mulS y.p p.p)).1.p)).2 = 0 := by simpa using he2
        refine Let.as _ (wi1 (by omega)) (hk _ (by omega) ⟨fun j r hj hjr => ?_, fun j r hj hjr => ?_⟩)
        · by_cases ej : j = i
          · subst ej; rw [hr] at hjr; cases hjr; rw [e]; exact he2
          · exact hP j r (by omega) hjr
        · show (Vector.setIfInBounds d.E _ _).toList[j]? = _
          rw [Int.toNat_natCast, set_at (by omega)]
          by_cases ej : j = i
          · subst ej; rw [hr] at hjr; cases hjr; rw [if_pos rfl, e]
          · rw [if_neg ej]; exact hQ j r (by omega) hjr
  · rw [find_no fun j r hj => hP j r (by omega)]
    simp only []
    congr 1
    refine GDim.ext_at fun j hj => ?_
    have hl : j < (entV a b p).toList.length := by simp; omega
    rw [map_at, List.getElem?_eq_getElem (l := (entV a b p).toList) hl]
    exact hQ j _ (by omega) (List.getElem?_eq_getElem hl)
theorem GDim.beq_self (d : GDim) : GDim.beq d d = true := (GDim.beq_iff d d).2 rfl
end Go.Sim.YtffglpibobogcaaGreatDoor

/- What is proved: the statements UnitTimes and UnitBack as plain ones. -/
namespace Go.Sim.YtffglpibobogcaaGreatDoor
open Go.RowKit Go.Proofs Go.Proofs.Tryz
theorem GRat.ok_of {a : GRat} (h : a.inI) : a.ok := by
  have e1 : IntKind.i64.min = -9223372036854775808 := rfl
  have e2 : IntKind.i64.max = 9223372036854775807 := rfl
  obtain ⟨h1, h2⟩ := h
  unfold Sim.inI at h1 h2
  refine ⟨⟨?_, ?_⟩, ⟨?_, ?_⟩⟩ <;> omega
theorem GRat.zero_inI : GRat.zero.inI := by constructor <;> (unfold Sim.inI; decide)
/-- What a product that has room is. -/
theorem times_ok {a b : GDim} {p : GRat} (h : (timesS a b p).2 = 0) : a.right = true ∧ b.right = true ∧ p.right = true ∧
    ∀ (j : Nat) (x y : GRat), a.E.toList[j]? = some x → b.E.toList[j]? = some y → ∃ z : GRat, (timesS a b p).1.E.toList[j]? = some z ∧ z.right = true ∧ z.v = x.v + y.v * p.v ∧ z.inI := by
  unfold timesS at h ⊢
  split at h
  · rename_i hr
    rw [if_pos hr]
    simp only [Bool.and_eq_true] at hr
    refine ⟨hr.1, hr.2.1, hr.2.2, ?_⟩
    split at h
    · rename_i r hf
      have := List.find?_some hf
      simp only [bne_iff_ne, ne_eq] at this
      exact absurd h this
    · rename_i hf
      intro j x y hx hy
      have he := entV_at (p := p) hx hy
      have h0 : (entS p x y).2 = 0 := by
        have := List.find?_eq_none.1 hf _ (List.mem_of_getElem? he)
        simpa using this
      refine ⟨(entS p x y).1, by rw [map_at, he]; rfl, ?_⟩
      unfold entS at h0 ⊢
      split at h0
      · rename_i hm
        rw [if_pos hm]
        obtain ⟨m1, m2, m3, m4, m5⟩ := mul_v hm
        obtain ⟨s1, s2, s3, s4, s5⟩ := add_v (a := x) (b := (toR (mulS y.p p.p)).1) h0
        exact ⟨s3, by rw [s4, m4], s5⟩
      · rename_i hm; exact absurd h0 hm
  · exact absurd h (by decide)
theorem times_zero {a b : GDim} {p : GRat} (h : (timesS a b p).2 ≠ 0) : (timesS a b p).1 = GDim.zero := by
  unfold timesS at h ⊢
  split
  · rename_i hr
    rw [if_pos hr] at h
    split
    · rfl
    · rename_i hf; rw [hf] at h; exact absurd rfl h
  · rfl
theorem GDim.zero_ok : GDim.zero.ok := by
  intro z hz
  have : z = GRat.zero := by
    have h : z ∈ [GRat.zero, GRat.zero, GRat.zero, GRat.zero, GRat.zero, GRat.zero, GRat.zero] := hz
    simpa using h
  rw [this]
  exact GRat.ok_of GRat.zero_inI
theorem GDim.get (d : GDim) {j : Nat} (h : j < 7) : ∃ x, d.E.toList[j]? = some x := ⟨_, List.getElem?_eq_getElem (by simp; omega)⟩
theorem times_isok (a b : GDim) (p : GRat) : (timesS a b p).1.ok := by
  by_cases h : (timesS a b p).2 = 0
  · refine GDim.all_of fun j z hj hz => ?_
    obtain ⟨x, hx⟩ := a.get hj
    obtain ⟨y, hy⟩ := b.get hj
    obtain ⟨z', hz', _, _, hi⟩ := (times_ok h).2.2.2 j x y hx hy
    rw [hz] at hz'
    cases hz'
    exact GRat.ok_of hi
  · rw [times_zero h]; exact GDim.zero_ok
end Go.Sim.YtffglpibobogcaaGreatDoor
