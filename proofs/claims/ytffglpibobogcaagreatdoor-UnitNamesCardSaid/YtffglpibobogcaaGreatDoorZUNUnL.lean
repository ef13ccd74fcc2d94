/- What is proved: the statement UnitNames: the units of a file, as the program and the reference tell, are one. -/
import Derived.Test.YtffglpibobogcaaGreatDoorZUNLawUR
import Derived.Test.YtffglpibobogcaaGreatDoorZUNWUn
import Derived.Test.YtffglpibobogcaaGreatDoorZUNParH

namespace Go.Sim.YtffglpibobogcaaGreatDoor
open Go.RowKit Go.Proofs Go.Proofs.Tryz
theorem App.big {α : Type} {b : Nat} {xs ys : List α} {k : List α → Prop} (hb : b ≤ 1000) (h : xs.length + ys.length ≤ 100000) (hk : k (xs ++ ys)) : App b xs ys k :=
  ⟨by unfold maxLen; omega, by
    have := Nat.mul_le_mul h hb
    omega, Let.it hk⟩
def hasS (s : List ByteArray) (v : ByteArray) : Bool := s.any (fun x => decide (v = x))
theorem containsStr_ev {s : List ByteArray} {v : ByteArray} (hs : s.length ≤ maxLen) : Ev_slices_Contains_string s v (hasS s v) := by
  refine walk_slices_Contains_string ?_
  unfold W_slices_Contains_string
  refine Call.mk (indexStr_ev hs) ?_
  show decide (firstAt (fun x => decide (v = x)) s ≥ 0) = _
  rw [firstAt_any]
  rfl
theorem of_fn : ∃ O : GTree → List ByteArray → List GDim → GDim × Int, ∀ t names dims, t.ok → names.length ≤ maxLen → (dims.length ≤ maxLen ∧ ∀ z0 ∈ dims, GDim.ok z0) → Ev_unit_Of t names dims (O t names dims) ∧ Ev_ref14_Of t names dims (O t names dims) ∧ (O t names dims).1.ok := by
  refine Classical.axiomOfChoice (r := fun t (O : List ByteArray → List GDim → GDim × Int) => ∀ names dims, t.ok → names.length ≤ maxLen → (dims.length ≤ maxLen ∧ ∀ z0 ∈ dims, GDim.ok z0) → Ev_unit_Of t names dims (O names dims) ∧ Ev_ref14_Of t names dims (O names dims) ∧ (O names dims).1.ok) fun t => ?_
  refine Classical.axiomOfChoice (r := fun names (O : List GDim → GDim × Int) => ∀ dims, t.ok → names.length ≤ maxLen → (dims.length ≤ maxLen ∧ ∀ z0 ∈ dims, GDim.ok z0) → Ev_unit_Of t names dims (O dims) ∧ Ev_ref14_Of t names dims (O dims) ∧ (O dims).1.ok) fun names => ?_
  refine Classical.axiomOfChoice (r := fun dims (r : GDim × Int) => t.ok → names.length ≤ maxLen → (dims.length ≤ maxLen ∧ ∀ z0 ∈ dims, GDim.ok z0) → Ev_unit_Of t names dims r ∧ Ev_ref14_Of t names dims r ∧ r.1.ok) fun dims => ?_
  by_cases h : t.ok ∧ names.length ≤ maxLen ∧ (dims.length ≤ maxLen ∧ ∀ z0 ∈ dims, GDim.ok z0)
  · obtain ⟨r, hr⟩ := of_both t names dims h.1 h.2.1 h.2.2
    exact ⟨r, fun _ _ _ => hr⟩
  · exact ⟨(GDim.zero, 0), fun h1 h2 h3 => absurd ⟨h1, h2, h3⟩ h⟩
/-- The dimension of a base unit. -/
def baseS (b : Nat) : GDim := ⟨Vector.setIfInBounds plainS.E b ⟨1, 1⟩⟩
/-- One item more: an error, or the names, the dimensions and how many base units there are. -/
def unitStep (O : GTree → List ByteArray → List GDim → GDim × Int) (u : GTree) (names : List ByteArray) (dims : List GDim) (b : Nat) : Sum Int (List ByteArray × List GDim × Nat) :=
  if u.Kind ≠ 31 then .inr (names, dims, b)
  else if hasS names u.Name = true then .inl 151
  else match u.Kids with
    | k :: _ => if (O k names dims).2 ≠ 0 then .inl (O k names dims).2 else .inr (names ++ [u.Name], dims ++ [(O k names dims).1], b)
    | [] => if b = 7 then .inl 2 else .inr (names ++ [u.Name], dims ++ [baseS b], b + 1)
def unitsF (O : GTree → List ByteArray → List GDim → GDim × Int) : List GTree → List ByteArray → List GDim → Nat → List ByteArray × List GDim × Int
  | [], n, d, _ => (n, d, 0)
  | u :: us, n, d, b => match unitStep O u n d b with
    | .inl e => ([], [], e)
    | .inr (n', d', b') => unitsF O us n' d' b'
theorem base_ok {b : Nat} (hb : b < 7) : (baseS b).ok := by
  intro z hz
  obtain ⟨j, hj⟩ := List.mem_iff_getElem?.1 hz
  have h1 := set_at (v := plainS.E) (i := b) (j := j) (x := (⟨1, 1⟩ : GRat)) hb
  have hj' : (plainS.E.setIfInBounds b (⟨1, 1⟩ : GRat)).toList[j]? = some z := hj
  rw [h1] at hj'
  split at hj'
  · cases hj'
    exact GRat.ok_of ⟨by simp only [Sim.inI]; omega, by simp only [Sim.inI]; omega⟩
  · exact plain_ok z (List.mem_of_getElem? hj')
theorem plain_at {b : Nat} (hb : b < 7) : ∃ x, plainS.E.toList[b]? = some x := ⟨_, List.getElem?_eq_getElem (by simpa using hb)⟩
variable {O : GTree → List ByteArray → List GDim → GDim × Int}
  (hO : ∀ t names dims, t.ok → names.length ≤ maxLen → (dims.length ≤ maxLen ∧ ∀ z0 ∈ dims, GDim.ok z0) → Ev_unit_Of t names dims (O t names dims) ∧ Ev_ref14_Of t names dims (O t names dims) ∧ (O t names dims).1.ok)
include hO
theorem units_ev {t : GTree} (ht : t.ok) : Ev_unit_Units t (if rightI nmB t = 0 then unitsF O t.Kids [] [] 0 else ([], [], 133)) := by
  have hm : maxLen = 9223372036854775807 := rfl
  refine walk_unit_Units ?_
  unfold W_unit_Units
  refine Call.mk (rightI_ev ht).1 ⟨fun h => ?_, fun h => ?_⟩
  · have : rightI nmB t ≠ 0 := by simpa using h
    rw [if_neg this]
  have h0 : rightI nmB t = 0 := by simpa using h
  rw [if_pos h0]
  have hsz := rightI_siz h0
  have hkl := sizL_len t.Kids
  have hse := siz_eq t
  refine ⟨fun n d z i => ∃ j b : Nat, i = (j : Int) ∧ z = (b : Int) ∧ b ≤ 7 ∧ j ≤ t.Kids.length ∧ n.length ≤ j ∧ d.length ≤ j ∧ (∀ z0 ∈ d, GDim.ok z0) ∧ unitsF O t.Kids [] [] 0 = unitsF O (t.Kids.drop j) n d b, fun _ _ _ i => t.Kids.length - i.toNat,
    ⟨0, 0, rfl, rfl, by omega, by omega, by simp, by simp, by simp, rfl⟩, ?_⟩
  rintro n d _ _ ⟨j, b, rfl, rfl, hb, hj, hn, hd, hdo, he⟩
  refine Br.d (fun hlt => At.nat (by omega) fun u hu => ?_) (fun hge => ?_)
  rotate_left
  · rw [List.drop_of_length_le (by omega)] at he
    rw [he]; rfl
  have hul := List.getElem?_eq_some_iff.1 hu
  have hum := List.mem_of_getElem? hu
  have huo := kids_ok ht u hum
  rw [List.drop_eq_getElem_cons hul.1, hul.2] at he
  have meas : ∀ x : Nat, t.Kids.length - ((j + 1 : Nat) : Int).toNat < t.Kids.length - ((j : Nat) : Int).toNat := fun _ => by simp only [Int.toNat_natCast]; omega
  have e1 : unitsF O (u :: t.Kids.drop (j + 1)) n d b = (match unitStep O u n d b with | .inl e => ([], [], e) | .inr (n', d', b') => unitsF O (t.Kids.drop (j + 1)) n' d' b') := rfl
  rw [e1] at he
  refine ⟨fun hk => ?_, fun hk => ?_⟩
  · have hk' : u.Kind ≠ 31 := by simpa using hk
    have e2 : unitStep O u n d b = .inr (n, d, b) := by unfold unitStep; rw [if_pos hk']
    rw [e2] at he
    exact Let.as _ (wi1 (by omega)) ⟨⟨j + 1, b, rfl, rfl, hb, by omega, by omega, by omega, hdo, he⟩, meas 0⟩
  have hk' : ¬ u.Kind ≠ 31 := by simpa using hk
  refine Call.mk (containsStr_ev (by omega)) ⟨fun hc => ?_, fun hc => Call.mk plain_ev ?_⟩
  · have e2 : unitStep O u n d b = .inl 151 := by unfold unitStep; rw [if_neg hk', if_pos hc]
    rw [e2] at he
    exact he.symm
  refine ⟨fun z dd e => (e ≠ 0 ∧ unitStep O u n d b = .inl e) ∨ (e = 0 ∧ ∃ b' : Nat, z = (b' : Int) ∧ b' ≤ 7 ∧ dd.ok ∧ unitStep O u n d b = .inr (n ++ [u.Name], d ++ [dd], b')), ?_, ?_⟩
  · refine Br.d (fun hz => At.nat (i := 0) (by omega) fun k hkk => ?_) (fun hz => Br.e (fun h7 => ?_) (fun h7 => ?_))
    · have hkm := List.mem_of_getElem? hkk
      obtain ⟨o1, _, o3⟩ := hO k n d (kids_ok huo k hkm) (by omega) ⟨by omega, hdo⟩
      refine Call.mk o1 ?_
      have e2 : unitStep O u n d b = if (O k n d).2 ≠ 0 then .inl (O k n d).2 else .inr (n ++ [u.Name], d ++ [(O k n d).1], b) := by
        unfold unitStep; rw [if_neg hk', if_neg (by rw [hc]; decide)]
        cases hks : u.Kids with
        | nil => rw [hks] at hkk; simp at hkk
        | cons a l => rw [hks] at hkk; simp at hkk; subst hkk; first | done | rfl
      by_cases hr : (O k n d).2 = 0
      · right; exact ⟨hr, b, rfl, hb, o3, by rw [e2, if_neg (by simp [hr])]⟩
      · left; exact ⟨hr, by rw [e2, if_pos hr]⟩
    · left
      refine ⟨by decide, ?_⟩
      unfold unitStep; rw [if_neg hk', if_neg (by rw [hc]; decide)]
      cases hks : u.Kids with
      | nil => show (if b = 7 then _ else _) = _; rw [if_pos (by omega)]
      | cons a l => rw [hks] at hz; exact absurd (by simp only [List.length_cons]; omega) hz
    · have hb7 : b < 7 := by omega
      obtain ⟨x, hx⟩ := plain_at hb7
      refine Call.mk (x := (⟨1, 1⟩ : GRat)) (walk_unit_whole rfl) (At.nat (by simpa using hb7) fun y hy => Let.as _ (wi1 (by omega)) ?_)
      right
      refine ⟨rfl, b + 1, rfl, by omega, ?_, ?_⟩
      · rw [Int.toNat_natCast]; exact base_ok hb7
      · unfold unitStep; rw [if_neg hk', if_neg (by rw [hc]; decide)]
        cases hks : u.Kids with
        | nil => show (if b = 7 then _ else _) = _; rw [if_neg (by omega), Int.toNat_natCast]; first | done | rfl
        | cons a l => rw [hks] at hz; simp at hz <;> omega
  rintro z dd e (⟨h1, h2⟩ | ⟨rfl, b', rfl, h3, h4, h5⟩)
  · refine Br.t (by simpa using h1) ?_
    rw [h2] at he
    exact he.symm
  · rw [h5] at he
    refine Br.f rfl (App.big (by decide) (by simp; omega) (App.big (by decide) (by simp; omega) (Let.as _ (wi1 (by omega)) ⟨⟨j + 1, b', rfl, rfl, h3, by omega, by simp; omega, by simp; omega, ?_, he⟩, meas 0⟩)))
    intro z0 hz0
    rcases List.mem_append.1 hz0 with hz0 | hz0
    · exact hdo z0 hz0
    · simp at hz0; subst hz0; exact h4
theorem refUnits_ev {t : GTree} (ht : t.ok) : Ev_ref14_Units t (if rightI nmB t = 0 then unitsF O t.Kids [] [] 0 else ([], [], 133)) := by
  have hm : maxLen = 9223372036854775807 := rfl
  refine walk_ref14_Units ?_
  unfold W_ref14_Units
  refine Call.mk (rightI_ev ht).2 ⟨fun h => ?_, fun h => ?_⟩
  · have : rightI nmB t ≠ 0 := by simpa using h
    rw [if_neg this]
  have h0 : rightI nmB t = 0 := by simpa using h
  rw [if_pos h0]
  have hsz := rightI_siz h0
  have hkl := sizL_len t.Kids
  have hse := siz_eq t
  refine ⟨fun n d z i => ∃ j b : Nat, i = (j : Int) ∧ z = (b : Int) ∧ b ≤ 7 ∧ j ≤ t.Kids.length ∧ n.length ≤ j ∧ d.length ≤ j ∧ (∀ z0 ∈ d, GDim.ok z0) ∧ unitsF O t.Kids [] [] 0 = unitsF O (t.Kids.drop j) n d b, fun _ _ _ i => t.Kids.length - i.toNat,
    ⟨0, 0, rfl, rfl, by omega, by omega, by simp, by simp, by simp, rfl⟩, ?_⟩
  rintro n d _ _ ⟨j, b, rfl, rfl, hb, hj, hn, hd, hdo, he⟩
  refine Br.d (fun hlt => At.nat (by omega) fun u hu => ?_) (fun hge => ?_)
  rotate_left
  · rw [List.drop_of_length_le (by omega)] at he
    rw [he]; rfl
  have hul := List.getElem?_eq_some_iff.1 hu
  have hum := List.mem_of_getElem? hu
  have huo := kids_ok ht u hum
  rw [List.drop_eq_getElem_cons hul.1, hul.2] at he
  have meas : ∀ x : Nat, t.Kids.length - ((j + 1 : Nat) : Int).toNat < t.Kids.length - ((j : Nat) : Int).toNat := fun _ => by simp only [Int.toNat_natCast]; omega
  have e1 : unitsF O (u :: t.Kids.drop (j + 1)) n d b = (match unitStep O u n d b with | .inl e => ([], [], e) | .inr (n', d', b') => unitsF O (t.Kids.drop (j + 1)) n' d' b') := rfl
  rw [e1] at he
  refine ⟨fun hk => ?_, fun hk => ?_⟩
  · have hk' : u.Kind ≠ 31 := by simpa using hk
    have e2 : unitStep O u n d b = .inr (n, d, b) := by unfold unitStep; rw [if_pos hk']
    rw [e2] at he
    exact Let.as _ (wi1 (by omega)) ⟨⟨j + 1, b, rfl, rfl, hb, by omega, by omega, by omega, hdo, he⟩, meas 0⟩
  have hk' : ¬ u.Kind ≠ 31 := by simpa using hk
  refine Loop1.first n (fun x => decide (u.Name = x)) ?_
  intro i k hi hP hkn
  refine Br.d (fun hlt => At.nat (by omega) fun x hx => ⟨fun hq => ?_, fun hq => Let.as _ (wi1 (by omega)) (hkn x hx ?_)⟩) (fun hge => Call.mk refplain_ev ?_)
  · have hq' : hasS n u.Name = true := List.any_eq_true.2 ⟨x, List.mem_of_getElem? hx, by rw [beq_str.1 hq]; simp⟩
    have e2 : unitStep O u n d b = .inl 151 := by unfold unitStep; rw [if_neg hk', if_pos hq']
    rw [e2] at he
    exact he.symm
  · rw [decide_eq_false_iff_not]
    intro e
    rw [beq_str.2 e.symm] at hq; cases hq
  have hc : ¬ hasS n u.Name = true := by
    intro h
    obtain ⟨x, hx, h2⟩ := List.any_eq_true.1 h
    obtain ⟨q, hq⟩ := List.mem_iff_getElem?.1 hx
    rw [hP q x (by have := (List.getElem?_eq_some_iff.1 hq).1; omega) hq] at h2
    cases h2
  refine ⟨fun z dd => ∃ b' : Nat, z = (b' : Int) ∧ b' ≤ 7 ∧ dd.ok ∧ unitStep O u n d b = .inr (n ++ [u.Name], d ++ [dd], b'), ?_, ?_⟩
  · refine Br.e (fun hz => Br.e (fun h7 => ?_) (fun h7 => ?_)) (fun hz => At.nat (i := 0) (by omega) fun k hkk => ?_)
    · have e2 : unitStep O u n d b = .inl 2 := by
        unfold unitStep; rw [if_neg hk', if_neg hc]
        cases hks : u.Kids with
        | nil => show (if b = 7 then _ else _) = _; rw [if_pos (by omega)]
        | cons a l => rw [hks] at hz; simp at hz <;> omega
      rw [e2] at he
      exact he.symm
    · have hb7 : b < 7 := by omega
      refine Call.mk (x := (⟨1, 1⟩ : GRat)) (walk_ref14_Whole rfl) (At.nat (by simpa using hb7) fun y hy => Let.as _ (wi1 (by omega)) ?_)
      refine ⟨b + 1, rfl, by omega, ?_, ?_⟩
      · rw [Int.toNat_natCast]; exact base_ok hb7
      · unfold unitStep; rw [if_neg hk', if_neg hc]
        cases hks : u.Kids with
        | nil => show (if b = 7 then _ else _) = _; rw [if_neg (by omega), Int.toNat_natCast]; first | done | rfl
        | cons a l => rw [hks] at hz; simp at hz <;> omega
    · have hkm := List.mem_of_getElem? hkk
      obtain ⟨_, o1, o3⟩ := hO k n d (kids_ok huo k hkm) (by omega) ⟨by omega, hdo⟩
      have e2 : unitStep O u n d b = if (O k n d).2 ≠ 0 then .inl (O k n d).2 else .inr (n ++ [u.Name], d ++ [(O k n d).1], b) := by
        unfold unitStep; rw [if_neg hk', if_neg hc]
        cases hks : u.Kids with
        | nil => rw [hks] at hkk; simp at hkk
        | cons a l => rw [hks] at hkk; simp at hkk; subst hkk; first | done | rfl
      refine Call.mk o1 ⟨fun hr => ?_, fun hr => ?_⟩
      · have hr : (O k n d).2 ≠ 0 := by simpa using hr
        rw [e2, if_pos hr] at he
        exact he.symm
      · have hr : (O k n d).2 = 0 := by simpa using hr
        exact ⟨b, rfl, hb, o3, by rw [e2, if_neg (by simp [hr])]⟩
  rintro _ dd ⟨b', rfl, h3, h4, h5⟩
  rw [h5] at he
  refine App.big (by decide) (by simp; omega) (App.big (by decide) (by simp; omega) (Let.as _ (wi1 (by omega)) ⟨⟨j + 1, b', rfl, rfl, h3, by omega, by simp; omega, by simp; omega, ?_, he⟩, meas 0⟩))
  intro z0 hz0
  rcases List.mem_append.1 hz0 with hz0 | hz0
  · exact hdo z0 hz0
  · simp at hz0; subst hz0; exact h4
omit hO in
theorem step_len {u : GTree} {n n' : List ByteArray} {d d' : List GDim} {b b' : Nat} (h : unitStep O u n d b = .inr (n', d', b')) : n'.length ≤ n.length + 1 ∧ d'.length ≤ d.length + 1 := by
  unfold unitStep at h
  split at h
  · cases h; omega
  split at h
  · cases h
  split at h
  · split at h
    · cases h
    · cases h; simp
  · split at h
    · cases h
    · cases h; simp
omit hO in
theorem units_len : ∀ (us : List GTree) (n : List ByteArray) (d : List GDim) (b : Nat), (unitsF O us n d b).1.length ≤ n.length + us.length ∧ (unitsF O us n d b).2.1.length ≤ d.length + us.length
  | [], n, d, b => by simp [unitsF]
  | u :: us, n, d, b => by
    unfold unitsF
    split
    · simp
    · rename_i n' d' b' h
      have h1 := step_len h
      have h2 := units_len us n' d' b'
      simp only [List.length_cons]
      omega
omit hO
theorem usame_ev {a : List ByteArray} (ha : a.length ≤ 100000) : Ev_law14_same a a true := by
  refine walk_law14_same ?_
  unfold W_law14_same
  refine Br.f (by simp) (Loop1.up a.length (fun _ => True) trivial ?_)
  intro i k hi _ hk
  refine Br.d (fun h => At.nat (by omega) fun x hx => At.nat (by omega) fun y hy => ?_) (fun _ => rfl)
  rw [hx] at hy; cases hy
  exact Br.f (by rw [beq_str.2 rfl]; rfl) (Let.as _ (wi1 (by omega)) (hk (by omega) trivial))
theorem dlike_ev {a : List GDim} (ha : a.length ≤ 100000) : Ev_ref14_Like a a true := by
  refine walk_ref14_Like ?_
  unfold W_ref14_Like
  refine Br.f (by simp) (Loop1.up a.length (fun _ => True) trivial ?_)
  intro i k hi _ hk
  refine Br.d (fun h => At.nat (by omega) fun x hx => At.nat (by omega) fun y hy => ?_) (fun _ => rfl)
  rw [hx] at hy; cases hy
  exact Br.f (by rw [GDim.beq_self]; rfl) (Let.as _ (wi1 (by omega)) (hk (by omega) trivial))
theorem unitNames_ev (t : GTree) (ht : t.ok) : Ev_law14_UnitNames t true := by
  obtain ⟨O, hO⟩ := of_fn
  refine walk_law14_UnitNames ?_
  unfold W_law14_UnitNames
  refine Call.mk (units_ev hO ht) (Call.mk (refUnits_ev hO ht) (Br.t (by simp) ?_))
  have hl : (if rightI nmB t = 0 then unitsF O t.Kids [] [] 0 else ([], [], 133)).1.length ≤ 100000 ∧ (if rightI nmB t = 0 then unitsF O t.Kids [] [] 0 else ([], [], 133)).2.1.length ≤ 100000 := by
    split
    · rename_i h0
      have hsz := rightI_siz h0
      have hkl := sizL_len t.Kids
      have hse := siz_eq t
      have := units_len (O := O) t.Kids [] [] 0
      simp at this
      omega
    · simp
  exact Call.mk (usame_ev hl.1) (Br.t rfl (Call.mk (dlike_ev hl.2) rfl))
end Go.Sim.YtffglpibobogcaaGreatDoor
