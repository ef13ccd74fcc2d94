/- What is proved: the statement UnitReads as a plain one: the dimension that a tree writes is the reference's. -/
import Derived.Test.YtffglpibobogcaaGreatDoorZUNWM
import Derived.Test.YtffglpibobogcaaGreatDoorZUNUnitM

namespace Go.Sim.YtffglpibobogcaaGreatDoor
open Go.RowKit Go.Proofs Go.Proofs.Tryz
theorem plain_ok : plainS.ok := by
  intro z hz
  have h : z ∈ List.replicate 7 (⟨0, 1⟩ : GRat) := hz
  have := (List.mem_replicate.1 h).2
  rw [this]
  exact GRat.ok_of ⟨by simp only [Sim.inI]; omega, by simp only [Sim.inI]; omega⟩
/-- How many parts a kind of dimension has. -/
def wantN (k : Int) : Int := if k = 20 then 0 else if k = 21 then 0 else if k = 22 then 2 else if k = 23 then 2 else if k = 24 then 1 else -1
theorem want_get (k : Int) : mget [((20 : Int), (0 : Int)), (21, 0), (22, 2), (23, 2), (24, 1)] k = if wantN k = -1 then none else some (wantN k) := by
  unfold wantN mget
  by_cases h1 : k = 20
  · subst h1; rfl
  by_cases h2 : k = 21
  · subst h2; rfl
  by_cases h3 : k = 22
  · subst h3; rfl
  by_cases h4 : k = 23
  · subst h4; rfl
  by_cases h5 : k = 24
  · subst h5; rfl
  simp [h1, h2, h3, h4, h5]
/-- Where a test holds first. -/
def firstIn {α : Type} (p : α → Bool) (xs : List α) : Int := match xs.findIdx? p with | some i => (i : Int) | none => -1
theorem find_is {α : Type} {p : α → Bool} {xs : List α} {i : Nat} {x : α} (hx : xs[i]? = some x) (hp : p x = true) (hP : ∀ j y, j < i → xs[j]? = some y → p y = false) : xs.findIdx? p = some i := by
  rw [List.findIdx?_eq_some_iff_getElem]
  obtain ⟨h1, h2⟩ := List.getElem?_eq_some_iff.1 hx
  refine ⟨h1, by rw [h2]; exact hp, fun j hj => ?_⟩
  have := hP j (xs[j]'(by omega)) hj (List.getElem?_eq_getElem _)
  simp [this]
theorem find_isno {α : Type} {p : α → Bool} {xs : List α} (hP : ∀ j y, j < xs.length → xs[j]? = some y → p y = false) : xs.findIdx? p = none := by
  rw [List.findIdx?_eq_none_iff]
  intro x hx
  obtain ⟨j, hj⟩ := List.mem_iff_getElem?.1 hx
  exact hP j x (List.getElem?_eq_some_iff.1 hj).1 hj
theorem next_no {α : Type} {p : α → Bool} {xs : List α} {i : Nat} {x : α} (hx : xs[i]? = some x) (hp : p x = false) (hP : ∀ j y, j < i → xs[j]? = some y → p y = false) : ∀ j y, j < i + 1 → xs[j]? = some y → p y = false := by
  intro j y hj hy
  by_cases e : j = i
  · subst e; rw [hx] at hy; cases hy; exact hp
  · exact hP j y (by omega) hy
theorem indexStr_ev {s : List ByteArray} {v : ByteArray} (hs : s.length ≤ maxLen) : Ev_slices_Index_string s v (firstIn (fun x => decide (v = x)) s) := by
  have hm : maxLen = 9223372036854775807 := rfl
  refine walk_slices_Index_string ?_
  unfold W_slices_Index_string
  refine Loop1.up s.length (fun i => ∀ j x, j < i → s[j]? = some x → decide (v = x) = false) (by intro j x h; omega) ?_
  intro i k hi hP hk
  refine Br.d (fun h => At.nat (by omega) fun x hx => ⟨fun hp => ?_, fun hp => ?_⟩) (fun h => ?_)
  · unfold firstIn
    rw [find_is hx (by simpa using beq_str.1 hp) hP]
  · refine Let.as _ (wi1 (by omega)) (hk (by omega) (next_no hx ?_ hP))
    have : ¬ v = x := fun e => by rw [beq_str.2 e] at hp; cases hp
    simpa using this
  · unfold firstIn
    rw [find_isno fun j y hj => hP j y (by omega)]
theorem containsDim_ev {s : List GDim} (hs : s.length ≤ maxLen) (hd : ∀ d ∈ s, d.ok) : Ev_slices_ContainsFunc_api_Dim s Fn_unit_Of_1 (s.any (fun d => !d.right)) := by
  have hm : maxLen = 9223372036854775807 := rfl
  have hf : ∀ d ∈ s, FVal prog Fn_unit_Of_1 [GDim.enc d] (.v (.bool (!d.right))) := fun d hmem => call_unit_Of_1 (walk_unit_Of_1 (by unfold W_unit_Of_1; exact Call.mk (dright_ev (hd d hmem)) rfl))
  have hi : Ev_slices_IndexFunc_api_Dim s Fn_unit_Of_1 (firstIn (fun d => !d.right) s) := by
    refine walk_slices_IndexFunc_api_Dim ?_
    unfold W_slices_IndexFunc_api_Dim
    refine Loop1.up s.length (fun i => ∀ j x, j < i → s[j]? = some x → (!x.right) = false) (by intro j x h; omega) ?_
    intro i k hi hP hk
    refine Br.d (fun h => At.nat (by omega) fun x hx => Call.mk (hf x (List.mem_of_getElem? hx)) ⟨fun hp => ?_, fun hp => ?_⟩) (fun h => ?_)
    · unfold firstIn
      rw [find_is hx hp hP]
    · exact Let.as _ (wi1 (by omega)) (hk (by omega) (next_no hx hp hP))
    · unfold firstIn
      rw [find_isno fun j y hj => hP j y (by omega)]
  refine walk_slices_ContainsFunc_api_Dim ?_
  unfold W_slices_ContainsFunc_api_Dim
  refine Call.mk hi ?_
  unfold firstIn
  cases he : s.findIdx? (fun d => !d.right) with
  | none =>
    rw [List.findIdx?_eq_none_iff] at he
    show _ = _
    rw [Bool.eq_iff_iff, decide_eq_true_iff, List.any_eq_true]
    constructor
    · intro h; simp only [] at h; omega
    · rintro ⟨x, hx, h⟩
      rw [he x hx] at h; cases h
  | some i =>
    rw [List.findIdx?_eq_some_iff_getElem] at he
    obtain ⟨h0, h2, _⟩ := he
    obtain ⟨x, hx⟩ : ∃ x, x = s[i] := ⟨_, rfl⟩
    rw [← hx] at h2
    have h1 : s[i]? = some x := by rw [hx]; exact List.getElem?_eq_getElem h0
    show _ = _
    rw [Bool.eq_iff_iff, decide_eq_true_iff, List.any_eq_true]
    exact ⟨fun _ => ⟨x, List.mem_of_getElem? h1, h2⟩, fun _ => by simp only []; omega⟩
/-- What follows the reading of a kind. -/
theorem want_two {k : Int} : wantN k = 2 ↔ k = 22 ∨ k = 23 := by unfold wantN; repeat' split <;> omega
theorem want_one {k : Int} : wantN k = 1 ↔ k = 24 := by unfold wantN; repeat' split <;> omega
theorem want_nil {k : Int} : wantN k = 0 ↔ k = 20 ∨ k = 21 := by unfold wantN; repeat' split <;> omega
theorem want_rest (k : Int) : wantN k = 0 ∨ wantN k = 1 ∨ wantN k = 2 ∨ wantN k = -1 := by unfold wantN; repeat' split <;> omega
theorem ref_want {k : Int} {K : Int → Prop} (h : K (wantN k)) : Join1 (fun j15 =>
    Join1 (fun j17 =>
      Br (k == (20 : Int)) (j17 (k == (20 : Int))) (
        j17 (k == (21 : Int)))
    ) (fun (x16 : Bool) =>
      Br x16 (j15 (0 : Int)) (
        Join1 (fun j19 =>
          Br (k == (22 : Int)) (j19 (k == (22 : Int))) (
            j19 (k == (23 : Int)))
        ) (fun (x18 : Bool) =>
          Br x18 (j15 (2 : Int)) (
            Br (k == (24 : Int)) (j15 (1 : Int)) (
              j15 (-1 : Int))))))
  ) K := by
  refine ⟨fun n => n = wantN k, ⟨fun b => b = (k == 20 || k == 21), Br.e (fun e => by simp [e]) (fun e => by simp [e]), ?_⟩, fun n hn => by rw [hn]; exact h⟩
  rintro _ rfl
  refine ⟨fun h => ?_, fun h => ⟨fun b => b = (k == 22 || k == 23), Br.e (fun e => by simp [e]) (fun e => by simp [e]), ?_⟩⟩
  · exact (want_nil.2 (by simpa using h)).symm
  · rintro _ rfl
    refine ⟨fun h2 => (want_two.2 (by simpa using h2)).symm, fun h2 => Br.e (fun h3 => (want_one.2 h3).symm) (fun h3 => ?_)⟩
    have a1 : ¬ (k = 20 ∨ k = 21) := by simpa using h
    have a2 : ¬ (k = 22 ∨ k = 23) := by simpa using h2
    rcases want_rest k with e | e | e | e
    · exact absurd (want_nil.1 e) a1
    · exact absurd (want_one.1 e) h3
    · exact absurd (want_two.1 e) a2
    · exact e.symm
/-- The dimension that a tree writes: the program's and the reference's are one. -/
theorem dim_both {names : List ByteArray} {dims : List GDim} (hn : names.length = dims.length) (hl : names.length ≤ maxLen) (hd : ∀ d ∈ dims, d.ok) (t : GTree) (ht : t.ok) :
    ∃ r : GDim × Int, Ev_unit_of t names dims r ∧ Ev_ref14_dim t names dims r ∧ r.1.ok := by
  have hm : maxLen = 9223372036854775807 := rfl
  obtain ⟨_, _, _, _, _, hnum, hkl, hkids⟩ := (GTree.ok_iff t).1 ht
  have pre : ∀ r : GDim × Int, (∀ m : List (Int × Int), m = [((20 : Int), (0 : Int)), (21, 0), (22, 2), (23, 2), (24, 1)] → _) → Ev_unit_of t names dims r := fun r h => walk_unit_of (by
    unfold W_unit_of
    exact Let.as [((20 : Int), (0 : Int))] rfl (Let.as [((20 : Int), (0 : Int)), (21, 0)] rfl (Let.as [((20 : Int), (0 : Int)), (21, 0), (22, 2)] rfl (Let.as [((20 : Int), (0 : Int)), (21, 0), (22, 2), (23, 2)] rfl (Let.as [((20 : Int), (0 : Int)), (21, 0), (22, 2), (23, 2), (24, 1)] rfl (h _ rfl))))))
  by_cases hlen : (t.Kids.length : Int) = wantN t.Kind
  · have hw : wantN t.Kind ≠ -1 := by omega
    have hg : mget [((20 : Int), (0 : Int)), (21, 0), (22, 2), (23, 2), (24, 1)] t.Kind = some (wantN t.Kind) := by rw [want_get, if_neg hw]
    have ref : ∀ r : GDim × Int, _ → Ev_ref14_dim t names dims r := fun r h => walk_ref14_dim (by
      unfold W_ref14_dim
      exact ref_want (Br.f (by simp [hlen]) h))
    by_cases k20 : t.Kind = 20
    · refine ⟨(plainS, 0), pre _ fun m em => ?_, ref _ (Br.eT k20 (Call.mk refplain_ev rfl)), plain_ok⟩
      subst em
      rw [hg]
      exact Br.f rfl (Br.f (by simp [hlen]) (Br.eT (want_nil.2 (.inl k20)) (Br.eT k20 (Call.mk plain_ev rfl))))
    by_cases k21 : t.Kind = 21
    · cases hf : names.findIdx? (fun x => decide (t.Name = x)) with
      | none =>
        refine ⟨(GDim.zero, 150), pre _ fun m em => ?_, ref _ (Br.eF k20 (Br.eT k21 ?_)), GDim.zero_ok⟩
        · subst em
          rw [hg]
          refine Br.f rfl (Br.f (by simp [hlen]) (Br.eT (want_nil.2 (.inr k21)) (Br.eF k20 (Call.mk (indexStr_ev hl) ?_))))
          unfold firstIn
          rw [hf]
          exact Br.dT (by decide) rfl
        · rw [List.findIdx?_eq_none_iff] at hf
          refine Loop1.up names.length (fun _ => True) trivial ?_
          intro i k hi _ hk
          refine Br.d (fun h => At.nat (by omega) fun x hx => ⟨fun hp => ?_, fun _ => Let.as _ (wi1 (by omega)) (hk (by omega) trivial)⟩) (fun h => rfl)
          have := hf x (List.mem_of_getElem? hx)
          simp [beq_str.1 hp] at this
      | some i =>
        have hf' := hf
        rw [List.findIdx?_eq_some_iff_getElem] at hf
        obtain ⟨h0, h1, h2⟩ := hf
        obtain ⟨d, hdd⟩ : ∃ d, dims[i]? = some d := ⟨_, List.getElem?_eq_getElem (by omega)⟩
        have e1 : names[i] = t.Name := (by simpa using h1 : t.Name = names[i]).symm
        refine ⟨(d, 0), pre _ fun m em => ?_, ref _ (Br.eF k20 (Br.eT k21 ?_)), hd d (List.mem_of_getElem? hdd)⟩
        · subst em
          rw [hg]
          refine Br.f rfl (Br.f (by simp [hlen]) (Br.eT (want_nil.2 (.inr k21)) (Br.eF k20 (Call.mk (indexStr_ev hl) ?_))))
          unfold firstIn
          rw [hf']
          refine Br.dF (by simp only []; omega) (At.nat (by omega) fun x hx => ?_)
          rw [hdd] at hx; cases hx; rfl
        · refine Loop1.up i (fun _ => True) trivial ?_
          intro j k hj _ hk
          refine Br.dT (by omega) (At.nat (by omega) fun x hx => ⟨fun hp => At.nat (by omega) fun y hy => ?_, fun hp => Let.as _ (wi1 (by omega)) (hk ?_ trivial)⟩)
          · have e : j = i := by
              by_cases e : j = i
              · exact e
              · have := h2 j (by omega)
                have hx' := (List.getElem?_eq_some_iff.1 hx).2
                rw [hx', beq_str.1 hp] at this
                simp at this
            subst e
            rw [hdd] at hy; cases hy; rfl
          · by_cases e : j = i
            · subst e
              have hx' := (List.getElem?_eq_some_iff.1 hx).2
              have : (x.toList == t.Name.toList) = true := beq_str.2 (by rw [← hx', e1])
              rw [this] at hp; cases hp
            · omega
    have hne : wantN t.Kind ≠ 0 := fun h => by rcases want_nil.1 h with h | h <;> contradiction
    have hk0 : 0 < t.Kids.length := by rcases want_rest t.Kind with h | h | h | h <;> omega
    obtain ⟨x, hx⟩ : ∃ x, t.Kids[0]? = some x := ⟨_, List.getElem?_eq_getElem hk0⟩
    have hxm := List.mem_of_getElem? hx
    obtain ⟨r0, u0, f0, o0⟩ := dim_both hn hl hd x (hkids x hxm)
    have at0 : ∀ {K : GTree → Prop}, K x → At t.Kids (0 : Int) K := fun h => At.nat (i := 0) hk0 fun y hy => by rw [hx] at hy; cases hy; exact h
    by_cases b0 : r0.2 = 0
    · by_cases k24 : t.Kind = 24
      · refine ⟨timesS plainS r0.1 t.Num, pre _ fun m em => ?_, ref _ (Br.eF k20 (Br.eF k21 (at0 (Call.mk f0 (Br.f (by simp [b0]) (Br.eT k24 (Call.mk refplain_ev (Call.mk (reftimes_ev plain_ok o0 hnum) rfl)))))))), times_isok _ _ _⟩
        subst em
        rw [hg]
        exact Br.f rfl (Br.f (by simp [hlen]) (Br.eF hne (at0 (Call.mk u0 (Br.f (by simp [b0]) (Br.eT (want_one.2 k24) (Call.mk plain_ev (Call.mk (times_ev plain_ok o0 hnum) rfl))))))))
      · have h2 : wantN t.Kind = 2 := by
          rcases want_rest t.Kind with h | h | h | h
          · exact absurd h hne
          · exact absurd (want_one.1 h) k24
          · exact h
          · exact absurd h hw
        have hk1 : 1 < t.Kids.length := by omega
        obtain ⟨y, hy⟩ : ∃ y, t.Kids[1]? = some y := ⟨_, List.getElem?_eq_getElem hk1⟩
        have hym := List.mem_of_getElem? hy
        obtain ⟨r1, u1, f1, o1⟩ := dim_both hn hl hd y (hkids y hym)
        have at1 : ∀ {K : GTree → Prop}, K y → At t.Kids (1 : Int) K := fun h => At.nat (i := 1) hk1 fun z hz => by rw [hy] at hz; cases hz; exact h
        have hn1 : wantN t.Kind ≠ 1 := by omega
        by_cases b1 : r1.2 = 0
        · have one_ok : ∀ n : Int, -1 ≤ n → n ≤ 1 → (GRat.mk n 1).ok := fun n h1 h2 => GRat.ok_of ⟨by simp only [Sim.inI]; omega, by simp only [Sim.inI]; omega⟩
          by_cases k22 : t.Kind = 22
          · refine ⟨timesS r0.1 r1.1 ⟨1, 1⟩, pre _ fun m em => ?_, ref _ (Br.eF k20 (Br.eF k21 (at0 (Call.mk f0 (Br.f (by simp [b0]) (Br.eF k24 (at1 (Call.mk f1 (Br.f (by simp [b1]) (Br.eF (by omega) (Call.mk (x := (⟨1, 1⟩ : GRat)) (walk_ref14_Whole rfl) (Call.mk (reftimes_ev o0 o1 (one_ok 1 (by omega) (by omega))) rfl)))))))))))), times_isok _ _ _⟩
            subst em
            rw [hg]
            exact Br.f rfl (Br.f (by simp [hlen]) (Br.eF hne (at0 (Call.mk u0 (Br.f (by simp [b0]) (Br.eF hn1 (at1 (Call.mk u1 (Br.f (by simp [b1]) (Br.eT k22 (Call.mk (x := (⟨1, 1⟩ : GRat)) (walk_unit_whole rfl) (Call.mk (times_ev o0 o1 (one_ok 1 (by omega) (by omega))) rfl))))))))))))
          · have k23 : t.Kind = 23 := (want_two.1 h2).resolve_left k22
            refine ⟨timesS r0.1 r1.1 ⟨-1, 1⟩, pre _ fun m em => ?_, ref _ (Br.eF k20 (Br.eF k21 (at0 (Call.mk f0 (Br.f (by simp [b0]) (Br.eF k24 (at1 (Call.mk f1 (Br.f (by simp [b1]) (Br.eT k23 (Call.mk (x := (⟨-1, 1⟩ : GRat)) (walk_ref14_Whole rfl) (Call.mk (reftimes_ev o0 o1 (one_ok (-1) (by omega) (by omega))) rfl)))))))))))), times_isok _ _ _⟩
            subst em
            rw [hg]
            exact Br.f rfl (Br.f (by simp [hlen]) (Br.eF hne (at0 (Call.mk u0 (Br.f (by simp [b0]) (Br.eF hn1 (at1 (Call.mk u1 (Br.f (by simp [b1]) (Br.eF k22 (Call.mk (x := (⟨-1, 1⟩ : GRat)) (walk_unit_whole rfl) (Call.mk (times_ev o0 o1 (one_ok (-1) (by omega) (by omega))) rfl))))))))))))
        · refine ⟨(GDim.zero, r1.2), pre _ fun m em => ?_, ref _ (Br.eF k20 (Br.eF k21 (at0 (Call.mk f0 (Br.f (by simp [b0]) (Br.eF k24 (at1 (Call.mk f1 (Br.t (by simp [b1]) rfl))))))))), GDim.zero_ok⟩
          subst em
          rw [hg]
          exact Br.f rfl (Br.f (by simp [hlen]) (Br.eF hne (at0 (Call.mk u0 (Br.f (by simp [b0]) (Br.eF hn1 (at1 (Call.mk u1 (Br.t (by simp [b1]) rfl)))))))))
    · refine ⟨(GDim.zero, r0.2), pre _ fun m em => ?_, ref _ (Br.eF k20 (Br.eF k21 (at0 (Call.mk f0 (Br.t (by simp [b0]) rfl))))), GDim.zero_ok⟩
      subst em
      rw [hg]
      exact Br.f rfl (Br.f (by simp [hlen]) (Br.eF hne (at0 (Call.mk u0 (Br.t (by simp [b0]) rfl)))))
  · refine ⟨(GDim.zero, 133), pre _ fun m em => ?_, walk_ref14_dim (by unfold W_ref14_dim; exact ref_want (Br.t (by simp [hlen]) rfl)), GDim.zero_ok⟩
    subst em
    rw [want_get]
    by_cases hw : wantN t.Kind = -1
    · rw [if_pos hw]; exact Br.t rfl rfl
    · rw [if_neg hw]; exact Br.f rfl (Br.t (by simp [hlen]) rfl)
termination_by SizeOf.sizeOf t
decreasing_by
  · have := List.sizeOf_lt_of_mem hxm
    cases t; simp at this ⊢; omega
  · have := List.sizeOf_lt_of_mem hym
    cases t; simp at this ⊢; omega
/-- A unit's dimension, with names: the program's and the reference's are one. -/
theorem of_both (t : GTree) (names : List ByteArray) (dims : List GDim) (ht : t.ok) (hn : names.length ≤ maxLen) (hd : dims.length ≤ maxLen ∧ ∀ z0 ∈ dims, GDim.ok z0) : ∃ r : GDim × Int, Ev_unit_Of t names dims r ∧ Ev_ref14_Of t names dims r ∧ r.1.ok := by
  have hm : maxLen = 9223372036854775807 := rfl
  by_cases hl : names.length = dims.length
  · by_cases hr : ∀ d ∈ dims, d.right = true
    · obtain ⟨r, h1, h2, h3⟩ := dim_both hl hn hd.2 t ht
      refine ⟨r, walk_unit_Of ?_, walk_ref14_Of ?_, h3⟩
      · unfold W_unit_Of
        refine Br.f (by simp [hl]) (Call.mk (containsDim_ev hd.1 hd.2) (Br.f ?_ (Call.mk h1 rfl)))
        rw [Bool.eq_false_iff]
        intro h
        obtain ⟨d, hdm, h3⟩ := List.any_eq_true.1 h
        rw [hr d hdm] at h3; cases h3
      · unfold W_ref14_Of
        refine Br.f (by simp [hl]) (Loop1.up dims.length (fun _ => True) trivial ?_)
        intro i k hi _ hk
        refine Br.d (fun h => At.nat (by omega) fun x hx => Call.mk (refdright_ev (hd.2 x (List.mem_of_getElem? hx))) (Br.f (by rw [hr x (List.mem_of_getElem? hx)]; rfl) (Let.as _ (wi1 (by omega)) (hk (by omega) trivial)))) (fun _ => Call.mk h2 rfl)
    · have hr' : ∃ d, d ∈ dims ∧ d.right = false := by
        by_cases h : ∃ d, d ∈ dims ∧ d.right = false
        · exact h
        · exact absurd (fun d hdm => by cases e : d.right with | true => rfl | false => exact absurd ⟨d, hdm, e⟩ h) hr
      obtain ⟨d, hdm, hdf⟩ := hr'
      refine ⟨(GDim.zero, 1), walk_unit_Of ?_, walk_ref14_Of ?_, GDim.zero_ok⟩
      · unfold W_unit_Of
        exact Br.f (by simp [hl]) (Call.mk (containsDim_ev hd.1 hd.2) (Br.t (List.any_eq_true.2 ⟨d, hdm, by rw [hdf]; rfl⟩) rfl))
      · unfold W_ref14_Of
        obtain ⟨j, hj⟩ := List.mem_iff_getElem?.1 hdm
        have hjl := (List.getElem?_eq_some_iff.1 hj).1
        refine Br.f (by simp [hl]) (Loop1.up j (fun _ => True) trivial ?_)
        intro i k hi _ hk
        refine Br.dT (by omega) (At.nat (by omega) fun x hx => Call.mk (refdright_ev (hd.2 x (List.mem_of_getElem? hx))) ⟨fun _ => rfl, fun h => Let.as _ (wi1 (by omega)) (hk ?_ trivial)⟩)
        by_cases e : i = j
        · subst e; rw [hj] at hx; cases hx; rw [hdf] at h; cases h
        · omega
  · refine ⟨(GDim.zero, 1), walk_unit_Of ?_, walk_ref14_Of ?_, GDim.zero_ok⟩
    · unfold W_unit_Of
      exact Br.t (by simp; omega) rfl
    · unfold W_ref14_Of
      exact Br.t (by simp; omega) rfl
end Go.Sim.YtffglpibobogcaaGreatDoor
