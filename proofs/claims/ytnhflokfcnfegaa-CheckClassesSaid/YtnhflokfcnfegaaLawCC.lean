/- What is proved: the statement CheckClasses as a plain one: the class of a name is the first one that has it. -/
import Derived.Test.YtnhflokfcnfegaaWC
import Derived.Test.YtnhflokfcnfegaaPureK
namespace Go.Sim.Ytnhflokfcnfegaa
open Go.RowKit Go.Proofs Go.Proofs.Try

/-- Where a test holds first. -/
def firstAt {α : Type} (p : α → Bool) (xs : List α) : Int := match xs.findIdx? p with | some i => (i : Int) | none => -1

theorem indexTree_ev {s : List GTree} {f : DV} {p : GTree → Bool} (hs : s.length ≤ maxLen) (hf : ∀ x ∈ s, FVal prog f [GTree.out x] (.v (.bool (p x)))) : Ev_slices_IndexFunc_api_Tree s f (firstAt p s) := by
  have hm : maxLen = 9223372036854775807 := rfl
  refine walk_slices_IndexFunc_api_Tree ?_
  unfold W_slices_IndexFunc_api_Tree
  refine Loop1.up s.length (fun i => ∀ j x, j < i → s[j]? = some x → p x = false) (by intro j x h; omega) ?_
  intro i k hi hP hk
  refine Br.d (fun h => At.nat (by omega) fun x hx => Call.mk (hf x (List.mem_of_getElem? hx)) ⟨fun hp => ?_, fun hp => ?_⟩) (fun h => ?_)
  · unfold firstAt
    have : s.findIdx? p = some i := by
      rw [List.findIdx?_eq_some_iff_getElem]
      obtain ⟨h1, h2⟩ := List.getElem?_eq_some_iff.1 hx
      refine ⟨h1, by rw [h2]; exact hp, fun j hj => ?_⟩
      have := hP j (s[j]'(by omega)) hj (List.getElem?_eq_getElem _)
      simp [this]
    rw [this]
  · refine Let.as _ (wi1 (by omega)) (hk (by omega) fun j y hj hy => ?_)
    by_cases e : j = i
    · subst e; rw [hx] at hy; cases hy; exact hp
    · exact hP j y (by omega) hy
  · unfold firstAt
    have : s.findIdx? p = none := by
      rw [List.findIdx?_eq_none_iff]
      intro x hx
      obtain ⟨j, hj⟩ := List.mem_iff_getElem?.1 hx
      exact hP j x (by have := (List.getElem?_eq_some_iff.1 hj).1; omega) hj
    rw [this]

theorem GRat.zero_ok : GRat.zero.ok := ⟨⟨by decide, by decide⟩, ⟨by decide, by decide⟩⟩
theorem GTree.zero_ok : GTree.zero.ok := by
  rw [GTree.ok_iff]
  refine ⟨?_, ?_, ?_, ?_, ?_, GRat.zero_ok, ?_, ?_⟩
  · exact ⟨by decide, by decide⟩
  · decide
  · decide
  · exact ⟨by decide, by decide⟩
  · exact ⟨by decide, by decide⟩
  · decide
  · simp

/-- Is a tree the class of a name? -/
def isClass (name : ByteArray) (t : GTree) : Bool := (t.Kind == 32) && (t.Name.toList == name.toList)

def classS (file : GTree) (name : ByteArray) : GTree × Bool := match file.Kids.find? (isClass name) with | some t => (t, true) | none => (GTree.zero, false)

theorem find_at {α : Type} {p : α → Bool} : ∀ {xs : List α}, (∀ i, xs.findIdx? p = some i → ∃ x, xs[i]? = some x ∧ xs.find? p = some x) ∧ (xs.findIdx? p = none → xs.find? p = none)
  | [] => by simp
  | y :: ys => by
    have ih := @find_at α p ys
    by_cases h : p y = true
    · simp [List.findIdx?_cons, h]
    · have h' : p y = false := by simpa using h
      simp only [List.findIdx?_cons, List.find?_cons, h', Bool.false_eq_true, if_false, Option.map_eq_some_iff, Option.map_eq_none_iff]
      refine ⟨?_, ih.2⟩
      rintro i ⟨j, hj, rfl⟩
      obtain ⟨x, h1, h2⟩ := ih.1 j hj
      exact ⟨x, by simpa using h1, h2⟩

theorem class_ev (file : GTree) (name : ByteArray) (hs : file.Kids.length ≤ maxLen) : Ev_check_Class file name (classS file name) := by
  refine walk_check_Class ?_
  unfold W_check_Class
  have hf : ∀ x ∈ file.Kids, FVal prog (Fn_check_Class_1 name) [GTree.out x] (.v (.bool (isClass name x))) := by
    intro x _
    refine call_check_Class_1 (walk_check_Class_1 ?_)
    unfold W_check_Class_1 isClass
    exact ⟨fun h => by simp [h], fun h => by simp [h]⟩
  refine Call.mk (indexTree_ev hs hf) ?_
  unfold firstAt classS
  cases he : file.Kids.findIdx? (isClass name) with
  | none =>
    rw [find_at.2 he]
    exact Br.dT (by decide) rfl
  | some i =>
    obtain ⟨x, h1, h2⟩ := find_at.1 i he
    rw [h2]
    refine Br.dF (by simp) (At.nat (List.getElem?_eq_some_iff.1 h1).1 fun y hy => ?_)
    rw [h1] at hy; cases hy; rfl

theorem refclass_ev (file : GTree) (name : ByteArray) (hs : file.Kids.length ≤ maxLen) : Ev_ref15_Class file name (classS file name) := by
  have hm : maxLen = 9223372036854775807 := rfl
  refine walk_ref15_Class ?_
  unfold W_ref15_Class
  refine Loop1.up file.Kids.length (fun i => ∀ j x, j < i → file.Kids[j]? = some x → isClass name x = false) (by intro j x h; omega) ?_
  intro i k hi hP hk
  have next : ∀ x, file.Kids[i]? = some x → isClass name x = false → i < file.Kids.length → Let (IntKind.i64.wrap ((i : Int) + 1)) k := fun x hx hp hl =>
    Let.as _ (wi1 (by omega)) (hk (by omega) fun j y hj hy => by
      by_cases e : j = i
      · subst e; rw [hx] at hy; cases hy; exact hp
      · exact hP j y (by omega) hy)
  refine Br.d (fun h => At.nat (by omega) fun x hx => ⟨fun h1 => ⟨fun h2 => ?_, fun h2 => next x hx (by simp [isClass, h2]) (by omega)⟩, fun h1 => next x hx (by simp [isClass, h1]) (by omega)⟩) (fun h => ?_)
  · have hp : isClass name x = true := by simp only [isClass, h1, h2, Bool.and_self]
    have : file.Kids.findIdx? (isClass name) = some i := by
      rw [List.findIdx?_eq_some_iff_getElem]
      obtain ⟨h1, h2⟩ := List.getElem?_eq_some_iff.1 hx
      refine ⟨h1, by rw [h2]; exact hp, fun j hj => ?_⟩
      have := hP j (file.Kids[j]'(by omega)) hj (List.getElem?_eq_getElem _)
      simp [this]
    obtain ⟨y, h3, h4⟩ := find_at.1 i this
    rw [hx] at h3; cases h3
    unfold classS
    rw [h4]
  · have : file.Kids.findIdx? (isClass name) = none := by
      rw [List.findIdx?_eq_none_iff]
      intro x hx
      obtain ⟨j, hj⟩ := List.mem_iff_getElem?.1 hx
      exact hP j x (by have := (List.getElem?_eq_some_iff.1 hj).1; omega) hj
    unfold classS
    rw [find_at.2 this]

theorem like_self (t : GTree) (ht : t.ok) : Ev_ref13_Like t t true := by
  have hm : maxLen = 9223372036854775807 := rfl
  have hk := (GTree.ok_iff t).1 ht
  obtain ⟨_, _, _, _, _, _, hl, hkids⟩ := hk
  refine walk_ref13_Like ?_
  unfold W_ref13_Like
  refine Br.f (by simp) (Br.f (by simp) (Br.f (by simp) (Br.f (by simp) (Br.f (by simp) (Br.f (by simp) (Br.f ?_ (Br.f (by simp) ?_)))))))
  · rw [(GRat.beq_iff _ _).2 rfl]; rfl
  refine Loop1.up t.Kids.length (fun _ => True) trivial ?_
  intro i k hi _ hk
  refine Br.d (fun h => ?_) (fun _ => rfl)
  refine At.nat (by omega) fun x hx => At.nat (by omega) fun y hy => ?_
  rw [hx] at hy
  cases hy
  have hmem := List.mem_of_getElem? hx
  refine Call.mk (like_self x (hkids x hmem)) (Br.f rfl (Let.as _ (wi1 (by omega)) (hk (by omega) trivial)))
termination_by SizeOf.sizeOf t
decreasing_by
  have := List.sizeOf_lt_of_mem hmem
  cases t; simp at this ⊢; omega

theorem checkClasses_ev (file : GTree) (name : ByteArray) (hf : file.ok) (_hn : name.size ≤ maxLen) : Ev_law15_CheckClasses file name true := by
  have hk := (GTree.ok_iff file).1 hf
  obtain ⟨_, _, _, _, _, _, hl, hkids⟩ := hk
  refine walk_law15_CheckClasses ?_
  unfold W_law15_CheckClasses
  refine Call.mk (class_ev file name hl) (Call.mk (refclass_ev file name hl) (Br.t (by simp) (Call.mk (like_self _ ?_) rfl)))
  unfold classS
  cases he : file.Kids.find? (isClass name) with
  | none => simp only []; exact GTree.zero_ok
  | some t => exact hkids t (List.mem_of_find?_eq_some he)

end Go.Sim.Ytnhflokfcnfegaa
