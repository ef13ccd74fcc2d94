/- What is proved: where tokens stand changes nothing of what is read, but an error's place. -/
import Derived.Test.YtnnfiohdkobkdaaGreatDoorZPBParP

namespace Go.Sim.YtnnfiohdkobkdaaGreatDoor
open Go.RowKit Go.Proofs Go.Proofs.Tryz
def key (t : GToken) : Int × ByteArray × GRat := (t.Kind, t.S, t.Num)
def StR (s t : PS) : Prop := s.1.map key = t.1.map key /\ s.2 = t.2
def RR {α β : Type} (R : α -> β -> Prop) : Except PE α -> Except PE β -> Prop
 | .ok a, .ok b => R a b
 | .error e, .error f => e.1 = f.1
 | _, _ => False
abbrev VR {α : Type} (a b : α × PS) : Prop := a.1 = b.1 /\ StR a.2 b.2
theorem RR.bnd {α β γ δ : Type} {R : α -> β -> Prop} {S : γ -> δ -> Prop} {x : Except PE α} {y : Except PE β} {f : α -> Except PE γ} {g : β -> Except PE δ} (h : RR R x y) (k : ∀ a b, R a b -> RR S (f a) (g b)) : RR S (Sim.YtnnfiohdkobkdaaGreatDoor.bnd x f) (Sim.YtnnfiohdkobkdaaGreatDoor.bnd y g) := by
 cases x <;> cases y
 ·exact h
 ·exact h.elim
 ·exact h.elim
 ·exact k _ _ h
theorem hd_key {ts us : List GToken} (h : ts.map key = us.map key) : key (hdT ts) = key (hdT us) := by
 cases ts <;> cases us
 ·rfl
 ·simp at h
 ·simp at h
 ·simp only [List.map_cons, List.cons.injEq] at h; exact h.1
theorem hd_kind {s t : PS} (h : StR s t) : (hdT s.1).Kind = (hdT t.1).Kind := congrArg (·.1) (hd_key h.1)
theorem hd_s {s t : PS} (h : StR s t) : (hdT s.1).S = (hdT t.1).S := congrArg (·.2.1) (hd_key h.1)
theorem hd_num {s t : PS} (h : StR s t) : (hdT s.1).Num = (hdT t.1).Num := congrArg (·.2.2) (hd_key h.1)
theorem is_eq {s t : PS} (h : StR s t) (w : ByteArray) : isP w s = isP w t := by unfold isP isT; rw [hd_kind h, hd_s h]
theorem next_R {s t : PS} (h : StR s t) : StR (nextP s) (nextP t) := by
 refine ⟨?_, h.2⟩
 show s.1.tail.map key = t.1.tail.map key
 rw [List.map_tail, List.map_tail, h.1]
theorem len_R {s t : PS} (h : StR s t) : s.1.length = t.1.length := by have := congrArg List.length h.1; simpa using this
theorem fail_R {s t : PS} (h : StR s t) : (failP s).1 = (failP t).1 := by unfold failP; rw [hd_kind h]
theorem must_R {s t : PS} (h : StR s t) (w : ByteArray) : RR StR (mustP w s) (mustP w t) := by
 unfold mustP; rw [is_eq h]
 split
 ·exact next_R h
 ·exact fail_R h
theorem musts_R : ∀ (l : List ByteArray) {s t : PS}, StR s t -> RR StR (mustsP l s) (mustsP l t)
 | [], _, _, h => h
 | w :: l, _, _, h => (must_R h w).bnd fun _ _ h => musts_R l h
theorem open_R {s t : PS} (h : StR s t) (k : Int -> Int) : StR (s.1, k s.2) (t.1, k t.2) := ⟨h.1, congrArg k h.2⟩
theorem enter_R {s t : PS} (h : StR s t) (w : ByteArray) : RR StR (enterP w s) (enterP w t) := by
 unfold enterP; rw [is_eq h, h.2]
 split
 ·rfl
 ·exact (must_R h w).bnd fun _ _ h => open_R h (· + 1)
theorem leave_R {s t : PS} (h : StR s t) (l : List ByteArray) : RR StR (leaveP l s) (leaveP l t) := (musts_R l h).bnd fun _ _ h => open_R h (· - 1)
theorem name_R {s t : PS} (h : StR s t) : RR VR (nameP s) (nameP t) := by
 unfold nameP; rw [hd_kind h]
 split
 ·exact ⟨hd_s h, next_R h⟩
 ·exact fail_R h
theorem num_R {s t : PS} (h : StR s t) (so : GRat -> Bool) : RR VR (numP so s) (numP so t) := by
 unfold numP; rw [hd_kind h, hd_num h]
 split
 ·split
  ·exact ⟨rfl, next_R h⟩
  ·rfl
 ·exact fail_R h
theorem int_R {s t : PS} (h : StR s t) : RR VR (intP s) (intP t) := (num_R h _).bnd fun _ _ h => ⟨congrArg GRat.N h.1, h.2⟩
theorem power_R {s t : PS} (h : StR s t) : RR VR (powerP s) (powerP t) := by
 unfold powerP; rw [is_eq h]
 split
 ·exact (num_R (next_R h) _).bnd fun _ _ h => ⟨by rw [h.1], h.2⟩
 ·exact (num_R h _).bnd fun _ _ h => ⟨by rw [h.1], h.2⟩
theorem el_R {s t : PS} (h : StR s t) : RR VR (elP s) (elP t) := by
 unfold elP
 refine (name_R h).bnd fun a b h => ?_
 rw [is_eq h.2, h.1]
 split
 ·dsimp only
  rw [hd_kind (next_R h.2)]
  split
  ·exact (int_R (next_R h.2)).bnd fun _ _ h => (must_R h.2 _).bnd fun _ _ h' => ⟨by rw [h.1], h'⟩
  ·refine (name_R (next_R h.2)).bnd fun a b h => ?_
   rw [is_eq h.2, is_eq h.2, h.1]
   split
   ·exact (int_R (next_R h.2)).bnd fun _ _ h => (must_R h.2 _).bnd fun _ _ h' => ⟨by rw [h.1], h'⟩
   ·split
    ·exact (int_R (next_R h.2)).bnd fun _ _ h => (must_R h.2 _).bnd fun _ _ h' => ⟨by rw [h.1], h'⟩
    ·exact (must_R h.2 _).bnd fun _ _ h' => ⟨rfl, h'⟩
 ·exact ⟨rfl, h.2⟩
theorem els_R : ∀ (n : Nat) (ks : List GTree) {s t : PS}, StR s t -> RR VR (elsP n ks s) (elsP n ks t)
 | 0, _, _, _, _ => rfl
 | n + 1, ks, s, t, h => by
  unfold elsP; rw [is_eq h]
  split
  ·exact (el_R (next_R h)).bnd fun a b h => by rw [h.1]; exact els_R n _ h.2
  ·exact ⟨rfl, h⟩
theorem ref_R {s t : PS} (h : StR s t) : RR VR (refP s) (refP t) := by
 unfold refP
 exact (el_R h).bnd fun a b h => by rw [h.1, len_R h.2]; exact (els_R _ _ h.2).bnd fun _ _ h => ⟨by rw [h.1], h.2⟩
theorem der_R {s t : PS} (h : StR s t) : RR VR (derP s) (derP t) := by
 unfold derP
 exact (must_R h _).bnd fun _ _ h => (enter_R h _).bnd fun _ _ h => (ref_R h).bnd fun _ _ h => (leave_R h.2 _).bnd fun _ _ h' => ⟨by rw [h.1], h'⟩
theorem row_R {part : PS -> PR GTree} (hp : ∀ s t, StR s t -> RR VR (part s) (part t)) (one : ByteArray) (k : Int) (other : ByteArray) (k2 : Int) : ∀ (n : Nat) (x : GTree) {s t : PS}, StR s t -> RR VR (rowP part one k other k2 n x s) (rowP part one k other k2 n x t)
 | 0, _, _, _, _ => rfl
 | n + 1, x, s, t, h => by
  unfold rowP; rw [is_eq h, is_eq h]
  split
  ·exact (hp _ _ (next_R h)).bnd fun a b h => by rw [h.1]; exact row_R hp one k other k2 n _ h.2
  ·split
   ·exact (hp _ _ (next_R h)).bnd fun a b h => by rw [h.1]; exact row_R hp one k other k2 n _ h.2
   ·exact ⟨rfl, h⟩
theorem rows_R {part : PS -> PR GTree} (hp : ∀ s t, StR s t -> RR VR (part s) (part t)) (one : ByteArray) (k : Int) (other : ByteArray) (k2 : Int) (s t : PS) (h : StR s t) : RR VR (rowsP part one k other k2 s) (rowsP part one k other k2 t) := by
 unfold rowsP
 exact (hp _ _ h).bnd fun a b h => by rw [h.1, len_R h.2]; exact row_R hp one k other k2 _ _ h.2
theorem neg_R : ∀ (n : Nat) (s t : PS), StR s t -> RR VR (negP n s) (negP n t)
 | 0, _, _, _ => rfl
 | n + 1, s, t, h => by
  have ih := neg_R n
  have he : ∀ s t, StR s t -> RR VR (rowsP (rowsP (negP n) (ByteArray.mk #[42]) 10 (ByteArray.mk #[47]) 11) (ByteArray.mk #[43]) 8 (ByteArray.mk #[45]) 9 s) (rowsP (rowsP (negP n) (ByteArray.mk #[42]) 10 (ByteArray.mk #[47]) 11) (ByteArray.mk #[43]) 8 (ByteArray.mk #[45]) 9 t) :=
   rows_R (rows_R ih _ _ _ _) _ _ _ _
  unfold negP
  dsimp only
  rw [is_eq h]
  split
  ·exact (enter_R h _).bnd fun _ _ h => (ih _ _ h).bnd fun _ _ h => ⟨by rw [h.1], open_R h.2 (· - 1)⟩
  ·refine RR.bnd (R := VR) ?_ fun a b h => ?_
   ·rw [hd_kind h, is_eq h, is_eq h, is_eq h, hd_s h]
    split
    ·exact (num_R h _).bnd fun _ _ h => ⟨by rw [h.1], h.2⟩
    split
    ·exact ⟨rfl, next_R h⟩
    split
    ·exact der_R h
    split
    ·exact (enter_R h _).bnd fun _ _ h => (he _ _ h).bnd fun _ _ h => (leave_R h.2 _).bnd fun _ _ h' => ⟨h.1, h'⟩
    split
    ·split
     ·exact fail_R h
     ·exact (enter_R (next_R h) _).bnd fun _ _ h => (he _ _ h).bnd fun _ _ h => (leave_R h.2 _).bnd fun _ _ h' => ⟨by rw [h.1], h'⟩
    ·exact ref_R h
   ·rw [is_eq h.2]
    split
    ·exact (power_R (next_R h.2)).bnd fun _ _ h' => ⟨by rw [h.1, h'.1], h'.2⟩
    ·exact h
theorem expr_R (n : Nat) (s t : PS) (h : StR s t) : RR VR (exprP n s) (exprP n t) := rows_R (rows_R (neg_R n) _ _ _ _) _ _ _ _ s t h
variable (mk : Int -> Int -> GRat)
theorem up_R : ∀ (n : Nat) (s t : PS), StR s t -> RR VR (upP mk n s) (upP mk n t)
 | 0, _, _, _ => rfl
 | n + 1, s, t, h => by
  have ih := up_R n
  unfold upP
  dsimp only
  refine RR.bnd (R := VR) ?_ fun a b h => ?_
  ·rw [hd_kind h, is_eq h]
   split
   ·exact (enter_R h _).bnd fun _ _ h => (rows_R ih _ _ _ _ _ _ h).bnd fun _ _ h => (leave_R h.2 _).bnd fun _ _ h' => ⟨h.1, h'⟩
   split
   ·exact (num_R h _).bnd fun _ _ h => ⟨rfl, h.2⟩
   ·exact (name_R h).bnd fun _ _ h => ⟨by rw [h.1], h.2⟩
  ·rw [is_eq h.2]
   split
   ·rw [is_eq (next_R h.2)]
    split
    ·exact (enter_R (next_R h.2) _).bnd fun _ _ h1 => (power_R h1).bnd fun _ _ h2 => (must_R h2.2 _).bnd fun _ _ h3 => (num_R h3 _).bnd fun _ _ h4 => (leave_R h4.2 _).bnd fun _ _ h5 => ⟨by rw [h.1, h2.1, h4.1], h5⟩
    ·exact (power_R (next_R h.2)).bnd fun _ _ h' => ⟨by rw [h.1, h'.1], h'.2⟩
   ·exact h
theorem dim_R (n : Nat) (s t : PS) (h : StR s t) : RR VR (dimP mk n s) (dimP mk n t) := rows_R (up_R mk n) _ _ _ _ s t h
theorem kind_R {s t : PS} (h : StR s t) : RR VR (kindP mk s) (kindP mk t) := by
 unfold kindP; rw [is_eq h]
 split
 ·exact (dim_R mk _ _ _ (next_R h)).bnd fun _ _ h => ⟨by rw [h.1], h.2⟩
 ·exact ⟨rfl, h⟩
theorem array_R {s t : PS} (h : StR s t) : RR VR (arrayP s) (arrayP t) := by
 unfold arrayP; rw [is_eq h]
 split
 ·exact (int_R (next_R h)).bnd fun _ _ h => (must_R h.2 _).bnd fun _ _ h' => ⟨h.1, h'⟩
 ·exact ⟨rfl, h⟩
theorem mods_R : ∀ (n : Nat) (ks : List GTree) {s t : PS}, StR s t -> RR VR (modsP n ks s) (modsP n ks t)
 | 0, _, _, _, _ => rfl
 | n + 1, ks, s, t, h => by
  unfold modsP
  refine (name_R h).bnd fun a b h1 => (must_R h1.2 _).bnd fun _ _ h2 => (expr_R _ _ _ h2).bnd fun _ _ h3 => ?_
  dsimp only
  rw [is_eq h3.2, h1.1, h3.1]
  split
  ·exact mods_R n _ (next_R h3.2)
  ·exact ⟨rfl, h3.2⟩
theorem part_R {s t : PS} (h : StR s t) : RR VR (partP s) (partP t) := by
 unfold partP
 refine (name_R h).bnd fun a b h1 => (array_R h1.2).bnd fun _ _ h2 => (must_R h2.2 _).bnd fun _ _ h3 => (name_R h3).bnd fun _ _ h4 => ?_
 dsimp only
 rw [is_eq h4.2, h1.1, h2.1, h4.1]
 split
 ·exact (enter_R h4.2 _).bnd fun _ _ h5 => by rw [len_R h5]; exact (mods_R _ _ h5).bnd fun _ _ h6 => (leave_R h6.2 _).bnd fun _ _ h7 => ⟨by rw [h6.1], h7⟩
 ·exact ⟨rfl, h4.2⟩
theorem start_R {s t : PS} (h : StR s t) : RR VR (startP s) (startP t) := by
 unfold startP
 refine RR.bnd (R := VR) ?_ fun a b h => ?_
 ·rw [is_eq h]
  split
  ·exact der_R h
  ·exact ref_R h
 ·rw [is_eq h.2, h.1]
  split
  ·exact (expr_R _ _ _ (next_R h.2)).bnd fun _ _ h' => ⟨by rw [h'.1], h'.2⟩
  ·exact (musts_R _ h.2).bnd fun _ _ h1 => (expr_R _ _ _ h1).bnd fun _ _ h2 => (must_R h2.2 _).bnd fun _ _ h3 => (expr_R _ _ _ h3).bnd fun _ _ h4 => (must_R h4.2 _).bnd fun _ _ h5 => ⟨by rw [h2.1, h4.1], h5⟩
theorem rules_R {rule : PS -> PR GTree} (hp : ∀ s t, StR s t -> RR VR (rule s) (rule t)) : ∀ (n : Nat) (ks : List GTree) {s t : PS}, StR s t -> RR VR (rulesP rule n ks s) (rulesP rule n ks t)
 | 0, _, _, _, _ => rfl
 | n + 1, ks, s, t, h => by
  unfold rulesP; rw [is_eq h]
  split
  ·exact ⟨rfl, h⟩
  ·exact (hp _ _ h).bnd fun a b h => by rw [h.1]; exact rules_R hp n _ h.2
theorem rule_R : ∀ (n : Nat) (s t : PS), StR s t -> RR VR (ruleP n s) (ruleP n t)
  | 0, _, _, _ => rfl
  | n + 1, s, t, h => by
    unfold ruleP; rw [is_eq h, is_eq h]
    split
    · exact (enter_R (next_R h) _).bnd fun _ _ h1 => (ref_R h1).bnd fun _ _ h2 => (must_R h2.2 _).bnd fun _ _ h3 => (ref_R h3).bnd fun _ _ h4 => (leave_R h4.2 _).bnd fun _ _ h5 => ⟨by rw [h2.1, h4.1], h5⟩
    split
    · exact (enter_R h _).bnd fun _ _ h1 => (name_R h1).bnd fun _ _ h2 => (must_R h2.2 _).bnd fun _ _ h3 => (int_R h3).bnd fun _ _ h4 => (must_R h4.2 _).bnd fun _ _ h5 => (int_R h5).bnd fun _ _ h6 => (must_R h6.2 _).bnd fun _ _ h7 => by
        rw [len_R h7]
        exact (rules_R (rule_R n) _ _ h7).bnd fun _ _ h8 => (leave_R h8.2 _).bnd fun _ _ h9 => ⟨by rw [h2.1, h4.1, h6.1, h8.1], h9⟩
    · exact (expr_R _ _ _ h).bnd fun _ _ h1 => (must_R h1.2 _).bnd fun _ _ h2 => (expr_R _ _ _ h2).bnd fun _ _ h3 => (must_R h3.2 _).bnd fun _ _ h4 => ⟨by rw [h1.1, h3.1], h4⟩
theorem item_R {s t : PS} (h : StR s t) : RR VR (itemP mk s) (itemP mk t) := by
 unfold itemP; rw [is_eq h, is_eq h, is_eq h, is_eq h, is_eq h]
 split
 ·exact (name_R (next_R h)).bnd fun _ _ h1 => (kind_R mk h1.2).bnd fun _ _ h2 => (must_R h2.2 _).bnd fun _ _ h3 => (expr_R _ _ _ h3).bnd fun _ _ h4 => (must_R h4.2 _).bnd fun _ _ h5 => ⟨by rw [h1.1, h2.1, h4.1], h5⟩
 split
 ·exact (name_R (next_R h)).bnd fun _ _ h1 => (array_R h1.2).bnd fun _ _ h2 => (kind_R mk h2.2).bnd fun _ _ h3 => (must_R h3.2 _).bnd fun _ _ h4 => ⟨by rw [h1.1, h2.1, h3.1], h4⟩
 split
 ·exact (part_R (next_R h)).bnd fun _ _ h1 => (must_R h1.2 _).bnd fun _ _ h2 => ⟨h1.1, h2⟩
 split
 ·exact (start_R (next_R h)).bnd fun _ _ h1 => (must_R h1.2 _).bnd fun _ _ h2 => ⟨h1.1, h2⟩
 ·exact rule_R _ _ _ h
theorem items_R : ∀ (n : Nat) (ks : List GTree) {s t : PS}, StR s t -> RR VR (itemsP mk n ks s) (itemsP mk n ks t)
 | 0, _, _, _, _ => rfl
 | n + 1, ks, s, t, h => by
  unfold itemsP; rw [is_eq h]
  split
  ·exact ⟨rfl, next_R h⟩
  ·exact (item_R mk h).bnd fun a b h => by rw [h.1]; exact items_R n _ h.2
theorem class_R (k : Int) {s t : PS} (h : StR s t) : RR VR (classP mk k s) (classP mk k t) := by
 unfold classP
 exact (name_R h).bnd fun _ _ h1 => by rw [len_R h1.2]; exact (items_R mk _ _ h1.2).bnd fun _ _ h2 => (must_R h2.2 _).bnd fun _ _ h3 => ⟨by rw [h1.1, h2.1], h3⟩
theorem unit_R {s t : PS} (h : StR s t) : RR VR (unitP mk s) (unitP mk t) := by
 unfold unitP
 refine (name_R h).bnd fun _ _ h1 => ?_
 rw [is_eq h1.2, h1.1]
 split
 ·exact (dim_R mk _ _ _ (next_R h1.2)).bnd fun _ _ h2 => (must_R h2.2 _).bnd fun _ _ h3 => ⟨by rw [h2.1], h3⟩
 ·exact (must_R h1.2 _).bnd fun _ _ h2 => ⟨rfl, h2⟩
theorem files_R : ∀ (n : Nat) (ks : List GTree) {s t : PS}, StR s t -> RR VR (filesP mk n ks s) (filesP mk n ks t)
 | 0, _, _, _, _ => rfl
 | n + 1, ks, s, t, h => by
  unfold filesP; rw [hd_kind h, is_eq h, is_eq h, is_eq h]
  split
  ·exact ⟨rfl, h⟩
  split
  ·exact (unit_R mk (next_R h)).bnd fun a b h => by rw [h.1]; exact files_R n _ h.2
  split
  ·exact (class_R mk 1 (next_R h)).bnd fun a b h => by rw [h.1]; exact files_R n _ h.2
  split
  ·exact (class_R mk 2 (next_R h)).bnd fun a b h => by rw [h.1]; exact files_R n _ h.2
  ·exact fail_R h
theorem file_R {s t : PS} (h : StR s t) : RR VR (fileP mk s) (fileP mk t) := by
 unfold fileP; rw [len_R h]
 exact (files_R mk _ _ h).bnd fun _ _ h => ⟨by rw [h.1], h.2⟩
end Go.Sim.YtnnfiohdkobkdaaGreatDoor
