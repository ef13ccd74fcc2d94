/- What is proved: blanks and comments between tokens change no tree, and no error but for its place: the statement ParseBlanks. -/
import Derived.Test.YtnnfiohdkobkdaaGreatDoorZPBWLb
import Derived.Test.YtnnfiohdkobkdaaGreatDoorZPBParS
import Derived.Test.YtnnfiohdkobkdaaGreatDoorZPBLexJ
import Derived.Test.YtnnfiohdkobkdaaGreatDoorZPBLexD

namespace Go.Sim.YtnnfiohdkobkdaaGreatDoor
open Go.RowKit Go.Proofs Go.Proofs.Tryz
theorem alive13_ev : Ev_law13_alive true := by
 refine walk_law13_alive ?_
 unfold W_law13_alive
 exact Call.mk next_one (by decide +kernel)
theorem closed_p : Closed [32, 47, 47, 32, 120, 32, 59, 32, 40, 10, 9] := by
 refine .blank rfl (.line (c := 8) ⟨by decide, by decide⟩ (by decide) (by decide) (.blank rfl (.blank rfl .nil)))
theorem blank_p : Blank [32, 47, 47, 32, 120, 32, 59, 32, 40, 10, 9] := by
 refine ⟨closed_p, ⟨_, _, rfl, .inl rfl⟩, ?_⟩
 have h : span lineB [32, 47, 47, 32, 120, 32, 59, 32, 40, 10, 9] = 9 := by decide
 have := (Closed.blank (b := 10) rfl (Closed.blank (b := 9) rfl .nil)) []
 rw [List.append_nil, skip_nil] at this
 rw [h]; exact this
def blP (m : List Int) (i : Nat) : List UInt8 :=
 match m[i]? with
 | none => []
 | some v => if Int.tmod v 2 = 1 then [32, 47, 47, 32, 120, 32, 59, 32, 40, 10, 9] else []
theorem blP_blank (m : List Int) (i : Nat) : blP m i = [] \/ Blank (blP m i) := by
 unfold blP
 split
 ·exact .inl rfl
 ·split
  ·exact .inr blank_p
  ·exact .inl rfl
theorem blP_le (m : List Int) (i : Nat) : (blP m i).length <= 15 := by
 unfold blP
 split
 ·exact Nat.zero_le _
 ·split <;> simp
theorem alike_key {a b : List GToken} (h : Alike a b) : a.map key = b.map key := by
 obtain ⟨h1, h2⟩ := h
 refine List.ext_getElem? fun i => ?_
 rw [List.getElem?_map, List.getElem?_map]
 cases ha : a[i]? with
 | none =>
  have : b[i]? = none := by rw [List.getElem?_eq_none_iff] at ha ⊢; omega
  rw [this]
 | some x =>
  have hi := (List.getElem?_eq_some_iff.1 ha).1
  have hb : b[i]? = some (b[i]'(by omega)) := List.getElem?_eq_getElem (by omega)
  obtain ⟨e1, e2, e3⟩ := h2 i x _ ha hb
  rw [hb]
  simp only [Option.map_some, key, e1, e2, e3]
theorem parseS_alike {mk : Int -> Int -> GRat} {A B : List GToken × Int × Int} (hA : A.2.1 = 0) (hB : B.2.1 = 0) (h : A.1.map key = B.1.map key) : (parseS mk A).1 = (parseS mk B).1 /\ (parseS mk A).2.1 = (parseS mk B).2.1 := by
 have hr := file_R mk (s := (A.1, 0)) (t := (B.1, 0)) ⟨h, rfl⟩
 unfold parseS
 rw [if_neg (by simp [hA]), if_neg (by simp [hB])]
 cases hx : fileP mk (A.1, 0) <;> cases hy : fileP mk (B.1, 0) <;> rw [hx, hy] at hr
 ·exact ⟨rfl, hr⟩
 ·exact hr.elim
 ·exact hr.elim
 ·have e : _ = _ := hr.1
  simp [e]
theorem zeroT_ok : GTree.zero.ok := okN all0 (by simp)
theorem parseS_ok {A : List GToken × Int × Int} (hU : A.2.1 = 0 -> Us (A.1, 0)) : (parseS mkR A).1.ok := by
 unfold parseS
 split
 ·exact zeroT_ok
 ·rename_i h
  have hu := file_u (mk := mkR) (fun _ _ h1 h2 h3 h4 => mkR_ok h1 h2 h3 h4) (hU (Decidable.not_not.1 h))
  split
  ·exact zeroT_ok
  ·rename_i t ht
   split
   ·exact zeroT_ok
   ·split
    ·exact zeroT_ok
    ·exact hu t ht
theorem parseBlanks_of (s : ByteArray) (m : List Int) : Ev_law13_ParseBlanks s m true := by
 have hL := lexK_ok
 refine walk_law13_ParseBlanks ?_
 unfold W_law13_ParseBlanks
 refine Call.mk alive13_ev (Br.f rfl ?_)
 have h0 := tl_len s 0
 refine Call.mk (lex_ev hL s) ?_
 by_cases hz : (lexS lexK (tl s 0)).2.1 = 0
 rotate_left
 ·exact Br.t (by simpa using hz) rfl
 refine Br.f (by simp [hz]) (Br.d (fun _ => rfl) (fun hlen => ?_))
 have hsz : ¬ 20000 < (tl s 0).length := fun h => by unfold lexS at hz; rw [if_pos h] at hz; simp at hz
 have hsz2 : s.size <= 20000 := by omega
 have hW := fun hw => whole_ok (L := lexK) (blP_blank m) (l := tl s 0) (by omega) hz hw
 have eS : lexS lexK (tl s 0) = lexL lexK ((tl s 0).drop (skip (tl s 0))) (skip (tl s 0)) 0 := by unfold lexS; rw [if_neg hsz]
 have hsk := skip_le (tl s 0)
 have hss := skip_skip (tl s 0)
 obtain ⟨a, ea⟩ : ∃ a, a = (lexS lexK (tl s 0)).1 := ⟨_, rfl⟩
 rw [← ea] at hlen hW ⊢
 have hmid0 : Mid lexK (blP m) s a 0 (ByteArray.mk #[]) 0 := by
  rw [eS] at hz ea
  rw [tl_drop, Nat.zero_add] at hz ea hss
  refine ⟨Nat.zero_le _, Nat.zero_le _, .inl ⟨?_, skip (tl s 0), Nat.zero_le _, by omega, hz, by rw [ea]; rfl, hss, ?_⟩⟩
  ·obtain ⟨u, us, e1, _⟩ := lexL_head hz
   rw [ea, e1]; simp
  ·unfold whole
   rw [tl_drop, Nat.zero_add]; rfl
 refine ⟨fun t q z => ∃ i Q : Nat, z = (i : Int) /\ q = (Q : Int) /\ i <= a.length /\ Mid lexK (blP m) s a i t Q, fun _ _ z => a.length - z.toNat, ⟨0, 0, rfl, rfl, Nat.zero_le _, hmid0⟩, ?_⟩
 rintro t _ _ ⟨i, Q, rfl, rfl, hi, hM⟩
 have hsize := hM.2.1
 have hq := hM.1
 have hi3 : i <= 300 := by simp at hlen; omega
 refine Br.d (fun hlt => ?_) (fun hge => ?_)
 ·have hi1 : i < a.length := by omega
  obtain ⟨P, p1, p2, p3, p4⟩ := hM.next (blP_le m) hi1 hsz2
  refine At.is (List.getElem?_eq_getElem hi1) ?_
  rw [p3]
  have hpl : (s.extract Q P).size = P - Q := by
   have := congrArg List.length (tl_part p1 p2)
   rw [tl_len, List.length_take, tl_len] at this; omega
  refine ⟨by omega, by omega, by omega, Let.as (s.extract Q P) (by rw [Int.toNat_natCast, Int.toNat_natCast]) (Cat.tl (by omega) fun t1 ht1 => ?_)⟩
  rw [tl_part p1 p2] at ht1
  have hs1 : t1.size = t.size + (P - Q) := by
   have := congrArg List.length ht1
   rw [tl_len, List.length_append, List.length_take, tl_len, tl_len] at this; omega
  have fin : ∀ t2, tl t2 0 = tl t1 0 ++ blP m i -> (∃ i' Q' : Nat, ((i + 1 : Nat) : Int) = (i' : Int) /\ (P : Int) = (Q' : Int) /\ i' <= a.length /\ Mid lexK (blP m) s a i' t2 Q') /\ a.length - (((i + 1 : Nat) : Int)).toNat < a.length - ((i : Int)).toNat := fun t2 h2 =>
   ⟨⟨i + 1, P, rfl, rfl, by omega, p4 t2 (by rw [h2, ht1, List.append_assoc])⟩, by rw [Int.toNat_natCast, Int.toNat_natCast]; omega⟩
  refine Br.d (fun hmi => ?_) (fun hmi => ?_)
  ·have hx : m[i]? = some (m[i]'(by omega)) := List.getElem?_eq_getElem (by omega)
   refine At.is hx (Let.as _ rfl ?_)
   have hbl : blP m i = if Int.tmod (m[i]'(by omega)) 2 = 1 then [32, 47, 47, 32, 120, 32, 59, 32, 40, 10, 9] else [] := by
    unfold blP; rw [hx]
   refine Br.e (fun h1 => ?_) (fun h1 => ?_)
   ·refine Cat.tl (by show _ + 11 <= _; omega) fun t2 h2 => Let.as _ (wi1 (by omega)) (fin t2 ?_)
    rw [h2, hbl, if_pos h1]; rfl
   ·refine Let.as _ (wi1 (by omega)) (fin t1 ?_)
    rw [hbl, if_neg h1, List.append_nil]
  ·refine Let.as _ (wi1 (by omega)) (fin t1 ?_)
   have : blP m i = [] := by unfold blP; rw [List.getElem?_eq_none (by omega)]
   rw [this, List.append_nil]
 ·obtain ⟨_, _, ⟨h3, _⟩ | ⟨_, hw⟩⟩ := hM
  ·omega
  have hpl : (s.extract Q s.size).size = s.size - Q := by
   have := congrArg List.length (tl_extract hq)
   rw [tl_len, tl_len] at this; omega
  refine ⟨by omega, by omega, Int.le_refl _, Let.as (s.extract Q s.size) (by rw [Int.toNat_natCast, Int.toNat_natCast]) (Cat.tl (by omega) fun t1 ht1 => ?_)⟩
  rw [tl_extract hq, hw] at ht1
  have hl1 := congrArg List.length ht1
  rw [tl_len] at hl1
  refine Br.d (fun _ => rfl) (fun hbig => ?_)
  have hev := parse_evK t1
  rw [ht1] at hev
  obtain ⟨w1, w2⟩ := hW (by omega)
  rw [ea] at w2
  obtain ⟨e1, e2⟩ := parseS_alike (mk := mkR) hz w1 (alike_key w2)
  have hok := parseS_ok (A := lexS lexK (tl s 0)) lexS_us
  refine Call.mk (parse_evK s) (Call.mk hev (Br.eT e2 ?_))
  rw [← e1]
  exact Call.mk (likeTree_self _ hok) rfl
theorem parseBlanks_ev (s : ByteArray) (m : List Int) (_ : s.size <= maxLen) (_ : m.length <= maxLen /\ ∀ z ∈ m, okInt .i64 z) : Ev_law13_ParseBlanks s m true := parseBlanks_of s m
end Go.Sim.YtnnfiohdkobkdaaGreatDoor
