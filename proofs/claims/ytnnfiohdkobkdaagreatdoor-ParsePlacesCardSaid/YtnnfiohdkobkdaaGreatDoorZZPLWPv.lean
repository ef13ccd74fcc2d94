/- What is proved: functions of the program compute what plain statements tell. -/
import Derived.Test.YtnnfiohdkobkdaaGreatDoorZZPLWE

namespace Go.Sim.YtnnfiohdkobkdaaGreatDoor
open Go.RowKit Go.Proofs Go.Proofs.Tryz
set_option maxRecDepth 100000
def W_parse_functions (Q : List ByteArray → Prop) : Prop :=
 Q ([(ByteArray.mk #[]), (ByteArray.mk #[]), (ByteArray.mk #[]), (ByteArray.mk #[]), (ByteArray.mk #[]), (ByteArray.mk #[]), (ByteArray.mk #[]), (ByteArray.mk #[]), (ByteArray.mk #[]), (ByteArray.mk #[115, 113, 114, 116]), (ByteArray.mk #[101, 120, 112]), (ByteArray.mk #[108, 111, 103]), (ByteArray.mk #[115, 105, 110]), (ByteArray.mk #[99, 111, 115]), (ByteArray.mk #[97, 116, 97, 110])])
theorem walk_parse_functions {r : List ByteArray} (h : W_parse_functions (fun r' => r' = r)) : Ev_parse_functions r := by
  unfold W_parse_functions at h
  refine intr (L := []) Tryz.func145 Tryz.ntmps145 ?_
  refine sN (pS rfl (dn (AWp.seq (rN ?_))))
  refine AOps.lit tabOk (ys := [.v (.string (ByteArray.mk #[])), .v (.string (ByteArray.mk #[])), .v (.string (ByteArray.mk #[])), .v (.string (ByteArray.mk #[])), .v (.string (ByteArray.mk #[])), .v (.string (ByteArray.mk #[])), .v (.string (ByteArray.mk #[])), .v (.string (ByteArray.mk #[])), .v (.string (ByteArray.mk #[])), .v (.string (ByteArray.mk #[115, 113, 114, 116])), .v (.string (ByteArray.mk #[101, 120, 112])), .v (.string (ByteArray.mk #[108, 111, 103])), .v (.string (ByteArray.mk #[115, 105, 110])), .v (.string (ByteArray.mk #[99, 111, 115])), .v (.string (ByteArray.mk #[97, 116, 97, 110]))]) rfl rfl rfl rfl rfl rfl ?_
  refine pS rfl (dn (AWp.ret ?_))
  subst h
  exact ⟨_, rfl, rfl⟩
def W_slices_Index_string (s1 : List ByteArray) (v2 : ByteArray) (Q : Int → Prop) : Prop :=
 Loop1 (0 : Int) (fun (x33 : Int) next34 =>
  Br (decide (x33 < ((s1.length : Nat) : Int))) (
   At s1 x33 fun x39 =>
   Br (v2.toList == x39.toList) (Q x33) (
    Let (IntKind.i64.wrap (x33 + (1 : Int))) fun x41 =>
    next34 x41)) (
   Q (-1 : Int)))
theorem walk_slices_Index_string {s1 : List ByteArray} {v2 : ByteArray} {r : Int} (h : W_slices_Index_string s1 v2 (fun r' => r' = r)) : Ev_slices_Index_string s1 v2 r := by
  unfold W_slices_Index_string at h
  refine intr (L := [(0, .dat (.sl 9 1 (List.map eStr s1))), (1, .dat (.v (.string v2)))]) Tryz.func276 Tryz.ntmps276 ?_
  refine sN (pI rfl (dn (AWp.seq (AWp.seq (rN (pS rfl (al (((s1.length : Nat) : Int)) rfl (pI rfl (dn (AWp.block ?_))))))))))
  obtain ⟨I42, x43, hz44, hr45⟩ := h
  refine AWp.loop (I := fun p : Int => mkSt [(0, .dat (.sl 9 1 (List.map eStr s1))), (1, .dat (.v (.string v2))), (7, .dat (.v (.int .i64 ((s1.length : Nat) : Int)))), (8, .dat (.v (.int .i64 p)))] []) (Inv := fun p => I42 p) (μ := fun p => x43 p) (x0 := (0 : Int)) hz44 sl (fun p hp => ?_)
  have h := hr45 p hp
  revert h; clear hp; generalize p = x33; intro h
  refine sN (pW rfl (dn (AWp.seq (cB h (fun h => ?_) (fun h => ?_)))))
  · refine AWp.skip (AWp.seq (AWp.block (AWp.seq (rN (pI rfl (pI rfl (dn (AWp.seq (rN (pG rfl (pS rfl (pI rfl (kI h (map_get (e := eStr)) rfl rfl rfl rfl rfl rfl rfl fun x39 h => ?_)))))))))))))
    refine pG rfl (pB rfl (dn (cB h (fun h => ?_) (fun h => ?_))))
    · refine sN (pI rfl (pI rfl (dn (AWp.ret ?_))))
      subst h
      exact ⟨_, rfl, rfl⟩
    refine AWp.skip (rN ?_)
    obtain ⟨x41, ex41, h⟩ := h.get
    refine ai ex41 rfl (pI rfl (dn ?_))
    exact ⟨x41, h.1, h.2, sl⟩
  refine AWp.exit ?_
  refine sN (pI rfl (dn (AWp.ret ?_)))
  subst h
  exact ⟨_, rfl, rfl⟩
end Go.Sim.YtnnfiohdkobkdaaGreatDoor
