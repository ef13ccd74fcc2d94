/- What is proved: functions of the program compute what plain statements tell. -/
import Derived.Test.YtnnfiohdkobkdaaGreatDoorZZPLWE

namespace Go.Sim.YtnnfiohdkobkdaaGreatDoor
open Go.RowKit Go.Proofs Go.Proofs.Tryz
set_option maxRecDepth 100000
def W_law13_ParsePlaces (x1 : ByteArray) (Q : Bool → Prop) : Prop :=
 Call (Ev_law13_alive) fun x2 =>
 Br (!x2) (Q false) (
  Call (Ev_parse_Parse x1) fun x4 =>
  Call (Ev_lex_Lex x1) fun x6 =>
  Br (x6.2.1 != (0 : Int)) (
   Br (x4.2.1 == x6.2.1) (Q (x4.2.2 == x6.2.2)) (
    Q false)) (
   Join1 (fun j9 =>
    Br (x4.2.1 == (0 : Int)) (j9 true) (
     Br (x4.2.1 == (132 : Int)) (j9 (x4.2.2 == (0 : Int))) (
      Br (x4.2.1 == (2 : Int)) (j9 (x4.2.2 == (0 : Int))) (
       j9 false)))
   ) (fun (x8 : Bool) =>
    Br x8 (Q (x4.2.2 == (0 : Int))) (
     Loop1 (0 : Int) (fun (x82 : Int) next83 =>
      Br (decide (x82 < ((x6.1.length : Nat) : Int))) (
       At x6.1 x82 fun x95 =>
       Br (x95.At != x4.2.2) (
        Let (IntKind.i64.wrap (x82 + (1 : Int))) fun x97 =>
        next83 x97) (
        Br ((x4.2.1 == (131 : Int)) != (x95.Kind == (0 : Int))) (Q false) (
         Br (x95.Kind == (0 : Int)) (Q true) (
          Let (IntKind.i64.wrap (x82 + (1 : Int))) fun x98 =>
          At x6.1 x98 fun x100 =>
          SlS x1 (0 : Int) x100.At fun x102 =>
          Call (Ev_parse_Parse x102) fun x103 =>
          Br (x103.2.1 == x4.2.1) (Q (x103.2.2 == x4.2.2)) (
           Q false))))) (
       Q false))))))
theorem walk_law13_ParsePlaces {x1 : ByteArray} {r : Bool} (h : W_law13_ParsePlaces x1 (fun r' => r' = r)) : Ev_law13_ParsePlaces x1 r := by
  unfold W_law13_ParsePlaces at h
  refine intr (L := [(0, .dat (.v (.string x1)))]) Tryz.func6 Tryz.ntmps6 ?_
  refine sN (pB rfl (dn (AWp.seq (AWp.seq (rN (kC h rfl trivial rfl fun x2 h => ?_))))))
  refine pB rfl (dn (cB h (fun h => ?_) (fun h => ?_)))
  · refine sN (pB rfl (dn (AWp.ret ?_)))
    subst h
    exact ⟨_, rfl, rfl⟩
  refine AWp.skip (AWp.seq (rW (pG rfl (kC h rfl ⟨.inl rfl, trivial⟩ rfl fun x4 h => ?_))))
  refine pU rfl (pT rfl (pI rfl (pI rfl (al0 ?_))))
  refine st (v := .dat (.st _ _)) ?_
  refine pI rfl (pI rfl (dn (AWp.seq (rN (pG rfl (kC h rfl ⟨.inl rfl, trivial⟩ rfl fun x6 h => ?_))))))
  refine pU rfl (pS rfl (pI rfl (pI rfl (pS rfl (pI rfl (pI rfl (dn (AWp.seq (AWp.seq (rN (pI rfl (pB rfl (dn (cB h (fun h => ?_) (fun h => ?_)))))))))))))))
  · refine sN (pI rfl (pI rfl (pB rfl (pB rfl (sB 33 h (fun h => ?_) (fun h => ?_))))))
    · refine pI rfl (pI rfl (pB rfl (pB rfl (pB rfl (dn (AWp.ret ?_))))))
      subst h
      exact ⟨_, rfl, rfl⟩
    refine fo 3 rfl (pB rfl (pB rfl (dn (AWp.ret ?_))))
    subst h
    exact ⟨_, rfl, rfl⟩
  refine AWp.skip (AWp.seq (AWp.seq ?_))
  obtain ⟨J109, h, hk110⟩ := h
  refine AWp.cutK (I := fun p : Bool => mkSt [(0, .dat (.v (.string x1))), (4, .dat (.v (.int .i64 x4.2.1))), (5, .dat (.v (.int .i64 x4.2.2))), (6, .dat (.sl 40 5 (List.map GToken.enc x6.1))), (51, .dat (.v (.bool p)))] []) (Inv := fun p : Bool => J109 p) ?_ (fun p hp => ?_)
  · refine rN (pI rfl (pB rfl (pB rfl (sB 40 h (fun h => ?_) (fun h => ?_)))))
    · refine fo 10 rfl (pB rfl (dn ?_))
      exact ⟨true, h, sl⟩
    refine pI rfl (pB rfl (pB rfl (sB 43 h (fun h => ?_) (fun h => ?_))))
    · refine ff rfl (ff rfl (pB rfl (pB rfl (pI rfl (pB rfl (pB rfl (pB rfl (dn ?_))))))))
      exact ⟨(x4.2.2 == (0 : Int)), h, sl⟩
    refine pI rfl (pB rfl (pB rfl (pB rfl (sB 47 h (fun h => ?_) (fun h => ?_)))))
    · refine pI rfl (pB rfl (pB rfl (pB rfl (dn ?_))))
      exact ⟨(x4.2.2 == (0 : Int)), h, sl⟩
    refine ff rfl (ff rfl (pB rfl (pB rfl (dn ?_))))
    exact ⟨false, h, sl⟩
  replace h := hk110 p hp
  revert h; clear hp; generalize p = x8; intro h
  refine cB h (fun h => ?_) (fun h => ?_)
  · refine sN (pI rfl (pB rfl (pB rfl (dn (AWp.ret ?_)))))
    subst h
    exact ⟨_, rfl, rfl⟩
  refine AWp.skip (AWp.seq (AWp.seq (rN (pS rfl (al (((x6.1.length : Nat) : Int)) rfl (pI rfl (dn (AWp.block ?_))))))))
  obtain ⟨I105, x106, hz107, hr108⟩ := h
  refine AWp.loop (I := fun p : Int => mkSt [(0, .dat (.v (.string x1))), (4, .dat (.v (.int .i64 x4.2.1))), (5, .dat (.v (.int .i64 x4.2.2))), (6, .dat (.sl 40 5 (List.map GToken.enc x6.1))), (54, .dat (.sl 40 5 (List.map GToken.enc x6.1))), (55, .dat (.v (.int .i64 ((x6.1.length : Nat) : Int)))), (56, .dat (.v (.int .i64 p)))] []) (Inv := fun p => I105 p) (μ := fun p => x106 p) (x0 := (0 : Int)) hz107 sl (fun p hp => ?_)
  have h := hr108 p hp
  revert h; clear hp; generalize p = x82; intro h
  refine sN (pW rfl (dn (AWp.seq (cB h (fun h => ?_) (fun h => ?_)))))
  · refine AWp.skip (AWp.seq (AWp.block (AWp.seq (rW (pI rfl (kI h map_get rfl rfl rfl rfl rfl rfl rfl fun x95 h => ?_))))))
    refine pT rfl (al0 ?_)
    refine pI rfl (st (v := .dat (.st _ _)) ?_)
    refine dn (AWp.seq (AWp.seq (rN (pP rfl (pI rfl (pI rfl (pB rfl (dn (cB h (fun h => ?_) (fun h => ?_))))))))))
    · refine AWp.exit ?_
      refine rN ?_
      obtain ⟨x97, ex97, h⟩ := h.get
      refine ai ex97 rfl (pI rfl (dn ?_))
      exact ⟨x97, h.1, h.2, sl⟩
    refine AWp.skip (AWp.seq (AWp.seq (rN (pI rfl (pB rfl (pP rfl (pI rfl (pB rfl (pB rfl (dn (cB h (fun h => ?_) (fun h => ?_))))))))))))
    · refine sN (pB rfl (dn (AWp.ret ?_)))
      subst h
      exact ⟨_, rfl, rfl⟩
    refine AWp.skip (AWp.seq (AWp.seq (rN (pP rfl (pI rfl (pB rfl (dn (cB h (fun h => ?_) (fun h => ?_)))))))))
    · refine sN (pB rfl (dn (AWp.ret ?_)))
      subst h
      exact ⟨_, rfl, rfl⟩
    refine AWp.skip (AWp.seq (rW (pG rfl (pS rfl (pI rfl ?_)))))
    obtain ⟨x98, ex98, h⟩ := h.get
    refine ai ex98 rfl (kI h map_get rfl rfl rfl rfl rfl rfl rfl fun x100 h => ?_)
    refine pX rfl (pI rfl ?_)
    obtain ⟨h1, h2, h3, x102, ex102, h⟩ := h.get
    refine AOps.slsh tabOk rfl rfl rfl rfl rfl rfl rfl h2 h3 ex102 ?_
    refine kC h rfl ⟨.inl rfl, trivial⟩ rfl fun x103 h => pU rfl ?_
    refine pT rfl (pI rfl (pI rfl (al0 ?_)))
    refine st (v := .dat (.st _ _)) ?_
    refine pI rfl (pI rfl (dn (AWp.seq (rN (pI rfl (pI rfl (pB rfl (pB rfl (sB 90 h (fun h => ?_) (fun h => ?_))))))))))
    · refine pI rfl (pI rfl (pB rfl (pB rfl (pB rfl (dn (AWp.ret ?_))))))
      subst h
      exact ⟨_, rfl, rfl⟩
    refine fo 3 rfl (pB rfl (pB rfl (dn (AWp.ret ?_))))
    subst h
    exact ⟨_, rfl, rfl⟩
  refine AWp.exit ?_
  refine sN (pB rfl (dn (AWp.ret ?_)))
  subst h
  exact ⟨_, rfl, rfl⟩
end Go.Sim.YtnnfiohdkobkdaaGreatDoor
