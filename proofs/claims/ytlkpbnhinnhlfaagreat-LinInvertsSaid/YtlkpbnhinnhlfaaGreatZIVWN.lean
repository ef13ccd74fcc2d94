/- What is proved: functions of the program compute what plain statements tell. -/
import Derived.Test.YtlkpbnhinnhlfaaGreatZIVNerA

namespace Go.Sim.YtlkpbnhinnhlfaaGreat
open Go.RowKit Go.Proofs Go.Proofs.Tryz
set_option maxRecDepth 100000
def W_lin_nearly (x1 : List (List Unit)) (Q : List (List Unit) → Prop) : Prop :=
 Mk 24 ((x1.length : Nat) : Int) ([] : List Unit) fun x3 =>
 Call (EvU_lin_unit ((x1.length : Nat) : Int)) fun x4 =>
 Loop3 x3 x4 (0 : Int) (fun (x1164 : List (List Unit)) (x1165 : List (List Unit)) (x1166 : Int) next1167 =>
  Br (decide (x1166 < ((x1.length : Nat) : Int))) (
   At x1164 x1166 fun x1359 =>
   Mk 8 ((x1.length : Nat) : Int) () fun x1361 =>
   At x1 x1166 fun x1366 =>
   Loop1 (0 : Int) (fun (x1402 : Int) next1403 =>
    Br (decide (x1402 < ((x1366.length : Nat) : Int))) (
     At x1366 x1402 fun x1408 =>
     Let (IntKind.i64.wrap (x1402 + (1 : Int))) fun x1410 =>
     next1403 x1410) (
     At x1 x1166 fun x1412 =>
     Loop2 (List.set x1164 (Int.toNat x1166) x1361) (0 : Int) (fun (x1503 : List (List Unit)) (x1504 : Int) next1505 =>
      Br (decide (x1504 < ((x1412.length : Nat) : Int))) (
       At x1412 x1504 fun x1519 =>
       At x1503 x1166 fun x1522 =>
       At x1522 x1504 fun x1528 =>
       Let (IntKind.i64.wrap (x1504 + (1 : Int))) fun x1530 =>
       next1505 (List.set x1503 (Int.toNat x1166) (List.set x1522 (Int.toNat x1504) ())) x1530) (
       At x1165 x1166 fun x1532 =>
       At x1532 x1166 fun x1538 =>
       Let (IntKind.i64.wrap (x1166 + (1 : Int))) fun x1540 =>
       next1167 x1503 (List.set x1165 (Int.toNat x1166) (List.set x1532 (Int.toNat x1166) ())) x1540))))) (
   Loop3 x1164 x1165 (0 : Int) (fun (x19746 : List (List Unit)) (x19747 : List (List Unit)) (x19748 : Int) next19749 =>
    Br (decide (x19748 < ((x1.length : Nat) : Int))) (
     Loop3 x19746 x19748 x19748 (fun (x23216 : List (List Unit)) (x23217 : Int) (x23218 : Int) next23219 =>
      Br (decide (x23218 < ((x1.length : Nat) : Int))) (
       Join2 (fun j23289 =>
        Br (decide (x23218 = x23217)) (
         At x23216 x23218 fun x23325 =>
         At x23325 x19748 fun x23331 =>
         At x23325 x19748 fun x23337 =>
         Both (
          j23289 (List.set x23216 (Int.toNat x23218) x23325) x23218) (
          j23289 (List.set x23216 (Int.toNat x23218) x23325) x23217)) (
         At x23216 x23218 fun x23340 =>
         At x23216 x23217 fun x23343 =>
         At x23340 x19748 fun x23349 =>
         At x23343 x19748 fun x23355 =>
         Both (
          j23289 (List.set (List.set x23216 (Int.toNat x23217) x23343) (Int.toNat x23218) x23340) x23218) (
          j23289 (List.set (List.set x23216 (Int.toNat x23217) x23343) (Int.toNat x23218) x23340) x23217))
       ) (fun (x23287 : List (List Unit)) (x23288 : Int) =>
        Let (IntKind.i64.wrap (x23218 + (1 : Int))) fun x23357 =>
        next23219 x23287 x23288 x23357)) (
       Join2 (fun j23428 =>
        Br (decide (x23217 = x19748)) (
         At x23216 x23217 fun x23431 =>
         At x19747 x23217 fun x23434 =>
         j23428 (List.set x23216 (Int.toNat x23217) x23431) (List.set x19747 (Int.toNat x23217) x23434)) (
         At x23216 x23217 fun x23461 =>
         At x23216 x19748 fun x23464 =>
         At x19747 x23217 fun x23467 =>
         At x19747 x19748 fun x23470 =>
         j23428 (List.set (List.set x23216 (Int.toNat x19748) x23461) (Int.toNat x23217) x23464) (List.set (List.set x19747 (Int.toNat x19748) x23467) (Int.toNat x23217) x23470))
       ) (fun (x23426 : List (List Unit)) (x23427 : List (List Unit)) =>
        At x23426 x19748 fun x23497 =>
        At x23497 x19748 fun x23503 =>
        Loop3 (List.set x23426 (Int.toNat x19748) x23497) x23427 (0 : Int) (fun (x23666 : List (List Unit)) (x23667 : List (List Unit)) (x23668 : Int) next23669 =>
         Br (decide (x23668 < ((x1.length : Nat) : Int))) (
          At x23666 x19748 fun x23695 =>
          At x23695 x23668 fun x23701 =>
          At x23695 x23668 fun x23704 =>
          At x23667 x19748 fun x23707 =>
          At x23707 x23668 fun x23713 =>
          At x23707 x23668 fun x23716 =>
          Let (IntKind.i64.wrap (x23668 + (1 : Int))) fun x23718 =>
          next23669 (List.set x23666 (Int.toNat x19748) (List.set x23695 (Int.toNat x23668) ())) (List.set x23667 (Int.toNat x19748) (List.set x23707 (Int.toNat x23668) ())) x23718) (
          Loop3 x23666 x23667 (0 : Int) (fun (x24757 : List (List Unit)) (x24758 : List (List Unit)) (x24759 : Int) next24760 =>
           Br (decide (x24759 < ((x1.length : Nat) : Int))) (
            At x24757 x24759 fun x25278 =>
            At x25278 x19748 fun x25284 =>
            Br (x24759 == x19748) (
             Let (IntKind.i64.wrap (x24759 + (1 : Int))) fun x25286 =>
             next24760 (List.set x24757 (Int.toNat x24759) x25278) x24758 x25286) (
             Both (
              Let (IntKind.i64.wrap (x24759 + (1 : Int))) fun x25287 =>
              next24760 (List.set x24757 (Int.toNat x24759) x25278) x24758 x25287) (
              Loop3 (List.set x24757 (Int.toNat x24759) x25278) x24758 (0 : Int) (fun (x25539 : List (List Unit)) (x25540 : List (List Unit)) (x25541 : Int) next25542 =>
               Br (decide (x25541 < ((x1.length : Nat) : Int))) (
                Join1 (fun j25706 =>
                 Br (decide (x24759 = x19748)) (
                  At x25539 x24759 fun x25709 =>
                  At x25709 x25541 fun x25715 =>
                  At x25709 x25541 fun x25721 =>
                  At x25709 x25541 fun x25724 =>
                  j25706 (List.set x25539 (Int.toNat x24759) (List.set x25709 (Int.toNat x25541) ()))) (
                  At x25539 x24759 fun x25727 =>
                  At x25539 x19748 fun x25730 =>
                  At x25727 x25541 fun x25736 =>
                  At x25730 x25541 fun x25742 =>
                  At x25727 x25541 fun x25745 =>
                  j25706 (List.set (List.set x25539 (Int.toNat x19748) x25730) (Int.toNat x24759) (List.set x25727 (Int.toNat x25541) ())))
                ) (fun (x25705 : List (List Unit)) =>
                 Br (decide (x24759 = x19748)) (
                  At x25540 x24759 fun x25749 =>
                  At x25749 x25541 fun x25755 =>
                  At x25749 x25541 fun x25761 =>
                  At x25749 x25541 fun x25764 =>
                  Let (IntKind.i64.wrap (x25541 + (1 : Int))) fun x25766 =>
                  next25542 x25705 (List.set x25540 (Int.toNat x24759) (List.set x25749 (Int.toNat x25541) ())) x25766) (
                  At x25540 x24759 fun x25768 =>
                  At x25540 x19748 fun x25771 =>
                  At x25768 x25541 fun x25777 =>
                  At x25771 x25541 fun x25783 =>
                  At x25768 x25541 fun x25786 =>
                  Let (IntKind.i64.wrap (x25541 + (1 : Int))) fun x25788 =>
                  next25542 x25705 (List.set (List.set x25540 (Int.toNat x19748) x25771) (Int.toNat x24759) (List.set x25768 (Int.toNat x25541) ())) x25788))) (
                Let (IntKind.i64.wrap (x24759 + (1 : Int))) fun x25791 =>
                next24760 x25539 x25540 x25791))))) (
            Let (IntKind.i64.wrap (x19748 + (1 : Int))) fun x25796 =>
            next19749 x24757 x24758 x25796)))))))) (
     Q x19747))))
theorem walk_lin_nearly {x1 : List (List Unit)} {r : List (List Unit)} (h : W_lin_nearly x1 (fun r' => r' = r)) : Ev_lin_nearly x1 r := by
  unfold W_lin_nearly at h
  refine intr (L := [(0, .dat (.sl 27 1 (List.map (eSl 28 1 eBl) x1)))]) Tryz.func32 Tryz.ntmps32 ?_
  refine sN (pS rfl (dn (AWp.seq (rN (pS rfl (al (((x1.length : Nat) : Int)) rfl (pI rfl (dn (AWp.seq (rN (pI rfl ?_)))))))))))
  obtain ⟨h1, h2, h3, x3, ex3, h⟩ := h.get
  refine AOps.makerr tabOk rfl rfl rfl rfl rfl rfl rfl rfl h1 h2 h3 (mm_rep (enc := eBl) ex3) ?_
  refine pO rfl (dn (AWp.seq (rN (pI rfl ?_))))
  obtain ⟨x4, hc5, h⟩ := h
  refine AOps.callRR hc5 rfl rfl rfl rfl ⟨.inl rfl, trivial⟩ ?_
  refine pO rfl (dn (AWp.seq (AWp.seq (rN (pS rfl (al (((x1.length : Nat) : Int)) rfl (pI rfl (dn (AWp.block ?_)))))))))
  obtain ⟨I25815, x25816, hz25817, hr25818⟩ := h
  refine AWp.loop (I := fun p : (List (List Unit)) × (List (List Unit)) × Int => mkSt [(0, .dat (.sl 27 1 (List.map (eSl 28 1 eBl) x1))), (3, .dat (.v (.int .i64 ((x1.length : Nat) : Int)))), (4, .oref 1004), (5, .oref 1005), (30, .dat (.v (.int .i64 ((x1.length : Nat) : Int)))), (31, .dat (.v (.int .i64 p.2.2)))] [(1004, .rr 27 28 1 (List.map (List.map eBl) p.1) []), (1005, .rr 27 28 1 (List.map (List.map eBl) p.2.1) [])]) (Inv := fun p => I25815 p.1 p.2.1 p.2.2) (μ := fun p => x25816 p.1 p.2.1 p.2.2) (x0 := ⟨x3, x4, (0 : Int)⟩) hz25817 (slf (fun i => (if Nat.beq i 1005 then 28 else (if Nat.beq i 1004 then 26 else i)))) (fun p hp => ?_)
  obtain ⟨x1164, x1165, x1166⟩ := p
  have h := hr25818 x1164 x1165 x1166 hp
  refine sN (pW rfl (dn (AWp.seq (cB h (fun h => ?_) (fun h => ?_)))))
  · refine AWp.skip (AWp.seq (AWp.block (AWp.seq (rN (pI rfl (pI rfl (dn (AWp.seq ?_))))))))
    obtain ⟨hi1358, x1359, hx1360, h⟩ := h
    refine AWp.sub (Sub.lend (id := 1004) (d := 6360) (m := (Int.toNat x1166)) rfl rfl (mm_get hx1360) holeAt_nil) ?_
    refine rW (pO rfl (pI rfl (pI rfl ?_)))
    obtain ⟨h1, h2, h3, x1361, ex1361, h⟩ := h.get
    refine AOps.makeownB tabOk rfl rfl rfl rfl rfl rfl rfl h1 h2 h3 rfl ex1361 ?_
    refine AOps.idxrr tabOk rfl rfl rfl rfl rfl rfl rfl rfl hi1358 (mm_lt hi1358 hx1360) rfl ?_
    refine AOps.storerr (hs' := [((Int.toNat x1166), 37)]) tabOk rfl rfl rfl rfl rfl rfl rfl rfl (mm_lt2 hx1360) rfl hole1 hole1m ?_
    refine dn (AWp.sub (Sub.unlend (id := 1004) (d := 37) (m := (Int.toNat x1166)) rfl rfl holeAt_nil mm_set) ?_)
    refine sN ?_
    refine AOps.v rfl rfl (Step.mvU (.inr rfl) (fU_c rfl)) ?_
    refine dn (AWp.seq (AWp.seq (rN (pS rfl (pI rfl (kI h map_get rfl rfl rfl rfl rfl rfl rfl fun x1366 h => ?_))))))
    refine pS rfl (al (((x1366.length : Nat) : Int)) rfl (pI rfl (dn (AWp.block ?_))))
    obtain ⟨I1545, x1546, hz1547, hr1548⟩ := h
    refine AWp.loop (I := fun p : Int => mkSt [(0, .dat (.sl 27 1 (List.map (eSl 28 1 eBl) x1))), (3, .dat (.v (.int .i64 ((x1.length : Nat) : Int)))), (4, .oref 1004), (5, .oref 1005), (6, .dat (.v (.int .i64 x1166))), (7, .dat (.any anyF)), (30, .dat (.v (.int .i64 ((x1.length : Nat) : Int)))), (31, .dat (.v (.int .i64 x1166))), (42, .dat (.sl 28 1 (List.map eBl x1366))), (43, .dat (.v (.int .i64 ((x1366.length : Nat) : Int)))), (44, .dat (.v (.int .i64 p)))] [(1004, .rr 27 28 1 (List.map (List.map eBl) (List.set x1164 (Int.toNat x1166) x1361)) []), (1005, .rr 27 28 1 (List.map (List.map eBl) x1165) [])]) (Inv := fun p => I1545 p) (μ := fun p => x1546 p) (x0 := (0 : Int)) hz1547 sl (fun p hp => ?_)
    have h := hr1548 p hp
    revert h; clear hp; generalize p = x1402; intro h
    refine sN (pW rfl (dn (AWp.seq (cB h (fun h => ?_) (fun h => ?_)))))
    · refine AWp.skip (AWp.seq (AWp.block (AWp.seq (rN (kI h map_get rfl rfl rfl rfl rfl rfl rfl fun x1408 h => ?_)))))
      refine pW rfl (pW rfl (dn (rN (pW rfl (pW rfl (ca any_math_Abs rfl ⟨.inl rfl, trivial⟩ rfl ?_))))))
      refine AOps.v rfl rfl (Step.maxU rfl fU_any fU_any) ?_
      refine pW rfl (dn (rN ?_))
      obtain ⟨x1410, ex1410, h⟩ := h.get
      refine ai ex1410 rfl (pI rfl (dn ?_))
      exact ⟨x1410, h.1, h.2, sl⟩
    refine AWp.exit ?_
    refine sN (pW rfl (ca any_math_Frexp rfl ⟨.inl rfl, trivial⟩ rfl (pU rfl (pW rfl (pW rfl (pW rfl (pW rfl (dn (AWp.seq (rN (pW rfl ?_)))))))))))
    refine AOps.v rfl rfl (Step.negI rfl iU_any) ?_
    refine AOps.v rfl rfl (Step.maxI rfl iU_any (iU_c (by unfold okInt; decide))) ?_
    refine ca any_math_Ldexp rfl ⟨.inl rfl, .inl rfl, trivial⟩ rfl (pW rfl (dn (AWp.seq (AWp.seq (rN (pS rfl (pI rfl (kI h map_get rfl rfl rfl rfl rfl rfl rfl fun x1412 h => ?_))))))))
    refine pS rfl (al (((x1412.length : Nat) : Int)) rfl (pI rfl (dn (AWp.block ?_))))
    obtain ⟨I1541, x1542, hz1543, hr1544⟩ := h
    refine AWp.loop (I := fun p : (List (List Unit)) × Int => mkSt [(0, .dat (.sl 27 1 (List.map (eSl 28 1 eBl) x1))), (3, .dat (.v (.int .i64 ((x1.length : Nat) : Int)))), (4, .oref 1004), (5, .oref 1005), (6, .dat (.v (.int .i64 x1166))), (12, .dat (.any anyF)), (30, .dat (.v (.int .i64 ((x1.length : Nat) : Int)))), (31, .dat (.v (.int .i64 x1166))), (65, .dat (.sl 28 1 (List.map eBl x1412))), (66, .dat (.v (.int .i64 ((x1412.length : Nat) : Int)))), (67, .dat (.v (.int .i64 p.2)))] [(1004, .rr 27 28 1 (List.map (List.map eBl) p.1) []), (1005, .rr 27 28 1 (List.map (List.map eBl) x1165) [])]) (Inv := fun p => I1541 p.1 p.2) (μ := fun p => x1542 p.1 p.2) (x0 := ⟨(List.set x1164 (Int.toNat x1166) x1361), (0 : Int)⟩) hz1543 sl (fun p hp => ?_)
    obtain ⟨x1503, x1504⟩ := p
    have h := hr1544 x1503 x1504 hp
    refine sN (pW rfl (dn (AWp.seq (cB h (fun h => ?_) (fun h => ?_)))))
    · refine AWp.skip (AWp.seq (AWp.block (AWp.seq (rN (pI rfl (kI h map_get rfl rfl rfl rfl rfl rfl rfl fun x1519 h => ?_))))))
      refine pW rfl (pI rfl (pW rfl (dn ?_)))
      obtain ⟨hi1521, x1522, hx1523, h⟩ := h
      refine AWp.sub (Sub.lend (id := 1004) (d := 6523) (m := (Int.toNat x1166)) rfl rfl (mm_get hx1523) holeAt_nil) ?_
      refine rW (pO rfl (pI rfl ?_))
      refine AOps.idxrr tabOk rfl rfl rfl rfl rfl rfl rfl rfl hi1521 (mm_lt hi1521 hx1523) rfl ?_
      refine AOps.loadrr tabOk rfl rfl rfl rfl rfl rfl rfl (mm_lt2 hx1523) holeAt_hd ?_
      refine pI rfl (pW rfl (pW rfl ?_))
      refine AOps.v rfl rfl (Step.arU rfl (.inr (.inr (.inl rfl))) fU_any fU_any) ?_
      obtain ⟨hi1527, x1528, hx1529, h⟩ := h
      refine AOps.idxown tabOk rfl rfl rfl rfl rfl rfl rfl rfl hi1527 (map_lt hi1527 hx1529) rfl ?_
      refine AOps.storerow tabOk rfl rfl rfl rfl rfl rfl rfl rfl (map_lt2 hx1529) rfl rfl rfl (map_set1 (e := eBl) (x := ())) ?_
      refine dn (AWp.sub (Sub.unlend (id := 1004) (d := 6523) (m := (Int.toNat x1166)) rfl rfl holeAt_nil mm_set) ?_)
      refine rN ?_
      obtain ⟨x1530, ex1530, h⟩ := h.get
      refine ai ex1530 rfl (pI rfl (dn ?_))
      exact ⟨⟨(List.set x1503 (Int.toNat x1166) (List.set x1522 (Int.toNat x1504) ())), x1530⟩, h.1, h.2, sl⟩
    refine AWp.exit ?_
    obtain ⟨hi1531, x1532, hx1533, h⟩ := h
    refine AWp.sub (Sub.lend (id := 1005) (d := 6533) (m := (Int.toNat x1166)) rfl rfl (mm_get hx1533) holeAt_nil) ?_
    refine rW (pO rfl (pI rfl ?_))
    refine AOps.idxrr tabOk rfl rfl rfl rfl rfl rfl rfl rfl hi1531 (mm_lt hi1531 hx1533) rfl ?_
    refine AOps.loadrr tabOk rfl rfl rfl rfl rfl rfl rfl (mm_lt2 hx1533) holeAt_hd ?_
    refine pI rfl (pW rfl ?_)
    obtain ⟨hi1537, x1538, hx1539, h⟩ := h
    refine AOps.idxown tabOk rfl rfl rfl rfl rfl rfl rfl rfl hi1537 (map_lt hi1537 hx1539) rfl ?_
    refine AOps.storerow tabOk rfl rfl rfl rfl rfl rfl rfl rfl (map_lt2 hx1539) rfl rfl rfl (map_set1 (e := eBl) (x := ())) ?_
    refine dn (AWp.sub (Sub.unlend (id := 1005) (d := 6533) (m := (Int.toNat x1166)) rfl rfl holeAt_nil mm_set) ?_)
    refine rN ?_
    obtain ⟨x1540, ex1540, h⟩ := h.get
    refine ai ex1540 rfl (pI rfl (dn ?_))
    exact ⟨⟨x1503, (List.set x1165 (Int.toNat x1166) (List.set x1532 (Int.toNat x1166) ())), x1540⟩, h.1, h.2, sl⟩
  refine AWp.exit ?_
  refine AWp.seq (AWp.seq (rN (pI rfl (pI rfl (dn (AWp.block ?_))))))
  obtain ⟨I25811, x25812, hz25813, hr25814⟩ := h
  refine AWp.loop (I := fun p : (List (List Unit)) × (List (List Unit)) × Int => mkSt [(3, .dat (.v (.int .i64 ((x1.length : Nat) : Int)))), (4, .oref 1004), (5, .oref 1005), (90, .dat (.v (.int .i64 ((x1.length : Nat) : Int)))), (91, .dat (.v (.int .i64 p.2.2)))] [(1004, .rr 27 28 1 (List.map (List.map eBl) p.1) []), (1005, .rr 27 28 1 (List.map (List.map eBl) p.2.1) [])]) (Inv := fun p => I25811 p.1 p.2.1 p.2.2) (μ := fun p => x25812 p.1 p.2.1 p.2.2) (x0 := ⟨x1164, x1165, (0 : Int)⟩) hz25813 sl (fun p hp => ?_)
  obtain ⟨x19746, x19747, x19748⟩ := p
  have h := hr25814 x19746 x19747 x19748 hp
  refine sN (pB rfl (dn (AWp.seq (cB h (fun h => ?_) (fun h => ?_)))))
  · refine AWp.skip (AWp.seq (AWp.block (AWp.seq (rN (pI rfl (pI rfl (dn (AWp.seq (rN (pI rfl (pI rfl (dn (AWp.seq (AWp.seq (rN (pI rfl (pI rfl (dn (AWp.block ?_)))))))))))))))))))
    obtain ⟨I25807, x25808, hz25809, hr25810⟩ := h
    refine AWp.loop (I := fun p : (List (List Unit)) × Int × Int => mkSt [(3, .dat (.v (.int .i64 ((x1.length : Nat) : Int)))), (4, .oref 1004), (5, .oref 1005), (15, .dat (.v (.int .i64 x19748))), (16, .dat (.v (.int .i64 p.2.1))), (17, .dat (.v (.int .i64 p.2.2))), (90, .dat (.v (.int .i64 ((x1.length : Nat) : Int)))), (91, .dat (.v (.int .i64 x19748)))] [(1004, .rr 27 28 1 (List.map (List.map eBl) p.1) []), (1005, .rr 27 28 1 (List.map (List.map eBl) x19747) [])]) (Inv := fun p => I25807 p.1 p.2.1 p.2.2) (μ := fun p => x25808 p.1 p.2.1 p.2.2) (x0 := ⟨x19746, x19748, x19748⟩) hz25809 sl (fun p hp => ?_)
    obtain ⟨x23216, x23217, x23218⟩ := p
    have h := hr25810 x23216 x23217 x23218 hp
    refine AWp.seq (AWp.seq (rN (pI rfl (pI rfl (pB rfl (dn (cB h (fun h => ?_) (fun h => ?_))))))))
    · refine AWp.skip (AWp.seq ?_)
      obtain ⟨J23358, h, hk23359⟩ := h
      refine AWp.cutK (I := fun p : (List (List Unit)) × Int => mkSt [(3, .dat (.v (.int .i64 ((x1.length : Nat) : Int)))), (4, .oref 1004), (5, .oref 1005), (15, .dat (.v (.int .i64 x19748))), (16, .dat (.v (.int .i64 p.2))), (17, .dat (.v (.int .i64 x23218))), (90, .dat (.v (.int .i64 ((x1.length : Nat) : Int)))), (91, .dat (.v (.int .i64 x19748)))] [(1004, .rr 27 28 1 (List.map (List.map eBl) p.1) []), (1005, .rr 27 28 1 (List.map (List.map eBl) x19747) [])]) (Inv := fun p : (List (List Unit)) × Int => J23358 p.1 p.2) ?_ (fun p hp => ?_)
      · refine AWp.block (AWp.seq ?_)
        refine AWp.pair h (fun he23323 h => ?_) (fun he23323n h => ?_)
        · obtain ⟨hi23324, x23325, hx23326, h⟩ := h
          have hi23324a : (0 : Int) ≤ x23217 := by omega
          have hi23324b := mm_lt (enc := eBl) hi23324 hx23326
          rw [he23323] at hi23324b
          have hi23324c : (Int.toNat x23217) = (Int.toNat x23218) := by rw [he23323]
          refine AWp.sub (Sub.lend (id := 1004) (d := 28326) (m := (Int.toNat x23218)) rfl rfl (mm_get hx23326) holeAt_nil) ?_
          refine rD (pO rfl (pI rfl ?_))
          refine AOps.idxrr tabOk rfl rfl rfl rfl rfl rfl rfl rfl hi23324 (mm_lt hi23324 hx23326) rfl ?_
          refine AOps.loadrr tabOk rfl rfl rfl rfl rfl rfl rfl (mm_lt2 hx23326) holeAt_hd ?_
          refine pI rfl ?_
          obtain ⟨hi23330, x23331, hx23332, h⟩ := h
          refine AOps.idxown tabOk rfl rfl rfl rfl rfl rfl rfl rfl hi23330 (map_lt hi23330 hx23332) rfl ?_
          refine AOps.loadrow tabOk rfl rfl rfl rfl rfl rfl rfl (map_get hx23332) rfl ?_
          refine ca any_math_Abs rfl ⟨.inl rfl, trivial⟩ rfl (pO rfl (pI rfl ?_))
          refine AOps.idxrr tabOk rfl rfl rfl rfl rfl rfl rfl rfl hi23324a hi23324b hi23324c ?_
          refine AOps.loadrr tabOk rfl rfl rfl rfl rfl rfl rfl (mm_lt2 hx23326) holeAt_hd ?_
          refine pI rfl ?_
          obtain ⟨hi23336, x23337, hx23338, h⟩ := h
          refine AOps.idxown tabOk rfl rfl rfl rfl rfl rfl rfl rfl hi23336 (map_lt hi23336 hx23338) rfl ?_
          refine AOps.loadrow tabOk rfl rfl rfl rfl rfl rfl rfl (map_get hx23338) rfl ?_
          refine ca any_math_Abs rfl ⟨.inl rfl, trivial⟩ rfl ?_
          refine AOps.v rfl rfl (Step.cmpU rfl (.inr (.inr (.inr (.inr (.inl rfl))))) fU_any fU_any) ?_
          refine dn (AWp.sub (Sub.unlend (id := 1004) (d := 28326) (m := (Int.toNat x23218)) rfl rfl holeAt_nil mm_set) ?_)
          refine AWp.condU rfl ?_ ?_
          · replace h := h.1
            refine rN (pI rfl (pI rfl (dn ?_)))
            exact ⟨⟨(List.set x23216 (Int.toNat x23218) x23325), x23218⟩, h, sl⟩
          replace h := h.2
          refine AWp.skip ?_
          exact ⟨⟨(List.set x23216 (Int.toNat x23218) x23325), x23217⟩, h, sl⟩
        obtain ⟨hi23339, x23340, hx23341, h⟩ := h
        refine AWp.sub (Sub.lend (id := 1004) (d := 28341) (m := (Int.toNat x23218)) rfl rfl (mm_get hx23341) holeAt_nil) ?_
        obtain ⟨hi23342, x23343, hx23344, h⟩ := h
        refine AWp.sub (Sub.lend (id := 1004) (d := 28344) (m := (Int.toNat x23217)) rfl rfl (mm_get hx23344) (hole_one (toNat_ne hi23342 hi23339 he23323n.symm))) ?_
        refine rD (pO rfl (pI rfl ?_))
        refine AOps.idxrr tabOk rfl rfl rfl rfl rfl rfl rfl rfl hi23339 (mm_lt hi23339 hx23341) rfl ?_
        refine AOps.loadrr tabOk rfl rfl rfl rfl rfl rfl rfl (mm_lt2 hx23341) (hole_snd (toNat_ne hi23339 hi23342 he23323n)) ?_
        refine pI rfl ?_
        obtain ⟨hi23348, x23349, hx23350, h⟩ := h
        refine AOps.idxown tabOk rfl rfl rfl rfl rfl rfl rfl rfl hi23348 (map_lt hi23348 hx23350) rfl ?_
        refine AOps.loadrow tabOk rfl rfl rfl rfl rfl rfl rfl (map_get hx23350) rfl ?_
        refine ca any_math_Abs rfl ⟨.inl rfl, trivial⟩ rfl (pO rfl (pI rfl ?_))
        refine AOps.idxrr tabOk rfl rfl rfl rfl rfl rfl rfl rfl hi23342 (mm_lt hi23342 hx23344) rfl ?_
        refine AOps.loadrr tabOk rfl rfl rfl rfl rfl rfl rfl (mm_lt2 hx23344) holeAt_hd ?_
        refine pI rfl ?_
        obtain ⟨hi23354, x23355, hx23356, h⟩ := h
        refine AOps.idxown tabOk rfl rfl rfl rfl rfl rfl rfl rfl hi23354 (map_lt hi23354 hx23356) rfl ?_
        refine AOps.loadrow tabOk rfl rfl rfl rfl rfl rfl rfl (map_get hx23356) rfl ?_
        refine ca any_math_Abs rfl ⟨.inl rfl, trivial⟩ rfl ?_
        refine AOps.v rfl rfl (Step.cmpU rfl (.inr (.inr (.inr (.inr (.inl rfl))))) fU_any fU_any) ?_
        refine dn (AWp.sub (Sub.unlend (id := 1004) (d := 28344) (m := (Int.toNat x23217)) rfl rfl (hole_one (toNat_ne hi23342 hi23339 he23323n.symm)) mm_set) ?_)
        refine AWp.sub (Sub.unlend (id := 1004) (d := 28341) (m := (Int.toNat x23218)) rfl rfl holeAt_nil mm_set) ?_
        refine AWp.condU rfl ?_ ?_
        · replace h := h.1
          refine rN (pI rfl (pI rfl (dn ?_)))
          exact ⟨⟨(List.set (List.set x23216 (Int.toNat x23217) x23343) (Int.toNat x23218) x23340), x23218⟩, h, sl⟩
        replace h := h.2
        refine AWp.skip ?_
        exact ⟨⟨(List.set (List.set x23216 (Int.toNat x23217) x23343) (Int.toNat x23218) x23340), x23217⟩, h, sl⟩
      obtain ⟨x23287, x23288⟩ := p
      replace h := hk23359 x23287 x23288 hp
      refine rN (pI rfl ?_)
      obtain ⟨x23357, ex23357, h⟩ := h.get
      refine ai ex23357 rfl (pI rfl (dn ?_))
      exact ⟨⟨x23287, x23288, x23357⟩, h.1, h.2, sl⟩
    refine AWp.exit ?_
    refine AWp.seq ?_
    obtain ⟨J25805, h, hk25806⟩ := h
    refine AWp.cutK (I := fun p : (List (List Unit)) × (List (List Unit)) => mkSt [(3, .dat (.v (.int .i64 ((x1.length : Nat) : Int)))), (4, .oref 1004), (5, .oref 1005), (15, .dat (.v (.int .i64 x19748))), (90, .dat (.v (.int .i64 ((x1.length : Nat) : Int)))), (91, .dat (.v (.int .i64 x19748)))] [(1004, .rr 27 28 1 (List.map (List.map eBl) p.1) []), (1005, .rr 27 28 1 (List.map (List.map eBl) p.2) [])]) (Inv := fun p : (List (List Unit)) × (List (List Unit)) => J25805 p.1 p.2) ?_ (fun p hp => ?_)
    · refine AWp.pair h (fun he23429 h => ?_) (fun he23429n h => ?_)
      · obtain ⟨hi23430, x23431, hx23432, h⟩ := h
        have hi23430a : (0 : Int) ≤ x19748 := by omega
        have hi23430b := mm_lt (enc := eBl) hi23430 hx23432
        rw [he23429] at hi23430b
        have hi23430c : (Int.toNat x19748) = (Int.toNat x23217) := by rw [he23429]
        refine AWp.sub (Sub.lend (id := 1004) (d := 28432) (m := (Int.toNat x23217)) rfl rfl (mm_get hx23432) holeAt_nil) ?_
        obtain ⟨hi23433, x23434, hx23435, h⟩ := h
        have hi23433a : (0 : Int) ≤ x19748 := by omega
        have hi23433b := mm_lt (enc := eBl) hi23433 hx23435
        rw [he23429] at hi23433b
        have hi23433c : (Int.toNat x19748) = (Int.toNat x23217) := by rw [he23429]
        refine AWp.sub (Sub.lend (id := 1005) (d := 28435) (m := (Int.toNat x23217)) rfl rfl (mm_get hx23435) holeAt_nil) ?_
        refine rE [(4, [1004]), (5, [1005]), (15, []), (16, []), (119, [1004]), (120, []), (121, [1004]), (122, []), (123, [1005]), (124, []), (125, [1005]), (126, []), (127, [1004]), (128, []), (131, [1004]), (132, []), (135, [1005]), (136, []), (139, [1005]), (140, [])] (pO rfl (pI rfl ?_))
        refine pO rfl (pI rfl (pO rfl (pI rfl (pO rfl (pI rfl (pO rfl (pI rfl ?_)))))))
        refine AOps.idxrr tabOk rfl rfl rfl rfl rfl rfl rfl rfl hi23430 (mm_lt hi23430 hx23432) rfl ?_
        refine AOps.loadrr tabOk rfl rfl rfl rfl rfl rfl rfl (mm_lt2 hx23432) holeAt_hd ?_
        refine pO rfl (pI rfl ?_)
        refine AOps.idxrr tabOk rfl rfl rfl rfl rfl rfl rfl rfl hi23430a hi23430b hi23430c ?_
        refine AOps.loadrr tabOk rfl rfl rfl rfl rfl rfl rfl (mm_lt2 hx23432) holeAt_hd ?_
        refine pO rfl (pI rfl ?_)
        refine AOps.idxrr tabOk rfl rfl rfl rfl rfl rfl rfl rfl hi23433 (mm_lt hi23433 hx23435) rfl ?_
        refine AOps.loadrr tabOk rfl rfl rfl rfl rfl rfl rfl (mm_lt2 hx23435) holeAt_hd ?_
        refine pO rfl (pI rfl ?_)
        refine AOps.idxrr tabOk rfl rfl rfl rfl rfl rfl rfl rfl hi23433a hi23433b hi23433c ?_
        refine AOps.loadrr tabOk rfl rfl rfl rfl rfl rfl rfl (mm_lt2 hx23435) holeAt_hd ?_
        refine AOps.idxrr tabOk rfl rfl rfl rfl rfl rfl rfl rfl hi23430a hi23430b hi23430c ?_
        refine AOps.storerr (hs' := [((Int.toNat x23217), 28432)]) tabOk rfl rfl rfl rfl rfl rfl rfl rfl (mm_lt2 hx23432) rfl hole1 hole1m ?_
        refine AOps.idxrr tabOk rfl rfl rfl rfl rfl rfl rfl rfl hi23430 (mm_lt hi23430 hx23432) rfl ?_
        refine AOps.storerr (hs' := [((Int.toNat x23217), 28432)]) tabOk rfl rfl rfl rfl rfl rfl rfl rfl (mm_lt2 hx23432) rfl hole1 hole1m ?_
        refine AOps.idxrr tabOk rfl rfl rfl rfl rfl rfl rfl rfl hi23433a hi23433b hi23433c ?_
        refine AOps.storerr (hs' := [((Int.toNat x23217), 28435)]) tabOk rfl rfl rfl rfl rfl rfl rfl rfl (mm_lt2 hx23435) rfl hole1 hole1m ?_
        refine AOps.idxrr tabOk rfl rfl rfl rfl rfl rfl rfl rfl hi23433 (mm_lt hi23433 hx23435) rfl ?_
        refine AOps.storerr (hs' := [((Int.toNat x23217), 28435)]) tabOk rfl rfl rfl rfl rfl rfl rfl rfl (mm_lt2 hx23435) rfl hole1 hole1m ?_
        refine dn ?_
        exact ⟨⟨(List.set x23216 (Int.toNat x23217) x23431), (List.set x19747 (Int.toNat x23217) x23434)⟩, h, (Sub.trans (Sub.trans sl (Sub.unlend (id := 1005) (d := 28435) (m := (Int.toNat x23217)) rfl rfl holeAt_nil mm_set)) (Sub.unlend (id := 1004) (d := 28432) (m := (Int.toNat x23217)) rfl rfl holeAt_nil mm_set))⟩
      obtain ⟨hi23460, x23461, hx23462, h⟩ := h
      refine AWp.sub (Sub.lend (id := 1004) (d := 28462) (m := (Int.toNat x23217)) rfl rfl (mm_get hx23462) holeAt_nil) ?_
      obtain ⟨hi23463, x23464, hx23465, h⟩ := h
      refine AWp.sub (Sub.lend (id := 1004) (d := 28465) (m := (Int.toNat x19748)) rfl rfl (mm_get hx23465) (hole_one (toNat_ne hi23463 hi23460 he23429n.symm))) ?_
      obtain ⟨hi23466, x23467, hx23468, h⟩ := h
      refine AWp.sub (Sub.lend (id := 1005) (d := 28468) (m := (Int.toNat x23217)) rfl rfl (mm_get hx23468) holeAt_nil) ?_
      obtain ⟨hi23469, x23470, hx23471, h⟩ := h
      refine AWp.sub (Sub.lend (id := 1005) (d := 28471) (m := (Int.toNat x19748)) rfl rfl (mm_get hx23471) (hole_one (toNat_ne hi23469 hi23466 he23429n.symm))) ?_
      refine rE [(4, [1004]), (5, [1005]), (15, []), (16, []), (119, [1004]), (120, []), (121, [1004]), (122, []), (123, [1005]), (124, []), (125, [1005]), (126, []), (127, [1004]), (128, []), (131, [1004]), (132, []), (135, [1005]), (136, []), (139, [1005]), (140, [])] (pO rfl (pI rfl ?_))
      refine pO rfl (pI rfl (pO rfl (pI rfl (pO rfl (pI rfl (pO rfl (pI rfl ?_)))))))
      refine AOps.idxrr tabOk rfl rfl rfl rfl rfl rfl rfl rfl hi23460 (mm_lt hi23460 hx23462) rfl ?_
      refine AOps.loadrr tabOk rfl rfl rfl rfl rfl rfl rfl (mm_lt2 hx23462) (hole_snd (toNat_ne hi23460 hi23463 he23429n)) ?_
      refine pO rfl (pI rfl ?_)
      refine AOps.idxrr tabOk rfl rfl rfl rfl rfl rfl rfl rfl hi23463 (mm_lt hi23463 hx23465) rfl ?_
      refine AOps.loadrr tabOk rfl rfl rfl rfl rfl rfl rfl (mm_lt2 hx23465) holeAt_hd ?_
      refine pO rfl (pI rfl ?_)
      refine AOps.idxrr tabOk rfl rfl rfl rfl rfl rfl rfl rfl hi23466 (mm_lt hi23466 hx23468) rfl ?_
      refine AOps.loadrr tabOk rfl rfl rfl rfl rfl rfl rfl (mm_lt2 hx23468) (hole_snd (toNat_ne hi23466 hi23469 he23429n)) ?_
      refine pO rfl (pI rfl ?_)
      refine AOps.idxrr tabOk rfl rfl rfl rfl rfl rfl rfl rfl hi23469 (mm_lt hi23469 hx23471) rfl ?_
      refine AOps.loadrr tabOk rfl rfl rfl rfl rfl rfl rfl (mm_lt2 hx23471) holeAt_hd ?_
      refine AOps.idxrr tabOk rfl rfl rfl rfl rfl rfl rfl rfl hi23463 (mm_lt hi23463 hx23465) rfl ?_
      refine AOps.storerr (hs' := [((Int.toNat x19748), 28462), ((Int.toNat x23217), 28462)]) tabOk rfl rfl rfl rfl rfl rfl rfl rfl (mm_lt2 hx23465) rfl hole2a hole2am ?_
      refine AOps.idxrr tabOk rfl rfl rfl rfl rfl rfl rfl rfl hi23460 (mm_lt hi23460 hx23462) rfl ?_
      refine AOps.storerr (hs' := [((Int.toNat x19748), 28462), ((Int.toNat x23217), 28465)]) tabOk rfl rfl rfl rfl rfl rfl rfl rfl (mm_lt2 hx23462) rfl (hole2b (toNat_ne hi23460 hi23463 he23429n)) hole2bm ?_
      refine AOps.idxrr tabOk rfl rfl rfl rfl rfl rfl rfl rfl hi23469 (mm_lt hi23469 hx23471) rfl ?_
      refine AOps.storerr (hs' := [((Int.toNat x19748), 28468), ((Int.toNat x23217), 28468)]) tabOk rfl rfl rfl rfl rfl rfl rfl rfl (mm_lt2 hx23471) rfl hole2a hole2am ?_
      refine AOps.idxrr tabOk rfl rfl rfl rfl rfl rfl rfl rfl hi23466 (mm_lt hi23466 hx23468) rfl ?_
      refine AOps.storerr (hs' := [((Int.toNat x19748), 28468), ((Int.toNat x23217), 28471)]) tabOk rfl rfl rfl rfl rfl rfl rfl rfl (mm_lt2 hx23468) rfl (hole2b (toNat_ne hi23466 hi23469 he23429n)) hole2bm ?_
      refine dn ?_
      exact ⟨⟨(List.set (List.set x23216 (Int.toNat x19748) x23461) (Int.toNat x23217) x23464), (List.set (List.set x19747 (Int.toNat x19748) x23467) (Int.toNat x23217) x23470)⟩, h, (Sub.trans (Sub.trans (Sub.trans (Sub.trans sl (Sub.unlend (id := 1005) (d := 28471) (m := (Int.toNat x23217)) rfl rfl holeAt_nil mm_set)) (Sub.unlend (id := 1005) (d := 28468) (m := (Int.toNat x19748)) rfl rfl (hole_one (toNat_ne hi23469 hi23466 he23429n.symm)) mm_set)) (Sub.unlend (id := 1004) (d := 28465) (m := (Int.toNat x23217)) rfl rfl holeAt_nil mm_set)) (Sub.unlend (id := 1004) (d := 28462) (m := (Int.toNat x19748)) rfl rfl (hole_one (toNat_ne hi23463 hi23460 he23429n.symm)) mm_set))⟩
    obtain ⟨x23426, x23427⟩ := p
    replace h := hk25806 x23426 x23427 hp
    refine AWp.seq ?_
    obtain ⟨hi23496, x23497, hx23498, h⟩ := h
    refine AWp.sub (Sub.lend (id := 1004) (d := 28498) (m := (Int.toNat x19748)) rfl rfl (mm_get hx23498) holeAt_nil) ?_
    refine rN (pO rfl (pI rfl ?_))
    refine AOps.idxrr tabOk rfl rfl rfl rfl rfl rfl rfl rfl hi23496 (mm_lt hi23496 hx23498) rfl ?_
    refine AOps.loadrr tabOk rfl rfl rfl rfl rfl rfl rfl (mm_lt2 hx23498) holeAt_hd ?_
    refine pI rfl ?_
    obtain ⟨hi23502, x23503, hx23504, h⟩ := h
    refine AOps.idxown tabOk rfl rfl rfl rfl rfl rfl rfl rfl hi23502 (map_lt hi23502 hx23504) rfl ?_
    refine AOps.loadrow tabOk rfl rfl rfl rfl rfl rfl rfl (map_get hx23504) rfl ?_
    refine pW rfl (dn ?_)
    refine AWp.sub (Sub.unlend (id := 1004) (d := 28498) (m := (Int.toNat x19748)) rfl rfl holeAt_nil mm_set) ?_
    refine AWp.seq (AWp.seq (rN (pI rfl (pI rfl (dn (AWp.block ?_))))))
    obtain ⟨I25801, x25802, hz25803, hr25804⟩ := h
    refine AWp.loop (I := fun p : (List (List Unit)) × (List (List Unit)) × Int => mkSt [(3, .dat (.v (.int .i64 ((x1.length : Nat) : Int)))), (4, .oref 1004), (5, .oref 1005), (15, .dat (.v (.int .i64 x19748))), (18, .dat (.any anyF)), (90, .dat (.v (.int .i64 ((x1.length : Nat) : Int)))), (91, .dat (.v (.int .i64 x19748))), (154, .dat (.v (.int .i64 ((x1.length : Nat) : Int)))), (155, .dat (.v (.int .i64 p.2.2)))] [(1004, .rr 27 28 1 (List.map (List.map eBl) p.1) []), (1005, .rr 27 28 1 (List.map (List.map eBl) p.2.1) [])]) (Inv := fun p => I25801 p.1 p.2.1 p.2.2) (μ := fun p => x25802 p.1 p.2.1 p.2.2) (x0 := ⟨(List.set x23426 (Int.toNat x19748) x23497), x23427, (0 : Int)⟩) hz25803 sl (fun p hp => ?_)
    obtain ⟨x23666, x23667, x23668⟩ := p
    have h := hr25804 x23666 x23667 x23668 hp
    refine sN (pB rfl (dn (AWp.seq (cB h (fun h => ?_) (fun h => ?_)))))
    · refine AWp.skip (AWp.seq (AWp.block (AWp.seq (rN (pI rfl (pI rfl (dn (AWp.seq ?_))))))))
      obtain ⟨hi23694, x23695, hx23696, h⟩ := h
      refine AWp.sub (Sub.lend (id := 1004) (d := 28696) (m := (Int.toNat x19748)) rfl rfl (mm_get hx23696) holeAt_nil) ?_
      refine rW (pO rfl (pI rfl ?_))
      refine AOps.idxrr tabOk rfl rfl rfl rfl rfl rfl rfl rfl hi23694 (mm_lt hi23694 hx23696) rfl ?_
      refine AOps.loadrr tabOk rfl rfl rfl rfl rfl rfl rfl (mm_lt2 hx23696) holeAt_hd ?_
      refine pI rfl ?_
      obtain ⟨hi23700, x23701, hx23702, h⟩ := h
      refine AOps.idxown tabOk rfl rfl rfl rfl rfl rfl rfl rfl hi23700 (map_lt hi23700 hx23702) rfl ?_
      refine AOps.loadrow tabOk rfl rfl rfl rfl rfl rfl rfl (map_get hx23702) rfl ?_
      refine pW rfl ?_
      refine AOps.v rfl rfl (Step.arU rfl (.inr (.inr (.inr rfl))) fU_any fU_any) ?_
      obtain ⟨hi23703, x23704, hx23705, h⟩ := h
      refine AOps.idxown tabOk rfl rfl rfl rfl rfl rfl rfl rfl hi23703 (map_lt hi23703 hx23705) rfl ?_
      refine AOps.storerow tabOk rfl rfl rfl rfl rfl rfl rfl rfl (map_lt2 hx23705) rfl rfl rfl (map_set1 (e := eBl) (x := ())) ?_
      refine dn (AWp.sub (Sub.unlend (id := 1004) (d := 28696) (m := (Int.toNat x19748)) rfl rfl holeAt_nil mm_set) ?_)
      obtain ⟨hi23706, x23707, hx23708, h⟩ := h
      refine AWp.sub (Sub.lend (id := 1005) (d := 28708) (m := (Int.toNat x19748)) rfl rfl (mm_get hx23708) holeAt_nil) ?_
      refine rW (pO rfl (pI rfl ?_))
      refine AOps.idxrr tabOk rfl rfl rfl rfl rfl rfl rfl rfl hi23706 (mm_lt hi23706 hx23708) rfl ?_
      refine AOps.loadrr tabOk rfl rfl rfl rfl rfl rfl rfl (mm_lt2 hx23708) holeAt_hd ?_
      refine pI rfl ?_
      obtain ⟨hi23712, x23713, hx23714, h⟩ := h
      refine AOps.idxown tabOk rfl rfl rfl rfl rfl rfl rfl rfl hi23712 (map_lt hi23712 hx23714) rfl ?_
      refine AOps.loadrow tabOk rfl rfl rfl rfl rfl rfl rfl (map_get hx23714) rfl ?_
      refine pW rfl ?_
      refine AOps.v rfl rfl (Step.arU rfl (.inr (.inr (.inr rfl))) fU_any fU_any) ?_
      obtain ⟨hi23715, x23716, hx23717, h⟩ := h
      refine AOps.idxown tabOk rfl rfl rfl rfl rfl rfl rfl rfl hi23715 (map_lt hi23715 hx23717) rfl ?_
      refine AOps.storerow tabOk rfl rfl rfl rfl rfl rfl rfl rfl (map_lt2 hx23717) rfl rfl rfl (map_set1 (e := eBl) (x := ())) ?_
      refine dn (AWp.sub (Sub.unlend (id := 1005) (d := 28708) (m := (Int.toNat x19748)) rfl rfl holeAt_nil mm_set) ?_)
      refine rN ?_
      obtain ⟨x23718, ex23718, h⟩ := h.get
      refine ai ex23718 rfl (pI rfl (dn ?_))
      exact ⟨⟨(List.set x23666 (Int.toNat x19748) (List.set x23695 (Int.toNat x23668) ())), (List.set x23667 (Int.toNat x19748) (List.set x23707 (Int.toNat x23668) ())), x23718⟩, h.1, h.2, sl⟩
    refine AWp.exit ?_
    refine sN (pI rfl (pI rfl (dn (AWp.block ?_))))
    obtain ⟨I25797, x25798, hz25799, hr25800⟩ := h
    refine AWp.loop (I := fun p : (List (List Unit)) × (List (List Unit)) × Int => mkSt [(3, .dat (.v (.int .i64 ((x1.length : Nat) : Int)))), (4, .oref 1004), (5, .oref 1005), (15, .dat (.v (.int .i64 x19748))), (90, .dat (.v (.int .i64 ((x1.length : Nat) : Int)))), (91, .dat (.v (.int .i64 x19748))), (179, .dat (.v (.int .i64 ((x1.length : Nat) : Int)))), (180, .dat (.v (.int .i64 p.2.2)))] [(1004, .rr 27 28 1 (List.map (List.map eBl) p.1) []), (1005, .rr 27 28 1 (List.map (List.map eBl) p.2.1) [])]) (Inv := fun p => I25797 p.1 p.2.1 p.2.2) (μ := fun p => x25798 p.1 p.2.1 p.2.2) (x0 := ⟨x23666, x23667, (0 : Int)⟩) hz25799 sl (fun p hp => ?_)
    obtain ⟨x24757, x24758, x24759⟩ := p
    have h := hr25800 x24757 x24758 x24759 hp
    refine sN (pB rfl (dn (AWp.seq (cB h (fun h => ?_) (fun h => ?_)))))
    · refine AWp.skip (AWp.seq (AWp.block (AWp.seq (rN (pI rfl (pI rfl (dn (AWp.seq ?_))))))))
      obtain ⟨hi25277, x25278, hx25279, h⟩ := h
      refine AWp.sub (Sub.lend (id := 1004) (d := 30279) (m := (Int.toNat x24759)) rfl rfl (mm_get hx25279) holeAt_nil) ?_
      refine rN (pO rfl (pI rfl ?_))
      refine AOps.idxrr tabOk rfl rfl rfl rfl rfl rfl rfl rfl hi25277 (mm_lt hi25277 hx25279) rfl ?_
      refine AOps.loadrr tabOk rfl rfl rfl rfl rfl rfl rfl (mm_lt2 hx25279) holeAt_hd ?_
      refine pI rfl ?_
      obtain ⟨hi25283, x25284, hx25285, h⟩ := h
      refine AOps.idxown tabOk rfl rfl rfl rfl rfl rfl rfl rfl hi25283 (map_lt hi25283 hx25285) rfl ?_
      refine AOps.loadrow tabOk rfl rfl rfl rfl rfl rfl rfl (map_get hx25285) rfl ?_
      refine pW rfl (dn ?_)
      refine AWp.sub (Sub.unlend (id := 1004) (d := 30279) (m := (Int.toNat x24759)) rfl rfl holeAt_nil mm_set) ?_
      refine AWp.seq (AWp.seq (rN (pI rfl (pI rfl (pB rfl (pB rfl (sB 193 h (fun h => ?_) (fun h => ?_))))))))
      · refine ff rfl (ff rfl (pB rfl (dn ?_)))
        refine AWp.condT rfl ?_
        refine AWp.exit ?_
        refine rN ?_
        obtain ⟨x25286, ex25286, h⟩ := h.get
        refine ai ex25286 rfl (pI rfl (dn ?_))
        exact ⟨⟨(List.set x24757 (Int.toNat x24759) x25278), x24758, x25286⟩, h.1, h.2, sl⟩
      refine pW rfl ?_
      refine AOps.v rfl rfl (Step.cmpU rfl (.inl rfl) fU_any (fU_c rfl)) ?_
      refine pW rfl (dn ?_)
      refine AWp.condU rfl ?_ ?_
      · replace h := h.1
        refine AWp.exit ?_
        refine rN ?_
        obtain ⟨x25287, ex25287, h⟩ := h.get
        refine ai ex25287 rfl (pI rfl (dn ?_))
        exact ⟨⟨(List.set x24757 (Int.toNat x24759) x25278), x24758, x25287⟩, h.1, h.2, sl⟩
      replace h := h.2
      refine AWp.skip (AWp.seq (rN (pI rfl (pI rfl (dn (AWp.block ?_))))))
      obtain ⟨I25792, x25793, hz25794, hr25795⟩ := h
      refine AWp.loop (I := fun p : (List (List Unit)) × (List (List Unit)) × Int => mkSt [(3, .dat (.v (.int .i64 ((x1.length : Nat) : Int)))), (4, .oref 1004), (5, .oref 1005), (15, .dat (.v (.int .i64 x19748))), (20, .dat (.v (.int .i64 x24759))), (21, .dat (.any anyF)), (90, .dat (.v (.int .i64 ((x1.length : Nat) : Int)))), (91, .dat (.v (.int .i64 x19748))), (179, .dat (.v (.int .i64 ((x1.length : Nat) : Int)))), (180, .dat (.v (.int .i64 x24759))), (197, .dat (.v (.int .i64 ((x1.length : Nat) : Int)))), (198, .dat (.v (.int .i64 p.2.2)))] [(1004, .rr 27 28 1 (List.map (List.map eBl) p.1) []), (1005, .rr 27 28 1 (List.map (List.map eBl) p.2.1) [])]) (Inv := fun p => I25792 p.1 p.2.1 p.2.2) (μ := fun p => x25793 p.1 p.2.1 p.2.2) (x0 := ⟨(List.set x24757 (Int.toNat x24759) x25278), x24758, (0 : Int)⟩) hz25794 sl (fun p hp => ?_)
      obtain ⟨x25539, x25540, x25541⟩ := p
      have h := hr25795 x25539 x25540 x25541 hp
      refine sN (pB rfl (dn (AWp.seq (cB h (fun h => ?_) (fun h => ?_)))))
      · refine AWp.skip (AWp.seq (AWp.block (AWp.seq (rN (pI rfl (pI rfl (dn (AWp.seq ?_))))))))
        obtain ⟨J25789, h, hk25790⟩ := h
        refine AWp.cutK (I := fun p : (List (List Unit)) => mkSt [(3, .dat (.v (.int .i64 ((x1.length : Nat) : Int)))), (4, .oref 1004), (5, .oref 1005), (15, .dat (.v (.int .i64 x19748))), (20, .dat (.v (.int .i64 x24759))), (21, .dat (.any anyF)), (22, .dat (.v (.int .i64 x25541))), (90, .dat (.v (.int .i64 ((x1.length : Nat) : Int)))), (91, .dat (.v (.int .i64 x19748))), (179, .dat (.v (.int .i64 ((x1.length : Nat) : Int)))), (180, .dat (.v (.int .i64 x24759))), (197, .dat (.v (.int .i64 ((x1.length : Nat) : Int)))), (198, .dat (.v (.int .i64 x25541)))] [(1004, .rr 27 28 1 (List.map (List.map eBl) p) []), (1005, .rr 27 28 1 (List.map (List.map eBl) x25540) [])]) (Inv := fun p : (List (List Unit)) => J25789 p) ?_ (fun p hp => ?_)
        · refine AWp.pair h (fun he25707 h => ?_) (fun he25707n h => ?_)
          · obtain ⟨hi25708, x25709, hx25710, h⟩ := h
            have hi25708a : (0 : Int) ≤ x19748 := by omega
            have hi25708b := mm_lt (enc := eBl) hi25708 hx25710
            rw [he25707] at hi25708b
            have hi25708c : (Int.toNat x19748) = (Int.toNat x24759) := by rw [he25707]
            refine AWp.sub (Sub.lend (id := 1004) (d := 30710) (m := (Int.toNat x24759)) rfl rfl (mm_get hx25710) holeAt_nil) ?_
            refine rE [(4, [1004]), (15, []), (20, []), (22, []), (201, [1004]), (202, []), (205, []), (209, [1004]), (210, []), (213, [])] (pO rfl (pI rfl ?_))
            refine AOps.idxrr tabOk rfl rfl rfl rfl rfl rfl rfl rfl hi25708 (mm_lt hi25708 hx25710) rfl ?_
            refine AOps.loadrr tabOk rfl rfl rfl rfl rfl rfl rfl (mm_lt2 hx25710) holeAt_hd ?_
            refine pI rfl ?_
            obtain ⟨hi25714, x25715, hx25716, h⟩ := h
            refine AOps.idxown tabOk rfl rfl rfl rfl rfl rfl rfl rfl hi25714 (map_lt hi25714 hx25716) rfl ?_
            refine AOps.loadrow tabOk rfl rfl rfl rfl rfl rfl rfl (map_get hx25716) rfl ?_
            refine pW rfl (pO rfl (pI rfl ?_))
            refine AOps.idxrr tabOk rfl rfl rfl rfl rfl rfl rfl rfl hi25708a hi25708b hi25708c ?_
            refine AOps.loadrr tabOk rfl rfl rfl rfl rfl rfl rfl (mm_lt2 hx25710) holeAt_hd ?_
            refine pI rfl ?_
            obtain ⟨hi25720, x25721, hx25722, h⟩ := h
            refine AOps.idxown tabOk rfl rfl rfl rfl rfl rfl rfl rfl hi25720 (map_lt hi25720 hx25722) rfl ?_
            refine AOps.loadrow tabOk rfl rfl rfl rfl rfl rfl rfl (map_get hx25722) rfl ?_
            refine AOps.v rfl rfl (Step.arU rfl (.inr (.inr (.inl rfl))) fU_any fU_any) ?_
            refine AOps.v rfl rfl (Step.arU rfl (.inr (.inl rfl)) fU_any fU_any) ?_
            obtain ⟨hi25723, x25724, hx25725, h⟩ := h
            refine AOps.idxown tabOk rfl rfl rfl rfl rfl rfl rfl rfl hi25723 (map_lt hi25723 hx25725) rfl ?_
            refine AOps.storerow tabOk rfl rfl rfl rfl rfl rfl rfl rfl (map_lt2 hx25725) rfl rfl rfl (map_set1 (e := eBl) (x := ())) ?_
            refine dn ?_
            exact ⟨(List.set x25539 (Int.toNat x24759) (List.set x25709 (Int.toNat x25541) ())), h, (Sub.trans sl (Sub.unlend (id := 1004) (d := 30710) (m := (Int.toNat x24759)) rfl rfl holeAt_nil mm_set))⟩
          obtain ⟨hi25726, x25727, hx25728, h⟩ := h
          refine AWp.sub (Sub.lend (id := 1004) (d := 30728) (m := (Int.toNat x24759)) rfl rfl (mm_get hx25728) holeAt_nil) ?_
          obtain ⟨hi25729, x25730, hx25731, h⟩ := h
          refine AWp.sub (Sub.lend (id := 1004) (d := 30731) (m := (Int.toNat x19748)) rfl rfl (mm_get hx25731) (hole_one (toNat_ne hi25729 hi25726 he25707n.symm))) ?_
          refine rE [(4, [1004]), (15, []), (20, []), (22, []), (201, [1004]), (202, []), (205, []), (209, [1004]), (210, []), (213, [])] (pO rfl (pI rfl ?_))
          refine AOps.idxrr tabOk rfl rfl rfl rfl rfl rfl rfl rfl hi25726 (mm_lt hi25726 hx25728) rfl ?_
          refine AOps.loadrr tabOk rfl rfl rfl rfl rfl rfl rfl (mm_lt2 hx25728) (hole_snd (toNat_ne hi25726 hi25729 he25707n)) ?_
          refine pI rfl ?_
          obtain ⟨hi25735, x25736, hx25737, h⟩ := h
          refine AOps.idxown tabOk rfl rfl rfl rfl rfl rfl rfl rfl hi25735 (map_lt hi25735 hx25737) rfl ?_
          refine AOps.loadrow tabOk rfl rfl rfl rfl rfl rfl rfl (map_get hx25737) rfl ?_
          refine pW rfl (pO rfl (pI rfl ?_))
          refine AOps.idxrr tabOk rfl rfl rfl rfl rfl rfl rfl rfl hi25729 (mm_lt hi25729 hx25731) rfl ?_
          refine AOps.loadrr tabOk rfl rfl rfl rfl rfl rfl rfl (mm_lt2 hx25731) holeAt_hd ?_
          refine pI rfl ?_
          obtain ⟨hi25741, x25742, hx25743, h⟩ := h
          refine AOps.idxown tabOk rfl rfl rfl rfl rfl rfl rfl rfl hi25741 (map_lt hi25741 hx25743) rfl ?_
          refine AOps.loadrow tabOk rfl rfl rfl rfl rfl rfl rfl (map_get hx25743) rfl ?_
          refine AOps.v rfl rfl (Step.arU rfl (.inr (.inr (.inl rfl))) fU_any fU_any) ?_
          refine AOps.v rfl rfl (Step.arU rfl (.inr (.inl rfl)) fU_any fU_any) ?_
          obtain ⟨hi25744, x25745, hx25746, h⟩ := h
          refine AOps.idxown tabOk rfl rfl rfl rfl rfl rfl rfl rfl hi25744 (map_lt hi25744 hx25746) rfl ?_
          refine AOps.storerow tabOk rfl rfl rfl rfl rfl rfl rfl rfl (map_lt2 hx25746) rfl rfl rfl (map_set1 (e := eBl) (x := ())) ?_
          refine dn ?_
          exact ⟨(List.set (List.set x25539 (Int.toNat x19748) x25730) (Int.toNat x24759) (List.set x25727 (Int.toNat x25541) ())), h, (Sub.trans (Sub.trans sl (Sub.unlend (id := 1004) (d := 30728) (m := (Int.toNat x24759)) rfl rfl holeAt_nil mm_set)) (Sub.unlend (id := 1004) (d := 30731) (m := (Int.toNat x19748)) rfl rfl (hole_one (toNat_ne hi25729 hi25726 he25707n.symm)) mm_set))⟩
        replace h := hk25790 p hp
        revert h; clear hp; generalize p = x25705; intro h
        refine AWp.pair h (fun he25747 h => ?_) (fun he25747n h => ?_)
        · obtain ⟨hi25748, x25749, hx25750, h⟩ := h
          have hi25748a : (0 : Int) ≤ x19748 := by omega
          have hi25748b := mm_lt (enc := eBl) hi25748 hx25750
          rw [he25747] at hi25748b
          have hi25748c : (Int.toNat x19748) = (Int.toNat x24759) := by rw [he25747]
          refine AWp.sub (Sub.lend (id := 1005) (d := 30750) (m := (Int.toNat x24759)) rfl rfl (mm_get hx25750) holeAt_nil) ?_
          refine rE [(5, [1005]), (15, []), (20, []), (22, []), (219, [1005]), (220, []), (223, []), (227, [1005]), (228, []), (231, [])] (pO rfl (pI rfl ?_))
          refine AOps.idxrr tabOk rfl rfl rfl rfl rfl rfl rfl rfl hi25748 (mm_lt hi25748 hx25750) rfl ?_
          refine AOps.loadrr tabOk rfl rfl rfl rfl rfl rfl rfl (mm_lt2 hx25750) holeAt_hd ?_
          refine pI rfl ?_
          obtain ⟨hi25754, x25755, hx25756, h⟩ := h
          refine AOps.idxown tabOk rfl rfl rfl rfl rfl rfl rfl rfl hi25754 (map_lt hi25754 hx25756) rfl ?_
          refine AOps.loadrow tabOk rfl rfl rfl rfl rfl rfl rfl (map_get hx25756) rfl ?_
          refine pW rfl (pO rfl (pI rfl ?_))
          refine AOps.idxrr tabOk rfl rfl rfl rfl rfl rfl rfl rfl hi25748a hi25748b hi25748c ?_
          refine AOps.loadrr tabOk rfl rfl rfl rfl rfl rfl rfl (mm_lt2 hx25750) holeAt_hd ?_
          refine pI rfl ?_
          obtain ⟨hi25760, x25761, hx25762, h⟩ := h
          refine AOps.idxown tabOk rfl rfl rfl rfl rfl rfl rfl rfl hi25760 (map_lt hi25760 hx25762) rfl ?_
          refine AOps.loadrow tabOk rfl rfl rfl rfl rfl rfl rfl (map_get hx25762) rfl ?_
          refine AOps.v rfl rfl (Step.arU rfl (.inr (.inr (.inl rfl))) fU_any fU_any) ?_
          refine AOps.v rfl rfl (Step.arU rfl (.inr (.inl rfl)) fU_any fU_any) ?_
          obtain ⟨hi25763, x25764, hx25765, h⟩ := h
          refine AOps.idxown tabOk rfl rfl rfl rfl rfl rfl rfl rfl hi25763 (map_lt hi25763 hx25765) rfl ?_
          refine AOps.storerow tabOk rfl rfl rfl rfl rfl rfl rfl rfl (map_lt2 hx25765) rfl rfl rfl (map_set1 (e := eBl) (x := ())) ?_
          refine dn (AWp.sub (Sub.unlend (id := 1005) (d := 30750) (m := (Int.toNat x24759)) rfl rfl holeAt_nil mm_set) ?_)
          refine rN ?_
          obtain ⟨x25766, ex25766, h⟩ := h.get
          refine ai ex25766 rfl (pI rfl (dn ?_))
          exact ⟨⟨x25705, (List.set x25540 (Int.toNat x24759) (List.set x25749 (Int.toNat x25541) ())), x25766⟩, h.1, h.2, sl⟩
        obtain ⟨hi25767, x25768, hx25769, h⟩ := h
        refine AWp.sub (Sub.lend (id := 1005) (d := 30769) (m := (Int.toNat x24759)) rfl rfl (mm_get hx25769) holeAt_nil) ?_
        obtain ⟨hi25770, x25771, hx25772, h⟩ := h
        refine AWp.sub (Sub.lend (id := 1005) (d := 30772) (m := (Int.toNat x19748)) rfl rfl (mm_get hx25772) (hole_one (toNat_ne hi25770 hi25767 he25747n.symm))) ?_
        refine rE [(5, [1005]), (15, []), (20, []), (22, []), (219, [1005]), (220, []), (223, []), (227, [1005]), (228, []), (231, [])] (pO rfl (pI rfl ?_))
        refine AOps.idxrr tabOk rfl rfl rfl rfl rfl rfl rfl rfl hi25767 (mm_lt hi25767 hx25769) rfl ?_
        refine AOps.loadrr tabOk rfl rfl rfl rfl rfl rfl rfl (mm_lt2 hx25769) (hole_snd (toNat_ne hi25767 hi25770 he25747n)) ?_
        refine pI rfl ?_
        obtain ⟨hi25776, x25777, hx25778, h⟩ := h
        refine AOps.idxown tabOk rfl rfl rfl rfl rfl rfl rfl rfl hi25776 (map_lt hi25776 hx25778) rfl ?_
        refine AOps.loadrow tabOk rfl rfl rfl rfl rfl rfl rfl (map_get hx25778) rfl ?_
        refine pW rfl (pO rfl (pI rfl ?_))
        refine AOps.idxrr tabOk rfl rfl rfl rfl rfl rfl rfl rfl hi25770 (mm_lt hi25770 hx25772) rfl ?_
        refine AOps.loadrr tabOk rfl rfl rfl rfl rfl rfl rfl (mm_lt2 hx25772) holeAt_hd ?_
        refine pI rfl ?_
        obtain ⟨hi25782, x25783, hx25784, h⟩ := h
        refine AOps.idxown tabOk rfl rfl rfl rfl rfl rfl rfl rfl hi25782 (map_lt hi25782 hx25784) rfl ?_
        refine AOps.loadrow tabOk rfl rfl rfl rfl rfl rfl rfl (map_get hx25784) rfl ?_
        refine AOps.v rfl rfl (Step.arU rfl (.inr (.inr (.inl rfl))) fU_any fU_any) ?_
        refine AOps.v rfl rfl (Step.arU rfl (.inr (.inl rfl)) fU_any fU_any) ?_
        obtain ⟨hi25785, x25786, hx25787, h⟩ := h
        refine AOps.idxown tabOk rfl rfl rfl rfl rfl rfl rfl rfl hi25785 (map_lt hi25785 hx25787) rfl ?_
        refine AOps.storerow tabOk rfl rfl rfl rfl rfl rfl rfl rfl (map_lt2 hx25787) rfl rfl rfl (map_set1 (e := eBl) (x := ())) ?_
        refine dn (AWp.sub (Sub.unlend (id := 1005) (d := 30772) (m := (Int.toNat x19748)) rfl rfl (hole_one (toNat_ne hi25770 hi25767 he25747n.symm)) mm_set) ?_)
        refine AWp.sub (Sub.unlend (id := 1005) (d := 30769) (m := (Int.toNat x24759)) rfl rfl holeAt_nil mm_set) ?_
        refine rN ?_
        obtain ⟨x25788, ex25788, h⟩ := h.get
        refine ai ex25788 rfl (pI rfl (dn ?_))
        exact ⟨⟨x25705, (List.set (List.set x25540 (Int.toNat x19748) x25771) (Int.toNat x24759) (List.set x25768 (Int.toNat x25541) ())), x25788⟩, h.1, h.2, sl⟩
      refine AWp.exit ?_
      refine rN ?_
      obtain ⟨x25791, ex25791, h⟩ := h.get
      refine ai ex25791 rfl (pI rfl (dn ?_))
      exact ⟨⟨x25539, x25540, x25791⟩, h.1, h.2, sl⟩
    refine AWp.exit ?_
    refine rN ?_
    obtain ⟨x25796, ex25796, h⟩ := h.get
    refine ai ex25796 rfl (pI rfl (dn ?_))
    exact ⟨⟨x24757, x24758, x25796⟩, h.1, h.2, sl⟩
  refine AWp.exit ?_
  refine sN (pO rfl (pO rfl (dn ?_)))
  refine AWp.freezerr 2 1005 rfl rfl mm_sl ?_
  subst h; exact AWp.ret ⟨_, rfl, rfl⟩
end Go.Sim.YtlkpbnhinnhlfaaGreat
