/- What is proved: functions of the program compute what plain statements tell. -/
import Derived.Test.YtlkpbnhinnhlfaaGreatZLFWE
import Derived.Test.YtlkpbnhinnhlfaaGreatZLFSimH

namespace Go.Sim.YtlkpbnhinnhlfaaGreat
open Go.RowKit Go.Proofs Go.Proofs.Tryz
set_option maxRecDepth 100000
def W_lin_Points (m1 : List (List Nat)) (Q : List (List GIval) → Prop) : Prop :=
 Call (Ev_lin_floats m1) fun x2 =>
 Br (!x2) (Q ([] : List (List GIval))) (
  Mk 24 ((m1.length : Nat) : Int) ([] : List GIval) fun x5 =>
  Loop2 x5 (0 : Int) (fun (out471 : List (List GIval)) (x472 : Int) next473 =>
   Br (decide (x472 < ((m1.length : Nat) : Int))) (
    At m1 x472 fun x550 =>
    Loop2 out471 (0 : Int) (fun (out586 : List (List GIval)) (x587 : Int) next588 =>
     Br (decide (x587 < ((x550.length : Nat) : Int))) (
      At x550 x587 fun x605 =>
      At out586 x472 fun x608 =>
      Call (Ev_ival_Point x605) fun x613 =>
      App 16 x608 ([x613]) fun x615 =>
      Let (IntKind.i64.wrap (x587 + (1 : Int))) fun x619 =>
      next588 (List.set out586 (Int.toNat x472) x615) x619) (
      Let (IntKind.i64.wrap (x472 + (1 : Int))) fun x620 =>
      next473 out586 x620))) (
    Q out471)))
theorem walk_lin_Points {m1 : List (List Nat)} {r : List (List GIval)} (h : W_lin_Points m1 (fun r' => r' = r)) : Ev_lin_Points m1 r := by
  unfold W_lin_Points at h
  refine intr (L := [(0, .dat (.sl 27 1 (List.map (eSl 28 1 (eFlt .f64)) m1)))]) Tryz.func34 Tryz.ntmps34 ?_
  refine sN (pS rfl (dn (AWp.seq (AWp.seq (rN (pS rfl (kC h rfl ⟨.inl rfl, trivial⟩ rfl fun x2 h => ?_)))))))
  refine pB rfl (dn (cB h (fun h => ?_) (fun h => ?_)))
  · refine sN (pS rfl (dn (AWp.ret ?_)))
    subst h
    exact ⟨_, rfl, rfl⟩
  refine AWp.skip (AWp.seq (rN (pS rfl (al (((m1.length : Nat) : Int)) rfl ?_))))
  obtain ⟨h1, h2, h3, x5, ex5, h⟩ := h.get
  refine AOps.makerr tabOk rfl rfl rfl rfl rfl rfl rfl rfl h1 h2 h3 (mm_rep (enc := GIval.enc) ex5) ?_
  refine pO rfl (dn (AWp.seq (AWp.seq (rN (pS rfl (al (((m1.length : Nat) : Int)) rfl (pI rfl (dn (AWp.block ?_)))))))))
  obtain ⟨I625, x626, hz627, hr628⟩ := h
  refine AWp.loop (I := fun p : (List (List GIval)) × Int => mkSt [(3, .oref 1003), (14, .dat (.sl 27 1 (List.map (eSl 28 1 (eFlt .f64)) m1))), (15, .dat (.v (.int .i64 ((m1.length : Nat) : Int)))), (16, .dat (.v (.int .i64 p.2)))] [(1003, .rr 33 35 2 (List.map (List.map GIval.enc) p.1) [])]) (Inv := fun p => I625 p.1 p.2) (μ := fun p => x626 p.1 p.2) (x0 := ⟨x5, (0 : Int)⟩) hz627 (slf (fun i => (if Nat.beq i 1003 then 13 else i))) (fun p hp => ?_)
  obtain ⟨out471, x472⟩ := p
  have h := hr628 out471 x472 hp
  refine sN (pW rfl (dn (AWp.seq (cB h (fun h => ?_) (fun h => ?_)))))
  · refine AWp.skip (AWp.seq (AWp.block (AWp.seq (rN (pI rfl (kI h map_get rfl rfl rfl rfl rfl rfl rfl fun x550 h => ?_))))))
    refine pS rfl (pI rfl (pS rfl (dn (AWp.seq (rN (pS rfl (al (((x550.length : Nat) : Int)) rfl (pI rfl (dn (AWp.block ?_))))))))))
    obtain ⟨I621, x622, hz623, hr624⟩ := h
    refine AWp.loop (I := fun p : (List (List GIval)) × Int => mkSt [(3, .oref 1003), (4, .dat (.v (.int .i64 x472))), (14, .dat (.sl 27 1 (List.map (eSl 28 1 (eFlt .f64)) m1))), (15, .dat (.v (.int .i64 ((m1.length : Nat) : Int)))), (16, .dat (.v (.int .i64 x472))), (21, .dat (.sl 28 1 (List.map (eFlt .f64) x550))), (22, .dat (.v (.int .i64 ((x550.length : Nat) : Int)))), (23, .dat (.v (.int .i64 p.2)))] [(1003, .rr 33 35 2 (List.map (List.map GIval.enc) p.1) [])]) (Inv := fun p => I621 p.1 p.2) (μ := fun p => x622 p.1 p.2) (x0 := ⟨out471, (0 : Int)⟩) hz623 sl (fun p hp => ?_)
    obtain ⟨out586, x587⟩ := p
    have h := hr624 out586 x587 hp
    refine sN (pW rfl (dn (AWp.seq (cB h (fun h => ?_) (fun h => ?_)))))
    · refine AWp.skip (AWp.seq (AWp.block (AWp.seq (rN (kI h map_get rfl rfl rfl rfl rfl rfl rfl fun x605 h => ?_)))))
      refine pF rfl (pF rfl (dn ?_))
      obtain ⟨hi607, x608, hx609, h⟩ := h
      refine AWp.sub (Sub.lend (id := 1003) (d := 5609) (m := (Int.toNat x472)) rfl rfl (mm_get hx609) holeAt_nil) ?_
      refine rE [(3, [1003]), (4, []), (7, []), (27, [1003]), (28, []), (29, [1003]), (30, []), (33, []), (35, [35]), (36, [36])] (pO rfl (pI rfl (pO rfl (pI rfl ?_))))
      refine AOps.idxrr tabOk rfl rfl rfl rfl rfl rfl rfl rfl hi607 (mm_lt hi607 hx609) rfl ?_
      refine AOps.loadrr tabOk rfl rfl rfl rfl rfl rfl rfl (mm_lt2 hx609) holeAt_hd ?_
      refine pF rfl (kC h rfl ⟨.inl rfl, trivial⟩ rfl fun x613 h => ?_)
      refine AOps.lit tabOk (ys := [GIval.enc x613]) rfl rfl rfl rfl rfl rfl ?_
      obtain ⟨h1, h2, x615, ex615, h⟩ := h.get
      refine AOps.append tabOk rfl rfl rfl rfl rfl rfl rfl rfl rfl rfl rfl (.inl ⟨_, rfl⟩) (app1 h1) (app2 h2) (app3 ex615) ?_
      refine AOps.idxrr tabOk rfl rfl rfl rfl rfl rfl rfl rfl hi607 (mm_lt hi607 hx609) rfl ?_
      refine AOps.storerr (hs' := [((Int.toNat x472), 36)]) tabOk rfl rfl rfl rfl rfl rfl rfl rfl (mm_lt2 hx609) rfl hole1 hole1m ?_
      refine dn (AWp.sub (Sub.unlend (id := 1003) (d := 36) (m := (Int.toNat x472)) rfl rfl holeAt_nil mm_set) ?_)
      refine rN ?_
      obtain ⟨x619, ex619, h⟩ := h.get
      refine ai ex619 rfl (pI rfl (dn ?_))
      exact ⟨⟨(List.set out586 (Int.toNat x472) x615), x619⟩, h.1, h.2, sl⟩
    refine AWp.exit ?_
    refine rN ?_
    obtain ⟨x620, ex620, h⟩ := h.get
    refine ai ex620 rfl (pI rfl (dn ?_))
    exact ⟨⟨out586, x620⟩, h.1, h.2, sl⟩
  refine AWp.exit ?_
  refine sN (pO rfl (pO rfl (dn ?_)))
  refine AWp.freezerr 2 1003 rfl rfl mm_sl ?_
  subst h; exact AWp.ret ⟨_, rfl, rfl⟩
def W_lin_Mul (x1 : List (List GIval)) (x2 : List (List GIval)) (Q : (List (List GIval)) × Int → Prop) : Prop :=
 Call (Ev_lin_matrix x1) fun x12 =>
 Br (!x12) (Q (([] : List (List GIval)), (1 : Int))) (
  Call (Ev_lin_matrix x2) fun x14 =>
  Br (!x14) (Q (([] : List (List GIval)), (1 : Int))) (
   At x1 (0 : Int) fun x17 =>
   Br (((x17.length : Nat) : Int) != ((x2.length : Nat) : Int)) (Q (([] : List (List GIval)), (1 : Int))) (
    Mk 24 ((x1.length : Nat) : Int) ([] : List GIval) fun x22 =>
    At x2 (0 : Int) fun x24 =>
    Loop2 x22 (0 : Int) (fun (x965 : List (List GIval)) (x966 : Int) next967 =>
     Br (decide (x966 < ((x24.length : Nat) : Int))) (
      Loop2 ([] : List GIval) (0 : Int) (fun (x1181 : List GIval) (x1182 : Int) next1183 =>
       Br (decide (x1182 < ((x2.length : Nat) : Int))) (
        At x2 x1182 fun x1192 =>
        At x1192 x966 fun x1195 =>
        App 16 x1181 ([x1195]) fun x1197 =>
        Let (IntKind.i64.wrap (x1182 + (1 : Int))) fun x1198 =>
        next1183 x1197 x1198) (
        Loop2 x965 (0 : Int) (fun (x1234 : List (List GIval)) (x1235 : Int) next1236 =>
         Br (decide (x1235 < ((x1.length : Nat) : Int))) (
          At x1 x1235 fun x1253 =>
          Call (Ev_lin_Dot x1253 x1181) fun x1255 =>
          At x1234 x1235 fun x1258 =>
          App 16 x1258 ([x1255.1]) fun x1263 =>
          Let (IntKind.i64.wrap (x1235 + (1 : Int))) fun x1267 =>
          next1236 (List.set x1234 (Int.toNat x1235) x1263) x1267) (
          Let (IntKind.i64.wrap (x966 + (1 : Int))) fun x1268 =>
          next967 x1234 x1268))))) (
      Q (x965, (0 : Int)))))))
theorem walk_lin_Mul {x1 : List (List GIval)} {x2 : List (List GIval)} {r : (List (List GIval)) × Int} (h : W_lin_Mul x1 x2 (fun r' => r' = r)) : Ev_lin_Mul x1 x2 r := by
  unfold W_lin_Mul at h
  refine intr (L := [(0, .dat (.sl 33 1 (List.map (eSl 35 2 GIval.enc) x1))), (1, .dat (.sl 33 1 (List.map (eSl 35 2 GIval.enc) x2)))]) Tryz.func33 Tryz.ntmps33 ?_
  refine sN (pS rfl (pI rfl (dn (AWp.seq (AWp.seq (rN (pS rfl (kC h rfl ⟨.inl rfl, trivial⟩ rfl fun x12 h => ?_))))))))
  refine pB rfl (pB rfl (sB 18 h (fun h => ?_) (fun h => ?_)))
  · refine fo 3 rfl (pB rfl (pB rfl (fo 7 rfl (pB rfl (dn ?_)))))
    refine AWp.condT rfl ?_
    refine sN (pS rfl (pI rfl (dn (AWp.ret ?_))))
    subst h
    exact ⟨_, rfl, rfl⟩
  refine pS rfl (kC h rfl ⟨.inl rfl, trivial⟩ rfl fun x14 h => ?_)
  refine pB rfl (pB rfl (pB rfl (sB 23 h (fun h => ?_) (fun h => ?_))))
  · refine fo 7 rfl (pB rfl (dn ?_))
    refine AWp.condT rfl ?_
    refine sN (pS rfl (pI rfl (dn (AWp.ret ?_))))
    subst h
    exact ⟨_, rfl, rfl⟩
  refine pS rfl (kI h map_get rfl rfl rfl rfl rfl rfl rfl fun x17 h => ?_)
  refine pS rfl (al (((x17.length : Nat) : Int)) rfl (pS rfl (al (((x2.length : Nat) : Int)) rfl (pB rfl (pB rfl (dn (cB h (fun h => ?_) (fun h => ?_))))))))
  · refine sN (pS rfl (pI rfl (dn (AWp.ret ?_))))
    subst h
    exact ⟨_, rfl, rfl⟩
  refine AWp.skip (AWp.seq (rN (pS rfl (al (((x1.length : Nat) : Int)) rfl ?_))))
  obtain ⟨h1, h2, h3, x22, ex22, h⟩ := h.get
  refine AOps.makerr tabOk rfl rfl rfl rfl rfl rfl rfl rfl h1 h2 h3 (mm_rep (enc := GIval.enc) ex22) ?_
  refine pO rfl (dn (AWp.seq (AWp.seq (rN (pS rfl (kI h map_get rfl rfl rfl rfl rfl rfl rfl fun x24 h => ?_))))))
  refine pS rfl (al (((x24.length : Nat) : Int)) rfl (pI rfl (dn (AWp.block ?_))))
  obtain ⟨I1277, x1278, hz1279, hr1280⟩ := h
  refine AWp.loop (I := fun p : (List (List GIval)) × Int => mkSt [(0, .dat (.sl 33 1 (List.map (eSl 35 2 GIval.enc) x1))), (1, .dat (.sl 33 1 (List.map (eSl 35 2 GIval.enc) x2))), (6, .oref 1006), (38, .dat (.v (.int .i64 ((x24.length : Nat) : Int)))), (39, .dat (.v (.int .i64 p.2)))] [(1006, .rr 33 35 2 (List.map (List.map GIval.enc) p.1) [])]) (Inv := fun p => I1277 p.1 p.2) (μ := fun p => x1278 p.1 p.2) (x0 := ⟨x22, (0 : Int)⟩) hz1279 (slf (fun i => (if Nat.beq i 1006 then 34 else i))) (fun p hp => ?_)
  obtain ⟨x965, x966⟩ := p
  have h := hr1280 x965 x966 hp
  refine sN (pW rfl (dn (AWp.seq (cB h (fun h => ?_) (fun h => ?_)))))
  · refine AWp.skip (AWp.seq (AWp.block (AWp.seq (rN (pI rfl (pI rfl (dn (AWp.seq (rN ?_)))))))))
    refine AOps.nilown tabOk rfl rfl rfl rfl rfl rfl ?_
    refine dn (AWp.seq (AWp.seq (rN (pS rfl (al (((x2.length : Nat) : Int)) rfl (pI rfl (dn (AWp.block ?_))))))))
    obtain ⟨I1273, x1274, hz1275, hr1276⟩ := h
    refine AWp.loop (I := fun p : (List GIval) × Int => mkSt [(0, .dat (.sl 33 1 (List.map (eSl 35 2 GIval.enc) x1))), (1, .dat (.sl 33 1 (List.map (eSl 35 2 GIval.enc) x2))), (6, .oref 1006), (7, .dat (.v (.int .i64 x966))), (8, .oref 1008), (38, .dat (.v (.int .i64 ((x24.length : Nat) : Int)))), (39, .dat (.v (.int .i64 x966))), (42, .dat (.sl 33 1 (List.map (eSl 35 2 GIval.enc) x2))), (43, .dat (.v (.int .i64 ((x2.length : Nat) : Int)))), (44, .dat (.v (.int .i64 p.2)))] [(1006, .rr 33 35 2 (List.map (List.map GIval.enc) x965) []), (1008, .row 35 2 (List.map GIval.enc p.1))]) (Inv := fun p => I1273 p.1 p.2) (μ := fun p => x1274 p.1 p.2) (x0 := ⟨([] : List GIval), (0 : Int)⟩) hz1275 (slf (fun i => (if Nat.beq i 1008 then 8 else i))) (fun p hp => ?_)
    obtain ⟨x1181, x1182⟩ := p
    have h := hr1276 x1181 x1182 hp
    refine sN (pW rfl (dn (AWp.seq (cB h (fun h => ?_) (fun h => ?_)))))
    · refine AWp.skip (AWp.seq (AWp.block (AWp.seq (rN (kI h map_get rfl rfl rfl rfl rfl rfl rfl fun x1192 h => ?_)))))
      refine pS rfl (pS rfl (dn (rW (pO rfl (pS rfl (pI rfl (kI h map_get rfl rfl rfl rfl rfl rfl rfl fun x1195 h => ?_)))))))
      refine pT rfl ?_
      refine AOps.lit tabOk (ys := [GIval.enc x1195]) rfl rfl rfl rfl rfl rfl ?_
      obtain ⟨h1, h2, x1197, ex1197, h⟩ := h.get
      refine AOps.append tabOk rfl rfl rfl rfl rfl rfl rfl rfl rfl rfl rfl (.inl ⟨_, rfl⟩) (app1 h1) (app2 h2) (app3 ex1197) ?_
      refine pO rfl (dn (rN ?_))
      obtain ⟨x1198, ex1198, h⟩ := h.get
      refine ai ex1198 rfl (pI rfl (dn ?_))
      exact ⟨⟨x1197, x1198⟩, h.1, h.2, (slf (fun i => (if Nat.beq i 1008 then 54 else i)))⟩
    refine AWp.exit ?_
    refine sN (pS rfl (al (((x1.length : Nat) : Int)) rfl (pI rfl (dn (AWp.block ?_)))))
    obtain ⟨I1269, x1270, hz1271, hr1272⟩ := h
    refine AWp.loop (I := fun p : (List (List GIval)) × Int => mkSt [(0, .dat (.sl 33 1 (List.map (eSl 35 2 GIval.enc) x1))), (1, .dat (.sl 33 1 (List.map (eSl 35 2 GIval.enc) x2))), (6, .oref 1006), (8, .oref 1008), (38, .dat (.v (.int .i64 ((x24.length : Nat) : Int)))), (39, .dat (.v (.int .i64 x966))), (56, .dat (.sl 33 1 (List.map (eSl 35 2 GIval.enc) x1))), (57, .dat (.v (.int .i64 ((x1.length : Nat) : Int)))), (58, .dat (.v (.int .i64 p.2)))] [(1006, .rr 33 35 2 (List.map (List.map GIval.enc) p.1) []), (1008, .row 35 2 (List.map GIval.enc x1181))]) (Inv := fun p => I1269 p.1 p.2) (μ := fun p => x1270 p.1 p.2) (x0 := ⟨x965, (0 : Int)⟩) hz1271 sl (fun p hp => ?_)
    obtain ⟨x1234, x1235⟩ := p
    have h := hr1272 x1234 x1235 hp
    refine sN (pW rfl (dn (AWp.seq (cB h (fun h => ?_) (fun h => ?_)))))
    · refine AWp.skip (AWp.seq (AWp.block (AWp.seq (rN (pI rfl (kI h map_get rfl rfl rfl rfl rfl rfl rfl fun x1253 h => ?_))))))
      refine pS rfl (pI rfl (pS rfl (dn (AWp.seq (rW (pS rfl (pO rfl ?_)))))))
      obtain ⟨x1255, hc1256, h⟩ := h
      refine ca (AFn.fresh rfl hc1256) rfl ⟨.inl rfl, .inr (.inr ⟨rfl, _, _, _, _, rfl, rfl, rfl⟩), trivial⟩ rfl (pU rfl (pT rfl (pI rfl (al0 ?_))))
      refine st (v := .dat (.st _ _)) ?_
      refine pI rfl (dn ?_)
      obtain ⟨hi1257, x1258, hx1259, h⟩ := h
      refine AWp.sub (Sub.lend (id := 1006) (d := 6259) (m := (Int.toNat x1235)) rfl rfl (mm_get hx1259) holeAt_nil) ?_
      refine rE [(6, [1006]), (11, []), (13, [13]), (69, [1006]), (70, []), (71, [1006]), (72, []), (76, [76]), (77, [77])] (pO rfl (pI rfl (pO rfl (pI rfl ?_))))
      refine AOps.idxrr tabOk rfl rfl rfl rfl rfl rfl rfl rfl hi1257 (mm_lt hi1257 hx1259) rfl ?_
      refine AOps.loadrr tabOk rfl rfl rfl rfl rfl rfl rfl (mm_lt2 hx1259) holeAt_hd ?_
      refine pT rfl ?_
      refine AOps.lit tabOk (ys := [GIval.enc x1255.1]) rfl rfl rfl rfl rfl rfl ?_
      obtain ⟨h1, h2, x1263, ex1263, h⟩ := h.get
      refine AOps.append tabOk rfl rfl rfl rfl rfl rfl rfl rfl rfl rfl rfl (.inl ⟨_, rfl⟩) (app1 h1) (app2 h2) (app3 ex1263) ?_
      refine AOps.idxrr tabOk rfl rfl rfl rfl rfl rfl rfl rfl hi1257 (mm_lt hi1257 hx1259) rfl ?_
      refine AOps.storerr (hs' := [((Int.toNat x1235), 77)]) tabOk rfl rfl rfl rfl rfl rfl rfl rfl (mm_lt2 hx1259) rfl hole1 hole1m ?_
      refine dn (AWp.sub (Sub.unlend (id := 1006) (d := 77) (m := (Int.toNat x1235)) rfl rfl holeAt_nil mm_set) ?_)
      refine rN ?_
      obtain ⟨x1267, ex1267, h⟩ := h.get
      refine ai ex1267 rfl (pI rfl (dn ?_))
      exact ⟨⟨(List.set x1234 (Int.toNat x1235) x1263), x1267⟩, h.1, h.2, sl⟩
    refine AWp.exit ?_
    refine rN ?_
    obtain ⟨x1268, ex1268, h⟩ := h.get
    refine ai ex1268 rfl (pI rfl (dn ?_))
    exact ⟨⟨x1234, x1268⟩, h.1, h.2, sl⟩
  refine AWp.exit ?_
  refine sN (pO rfl (pO rfl (pI rfl (dn ?_))))
  refine AWp.freezerr 4 1006 rfl rfl mm_sl ?_
  subst h; exact AWp.ret ⟨_, rfl, rfl⟩
def W_lin_unit (n1 : Int) (Q : List (List Nat) → Prop) : Prop :=
 Mk 24 n1 ([] : List Nat) fun x2 =>
 Loop2 x2 (0 : Int) (fun (out114 : List (List Nat)) (x115 : Int) next116 =>
  Br (decide (x115 < ((x2.length : Nat) : Int))) (
   At out114 x115 fun x134 =>
   Mk 8 n1 (0 : Nat) fun x136 =>
   At (List.set out114 (Int.toNat x115) x136) x115 fun x141 =>
   At x141 x115 fun x147 =>
   Let (IntKind.i64.wrap (x115 + (1 : Int))) fun x149 =>
   next116 (List.set (List.set out114 (Int.toNat x115) x136) (Int.toNat x115) (List.set x141 (Int.toNat x115) (4607182418800017408 : Nat))) x149) (
   Q out114))
theorem walk_lin_unit {n1 : Int} {r : List (List Nat)} (h : W_lin_unit n1 (fun r' => r' = r)) : Ev_lin_unit n1 r := by
  unfold W_lin_unit at h
  refine intr (L := [(0, .dat (.v (.int .i64 n1)))]) Tryz.func21 Tryz.ntmps21 ?_
  refine sN (pS rfl (dn (AWp.seq (rN (pI rfl ?_)))))
  obtain ⟨h1, h2, h3, x2, ex2, h⟩ := h.get
  refine AOps.makerr tabOk rfl rfl rfl rfl rfl rfl rfl rfl h1 h2 h3 (mm_rep (enc := (eFlt .f64)) ex2) ?_
  refine pO rfl (dn (AWp.seq (AWp.seq (rN (pO rfl (al (((x2.length : Nat) : Int)) rfl (pI rfl (dn (AWp.block ?_)))))))))
  obtain ⟨I150, x151, hz152, hr153⟩ := h
  refine AWp.loop (I := fun p : (List (List Nat)) × Int => mkSt [(0, .dat (.v (.int .i64 n1))), (3, .oref 1003), (8, .dat (.v (.int .i64 ((x2.length : Nat) : Int)))), (9, .dat (.v (.int .i64 p.2)))] [(1003, .rr 27 28 1 (List.map (List.map (eFlt .f64)) p.1) [])]) (Inv := fun p => I150 p.1 p.2) (μ := fun p => x151 p.1 p.2) (x0 := ⟨x2, (0 : Int)⟩) hz152 (slf (fun i => (if Nat.beq i 1003 then 6 else i))) (fun p hp => ?_)
  obtain ⟨out114, x115⟩ := p
  have h := hr153 out114 x115 hp
  refine sN (pW rfl (dn (AWp.seq (cB h (fun h => ?_) (fun h => ?_)))))
  · refine AWp.skip (AWp.seq (AWp.block (AWp.seq (rN (pI rfl (pI rfl (dn (AWp.seq ?_))))))))
    obtain ⟨hi133, x134, hx135, h⟩ := h
    refine AWp.sub (Sub.lend (id := 1003) (d := 5135) (m := (Int.toNat x115)) rfl rfl (mm_get hx135) holeAt_nil) ?_
    refine rW (pO rfl (pI rfl (pI rfl ?_)))
    obtain ⟨h1, h2, h3, x136, ex136, h⟩ := h.get
    refine AOps.makeownE tabOk (e := (eFlt .f64)) rfl rfl rfl rfl rfl rfl rfl h1 h2 h3 rfl ex136 ?_
    refine AOps.idxrr tabOk rfl rfl rfl rfl rfl rfl rfl rfl hi133 (mm_lt hi133 hx135) rfl ?_
    refine AOps.storerr (hs' := [((Int.toNat x115), 15)]) tabOk rfl rfl rfl rfl rfl rfl rfl rfl (mm_lt2 hx135) rfl hole1 hole1m ?_
    refine dn (AWp.sub (Sub.unlend (id := 1003) (d := 15) (m := (Int.toNat x115)) rfl rfl holeAt_nil mm_set) ?_)
    obtain ⟨hi140, x141, hx142, h⟩ := h
    refine AWp.sub (Sub.lend (id := 1003) (d := 5142) (m := (Int.toNat x115)) rfl rfl (mm_get hx142) holeAt_nil) ?_
    refine rW (pO rfl (pI rfl ?_))
    refine AOps.idxrr tabOk rfl rfl rfl rfl rfl rfl rfl rfl hi140 (mm_lt hi140 hx142) rfl ?_
    refine AOps.loadrr tabOk rfl rfl rfl rfl rfl rfl rfl (mm_lt2 hx142) holeAt_hd ?_
    refine pI rfl ?_
    obtain ⟨hi146, x147, hx148, h⟩ := h
    refine AOps.idxown tabOk rfl rfl rfl rfl rfl rfl rfl rfl hi146 (map_lt hi146 hx148) rfl ?_
    refine AOps.storerow tabOk rfl rfl rfl rfl rfl rfl rfl rfl (map_lt2 hx148) rfl rfl rfl (map_set1 (e := (eFlt .f64)) (x := (4607182418800017408 : Nat))) ?_
    refine dn (AWp.sub (Sub.unlend (id := 1003) (d := 5142) (m := (Int.toNat x115)) rfl rfl holeAt_nil mm_set) ?_)
    refine rN ?_
    obtain ⟨x149, ex149, h⟩ := h.get
    refine ai ex149 rfl (pI rfl (dn ?_))
    exact ⟨⟨(List.set (List.set out114 (Int.toNat x115) x136) (Int.toNat x115) (List.set x141 (Int.toNat x115) (4607182418800017408 : Nat))), x149⟩, h.1, h.2, sl⟩
  refine AWp.exit ?_
  refine sN (pO rfl (pO rfl (dn ?_)))
  refine AWp.freezerr 2 1003 rfl rfl mm_sl ?_
  subst h; exact AWp.ret ⟨_, rfl, rfl⟩
end Go.Sim.YtlkpbnhinnhlfaaGreat
