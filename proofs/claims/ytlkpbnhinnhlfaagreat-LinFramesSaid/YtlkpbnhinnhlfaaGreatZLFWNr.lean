/- What is proved: functions of the program compute what plain statements tell. -/
import Derived.Test.YtlkpbnhinnhlfaaGreatZLFWE

namespace Go.Sim.YtlkpbnhinnhlfaaGreat
open Go.RowKit Go.Proofs Go.Proofs.Tryz
set_option maxRecDepth 100000
def WR_lin_unit (n1 : Int) (Q : List (List Nat) → Prop) : Prop :=
 Mk 24 n1 ([] : List Nat) fun x2 =>
 Loop2 x2 (0 : Int) (fun (out114 : List (List Nat)) (x115 : Int) next116 =>
  Br (decide (x115 < ((x2.length : Nat) : Int))) (
   At out114 x115 fun x134 =>
   Mk 8 n1 (0 : Nat) fun x136 =>
   At (List.set out114 (Int.toNat x115) x136) x115 fun x141 =>
   At x141 x115 fun x147 =>
   Let (IntKind.i64.wrap (x115 + (1 : Int))) fun x149 =>
   next116 (List.set (List.set out114 (Int.toNat x115) x136) (Int.toNat x115) (List.set x141 (Int.toNat x115) (4607182418800017408 : Nat))) x149) (
   Q out114))
theorem walkR_lin_unit {n1 : Int} {r : List (List Nat)} (h : WR_lin_unit n1 (fun r' => r' = r)) : EvR_lin_unit n1 r := by
  unfold WR_lin_unit at h
  refine AFnR.intro' (L := [(0, .dat (.v (.int .i64 n1)))]) (bareRR fun _ => rfl) Tryz.func21 rfl rfl Tryz.ntmps21 rfl rfl rfl ?_
  refine sN (pS rfl (dn (AWp.seq (rN (pI rfl ?_)))))
  obtain ⟨h1, h2, h3, x2, ex2, h⟩ := h.get
  refine AOps.makerr tabOk rfl rfl rfl rfl rfl rfl rfl rfl h1 h2 h3 (mm_rep (enc := (eFlt .f64)) ex2) ?_
  refine pO rfl (dn (AWp.seq (AWp.seq (rN (pO rfl (al (((x2.length : Nat) : Int)) rfl (pI rfl (dn (AWp.block ?_)))))))))
  obtain ⟨I150, x151, hz152, hr153⟩ := h
  refine AWp.loop (I := fun p : (List (List Nat)) × Int => mkSt [(0, .dat (.v (.int .i64 n1))), (3, .oref 1003), (8, .dat (.v (.int .i64 ((x2.length : Nat) : Int)))), (9, .dat (.v (.int .i64 p.2)))] [(1003, .rr 27 28 1 (List.map (List.map (eFlt .f64)) p.1) [])]) (Inv := fun p => I150 p.1 p.2) (μ := fun p => x151 p.1 p.2) (x0 := ⟨x2, (0 : Int)⟩) hz152 (slf (fun i => (if Nat.beq i 1003 then 6 else i))) (fun p hp => ?_)
  obtain ⟨out114, x115⟩ := p
  have h := hr153 out114 x115 hp
  refine sN (pW rfl (dn (AWp.seq (cB h (fun h => ?_) (fun h => ?_)))))
  · refine AWp.skip (AWp.seq (AWp.block (AWp.seq (rN (pI rfl (pI rfl (dn (AWp.seq ?_))))))))
    obtain ⟨hi133, x134, hx135, h⟩ := h
    refine AWp.sub (Sub.lend (id := 1003) (d := 5135) (m := (Int.toNat x115)) rfl rfl (mm_get hx135) holeAt_nil) ?_
    refine rW (pO rfl (pI rfl (pI rfl ?_)))
    obtain ⟨h1, h2, h3, x136, ex136, h⟩ := h.get
    refine AOps.makeownE tabOk (e := (eFlt .f64)) rfl rfl rfl rfl rfl rfl rfl h1 h2 h3 rfl ex136 ?_
    refine AOps.idxrr tabOk rfl rfl rfl rfl rfl rfl rfl rfl hi133 (mm_lt hi133 hx135) rfl ?_
    refine AOps.storerr (hs' := [((Int.toNat x115), 15)]) tabOk rfl rfl rfl rfl rfl rfl rfl rfl (mm_lt2 hx135) rfl hole1 hole1m ?_
    refine dn (AWp.sub (Sub.unlend (id := 1003) (d := 15) (m := (Int.toNat x115)) rfl rfl holeAt_nil mm_set) ?_)
    obtain ⟨hi140, x141, hx142, h⟩ := h
    refine AWp.sub (Sub.lend (id := 1003) (d := 5142) (m := (Int.toNat x115)) rfl rfl (mm_get hx142) holeAt_nil) ?_
    refine rW (pO rfl (pI rfl ?_))
    refine AOps.idxrr tabOk rfl rfl rfl rfl rfl rfl rfl rfl hi140 (mm_lt hi140 hx142) rfl ?_
    refine AOps.loadrr tabOk rfl rfl rfl rfl rfl rfl rfl (mm_lt2 hx142) holeAt_hd ?_
    refine pI rfl ?_
    obtain ⟨hi146, x147, hx148, h⟩ := h
    refine AOps.idxown tabOk rfl rfl rfl rfl rfl rfl rfl rfl hi146 (map_lt hi146 hx148) rfl ?_
    refine AOps.storerow tabOk rfl rfl rfl rfl rfl rfl rfl rfl (map_lt2 hx148) rfl rfl rfl (map_set1 (e := (eFlt .f64)) (x := (4607182418800017408 : Nat))) ?_
    refine dn (AWp.sub (Sub.unlend (id := 1003) (d := 5142) (m := (Int.toNat x115)) rfl rfl holeAt_nil mm_set) ?_)
    refine rN ?_
    obtain ⟨x149, ex149, h⟩ := h.get
    refine ai ex149 rfl (pI rfl (dn ?_))
    exact ⟨⟨(List.set (List.set out114 (Int.toNat x115) x136) (Int.toNat x115) (List.set x141 (Int.toNat x115) (4607182418800017408 : Nat))), x149⟩, h.1, h.2, sl⟩
  refine AWp.exit ?_
  refine sN (pO rfl (pO rfl (dn (AWp.ret ?_))))
  subst h
  exact ⟨_, _, rfl, rfl, by decide, rfl⟩
def WR_lin_Points (m1 : List (List Nat)) (Q : List (List GIval) → Prop) : Prop :=
 Call (Ev_lin_floats m1) fun x2 =>
 Br (!x2) (False) (
  Mk 24 ((m1.length : Nat) : Int) ([] : List GIval) fun x5 =>
  Loop2 x5 (0 : Int) (fun (out471 : List (List GIval)) (x472 : Int) next473 =>
   Br (decide (x472 < ((m1.length : Nat) : Int))) (
    At m1 x472 fun x550 =>
    Loop2 out471 (0 : Int) (fun (out586 : List (List GIval)) (x587 : Int) next588 =>
     Br (decide (x587 < ((x550.length : Nat) : Int))) (
      At x550 x587 fun x605 =>
      At out586 x472 fun x608 =>
      Call (Ev_ival_Point x605) fun x613 =>
      App 16 x608 ([x613]) fun x615 =>
      Let (IntKind.i64.wrap (x587 + (1 : Int))) fun x619 =>
      next588 (List.set out586 (Int.toNat x472) x615) x619) (
      Let (IntKind.i64.wrap (x472 + (1 : Int))) fun x620 =>
      next473 out586 x620))) (
    Q out471)))
theorem walkR_lin_Points {m1 : List (List Nat)} {r : List (List GIval)} (h : WR_lin_Points m1 (fun r' => r' = r)) : EvR_lin_Points m1 r := by
  unfold WR_lin_Points at h
  refine AFnR.intro' (L := [(0, .dat (.sl 27 1 (List.map (eSl 28 1 (eFlt .f64)) m1)))]) (bareRR fun _ => rfl) Tryz.func34 rfl rfl Tryz.ntmps34 rfl rfl rfl ?_
  refine sN (pS rfl (dn (AWp.seq (AWp.seq (rN (pS rfl (kC h rfl ⟨.inl rfl, trivial⟩ rfl fun x2 h => ?_)))))))
  refine pB rfl (dn (cB h (fun h => ?_) (fun h => ?_)))
  · refine sN (pS rfl (dn (AWp.ret ?_)))
    exact h.elim
  refine AWp.skip (AWp.seq (rN (pS rfl (al (((m1.length : Nat) : Int)) rfl ?_))))
  obtain ⟨h1, h2, h3, x5, ex5, h⟩ := h.get
  refine AOps.makerr tabOk rfl rfl rfl rfl rfl rfl rfl rfl h1 h2 h3 (mm_rep (enc := GIval.enc) ex5) ?_
  refine pO rfl (dn (AWp.seq (AWp.seq (rN (pS rfl (al (((m1.length : Nat) : Int)) rfl (pI rfl (dn (AWp.block ?_)))))))))
  obtain ⟨I625, x626, hz627, hr628⟩ := h
  refine AWp.loop (I := fun p : (List (List GIval)) × Int => mkSt [(3, .oref 1003), (14, .dat (.sl 27 1 (List.map (eSl 28 1 (eFlt .f64)) m1))), (15, .dat (.v (.int .i64 ((m1.length : Nat) : Int)))), (16, .dat (.v (.int .i64 p.2)))] [(1003, .rr 33 35 2 (List.map (List.map GIval.enc) p.1) [])]) (Inv := fun p => I625 p.1 p.2) (μ := fun p => x626 p.1 p.2) (x0 := ⟨x5, (0 : Int)⟩) hz627 (slf (fun i => (if Nat.beq i 1003 then 13 else i))) (fun p hp => ?_)
  obtain ⟨out471, x472⟩ := p
  have h := hr628 out471 x472 hp
  refine sN (pW rfl (dn (AWp.seq (cB h (fun h => ?_) (fun h => ?_)))))
  · refine AWp.skip (AWp.seq (AWp.block (AWp.seq (rN (pI rfl (kI h map_get rfl rfl rfl rfl rfl rfl rfl fun x550 h => ?_))))))
    refine pS rfl (pI rfl (pS rfl (dn (AWp.seq (rN (pS rfl (al (((x550.length : Nat) : Int)) rfl (pI rfl (dn (AWp.block ?_))))))))))
    obtain ⟨I621, x622, hz623, hr624⟩ := h
    refine AWp.loop (I := fun p : (List (List GIval)) × Int => mkSt [(3, .oref 1003), (4, .dat (.v (.int .i64 x472))), (14, .dat (.sl 27 1 (List.map (eSl 28 1 (eFlt .f64)) m1))), (15, .dat (.v (.int .i64 ((m1.length : Nat) : Int)))), (16, .dat (.v (.int .i64 x472))), (21, .dat (.sl 28 1 (List.map (eFlt .f64) x550))), (22, .dat (.v (.int .i64 ((x550.length : Nat) : Int)))), (23, .dat (.v (.int .i64 p.2)))] [(1003, .rr 33 35 2 (List.map (List.map GIval.enc) p.1) [])]) (Inv := fun p => I621 p.1 p.2) (μ := fun p => x622 p.1 p.2) (x0 := ⟨out471, (0 : Int)⟩) hz623 sl (fun p hp => ?_)
    obtain ⟨out586, x587⟩ := p
    have h := hr624 out586 x587 hp
    refine sN (pW rfl (dn (AWp.seq (cB h (fun h => ?_) (fun h => ?_)))))
    · refine AWp.skip (AWp.seq (AWp.block (AWp.seq (rN (kI h map_get rfl rfl rfl rfl rfl rfl rfl fun x605 h => ?_)))))
      refine pF rfl (pF rfl (dn ?_))
      obtain ⟨hi607, x608, hx609, h⟩ := h
      refine AWp.sub (Sub.lend (id := 1003) (d := 5609) (m := (Int.toNat x472)) rfl rfl (mm_get hx609) holeAt_nil) ?_
      refine rE [(3, [1003]), (4, []), (7, []), (27, [1003]), (28, []), (29, [1003]), (30, []), (33, []), (35, [35]), (36, [36])] (pO rfl (pI rfl (pO rfl (pI rfl ?_))))
      refine AOps.idxrr tabOk rfl rfl rfl rfl rfl rfl rfl rfl hi607 (mm_lt hi607 hx609) rfl ?_
      refine AOps.loadrr tabOk rfl rfl rfl rfl rfl rfl rfl (mm_lt2 hx609) holeAt_hd ?_
      refine pF rfl (kC h rfl ⟨.inl rfl, trivial⟩ rfl fun x613 h => ?_)
      refine AOps.lit tabOk (ys := [GIval.enc x613]) rfl rfl rfl rfl rfl rfl ?_
      obtain ⟨h1, h2, x615, ex615, h⟩ := h.get
      refine AOps.append tabOk rfl rfl rfl rfl rfl rfl rfl rfl rfl rfl rfl (.inl ⟨_, rfl⟩) (app1 h1) (app2 h2) (app3 ex615) ?_
      refine AOps.idxrr tabOk rfl rfl rfl rfl rfl rfl rfl rfl hi607 (mm_lt hi607 hx609) rfl ?_
      refine AOps.storerr (hs' := [((Int.toNat x472), 36)]) tabOk rfl rfl rfl rfl rfl rfl rfl rfl (mm_lt2 hx609) rfl hole1 hole1m ?_
      refine dn (AWp.sub (Sub.unlend (id := 1003) (d := 36) (m := (Int.toNat x472)) rfl rfl holeAt_nil mm_set) ?_)
      refine rN ?_
      obtain ⟨x619, ex619, h⟩ := h.get
      refine ai ex619 rfl (pI rfl (dn ?_))
      exact ⟨⟨(List.set out586 (Int.toNat x472) x615), x619⟩, h.1, h.2, sl⟩
    refine AWp.exit ?_
    refine rN ?_
    obtain ⟨x620, ex620, h⟩ := h.get
    refine ai ex620 rfl (pI rfl (dn ?_))
    exact ⟨⟨out586, x620⟩, h.1, h.2, sl⟩
  refine AWp.exit ?_
  refine sN (pO rfl (pO rfl (dn (AWp.ret ?_))))
  subst h
  exact ⟨_, _, rfl, rfl, by decide, rfl⟩
def WR_lin_One (n1 : Int) (Q : List (List GIval) → Prop) : Prop :=
 Br (decide (n1 < (1 : Int))) (False) (
  Br (decide (n1 > (24 : Int))) (False) (
   Call (Ev_lin_unit n1) fun x2 =>
   Call (EvR_lin_Points x2) fun x4 =>
   Q x4))
theorem walkR_lin_One {n1 : Int} {r : List (List GIval)} (h : WR_lin_One n1 (fun r' => r' = r)) : EvR_lin_One n1 r := by
  unfold WR_lin_One at h
  refine AFnR.intro' (L := [(0, .dat (.v (.int .i64 n1)))]) (bareRR fun _ => rfl) Tryz.func77 rfl rfl Tryz.ntmps77 rfl rfl rfl ?_
  refine sN (pS rfl (dn (AWp.seq (AWp.seq (rN (pI rfl (pB rfl (pB rfl (sB 5 h (fun h => ?_) (fun h => ?_))))))))))
  · refine ff rfl (ff rfl (pB rfl (dn ?_)))
    refine AWp.condT rfl ?_
    refine sN (pS rfl (dn (AWp.ret ?_)))
    exact h.elim
  refine pI rfl (pB rfl (pB rfl (dn (cB h (fun h => ?_) (fun h => ?_)))))
  · refine sN (pS rfl (dn (AWp.ret ?_)))
    exact h.elim
  refine AWp.skip (AWp.seq (rN (pI rfl (kC h rfl ⟨.inl rfl, trivial⟩ rfl fun x2 h => ?_))))
  obtain ⟨x4, hc5, h⟩ := h
  refine AOps.callRR hc5 rfl rfl rfl rfl ⟨.inl rfl, trivial⟩ ?_
  refine pO rfl (dn (AWp.ret ?_))
  subst h
  exact ⟨_, _, rfl, rfl, by decide, rfl⟩
def WR_ref04_Mul (a1 : List (List GIval)) (b2 : List (List GIval)) (Q : List (List GIval) → Prop) : Prop :=
 Loop2 ([] : List (List GIval)) (0 : Int) (fun (out4338 : List (List GIval)) (x4339 : Int) next4340 =>
  Br (decide (x4339 < ((a1.length : Nat) : Int))) (
   At a1 x4339 fun x5062 =>
   At b2 (0 : Int) fun x5065 =>
   Loop2 ([] : List GIval) (0 : Int) (fun (row5600 : List GIval) (x5601 : Int) next5602 =>
    Br (decide (x5601 < ((x5065.length : Nat) : Int))) (
     Loop2 ([] : List GIval) (0 : Int) (fun (col5750 : List GIval) (x5751 : Int) next5752 =>
      Br (decide (x5751 < ((b2.length : Nat) : Int))) (
       At b2 x5751 fun x5761 =>
       At x5761 x5601 fun x5764 =>
       App 16 col5750 ([x5764]) fun x5766 =>
       Let (IntKind.i64.wrap (x5751 + (1 : Int))) fun x5767 =>
       next5752 x5766 x5767) (
       Call (Ev_ref04_Dot x5062 col5750) fun x5768 =>
       App 16 row5600 ([x5768]) fun x5770 =>
       Let (IntKind.i64.wrap (x5601 + (1 : Int))) fun x5771 =>
       next5602 x5770 x5771))) (
     App 24 out4338 [row5600] fun x5776 =>
     Let (IntKind.i64.wrap (x4339 + (1 : Int))) fun x5777 =>
     next4340 (List.set x5776 out4338.length row5600) x5777))) (
   Q out4338))
theorem walkR_ref04_Mul {a1 : List (List GIval)} {b2 : List (List GIval)} {r : List (List GIval)} (h : WR_ref04_Mul a1 b2 (fun r' => r' = r)) : EvR_ref04_Mul a1 b2 r := by
  unfold WR_ref04_Mul at h
  refine AFnR.intro' (L := [(0, .dat (.sl 33 1 (List.map (eSl 35 2 GIval.enc) a1))), (1, .dat (.sl 33 1 (List.map (eSl 35 2 GIval.enc) b2)))]) (bareRR fun _ => rfl) Tryz.func7 rfl rfl Tryz.ntmps7 rfl rfl rfl ?_
  refine sN (pS rfl (dn (AWp.seq (rN ?_))))
  refine AOps.litrr0 tabOk 35 2 rfl rfl rfl rfl rfl ?_
  refine pO rfl (dn (AWp.seq (AWp.seq (rN (pS rfl (al (((a1.length : Nat) : Int)) rfl (pI rfl (dn (AWp.block ?_)))))))))
  obtain ⟨I5782, x5783, hz5784, hr5785⟩ := h
  refine AWp.loop (I := fun p : (List (List GIval)) × Int => mkSt [(1, .dat (.sl 33 1 (List.map (eSl 35 2 GIval.enc) b2))), (5, .oref 1005), (14, .dat (.sl 33 1 (List.map (eSl 35 2 GIval.enc) a1))), (15, .dat (.v (.int .i64 ((a1.length : Nat) : Int)))), (16, .dat (.v (.int .i64 p.2)))] [(1005, .rr 33 35 2 (List.map (List.map GIval.enc) p.1) [])]) (Inv := fun p => I5782 p.1 p.2) (μ := fun p => x5783 p.1 p.2) (x0 := ⟨([] : List (List GIval)), (0 : Int)⟩) hz5784 (slf (fun i => (if Nat.beq i 1005 then 13 else i))) (fun p hp => ?_)
  obtain ⟨out4338, x4339⟩ := p
  have h := hr5785 out4338 x4339 hp
  refine sN (pW rfl (dn (AWp.seq (cB h (fun h => ?_) (fun h => ?_)))))
  · refine AWp.skip (AWp.seq (AWp.block (AWp.seq (rN (kI h map_get rfl rfl rfl rfl rfl rfl rfl fun x5062 h => ?_)))))
    refine pS rfl (pS rfl (dn (AWp.seq (rN ?_))))
    refine AOps.litown tabOk (ys := []) rfl rfl rfl rfl rfl rfl rfl rfl ?_
    refine pO rfl (dn (AWp.seq (AWp.seq (rN (pS rfl (kI h map_get rfl rfl rfl rfl rfl rfl rfl fun x5065 h => ?_))))))
    refine pS rfl (al (((x5065.length : Nat) : Int)) rfl (pI rfl (dn (AWp.block ?_))))
    obtain ⟨I5778, x5779, hz5780, hr5781⟩ := h
    refine AWp.loop (I := fun p : (List GIval) × Int => mkSt [(1, .dat (.sl 33 1 (List.map (eSl 35 2 GIval.enc) b2))), (5, .oref 1005), (7, .dat (.sl 35 2 (List.map GIval.enc x5062))), (8, .oref 1008), (14, .dat (.sl 33 1 (List.map (eSl 35 2 GIval.enc) a1))), (15, .dat (.v (.int .i64 ((a1.length : Nat) : Int)))), (16, .dat (.v (.int .i64 x4339))), (24, .dat (.v (.int .i64 ((x5065.length : Nat) : Int)))), (25, .dat (.v (.int .i64 p.2)))] [(1005, .rr 33 35 2 (List.map (List.map GIval.enc) out4338) []), (1008, .row 35 2 (List.map GIval.enc p.1))]) (Inv := fun p => I5778 p.1 p.2) (μ := fun p => x5779 p.1 p.2) (x0 := ⟨([] : List GIval), (0 : Int)⟩) hz5780 (slf (fun i => (if Nat.beq i 1008 then 20 else i))) (fun p hp => ?_)
    obtain ⟨row5600, x5601⟩ := p
    have h := hr5781 row5600 x5601 hp
    refine sN (pW rfl (dn (AWp.seq (cB h (fun h => ?_) (fun h => ?_)))))
    · refine AWp.skip (AWp.seq (AWp.block (AWp.seq (rN (pI rfl (pI rfl (dn (AWp.seq (rN ?_)))))))))
      refine AOps.litown tabOk (ys := []) rfl rfl rfl rfl rfl rfl rfl rfl ?_
      refine pO rfl (dn (AWp.seq (AWp.seq (rN (pS rfl (al (((b2.length : Nat) : Int)) rfl (pI rfl (dn (AWp.block ?_)))))))))
      obtain ⟨I5772, x5773, hz5774, hr5775⟩ := h
      refine AWp.loop (I := fun p : (List GIval) × Int => mkSt [(1, .dat (.sl 33 1 (List.map (eSl 35 2 GIval.enc) b2))), (5, .oref 1005), (7, .dat (.sl 35 2 (List.map GIval.enc x5062))), (8, .oref 1008), (9, .dat (.v (.int .i64 x5601))), (10, .oref 1010), (14, .dat (.sl 33 1 (List.map (eSl 35 2 GIval.enc) a1))), (15, .dat (.v (.int .i64 ((a1.length : Nat) : Int)))), (16, .dat (.v (.int .i64 x4339))), (24, .dat (.v (.int .i64 ((x5065.length : Nat) : Int)))), (25, .dat (.v (.int .i64 x5601))), (29, .dat (.sl 33 1 (List.map (eSl 35 2 GIval.enc) b2))), (30, .dat (.v (.int .i64 ((b2.length : Nat) : Int)))), (31, .dat (.v (.int .i64 p.2)))] [(1005, .rr 33 35 2 (List.map (List.map GIval.enc) out4338) []), (1008, .row 35 2 (List.map GIval.enc row5600)), (1010, .row 35 2 (List.map GIval.enc p.1))]) (Inv := fun p => I5772 p.1 p.2) (μ := fun p => x5773 p.1 p.2) (x0 := ⟨([] : List GIval), (0 : Int)⟩) hz5774 (slf (fun i => (if Nat.beq i 1010 then 28 else i))) (fun p hp => ?_)
      obtain ⟨col5750, x5751⟩ := p
      have h := hr5775 col5750 x5751 hp
      refine sN (pW rfl (dn (AWp.seq (cB h (fun h => ?_) (fun h => ?_)))))
      · refine AWp.skip (AWp.seq (AWp.block (AWp.seq (rN (kI h map_get rfl rfl rfl rfl rfl rfl rfl fun x5761 h => ?_)))))
        refine pS rfl (pS rfl (dn (rW (pO rfl (pS rfl (pI rfl (kI h map_get rfl rfl rfl rfl rfl rfl rfl fun x5764 h => ?_)))))))
        refine pT rfl ?_
        refine AOps.lit tabOk (ys := [GIval.enc x5764]) rfl rfl rfl rfl rfl rfl ?_
        obtain ⟨h1, h2, x5766, ex5766, h⟩ := h.get
        refine AOps.append tabOk rfl rfl rfl rfl rfl rfl rfl rfl rfl rfl rfl (.inl ⟨_, rfl⟩) (app1 h1) (app2 h2) (app3 ex5766) ?_
        refine pO rfl (dn (rN ?_))
        obtain ⟨x5767, ex5767, h⟩ := h.get
        refine ai ex5767 rfl (pI rfl (dn ?_))
        exact ⟨⟨x5766, x5767⟩, h.1, h.2, (slf (fun i => (if Nat.beq i 1010 then 41 else i)))⟩
      refine AWp.exit ?_
      refine rW (pO rfl (pS rfl (pO rfl ?_)))
      obtain ⟨x5768, hc5769, h⟩ := h
      refine ca (AFn.fresh rfl hc5769) rfl ⟨.inl rfl, .inr (.inr ⟨rfl, _, _, _, _, rfl, rfl, rfl⟩), trivial⟩ rfl ?_
      refine AOps.lit tabOk (ys := [GIval.enc x5768]) rfl rfl rfl rfl rfl rfl ?_
      obtain ⟨h1, h2, x5770, ex5770, h⟩ := h.get
      refine AOps.append tabOk rfl rfl rfl rfl rfl rfl rfl rfl rfl rfl rfl (.inl ⟨_, rfl⟩) (app1 h1) (app2 h2) (app3 ex5770) ?_
      refine pO rfl (dn (rN ?_))
      obtain ⟨x5771, ex5771, h⟩ := h.get
      refine ai ex5771 rfl (pI rfl (dn ?_))
      exact ⟨⟨x5770, x5771⟩, h.1, h.2, (slf (fun i => (if Nat.beq i 1008 then 48 else i)))⟩
    refine AWp.exit ?_
    refine rW (pO rfl (pO rfl ?_))
    refine AOps.litrr1 tabOk 35 2 (List.map GIval.enc row5600) rfl rfl rfl rfl rfl rfl rfl rfl ?_
    obtain ⟨h1, h2, x5776, ex5776, h⟩ := h.get
    refine AOps.appendrr tabOk rfl rfl rfl rfl rfl rfl rfl rfl rfl rfl rfl (b := 24) rfl (app1c h1) (app2c h2) (app3c (e := (List.map GIval.enc)) ex5776) (by rw [List.length_map]) ?_
    refine pO rfl (dn ?_)
    refine AWp.sub (Sub.unlend (id := 53) (d := 1008) (m := out4338.length) rfl rfl holeAt_nil mm_set) ?_
    refine rN ?_
    obtain ⟨x5777, ex5777, h⟩ := h.get
    refine ai ex5777 rfl (pI rfl (dn ?_))
    exact ⟨⟨(List.set x5776 out4338.length row5600), x5777⟩, h.1, h.2, (slf (fun i => (if Nat.beq i 1005 then 53 else i)))⟩
  refine AWp.exit ?_
  refine sN (pO rfl (pO rfl (dn (AWp.ret ?_))))
  subst h
  exact ⟨_, _, rfl, rfl, by decide, rfl⟩
end Go.Sim.YtlkpbnhinnhlfaaGreat
