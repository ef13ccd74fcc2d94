/- What is proved: functions of the program compute what plain statements tell. -/
import Derived.Test.YtlkpbnhinnhlfaaGreatZLFWE

namespace Go.Sim.YtlkpbnhinnhlfaaGreat
open Go.RowKit Go.Proofs Go.Proofs.Tryz
set_option maxRecDepth 100000
def W_law04_LinFrames (x1 : List (List Nat)) (Q : Bool → Prop) : Prop :=
 CallS (EvS_lin_Frame x1) fun x2 =>
 Call (Ev_law04_square x1) fun x3 =>
 Br (!x3) (
  Br (x2.2 == (1 : Int)) (Q (((x2.1.length : Nat) : Int) == (0 : Int))) (
   Q false)) (
  Br (x2.2 != (0 : Int)) (Q false) (
   Call (Ev_law04_square x2.1) fun x13 =>
   Br (!x13) (Q false) (
    Br (((x2.1.length : Nat) : Int) != ((x1.length : Nat) : Int)) (Q false) (
     Loop2 ([] : List (List Nat)) (0 : Int) (fun (x1676 : List (List Nat)) (x1677 : Int) next1678 =>
      Br (decide (x1677 < ((x2.1.length : Nat) : Int))) (
       Loop2 ([] : List Nat) (0 : Int) (fun (x2156 : List Nat) (x2157 : Int) next2158 =>
        Br (decide (x2157 < ((x2.1.length : Nat) : Int))) (
         At x2.1 x2157 fun x2191 =>
         At x2191 x1677 fun x2194 =>
         App 8 x2156 ([x2194]) fun x2196 =>
         At x2.1 x1677 fun x2210 =>
         At x2210 x2157 fun x2213 =>
         Br (FloatKind.f64.format.order x2213 (13835058055282163712 : Nat) == some .lt) (Q false) (
          At x2.1 x1677 fun x2216 =>
          At x2216 x2157 fun x2219 =>
          Br (FloatKind.f64.format.order x2219 (4611686018427387904 : Nat) == some .gt) (Q false) (
           Let (IntKind.i64.wrap (x2157 + (1 : Int))) fun x2221 =>
           next2158 x2196 x2221))) (
         App 24 x1676 ([x2156]) fun x2222 =>
         Let (IntKind.i64.wrap (x1677 + (1 : Int))) fun x2223 =>
         next1678 x2222 x2223))) (
       Call (Ev_ref04_Points x1676) fun x2228 =>
       Call (Ev_ref04_Points x2.1) fun x2230 =>
       Call (EvR_ref04_Mul x2228 x2230) fun x2232 =>
       Call (Ev_ref04_One ((x2.1.length : Nat) : Int)) fun x2235 =>
       Loop2 x2232 (0 : Int) (fun (x2912 : List (List GIval)) (x2913 : Int) next2914 =>
        Br (decide (x2913 < ((x2232.length : Nat) : Int))) (
         At x2912 x2913 fun x3026 =>
         Loop2 (List.set x2912 (Int.toNat x2913) x3026) (0 : Int) (fun (x3081 : List (List GIval)) (x3082 : Int) next3083 =>
          Br (decide (x3082 < ((x3026.length : Nat) : Int))) (
           At x3081 x2913 fun x3108 =>
           At x2235 x2913 fun x3114 =>
           At x3114 x3082 fun x3117 =>
           At x3108 x3082 fun x3123 =>
           Call (Ev_ref02_Sub x3117 x3123) fun x3125 =>
           At x3108 x3082 fun x3128 =>
           Let (IntKind.i64.wrap (x3082 + (1 : Int))) fun x3130 =>
           next3083 (List.set x3081 (Int.toNat x2913) (List.set x3108 (Int.toNat x3082) x3125)) x3130) (
           Let (IntKind.i64.wrap (x2913 + (1 : Int))) fun x3131 =>
           next2914 x3081 x3131))) (
         Call (Ev_ref04_Norm x2912) fun x3136 =>
         Call (Ev_math_Ldexp (4607182418800017408 : Nat) (-20 : Int)) fun x3138 =>
         Q ((FloatKind.f64.format.order x3136 x3138 == some .lt) || (FloatKind.f64.format.order x3136 x3138 == some .eq))))))))))
theorem walkS_law04_LinFrames {x1 : List (List Nat)} {R : Bool → Prop} (h : W_law04_LinFrames x1 R) : EvS_law04_LinFrames x1 R := by
  unfold W_law04_LinFrames at h
  refine AFnS.intro' (L := [(0, .dat (.sl 27 1 (List.map (eSl 28 1 (eFlt .f64)) x1)))]) tabOk Tryz.func3 rfl rfl Tryz.ntmps3 rfl rfl rfl ?_
  refine sN (pB rfl (dn (AWp.seq ?_)))
  refine AWp.regionL ?_
  refine NOps.split 1 (cf := (fun _ => false)) rfl ?_
  refine pS rfl (dn ?_)
  refine KN.callS h rfl rfl (fun _ h => h) rfl rfl rfl rfl ⟨.inl rfl, trivial⟩ fun x2 h => ?_
  refine NOps.tail (cf := (fun _ => false)) rfl rfl ?_
  refine pU rfl (pS rfl (pI rfl (pS rfl (pI rfl (dn (AWp.seq (AWp.seq (rN (pS rfl (kC h rfl ⟨.inl rfl, trivial⟩ rfl fun x3 h => ?_))))))))))
  refine pB rfl (dn (cB h (fun h => ?_) (fun h => ?_)))
  · refine sN (pI rfl (pB rfl (pB rfl (sB 23 h (fun h => ?_) (fun h => ?_)))))
    · refine pS rfl (al (((x2.1.length : Nat) : Int)) rfl (pB rfl (pB rfl (pB rfl (dn (AWp.ret ?_))))))
      exact ⟨_, rfl, _, h, rfl⟩
    refine fo 3 rfl (pB rfl (pB rfl (dn (AWp.ret ?_))))
    exact ⟨_, rfl, _, h, rfl⟩
  refine AWp.skip (AWp.seq (AWp.seq (rN (pI rfl (pB rfl (pB rfl (sB 30 h (fun h => ?_) (fun h => ?_))))))))
  · refine fo 3 rfl (pB rfl (pB rfl (fo 5 rfl (pB rfl (dn ?_)))))
    refine AWp.condT rfl ?_
    refine sN (pB rfl (dn (AWp.ret ?_)))
    exact ⟨_, rfl, _, h, rfl⟩
  refine pS rfl (kC h rfl ⟨.inl rfl, trivial⟩ rfl fun x13 h => ?_)
  refine pB rfl (pB rfl (pB rfl (sB 35 h (fun h => ?_) (fun h => ?_))))
  · refine fo 5 rfl (pB rfl (dn ?_))
    refine AWp.condT rfl ?_
    refine sN (pB rfl (dn (AWp.ret ?_)))
    exact ⟨_, rfl, _, h, rfl⟩
  refine pS rfl (al (((x2.1.length : Nat) : Int)) rfl (pS rfl (al (((x1.length : Nat) : Int)) rfl (pB rfl (pB rfl (dn (cB h (fun h => ?_) (fun h => ?_))))))))
  · refine sN (pB rfl (dn (AWp.ret ?_)))
    exact ⟨_, rfl, _, h, rfl⟩
  refine AWp.skip (AWp.seq (rN ?_))
  refine AOps.nilown tabOk rfl rfl rfl rfl rfl rfl ?_
  refine dn (AWp.seq (AWp.seq (rN (pS rfl (al (((x2.1.length : Nat) : Int)) rfl (pI rfl (dn (AWp.block ?_))))))))
  obtain ⟨I3144, x3145, hz3146, hr3147⟩ := h
  refine AWp.loop (I := fun p : (List (List Nat)) × Int => mkSt [(3, .dat (.sl 27 1 (List.map (eSl 28 1 (eFlt .f64)) x2.1))), (5, .oref 1005), (43, .dat (.v (.int .i64 ((x2.1.length : Nat) : Int)))), (44, .dat (.v (.int .i64 p.2)))] [(1005, .row 27 1 (List.map (eSl 28 1 (eFlt .f64)) p.1))]) (Inv := fun p => I3144 p.1 p.2) (μ := fun p => x3145 p.1 p.2) (x0 := ⟨([] : List (List Nat)), (0 : Int)⟩) hz3146 (slf (fun i => (if Nat.beq i 1005 then 5 else i))) (fun p hp => ?_)
  obtain ⟨x1676, x1677⟩ := p
  have h := hr3147 x1676 x1677 hp
  refine sN (pW rfl (dn (AWp.seq (cB h (fun h => ?_) (fun h => ?_)))))
  · refine AWp.skip (AWp.seq (AWp.block (AWp.seq (rN (pI rfl (pI rfl (dn (AWp.seq (rN ?_)))))))))
    refine AOps.nilown tabOk rfl rfl rfl rfl rfl rfl ?_
    refine dn (AWp.seq (AWp.seq (rN (pS rfl (al (((x2.1.length : Nat) : Int)) rfl (pI rfl (dn (AWp.block ?_))))))))
    obtain ⟨I2224, x2225, hz2226, hr2227⟩ := h
    refine AWp.loop (I := fun p : (List Nat) × Int => mkSt [(3, .dat (.sl 27 1 (List.map (eSl 28 1 (eFlt .f64)) x2.1))), (5, .oref 1005), (6, .dat (.v (.int .i64 x1677))), (7, .oref 1007), (43, .dat (.v (.int .i64 ((x2.1.length : Nat) : Int)))), (44, .dat (.v (.int .i64 x1677))), (48, .dat (.v (.int .i64 ((x2.1.length : Nat) : Int)))), (49, .dat (.v (.int .i64 p.2)))] [(1005, .row 27 1 (List.map (eSl 28 1 (eFlt .f64)) x1676)), (1007, .row 28 1 (List.map (eFlt .f64) p.1))]) (Inv := fun p => I2224 p.1 p.2) (μ := fun p => x2225 p.1 p.2) (x0 := ⟨([] : List Nat), (0 : Int)⟩) hz2226 (slf (fun i => (if Nat.beq i 1007 then 7 else i))) (fun p hp => ?_)
    obtain ⟨x2156, x2157⟩ := p
    have h := hr2227 x2156 x2157 hp
    refine sN (pW rfl (dn (AWp.seq (cB h (fun h => ?_) (fun h => ?_)))))
    · refine AWp.skip (AWp.seq (AWp.block (AWp.seq (rN (pI rfl (pI rfl (dn (AWp.seq (rW (pO rfl (pS rfl (pI rfl (kI h map_get rfl rfl rfl rfl rfl rfl rfl fun x2191 h => ?_)))))))))))))
      refine pS rfl (pI rfl (kI h map_get rfl rfl rfl rfl rfl rfl rfl fun x2194 h => ?_))
      refine pF rfl ?_
      refine AOps.lit tabOk (ys := [.v (.float .f64 x2194)]) rfl rfl rfl rfl rfl rfl ?_
      obtain ⟨h1, h2, x2196, ex2196, h⟩ := h.get
      refine AOps.append tabOk rfl rfl rfl rfl rfl rfl rfl rfl rfl rfl rfl (.inl ⟨_, rfl⟩) (app1 h1) (app2 h2) (app3 ex2196) ?_
      refine pO rfl (dn (AWp.seq (rN (pS rfl (pI rfl (kI h map_get rfl rfl rfl rfl rfl rfl rfl fun x2210 h => ?_))))))
      refine pS rfl (pI rfl (kI h map_get rfl rfl rfl rfl rfl rfl rfl fun x2213 h => ?_))
      refine pF rfl (pB rfl (pB rfl (sB 70 h (fun h => ?_) (fun h => ?_))))
      · refine fo 8 rfl (pB rfl (dn ?_))
        refine AWp.condT rfl ?_
        refine sN (pB rfl (dn (AWp.ret ?_)))
        exact ⟨_, rfl, _, h, rfl⟩
      refine pS rfl (pI rfl (kI h map_get rfl rfl rfl rfl rfl rfl rfl fun x2216 h => ?_))
      refine pS rfl (pI rfl (kI h map_get rfl rfl rfl rfl rfl rfl rfl fun x2219 h => ?_))
      refine pF rfl (pB rfl (pB rfl (dn (cB h (fun h => ?_) (fun h => ?_)))))
      · refine sN (pB rfl (dn (AWp.ret ?_)))
        exact ⟨_, rfl, _, h, rfl⟩
      refine AWp.skip (rN ?_)
      obtain ⟨x2221, ex2221, h⟩ := h.get
      refine ai ex2221 rfl (pI rfl (dn ?_))
      exact ⟨⟨x2196, x2221⟩, h.1, h.2, (slf (fun i => (if Nat.beq i 1007 then 61 else i)))⟩
    refine AWp.exit ?_
    refine AWp.freeze 7 1007 rfl rfl ?_
    refine rW (pO rfl (pS rfl ?_))
    refine AOps.lit tabOk (ys := [.sl 28 1 (List.map (eFlt .f64) x2156)]) rfl rfl rfl rfl rfl rfl ?_
    obtain ⟨h1, h2, x2222, ex2222, h⟩ := h.get
    refine AOps.append tabOk rfl rfl rfl rfl rfl rfl rfl rfl rfl rfl rfl (.inl ⟨_, rfl⟩) (app1 h1) (app2 h2) (app3 ex2222) ?_
    refine pO rfl (dn (rN ?_))
    obtain ⟨x2223, ex2223, h⟩ := h.get
    refine ai ex2223 rfl (pI rfl (dn ?_))
    exact ⟨⟨x2222, x2223⟩, h.1, h.2, (slf (fun i => (if Nat.beq i 1005 then 84 else i)))⟩
  refine AWp.exit ?_
  refine AWp.seq ?_
  refine AWp.freeze 5 1005 rfl rfl ?_
  refine rN (pS rfl (kC h rfl ⟨.inl rfl, trivial⟩ rfl fun x2228 h => ?_))
  refine pS rfl (kC h rfl ⟨.inl rfl, trivial⟩ rfl fun x2230 h => ?_)
  obtain ⟨x2232, hc2233, h⟩ := h
  refine AOps.callRR hc2233 rfl rfl rfl rfl ⟨.inl rfl, .inl rfl, trivial⟩ ?_
  refine pO rfl (dn (AWp.seq (rN (pS rfl (al (((x2.1.length : Nat) : Int)) rfl (kC h rfl ⟨.inl rfl, trivial⟩ rfl fun x2235 h => ?_))))))
  refine pS rfl (dn (AWp.seq (AWp.seq (rN (pO rfl (al (((x2232.length : Nat) : Int)) rfl (pI rfl (dn (AWp.block ?_)))))))))
  obtain ⟨I3140, x3141, hz3142, hr3143⟩ := h
  refine AWp.loop (I := fun p : (List (List GIval)) × Int => mkSt [(9, .oref 1009), (10, .dat (.sl 33 1 (List.map (eSl 35 2 GIval.enc) x2235))), (95, .dat (.v (.int .i64 ((x2232.length : Nat) : Int)))), (96, .dat (.v (.int .i64 p.2)))] [(1009, .rr 33 35 2 (List.map (List.map GIval.enc) p.1) [])]) (Inv := fun p => I3140 p.1 p.2) (μ := fun p => x3141 p.1 p.2) (x0 := ⟨x2232, (0 : Int)⟩) hz3142 (slf (fun i => (if Nat.beq i 1009 then 90 else i))) (fun p hp => ?_)
  obtain ⟨x2912, x2913⟩ := p
  have h := hr3143 x2912 x2913 hp
  refine sN (pW rfl (dn (AWp.seq (cB h (fun h => ?_) (fun h => ?_)))))
  · refine AWp.skip (AWp.seq (AWp.block (AWp.seq (rN (pI rfl (pI rfl (dn (AWp.seq ?_))))))))
    obtain ⟨hi3025, x3026, hx3027, h⟩ := h
    refine AWp.sub (Sub.lend (id := 1009) (d := 8027) (m := (Int.toNat x2913)) rfl rfl (mm_get hx3027) holeAt_nil) ?_
    refine rN (pO rfl (pI rfl ?_))
    refine AOps.idxrr tabOk rfl rfl rfl rfl rfl rfl rfl rfl hi3025 (mm_lt hi3025 hx3027) rfl ?_
    refine AOps.loadrr tabOk rfl rfl rfl rfl rfl rfl rfl (mm_lt2 hx3027) holeAt_hd ?_
    refine al (((x3026.length : Nat) : Int)) rfl (pI rfl (dn ?_))
    refine AWp.sub (Sub.unlend (id := 1009) (d := 8027) (m := (Int.toNat x2913)) rfl rfl holeAt_nil mm_set) ?_
    refine AWp.block ?_
    obtain ⟨I3132, x3133, hz3134, hr3135⟩ := h
    refine AWp.loop (I := fun p : (List (List GIval)) × Int => mkSt [(9, .oref 1009), (10, .dat (.sl 33 1 (List.map (eSl 35 2 GIval.enc) x2235))), (11, .dat (.v (.int .i64 x2913))), (95, .dat (.v (.int .i64 ((x2232.length : Nat) : Int)))), (96, .dat (.v (.int .i64 x2913))), (103, .dat (.v (.int .i64 ((x3026.length : Nat) : Int)))), (104, .dat (.v (.int .i64 p.2)))] [(1009, .rr 33 35 2 (List.map (List.map GIval.enc) p.1) [])]) (Inv := fun p => I3132 p.1 p.2) (μ := fun p => x3133 p.1 p.2) (x0 := ⟨(List.set x2912 (Int.toNat x2913) x3026), (0 : Int)⟩) hz3134 sl (fun p hp => ?_)
    obtain ⟨x3081, x3082⟩ := p
    have h := hr3135 x3081 x3082 hp
    refine sN (pW rfl (dn (AWp.seq (cB h (fun h => ?_) (fun h => ?_)))))
    · refine AWp.skip (AWp.seq (AWp.block (AWp.seq (rN (pI rfl (pI rfl (dn ?_)))))))
      obtain ⟨hi3107, x3108, hx3109, h⟩ := h
      refine AWp.sub (Sub.lend (id := 1009) (d := 8109) (m := (Int.toNat x2913)) rfl rfl (mm_get hx3109) holeAt_nil) ?_
      refine rE [(9, [1009]), (10, []), (11, []), (12, []), (107, [1009]), (108, []), (111, []), (112, []), (113, []), (116, []), (119, [1009]), (120, []), (123, [])] (pO rfl (pI rfl ?_))
      refine AOps.idxrr tabOk rfl rfl rfl rfl rfl rfl rfl rfl hi3107 (mm_lt hi3107 hx3109) rfl ?_
      refine AOps.loadrr tabOk rfl rfl rfl rfl rfl rfl rfl (mm_lt2 hx3109) holeAt_hd ?_
      refine pI rfl (pS rfl (pI rfl (kI h map_get rfl rfl rfl rfl rfl rfl rfl fun x3114 h => ?_)))
      refine pS rfl (pI rfl (kI h map_get rfl rfl rfl rfl rfl rfl rfl fun x3117 h => ?_))
      refine pT rfl (pO rfl (pI rfl ?_))
      refine AOps.idxrr tabOk rfl rfl rfl rfl rfl rfl rfl rfl hi3107 (mm_lt hi3107 hx3109) rfl ?_
      refine AOps.loadrr tabOk rfl rfl rfl rfl rfl rfl rfl (mm_lt2 hx3109) holeAt_hd ?_
      refine pI rfl ?_
      obtain ⟨hi3122, x3123, hx3124, h⟩ := h
      refine AOps.idxown tabOk rfl rfl rfl rfl rfl rfl rfl rfl hi3122 (map_lt hi3122 hx3124) rfl ?_
      refine AOps.loadrow tabOk rfl rfl rfl rfl rfl rfl rfl (map_get hx3124) rfl ?_
      refine kC h rfl ⟨.inl rfl, .inl rfl, trivial⟩ rfl fun x3125 h => ?_
      obtain ⟨hi3127, x3128, hx3129, h⟩ := h
      refine AOps.idxown tabOk rfl rfl rfl rfl rfl rfl rfl rfl hi3127 (map_lt hi3127 hx3129) rfl ?_
      refine AOps.storerow tabOk rfl rfl rfl rfl rfl rfl rfl rfl (map_lt2 hx3129) rfl rfl rfl (map_set1 (e := GIval.enc) (x := x3125)) ?_
      refine dn (AWp.sub (Sub.unlend (id := 1009) (d := 8109) (m := (Int.toNat x2913)) rfl rfl holeAt_nil mm_set) ?_)
      refine rN ?_
      obtain ⟨x3130, ex3130, h⟩ := h.get
      refine ai ex3130 rfl (pI rfl (dn ?_))
      exact ⟨⟨(List.set x3081 (Int.toNat x2913) (List.set x3108 (Int.toNat x3082) x3125)), x3130⟩, h.1, h.2, sl⟩
    refine AWp.exit ?_
    refine rN ?_
    obtain ⟨x3131, ex3131, h⟩ := h.get
    refine ai ex3131 rfl (pI rfl (dn ?_))
    exact ⟨⟨x3081, x3131⟩, h.1, h.2, sl⟩
  refine AWp.exit ?_
  refine AWp.seq ?_
  refine AWp.freezerr 9 1009 rfl rfl mm_sl ?_
  refine rN (pS rfl (kC h rfl ⟨.inl rfl, trivial⟩ rfl fun x3136 h => ?_))
  refine kC h rfl ⟨.inl rfl, .inl rfl, trivial⟩ rfl fun x3138 h => pB rfl ?_
  refine pB rfl (dn (AWp.ret ?_))
  exact ⟨_, rfl, _, h, rfl⟩
def W_ref02_Sub (x1 : GIval) (y2 : GIval) (Q : GIval → Prop) : Prop :=
 Call (Ev_ref02_Neg y2) fun x3 =>
 Call (Ev_ref02_Add x1 x3) fun x5 =>
 Q x5
theorem walk_ref02_Sub {x1 : GIval} {y2 : GIval} {r : GIval} (h : W_ref02_Sub x1 y2 (fun r' => r' = r)) : Ev_ref02_Sub x1 y2 r := by
  unfold W_ref02_Sub at h
  refine intr (L := [(0, .dat (GIval.enc x1)), (1, .dat (GIval.enc y2))]) Tryz.func10 Tryz.ntmps10 ?_
  refine sN (bx (v := .dat (.st _ _)) ?_)
  refine bx (v := .dat (.st _ _)) ?_
  refine al0 ?_
  refine dn (AWp.seq (rE [(2, [2]), (3, [3]), (4, [4])] (pT rfl (pT rfl (kC h rfl ⟨.inl rfl, trivial⟩ rfl fun x3 h => ?_)))))
  refine kC h rfl ⟨.inl rfl, .inl rfl, trivial⟩ rfl fun x5 h => st (v := .dat (.st _ _)) ?_
  subst h; exact dn (AWp.ret ⟨_, rfl, rfl⟩)
def W_lin_straight (x1 : List (List Nat)) (Q : Bool → Prop) : Prop :=
 Call (Ev_lin_floats x1) fun x2 =>
 Br (!x2) (Q false) (
  Call (EvR_lin_unit ((x1.length : Nat) : Int)) fun x5 =>
  Loop2 x5 (0 : Int) (fun (x646 : List (List Nat)) (x647 : Int) next648 =>
   Br (decide (x647 < ((x1.length : Nat) : Int))) (
    Loop2 x646 (0 : Int) (fun (x803 : List (List Nat)) (x804 : Int) next805 =>
     Br (decide (x804 < ((x1.length : Nat) : Int))) (
      At x803 x647 fun x830 =>
      At x1 x804 fun x836 =>
      At x836 x647 fun x839 =>
      At x830 x804 fun x842 =>
      At x1 x647 fun x845 =>
      At x845 x804 fun x848 =>
      Call (Ev_math_Abs x848) fun x850 =>
      Br (FloatKind.f64.format.order x850 (4611686018427387904 : Nat) == some .gt) (Q false) (
       Let (IntKind.i64.wrap (x804 + (1 : Int))) fun x852 =>
       next805 (List.set x803 (Int.toNat x647) (List.set x830 (Int.toNat x804) x839)) x852)) (
      Let (IntKind.i64.wrap (x647 + (1 : Int))) fun x853 =>
      next648 x803 x853))) (
    Call (Ev_lin_Points x646) fun x858 =>
    Call (Ev_lin_Points x1) fun x860 =>
    Call (Ev_lin_Mul x858 x860) fun x862 =>
    Call (Ev_lin_lessOne x862.1) fun x864 =>
    Call (Ev_lin_Norm x864) fun x866 =>
    Call (Ev_math_Ldexp (4607182418800017408 : Nat) (-20 : Int)) fun x868 =>
    Q ((FloatKind.f64.format.order x866.1 x868 == some .lt) || (FloatKind.f64.format.order x866.1 x868 == some .eq)))))
theorem walk_lin_straight {x1 : List (List Nat)} {r : Bool} (h : W_lin_straight x1 (fun r' => r' = r)) : Ev_lin_straight x1 r := by
  unfold W_lin_straight at h
  refine intr (L := [(0, .dat (.sl 27 1 (List.map (eSl 28 1 (eFlt .f64)) x1)))]) Tryz.func22 Tryz.ntmps22 ?_
  refine sN (pB rfl (dn (AWp.seq (AWp.seq (rN (pS rfl (kC h rfl ⟨.inl rfl, trivial⟩ rfl fun x2 h => ?_)))))))
  refine pB rfl (dn (cB h (fun h => ?_) (fun h => ?_)))
  · refine sN (pB rfl (dn (AWp.ret ?_)))
    subst h
    exact ⟨_, rfl, rfl⟩
  refine AWp.skip (AWp.seq (rN (pS rfl (al (((x1.length : Nat) : Int)) rfl ?_))))
  obtain ⟨x5, hc6, h⟩ := h
  refine AOps.callRR hc6 rfl rfl rfl rfl ⟨.inl rfl, trivial⟩ ?_
  refine pO rfl (dn (AWp.seq (AWp.seq (rN (pS rfl (al (((x1.length : Nat) : Int)) rfl (pI rfl (dn (AWp.block ?_)))))))))
  obtain ⟨I870, x871, hz872, hr873⟩ := h
  refine AWp.loop (I := fun p : (List (List Nat)) × Int => mkSt [(0, .dat (.sl 27 1 (List.map (eSl 28 1 (eFlt .f64)) x1))), (3, .oref 1003), (17, .dat (.v (.int .i64 ((x1.length : Nat) : Int)))), (18, .dat (.v (.int .i64 p.2)))] [(1003, .rr 27 28 1 (List.map (List.map (eFlt .f64)) p.1) [])]) (Inv := fun p => I870 p.1 p.2) (μ := fun p => x871 p.1 p.2) (x0 := ⟨x5, (0 : Int)⟩) hz872 (slf (fun i => (if Nat.beq i 1003 then 15 else i))) (fun p hp => ?_)
  obtain ⟨x646, x647⟩ := p
  have h := hr873 x646 x647 hp
  refine sN (pW rfl (dn (AWp.seq (cB h (fun h => ?_) (fun h => ?_)))))
  · refine AWp.skip (AWp.seq (AWp.block (AWp.seq (rN (pI rfl (pI rfl (dn (AWp.seq (rN (pS rfl (al (((x1.length : Nat) : Int)) rfl (pI rfl (dn (AWp.block ?_))))))))))))))
    obtain ⟨I854, x855, hz856, hr857⟩ := h
    refine AWp.loop (I := fun p : (List (List Nat)) × Int => mkSt [(0, .dat (.sl 27 1 (List.map (eSl 28 1 (eFlt .f64)) x1))), (3, .oref 1003), (4, .dat (.v (.int .i64 x647))), (17, .dat (.v (.int .i64 ((x1.length : Nat) : Int)))), (18, .dat (.v (.int .i64 x647))), (22, .dat (.v (.int .i64 ((x1.length : Nat) : Int)))), (23, .dat (.v (.int .i64 p.2)))] [(1003, .rr 27 28 1 (List.map (List.map (eFlt .f64)) p.1) [])]) (Inv := fun p => I854 p.1 p.2) (μ := fun p => x855 p.1 p.2) (x0 := ⟨x646, (0 : Int)⟩) hz856 sl (fun p hp => ?_)
    obtain ⟨x803, x804⟩ := p
    have h := hr857 x803 x804 hp
    refine sN (pW rfl (dn (AWp.seq (cB h (fun h => ?_) (fun h => ?_)))))
    · refine AWp.skip (AWp.seq (AWp.block (AWp.seq (rN (pI rfl (pI rfl (dn (AWp.seq ?_))))))))
      obtain ⟨hi829, x830, hx831, h⟩ := h
      refine AWp.sub (Sub.lend (id := 1003) (d := 5831) (m := (Int.toNat x647)) rfl rfl (mm_get hx831) holeAt_nil) ?_
      refine rE [(0, []), (3, [1003]), (4, []), (5, []), (26, [1003]), (27, []), (30, []), (31, []), (32, []), (35, [])] (pO rfl (pI rfl ?_))
      refine AOps.idxrr tabOk rfl rfl rfl rfl rfl rfl rfl rfl hi829 (mm_lt hi829 hx831) rfl ?_
      refine AOps.loadrr tabOk rfl rfl rfl rfl rfl rfl rfl (mm_lt2 hx831) holeAt_hd ?_
      refine pI rfl (pS rfl (pI rfl (kI h map_get rfl rfl rfl rfl rfl rfl rfl fun x836 h => ?_)))
      refine pS rfl (pI rfl (kI h map_get rfl rfl rfl rfl rfl rfl rfl fun x839 h => ?_))
      refine pF rfl ?_
      obtain ⟨hi841, x842, hx843, h⟩ := h
      refine AOps.idxown tabOk rfl rfl rfl rfl rfl rfl rfl rfl hi841 (map_lt hi841 hx843) rfl ?_
      refine AOps.storerow tabOk rfl rfl rfl rfl rfl rfl rfl rfl (map_lt2 hx843) rfl rfl rfl (map_set1 (e := (eFlt .f64)) (x := x839)) ?_
      refine dn (AWp.sub (Sub.unlend (id := 1003) (d := 5831) (m := (Int.toNat x647)) rfl rfl holeAt_nil mm_set) ?_)
      refine sN (pS rfl (pI rfl (kI h map_get rfl rfl rfl rfl rfl rfl rfl fun x845 h => ?_)))
      refine pS rfl (pI rfl (kI h map_get rfl rfl rfl rfl rfl rfl rfl fun x848 h => ?_))
      refine pF rfl (kC h rfl ⟨.inl rfl, trivial⟩ rfl fun x850 h => ?_)
      refine pB rfl (dn (cB h (fun h => ?_) (fun h => ?_)))
      · refine sN (pB rfl (dn (AWp.ret ?_)))
        subst h
        exact ⟨_, rfl, rfl⟩
      refine AWp.skip (rN ?_)
      obtain ⟨x852, ex852, h⟩ := h.get
      refine ai ex852 rfl (pI rfl (dn ?_))
      exact ⟨⟨(List.set x803 (Int.toNat x647) (List.set x830 (Int.toNat x804) x839)), x852⟩, h.1, h.2, sl⟩
    refine AWp.exit ?_
    refine rN ?_
    obtain ⟨x853, ex853, h⟩ := h.get
    refine ai ex853 rfl (pI rfl (dn ?_))
    exact ⟨⟨x803, x853⟩, h.1, h.2, sl⟩
  refine AWp.exit ?_
  refine AWp.seq ?_
  refine AWp.freezerr 3 1003 rfl rfl mm_sl ?_
  refine rN (pS rfl (kC h rfl ⟨.inl rfl, trivial⟩ rfl fun x858 h => ?_))
  refine pS rfl (kC h rfl ⟨.inl rfl, trivial⟩ rfl fun x860 h => ?_)
  refine kC h rfl ⟨.inl rfl, .inl rfl, trivial⟩ rfl fun x862 h => pU rfl ?_
  refine pS rfl (pI rfl (pS rfl (pI rfl (dn (AWp.seq (rN (pS rfl (kC h rfl ⟨.inl rfl, trivial⟩ rfl fun x864 h => ?_))))))))
  refine kC h rfl ⟨.inl rfl, trivial⟩ rfl fun x866 h => pU rfl ?_
  refine pF rfl (pI rfl (pF rfl (pI rfl (dn (AWp.seq (rN (pF rfl (kC h rfl ⟨.inl rfl, .inl rfl, trivial⟩ rfl fun x868 h => ?_))))))))
  refine pB rfl (pB rfl (dn (AWp.ret ?_)))
  subst h
  exact ⟨_, rfl, rfl⟩
def W_ref02_Neg (x1 : GIval) (Q : GIval → Prop) : Prop :=
 Call (Ev_ref02_None x1) fun x2 =>
 Br x2 (
  Call (Ev_ref02_Empty) fun x6 =>
  Q x6) (
  FOp .sub (0 : Nat) x1.Hi fun x8 =>
  FOp .sub (0 : Nat) x1.Lo fun x9 =>
  Call (Ev_ref02_Make x8 x9) fun x10 =>
  Q x10)
theorem walk_ref02_Neg {x1 : GIval} {r : GIval} (h : W_ref02_Neg x1 (fun r' => r' = r)) : Ev_ref02_Neg x1 r := by
  unfold W_ref02_Neg at h
  refine intr (L := [(0, .dat (GIval.enc x1))]) Tryz.func27 Tryz.ntmps27 ?_
  refine sN (bx (v := .dat (.st _ _)) ?_)
  refine al0 ?_
  refine dn (AWp.seq (AWp.seq (rN (pT rfl (kC h rfl ⟨.inl rfl, trivial⟩ rfl fun x2 h => ?_)))))
  refine dn (cB h (fun h => ?_) (fun h => ?_))
  · refine sW (kC h rfl trivial rfl fun x6 h => ?_)
    refine st (v := .dat (.st _ _)) ?_
    subst h; exact dn (AWp.ret ⟨_, rfl, rfl⟩)
  refine AWp.skip (AWp.seq (rW (pP rfl (pF rfl ?_))))
  obtain ⟨x8, hq, h⟩ := h
  refine AOps.v rfl rfl (Step.flt rfl rfl rfl hq) ?_
  refine pP rfl (pF rfl ?_)
  obtain ⟨x9, hq, h⟩ := h
  refine AOps.v rfl rfl (Step.flt rfl rfl rfl hq) ?_
  refine kC h rfl ⟨.inl rfl, .inl rfl, trivial⟩ rfl fun x10 h => st (v := .dat (.st _ _)) ?_
  subst h; exact dn (AWp.ret ⟨_, rfl, rfl⟩)
end Go.Sim.YtlkpbnhinnhlfaaGreat
