/- What is proved: functions of the program compute what plain statements tell. -/
import Derived.Test.YtlkpbnhinnhlfaaGreatZLFFltD

namespace Go.Sim.YtlkpbnhinnhlfaaGreat
open Go.RowKit Go.Proofs Go.Proofs.Tryz
set_option maxRecDepth 100000
def W_lin_column (a1 : List (List Unit)) (j2 : Int) (Q : (List Unit) × Unit → Prop) : Prop :=
 Loop2 ([] : List Unit) (0 : Int) (fun (v78 : List Unit) (x79 : Int) next80 =>
  Br (decide (x79 < ((a1.length : Nat) : Int))) (
   At a1 x79 fun x92 =>
   At x92 j2 fun x95 =>
   App 8 v78 ([()]) fun x97 =>
   At x92 j2 fun x99 =>
   Let (IntKind.i64.wrap (x79 + (1 : Int))) fun x101 =>
   next80 x97 x101) (
   Q (v78, ())))
theorem walk_lin_column {a1 : List (List Unit)} {j2 : Int} {r : (List Unit) × Unit} (h : W_lin_column a1 j2 (fun r' => r' = r)) : Ev_lin_column a1 j2 r := by
  unfold W_lin_column at h
  refine intr (L := [(0, .dat (.sl 27 1 (List.map (eSl 28 1 eBl) a1))), (1, .dat (.v (.int .i64 j2)))]) Tryz.func18 Tryz.ntmps18 ?_
  refine sN (pS rfl ?_)
  refine AOps.v rfl rfl (Step.mvU (.inr rfl) (fU_c rfl)) ?_
  refine dn (sN ?_)
  refine AOps.nilown tabOk rfl rfl rfl rfl rfl rfl ?_
  refine dn (sN ?_)
  refine AOps.v rfl rfl (Step.mvU (.inr rfl) (fU_c rfl)) ?_
  refine dn (AWp.seq (AWp.seq (rN (pS rfl (al (((a1.length : Nat) : Int)) rfl (pI rfl (dn (AWp.block ?_))))))))
  obtain ⟨I102, x103, hz104, hr105⟩ := h
  refine AWp.loop (I := fun p : (List Unit) × Int => mkSt [(1, .dat (.v (.int .i64 j2))), (6, .oref 1006), (7, .dat (.any anyF)), (10, .dat (.sl 27 1 (List.map (eSl 28 1 eBl) a1))), (11, .dat (.v (.int .i64 ((a1.length : Nat) : Int)))), (12, .dat (.v (.int .i64 p.2)))] [(1006, .row 28 1 (List.map eBl p.1))]) (Inv := fun p => I102 p.1 p.2) (μ := fun p => x103 p.1 p.2) (x0 := ⟨([] : List Unit), (0 : Int)⟩) hz104 (slf (fun i => (if Nat.beq i 1006 then 6 else i))) (fun p hp => ?_)
  obtain ⟨v78, x79⟩ := p
  have h := hr105 v78 x79 hp
  refine sN (pW rfl (dn (AWp.seq (cB h (fun h => ?_) (fun h => ?_)))))
  · refine AWp.skip (AWp.seq (AWp.block (AWp.seq (rN (kI h map_get rfl rfl rfl rfl rfl rfl rfl fun x92 h => ?_)))))
    refine pS rfl (pS rfl (dn (AWp.seq (rW (pO rfl (pS rfl (pI rfl (kI h map_get rfl rfl rfl rfl rfl rfl rfl fun x95 h => ?_))))))))
    refine pW rfl ?_
    refine AOps.lit tabOk (ys := [.any anyF]) rfl rfl rfl rfl rfl rfl ?_
    obtain ⟨h1, h2, x97, ex97, h⟩ := h.get
    refine AOps.append tabOk rfl rfl rfl rfl rfl rfl rfl rfl rfl rfl rfl (.inl ⟨_, rfl⟩) (app1 h1) (app2 h2) (app3 ex97) ?_
    refine pO rfl (dn (rN (pW rfl (pS rfl (pI rfl (kI h map_get rfl rfl rfl rfl rfl rfl rfl fun x99 h => ?_))))))
    refine pW rfl (ca any_math_Hypot rfl ⟨.inl rfl, .inl rfl, trivial⟩ rfl (pW rfl (dn (rN ?_))))
    obtain ⟨x101, ex101, h⟩ := h.get
    refine ai ex101 rfl (pI rfl (dn ?_))
    exact ⟨⟨x97, x101⟩, h.1, h.2, (slf (fun i => (if Nat.beq i 1006 then 22 else i)))⟩
  refine AWp.exit ?_
  refine sN (pO rfl (pW rfl (pO rfl (pW rfl (dn (AWp.ret ?_))))))
  subst h
  exact ⟨_, rfl, rfl⟩
def W_lin_scaled (v1 : List Unit) (l2 : Unit) (Q : List Unit → Prop) : Prop :=
 Mk 8 ((v1.length : Nat) : Int) () fun x4 =>
 Loop2 x4 (0 : Int) (fun (out56 : List Unit) (x57 : Int) next58 =>
  Br (decide (x57 < ((v1.length : Nat) : Int))) (
   At v1 x57 fun x66 =>
   At out56 x57 fun x69 =>
   Let (IntKind.i64.wrap (x57 + (1 : Int))) fun x71 =>
   next58 (List.set out56 (Int.toNat x57) ()) x71) (
   Q out56))
theorem walkO_lin_scaled {v1 : List Unit} {l2 : Unit} {r : List Unit} (h : W_lin_scaled v1 l2 (fun r' => r' = r)) : EvO_lin_scaled v1 l2 r := by
  unfold W_lin_scaled at h
  refine AFnO.intro' (L := [(0, .dat (.sl 28 1 (List.map eBl v1))), (1, .dat (.any anyF))]) (bareL_enc (fun _ => rfl) _) Tryz.func20 rfl rfl Tryz.ntmps20 rfl rfl rfl ?_
  refine sN (pS rfl (dn (AWp.seq (rN (pS rfl (al (((v1.length : Nat) : Int)) rfl ?_))))))
  obtain ⟨h1, h2, h3, x4, ex4, h⟩ := h.get
  refine AOps.makeownB tabOk rfl rfl rfl rfl rfl rfl rfl h1 h2 h3 rfl ex4 ?_
  refine pO rfl (dn (AWp.seq (AWp.seq (rN (pS rfl (al (((v1.length : Nat) : Int)) rfl (pI rfl (dn (AWp.block ?_)))))))))
  obtain ⟨I72, x73, hz74, hr75⟩ := h
  refine AWp.loop (I := fun p : (List Unit) × Int => mkSt [(0, .dat (.sl 28 1 (List.map eBl v1))), (1, .dat (.any anyF)), (5, .oref 1005), (11, .dat (.v (.int .i64 ((v1.length : Nat) : Int)))), (12, .dat (.v (.int .i64 p.2)))] [(1005, .row 28 1 (List.map eBl p.1))]) (Inv := fun p => I72 p.1 p.2) (μ := fun p => x73 p.1 p.2) (x0 := ⟨x4, (0 : Int)⟩) hz74 (slf (fun i => (if Nat.beq i 1005 then 9 else i))) (fun p hp => ?_)
  obtain ⟨out56, x57⟩ := p
  have h := hr75 out56 x57 hp
  refine sN (pW rfl (dn (AWp.seq (cB h (fun h => ?_) (fun h => ?_)))))
  · refine AWp.skip (AWp.seq (AWp.block (AWp.seq (rN (pI rfl (pI rfl (dn (rW (pO rfl (pI rfl (pS rfl (pI rfl (kI h map_get rfl rfl rfl rfl rfl rfl rfl fun x66 h => ?_)))))))))))))
    refine pW rfl (pW rfl ?_)
    refine AOps.v rfl rfl (Step.arU rfl (.inr (.inr (.inr rfl))) fU_any fU_any) ?_
    obtain ⟨hi68, x69, hx70, h⟩ := h
    refine AOps.idxown tabOk rfl rfl rfl rfl rfl rfl rfl rfl hi68 (map_lt hi68 hx70) rfl ?_
    refine AOps.storerow tabOk rfl rfl rfl rfl rfl rfl rfl rfl (map_lt2 hx70) rfl rfl rfl (map_set1 (e := eBl) (x := ())) ?_
    refine dn (rN ?_)
    obtain ⟨x71, ex71, h⟩ := h.get
    refine ai ex71 rfl (pI rfl (dn ?_))
    exact ⟨⟨(List.set out56 (Int.toNat x57) ()), x71⟩, h.1, h.2, sl⟩
  refine AWp.exit ?_
  refine sN (pO rfl (pO rfl (dn (AWp.ret ?_))))
  subst h
  exact ⟨_, _, rfl, rfl, by decide, rfl⟩
def W_lin_apart (x1 : List Unit) (x2 : List (List Unit)) (Q : (List Unit) × Bool → Prop) : Prop :=
 Mk 8 ((x1.length : Nat) : Int) () fun x4 =>
 SameL x4 x1 (
 Loop2 x1 (0 : Int) (fun (x2972 : List Unit) (x2973 : Int) next2974 =>
  Br (decide (x2973 < (2 : Int))) (
   Loop2 x2972 (0 : Int) (fun (x3711 : List Unit) (x3712 : Int) next3713 =>
    Br (decide (x3712 < ((x2.length : Nat) : Int))) (
     At x2 x3712 fun x3835 =>
     Loop1 (0 : Int) (fun (x3887 : Int) next3888 =>
      Br (decide (x3887 < ((x3711.length : Nat) : Int))) (
       At x3711 x3887 fun x3896 =>
       At x3835 x3887 fun x3899 =>
       Let (IntKind.i64.wrap (x3887 + (1 : Int))) fun x3901 =>
       next3888 x3901) (
       Loop2 x3711 (0 : Int) (fun (x3924 : List Unit) (x3925 : Int) next3926 =>
        Br (decide (x3925 < ((x3711.length : Nat) : Int))) (
         At x3924 x3925 fun x3937 =>
         At x3835 x3925 fun x3940 =>
         At x3924 x3925 fun x3943 =>
         Let (IntKind.i64.wrap (x3925 + (1 : Int))) fun x3945 =>
         next3926 (List.set x3924 (Int.toNat x3925) ()) x3945) (
         Let (IntKind.i64.wrap (x3712 + (1 : Int))) fun x3946 =>
         next3713 x3924 x3946))))) (
     Let (IntKind.i64.wrap (x2973 + (1 : Int))) fun x3955 =>
     next2974 x3711 x3955))) (
   Loop1 (0 : Int) (fun (x3992 : Int) next3993 =>
    Br (decide (x3992 < ((x2972.length : Nat) : Int))) (
     At x2972 x3992 fun x3998 =>
     Let (IntKind.i64.wrap (x3992 + (1 : Int))) fun x4000 =>
     next3993 x4000) (
     Both (
      Q (([] : List Unit), false)
     ) (
      Both (
       Q (([] : List Unit), false)) (
       Call (EvO_lin_scaled x2972 ()) fun x4001 =>
       Q (x4001, true))
     ))))))
theorem walkS_lin_apart {x1 : List Unit} {x2 : List (List Unit)} {R : (List Unit) × Bool → Prop} (h : W_lin_apart x1 x2 R) : EvS_lin_apart x1 x2 R := by
  unfold W_lin_apart at h
  refine AFnSF.intro' (L := [(0, .dat (.sl 28 1 (List.map eBl x1))), (1, .dat (.sl 27 1 (List.map (eSl 28 1 eBl) x2)))]) Tryz.func19 rfl rfl Tryz.ntmps19 rfl rfl rfl ?_
  refine sN (pS rfl (pB rfl (dn (AWp.seq (rN (pS rfl (al (((x1.length : Nat) : Int)) rfl ?_)))))))
  obtain ⟨h1, h2, h3, x4, ex4, h⟩ := h.get
  refine AOps.makeownB tabOk rfl rfl rfl rfl rfl rfl rfl h1 h2 h3 rfl ex4 ?_
  refine pO rfl (dn (AWp.seq (rW (pO rfl (pS rfl ?_)))))
  obtain ⟨hl5, h⟩ := h
  refine AOps.copy tabOk rfl rfl rfl rfl rfl rfl rfl rfl (.inl ⟨_, rfl⟩) (by simpa using hl5) (by rw [List.length_map]) ?_
  refine dn (AWp.seq (AWp.seq (rN (pI rfl (dn (AWp.block ?_))))))
  obtain ⟨I4007, x4008, hz4009, hr4010⟩ := h
  refine AWp.loop (I := fun p : (List Unit) × Int => mkSt [(1, .dat (.sl 27 1 (List.map (eSl 28 1 eBl) x2))), (6, .oref 1006), (21, .dat (.v (.int .i64 p.2)))] [(1006, .row 28 1 (List.map eBl p.1))]) (Inv := fun p => I4007 p.1 p.2) (μ := fun p => x4008 p.1 p.2) (x0 := ⟨x1, (0 : Int)⟩) hz4009 (slf (fun i => (if Nat.beq i 1006 then 17 else i))) (fun p hp => ?_)
  obtain ⟨x2972, x2973⟩ := p
  have h := hr4010 x2972 x2973 hp
  refine sN (pB rfl (dn (AWp.seq (cB h (fun h => ?_) (fun h => ?_)))))
  · refine AWp.skip (AWp.seq (AWp.block (AWp.seq (rN (pS rfl (al (((x2.length : Nat) : Int)) rfl (pI rfl (dn (AWp.block ?_)))))))))
    obtain ⟨I3956, x3957, hz3958, hr3959⟩ := h
    refine AWp.loop (I := fun p : (List Unit) × Int => mkSt [(1, .dat (.sl 27 1 (List.map (eSl 28 1 eBl) x2))), (6, .oref 1006), (21, .dat (.v (.int .i64 x2973))), (23, .dat (.sl 27 1 (List.map (eSl 28 1 eBl) x2))), (24, .dat (.v (.int .i64 ((x2.length : Nat) : Int)))), (25, .dat (.v (.int .i64 p.2)))] [(1006, .row 28 1 (List.map eBl p.1))]) (Inv := fun p => I3956 p.1 p.2) (μ := fun p => x3957 p.1 p.2) (x0 := ⟨x2972, (0 : Int)⟩) hz3958 sl (fun p hp => ?_)
    obtain ⟨x3711, x3712⟩ := p
    have h := hr3959 x3711 x3712 hp
    refine sN (pW rfl (dn (AWp.seq (cB h (fun h => ?_) (fun h => ?_)))))
    · refine AWp.skip (AWp.seq (AWp.block (AWp.seq (rN (kI h map_get rfl rfl rfl rfl rfl rfl rfl fun x3835 h => ?_)))))
      refine pS rfl (pS rfl (dn (AWp.seq (rN ?_))))
      refine AOps.v rfl rfl (Step.mvU (.inr rfl) (fU_c rfl)) ?_
      refine dn (AWp.seq (AWp.seq (rN (pO rfl (al (((x3711.length : Nat) : Int)) rfl (pI rfl (dn (AWp.block ?_))))))))
      obtain ⟨I3951, x3952, hz3953, hr3954⟩ := h
      refine AWp.loop (I := fun p : Int => mkSt [(1, .dat (.sl 27 1 (List.map (eSl 28 1 eBl) x2))), (6, .oref 1006), (8, .dat (.sl 28 1 (List.map eBl x3835))), (9, .dat (.any anyF)), (21, .dat (.v (.int .i64 x2973))), (23, .dat (.sl 27 1 (List.map (eSl 28 1 eBl) x2))), (24, .dat (.v (.int .i64 ((x2.length : Nat) : Int)))), (25, .dat (.v (.int .i64 x3712))), (30, .dat (.v (.int .i64 ((x3711.length : Nat) : Int)))), (31, .dat (.v (.int .i64 p)))] [(1006, .row 28 1 (List.map eBl x3711))]) (Inv := fun p => I3951 p) (μ := fun p => x3952 p) (x0 := (0 : Int)) hz3953 sl (fun p hp => ?_)
      have h := hr3954 p hp
      revert h; clear hp; generalize p = x3887; intro h
      refine sN (pW rfl (dn (AWp.seq (cB h (fun h => ?_) (fun h => ?_)))))
      · refine AWp.skip (AWp.seq (AWp.block (AWp.seq (rN (pI rfl (pI rfl (dn (rD (pW rfl (pO rfl (pI rfl ?_)))))))))))
        obtain ⟨hi3895, x3896, hx3897, h⟩ := h
        refine AOps.idxown tabOk rfl rfl rfl rfl rfl rfl rfl rfl hi3895 (map_lt hi3895 hx3897) rfl ?_
        refine AOps.loadrow tabOk rfl rfl rfl rfl rfl rfl rfl (map_get hx3897) rfl ?_
        refine pS rfl (pI rfl (kI h map_get rfl rfl rfl rfl rfl rfl rfl fun x3899 h => ?_))
        refine pW rfl ?_
        refine AOps.v rfl rfl (Step.arU rfl (.inr (.inr (.inl rfl))) fU_any fU_any) ?_
        refine AOps.v rfl rfl (Step.arU rfl (.inl rfl) fU_any fU_any) ?_
        refine pW rfl (dn (rN ?_))
        obtain ⟨x3901, ex3901, h⟩ := h.get
        refine ai ex3901 rfl (pI rfl (dn ?_))
        exact ⟨x3901, h.1, h.2, sl⟩
      refine AWp.exit ?_
      refine sN (pO rfl (al (((x3711.length : Nat) : Int)) rfl (pI rfl (dn (AWp.block ?_)))))
      obtain ⟨I3947, x3948, hz3949, hr3950⟩ := h
      refine AWp.loop (I := fun p : (List Unit) × Int => mkSt [(1, .dat (.sl 27 1 (List.map (eSl 28 1 eBl) x2))), (6, .oref 1006), (8, .dat (.sl 28 1 (List.map eBl x3835))), (9, .dat (.any anyF)), (21, .dat (.v (.int .i64 x2973))), (23, .dat (.sl 27 1 (List.map (eSl 28 1 eBl) x2))), (24, .dat (.v (.int .i64 ((x2.length : Nat) : Int)))), (25, .dat (.v (.int .i64 x3712))), (47, .dat (.v (.int .i64 ((x3711.length : Nat) : Int)))), (48, .dat (.v (.int .i64 p.2)))] [(1006, .row 28 1 (List.map eBl p.1))]) (Inv := fun p => I3947 p.1 p.2) (μ := fun p => x3948 p.1 p.2) (x0 := ⟨x3711, (0 : Int)⟩) hz3949 sl (fun p hp => ?_)
      obtain ⟨x3924, x3925⟩ := p
      have h := hr3950 x3924 x3925 hp
      refine sN (pW rfl (dn (AWp.seq (cB h (fun h => ?_) (fun h => ?_)))))
      · refine AWp.skip (AWp.seq (AWp.block (AWp.seq (rN (pI rfl (pI rfl (dn (rE [(6, [1006]), (8, []), (11, []), (51, [1006]), (52, []), (56, []), (57, [])] (pO rfl (pI rfl ?_))))))))))
        obtain ⟨hi3936, x3937, hx3938, h⟩ := h
        refine AOps.idxown tabOk rfl rfl rfl rfl rfl rfl rfl rfl hi3936 (map_lt hi3936 hx3938) rfl ?_
        refine AOps.loadrow tabOk rfl rfl rfl rfl rfl rfl rfl (map_get hx3938) rfl ?_
        refine pW rfl (pS rfl (pI rfl (kI h map_get rfl rfl rfl rfl rfl rfl rfl fun x3940 h => ?_)))
        refine pW rfl ?_
        refine AOps.v rfl rfl (Step.arU rfl (.inr (.inr (.inl rfl))) fU_any fU_any) ?_
        refine AOps.v rfl rfl (Step.arU rfl (.inr (.inl rfl)) fU_any fU_any) ?_
        obtain ⟨hi3942, x3943, hx3944, h⟩ := h
        refine AOps.idxown tabOk rfl rfl rfl rfl rfl rfl rfl rfl hi3942 (map_lt hi3942 hx3944) rfl ?_
        refine AOps.storerow tabOk rfl rfl rfl rfl rfl rfl rfl rfl (map_lt2 hx3944) rfl rfl rfl (map_set1 (e := eBl) (x := ())) ?_
        refine dn (rN ?_)
        obtain ⟨x3945, ex3945, h⟩ := h.get
        refine ai ex3945 rfl (pI rfl (dn ?_))
        exact ⟨⟨(List.set x3924 (Int.toNat x3925) ()), x3945⟩, h.1, h.2, sl⟩
      refine AWp.exit ?_
      refine rN ?_
      obtain ⟨x3946, ex3946, h⟩ := h.get
      refine ai ex3946 rfl (pI rfl (dn ?_))
      exact ⟨⟨x3924, x3946⟩, h.1, h.2, sl⟩
    refine AWp.exit ?_
    refine rN ?_
    obtain ⟨x3955, ex3955, h⟩ := h.get
    refine ai ex3955 rfl (pI rfl (dn ?_))
    exact ⟨⟨x3711, x3955⟩, h.1, h.2, sl⟩
  refine AWp.exit ?_
  refine sN ?_
  refine AOps.v rfl rfl (Step.mvU (.inr rfl) (fU_c rfl)) ?_
  refine dn (AWp.seq (AWp.seq (rN (pO rfl (al (((x2972.length : Nat) : Int)) rfl (pI rfl (dn (AWp.block ?_))))))))
  obtain ⟨I4003, x4004, hz4005, hr4006⟩ := h
  refine AWp.loop (I := fun p : Int => mkSt [(6, .oref 1006), (12, .dat (.any anyF)), (66, .oref 1006), (67, .dat (.v (.int .i64 ((x2972.length : Nat) : Int)))), (68, .dat (.v (.int .i64 p)))] [(1006, .row 28 1 (List.map eBl x2972))]) (Inv := fun p => I4003 p) (μ := fun p => x4004 p) (x0 := (0 : Int)) hz4005 sl (fun p hp => ?_)
  have h := hr4006 p hp
  revert h; clear hp; generalize p = x3992; intro h
  refine sN (pW rfl (dn (AWp.seq (cB h (fun h => ?_) (fun h => ?_)))))
  · refine AWp.skip (AWp.seq (AWp.block (AWp.seq (rN ?_))))
    obtain ⟨hi3997, x3998, hx3999, h⟩ := h
    refine AOps.idxown tabOk rfl rfl rfl rfl rfl rfl rfl rfl hi3997 (map_lt hi3997 hx3999) rfl ?_
    refine AOps.loadrow tabOk rfl rfl rfl rfl rfl rfl rfl (map_get hx3999) rfl ?_
    refine pW rfl (dn (rN (pW rfl (pW rfl (ca any_math_Hypot rfl ⟨.inl rfl, .inl rfl, trivial⟩ rfl (pW rfl (dn (rN ?_))))))))
    obtain ⟨x4000, ex4000, h⟩ := h.get
    refine ai ex4000 rfl (pI rfl (dn ?_))
    exact ⟨x4000, h.1, h.2, sl⟩
  refine AWp.exit ?_
  refine AWp.seq (AWp.seq ?_)
  refine AWp.regionL ?_
  refine NOps.split 4 (cf := (fun _ => false)) rfl ?_
  refine pW rfl ?_
  refine AOps.v rfl rfl (Step.cmpU rfl (.inr (.inr (.inr (.inr (.inl rfl))))) fU_any (fU_c rfl)) ?_
  refine AOps.v rfl rfl (Step.notU rfl rfl) ?_
  refine pW rfl (dn ?_)
  refine KN.both 79 rfl h (fun h => ?_) (fun h => ?_)
  · refine NOps.tail (cf := (fun _ => false)) rfl rfl ?_
    refine ff rfl (ff rfl (pB rfl (dn ?_)))
    refine AWp.condT rfl ?_
    refine sN (pS rfl (pB rfl (dn (AWp.ret ?_))))
    exact ⟨_, _, _, _, _, _, rfl, .inl ⟨rfl, rfl⟩, rfl, _, h, rfl⟩
  refine NOps.tail (cf := (fun _ => false)) rfl rfl ?_
  refine pW rfl (ca any_math_IsInf rfl ⟨.inl rfl, .inl rfl, trivial⟩ rfl (pW rfl (dn ?_)))
  refine AWp.condU rfl ?_ ?_
  · replace h := h.1
    refine sN (pS rfl (pB rfl (dn (AWp.ret ?_))))
    exact ⟨_, _, _, _, _, _, rfl, .inl ⟨rfl, rfl⟩, rfl, _, h, rfl⟩
  replace h := h.2
  refine AWp.skip (AWp.seq ?_)
  refine AWp.regionN (fun o => writesB [20] o) rfl ?_
  refine pO rfl (pW rfl ?_)
  obtain ⟨x4001, hc4002, h⟩ := h
  refine AOps.callO hc4002 0 rfl rfl rfl rfl rfl ⟨.inr (.inr ⟨rfl, _, _, _, _, rfl, rfl, rfl⟩), .inl rfl, trivial⟩ rfl rfl rfl ?_
  refine pO rfl (pB rfl (dn (AWp.ret ?_)))
  exact ⟨_, _, _, _, _, _, rfl, .inr ⟨_, rfl, by decide, bareL_enc (fun _ => rfl) _, rfl⟩, rfl, _, h, rfl⟩
def W_lin_Frame (x1 : List (List Nat)) (Q : (List (List Nat)) × Int → Prop) : Prop :=
 Call (Ev_lin_floats x1) fun x9 =>
 Br (!x9) (Q (([] : List (List Nat)), (1 : Int))) (
  At x1 (0 : Int) fun x13 =>
  Br (((x1.length : Nat) : Int) != ((x13.length : Nat) : Int)) (Q (([] : List (List Nat)), (1 : Int))) (
   Fog x1 fun x16 =>
   Loop2 ([] : List Int) (0 : Int) (fun (x386 : List Int) (x387 : Int) next388 =>
    Br (decide (x387 < ((x16.length : Nat) : Int))) (
     Call (Ev_lin_column x16 x387) fun x448 =>
     Join1 (fun j474 =>
      Loop1 ((x386.length : Nat) : Int) (fun (x484 : Int) next485 =>
       Br (decide (x484 > (0 : Int))) (
        Let (IntKind.i64.wrap (x484 - (1 : Int))) fun x486 =>
        At x386 x486 fun x488 =>
        Call (Ev_lin_column x16 x488) fun x490 =>
        Both (
         j474 x484) (
         Let (IntKind.i64.wrap (x484 - (1 : Int))) fun x492 =>
         next485 x492)) (
        j474 x484))
     ) (fun (x473 : Int) =>
      Cut x386 0 x473 (
      Cut x386 x473 ((x386.length : Nat) : Int) (
      App 8 ([x387]) (List.drop (Int.toNat x473) x386) fun x503 =>
      App 8 (List.take (Int.toNat x473) x386) x503 fun x504 =>
      Let (IntKind.i64.wrap (x387 + (1 : Int))) fun x505 =>
      next388 x504 x505)))) (
     Loop2 ([] : List (List Unit)) (0 : Int) (fun (x582 : List (List Unit)) (x583 : Int) next584 =>
      Br (decide (x583 < ((x386.length : Nat) : Int))) (
       At x386 x583 fun x595 =>
       Call (Ev_lin_column x16 x595) fun x597 =>
       Call (Ev_lin_scaled x597.1 x597.2) fun x599 =>
       CallS (EvS_lin_apart x599 x582) fun x601 =>
       Br x601.2 (
        App 24 x582 ([x601.1]) fun x602 =>
        Let (IntKind.i64.wrap (x583 + (1 : Int))) fun x603 =>
        next584 x602 x603) (
        Let (IntKind.i64.wrap (x583 + (1 : Int))) fun x604 =>
        next584 x582 x604)) (
       Call (EvB_lin_unit ((x16.length : Nat) : Int)) fun x605 =>
       Loop2 x582 (0 : Int) (fun (x670 : List (List Unit)) (x671 : Int) next672 =>
        Br (decide (x671 < ((x605.length : Nat) : Int))) (
         At x605 x671 fun x681 =>
         CallS (EvS_lin_apart x681 x670) fun x683 =>
         Br x683.2 (
          Br (decide (((x670.length : Nat) : Int) < ((x16.length : Nat) : Int))) (
           App 24 x670 ([x683.1]) fun x686 =>
           Let (IntKind.i64.wrap (x671 + (1 : Int))) fun x687 =>
           next672 x686 x687) (
           Let (IntKind.i64.wrap (x671 + (1 : Int))) fun x688 =>
           next672 x670 x688)) (
          Let (IntKind.i64.wrap (x671 + (1 : Int))) fun x689 =>
          next672 x670 x689)) (
         Call (EvU_lin_unit ((x16.length : Nat) : Int)) fun x690 =>
         Loop2 x690 (0 : Int) (fun (x1093 : List (List Unit)) (x1094 : Int) next1095 =>
          Br (decide (x1094 < ((x670.length : Nat) : Int))) (
           At x670 x1094 fun x1161 =>
           Loop2 x1093 (0 : Int) (fun (x1192 : List (List Unit)) (x1193 : Int) next1194 =>
            Br (decide (x1193 < ((x1161.length : Nat) : Int))) (
             At x1192 x1193 fun x1208 =>
             At x1161 x1193 fun x1214 =>
             At x1208 x1094 fun x1217 =>
             Let (IntKind.i64.wrap (x1193 + (1 : Int))) fun x1219 =>
             next1194 (List.set x1192 (Int.toNat x1193) (List.set x1208 (Int.toNat x1094) ())) x1219) (
             Let (IntKind.i64.wrap (x1094 + (1 : Int))) fun x1220 =>
             next1095 x1192 x1220))) (
           Find x1093 fun r1225 =>
           Join1 (fun j1230 =>
            Call (Ev_lin_straight r1225) fun x1231 =>
            Br (!x1231) (j1230 true) (
             j1230 (((x670.length : Nat) : Int) != ((x16.length : Nat) : Int)))
           ) (fun (x1229 : Bool) =>
            Br x1229 (
             Call (Ev_lin_unit ((x16.length : Nat) : Int)) fun x1236 =>
             Q (x1236, (0 : Int))) (
             Q (r1225, (0 : Int))))))))))))))
theorem walkS_lin_Frame {x1 : List (List Nat)} {R : (List (List Nat)) × Int → Prop} (h : W_lin_Frame x1 R) : EvS_lin_Frame x1 R := by
  unfold W_lin_Frame at h
  refine AFnS.intro' (L := [(0, .dat (.sl 27 1 (List.map (eSl 28 1 (eFlt .f64)) x1)))]) tabOk Tryz.func5 rfl rfl Tryz.ntmps5 rfl rfl rfl ?_
  refine sN (pS rfl (pI rfl (dn (AWp.seq (AWp.seq (rN (pS rfl (kC h rfl ⟨.inl rfl, trivial⟩ rfl fun x9 h => ?_))))))))
  refine pB rfl (pB rfl (sB 30 h (fun h => ?_) (fun h => ?_)))
  · refine fo 7 rfl (pB rfl (dn ?_))
    refine AWp.condT rfl ?_
    refine sN (pS rfl (pI rfl (dn (AWp.ret ?_))))
    exact ⟨_, rfl, _, h, rfl⟩
  refine pS rfl (al (((x1.length : Nat) : Int)) rfl (pS rfl (kI h map_get rfl rfl rfl rfl rfl rfl rfl fun x13 h => ?_)))
  refine pS rfl (al (((x13.length : Nat) : Int)) rfl (pB rfl (pB rfl (dn (cB h (fun h => ?_) (fun h => ?_))))))
  · refine sN (pS rfl (pI rfl (dn (AWp.ret ?_))))
    exact ⟨_, rfl, _, h, rfl⟩
  refine AWp.skip (AWp.seq ?_)
  refine AWp.fogM 0 rfl h fun x16 h => ?_
  refine rN (pS rfl (al (((x16.length : Nat) : Int)) rfl (pI rfl (dn (AWp.seq (rN ?_))))))
  refine AOps.nilown tabOk rfl rfl rfl rfl rfl rfl ?_
  refine dn (AWp.seq (AWp.seq (rN (pI rfl (pI rfl (dn (AWp.block ?_)))))))
  obtain ⟨I1252, x1253, hz1254, hr1255⟩ := h
  refine AWp.loop (I := fun p : (List Int) × Int => mkSt [(0, .dat (.sl 27 1 (List.map (eSl 28 1 eBl) x16))), (4, .dat (.v (.int .i64 ((x16.length : Nat) : Int)))), (5, .oref 1005), (41, .dat (.v (.int .i64 ((x16.length : Nat) : Int)))), (42, .dat (.v (.int .i64 p.2)))] [(1005, .row 3 1 (List.map (eInt .i64) p.1))]) (Inv := fun p => I1252 p.1 p.2) (μ := fun p => x1253 p.1 p.2) (x0 := ⟨([] : List Int), (0 : Int)⟩) hz1254 (slf (fun i => (if Nat.beq i 1005 then 5 else i))) (fun p hp => ?_)
  obtain ⟨x386, x387⟩ := p
  have h := hr1255 x386 x387 hp
  refine sN (pB rfl (dn (AWp.seq (cB h (fun h => ?_) (fun h => ?_)))))
  · refine AWp.skip (AWp.seq (AWp.block (AWp.seq (rN (pI rfl (pI rfl (dn (AWp.seq (rN (pS rfl (pI rfl (kC h rfl ⟨.inl rfl, .inl rfl, trivial⟩ rfl fun x448 h => ?_))))))))))))
    refine pU rfl (pS rfl (pW rfl (pS rfl (pW rfl (dn (AWp.seq (rN (pO rfl (al (((x386.length : Nat) : Int)) rfl (pI rfl (dn (AWp.seq ?_))))))))))))
    obtain ⟨J506, h, hk507⟩ := h
    refine AWp.cutK (I := fun p : Int => mkSt [(0, .dat (.sl 27 1 (List.map (eSl 28 1 eBl) x16))), (4, .dat (.v (.int .i64 ((x16.length : Nat) : Int)))), (5, .oref 1005), (6, .dat (.v (.int .i64 x387))), (9, .dat (.v (.int .i64 p))), (41, .dat (.v (.int .i64 ((x16.length : Nat) : Int)))), (42, .dat (.v (.int .i64 x387)))] [(1005, .row 3 1 (List.map (eInt .i64) x386))]) (Inv := fun p : Int => J506 p) ?_ (fun p hp => ?_)
    · refine AWp.block ?_
      obtain ⟨I493, x494, hz495, hr496⟩ := h
      refine AWp.loop (I := fun p : Int => mkSt [(0, .dat (.sl 27 1 (List.map (eSl 28 1 eBl) x16))), (4, .dat (.v (.int .i64 ((x16.length : Nat) : Int)))), (5, .oref 1005), (6, .dat (.v (.int .i64 x387))), (8, .dat (.any anyF)), (9, .dat (.v (.int .i64 p))), (41, .dat (.v (.int .i64 ((x16.length : Nat) : Int)))), (42, .dat (.v (.int .i64 x387)))] [(1005, .row 3 1 (List.map (eInt .i64) x386))]) (Inv := fun p => I493 p) (μ := fun p => x494 p) (x0 := ((x386.length : Nat) : Int)) hz495 sl (fun p hp => ?_)
      have h := hr496 p hp
      revert h; clear hp; generalize p = x484; intro h
      refine AWp.seq (AWp.seq (rN (pI rfl (pB rfl (dn (cB h (fun h => ?_) (fun h => ?_)))))))
      · refine AWp.skip (AWp.block (AWp.seq (AWp.seq (rN (pS rfl (pO rfl (pI rfl ?_)))))))
        obtain ⟨x486, ex486, h⟩ := h.get
        refine ai ex486 rfl ?_
        obtain ⟨hi487, x488, hx489, h⟩ := h
        refine AOps.idxown tabOk rfl rfl rfl rfl rfl rfl rfl rfl hi487 (map_lt hi487 hx489) rfl ?_
        refine AOps.loadrow tabOk rfl rfl rfl rfl rfl rfl rfl (map_get hx489) rfl ?_
        refine kC h rfl ⟨.inl rfl, .inl rfl, trivial⟩ rfl fun x490 h => pU rfl ?_
        refine pS rfl (pW rfl (pS rfl (pW rfl (dn (AWp.seq (rN (pW rfl (pW rfl ?_))))))))
        refine AOps.v rfl rfl (Step.cmpU rfl (.inr (.inr (.inr (.inr (.inr rfl))))) fU_any fU_any) ?_
        refine dn (AWp.condU rfl ?_ ?_)
        · replace h := h.1
          refine AWp.exit ?_
          exact ⟨x484, h, sl⟩
        replace h := h.2
        refine AWp.skip (rN (pI rfl ?_))
        obtain ⟨x492, ex492, h⟩ := h.get
        refine ai ex492 rfl (pI rfl (dn ?_))
        exact ⟨x492, h.1, h.2, sl⟩
      refine AWp.exit ?_
      exact ⟨x484, h, sl⟩
    replace h := hk507 p hp
    revert h; clear hp; generalize p = x473; intro h
    refine rE [(5, [79, 1005]), (9, []), (70, [79, 1005]), (71, []), (72, [79, 1005]), (74, [74]), (75, [79, 1005]), (76, []), (77, [79, 1005]), (78, [78]), (79, [79])] (pO rfl (pI rfl ?_))
    obtain ⟨ha497, hb498, hc499, h⟩ := h
    refine AOps.view tabOk (l := Int.toNat 0) (h := Int.toNat x473) rfl rfl rfl rfl rfl rfl rfl rfl ⟨_, view_int (Int.le_trans ha497 hb498)⟩ (view_m hb498) (view_le hc499) ?_
    refine pI rfl ?_
    refine AOps.litown tabOk (ys := [.v (.int .i64 x387)]) rfl rfl rfl rfl rfl rfl rfl rfl ?_
    refine pO rfl (pI rfl ?_)
    obtain ⟨ha500, hb501, hc502, h⟩ := h
    refine AOps.view tabOk (l := Int.toNat x473) (h := Int.toNat ((x386.length : Nat) : Int)) rfl rfl rfl rfl rfl rfl rfl ⟨_, view_int ha500⟩ (view_len _ _) (view_m hb501) (view_le hc502) ?_
    obtain ⟨h1, h2, x503, ex503, h⟩ := h.get
    refine AOps.appendV tabOk rfl rfl rfl rfl rfl rfl rfl (.inl ⟨rfl, rfl⟩) rfl rfl (.inr ⟨_, _, _, _, _, rfl, rfl, (view_m hb501), view_full _ _, view_tail _ _ _⟩) (app1 (e := (eInt .i64)) h1) (app2 (e := (eInt .i64)) h2) (app3 (e := (eInt .i64)) ex503) ?_
    obtain ⟨h1, h2, x504, ex504, h⟩ := h.get
    refine AOps.appendV tabOk rfl rfl rfl rfl rfl rfl rfl (.inr ⟨_, _, rfl, rfl, (view_le hc499), view_head _ _ _⟩) rfl rfl (.inl (.inr ⟨_, _, rfl, rfl⟩)) (app1 (e := (eInt .i64)) h1) (app2 (e := (eInt .i64)) h2) (app3 (e := (eInt .i64)) ex504) ?_
    refine pO rfl (dn (rN ?_))
    obtain ⟨x505, ex505, h⟩ := h.get
    refine ai ex505 rfl (pI rfl (dn ?_))
    exact ⟨⟨x504, x505⟩, h.1, h.2, (slf (fun i => (if Nat.beq i 1005 then 79 else i)))⟩
  refine AWp.exit ?_
  refine sN ?_
  refine AOps.nilown tabOk rfl rfl rfl rfl rfl rfl ?_
  refine dn (AWp.seq (AWp.seq (rN (pO rfl (al (((x386.length : Nat) : Int)) rfl (pI rfl (dn (AWp.block ?_))))))))
  obtain ⟨I1248, x1249, hz1250, hr1251⟩ := h
  refine AWp.loop (I := fun p : (List (List Unit)) × Int => mkSt [(0, .dat (.sl 27 1 (List.map (eSl 28 1 eBl) x16))), (4, .dat (.v (.int .i64 ((x16.length : Nat) : Int)))), (12, .oref 1012), (81, .oref 1081), (82, .dat (.v (.int .i64 ((x386.length : Nat) : Int)))), (83, .dat (.v (.int .i64 p.2)))] [(1012, .row 27 1 (List.map (eSl 28 1 eBl) p.1)), (1081, .row 3 1 (List.map (eInt .i64) x386))]) (Inv := fun p => I1248 p.1 p.2) (μ := fun p => x1249 p.1 p.2) (x0 := ⟨([] : List (List Unit)), (0 : Int)⟩) hz1250 (slf (fun i => (if Nat.beq i 1081 then 1005 else (if Nat.beq i 1012 then 12 else i)))) (fun p hp => ?_)
  obtain ⟨x582, x583⟩ := p
  have h := hr1251 x582 x583 hp
  refine sN (pW rfl (dn (AWp.seq (cB h (fun h => ?_) (fun h => ?_)))))
  · refine AWp.skip (AWp.seq (AWp.block (AWp.seq (rN ?_))))
    obtain ⟨hi594, x595, hx596, h⟩ := h
    refine AOps.idxown tabOk rfl rfl rfl rfl rfl rfl rfl rfl hi594 (map_lt hi594 hx596) rfl ?_
    refine AOps.loadrow tabOk rfl rfl rfl rfl rfl rfl rfl (map_get hx596) rfl ?_
    refine pI rfl (dn (AWp.seq (rN (pS rfl (pI rfl (kC h rfl ⟨.inl rfl, .inl rfl, trivial⟩ rfl fun x597 h => ?_))))))
    refine pU rfl (pS rfl (pW rfl (pS rfl (pW rfl (dn (AWp.seq ?_))))))
    refine AWp.regionL ?_
    refine NOps.split 4 (cf := (fun _ => false)) rfl ?_
    refine pS rfl (pW rfl (kC h rfl ⟨.inl rfl, .inl rfl, trivial⟩ rfl fun x599 h => ?_))
    refine pO rfl (dn ?_)
    refine KN.callSF h rfl rfl (fun _ h => h) rfl rfl rfl rfl ⟨.inl rfl, .inr (.inr ⟨rfl, _, _, _, _, rfl, rfl, rfl⟩), trivial⟩ fun x601 h => ?_
    refine NOps.tail (cf := (fun _ => false)) rfl rfl ?_
    refine pU rfl (pS rfl (pB rfl (pS rfl (pB rfl (dn (AWp.seq (rN (pB rfl (dn (cB h (fun h => ?_) (fun h => ?_)))))))))))
    · refine rW (pO rfl (pS rfl ?_))
      refine AOps.lit tabOk (ys := [.sl 28 1 (List.map eBl x601.1)]) rfl rfl rfl rfl rfl rfl ?_
      obtain ⟨h1, h2, x602, ex602, h⟩ := h.get
      refine AOps.append tabOk rfl rfl rfl rfl rfl rfl rfl rfl rfl rfl rfl (.inl ⟨_, rfl⟩) (app1 h1) (app2 h2) (app3 ex602) ?_
      refine pO rfl (dn (rN ?_))
      obtain ⟨x603, ex603, h⟩ := h.get
      refine ai ex603 rfl (pI rfl (dn ?_))
      exact ⟨⟨x602, x603⟩, h.1, h.2, (slf (fun i => (if Nat.beq i 1012 then 105 else i)))⟩
    refine AWp.skip (rN ?_)
    obtain ⟨x604, ex604, h⟩ := h.get
    refine ai ex604 rfl (pI rfl (dn ?_))
    exact ⟨⟨x582, x604⟩, h.1, h.2, sl⟩
  refine AWp.exit ?_
  refine AWp.seq (AWp.seq (rN (pI rfl (kC h rfl ⟨.inl rfl, trivial⟩ rfl fun x605 h => ?_))))
  refine al (((x605.length : Nat) : Int)) rfl (pI rfl (dn (AWp.block ?_)))
  obtain ⟨I1244, x1245, hz1246, hr1247⟩ := h
  refine AWp.loop (I := fun p : (List (List Unit)) × Int => mkSt [(4, .dat (.v (.int .i64 ((x16.length : Nat) : Int)))), (12, .oref 1012), (108, .dat (.sl 27 1 (List.map (eSl 28 1 eBl) x605))), (109, .dat (.v (.int .i64 ((x605.length : Nat) : Int)))), (110, .dat (.v (.int .i64 p.2)))] [(1012, .row 27 1 (List.map (eSl 28 1 eBl) p.1))]) (Inv := fun p => I1244 p.1 p.2) (μ := fun p => x1245 p.1 p.2) (x0 := ⟨x582, (0 : Int)⟩) hz1246 sl (fun p hp => ?_)
  obtain ⟨x670, x671⟩ := p
  have h := hr1247 x670 x671 hp
  refine sN (pW rfl (dn (AWp.seq (cB h (fun h => ?_) (fun h => ?_)))))
  · refine AWp.skip (AWp.seq (AWp.block (AWp.seq (rN (kI h map_get rfl rfl rfl rfl rfl rfl rfl fun x681 h => ?_)))))
    refine pS rfl (pS rfl (dn (AWp.seq ?_)))
    refine AWp.regionL ?_
    refine NOps.split 2 (cf := (fun _ => false)) rfl ?_
    refine pS rfl (pO rfl (dn ?_))
    refine KN.callSF h rfl rfl (fun _ h => h) rfl rfl rfl rfl ⟨.inl rfl, .inr (.inr ⟨rfl, _, _, _, _, rfl, rfl, rfl⟩), trivial⟩ fun x683 h => ?_
    refine NOps.tail (cf := (fun _ => false)) rfl rfl ?_
    refine pU rfl (pS rfl (pB rfl (pS rfl (pB rfl (dn (AWp.seq (rN (pB rfl (pB rfl (sB 121 h (fun h => ?_) (fun h => ?_)))))))))))
    · refine pO rfl (al (((x670.length : Nat) : Int)) rfl (pI rfl (pB rfl (pB rfl (dn (cB h (fun h => ?_) (fun h => ?_)))))))
      · refine rW (pO rfl (pS rfl ?_))
        refine AOps.lit tabOk (ys := [.sl 28 1 (List.map eBl x683.1)]) rfl rfl rfl rfl rfl rfl ?_
        obtain ⟨h1, h2, x686, ex686, h⟩ := h.get
        refine AOps.append tabOk rfl rfl rfl rfl rfl rfl rfl rfl rfl rfl rfl (.inl ⟨_, rfl⟩) (app1 h1) (app2 h2) (app3 ex686) ?_
        refine pO rfl (dn (rN ?_))
        obtain ⟨x687, ex687, h⟩ := h.get
        refine ai ex687 rfl (pI rfl (dn ?_))
        exact ⟨⟨x686, x687⟩, h.1, h.2, (slf (fun i => (if Nat.beq i 1012 then 130 else i)))⟩
      refine AWp.skip (rN ?_)
      obtain ⟨x688, ex688, h⟩ := h.get
      refine ai ex688 rfl (pI rfl (dn ?_))
      exact ⟨⟨x670, x688⟩, h.1, h.2, sl⟩
    refine fo 4 rfl (pB rfl (dn ?_))
    refine AWp.condF rfl ?_
    refine AWp.skip (rN ?_)
    obtain ⟨x689, ex689, h⟩ := h.get
    refine ai ex689 rfl (pI rfl (dn ?_))
    exact ⟨⟨x670, x689⟩, h.1, h.2, sl⟩
  refine AWp.exit ?_
  refine sN (pI rfl ?_)
  obtain ⟨x690, hc691, h⟩ := h
  refine AOps.callRR hc691 rfl rfl rfl rfl ⟨.inl rfl, trivial⟩ ?_
  refine pO rfl (dn (AWp.seq (AWp.seq (rN (pO rfl (al (((x670.length : Nat) : Int)) rfl (pI rfl (dn (AWp.block ?_)))))))))
  obtain ⟨I1240, x1241, hz1242, hr1243⟩ := h
  refine AWp.loop (I := fun p : (List (List Unit)) × Int => mkSt [(4, .dat (.v (.int .i64 ((x16.length : Nat) : Int)))), (12, .oref 1012), (23, .oref 1023), (134, .oref 1012), (135, .dat (.v (.int .i64 ((x670.length : Nat) : Int)))), (136, .dat (.v (.int .i64 p.2)))] [(1012, .row 27 1 (List.map (eSl 28 1 eBl) x670)), (1023, .rr 27 28 1 (List.map (List.map eBl) p.1) [])]) (Inv := fun p => I1240 p.1 p.2) (μ := fun p => x1241 p.1 p.2) (x0 := ⟨x690, (0 : Int)⟩) hz1242 (slf (fun i => (if Nat.beq i 1023 then 133 else i))) (fun p hp => ?_)
  obtain ⟨x1093, x1094⟩ := p
  have h := hr1243 x1093 x1094 hp
  refine sN (pW rfl (dn (AWp.seq (cB h (fun h => ?_) (fun h => ?_)))))
  · refine AWp.skip (AWp.seq (AWp.block (AWp.seq (rN (pI rfl ?_)))))
    obtain ⟨hi1160, x1161, hx1162, h⟩ := h
    refine AOps.idxown tabOk rfl rfl rfl rfl rfl rfl rfl rfl hi1160 (map_lt hi1160 hx1162) rfl ?_
    refine AOps.loadrow tabOk rfl rfl rfl rfl rfl rfl rfl (map_get hx1162) rfl ?_
    refine pI rfl (pS rfl (dn (AWp.seq (rN (pS rfl (al (((x1161.length : Nat) : Int)) rfl (pI rfl (dn (AWp.block ?_)))))))))
    obtain ⟨I1221, x1222, hz1223, hr1224⟩ := h
    refine AWp.loop (I := fun p : (List (List Unit)) × Int => mkSt [(4, .dat (.v (.int .i64 ((x16.length : Nat) : Int)))), (12, .oref 1012), (23, .oref 1023), (24, .dat (.v (.int .i64 x1094))), (25, .dat (.sl 28 1 (List.map eBl x1161))), (134, .oref 1012), (135, .dat (.v (.int .i64 ((x670.length : Nat) : Int)))), (136, .dat (.v (.int .i64 x1094))), (142, .dat (.v (.int .i64 ((x1161.length : Nat) : Int)))), (143, .dat (.v (.int .i64 p.2)))] [(1012, .row 27 1 (List.map (eSl 28 1 eBl) x670)), (1023, .rr 27 28 1 (List.map (List.map eBl) p.1) [])]) (Inv := fun p => I1221 p.1 p.2) (μ := fun p => x1222 p.1 p.2) (x0 := ⟨x1093, (0 : Int)⟩) hz1223 sl (fun p hp => ?_)
    obtain ⟨x1192, x1193⟩ := p
    have h := hr1224 x1192 x1193 hp
    refine sN (pW rfl (dn (AWp.seq (cB h (fun h => ?_) (fun h => ?_)))))
    · refine AWp.skip (AWp.seq (AWp.block (AWp.seq (rN (pI rfl (pI rfl (dn ?_)))))))
      obtain ⟨hi1207, x1208, hx1209, h⟩ := h
      refine AWp.sub (Sub.lend (id := 1023) (d := 6209) (m := (Int.toNat x1193)) rfl rfl (mm_get hx1209) holeAt_nil) ?_
      refine rE [(23, [1023]), (24, []), (25, []), (26, []), (146, [1023]), (147, []), (150, []), (151, []), (152, [])] (pO rfl (pI rfl ?_))
      refine AOps.idxrr tabOk rfl rfl rfl rfl rfl rfl rfl rfl hi1207 (mm_lt hi1207 hx1209) rfl ?_
      refine AOps.loadrr tabOk rfl rfl rfl rfl rfl rfl rfl (mm_lt2 hx1209) holeAt_hd ?_
      refine pI rfl (pS rfl (pI rfl (kI h map_get rfl rfl rfl rfl rfl rfl rfl fun x1214 h => ?_)))
      refine pW rfl ?_
      obtain ⟨hi1216, x1217, hx1218, h⟩ := h
      refine AOps.idxown tabOk rfl rfl rfl rfl rfl rfl rfl rfl hi1216 (map_lt hi1216 hx1218) rfl ?_
      refine AOps.storerow tabOk rfl rfl rfl rfl rfl rfl rfl rfl (map_lt2 hx1218) rfl rfl rfl (map_set1 (e := eBl) (x := ())) ?_
      refine dn (AWp.sub (Sub.unlend (id := 1023) (d := 6209) (m := (Int.toNat x1193)) rfl rfl holeAt_nil mm_set) ?_)
      refine rN ?_
      obtain ⟨x1219, ex1219, h⟩ := h.get
      refine ai ex1219 rfl (pI rfl (dn ?_))
      exact ⟨⟨(List.set x1192 (Int.toNat x1193) (List.set x1208 (Int.toNat x1094) ())), x1219⟩, h.1, h.2, sl⟩
    refine AWp.exit ?_
    refine rN ?_
    obtain ⟨x1220, ex1220, h⟩ := h.get
    refine ai ex1220 rfl (pI rfl (dn ?_))
    exact ⟨⟨x1192, x1220⟩, h.1, h.2, sl⟩
  refine AWp.exit ?_
  refine AWp.seq (AWp.seq ?_)
  refine AWp.find 1023 rfl h fun r1225 h => ?_
  obtain ⟨J1238, h, hk1239⟩ := h
  refine AWp.cutK (I := fun p : Bool => mkSt [(4, .dat (.v (.int .i64 ((x16.length : Nat) : Int)))), (23, .dat (.sl 27 1 (List.map (eSl 28 1 (eFlt .f64)) r1225))), (166, .dat (.v (.bool p)))] []) (Inv := fun p : Bool => J1238 p) ?_ (fun p hp => ?_)
  · refine AWp.freezerr 23 1023 rfl rfl mm_sl ?_
    refine rN (pS rfl (kC h rfl ⟨.inl rfl, trivial⟩ rfl fun x1231 h => ?_))
    refine pB rfl (pB rfl (sB 161 h (fun h => ?_) (fun h => ?_)))
    · refine fo 4 rfl (pB rfl (dn ?_))
      exact ⟨true, h, sl⟩
    refine pO rfl (al (((x670.length : Nat) : Int)) rfl (pI rfl (pB rfl (pB rfl (dn ?_)))))
    exact ⟨(((x670.length : Nat) : Int) != ((x16.length : Nat) : Int)), h, sl⟩
  replace h := hk1239 p hp
  revert h; clear hp; generalize p = x1229; intro h
  refine cB h (fun h => ?_) (fun h => ?_)
  · refine sN (pI rfl (kC h rfl ⟨.inl rfl, trivial⟩ rfl fun x1236 h => ?_))
    refine pS rfl (pI rfl (dn (AWp.ret ?_)))
    exact ⟨_, rfl, _, h, rfl⟩
  refine AWp.skip (AWp.seq (rN (pS rfl (pS rfl (pI rfl (dn (AWp.ret ?_)))))))
  exact ⟨_, rfl, _, h, rfl⟩
end Go.Sim.YtlkpbnhinnhlfaaGreat
