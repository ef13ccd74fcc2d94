/- What is proved: functions of the program compute what plain statements tell. -/
import Derived.Test.YtlkpbnhinnhlfaaGreatZLFWE

namespace Go.Sim.YtlkpbnhinnhlfaaGreat
open Go.RowKit Go.Proofs Go.Proofs.Tryz
set_option maxRecDepth 100000
def W_lin_Norm (m1 : List (List GIval)) (Q : Nat × Int → Prop) : Prop :=
 Call (Ev_lin_matrix m1) fun x2 =>
 Br (!x2) (Q ((0 : Nat), (1 : Int))) (
  Loop2 (0 : Nat) (0 : Int) (fun (most517 : Nat) (x518 : Int) next519 =>
   Br (decide (x518 < ((m1.length : Nat) : Int))) (
    At m1 x518 fun x604 =>
    Loop2 (0 : Nat) (0 : Int) (fun (sum663 : Nat) (x664 : Int) next665 =>
     Br (decide (x664 < ((x604.length : Nat) : Int))) (
      At x604 x664 fun x674 =>
      Call (Ev_ival_Mag x674) fun x676 =>
      Call (Ev_ulp_Add sum663 x676 (1 : Int)) fun x678 =>
      Let (IntKind.i64.wrap (x664 + (1 : Int))) fun x680 =>
      next665 x678 x680) (
      FMx most517 sum663 fun x681 =>
      Let (IntKind.i64.wrap (x518 + (1 : Int))) fun x682 =>
      next519 x681 x682))) (
    Q (most517, (0 : Int)))))
theorem walk_lin_Norm {m1 : List (List GIval)} {r : Nat × Int} (h : W_lin_Norm m1 (fun r' => r' = r)) : Ev_lin_Norm m1 r := by
  unfold W_lin_Norm at h
  refine intr (L := [(0, .dat (.sl 33 1 (List.map (eSl 35 2 GIval.enc) m1)))]) Tryz.func36 Tryz.ntmps36 ?_
  refine sN (pF rfl (pI rfl (dn (AWp.seq (AWp.seq (rN (pS rfl (kC h rfl ⟨.inl rfl, trivial⟩ rfl fun x2 h => ?_))))))))
  refine pB rfl (dn (cB h (fun h => ?_) (fun h => ?_)))
  · refine sN (pF rfl (pI rfl (dn (AWp.ret ?_))))
    subst h
    exact ⟨_, rfl, rfl⟩
  refine AWp.skip (AWp.seq (rN (pF rfl (dn (AWp.seq (AWp.seq (rN (pS rfl (al (((m1.length : Nat) : Int)) rfl (pI rfl (dn (AWp.block ?_))))))))))))
  obtain ⟨I687, x688, hz689, hr690⟩ := h
  refine AWp.loop (I := fun p : Nat × Int => mkSt [(4, .dat (.v (.float .f64 p.1))), (13, .dat (.sl 33 1 (List.map (eSl 35 2 GIval.enc) m1))), (14, .dat (.v (.int .i64 ((m1.length : Nat) : Int)))), (15, .dat (.v (.int .i64 p.2)))] []) (Inv := fun p => I687 p.1 p.2) (μ := fun p => x688 p.1 p.2) (x0 := ⟨(0 : Nat), (0 : Int)⟩) hz689 sl (fun p hp => ?_)
  obtain ⟨most517, x518⟩ := p
  have h := hr690 most517 x518 hp
  refine sN (pW rfl (dn (AWp.seq (cB h (fun h => ?_) (fun h => ?_)))))
  · refine AWp.skip (AWp.seq (AWp.block (AWp.seq (rN (kI h map_get rfl rfl rfl rfl rfl rfl rfl fun x604 h => ?_)))))
    refine pS rfl (pS rfl (dn (AWp.seq (rN (pF rfl (dn (AWp.seq (AWp.seq (rN (pS rfl (al (((x604.length : Nat) : Int)) rfl (pI rfl (dn (AWp.block ?_))))))))))))))
    obtain ⟨I683, x684, hz685, hr686⟩ := h
    refine AWp.loop (I := fun p : Nat × Int => mkSt [(4, .dat (.v (.float .f64 most517))), (7, .dat (.v (.float .f64 p.1))), (13, .dat (.sl 33 1 (List.map (eSl 35 2 GIval.enc) m1))), (14, .dat (.v (.int .i64 ((m1.length : Nat) : Int)))), (15, .dat (.v (.int .i64 x518))), (19, .dat (.sl 35 2 (List.map GIval.enc x604))), (20, .dat (.v (.int .i64 ((x604.length : Nat) : Int)))), (21, .dat (.v (.int .i64 p.2)))] []) (Inv := fun p => I683 p.1 p.2) (μ := fun p => x684 p.1 p.2) (x0 := ⟨(0 : Nat), (0 : Int)⟩) hz685 sl (fun p hp => ?_)
    obtain ⟨sum663, x664⟩ := p
    have h := hr686 sum663 x664 hp
    refine sN (pW rfl (dn (AWp.seq (cB h (fun h => ?_) (fun h => ?_)))))
    · refine AWp.skip (AWp.seq (AWp.block (AWp.seq (rW (kI h map_get rfl rfl rfl rfl rfl rfl rfl fun x674 h => ?_)))))
      refine pT rfl (al0 ?_)
      refine st (v := .dat (.st _ _)) ?_
      refine dn (rN (pF rfl (pT rfl (kC h rfl ⟨.inl rfl, trivial⟩ rfl fun x676 h => ?_))))
      refine kC h rfl ⟨.inl rfl, .inl rfl, .inl rfl, trivial⟩ rfl fun x678 h => pF rfl ?_
      refine dn (rN ?_)
      obtain ⟨x680, ex680, h⟩ := h.get
      refine ai ex680 rfl (pI rfl (dn ?_))
      exact ⟨⟨x678, x680⟩, h.1, h.2, sl⟩
    refine AWp.exit ?_
    refine rN (pF rfl (pF rfl ?_))
    obtain ⟨hq, x681, ex681, h⟩ := h.get
    refine AOps.v rfl rfl (Step.fmax rfl rfl rfl hq ex681) ?_
    refine pF rfl (dn (rN ?_))
    obtain ⟨x682, ex682, h⟩ := h.get
    refine ai ex682 rfl (pI rfl (dn ?_))
    exact ⟨⟨x681, x682⟩, h.1, h.2, sl⟩
  refine AWp.exit ?_
  refine sN (pF rfl (pF rfl (pI rfl (dn (AWp.ret ?_)))))
  subst h
  exact ⟨_, rfl, rfl⟩
def W_ref04_Norm (m1 : List (List GIval)) (Q : Nat → Prop) : Prop :=
 Loop2 (0 : Nat) (0 : Int) (fun (most512 : Nat) (x513 : Int) next514 =>
  Br (decide (x513 < ((m1.length : Nat) : Int))) (
   At m1 x513 fun x598 =>
   Loop2 (0 : Nat) (0 : Int) (fun (sum657 : Nat) (x658 : Int) next659 =>
    Br (decide (x658 < ((x598.length : Nat) : Int))) (
     At x598 x658 fun x668 =>
     Call (Ev_ref02_Mag x668) fun x670 =>
     Call (Ev_ref01_Add sum657 x670 (1 : Int)) fun x672 =>
     Let (IntKind.i64.wrap (x658 + (1 : Int))) fun x674 =>
     next659 x672 x674) (
     Br (FloatKind.f64.format.order sum657 most512 == some .gt) (
      Let (IntKind.i64.wrap (x513 + (1 : Int))) fun x675 =>
      next514 sum657 x675) (
      Let (IntKind.i64.wrap (x513 + (1 : Int))) fun x676 =>
      next514 most512 x676)))) (
   Q most512))
theorem walk_ref04_Norm {m1 : List (List GIval)} {r : Nat} (h : W_ref04_Norm m1 (fun r' => r' = r)) : Ev_ref04_Norm m1 r := by
  unfold W_ref04_Norm at h
  refine intr (L := [(0, .dat (.sl 33 1 (List.map (eSl 35 2 GIval.enc) m1)))]) Tryz.func11 Tryz.ntmps11 ?_
  refine sN (pF rfl (dn (AWp.seq (rN (pF rfl (dn (AWp.seq (AWp.seq (rN (pS rfl (al (((m1.length : Nat) : Int)) rfl (pI rfl (dn (AWp.block ?_))))))))))))))
  obtain ⟨I681, x682, hz683, hr684⟩ := h
  refine AWp.loop (I := fun p : Nat × Int => mkSt [(3, .dat (.v (.float .f64 p.1))), (9, .dat (.sl 33 1 (List.map (eSl 35 2 GIval.enc) m1))), (10, .dat (.v (.int .i64 ((m1.length : Nat) : Int)))), (11, .dat (.v (.int .i64 p.2)))] []) (Inv := fun p => I681 p.1 p.2) (μ := fun p => x682 p.1 p.2) (x0 := ⟨(0 : Nat), (0 : Int)⟩) hz683 sl (fun p hp => ?_)
  obtain ⟨most512, x513⟩ := p
  have h := hr684 most512 x513 hp
  refine sN (pW rfl (dn (AWp.seq (cB h (fun h => ?_) (fun h => ?_)))))
  · refine AWp.skip (AWp.seq (AWp.block (AWp.seq (rN (kI h map_get rfl rfl rfl rfl rfl rfl rfl fun x598 h => ?_)))))
    refine pS rfl (pS rfl (dn (AWp.seq (rN (pF rfl (dn (AWp.seq (AWp.seq (rN (pS rfl (al (((x598.length : Nat) : Int)) rfl (pI rfl (dn (AWp.block ?_))))))))))))))
    obtain ⟨I677, x678, hz679, hr680⟩ := h
    refine AWp.loop (I := fun p : Nat × Int => mkSt [(3, .dat (.v (.float .f64 most512))), (6, .dat (.v (.float .f64 p.1))), (9, .dat (.sl 33 1 (List.map (eSl 35 2 GIval.enc) m1))), (10, .dat (.v (.int .i64 ((m1.length : Nat) : Int)))), (11, .dat (.v (.int .i64 x513))), (15, .dat (.sl 35 2 (List.map GIval.enc x598))), (16, .dat (.v (.int .i64 ((x598.length : Nat) : Int)))), (17, .dat (.v (.int .i64 p.2)))] []) (Inv := fun p => I677 p.1 p.2) (μ := fun p => x678 p.1 p.2) (x0 := ⟨(0 : Nat), (0 : Int)⟩) hz679 sl (fun p hp => ?_)
    obtain ⟨sum657, x658⟩ := p
    have h := hr680 sum657 x658 hp
    refine sN (pW rfl (dn (AWp.seq (cB h (fun h => ?_) (fun h => ?_)))))
    · refine AWp.skip (AWp.seq (AWp.block (AWp.seq (rW (kI h map_get rfl rfl rfl rfl rfl rfl rfl fun x668 h => ?_)))))
      refine pT rfl (al0 ?_)
      refine st (v := .dat (.st _ _)) ?_
      refine dn (rN (pF rfl (pT rfl (kC h rfl ⟨.inl rfl, trivial⟩ rfl fun x670 h => ?_))))
      refine kC h rfl ⟨.inl rfl, .inl rfl, .inl rfl, trivial⟩ rfl fun x672 h => pF rfl ?_
      refine dn (rN ?_)
      obtain ⟨x674, ex674, h⟩ := h.get
      refine ai ex674 rfl (pI rfl (dn ?_))
      exact ⟨⟨x672, x674⟩, h.1, h.2, sl⟩
    refine AWp.exit ?_
    refine sN (pF rfl (pF rfl (pB rfl (dn (cB h (fun h => ?_) (fun h => ?_))))))
    · refine rN (pF rfl (pF rfl (dn (rN ?_))))
      obtain ⟨x675, ex675, h⟩ := h.get
      refine ai ex675 rfl (pI rfl (dn ?_))
      exact ⟨⟨sum657, x675⟩, h.1, h.2, sl⟩
    refine AWp.skip (rN ?_)
    obtain ⟨x676, ex676, h⟩ := h.get
    refine ai ex676 rfl (pI rfl (dn ?_))
    exact ⟨⟨most512, x676⟩, h.1, h.2, sl⟩
  refine AWp.exit ?_
  refine sN (pF rfl (pF rfl (dn (AWp.ret ?_))))
  subst h
  exact ⟨_, rfl, rfl⟩
def W_ref04_Points (m1 : List (List Nat)) (Q : List (List GIval) → Prop) : Prop :=
 Call (Ev_ref04_Floats m1) fun x2 =>
 Br (!x2) (Q ([] : List (List GIval))) (
  Loop2 ([] : List (List GIval)) (0 : Int) (fun (out481 : List (List GIval)) (x482 : Int) next483 =>
   Br (decide (x482 < ((m1.length : Nat) : Int))) (
    At m1 x482 fun x562 =>
    Loop2 ([] : List GIval) (0 : Int) (fun (row617 : List GIval) (x618 : Int) next619 =>
     Br (decide (x618 < ((x562.length : Nat) : Int))) (
      At x562 x618 fun x627 =>
      Call (Ev_ref02_Make x627 x627) fun x629 =>
      App 16 row617 ([x629]) fun x631 =>
      Let (IntKind.i64.wrap (x618 + (1 : Int))) fun x632 =>
      next619 x631 x632) (
      App 24 out481 ([row617]) fun x633 =>
      Let (IntKind.i64.wrap (x482 + (1 : Int))) fun x634 =>
      next483 x633 x634))) (
    Q out481)))
theorem walk_ref04_Points {m1 : List (List Nat)} {r : List (List GIval)} (h : W_ref04_Points m1 (fun r' => r' = r)) : Ev_ref04_Points m1 r := by
  unfold W_ref04_Points at h
  refine intr (L := [(0, .dat (.sl 27 1 (List.map (eSl 28 1 (eFlt .f64)) m1)))]) Tryz.func8 Tryz.ntmps8 ?_
  refine sN (pS rfl (dn (AWp.seq (rN ?_))))
  refine AOps.litown tabOk (ys := []) rfl rfl rfl rfl rfl rfl rfl rfl ?_
  refine pO rfl (dn (AWp.seq (AWp.seq (rN (pS rfl (kC h rfl ⟨.inl rfl, trivial⟩ rfl fun x2 h => ?_))))))
  refine pB rfl (dn (cB h (fun h => ?_) (fun h => ?_)))
  · refine sN (pO rfl (pO rfl (dn (AWp.ret ?_))))
    subst h
    exact ⟨_, rfl, rfl⟩
  refine AWp.skip (AWp.seq (AWp.seq (rN (pS rfl (al (((m1.length : Nat) : Int)) rfl (pI rfl (dn (AWp.block ?_))))))))
  obtain ⟨I639, x640, hz641, hr642⟩ := h
  refine AWp.loop (I := fun p : (List (List GIval)) × Int => mkSt [(3, .oref 1003), (14, .dat (.sl 27 1 (List.map (eSl 28 1 (eFlt .f64)) m1))), (15, .dat (.v (.int .i64 ((m1.length : Nat) : Int)))), (16, .dat (.v (.int .i64 p.2)))] [(1003, .row 33 1 (List.map (eSl 35 2 GIval.enc) p.1))]) (Inv := fun p => I639 p.1 p.2) (μ := fun p => x640 p.1 p.2) (x0 := ⟨([] : List (List GIval)), (0 : Int)⟩) hz641 (slf (fun i => (if Nat.beq i 1003 then 9 else i))) (fun p hp => ?_)
  obtain ⟨out481, x482⟩ := p
  have h := hr642 out481 x482 hp
  refine sN (pW rfl (dn (AWp.seq (cB h (fun h => ?_) (fun h => ?_)))))
  · refine AWp.skip (AWp.seq (AWp.block (AWp.seq (rN (kI h map_get rfl rfl rfl rfl rfl rfl rfl fun x562 h => ?_)))))
    refine pS rfl (pS rfl (dn (AWp.seq (rN ?_))))
    refine AOps.litown tabOk (ys := []) rfl rfl rfl rfl rfl rfl rfl rfl ?_
    refine pO rfl (dn (AWp.seq (AWp.seq (rN (pS rfl (al (((x562.length : Nat) : Int)) rfl (pI rfl (dn (AWp.block ?_)))))))))
    obtain ⟨I635, x636, hz637, hr638⟩ := h
    refine AWp.loop (I := fun p : (List GIval) × Int => mkSt [(3, .oref 1003), (6, .oref 1006), (14, .dat (.sl 27 1 (List.map (eSl 28 1 (eFlt .f64)) m1))), (15, .dat (.v (.int .i64 ((m1.length : Nat) : Int)))), (16, .dat (.v (.int .i64 x482))), (21, .dat (.sl 28 1 (List.map (eFlt .f64) x562))), (22, .dat (.v (.int .i64 ((x562.length : Nat) : Int)))), (23, .dat (.v (.int .i64 p.2)))] [(1003, .row 33 1 (List.map (eSl 35 2 GIval.enc) out481)), (1006, .row 35 2 (List.map GIval.enc p.1))]) (Inv := fun p => I635 p.1 p.2) (μ := fun p => x636 p.1 p.2) (x0 := ⟨([] : List GIval), (0 : Int)⟩) hz637 (slf (fun i => (if Nat.beq i 1006 then 20 else i))) (fun p hp => ?_)
    obtain ⟨row617, x618⟩ := p
    have h := hr638 row617 x618 hp
    refine sN (pW rfl (dn (AWp.seq (cB h (fun h => ?_) (fun h => ?_)))))
    · refine AWp.skip (AWp.seq (AWp.block (AWp.seq (rN (kI h map_get rfl rfl rfl rfl rfl rfl rfl fun x627 h => ?_)))))
      refine pF rfl (pF rfl (dn (rW (pO rfl (pF rfl (pF rfl (kC h rfl ⟨.inl rfl, .inl rfl, trivial⟩ rfl fun x629 h => ?_)))))))
      refine AOps.lit tabOk (ys := [GIval.enc x629]) rfl rfl rfl rfl rfl rfl ?_
      obtain ⟨h1, h2, x631, ex631, h⟩ := h.get
      refine AOps.append tabOk rfl rfl rfl rfl rfl rfl rfl rfl rfl rfl rfl (.inl ⟨_, rfl⟩) (app1 h1) (app2 h2) (app3 ex631) ?_
      refine pO rfl (dn (rN ?_))
      obtain ⟨x632, ex632, h⟩ := h.get
      refine ai ex632 rfl (pI rfl (dn ?_))
      exact ⟨⟨x631, x632⟩, h.1, h.2, (slf (fun i => (if Nat.beq i 1006 then 32 else i)))⟩
    refine AWp.exit ?_
    refine AWp.freeze 6 1006 rfl rfl ?_
    refine rW (pO rfl (pS rfl ?_))
    refine AOps.lit tabOk (ys := [.sl 35 2 (List.map GIval.enc row617)]) rfl rfl rfl rfl rfl rfl ?_
    obtain ⟨h1, h2, x633, ex633, h⟩ := h.get
    refine AOps.append tabOk rfl rfl rfl rfl rfl rfl rfl rfl rfl rfl rfl (.inl ⟨_, rfl⟩) (app1 h1) (app2 h2) (app3 ex633) ?_
    refine pO rfl (dn (rN ?_))
    obtain ⟨x634, ex634, h⟩ := h.get
    refine ai ex634 rfl (pI rfl (dn ?_))
    exact ⟨⟨x633, x634⟩, h.1, h.2, (slf (fun i => (if Nat.beq i 1003 then 37 else i)))⟩
  refine AWp.exit ?_
  refine sN (pO rfl (pO rfl (dn (AWp.ret ?_))))
  subst h
  exact ⟨_, rfl, rfl⟩
def W_ref04_One (n1 : Int) (Q : List (List GIval) → Prop) : Prop :=
 Br (decide (n1 > (24 : Int))) (Q ([] : List (List GIval))) (
  Loop2 ([] : List (List GIval)) (0 : Int) (fun (out502 : List (List GIval)) (i503 : Int) next504 =>
   Br (decide (i503 < n1)) (
    Loop2 ([] : List GIval) (0 : Int) (fun (row644 : List GIval) (j645 : Int) next646 =>
     Br (decide (j645 < n1)) (
      Join1 (fun j655 =>
       Br (i503 == j645) (j655 (4607182418800017408 : Nat)) (
        j655 (0 : Nat))
      ) (fun (v654 : Nat) =>
       Call (Ev_ref02_Make v654 v654) fun x656 =>
       App 16 row644 ([x656]) fun x658 =>
       Let (IntKind.i64.wrap (j645 + (1 : Int))) fun x659 =>
       next646 x658 x659)) (
      App 24 out502 ([row644]) fun x662 =>
      Let (IntKind.i64.wrap (i503 + (1 : Int))) fun x663 =>
      next504 x662 x663))) (
    Q out502)))
theorem walk_ref04_One {n1 : Int} {r : List (List GIval)} (h : W_ref04_One n1 (fun r' => r' = r)) : Ev_ref04_One n1 r := by
  unfold W_ref04_One at h
  refine intr (L := [(0, .dat (.v (.int .i64 n1)))]) Tryz.func9 Tryz.ntmps9 ?_
  refine sN (pS rfl (dn (AWp.seq (rN ?_))))
  refine AOps.litown tabOk (ys := []) rfl rfl rfl rfl rfl rfl rfl rfl ?_
  refine pO rfl (dn (AWp.seq (AWp.seq (rN (pI rfl (pB rfl (dn (cB h (fun h => ?_) (fun h => ?_)))))))))
  · refine sN (pO rfl (pO rfl (dn (AWp.ret ?_))))
    subst h
    exact ⟨_, rfl, rfl⟩
  refine AWp.skip (AWp.seq (AWp.seq (rN (pI rfl (dn (AWp.block ?_))))))
  obtain ⟨I668, x669, hz670, hr671⟩ := h
  refine AWp.loop (I := fun p : (List (List GIval)) × Int => mkSt [(0, .dat (.v (.int .i64 n1))), (3, .oref 1003), (4, .dat (.v (.int .i64 p.2)))] [(1003, .row 33 1 (List.map (eSl 35 2 GIval.enc) p.1))]) (Inv := fun p => I668 p.1 p.2) (μ := fun p => x669 p.1 p.2) (x0 := ⟨([] : List (List GIval)), (0 : Int)⟩) hz670 (slf (fun i => (if Nat.beq i 1003 then 8 else i))) (fun p hp => ?_)
  obtain ⟨out502, i503⟩ := p
  have h := hr671 out502 i503 hp
  refine AWp.seq (AWp.seq (rN (pI rfl (pI rfl (pB rfl (dn (cB h (fun h => ?_) (fun h => ?_))))))))
  · refine AWp.skip (AWp.seq (AWp.block (AWp.seq (rN ?_))))
    refine AOps.litown tabOk (ys := []) rfl rfl rfl rfl rfl rfl rfl rfl ?_
    refine pO rfl (dn (AWp.seq (AWp.seq (rN (pI rfl (dn (AWp.block ?_)))))))
    obtain ⟨I664, x665, hz666, hr667⟩ := h
    refine AWp.loop (I := fun p : (List GIval) × Int => mkSt [(0, .dat (.v (.int .i64 n1))), (3, .oref 1003), (4, .dat (.v (.int .i64 i503))), (5, .oref 1005), (6, .dat (.v (.int .i64 p.2)))] [(1003, .row 33 1 (List.map (eSl 35 2 GIval.enc) out502)), (1005, .row 35 2 (List.map GIval.enc p.1))]) (Inv := fun p => I664 p.1 p.2) (μ := fun p => x665 p.1 p.2) (x0 := ⟨([] : List GIval), (0 : Int)⟩) hz666 (slf (fun i => (if Nat.beq i 1005 then 17 else i))) (fun p hp => ?_)
    obtain ⟨row644, j645⟩ := p
    have h := hr667 row644 j645 hp
    refine AWp.seq (AWp.seq (rN (pI rfl (pI rfl (pB rfl (dn (cB h (fun h => ?_) (fun h => ?_))))))))
    · refine AWp.skip (AWp.seq (AWp.block (AWp.seq (rN (pF rfl (dn (AWp.seq (AWp.seq (rN (pI rfl (pI rfl (pB rfl (dn ?_)))))))))))))
      obtain ⟨J660, h, hk661⟩ := h
      refine AWp.cutK (I := fun p : Nat => mkSt [(0, .dat (.v (.int .i64 n1))), (3, .oref 1003), (4, .dat (.v (.int .i64 i503))), (5, .oref 1005), (6, .dat (.v (.int .i64 j645))), (7, .dat (.v (.float .f64 p)))] [(1003, .row 33 1 (List.map (eSl 35 2 GIval.enc) out502)), (1005, .row 35 2 (List.map GIval.enc row644))]) (Inv := fun p : Nat => J660 p) ?_ (fun p hp => ?_)
      · refine cB h (fun h => ?_) (fun h => ?_)
        · refine rN (pF rfl (dn ?_))
          exact ⟨(4607182418800017408 : Nat), h, sl⟩
        refine AWp.skip ?_
        exact ⟨(0 : Nat), h, sl⟩
      replace h := hk661 p hp
      revert h; clear hp; generalize p = v654; intro h
      refine rW (pO rfl (pF rfl (pF rfl (kC h rfl ⟨.inl rfl, .inl rfl, trivial⟩ rfl fun x656 h => ?_))))
      refine AOps.lit tabOk (ys := [GIval.enc x656]) rfl rfl rfl rfl rfl rfl ?_
      obtain ⟨h1, h2, x658, ex658, h⟩ := h.get
      refine AOps.append tabOk rfl rfl rfl rfl rfl rfl rfl rfl rfl rfl rfl (.inl ⟨_, rfl⟩) (app1 h1) (app2 h2) (app3 ex658) ?_
      refine pO rfl (dn (rN (pI rfl ?_)))
      obtain ⟨x659, ex659, h⟩ := h.get
      refine ai ex659 rfl (pI rfl (dn ?_))
      exact ⟨⟨x658, x659⟩, h.1, h.2, (slf (fun i => (if Nat.beq i 1005 then 31 else i)))⟩
    refine AWp.exit ?_
    refine AWp.freeze 5 1005 rfl rfl ?_
    refine rW (pO rfl (pS rfl ?_))
    refine AOps.lit tabOk (ys := [.sl 35 2 (List.map GIval.enc row644)]) rfl rfl rfl rfl rfl rfl ?_
    obtain ⟨h1, h2, x662, ex662, h⟩ := h.get
    refine AOps.append tabOk rfl rfl rfl rfl rfl rfl rfl rfl rfl rfl rfl (.inl ⟨_, rfl⟩) (app1 h1) (app2 h2) (app3 ex662) ?_
    refine pO rfl (dn (rN (pI rfl ?_)))
    obtain ⟨x663, ex663, h⟩ := h.get
    refine ai ex663 rfl (pI rfl (dn ?_))
    exact ⟨⟨x662, x663⟩, h.1, h.2, (slf (fun i => (if Nat.beq i 1003 then 35 else i)))⟩
  refine AWp.exit ?_
  refine sN (pO rfl (pO rfl (dn (AWp.ret ?_))))
  subst h
  exact ⟨_, rfl, rfl⟩
def W_lin_Dot (a1 : List GIval) (b2 : List GIval) (Q : GIval × Int → Prop) : Prop :=
 Call (Ev_lin_vector a1) fun x9 =>
 Br (!x9) (Q (GIval.zero, (1 : Int))) (
  Call (Ev_lin_vector b2) fun x11 =>
  Br (!x11) (Q (GIval.zero, (1 : Int))) (
   Br (((a1.length : Nat) : Int) != ((b2.length : Nat) : Int)) (Q (GIval.zero, (1 : Int))) (
    Call (Ev_ival_Point (0 : Nat)) fun x15 =>
    Loop2 x15 (0 : Int) (fun (sum94 : GIval) (x95 : Int) next96 =>
     Br (decide (x95 < ((a1.length : Nat) : Int))) (
      At a1 x95 fun x108 =>
      At b2 x95 fun x111 =>
      Call (Ev_ival_Mul x108 x111) fun x113 =>
      Call (Ev_ival_Add sum94 x113) fun x115 =>
      Let (IntKind.i64.wrap (x95 + (1 : Int))) fun x117 =>
      next96 x115 x117) (
      Q (sum94, (0 : Int)))))))
theorem walk_lin_Dot {a1 : List GIval} {b2 : List GIval} {r : GIval × Int} (h : W_lin_Dot a1 b2 (fun r' => r' = r)) : Ev_lin_Dot a1 b2 r := by
  unfold W_lin_Dot at h
  refine intr (L := [(0, .dat (.sl 35 2 (List.map GIval.enc a1))), (1, .dat (.sl 35 2 (List.map GIval.enc b2)))]) Tryz.func75 Tryz.ntmps75 ?_
  refine sN (al0 ?_)
  refine pI rfl (dn (AWp.seq (AWp.seq (rN (pS rfl (kC h rfl ⟨.inl rfl, trivial⟩ rfl fun x9 h => ?_))))))
  refine pB rfl (pB rfl (sB 11 h (fun h => ?_) (fun h => ?_)))
  · refine fo 3 rfl (pB rfl (pB rfl (fo 5 rfl (pB rfl (dn ?_)))))
    refine AWp.condT rfl ?_
    refine sW (pT rfl (st (v := .dat (.st _ _)) ?_))
    refine pI rfl (dn (AWp.ret ?_))
    subst h
    exact ⟨_, rfl, rfl⟩
  refine pS rfl (kC h rfl ⟨.inl rfl, trivial⟩ rfl fun x11 h => ?_)
  refine pB rfl (pB rfl (pB rfl (sB 16 h (fun h => ?_) (fun h => ?_))))
  · refine fo 5 rfl (pB rfl (dn ?_))
    refine AWp.condT rfl ?_
    refine sW (pT rfl (st (v := .dat (.st _ _)) ?_))
    refine pI rfl (dn (AWp.ret ?_))
    subst h
    exact ⟨_, rfl, rfl⟩
  refine pS rfl (al (((a1.length : Nat) : Int)) rfl (pS rfl (al (((b2.length : Nat) : Int)) rfl (pB rfl (pB rfl (dn (cB h (fun h => ?_) (fun h => ?_))))))))
  · refine sW (pT rfl (st (v := .dat (.st _ _)) ?_))
    refine pI rfl (dn (AWp.ret ?_))
    subst h
    exact ⟨_, rfl, rfl⟩
  refine AWp.skip (AWp.seq (rW (kC h rfl ⟨.inl rfl, trivial⟩ rfl fun x15 h => ?_)))
  refine al0 ?_
  refine st (v := .dat (.st _ _)) ?_
  refine dn (AWp.seq (AWp.seq (rN (pS rfl (al (((a1.length : Nat) : Int)) rfl (pI rfl (dn (AWp.block ?_))))))))
  obtain ⟨I118, x119, hz120, hr121⟩ := h
  refine AWp.loop (I := fun p : GIval × Int => mkSt [(0, .dat (.sl 35 2 (List.map GIval.enc a1))), (1, .dat (.sl 35 2 (List.map GIval.enc b2))), (4, .pt 4 [] 0), (6, .pt 6 [] 0), (26, .dat (.v (.int .i64 ((a1.length : Nat) : Int)))), (27, .dat (.v (.int .i64 p.2)))] [(4, .box 35 2 (.dat (GIval.enc GIval.zero))), (6, .box 35 2 (.dat (GIval.enc p.1)))]) (Inv := fun p => I118 p.1 p.2) (μ := fun p => x119 p.1 p.2) (x0 := ⟨x15, (0 : Int)⟩) hz120 sl (fun p hp => ?_)
  obtain ⟨sum94, x95⟩ := p
  have h := hr121 sum94 x95 hp
  refine sN (pW rfl (dn (AWp.seq (cB h (fun h => ?_) (fun h => ?_)))))
  · refine AWp.skip (AWp.seq (AWp.block (AWp.seq (rN (pI rfl (pI rfl (dn (rE [(0, []), (1, []), (6, [6]), (7, []), (31, []), (32, []), (35, []), (36, [])] (pT rfl (pS rfl (pI rfl (kI h map_get rfl rfl rfl rfl rfl rfl rfl fun x108 h => ?_))))))))))))
    refine pT rfl (pS rfl (pI rfl (kI h map_get rfl rfl rfl rfl rfl rfl rfl fun x111 h => ?_)))
    refine pT rfl (kC h rfl ⟨.inl rfl, .inl rfl, trivial⟩ rfl fun x113 h => ?_)
    refine kC h rfl ⟨.inl rfl, .inl rfl, trivial⟩ rfl fun x115 h => st (v := .dat (.st _ _)) ?_
    refine dn (rN ?_)
    obtain ⟨x117, ex117, h⟩ := h.get
    refine ai ex117 rfl (pI rfl (dn ?_))
    exact ⟨⟨x115, x117⟩, h.1, h.2, sl⟩
  refine AWp.exit ?_
  refine sW (pT rfl (st (v := .dat (.st _ _)) ?_))
  refine pI rfl (dn (AWp.ret ?_))
  subst h
  exact ⟨_, rfl, rfl⟩
def W_ref04_Dot (a1 : List GIval) (b2 : List GIval) (Q : GIval → Prop) : Prop :=
 Call (Ev_ref02_Make (0 : Nat) (0 : Nat)) fun x3 =>
 Loop2 x3 (0 : Int) (fun (sum82 : GIval) (x83 : Int) next84 =>
  Br (decide (x83 < ((a1.length : Nat) : Int))) (
   At a1 x83 fun x96 =>
   At b2 x83 fun x99 =>
   Call (Ev_ref02_Mul x96 x99) fun x101 =>
   Call (Ev_ref02_Add sum82 x101) fun x103 =>
   Let (IntKind.i64.wrap (x83 + (1 : Int))) fun x105 =>
   next84 x103 x105) (
   Q sum82))
theorem walk_ref04_Dot {a1 : List GIval} {b2 : List GIval} {r : GIval} (h : W_ref04_Dot a1 b2 (fun r' => r' = r)) : Ev_ref04_Dot a1 b2 r := by
  unfold W_ref04_Dot at h
  refine intr (L := [(0, .dat (.sl 35 2 (List.map GIval.enc a1))), (1, .dat (.sl 35 2 (List.map GIval.enc b2)))]) Tryz.func24 Tryz.ntmps24 ?_
  refine sN (al0 ?_)
  refine dn (sW (kC h rfl ⟨.inl rfl, .inl rfl, trivial⟩ rfl fun x3 h => ?_))
  refine al0 ?_
  refine st (v := .dat (.st _ _)) ?_
  refine dn (AWp.seq (AWp.seq (rN (pS rfl (al (((a1.length : Nat) : Int)) rfl (pI rfl (dn (AWp.block ?_))))))))
  obtain ⟨I106, x107, hz108, hr109⟩ := h
  refine AWp.loop (I := fun p : GIval × Int => mkSt [(0, .dat (.sl 35 2 (List.map GIval.enc a1))), (1, .dat (.sl 35 2 (List.map GIval.enc b2))), (4, .pt 4 [] 0), (5, .pt 5 [] 0), (9, .dat (.v (.int .i64 ((a1.length : Nat) : Int)))), (10, .dat (.v (.int .i64 p.2)))] [(4, .box 35 2 (.dat (GIval.enc GIval.zero))), (5, .box 35 2 (.dat (GIval.enc p.1)))]) (Inv := fun p => I106 p.1 p.2) (μ := fun p => x107 p.1 p.2) (x0 := ⟨x3, (0 : Int)⟩) hz108 sl (fun p hp => ?_)
  obtain ⟨sum82, x83⟩ := p
  have h := hr109 sum82 x83 hp
  refine sN (pW rfl (dn (AWp.seq (cB h (fun h => ?_) (fun h => ?_)))))
  · refine AWp.skip (AWp.seq (AWp.block (AWp.seq (rN (pI rfl (pI rfl (dn (rE [(0, []), (1, []), (5, [5]), (6, []), (14, []), (15, []), (18, []), (19, [])] (pT rfl (pS rfl (pI rfl (kI h map_get rfl rfl rfl rfl rfl rfl rfl fun x96 h => ?_))))))))))))
    refine pT rfl (pS rfl (pI rfl (kI h map_get rfl rfl rfl rfl rfl rfl rfl fun x99 h => ?_)))
    refine pT rfl (kC h rfl ⟨.inl rfl, .inl rfl, trivial⟩ rfl fun x101 h => ?_)
    refine kC h rfl ⟨.inl rfl, .inl rfl, trivial⟩ rfl fun x103 h => st (v := .dat (.st _ _)) ?_
    refine dn (rN ?_)
    obtain ⟨x105, ex105, h⟩ := h.get
    refine ai ex105 rfl (pI rfl (dn ?_))
    exact ⟨⟨x103, x105⟩, h.1, h.2, sl⟩
  refine AWp.exit ?_
  refine sW (pT rfl (st (v := .dat (.st _ _)) ?_))
  subst h; exact dn (AWp.ret ⟨_, rfl, rfl⟩)
def W_lin_matrix (m1 : List (List GIval)) (Q : Bool → Prop) : Prop :=
 Loop1 (0 : Int) (fun (x116 : Int) next117 =>
  Br (decide (x116 < ((m1.length : Nat) : Int))) (
   At m1 x116 fun x136 =>
   Call (Ev_lin_vector x136) fun x145 =>
   Br (!x145) (Q false) (
    At m1 (0 : Int) fun x149 =>
    Br (((x136.length : Nat) : Int) != ((x149.length : Nat) : Int)) (Q false) (
     Let (IntKind.i64.wrap (x116 + (1 : Int))) fun x152 =>
     next117 x152))) (
   Br (decide (((m1.length : Nat) : Int) > (0 : Int))) (Q (decide (((m1.length : Nat) : Int) ≤ (24 : Int)))) (
    Q false)))
theorem walk_lin_matrix {m1 : List (List GIval)} {r : Bool} (h : W_lin_matrix m1 (fun r' => r' = r)) : Ev_lin_matrix m1 r := by
  unfold W_lin_matrix at h
  refine intr (L := [(0, .dat (.sl 33 1 (List.map (eSl 35 2 GIval.enc) m1)))]) Tryz.func74 Tryz.ntmps74 ?_
  refine sN (pB rfl (dn (AWp.seq (AWp.seq (rN (pS rfl (al (((m1.length : Nat) : Int)) rfl (pI rfl (dn (AWp.block ?_))))))))))
  obtain ⟨I157, x158, hz159, hr160⟩ := h
  refine AWp.loop (I := fun p : Int => mkSt [(0, .dat (.sl 33 1 (List.map (eSl 35 2 GIval.enc) m1))), (5, .dat (.sl 33 1 (List.map (eSl 35 2 GIval.enc) m1))), (6, .dat (.v (.int .i64 ((m1.length : Nat) : Int)))), (7, .dat (.v (.int .i64 p)))] []) (Inv := fun p => I157 p) (μ := fun p => x158 p) (x0 := (0 : Int)) hz159 sl (fun p hp => ?_)
  have h := hr160 p hp
  revert h; clear hp; generalize p = x116; intro h
  refine sN (pW rfl (dn (AWp.seq (cB h (fun h => ?_) (fun h => ?_)))))
  · refine AWp.skip (AWp.seq (AWp.block (AWp.seq (rN (kI h map_get rfl rfl rfl rfl rfl rfl rfl fun x136 h => ?_)))))
    refine pS rfl (pS rfl (dn (AWp.seq (rN (pS rfl (kC h rfl ⟨.inl rfl, trivial⟩ rfl fun x145 h => ?_))))))
    refine pB rfl (pB rfl (sB 14 h (fun h => ?_) (fun h => ?_)))
    · refine fo 7 rfl (pB rfl (dn ?_))
      refine AWp.condT rfl ?_
      refine sN (pB rfl (dn (AWp.ret ?_)))
      subst h
      exact ⟨_, rfl, rfl⟩
    refine pS rfl (al (((x136.length : Nat) : Int)) rfl (pS rfl (kI h map_get rfl rfl rfl rfl rfl rfl rfl fun x149 h => ?_)))
    refine pS rfl (al (((x149.length : Nat) : Int)) rfl (pB rfl (pB rfl (dn (cB h (fun h => ?_) (fun h => ?_))))))
    · refine sN (pB rfl (dn (AWp.ret ?_)))
      subst h
      exact ⟨_, rfl, rfl⟩
    refine AWp.skip (rN ?_)
    obtain ⟨x152, ex152, h⟩ := h.get
    refine ai ex152 rfl (pI rfl (dn ?_))
    exact ⟨x152, h.1, h.2, sl⟩
  refine AWp.exit ?_
  refine sN (pS rfl (al (((m1.length : Nat) : Int)) rfl (pB rfl (pB rfl (sB 27 h (fun h => ?_) (fun h => ?_))))))
  · refine pS rfl (al (((m1.length : Nat) : Int)) rfl (pB rfl (pB rfl (pB rfl (dn (AWp.ret ?_))))))
    subst h
    exact ⟨_, rfl, rfl⟩
  refine fo 3 rfl (pB rfl (pB rfl (dn (AWp.ret ?_))))
  subst h
  exact ⟨_, rfl, rfl⟩
def W_lin_floats (m1 : List (List Nat)) (Q : Bool → Prop) : Prop :=
 Loop1 (0 : Int) (fun (x386 : Int) next387 =>
  Br (decide (x386 < ((m1.length : Nat) : Int))) (
   At m1 x386 fun x451 =>
   At m1 (0 : Int) fun x455 =>
   Br (((x451.length : Nat) : Int) != ((x455.length : Nat) : Int)) (Q false) (
    Loop1 (0 : Int) (fun (x483 : Int) next484 =>
     Br (decide (x483 < ((x451.length : Nat) : Int))) (
      At x451 x483 fun x497 =>
      Call (Ev_math_IsNaN x497) fun x503 =>
      Br x503 (Q false) (
       Call (Ev_math_IsInf x497 (0 : Int)) fun x505 =>
       Br x505 (Q false) (
        Let (IntKind.i64.wrap (x483 + (1 : Int))) fun x507 =>
        next484 x507))) (
      Let (IntKind.i64.wrap (x386 + (1 : Int))) fun x508 =>
      next387 x508)))) (
   Br (decide (((m1.length : Nat) : Int) > (0 : Int))) (
    Br (decide (((m1.length : Nat) : Int) ≤ (24 : Int))) (
     At m1 (0 : Int) fun x526 =>
     Br (decide (((x526.length : Nat) : Int) > (0 : Int))) (
      At m1 (0 : Int) fun x530 =>
      Q (decide (((x530.length : Nat) : Int) ≤ (24 : Int)))) (
      Q false)) (
     Q false)) (
    Q false)))
theorem walk_lin_floats {m1 : List (List Nat)} {r : Bool} (h : W_lin_floats m1 (fun r' => r' = r)) : Ev_lin_floats m1 r := by
  unfold W_lin_floats at h
  refine intr (L := [(0, .dat (.sl 27 1 (List.map (eSl 28 1 (eFlt .f64)) m1)))]) Tryz.func17 Tryz.ntmps17 ?_
  refine sN (pB rfl (dn (AWp.seq (AWp.seq (rN (pS rfl (al (((m1.length : Nat) : Int)) rfl (pI rfl (dn (AWp.block ?_))))))))))
  obtain ⟨I533, x534, hz535, hr536⟩ := h
  refine AWp.loop (I := fun p : Int => mkSt [(0, .dat (.sl 27 1 (List.map (eSl 28 1 (eFlt .f64)) m1))), (7, .dat (.sl 27 1 (List.map (eSl 28 1 (eFlt .f64)) m1))), (8, .dat (.v (.int .i64 ((m1.length : Nat) : Int)))), (9, .dat (.v (.int .i64 p)))] []) (Inv := fun p => I533 p) (μ := fun p => x534 p) (x0 := (0 : Int)) hz535 sl (fun p hp => ?_)
  have h := hr536 p hp
  revert h; clear hp; generalize p = x386; intro h
  refine sN (pW rfl (dn (AWp.seq (cB h (fun h => ?_) (fun h => ?_)))))
  · refine AWp.skip (AWp.seq (AWp.block (AWp.seq (rN (kI h map_get rfl rfl rfl rfl rfl rfl rfl fun x451 h => ?_)))))
    refine pS rfl (pS rfl (dn (AWp.seq (AWp.seq (rN (pS rfl (al (((x451.length : Nat) : Int)) rfl (pS rfl (kI h map_get rfl rfl rfl rfl rfl rfl rfl fun x455 h => ?_)))))))))
    refine pS rfl (al (((x455.length : Nat) : Int)) rfl (pB rfl (dn (cB h (fun h => ?_) (fun h => ?_)))))
    · refine sN (pB rfl (dn (AWp.ret ?_)))
      subst h
      exact ⟨_, rfl, rfl⟩
    refine AWp.skip (AWp.seq (rN (pS rfl (al (((x451.length : Nat) : Int)) rfl (pI rfl (dn (AWp.block ?_)))))))
    obtain ⟨I509, x510, hz511, hr512⟩ := h
    refine AWp.loop (I := fun p : Int => mkSt [(0, .dat (.sl 27 1 (List.map (eSl 28 1 (eFlt .f64)) m1))), (7, .dat (.sl 27 1 (List.map (eSl 28 1 (eFlt .f64)) m1))), (8, .dat (.v (.int .i64 ((m1.length : Nat) : Int)))), (9, .dat (.v (.int .i64 x386))), (20, .dat (.sl 28 1 (List.map (eFlt .f64) x451))), (21, .dat (.v (.int .i64 ((x451.length : Nat) : Int)))), (22, .dat (.v (.int .i64 p)))] []) (Inv := fun p => I509 p) (μ := fun p => x510 p) (x0 := (0 : Int)) hz511 sl (fun p hp => ?_)
    have h := hr512 p hp
    revert h; clear hp; generalize p = x483; intro h
    refine sN (pW rfl (dn (AWp.seq (cB h (fun h => ?_) (fun h => ?_)))))
    · refine AWp.skip (AWp.seq (AWp.block (AWp.seq (rN (kI h map_get rfl rfl rfl rfl rfl rfl rfl fun x497 h => ?_)))))
      refine pF rfl (pF rfl (dn (AWp.seq (rN (pF rfl (kC h rfl ⟨.inl rfl, trivial⟩ rfl fun x503 h => ?_))))))
      refine pB rfl (sB 28 h (fun h => ?_) (fun h => ?_))
      · refine ff rfl (ff rfl (pB rfl (dn ?_)))
        refine AWp.condT rfl ?_
        refine sN (pB rfl (dn (AWp.ret ?_)))
        subst h
        exact ⟨_, rfl, rfl⟩
      refine pF rfl (kC h rfl ⟨.inl rfl, .inl rfl, trivial⟩ rfl fun x505 h => ?_)
      refine pB rfl (dn (cB h (fun h => ?_) (fun h => ?_)))
      · refine sN (pB rfl (dn (AWp.ret ?_)))
        subst h
        exact ⟨_, rfl, rfl⟩
      refine AWp.skip (rN ?_)
      obtain ⟨x507, ex507, h⟩ := h.get
      refine ai ex507 rfl (pI rfl (dn ?_))
      exact ⟨x507, h.1, h.2, sl⟩
    refine AWp.exit ?_
    refine rN ?_
    obtain ⟨x508, ex508, h⟩ := h.get
    refine ai ex508 rfl (pI rfl (dn ?_))
    exact ⟨x508, h.1, h.2, sl⟩
  refine AWp.exit ?_
  refine sN (pS rfl (al (((m1.length : Nat) : Int)) rfl (pB rfl (pB rfl (sB 37 h (fun h => ?_) (fun h => ?_))))))
  · refine pS rfl (al (((m1.length : Nat) : Int)) rfl (pB rfl (pB rfl (pB rfl (sB 42 h (fun h => ?_) (fun h => ?_))))))
    · refine pS rfl (kI h map_get rfl rfl rfl rfl rfl rfl rfl fun x526 h => ?_)
      refine pS rfl (al (((x526.length : Nat) : Int)) rfl (pB rfl (pB rfl (pB rfl (sB 49 h (fun h => ?_) (fun h => ?_))))))
      · refine pS rfl (kI h map_get rfl rfl rfl rfl rfl rfl rfl fun x530 h => ?_)
        refine pS rfl (al (((x530.length : Nat) : Int)) rfl (pB rfl (pB rfl (pB rfl (dn (AWp.ret ?_))))))
        subst h
        exact ⟨_, rfl, rfl⟩
      refine fo 5 rfl (pB rfl (pB rfl (dn (AWp.ret ?_))))
      subst h
      exact ⟨_, rfl, rfl⟩
    refine fo 5 rfl (pB rfl (pB rfl (fo 5 rfl (pB rfl (pB rfl (dn (AWp.ret ?_)))))))
    subst h
    exact ⟨_, rfl, rfl⟩
  refine fo 3 rfl (pB rfl (pB rfl (fo 5 rfl (pB rfl (pB rfl (fo 5 rfl (pB rfl (pB rfl (dn (AWp.ret ?_))))))))))
  subst h
  exact ⟨_, rfl, rfl⟩
def W_ref04_Floats (m1 : List (List Nat)) (Q : Bool → Prop) : Prop :=
 Loop1 (0 : Int) (fun (x296 : Int) next297 =>
  Br (decide (x296 < ((m1.length : Nat) : Int))) (
   At m1 x296 fun x346 =>
   Br (decide (((x346.length : Nat) : Int) < (1 : Int))) (Q false) (
    Br (decide (((x346.length : Nat) : Int) > (24 : Int))) (Q false) (
     At m1 (0 : Int) fun x359 =>
     Br (((x346.length : Nat) : Int) != ((x359.length : Nat) : Int)) (Q false) (
      Loop1 (0 : Int) (fun (x375 : Int) next376 =>
       Br (decide (x375 < ((x346.length : Nat) : Int))) (
        At x346 x375 fun x383 =>
        Call (Ev_ref04_finite x383) fun x385 =>
        Br (!x385) (Q false) (
         Let (IntKind.i64.wrap (x375 + (1 : Int))) fun x387 =>
         next376 x387)) (
        Let (IntKind.i64.wrap (x296 + (1 : Int))) fun x388 =>
        next297 x388)))))) (
   Br (decide (((m1.length : Nat) : Int) ≥ (1 : Int))) (Q (decide (((m1.length : Nat) : Int) ≤ (24 : Int)))) (
    Q false)))
theorem walk_ref04_Floats {m1 : List (List Nat)} {r : Bool} (h : W_ref04_Floats m1 (fun r' => r' = r)) : Ev_ref04_Floats m1 r := by
  unfold W_ref04_Floats at h
  refine intr (L := [(0, .dat (.sl 27 1 (List.map (eSl 28 1 (eFlt .f64)) m1)))]) Tryz.func23 Tryz.ntmps23 ?_
  refine sN (pB rfl (dn (AWp.seq (AWp.seq (rN (pS rfl (al (((m1.length : Nat) : Int)) rfl (pI rfl (dn (AWp.block ?_))))))))))
  obtain ⟨I397, x398, hz399, hr400⟩ := h
  refine AWp.loop (I := fun p : Int => mkSt [(0, .dat (.sl 27 1 (List.map (eSl 28 1 (eFlt .f64)) m1))), (7, .dat (.sl 27 1 (List.map (eSl 28 1 (eFlt .f64)) m1))), (8, .dat (.v (.int .i64 ((m1.length : Nat) : Int)))), (9, .dat (.v (.int .i64 p)))] []) (Inv := fun p => I397 p) (μ := fun p => x398 p) (x0 := (0 : Int)) hz399 sl (fun p hp => ?_)
  have h := hr400 p hp
  revert h; clear hp; generalize p = x296; intro h
  refine sN (pW rfl (dn (AWp.seq (cB h (fun h => ?_) (fun h => ?_)))))
  · refine AWp.skip (AWp.seq (AWp.block (AWp.seq (rN (kI h map_get rfl rfl rfl rfl rfl rfl rfl fun x346 h => ?_)))))
    refine pS rfl (pS rfl (dn (AWp.seq (AWp.seq (rN (pS rfl (al (((x346.length : Nat) : Int)) rfl (pB rfl (pB rfl (sB 16 h (fun h => ?_) (fun h => ?_)))))))))))
    · refine fo 3 rfl (pB rfl (pB rfl (fo 7 rfl (pB rfl (dn ?_)))))
      refine AWp.condT rfl ?_
      refine sN (pB rfl (dn (AWp.ret ?_)))
      subst h
      exact ⟨_, rfl, rfl⟩
    refine pS rfl (al (((x346.length : Nat) : Int)) rfl (pB rfl (pB rfl (pB rfl (sB 21 h (fun h => ?_) (fun h => ?_))))))
    · refine fo 7 rfl (pB rfl (dn ?_))
      refine AWp.condT rfl ?_
      refine sN (pB rfl (dn (AWp.ret ?_)))
      subst h
      exact ⟨_, rfl, rfl⟩
    refine pS rfl (al (((x346.length : Nat) : Int)) rfl (pS rfl (kI h map_get rfl rfl rfl rfl rfl rfl rfl fun x359 h => ?_)))
    refine pS rfl (al (((x359.length : Nat) : Int)) rfl (pB rfl (pB rfl (dn (cB h (fun h => ?_) (fun h => ?_))))))
    · refine sN (pB rfl (dn (AWp.ret ?_)))
      subst h
      exact ⟨_, rfl, rfl⟩
    refine AWp.skip (AWp.seq (rN (pS rfl (al (((x346.length : Nat) : Int)) rfl (pI rfl (dn (AWp.block ?_)))))))
    obtain ⟨I389, x390, hz391, hr392⟩ := h
    refine AWp.loop (I := fun p : Int => mkSt [(0, .dat (.sl 27 1 (List.map (eSl 28 1 (eFlt .f64)) m1))), (7, .dat (.sl 27 1 (List.map (eSl 28 1 (eFlt .f64)) m1))), (8, .dat (.v (.int .i64 ((m1.length : Nat) : Int)))), (9, .dat (.v (.int .i64 x296))), (30, .dat (.sl 28 1 (List.map (eFlt .f64) x346))), (31, .dat (.v (.int .i64 ((x346.length : Nat) : Int)))), (32, .dat (.v (.int .i64 p)))] []) (Inv := fun p => I389 p) (μ := fun p => x390 p) (x0 := (0 : Int)) hz391 sl (fun p hp => ?_)
    have h := hr392 p hp
    revert h; clear hp; generalize p = x375; intro h
    refine sN (pW rfl (dn (AWp.seq (cB h (fun h => ?_) (fun h => ?_)))))
    · refine AWp.skip (AWp.seq (AWp.block (AWp.seq (rN (kI h map_get rfl rfl rfl rfl rfl rfl rfl fun x383 h => ?_)))))
      refine pF rfl (pF rfl (dn (AWp.seq (rN (pF rfl (kC h rfl ⟨.inl rfl, trivial⟩ rfl fun x385 h => ?_))))))
      refine pB rfl (dn (cB h (fun h => ?_) (fun h => ?_)))
      · refine sN (pB rfl (dn (AWp.ret ?_)))
        subst h
        exact ⟨_, rfl, rfl⟩
      refine AWp.skip (rN ?_)
      obtain ⟨x387, ex387, h⟩ := h.get
      refine ai ex387 rfl (pI rfl (dn ?_))
      exact ⟨x387, h.1, h.2, sl⟩
    refine AWp.exit ?_
    refine rN ?_
    obtain ⟨x388, ex388, h⟩ := h.get
    refine ai ex388 rfl (pI rfl (dn ?_))
    exact ⟨x388, h.1, h.2, sl⟩
  refine AWp.exit ?_
  refine sN (pS rfl (al (((m1.length : Nat) : Int)) rfl (pB rfl (pB rfl (sB 44 h (fun h => ?_) (fun h => ?_))))))
  · refine pS rfl (al (((m1.length : Nat) : Int)) rfl (pB rfl (pB rfl (pB rfl (dn (AWp.ret ?_))))))
    subst h
    exact ⟨_, rfl, rfl⟩
  refine fo 3 rfl (pB rfl (pB rfl (dn (AWp.ret ?_))))
  subst h
  exact ⟨_, rfl, rfl⟩
def W_lin_vector (v1 : List GIval) (Q : Bool → Prop) : Prop :=
 Loop1 (0 : Int) (fun (x44 : Int) next45 =>
  Br (decide (x44 < ((v1.length : Nat) : Int))) (
   At v1 x44 fun x52 =>
   Call (Ev_ival_Right x52) fun x54 =>
   Br (!x54) (Q false) (
    Let (IntKind.i64.wrap (x44 + (1 : Int))) fun x56 =>
    next45 x56)) (
   Br (decide (((v1.length : Nat) : Int) > (0 : Int))) (Q (decide (((v1.length : Nat) : Int) ≤ (24 : Int)))) (
    Q false)))
theorem walk_lin_vector {v1 : List GIval} {r : Bool} (h : W_lin_vector v1 (fun r' => r' = r)) : Ev_lin_vector v1 r := by
  unfold W_lin_vector at h
  refine intr (L := [(0, .dat (.sl 35 2 (List.map GIval.enc v1)))]) Tryz.func107 Tryz.ntmps107 ?_
  refine sN (pB rfl (dn (AWp.seq (AWp.seq (rN (pS rfl (al (((v1.length : Nat) : Int)) rfl (pI rfl (dn (AWp.block ?_))))))))))
  obtain ⟨I61, x62, hz63, hr64⟩ := h
  refine AWp.loop (I := fun p : Int => mkSt [(0, .dat (.sl 35 2 (List.map GIval.enc v1))), (5, .dat (.sl 35 2 (List.map GIval.enc v1))), (6, .dat (.v (.int .i64 ((v1.length : Nat) : Int)))), (7, .dat (.v (.int .i64 p)))] []) (Inv := fun p => I61 p) (μ := fun p => x62 p) (x0 := (0 : Int)) hz63 sl (fun p hp => ?_)
  have h := hr64 p hp
  revert h; clear hp; generalize p = x44; intro h
  refine sN (pW rfl (dn (AWp.seq (cB h (fun h => ?_) (fun h => ?_)))))
  · refine AWp.skip (AWp.seq (AWp.block (AWp.seq (rW (kI h map_get rfl rfl rfl rfl rfl rfl rfl fun x52 h => ?_)))))
    refine pT rfl (al0 ?_)
    refine st (v := .dat (.st _ _)) ?_
    refine dn (sN (pT rfl (kC h rfl ⟨.inl rfl, trivial⟩ rfl fun x54 h => ?_)))
    refine pB rfl (dn (cB h (fun h => ?_) (fun h => ?_)))
    · refine sN (pB rfl (dn (AWp.ret ?_)))
      subst h
      exact ⟨_, rfl, rfl⟩
    refine AWp.skip (rN ?_)
    obtain ⟨x56, ex56, h⟩ := h.get
    refine ai ex56 rfl (pI rfl (dn ?_))
    exact ⟨x56, h.1, h.2, sl⟩
  refine AWp.exit ?_
  refine sN (pS rfl (al (((v1.length : Nat) : Int)) rfl (pB rfl (pB rfl (sB 18 h (fun h => ?_) (fun h => ?_))))))
  · refine pS rfl (al (((v1.length : Nat) : Int)) rfl (pB rfl (pB rfl (pB rfl (dn (AWp.ret ?_))))))
    subst h
    exact ⟨_, rfl, rfl⟩
  refine fo 3 rfl (pB rfl (pB rfl (dn (AWp.ret ?_))))
  subst h
  exact ⟨_, rfl, rfl⟩
end Go.Sim.YtlkpbnhinnhlfaaGreat
