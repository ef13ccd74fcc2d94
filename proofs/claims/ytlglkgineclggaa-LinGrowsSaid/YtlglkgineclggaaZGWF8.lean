/- What is proved: functions of the program compute what plain statements tell. -/
import Derived.Test.YtlglkgineclggaaZGWE
namespace Go.Sim.Ytlglkgineclggaa
open Go.RowKit Go.Proofs Go.Proofs.Try
set_option maxRecDepth 100000
def W_lin_Norm (m1 : List (List GIval)) (Q : Nat × Int → Prop) : Prop :=
  Call (Ev_lin_matrix m1) fun x2 =>
  Br (!x2) (Q ((0 : Nat), (1 : Int))) (
    Loop2 (0 : Nat) (0 : Int) (fun (most517 : Nat) (x518 : Int) next519 =>
      Br (decide (x518 < ((m1.length : Nat) : Int))) (
        At m1 x518 fun x604 =>
        Loop2 (0 : Nat) (0 : Int) (fun (sum663 : Nat) (x664 : Int) next665 =>
          Br (decide (x664 < ((x604.length : Nat) : Int))) (
            At x604 x664 fun x674 =>
            Call (Ev_ival_Mag x674) fun x676 =>
            Call (Ev_ulp_Add sum663 x676 (1 : Int)) fun x678 =>
            Let (IntKind.i64.wrap (x664 + (1 : Int))) fun x680 =>
            next665 x678 x680) (
            FMx most517 sum663 fun x681 =>
            Let (IntKind.i64.wrap (x518 + (1 : Int))) fun x682 =>
            next519 x681 x682))) (
        Q (most517, (0 : Int)))))
theorem walk_lin_Norm {m1 : List (List GIval)} {r : Nat × Int} (h : W_lin_Norm m1 (fun r' => r' = r)) : Ev_lin_Norm m1 r := by
  unfold W_lin_Norm at h
  refine AFn.intro' (L := [(0, .dat (.sl 34 1 (List.map (eSl 36 2 GIval.enc) m1)))]) tabOk Try.func9 rfl rfl Try.ntmps9 rfl rfl rfl ?_
  refine AWp.seq ?_
  refine AWp.regionN (fun _ => false) rfl ?_
  refine pF rfl rfl rfl ?_
  refine pI rfl rfl rfl ?_
  refine AOps.done ?_
  refine AWp.seq ?_
  refine AWp.seq ?_
  refine AWp.regionN (fun _ => false) rfl ?_
  refine pS rfl rfl rfl ?_
  obtain ⟨x2, hc3, h⟩ := h
  refine AOps.call hc3 rfl rfl rfl ⟨.inl rfl, trivial⟩ ?_
  refine pB rfl rfl rfl ?_
  refine AOps.done ?_
  refine AWp.cond rfl (fun e => ?_) (fun e => ?_)
  · replace h := h.1 e
    refine AWp.seq ?_
    refine AWp.regionN (fun _ => false) rfl ?_
    refine pF rfl rfl rfl ?_
    refine pI rfl rfl rfl ?_
    refine AOps.done ?_
    refine AWp.ret ?_
    subst h
    exact ⟨_, rfl, rfl⟩
  · replace h := h.2 e
    refine AWp.skip ?_
    refine AWp.seq ?_
    refine AWp.regionN (fun _ => false) rfl ?_
    refine pF rfl rfl rfl ?_
    refine AOps.done ?_
    refine AWp.seq ?_
    refine AWp.seq ?_
    refine AWp.regionN (fun _ => false) rfl ?_
    refine pS rfl rfl rfl ?_
    refine AOps.i (j := ((m1.length : Nat) : Int)) tabOk rfl rfl rfl (by first | (rw [List.length_map]; done) | rfl) ?_
    refine pI rfl rfl rfl ?_
    refine AOps.done ?_
    refine AWp.block ?_
    obtain ⟨I687, x688, hz689, hr690⟩ := h
    refine AWp.loop (I := fun p : Nat × Int => mkSt [(4, .dat (.v (.float .f64 p.1))), (13, .dat (.sl 34 1 (List.map (eSl 36 2 GIval.enc) m1))), (14, .dat (.v (.int .i64 ((m1.length : Nat) : Int)))), (15, .dat (.v (.int .i64 p.2)))] []) (Inv := fun p => I687 p.1 p.2) (μ := fun p => x688 p.1 p.2) (x0 := ⟨(0 : Nat), (0 : Int)⟩) hz689 (Sub.list (fun i => i) rfl rfl ⟨rfl, rfl, rfl, rfl, trivial⟩ trivial) (fun p hp => ?_)
    obtain ⟨most517, x518⟩ := p
    have h := hr690 most517 x518 hp
    refine AWp.seq ?_
    refine AWp.regionN (fun _ => false) rfl ?_
    refine pW rfl rfl rfl ?_
    refine AOps.done ?_
    refine AWp.seq ?_
    refine AWp.cond rfl (fun e => ?_) (fun e => ?_)
    · replace h := h.1 e
      refine AWp.skip ?_
      refine AWp.seq ?_
      refine AWp.block ?_
      refine AWp.seq ?_
      refine AWp.regionN (fun _ => false) rfl ?_
      obtain ⟨hi603, x604, hx605, h⟩ := h
      refine AOps.idx tabOk (z := .sl 36 2 (List.map GIval.enc x604)) rfl rfl rfl rfl rfl rfl rfl rfl hi603 (map_get hx605) ?_
      refine pS rfl rfl rfl ?_
      refine pS rfl rfl rfl ?_
      refine AOps.done ?_
      refine AWp.seq ?_
      refine AWp.regionN (fun _ => false) rfl ?_
      refine pF rfl rfl rfl ?_
      refine AOps.done ?_
      refine AWp.seq ?_
      refine AWp.seq ?_
      refine AWp.regionN (fun _ => false) rfl ?_
      refine pS rfl rfl rfl ?_
      refine AOps.i (j := ((x604.length : Nat) : Int)) tabOk rfl rfl rfl (by first | (rw [List.length_map]; done) | rfl) ?_
      refine pI rfl rfl rfl ?_
      refine AOps.done ?_
      refine AWp.block ?_
      obtain ⟨I683, x684, hz685, hr686⟩ := h
      refine AWp.loop (I := fun p : Nat × Int => mkSt [(4, .dat (.v (.float .f64 most517))), (7, .dat (.v (.float .f64 p.1))), (13, .dat (.sl 34 1 (List.map (eSl 36 2 GIval.enc) m1))), (14, .dat (.v (.int .i64 ((m1.length : Nat) : Int)))), (15, .dat (.v (.int .i64 x518))), (19, .dat (.sl 36 2 (List.map GIval.enc x604))), (20, .dat (.v (.int .i64 ((x604.length : Nat) : Int)))), (21, .dat (.v (.int .i64 p.2)))] []) (Inv := fun p => I683 p.1 p.2) (μ := fun p => x684 p.1 p.2) (x0 := ⟨(0 : Nat), (0 : Int)⟩) hz685 (Sub.list (fun i => i) rfl rfl ⟨rfl, rfl, rfl, rfl, rfl, rfl, rfl, rfl, trivial⟩ trivial) (fun p hp => ?_)
      obtain ⟨sum663, x664⟩ := p
      have h := hr686 sum663 x664 hp
      refine AWp.seq ?_
      refine AWp.regionN (fun _ => false) rfl ?_
      refine pW rfl rfl rfl ?_
      refine AOps.done ?_
      refine AWp.seq ?_
      refine AWp.cond rfl (fun e => ?_) (fun e => ?_)
      · replace h := h.1 e
        refine AWp.skip ?_
        refine AWp.seq ?_
        refine AWp.block ?_
        refine AWp.seq ?_
        refine AWp.regionN (fun o => writes o) rfl ?_
        obtain ⟨hi673, x674, hx675, h⟩ := h
        refine AOps.idx tabOk (z := GIval.enc x674) rfl rfl rfl rfl rfl rfl rfl rfl hi673 (map_get hx675) ?_
        refine pT rfl rfl rfl ?_
        refine AOps.alloc tabOk rfl rfl rfl rfl rfl ?_
        refine AOps.store tabOk (v := .dat (.st _ _)) rfl rfl rfl rfl rfl rfl rfl rfl rfl rfl rfl rfl rfl ?_
        refine AOps.done ?_
        refine AWp.regionN (fun _ => false) rfl ?_
        refine pF rfl rfl rfl ?_
        refine pT rfl rfl rfl ?_
        obtain ⟨x676, hc677, h⟩ := h
        refine AOps.call hc677 rfl rfl rfl ⟨.inl rfl, trivial⟩ ?_
        obtain ⟨x678, hc679, h⟩ := h
        refine AOps.call hc679 rfl rfl rfl ⟨.inl rfl, .inl rfl, .inl rfl, trivial⟩ ?_
        refine pF rfl rfl rfl ?_
        refine AOps.done ?_
        refine AWp.regionN (fun _ => false) rfl ?_
        obtain ⟨x680, ex680, h⟩ := h.get
        refine AOps.i tabOk rfl rfl rfl ex680 ?_
        refine pI rfl rfl rfl ?_
        refine AOps.done ?_
        exact ⟨⟨x678, x680⟩, h.1, h.2, (Sub.list (fun i => i) rfl rfl ⟨rfl, rfl, rfl, rfl, rfl, rfl, rfl, rfl, trivial⟩ trivial)⟩
      · replace h := h.2 e
        refine AWp.exit ?_
        refine AWp.regionN (fun _ => false) rfl ?_
        refine pF rfl rfl rfl ?_
        refine pF rfl rfl rfl ?_
        obtain ⟨hq, x681, ex681, h⟩ := h.get
        refine AOps.v rfl rfl (Step.fmax rfl rfl rfl hq ex681) ?_
        refine pF rfl rfl rfl ?_
        refine AOps.done ?_
        refine AWp.regionN (fun _ => false) rfl ?_
        obtain ⟨x682, ex682, h⟩ := h.get
        refine AOps.i tabOk rfl rfl rfl ex682 ?_
        refine pI rfl rfl rfl ?_
        refine AOps.done ?_
        exact ⟨⟨x681, x682⟩, h.1, h.2, (Sub.list (fun i => i) rfl rfl ⟨rfl, rfl, rfl, rfl, trivial⟩ trivial)⟩
    · replace h := h.2 e
      refine AWp.exit ?_
      refine AWp.seq ?_
      refine AWp.regionN (fun _ => false) rfl ?_
      refine pF rfl rfl rfl ?_
      refine pF rfl rfl rfl ?_
      refine pI rfl rfl rfl ?_
      refine AOps.done ?_
      refine AWp.ret ?_
      subst h
      exact ⟨_, rfl, rfl⟩
def W_ref04_Matrix (m1 : List (List GIval)) (Q : Bool → Prop) : Prop :=
  Loop1 (0 : Int) (fun (x116 : Int) next117 =>
    Br (decide (x116 < ((m1.length : Nat) : Int))) (
      At m1 x116 fun x136 =>
      Call (Ev_ref04_Vector x136) fun x145 =>
      Br (!x145) (Q false) (
        At m1 (0 : Int) fun x149 =>
        Br (((x136.length : Nat) : Int) != ((x149.length : Nat) : Int)) (Q false) (
          Let (IntKind.i64.wrap (x116 + (1 : Int))) fun x152 =>
          next117 x152))) (
      Br (decide (((m1.length : Nat) : Int) ≥ (1 : Int))) (Q (decide (((m1.length : Nat) : Int) ≤ (24 : Int)))) (
        Q false)))
theorem walk_ref04_Matrix {m1 : List (List GIval)} {r : Bool} (h : W_ref04_Matrix m1 (fun r' => r' = r)) : Ev_ref04_Matrix m1 r := by
  unfold W_ref04_Matrix at h
  refine AFn.intro' (L := [(0, .dat (.sl 34 1 (List.map (eSl 36 2 GIval.enc) m1)))]) tabOk Try.func10 rfl rfl Try.ntmps10 rfl rfl rfl ?_
  refine AWp.seq ?_
  refine AWp.regionN (fun _ => false) rfl ?_
  refine pB rfl rfl rfl ?_
  refine AOps.done ?_
  refine AWp.seq ?_
  refine AWp.seq ?_
  refine AWp.regionN (fun _ => false) rfl ?_
  refine pS rfl rfl rfl ?_
  refine AOps.i (j := ((m1.length : Nat) : Int)) tabOk rfl rfl rfl (by first | (rw [List.length_map]; done) | rfl) ?_
  refine pI rfl rfl rfl ?_
  refine AOps.done ?_
  refine AWp.block ?_
  obtain ⟨I157, x158, hz159, hr160⟩ := h
  refine AWp.loop (I := fun p : Int => mkSt [(0, .dat (.sl 34 1 (List.map (eSl 36 2 GIval.enc) m1))), (5, .dat (.sl 34 1 (List.map (eSl 36 2 GIval.enc) m1))), (6, .dat (.v (.int .i64 ((m1.length : Nat) : Int)))), (7, .dat (.v (.int .i64 p)))] []) (Inv := fun p => I157 p) (μ := fun p => x158 p) (x0 := (0 : Int)) hz159 (Sub.list (fun i => i) rfl rfl ⟨rfl, rfl, rfl, rfl, trivial⟩ trivial) (fun p hp => ?_)
  have h := hr160 p hp
  revert h; clear hp; generalize p = x116; intro h
  refine AWp.seq ?_
  refine AWp.regionN (fun _ => false) rfl ?_
  refine pW rfl rfl rfl ?_
  refine AOps.done ?_
  refine AWp.seq ?_
  refine AWp.cond rfl (fun e => ?_) (fun e => ?_)
  · replace h := h.1 e
    refine AWp.skip ?_
    refine AWp.seq ?_
    refine AWp.block ?_
    refine AWp.seq ?_
    refine AWp.regionN (fun _ => false) rfl ?_
    obtain ⟨hi135, x136, hx137, h⟩ := h
    refine AOps.idx tabOk (z := .sl 36 2 (List.map GIval.enc x136)) rfl rfl rfl rfl rfl rfl rfl rfl hi135 (map_get hx137) ?_
    refine pS rfl rfl rfl ?_
    refine pS rfl rfl rfl ?_
    refine AOps.done ?_
    refine AWp.seq ?_
    refine AWp.regionN (fun _ => false) rfl ?_
    refine pS rfl rfl rfl ?_
    obtain ⟨x145, hc146, h⟩ := h
    refine AOps.call hc146 rfl rfl rfl ⟨.inl rfl, trivial⟩ ?_
    refine pB rfl rfl rfl ?_
    refine pB rfl rfl rfl ?_
    refine AOps.splitB 14 rfl (fun e => ?_) (fun e => ?_)
    · replace h := h.1 e
      refine AOps.off rfl rfl ?_
      refine AOps.off rfl rfl ?_
      refine AOps.off rfl rfl ?_
      refine AOps.off rfl rfl ?_
      refine AOps.off rfl rfl ?_
      refine AOps.off rfl rfl ?_
      refine AOps.off rfl rfl ?_
      refine pB rfl rfl rfl ?_
      refine AOps.done ?_
      refine AWp.condT rfl ?_
      refine AWp.seq ?_
      refine AWp.regionN (fun _ => false) rfl ?_
      refine pB rfl rfl rfl ?_
      refine AOps.done ?_
      refine AWp.ret ?_
      subst h
      exact ⟨_, rfl, rfl⟩
    · replace h := h.2 e
      refine pS rfl rfl rfl ?_
      refine AOps.i (j := ((x136.length : Nat) : Int)) tabOk rfl rfl rfl (by first | (rw [List.length_map]; done) | rfl) ?_
      refine pS rfl rfl rfl ?_
      obtain ⟨hi148, x149, hx150, h⟩ := h
      refine AOps.idx tabOk (z := .sl 36 2 (List.map GIval.enc x149)) rfl rfl rfl rfl rfl rfl rfl rfl hi148 (map_get hx150) ?_
      refine pS rfl rfl rfl ?_
      refine AOps.i (j := ((x149.length : Nat) : Int)) tabOk rfl rfl rfl (by first | (rw [List.length_map]; done) | rfl) ?_
      refine pB rfl rfl rfl ?_
      refine pB rfl rfl rfl ?_
      refine AOps.done ?_
      refine AWp.cond rfl (fun e => ?_) (fun e => ?_)
      · replace h := h.1 e
        refine AWp.seq ?_
        refine AWp.regionN (fun _ => false) rfl ?_
        refine pB rfl rfl rfl ?_
        refine AOps.done ?_
        refine AWp.ret ?_
        subst h
        exact ⟨_, rfl, rfl⟩
      · replace h := h.2 e
        refine AWp.skip ?_
        refine AWp.regionN (fun _ => false) rfl ?_
        obtain ⟨x152, ex152, h⟩ := h.get
        refine AOps.i tabOk rfl rfl rfl ex152 ?_
        refine pI rfl rfl rfl ?_
        refine AOps.done ?_
        exact ⟨x152, h.1, h.2, (Sub.list (fun i => i) rfl rfl ⟨rfl, rfl, rfl, rfl, trivial⟩ trivial)⟩
  · replace h := h.2 e
    refine AWp.exit ?_
    refine AWp.seq ?_
    refine AWp.regionN (fun _ => false) rfl ?_
    refine pS rfl rfl rfl ?_
    refine AOps.i (j := ((m1.length : Nat) : Int)) tabOk rfl rfl rfl (by first | (rw [List.length_map]; done) | rfl) ?_
    refine pB rfl rfl rfl ?_
    refine pB rfl rfl rfl ?_
    refine AOps.splitB 27 rfl (fun e => ?_) (fun e => ?_)
    · replace h := h.1 e
      refine pS rfl rfl rfl ?_
      refine AOps.i (j := ((m1.length : Nat) : Int)) tabOk rfl rfl rfl (by first | (rw [List.length_map]; done) | rfl) ?_
      refine pB rfl rfl rfl ?_
      refine pB rfl rfl rfl ?_
      refine pB rfl rfl rfl ?_
      refine AOps.done ?_
      refine AWp.ret ?_
      subst h
      exact ⟨_, rfl, rfl⟩
    · replace h := h.2 e
      refine AOps.off rfl rfl ?_
      refine AOps.off rfl rfl ?_
      refine AOps.off rfl rfl ?_
      refine pB rfl rfl rfl ?_
      refine pB rfl rfl rfl ?_
      refine AOps.done ?_
      refine AWp.ret ?_
      subst h
      exact ⟨_, rfl, rfl⟩
def W_lin_One (n1 : Int) (Q : List (List GIval) → Prop) : Prop :=
  Br (decide (n1 < (1 : Int))) (Q ([] : List (List GIval))) (
    Br (decide (n1 > (24 : Int))) (Q ([] : List (List GIval))) (
      Call (Ev_lin_unit n1) fun x2 =>
      Call (Ev_lin_Points x2) fun x4 =>
      Q x4))
theorem walk_lin_One {n1 : Int} {r : List (List GIval)} (h : W_lin_One n1 (fun r' => r' = r)) : Ev_lin_One n1 r := by
  unfold W_lin_One at h
  refine AFn.intro' (L := [(0, .dat (.v (.int .i64 n1)))]) tabOk Try.func12 rfl rfl Try.ntmps12 rfl rfl rfl ?_
  refine AWp.seq ?_
  refine AWp.regionN (fun _ => false) rfl ?_
  refine pS rfl rfl rfl ?_
  refine AOps.done ?_
  refine AWp.seq ?_
  refine AWp.seq ?_
  refine AWp.regionN (fun _ => false) rfl ?_
  refine pI rfl rfl rfl ?_
  refine pB rfl rfl rfl ?_
  refine pB rfl rfl rfl ?_
  refine AOps.splitB 5 rfl (fun e => ?_) (fun e => ?_)
  · replace h := h.1 e
    refine AOps.off rfl rfl ?_
    refine AOps.off rfl rfl ?_
    refine pB rfl rfl rfl ?_
    refine AOps.done ?_
    refine AWp.condT rfl ?_
    refine AWp.seq ?_
    refine AWp.regionN (fun _ => false) rfl ?_
    refine pS rfl rfl rfl ?_
    refine AOps.done ?_
    refine AWp.ret ?_
    subst h
    exact ⟨_, rfl, rfl⟩
  · replace h := h.2 e
    refine pI rfl rfl rfl ?_
    refine pB rfl rfl rfl ?_
    refine pB rfl rfl rfl ?_
    refine AOps.done ?_
    refine AWp.cond rfl (fun e => ?_) (fun e => ?_)
    · replace h := h.1 e
      refine AWp.seq ?_
      refine AWp.regionN (fun _ => false) rfl ?_
      refine pS rfl rfl rfl ?_
      refine AOps.done ?_
      refine AWp.ret ?_
      subst h
      exact ⟨_, rfl, rfl⟩
    · replace h := h.2 e
      refine AWp.skip ?_
      refine AWp.seq ?_
      refine AWp.regionN (fun _ => false) rfl ?_
      refine pI rfl rfl rfl ?_
      obtain ⟨x2, hc3, h⟩ := h
      refine AOps.call hc3 rfl rfl rfl ⟨.inl rfl, trivial⟩ ?_
      obtain ⟨x4, hc5, h⟩ := h
      refine AOps.call hc5 rfl rfl rfl ⟨.inl rfl, trivial⟩ ?_
      refine pS rfl rfl rfl ?_
      refine AOps.done ?_
      refine AWp.ret ?_
      subst h
      exact ⟨_, rfl, rfl⟩
def W_lin_Dot (a1 : List GIval) (b2 : List GIval) (Q : GIval × Int → Prop) : Prop :=
  Call (Ev_lin_vector a1) fun x9 =>
  Br (!x9) (Q (GIval.zero, (1 : Int))) (
    Call (Ev_lin_vector b2) fun x11 =>
    Br (!x11) (Q (GIval.zero, (1 : Int))) (
      Br (((a1.length : Nat) : Int) != ((b2.length : Nat) : Int)) (Q (GIval.zero, (1 : Int))) (
        Call (Ev_ival_Point (0 : Nat)) fun x15 =>
        Loop2 x15 (0 : Int) (fun (sum94 : GIval) (x95 : Int) next96 =>
          Br (decide (x95 < ((a1.length : Nat) : Int))) (
            At a1 x95 fun x108 =>
            At b2 x95 fun x111 =>
            Call (Ev_ival_Mul x108 x111) fun x113 =>
            Call (Ev_ival_Add sum94 x113) fun x115 =>
            Let (IntKind.i64.wrap (x95 + (1 : Int))) fun x117 =>
            next96 x115 x117) (
            Q (sum94, (0 : Int)))))))
theorem walk_lin_Dot {a1 : List GIval} {b2 : List GIval} {r : GIval × Int} (h : W_lin_Dot a1 b2 (fun r' => r' = r)) : Ev_lin_Dot a1 b2 r := by
  unfold W_lin_Dot at h
  refine AFn.intro' (L := [(0, .dat (.sl 36 2 (List.map GIval.enc a1))), (1, .dat (.sl 36 2 (List.map GIval.enc b2)))]) tabOk Try.func17 rfl rfl Try.ntmps17 rfl rfl rfl ?_
  refine AWp.seq ?_
  refine AWp.regionN (fun _ => false) rfl ?_
  refine AOps.alloc tabOk rfl rfl rfl rfl rfl ?_
  refine pI rfl rfl rfl ?_
  refine AOps.done ?_
  refine AWp.seq ?_
  refine AWp.seq ?_
  refine AWp.regionN (fun _ => false) rfl ?_
  refine pS rfl rfl rfl ?_
  obtain ⟨x9, hc10, h⟩ := h
  refine AOps.call hc10 rfl rfl rfl ⟨.inl rfl, trivial⟩ ?_
  refine pB rfl rfl rfl ?_
  refine pB rfl rfl rfl ?_
  refine AOps.splitB 11 rfl (fun e => ?_) (fun e => ?_)
  · replace h := h.1 e
    refine AOps.off rfl rfl ?_
    refine AOps.off rfl rfl ?_
    refine AOps.off rfl rfl ?_
    refine pB rfl rfl rfl ?_
    refine pB rfl rfl rfl ?_
    refine AOps.off rfl rfl ?_
    refine AOps.off rfl rfl ?_
    refine AOps.off rfl rfl ?_
    refine AOps.off rfl rfl ?_
    refine AOps.off rfl rfl ?_
    refine pB rfl rfl rfl ?_
    refine AOps.done ?_
    refine AWp.condT rfl ?_
    refine AWp.seq ?_
    refine AWp.regionN (fun o => writes o) rfl ?_
    refine pT rfl rfl rfl ?_
    refine AOps.store tabOk (v := .dat (.st _ _)) rfl rfl rfl rfl rfl rfl rfl rfl rfl rfl rfl rfl rfl ?_
    refine pI rfl rfl rfl ?_
    refine AOps.done ?_
    refine AWp.ret ?_
    subst h
    exact ⟨_, rfl, rfl⟩
  · replace h := h.2 e
    refine pS rfl rfl rfl ?_
    obtain ⟨x11, hc12, h⟩ := h
    refine AOps.call hc12 rfl rfl rfl ⟨.inl rfl, trivial⟩ ?_
    refine pB rfl rfl rfl ?_
    refine pB rfl rfl rfl ?_
    refine pB rfl rfl rfl ?_
    refine AOps.splitB 16 rfl (fun e => ?_) (fun e => ?_)
    · replace h := h.1 e
      refine AOps.off rfl rfl ?_
      refine AOps.off rfl rfl ?_
      refine AOps.off rfl rfl ?_
      refine AOps.off rfl rfl ?_
      refine AOps.off rfl rfl ?_
      refine pB rfl rfl rfl ?_
      refine AOps.done ?_
      refine AWp.condT rfl ?_
      refine AWp.seq ?_
      refine AWp.regionN (fun o => writes o) rfl ?_
      refine pT rfl rfl rfl ?_
      refine AOps.store tabOk (v := .dat (.st _ _)) rfl rfl rfl rfl rfl rfl rfl rfl rfl rfl rfl rfl rfl ?_
      refine pI rfl rfl rfl ?_
      refine AOps.done ?_
      refine AWp.ret ?_
      subst h
      exact ⟨_, rfl, rfl⟩
    · replace h := h.2 e
      refine pS rfl rfl rfl ?_
      refine AOps.i (j := ((a1.length : Nat) : Int)) tabOk rfl rfl rfl (by first | (rw [List.length_map]; done) | rfl) ?_
      refine pS rfl rfl rfl ?_
      refine AOps.i (j := ((b2.length : Nat) : Int)) tabOk rfl rfl rfl (by first | (rw [List.length_map]; done) | rfl) ?_
      refine pB rfl rfl rfl ?_
      refine pB rfl rfl rfl ?_
      refine AOps.done ?_
      refine AWp.cond rfl (fun e => ?_) (fun e => ?_)
      · replace h := h.1 e
        refine AWp.seq ?_
        refine AWp.regionN (fun o => writes o) rfl ?_
        refine pT rfl rfl rfl ?_
        refine AOps.store tabOk (v := .dat (.st _ _)) rfl rfl rfl rfl rfl rfl rfl rfl rfl rfl rfl rfl rfl ?_
        refine pI rfl rfl rfl ?_
        refine AOps.done ?_
        refine AWp.ret ?_
        subst h
        exact ⟨_, rfl, rfl⟩
      · replace h := h.2 e
        refine AWp.skip ?_
        refine AWp.seq ?_
        refine AWp.regionN (fun o => writes o) rfl ?_
        obtain ⟨x15, hc16, h⟩ := h
        refine AOps.call hc16 rfl rfl rfl ⟨.inl rfl, trivial⟩ ?_
        refine AOps.alloc tabOk rfl rfl rfl rfl rfl ?_
        refine AOps.store tabOk (v := .dat (.st _ _)) rfl rfl rfl rfl rfl rfl rfl rfl rfl rfl rfl rfl rfl ?_
        refine AOps.done ?_
        refine AWp.seq ?_
        refine AWp.seq ?_
        refine AWp.regionN (fun _ => false) rfl ?_
        refine pS rfl rfl rfl ?_
        refine AOps.i (j := ((a1.length : Nat) : Int)) tabOk rfl rfl rfl (by first | (rw [List.length_map]; done) | rfl) ?_
        refine pI rfl rfl rfl ?_
        refine AOps.done ?_
        refine AWp.block ?_
        obtain ⟨I118, x119, hz120, hr121⟩ := h
        refine AWp.loop (I := fun p : GIval × Int => mkSt [(0, .dat (.sl 36 2 (List.map GIval.enc a1))), (1, .dat (.sl 36 2 (List.map GIval.enc b2))), (4, .pt 4 [] 0), (6, .pt 6 [] 0), (26, .dat (.v (.int .i64 ((a1.length : Nat) : Int)))), (27, .dat (.v (.int .i64 p.2)))] [(4, .box 36 2 (.dat (GIval.enc GIval.zero))), (6, .box 36 2 (.dat (GIval.enc p.1)))]) (Inv := fun p => I118 p.1 p.2) (μ := fun p => x119 p.1 p.2) (x0 := ⟨x15, (0 : Int)⟩) hz120 (Sub.list (fun i => i) rfl rfl ⟨rfl, rfl, rfl, rfl, rfl, rfl, trivial⟩ ⟨rfl, rfl, trivial⟩) (fun p hp => ?_)
        obtain ⟨sum94, x95⟩ := p
        have h := hr121 sum94 x95 hp
        refine AWp.seq ?_
        refine AWp.regionN (fun _ => false) rfl ?_
        refine pW rfl rfl rfl ?_
        refine AOps.done ?_
        refine AWp.seq ?_
        refine AWp.cond rfl (fun e => ?_) (fun e => ?_)
        · replace h := h.1 e
          refine AWp.skip ?_
          refine AWp.seq ?_
          refine AWp.block ?_
          refine AWp.seq ?_
          refine AWp.regionN (fun _ => false) rfl ?_
          refine pI rfl rfl rfl ?_
          refine pI rfl rfl rfl ?_
          refine AOps.done ?_
          refine AWp.regionD (fun o => writes o) mixed (by decide +kernel) rfl ?_
          refine pT rfl rfl rfl ?_
          refine pS rfl rfl rfl ?_
          refine pI rfl rfl rfl ?_
          obtain ⟨hi107, x108, hx109, h⟩ := h
          refine AOps.idx tabOk (z := GIval.enc x108) rfl rfl rfl rfl rfl rfl rfl rfl hi107 (map_get hx109) ?_
          refine pT rfl rfl rfl ?_
          refine pS rfl rfl rfl ?_
          refine pI rfl rfl rfl ?_
          obtain ⟨hi110, x111, hx112, h⟩ := h
          refine AOps.idx tabOk (z := GIval.enc x111) rfl rfl rfl rfl rfl rfl rfl rfl hi110 (map_get hx112) ?_
          refine pT rfl rfl rfl ?_
          obtain ⟨x113, hc114, h⟩ := h
          refine AOps.call hc114 rfl rfl rfl ⟨.inl rfl, .inl rfl, trivial⟩ ?_
          obtain ⟨x115, hc116, h⟩ := h
          refine AOps.call hc116 rfl rfl rfl ⟨.inl rfl, .inl rfl, trivial⟩ ?_
          refine AOps.store tabOk (v := .dat (.st _ _)) rfl rfl rfl rfl rfl rfl rfl rfl rfl rfl rfl rfl rfl ?_
          refine AOps.done ?_
          refine AWp.regionN (fun _ => false) rfl ?_
          obtain ⟨x117, ex117, h⟩ := h.get
          refine AOps.i tabOk rfl rfl rfl ex117 ?_
          refine pI rfl rfl rfl ?_
          refine AOps.done ?_
          exact ⟨⟨x115, x117⟩, h.1, h.2, (Sub.list (fun i => i) rfl rfl ⟨rfl, rfl, rfl, rfl, rfl, rfl, trivial⟩ ⟨rfl, rfl, trivial⟩)⟩
        · replace h := h.2 e
          refine AWp.exit ?_
          refine AWp.seq ?_
          refine AWp.regionN (fun o => writes o) rfl ?_
          refine pT rfl rfl rfl ?_
          refine AOps.store tabOk (v := .dat (.st _ _)) rfl rfl rfl rfl rfl rfl rfl rfl rfl rfl rfl rfl rfl ?_
          refine pI rfl rfl rfl ?_
          refine AOps.done ?_
          refine AWp.ret ?_
          subst h
          exact ⟨_, rfl, rfl⟩
def W_ref04_Vector (v1 : List GIval) (Q : Bool → Prop) : Prop :=
  Loop1 (0 : Int) (fun (x44 : Int) next45 =>
    Br (decide (x44 < ((v1.length : Nat) : Int))) (
      At v1 x44 fun x52 =>
      Call (Ev_ref02_Right x52) fun x54 =>
      Br (!x54) (Q false) (
        Let (IntKind.i64.wrap (x44 + (1 : Int))) fun x56 =>
        next45 x56)) (
      Br (decide (((v1.length : Nat) : Int) ≥ (1 : Int))) (Q (decide (((v1.length : Nat) : Int) ≤ (24 : Int)))) (
        Q false)))
theorem walk_ref04_Vector {v1 : List GIval} {r : Bool} (h : W_ref04_Vector v1 (fun r' => r' = r)) : Ev_ref04_Vector v1 r := by
  unfold W_ref04_Vector at h
  refine AFn.intro' (L := [(0, .dat (.sl 36 2 (List.map GIval.enc v1)))]) tabOk Try.func19 rfl rfl Try.ntmps19 rfl rfl rfl ?_
  refine AWp.seq ?_
  refine AWp.regionN (fun _ => false) rfl ?_
  refine pB rfl rfl rfl ?_
  refine AOps.done ?_
  refine AWp.seq ?_
  refine AWp.seq ?_
  refine AWp.regionN (fun _ => false) rfl ?_
  refine pS rfl rfl rfl ?_
  refine AOps.i (j := ((v1.length : Nat) : Int)) tabOk rfl rfl rfl (by first | (rw [List.length_map]; done) | rfl) ?_
  refine pI rfl rfl rfl ?_
  refine AOps.done ?_
  refine AWp.block ?_
  obtain ⟨I61, x62, hz63, hr64⟩ := h
  refine AWp.loop (I := fun p : Int => mkSt [(0, .dat (.sl 36 2 (List.map GIval.enc v1))), (5, .dat (.sl 36 2 (List.map GIval.enc v1))), (6, .dat (.v (.int .i64 ((v1.length : Nat) : Int)))), (7, .dat (.v (.int .i64 p)))] []) (Inv := fun p => I61 p) (μ := fun p => x62 p) (x0 := (0 : Int)) hz63 (Sub.list (fun i => i) rfl rfl ⟨rfl, rfl, rfl, rfl, trivial⟩ trivial) (fun p hp => ?_)
  have h := hr64 p hp
  revert h; clear hp; generalize p = x44; intro h
  refine AWp.seq ?_
  refine AWp.regionN (fun _ => false) rfl ?_
  refine pW rfl rfl rfl ?_
  refine AOps.done ?_
  refine AWp.seq ?_
  refine AWp.cond rfl (fun e => ?_) (fun e => ?_)
  · replace h := h.1 e
    refine AWp.skip ?_
    refine AWp.seq ?_
    refine AWp.block ?_
    refine AWp.seq ?_
    refine AWp.regionN (fun o => writes o) rfl ?_
    obtain ⟨hi51, x52, hx53, h⟩ := h
    refine AOps.idx tabOk (z := GIval.enc x52) rfl rfl rfl rfl rfl rfl rfl rfl hi51 (map_get hx53) ?_
    refine pT rfl rfl rfl ?_
    refine AOps.alloc tabOk rfl rfl rfl rfl rfl ?_
    refine AOps.store tabOk (v := .dat (.st _ _)) rfl rfl rfl rfl rfl rfl rfl rfl rfl rfl rfl rfl rfl ?_
    refine AOps.done ?_
    refine AWp.seq ?_
    refine AWp.regionN (fun _ => false) rfl ?_
    refine pT rfl rfl rfl ?_
    obtain ⟨x54, hc55, h⟩ := h
    refine AOps.call hc55 rfl rfl rfl ⟨.inl rfl, trivial⟩ ?_
    refine pB rfl rfl rfl ?_
    refine AOps.done ?_
    refine AWp.cond rfl (fun e => ?_) (fun e => ?_)
    · replace h := h.1 e
      refine AWp.seq ?_
      refine AWp.regionN (fun _ => false) rfl ?_
      refine pB rfl rfl rfl ?_
      refine AOps.done ?_
      refine AWp.ret ?_
      subst h
      exact ⟨_, rfl, rfl⟩
    · replace h := h.2 e
      refine AWp.skip ?_
      refine AWp.regionN (fun _ => false) rfl ?_
      obtain ⟨x56, ex56, h⟩ := h.get
      refine AOps.i tabOk rfl rfl rfl ex56 ?_
      refine pI rfl rfl rfl ?_
      refine AOps.done ?_
      exact ⟨x56, h.1, h.2, (Sub.list (fun i => i) rfl rfl ⟨rfl, rfl, rfl, rfl, trivial⟩ trivial)⟩
  · replace h := h.2 e
    refine AWp.exit ?_
    refine AWp.seq ?_
    refine AWp.regionN (fun _ => false) rfl ?_
    refine pS rfl rfl rfl ?_
    refine AOps.i (j := ((v1.length : Nat) : Int)) tabOk rfl rfl rfl (by first | (rw [List.length_map]; done) | rfl) ?_
    refine pB rfl rfl rfl ?_
    refine pB rfl rfl rfl ?_
    refine AOps.splitB 18 rfl (fun e => ?_) (fun e => ?_)
    · replace h := h.1 e
      refine pS rfl rfl rfl ?_
      refine AOps.i (j := ((v1.length : Nat) : Int)) tabOk rfl rfl rfl (by first | (rw [List.length_map]; done) | rfl) ?_
      refine pB rfl rfl rfl ?_
      refine pB rfl rfl rfl ?_
      refine pB rfl rfl rfl ?_
      refine AOps.done ?_
      refine AWp.ret ?_
      subst h
      exact ⟨_, rfl, rfl⟩
    · replace h := h.2 e
      refine AOps.off rfl rfl ?_
      refine AOps.off rfl rfl ?_
      refine AOps.off rfl rfl ?_
      refine pB rfl rfl rfl ?_
      refine pB rfl rfl rfl ?_
      refine AOps.done ?_
      refine AWp.ret ?_
      subst h
      exact ⟨_, rfl, rfl⟩
def W_lin_Apply (m1 : List (List GIval)) (v2 : List GIval) (Q : (List GIval) × Int → Prop) : Prop :=
  Call (Ev_lin_matrix m1) fun x12 =>
  Br (!x12) (Q (([] : List GIval), (1 : Int))) (
    Call (Ev_lin_vector v2) fun x14 =>
    Br (!x14) (Q (([] : List GIval), (1 : Int))) (
      At m1 (0 : Int) fun x17 =>
      Br (((x17.length : Nat) : Int) != ((v2.length : Nat) : Int)) (Q (([] : List GIval), (1 : Int))) (
        Loop2 ([] : List GIval) (0 : Int) (fun (out72 : List GIval) (x73 : Int) next74 =>
          Br (decide (x73 < ((m1.length : Nat) : Int))) (
            At m1 x73 fun x82 =>
            Call (Ev_lin_Dot x82 v2) fun x84 =>
            App 16 out72 ([x84.1]) fun x86 =>
            Let (IntKind.i64.wrap (x73 + (1 : Int))) fun x87 =>
            next74 x86 x87) (
            Q (out72, (0 : Int)))))))
theorem walk_lin_Apply {m1 : List (List GIval)} {v2 : List GIval} {r : (List GIval) × Int} (h : W_lin_Apply m1 v2 (fun r' => r' = r)) : Ev_lin_Apply m1 v2 r := by
  unfold W_lin_Apply at h
  refine AFn.intro' (L := [(0, .dat (.sl 34 1 (List.map (eSl 36 2 GIval.enc) m1))), (1, .dat (.sl 36 2 (List.map GIval.enc v2)))]) tabOk Try.func22 rfl rfl Try.ntmps22 rfl rfl rfl ?_
  refine AWp.seq ?_
  refine AWp.regionN (fun _ => false) rfl ?_
  refine pS rfl rfl rfl ?_
  refine pI rfl rfl rfl ?_
  refine AOps.done ?_
  refine AWp.seq ?_
  refine AWp.seq ?_
  refine AWp.regionN (fun _ => false) rfl ?_
  refine pS rfl rfl rfl ?_
  obtain ⟨x12, hc13, h⟩ := h
  refine AOps.call hc13 rfl rfl rfl ⟨.inl rfl, trivial⟩ ?_
  refine pB rfl rfl rfl ?_
  refine pB rfl rfl rfl ?_
  refine AOps.splitB 14 rfl (fun e => ?_) (fun e => ?_)
  · replace h := h.1 e
    refine AOps.off rfl rfl ?_
    refine AOps.off rfl rfl ?_
    refine AOps.off rfl rfl ?_
    refine pB rfl rfl rfl ?_
    refine pB rfl rfl rfl ?_
    refine AOps.off rfl rfl ?_
    refine AOps.off rfl rfl ?_
    refine AOps.off rfl rfl ?_
    refine AOps.off rfl rfl ?_
    refine AOps.off rfl rfl ?_
    refine AOps.off rfl rfl ?_
    refine AOps.off rfl rfl ?_
    refine pB rfl rfl rfl ?_
    refine AOps.done ?_
    refine AWp.condT rfl ?_
    refine AWp.seq ?_
    refine AWp.regionN (fun _ => false) rfl ?_
    refine pS rfl rfl rfl ?_
    refine pI rfl rfl rfl ?_
    refine AOps.done ?_
    refine AWp.ret ?_
    subst h
    exact ⟨_, rfl, rfl⟩
  · replace h := h.2 e
    refine pS rfl rfl rfl ?_
    obtain ⟨x14, hc15, h⟩ := h
    refine AOps.call hc15 rfl rfl rfl ⟨.inl rfl, trivial⟩ ?_
    refine pB rfl rfl rfl ?_
    refine pB rfl rfl rfl ?_
    refine pB rfl rfl rfl ?_
    refine AOps.splitB 19 rfl (fun e => ?_) (fun e => ?_)
    · replace h := h.1 e
      refine AOps.off rfl rfl ?_
      refine AOps.off rfl rfl ?_
      refine AOps.off rfl rfl ?_
      refine AOps.off rfl rfl ?_
      refine AOps.off rfl rfl ?_
      refine AOps.off rfl rfl ?_
      refine AOps.off rfl rfl ?_
      refine pB rfl rfl rfl ?_
      refine AOps.done ?_
      refine AWp.condT rfl ?_
      refine AWp.seq ?_
      refine AWp.regionN (fun _ => false) rfl ?_
      refine pS rfl rfl rfl ?_
      refine pI rfl rfl rfl ?_
      refine AOps.done ?_
      refine AWp.ret ?_
      subst h
      exact ⟨_, rfl, rfl⟩
    · replace h := h.2 e
      refine pS rfl rfl rfl ?_
      obtain ⟨hi16, x17, hx18, h⟩ := h
      refine AOps.idx tabOk (z := .sl 36 2 (List.map GIval.enc x17)) rfl rfl rfl rfl rfl rfl rfl rfl hi16 (map_get hx18) ?_
      refine pS rfl rfl rfl ?_
      refine AOps.i (j := ((x17.length : Nat) : Int)) tabOk rfl rfl rfl (by first | (rw [List.length_map]; done) | rfl) ?_
      refine pS rfl rfl rfl ?_
      refine AOps.i (j := ((v2.length : Nat) : Int)) tabOk rfl rfl rfl (by first | (rw [List.length_map]; done) | rfl) ?_
      refine pB rfl rfl rfl ?_
      refine pB rfl rfl rfl ?_
      refine AOps.done ?_
      refine AWp.cond rfl (fun e => ?_) (fun e => ?_)
      · replace h := h.1 e
        refine AWp.seq ?_
        refine AWp.regionN (fun _ => false) rfl ?_
        refine pS rfl rfl rfl ?_
        refine pI rfl rfl rfl ?_
        refine AOps.done ?_
        refine AWp.ret ?_
        subst h
        exact ⟨_, rfl, rfl⟩
      · replace h := h.2 e
        refine AWp.skip ?_
        refine AWp.seq ?_
        refine AWp.regionN (fun _ => false) rfl ?_
        refine AOps.nilown tabOk rfl rfl rfl rfl rfl rfl ?_
        refine AOps.done ?_
        refine AWp.seq ?_
        refine AWp.seq ?_
        refine AWp.regionN (fun _ => false) rfl ?_
        refine pS rfl rfl rfl ?_
        refine AOps.i (j := ((m1.length : Nat) : Int)) tabOk rfl rfl rfl (by first | (rw [List.length_map]; done) | rfl) ?_
        refine pI rfl rfl rfl ?_
        refine AOps.done ?_
        refine AWp.block ?_
        obtain ⟨I88, x89, hz90, hr91⟩ := h
        refine AWp.loop (I := fun p : (List GIval) × Int => mkSt [(1, .dat (.sl 36 2 (List.map GIval.enc v2))), (6, .oref 1006), (28, .dat (.sl 34 1 (List.map (eSl 36 2 GIval.enc) m1))), (29, .dat (.v (.int .i64 ((m1.length : Nat) : Int)))), (30, .dat (.v (.int .i64 p.2)))] [(1006, .row 36 2 (List.map GIval.enc p.1))]) (Inv := fun p => I88 p.1 p.2) (μ := fun p => x89 p.1 p.2) (x0 := ⟨([] : List GIval), (0 : Int)⟩) hz90 (Sub.list (fun i => (if Nat.beq i 1006 then 6 else i)) rfl rfl ⟨rfl, rfl, rfl, rfl, rfl, trivial⟩ ⟨rfl, trivial⟩) (fun p hp => ?_)
        obtain ⟨out72, x73⟩ := p
        have h := hr91 out72 x73 hp
        refine AWp.seq ?_
        refine AWp.regionN (fun _ => false) rfl ?_
        refine pW rfl rfl rfl ?_
        refine AOps.done ?_
        refine AWp.seq ?_
        refine AWp.cond rfl (fun e => ?_) (fun e => ?_)
        · replace h := h.1 e
          refine AWp.skip ?_
          refine AWp.seq ?_
          refine AWp.block ?_
          refine AWp.seq ?_
          refine AWp.regionN (fun _ => false) rfl ?_
          obtain ⟨hi81, x82, hx83, h⟩ := h
          refine AOps.idx tabOk (z := .sl 36 2 (List.map GIval.enc x82)) rfl rfl rfl rfl rfl rfl rfl rfl hi81 (map_get hx83) ?_
          refine pS rfl rfl rfl ?_
          refine pS rfl rfl rfl ?_
          refine AOps.done ?_
          refine AWp.seq ?_
          refine AWp.regionN (fun o => writes o) rfl ?_
          refine pS rfl rfl rfl ?_
          refine pS rfl rfl rfl ?_
          obtain ⟨x84, hc85, h⟩ := h
          refine AOps.call hc85 rfl rfl rfl ⟨.inl rfl, .inl rfl, trivial⟩ ?_
          refine pU rfl rfl rfl ?_
          refine pT rfl rfl rfl ?_
          refine pI rfl rfl rfl ?_
          refine AOps.alloc tabOk rfl rfl rfl rfl rfl ?_
          refine AOps.store tabOk (v := .dat (.st _ _)) rfl rfl rfl rfl rfl rfl rfl rfl rfl rfl rfl rfl rfl ?_
          refine pI rfl rfl rfl ?_
          refine AOps.done ?_
          refine AWp.regionN (fun o => writes o) rfl ?_
          refine pO rfl rfl rfl ?_
          refine pT rfl rfl rfl ?_
          refine AOps.lit tabOk (ys := [GIval.enc x84.1]) rfl rfl rfl rfl rfl rfl ?_
          obtain ⟨h1, h2, x86, ex86, h⟩ := h.get
          refine AOps.append tabOk rfl rfl rfl rfl rfl rfl rfl rfl rfl rfl rfl (.inl ⟨_, rfl⟩) (app1 h1) (app2 h2) (app3 ex86) ?_
          refine pO rfl rfl rfl ?_
          refine AOps.done ?_
          refine AWp.regionN (fun _ => false) rfl ?_
          obtain ⟨x87, ex87, h⟩ := h.get
          refine AOps.i tabOk rfl rfl rfl ex87 ?_
          refine pI rfl rfl rfl ?_
          refine AOps.done ?_
          exact ⟨⟨x86, x87⟩, h.1, h.2, (Sub.list (fun i => (if Nat.beq i 1006 then 43 else i)) rfl rfl ⟨rfl, rfl, rfl, rfl, rfl, trivial⟩ ⟨rfl, trivial⟩)⟩
        · replace h := h.2 e
          refine AWp.exit ?_
          refine AWp.seq ?_
          refine AWp.regionN (fun _ => false) rfl ?_
          refine pO rfl rfl rfl ?_
          refine pO rfl rfl rfl ?_
          refine pI rfl rfl rfl ?_
          refine AOps.done ?_
          refine AWp.ret ?_
          subst h
          exact ⟨_, rfl, rfl⟩
def W_lin_matrix (m1 : List (List GIval)) (Q : Bool → Prop) : Prop :=
  Loop1 (0 : Int) (fun (x116 : Int) next117 =>
    Br (decide (x116 < ((m1.length : Nat) : Int))) (
      At m1 x116 fun x136 =>
      Call (Ev_lin_vector x136) fun x145 =>
      Br (!x145) (Q false) (
        At m1 (0 : Int) fun x149 =>
        Br (((x136.length : Nat) : Int) != ((x149.length : Nat) : Int)) (Q false) (
          Let (IntKind.i64.wrap (x116 + (1 : Int))) fun x152 =>
          next117 x152))) (
      Br (decide (((m1.length : Nat) : Int) > (0 : Int))) (Q (decide (((m1.length : Nat) : Int) ≤ (24 : Int)))) (
        Q false)))
theorem walk_lin_matrix {m1 : List (List GIval)} {r : Bool} (h : W_lin_matrix m1 (fun r' => r' = r)) : Ev_lin_matrix m1 r := by
  unfold W_lin_matrix at h
  refine AFn.intro' (L := [(0, .dat (.sl 34 1 (List.map (eSl 36 2 GIval.enc) m1)))]) tabOk Try.func49 rfl rfl Try.ntmps49 rfl rfl rfl ?_
  refine AWp.seq ?_
  refine AWp.regionN (fun _ => false) rfl ?_
  refine pB rfl rfl rfl ?_
  refine AOps.done ?_
  refine AWp.seq ?_
  refine AWp.seq ?_
  refine AWp.regionN (fun _ => false) rfl ?_
  refine pS rfl rfl rfl ?_
  refine AOps.i (j := ((m1.length : Nat) : Int)) tabOk rfl rfl rfl (by first | (rw [List.length_map]; done) | rfl) ?_
  refine pI rfl rfl rfl ?_
  refine AOps.done ?_
  refine AWp.block ?_
  obtain ⟨I157, x158, hz159, hr160⟩ := h
  refine AWp.loop (I := fun p : Int => mkSt [(0, .dat (.sl 34 1 (List.map (eSl 36 2 GIval.enc) m1))), (5, .dat (.sl 34 1 (List.map (eSl 36 2 GIval.enc) m1))), (6, .dat (.v (.int .i64 ((m1.length : Nat) : Int)))), (7, .dat (.v (.int .i64 p)))] []) (Inv := fun p => I157 p) (μ := fun p => x158 p) (x0 := (0 : Int)) hz159 (Sub.list (fun i => i) rfl rfl ⟨rfl, rfl, rfl, rfl, trivial⟩ trivial) (fun p hp => ?_)
  have h := hr160 p hp
  revert h; clear hp; generalize p = x116; intro h
  refine AWp.seq ?_
  refine AWp.regionN (fun _ => false) rfl ?_
  refine pW rfl rfl rfl ?_
  refine AOps.done ?_
  refine AWp.seq ?_
  refine AWp.cond rfl (fun e => ?_) (fun e => ?_)
  · replace h := h.1 e
    refine AWp.skip ?_
    refine AWp.seq ?_
    refine AWp.block ?_
    refine AWp.seq ?_
    refine AWp.regionN (fun _ => false) rfl ?_
    obtain ⟨hi135, x136, hx137, h⟩ := h
    refine AOps.idx tabOk (z := .sl 36 2 (List.map GIval.enc x136)) rfl rfl rfl rfl rfl rfl rfl rfl hi135 (map_get hx137) ?_
    refine pS rfl rfl rfl ?_
    refine pS rfl rfl rfl ?_
    refine AOps.done ?_
    refine AWp.seq ?_
    refine AWp.regionN (fun _ => false) rfl ?_
    refine pS rfl rfl rfl ?_
    obtain ⟨x145, hc146, h⟩ := h
    refine AOps.call hc146 rfl rfl rfl ⟨.inl rfl, trivial⟩ ?_
    refine pB rfl rfl rfl ?_
    refine pB rfl rfl rfl ?_
    refine AOps.splitB 14 rfl (fun e => ?_) (fun e => ?_)
    · replace h := h.1 e
      refine AOps.off rfl rfl ?_
      refine AOps.off rfl rfl ?_
      refine AOps.off rfl rfl ?_
      refine AOps.off rfl rfl ?_
      refine AOps.off rfl rfl ?_
      refine AOps.off rfl rfl ?_
      refine AOps.off rfl rfl ?_
      refine pB rfl rfl rfl ?_
      refine AOps.done ?_
      refine AWp.condT rfl ?_
      refine AWp.seq ?_
      refine AWp.regionN (fun _ => false) rfl ?_
      refine pB rfl rfl rfl ?_
      refine AOps.done ?_
      refine AWp.ret ?_
      subst h
      exact ⟨_, rfl, rfl⟩
    · replace h := h.2 e
      refine pS rfl rfl rfl ?_
      refine AOps.i (j := ((x136.length : Nat) : Int)) tabOk rfl rfl rfl (by first | (rw [List.length_map]; done) | rfl) ?_
      refine pS rfl rfl rfl ?_
      obtain ⟨hi148, x149, hx150, h⟩ := h
      refine AOps.idx tabOk (z := .sl 36 2 (List.map GIval.enc x149)) rfl rfl rfl rfl rfl rfl rfl rfl hi148 (map_get hx150) ?_
      refine pS rfl rfl rfl ?_
      refine AOps.i (j := ((x149.length : Nat) : Int)) tabOk rfl rfl rfl (by first | (rw [List.length_map]; done) | rfl) ?_
      refine pB rfl rfl rfl ?_
      refine pB rfl rfl rfl ?_
      refine AOps.done ?_
      refine AWp.cond rfl (fun e => ?_) (fun e => ?_)
      · replace h := h.1 e
        refine AWp.seq ?_
        refine AWp.regionN (fun _ => false) rfl ?_
        refine pB rfl rfl rfl ?_
        refine AOps.done ?_
        refine AWp.ret ?_
        subst h
        exact ⟨_, rfl, rfl⟩
      · replace h := h.2 e
        refine AWp.skip ?_
        refine AWp.regionN (fun _ => false) rfl ?_
        obtain ⟨x152, ex152, h⟩ := h.get
        refine AOps.i tabOk rfl rfl rfl ex152 ?_
        refine pI rfl rfl rfl ?_
        refine AOps.done ?_
        exact ⟨x152, h.1, h.2, (Sub.list (fun i => i) rfl rfl ⟨rfl, rfl, rfl, rfl, trivial⟩ trivial)⟩
  · replace h := h.2 e
    refine AWp.exit ?_
    refine AWp.seq ?_
    refine AWp.regionN (fun _ => false) rfl ?_
    refine pS rfl rfl rfl ?_
    refine AOps.i (j := ((m1.length : Nat) : Int)) tabOk rfl rfl rfl (by first | (rw [List.length_map]; done) | rfl) ?_
    refine pB rfl rfl rfl ?_
    refine pB rfl rfl rfl ?_
    refine AOps.splitB 27 rfl (fun e => ?_) (fun e => ?_)
    · replace h := h.1 e
      refine pS rfl rfl rfl ?_
      refine AOps.i (j := ((m1.length : Nat) : Int)) tabOk rfl rfl rfl (by first | (rw [List.length_map]; done) | rfl) ?_
      refine pB rfl rfl rfl ?_
      refine pB rfl rfl rfl ?_
      refine pB rfl rfl rfl ?_
      refine AOps.done ?_
      refine AWp.ret ?_
      subst h
      exact ⟨_, rfl, rfl⟩
    · replace h := h.2 e
      refine AOps.off rfl rfl ?_
      refine AOps.off rfl rfl ?_
      refine AOps.off rfl rfl ?_
      refine pB rfl rfl rfl ?_
      refine pB rfl rfl rfl ?_
      refine AOps.done ?_
      refine AWp.ret ?_
      subst h
      exact ⟨_, rfl, rfl⟩
def W_lin_floats (m1 : List (List Nat)) (Q : Bool → Prop) : Prop :=
  Loop1 (0 : Int) (fun (x386 : Int) next387 =>
    Br (decide (x386 < ((m1.length : Nat) : Int))) (
      At m1 x386 fun x451 =>
      At m1 (0 : Int) fun x455 =>
      Br (((x451.length : Nat) : Int) != ((x455.length : Nat) : Int)) (Q false) (
        Loop1 (0 : Int) (fun (x483 : Int) next484 =>
          Br (decide (x483 < ((x451.length : Nat) : Int))) (
            At x451 x483 fun x497 =>
            Call (Ev_math_IsNaN x497) fun x503 =>
            Br x503 (Q false) (
              Call (Ev_math_IsInf x497 (0 : Int)) fun x505 =>
              Br x505 (Q false) (
                Let (IntKind.i64.wrap (x483 + (1 : Int))) fun x507 =>
                next484 x507))) (
            Let (IntKind.i64.wrap (x386 + (1 : Int))) fun x508 =>
            next387 x508)))) (
      Br (decide (((m1.length : Nat) : Int) > (0 : Int))) (
        Br (decide (((m1.length : Nat) : Int) ≤ (24 : Int))) (
          At m1 (0 : Int) fun x526 =>
          Br (decide (((x526.length : Nat) : Int) > (0 : Int))) (
            At m1 (0 : Int) fun x530 =>
            Q (decide (((x530.length : Nat) : Int) ≤ (24 : Int)))) (
            Q false)) (
          Q false)) (
        Q false)))
theorem walk_lin_floats {m1 : List (List Nat)} {r : Bool} (h : W_lin_floats m1 (fun r' => r' = r)) : Ev_lin_floats m1 r := by
  unfold W_lin_floats at h
  refine AFn.intro' (L := [(0, .dat (.sl 83 1 (List.map (eSl 24 1 (eFlt .f64)) m1)))]) tabOk Try.func55 rfl rfl Try.ntmps55 rfl rfl rfl ?_
  refine AWp.seq ?_
  refine AWp.regionN (fun _ => false) rfl ?_
  refine pB rfl rfl rfl ?_
  refine AOps.done ?_
  refine AWp.seq ?_
  refine AWp.seq ?_
  refine AWp.regionN (fun _ => false) rfl ?_
  refine pS rfl rfl rfl ?_
  refine AOps.i (j := ((m1.length : Nat) : Int)) tabOk rfl rfl rfl (by first | (rw [List.length_map]; done) | rfl) ?_
  refine pI rfl rfl rfl ?_
  refine AOps.done ?_
  refine AWp.block ?_
  obtain ⟨I533, x534, hz535, hr536⟩ := h
  refine AWp.loop (I := fun p : Int => mkSt [(0, .dat (.sl 83 1 (List.map (eSl 24 1 (eFlt .f64)) m1))), (7, .dat (.sl 83 1 (List.map (eSl 24 1 (eFlt .f64)) m1))), (8, .dat (.v (.int .i64 ((m1.length : Nat) : Int)))), (9, .dat (.v (.int .i64 p)))] []) (Inv := fun p => I533 p) (μ := fun p => x534 p) (x0 := (0 : Int)) hz535 (Sub.list (fun i => i) rfl rfl ⟨rfl, rfl, rfl, rfl, trivial⟩ trivial) (fun p hp => ?_)
  have h := hr536 p hp
  revert h; clear hp; generalize p = x386; intro h
  refine AWp.seq ?_
  refine AWp.regionN (fun _ => false) rfl ?_
  refine pW rfl rfl rfl ?_
  refine AOps.done ?_
  refine AWp.seq ?_
  refine AWp.cond rfl (fun e => ?_) (fun e => ?_)
  · replace h := h.1 e
    refine AWp.skip ?_
    refine AWp.seq ?_
    refine AWp.block ?_
    refine AWp.seq ?_
    refine AWp.regionN (fun _ => false) rfl ?_
    obtain ⟨hi450, x451, hx452, h⟩ := h
    refine AOps.idx tabOk (z := .sl 24 1 (List.map (eFlt .f64) x451)) rfl rfl rfl rfl rfl rfl rfl rfl hi450 (map_get hx452) ?_
    refine pS rfl rfl rfl ?_
    refine pS rfl rfl rfl ?_
    refine AOps.done ?_
    refine AWp.seq ?_
    refine AWp.seq ?_
    refine AWp.regionN (fun _ => false) rfl ?_
    refine pS rfl rfl rfl ?_
    refine AOps.i (j := ((x451.length : Nat) : Int)) tabOk rfl rfl rfl (by first | (rw [List.length_map]; done) | rfl) ?_
    refine pS rfl rfl rfl ?_
    obtain ⟨hi454, x455, hx456, h⟩ := h
    refine AOps.idx tabOk (z := .sl 24 1 (List.map (eFlt .f64) x455)) rfl rfl rfl rfl rfl rfl rfl rfl hi454 (map_get hx456) ?_
    refine pS rfl rfl rfl ?_
    refine AOps.i (j := ((x455.length : Nat) : Int)) tabOk rfl rfl rfl (by first | (rw [List.length_map]; done) | rfl) ?_
    refine pB rfl rfl rfl ?_
    refine AOps.done ?_
    refine AWp.cond rfl (fun e => ?_) (fun e => ?_)
    · replace h := h.1 e
      refine AWp.seq ?_
      refine AWp.regionN (fun _ => false) rfl ?_
      refine pB rfl rfl rfl ?_
      refine AOps.done ?_
      refine AWp.ret ?_
      subst h
      exact ⟨_, rfl, rfl⟩
    · replace h := h.2 e
      refine AWp.skip ?_
      refine AWp.seq ?_
      refine AWp.regionN (fun _ => false) rfl ?_
      refine pS rfl rfl rfl ?_
      refine AOps.i (j := ((x451.length : Nat) : Int)) tabOk rfl rfl rfl (by first | (rw [List.length_map]; done) | rfl) ?_
      refine pI rfl rfl rfl ?_
      refine AOps.done ?_
      refine AWp.block ?_
      obtain ⟨I509, x510, hz511, hr512⟩ := h
      refine AWp.loop (I := fun p : Int => mkSt [(0, .dat (.sl 83 1 (List.map (eSl 24 1 (eFlt .f64)) m1))), (7, .dat (.sl 83 1 (List.map (eSl 24 1 (eFlt .f64)) m1))), (8, .dat (.v (.int .i64 ((m1.length : Nat) : Int)))), (9, .dat (.v (.int .i64 x386))), (20, .dat (.sl 24 1 (List.map (eFlt .f64) x451))), (21, .dat (.v (.int .i64 ((x451.length : Nat) : Int)))), (22, .dat (.v (.int .i64 p)))] []) (Inv := fun p => I509 p) (μ := fun p => x510 p) (x0 := (0 : Int)) hz511 (Sub.list (fun i => i) rfl rfl ⟨rfl, rfl, rfl, rfl, rfl, rfl, rfl, trivial⟩ trivial) (fun p hp => ?_)
      have h := hr512 p hp
      revert h; clear hp; generalize p = x483; intro h
      refine AWp.seq ?_
      refine AWp.regionN (fun _ => false) rfl ?_
      refine pW rfl rfl rfl ?_
      refine AOps.done ?_
      refine AWp.seq ?_
      refine AWp.cond rfl (fun e => ?_) (fun e => ?_)
      · replace h := h.1 e
        refine AWp.skip ?_
        refine AWp.seq ?_
        refine AWp.block ?_
        refine AWp.seq ?_
        refine AWp.regionN (fun _ => false) rfl ?_
        obtain ⟨hi496, x497, hx498, h⟩ := h
        refine AOps.idx tabOk (z := .v (.float .f64 x497)) rfl rfl rfl rfl rfl rfl rfl rfl hi496 (map_get hx498) ?_
        refine pF rfl rfl rfl ?_
        refine pF rfl rfl rfl ?_
        refine AOps.done ?_
        refine AWp.seq ?_
        refine AWp.regionN (fun _ => false) rfl ?_
        refine pF rfl rfl rfl ?_
        obtain ⟨x503, hc504, h⟩ := h
        refine AOps.call hc504 rfl rfl rfl ⟨.inl rfl, trivial⟩ ?_
        refine pB rfl rfl rfl ?_
        refine AOps.splitB 28 rfl (fun e => ?_) (fun e => ?_)
        · replace h := h.1 e
          refine AOps.off rfl rfl ?_
          refine AOps.off rfl rfl ?_
          refine pB rfl rfl rfl ?_
          refine AOps.done ?_
          refine AWp.condT rfl ?_
          refine AWp.seq ?_
          refine AWp.regionN (fun _ => false) rfl ?_
          refine pB rfl rfl rfl ?_
          refine AOps.done ?_
          refine AWp.ret ?_
          subst h
          exact ⟨_, rfl, rfl⟩
        · replace h := h.2 e
          refine pF rfl rfl rfl ?_
          obtain ⟨x505, hc506, h⟩ := h
          refine AOps.call hc506 rfl rfl rfl ⟨.inl rfl, .inl rfl, trivial⟩ ?_
          refine pB rfl rfl rfl ?_
          refine AOps.done ?_
          refine AWp.cond rfl (fun e => ?_) (fun e => ?_)
          · replace h := h.1 e
            refine AWp.seq ?_
            refine AWp.regionN (fun _ => false) rfl ?_
            refine pB rfl rfl rfl ?_
            refine AOps.done ?_
            refine AWp.ret ?_
            subst h
            exact ⟨_, rfl, rfl⟩
          · replace h := h.2 e
            refine AWp.skip ?_
            refine AWp.regionN (fun _ => false) rfl ?_
            obtain ⟨x507, ex507, h⟩ := h.get
            refine AOps.i tabOk rfl rfl rfl ex507 ?_
            refine pI rfl rfl rfl ?_
            refine AOps.done ?_
            exact ⟨x507, h.1, h.2, (Sub.list (fun i => i) rfl rfl ⟨rfl, rfl, rfl, rfl, rfl, rfl, rfl, trivial⟩ trivial)⟩
      · replace h := h.2 e
        refine AWp.exit ?_
        refine AWp.regionN (fun _ => false) rfl ?_
        obtain ⟨x508, ex508, h⟩ := h.get
        refine AOps.i tabOk rfl rfl rfl ex508 ?_
        refine pI rfl rfl rfl ?_
        refine AOps.done ?_
        exact ⟨x508, h.1, h.2, (Sub.list (fun i => i) rfl rfl ⟨rfl, rfl, rfl, rfl, trivial⟩ trivial)⟩
  · replace h := h.2 e
    refine AWp.exit ?_
    refine AWp.seq ?_
    refine AWp.regionN (fun _ => false) rfl ?_
    refine pS rfl rfl rfl ?_
    refine AOps.i (j := ((m1.length : Nat) : Int)) tabOk rfl rfl rfl (by first | (rw [List.length_map]; done) | rfl) ?_
    refine pB rfl rfl rfl ?_
    refine pB rfl rfl rfl ?_
    refine AOps.splitB 37 rfl (fun e => ?_) (fun e => ?_)
    · replace h := h.1 e
      refine pS rfl rfl rfl ?_
      refine AOps.i (j := ((m1.length : Nat) : Int)) tabOk rfl rfl rfl (by first | (rw [List.length_map]; done) | rfl) ?_
      refine pB rfl rfl rfl ?_
      refine pB rfl rfl rfl ?_
      refine pB rfl rfl rfl ?_
      refine AOps.splitB 42 rfl (fun e => ?_) (fun e => ?_)
      · replace h := h.1 e
        refine pS rfl rfl rfl ?_
        obtain ⟨hi525, x526, hx527, h⟩ := h
        refine AOps.idx tabOk (z := .sl 24 1 (List.map (eFlt .f64) x526)) rfl rfl rfl rfl rfl rfl rfl rfl hi525 (map_get hx527) ?_
        refine pS rfl rfl rfl ?_
        refine AOps.i (j := ((x526.length : Nat) : Int)) tabOk rfl rfl rfl (by first | (rw [List.length_map]; done) | rfl) ?_
        refine pB rfl rfl rfl ?_
        refine pB rfl rfl rfl ?_
        refine pB rfl rfl rfl ?_
        refine AOps.splitB 49 rfl (fun e => ?_) (fun e => ?_)
        · replace h := h.1 e
          refine pS rfl rfl rfl ?_
          obtain ⟨hi529, x530, hx531, h⟩ := h
          refine AOps.idx tabOk (z := .sl 24 1 (List.map (eFlt .f64) x530)) rfl rfl rfl rfl rfl rfl rfl rfl hi529 (map_get hx531) ?_
          refine pS rfl rfl rfl ?_
          refine AOps.i (j := ((x530.length : Nat) : Int)) tabOk rfl rfl rfl (by first | (rw [List.length_map]; done) | rfl) ?_
          refine pB rfl rfl rfl ?_
          refine pB rfl rfl rfl ?_
          refine pB rfl rfl rfl ?_
          refine AOps.done ?_
          refine AWp.ret ?_
          subst h
          exact ⟨_, rfl, rfl⟩
        · replace h := h.2 e
          refine AOps.off rfl rfl ?_
          refine AOps.off rfl rfl ?_
          refine AOps.off rfl rfl ?_
          refine AOps.off rfl rfl ?_
          refine AOps.off rfl rfl ?_
          refine pB rfl rfl rfl ?_
          refine pB rfl rfl rfl ?_
          refine AOps.done ?_
          refine AWp.ret ?_
          subst h
          exact ⟨_, rfl, rfl⟩
      · replace h := h.2 e
        refine AOps.off rfl rfl ?_
        refine AOps.off rfl rfl ?_
        refine AOps.off rfl rfl ?_
        refine AOps.off rfl rfl ?_
        refine AOps.off rfl rfl ?_
        refine pB rfl rfl rfl ?_
        refine pB rfl rfl rfl ?_
        refine AOps.off rfl rfl ?_
        refine AOps.off rfl rfl ?_
        refine AOps.off rfl rfl ?_
        refine AOps.off rfl rfl ?_
        refine AOps.off rfl rfl ?_
        refine pB rfl rfl rfl ?_
        refine pB rfl rfl rfl ?_
        refine AOps.done ?_
        refine AWp.ret ?_
        subst h
        exact ⟨_, rfl, rfl⟩
    · replace h := h.2 e
      refine AOps.off rfl rfl ?_
      refine AOps.off rfl rfl ?_
      refine AOps.off rfl rfl ?_
      refine pB rfl rfl rfl ?_
      refine pB rfl rfl rfl ?_
      refine AOps.off rfl rfl ?_
      refine AOps.off rfl rfl ?_
      refine AOps.off rfl rfl ?_
      refine AOps.off rfl rfl ?_
      refine AOps.off rfl rfl ?_
      refine pB rfl rfl rfl ?_
      refine pB rfl rfl rfl ?_
      refine AOps.off rfl rfl ?_
      refine AOps.off rfl rfl ?_
      refine AOps.off rfl rfl ?_
      refine AOps.off rfl rfl ?_
      refine AOps.off rfl rfl ?_
      refine pB rfl rfl rfl ?_
      refine pB rfl rfl rfl ?_
      refine AOps.done ?_
      refine AWp.ret ?_
      subst h
      exact ⟨_, rfl, rfl⟩
def W_lin_vector (v1 : List GIval) (Q : Bool → Prop) : Prop :=
  Loop1 (0 : Int) (fun (x44 : Int) next45 =>
    Br (decide (x44 < ((v1.length : Nat) : Int))) (
      At v1 x44 fun x52 =>
      Call (Ev_ival_Right x52) fun x54 =>
      Br (!x54) (Q false) (
        Let (IntKind.i64.wrap (x44 + (1 : Int))) fun x56 =>
        next45 x56)) (
      Br (decide (((v1.length : Nat) : Int) > (0 : Int))) (Q (decide (((v1.length : Nat) : Int) ≤ (24 : Int)))) (
        Q false)))
theorem walk_lin_vector {v1 : List GIval} {r : Bool} (h : W_lin_vector v1 (fun r' => r' = r)) : Ev_lin_vector v1 r := by
  unfold W_lin_vector at h
  refine AFn.intro' (L := [(0, .dat (.sl 36 2 (List.map GIval.enc v1)))]) tabOk Try.func58 rfl rfl Try.ntmps58 rfl rfl rfl ?_
  refine AWp.seq ?_
  refine AWp.regionN (fun _ => false) rfl ?_
  refine pB rfl rfl rfl ?_
  refine AOps.done ?_
  refine AWp.seq ?_
  refine AWp.seq ?_
  refine AWp.regionN (fun _ => false) rfl ?_
  refine pS rfl rfl rfl ?_
  refine AOps.i (j := ((v1.length : Nat) : Int)) tabOk rfl rfl rfl (by first | (rw [List.length_map]; done) | rfl) ?_
  refine pI rfl rfl rfl ?_
  refine AOps.done ?_
  refine AWp.block ?_
  obtain ⟨I61, x62, hz63, hr64⟩ := h
  refine AWp.loop (I := fun p : Int => mkSt [(0, .dat (.sl 36 2 (List.map GIval.enc v1))), (5, .dat (.sl 36 2 (List.map GIval.enc v1))), (6, .dat (.v (.int .i64 ((v1.length : Nat) : Int)))), (7, .dat (.v (.int .i64 p)))] []) (Inv := fun p => I61 p) (μ := fun p => x62 p) (x0 := (0 : Int)) hz63 (Sub.list (fun i => i) rfl rfl ⟨rfl, rfl, rfl, rfl, trivial⟩ trivial) (fun p hp => ?_)
  have h := hr64 p hp
  revert h; clear hp; generalize p = x44; intro h
  refine AWp.seq ?_
  refine AWp.regionN (fun _ => false) rfl ?_
  refine pW rfl rfl rfl ?_
  refine AOps.done ?_
  refine AWp.seq ?_
  refine AWp.cond rfl (fun e => ?_) (fun e => ?_)
  · replace h := h.1 e
    refine AWp.skip ?_
    refine AWp.seq ?_
    refine AWp.block ?_
    refine AWp.seq ?_
    refine AWp.regionN (fun o => writes o) rfl ?_
    obtain ⟨hi51, x52, hx53, h⟩ := h
    refine AOps.idx tabOk (z := GIval.enc x52) rfl rfl rfl rfl rfl rfl rfl rfl hi51 (map_get hx53) ?_
    refine pT rfl rfl rfl ?_
    refine AOps.alloc tabOk rfl rfl rfl rfl rfl ?_
    refine AOps.store tabOk (v := .dat (.st _ _)) rfl rfl rfl rfl rfl rfl rfl rfl rfl rfl rfl rfl rfl ?_
    refine AOps.done ?_
    refine AWp.seq ?_
    refine AWp.regionN (fun _ => false) rfl ?_
    refine pT rfl rfl rfl ?_
    obtain ⟨x54, hc55, h⟩ := h
    refine AOps.call hc55 rfl rfl rfl ⟨.inl rfl, trivial⟩ ?_
    refine pB rfl rfl rfl ?_
    refine AOps.done ?_
    refine AWp.cond rfl (fun e => ?_) (fun e => ?_)
    · replace h := h.1 e
      refine AWp.seq ?_
      refine AWp.regionN (fun _ => false) rfl ?_
      refine pB rfl rfl rfl ?_
      refine AOps.done ?_
      refine AWp.ret ?_
      subst h
      exact ⟨_, rfl, rfl⟩
    · replace h := h.2 e
      refine AWp.skip ?_
      refine AWp.regionN (fun _ => false) rfl ?_
      obtain ⟨x56, ex56, h⟩ := h.get
      refine AOps.i tabOk rfl rfl rfl ex56 ?_
      refine pI rfl rfl rfl ?_
      refine AOps.done ?_
      exact ⟨x56, h.1, h.2, (Sub.list (fun i => i) rfl rfl ⟨rfl, rfl, rfl, rfl, trivial⟩ trivial)⟩
  · replace h := h.2 e
    refine AWp.exit ?_
    refine AWp.seq ?_
    refine AWp.regionN (fun _ => false) rfl ?_
    refine pS rfl rfl rfl ?_
    refine AOps.i (j := ((v1.length : Nat) : Int)) tabOk rfl rfl rfl (by first | (rw [List.length_map]; done) | rfl) ?_
    refine pB rfl rfl rfl ?_
    refine pB rfl rfl rfl ?_
    refine AOps.splitB 18 rfl (fun e => ?_) (fun e => ?_)
    · replace h := h.1 e
      refine pS rfl rfl rfl ?_
      refine AOps.i (j := ((v1.length : Nat) : Int)) tabOk rfl rfl rfl (by first | (rw [List.length_map]; done) | rfl) ?_
      refine pB rfl rfl rfl ?_
      refine pB rfl rfl rfl ?_
      refine pB rfl rfl rfl ?_
      refine AOps.done ?_
      refine AWp.ret ?_
      subst h
      exact ⟨_, rfl, rfl⟩
    · replace h := h.2 e
      refine AOps.off rfl rfl ?_
      refine AOps.off rfl rfl ?_
      refine AOps.off rfl rfl ?_
      refine pB rfl rfl rfl ?_
      refine pB rfl rfl rfl ?_
      refine AOps.done ?_
      refine AWp.ret ?_
      subst h
      exact ⟨_, rfl, rfl⟩
end Go.Sim.Ytlglkgineclggaa
