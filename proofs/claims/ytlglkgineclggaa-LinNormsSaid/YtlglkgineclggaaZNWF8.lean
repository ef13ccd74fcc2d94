/- What is proved: functions of the program compute what plain statements tell. -/
import Derived.Test.YtlglkgineclggaaZNWE
namespace Go.Sim.Ytlglkgineclggaa
open Go.RowKit Go.Proofs Go.Proofs.Try
set_option maxRecDepth 100000
def W_lin_Norm (m1 : List (List GIval)) (Q : Nat × Int → Prop) : Prop :=
  Call (Ev_lin_matrix m1) fun x2 =>
  Br (!x2) (Q ((0 : Nat), (1 : Int))) (
    Loop2 (0 : Nat) (0 : Int) (fun (most517 : Nat) (x518 : Int) next519 =>
      Br (decide (x518 < ((m1.length : Nat) : Int))) (
        At m1 x518 fun x604 =>
        Loop2 (0 : Nat) (0 : Int) (fun (sum663 : Nat) (x664 : Int) next665 =>
          Br (decide (x664 < ((x604.length : Nat) : Int))) (
            At x604 x664 fun x674 =>
            Call (Ev_ival_Mag x674) fun x676 =>
            Call (Ev_ulp_Add sum663 x676 (1 : Int)) fun x678 =>
            Let (IntKind.i64.wrap (x664 + (1 : Int))) fun x680 =>
            next665 x678 x680) (
            FMx most517 sum663 fun x681 =>
            Let (IntKind.i64.wrap (x518 + (1 : Int))) fun x682 =>
            next519 x681 x682))) (
        Q (most517, (0 : Int)))))
theorem walk_lin_Norm {m1 : List (List GIval)} {r : Nat × Int} (h : W_lin_Norm m1 (fun r' => r' = r)) : Ev_lin_Norm m1 r := by
  unfold W_lin_Norm at h
  refine AFn.intro' (L := [(0, .dat (.sl 34 1 (List.map (eSl 36 2 GIval.enc) m1)))]) tabOk Try.func9 rfl rfl Try.ntmps9 rfl rfl rfl ?_
  refine AWp.seq ?_
  refine AWp.regionN (fun _ => false) rfl ?_
  refine pF rfl rfl rfl ?_
  refine pI rfl rfl rfl ?_
  refine AOps.done ?_
  refine AWp.seq ?_
  refine AWp.seq ?_
  refine AWp.regionN (fun _ => false) rfl ?_
  refine pS rfl rfl rfl ?_
  obtain ⟨x2, hc3, h⟩ := h
  refine AOps.call hc3 rfl rfl rfl ⟨.inl rfl, trivial⟩ ?_
  refine pB rfl rfl rfl ?_
  refine AOps.done ?_
  refine AWp.cond rfl (fun e => ?_) (fun e => ?_)
  · replace h := h.1 e
    refine AWp.seq ?_
    refine AWp.regionN (fun _ => false) rfl ?_
    refine pF rfl rfl rfl ?_
    refine pI rfl rfl rfl ?_
    refine AOps.done ?_
    refine AWp.ret ?_
    subst h
    exact ⟨_, rfl, rfl⟩
  · replace h := h.2 e
    refine AWp.skip ?_
    refine AWp.seq ?_
    refine AWp.regionN (fun _ => false) rfl ?_
    refine pF rfl rfl rfl ?_
    refine AOps.done ?_
    refine AWp.seq ?_
    refine AWp.seq ?_
    refine AWp.regionN (fun _ => false) rfl ?_
    refine pS rfl rfl rfl ?_
    refine AOps.i (j := ((m1.length : Nat) : Int)) tabOk rfl rfl rfl (by first | (rw [List.length_map]; done) | rfl) ?_
    refine pI rfl rfl rfl ?_
    refine AOps.done ?_
    refine AWp.block ?_
    obtain ⟨I687, x688, hz689, hr690⟩ := h
    refine AWp.loop (I := fun p : Nat × Int => mkSt [(4, .dat (.v (.float .f64 p.1))), (13, .dat (.sl 34 1 (List.map (eSl 36 2 GIval.enc) m1))), (14, .dat (.v (.int .i64 ((m1.length : Nat) : Int)))), (15, .dat (.v (.int .i64 p.2)))] []) (Inv := fun p => I687 p.1 p.2) (μ := fun p => x688 p.1 p.2) (x0 := ⟨(0 : Nat), (0 : Int)⟩) hz689 (Sub.list (fun i => i) rfl rfl ⟨rfl, rfl, rfl, rfl, trivial⟩ trivial) (fun p hp => ?_)
    obtain ⟨most517, x518⟩ := p
    have h := hr690 most517 x518 hp
    refine AWp.seq ?_
    refine AWp.regionN (fun _ => false) rfl ?_
    refine pW rfl rfl rfl ?_
    refine AOps.done ?_
    refine AWp.seq ?_
    refine AWp.cond rfl (fun e => ?_) (fun e => ?_)
    · replace h := h.1 e
      refine AWp.skip ?_
      refine AWp.seq ?_
      refine AWp.block ?_
      refine AWp.seq ?_
      refine AWp.regionN (fun _ => false) rfl ?_
      obtain ⟨hi603, x604, hx605, h⟩ := h
      refine AOps.idx tabOk (z := .sl 36 2 (List.map GIval.enc x604)) rfl rfl rfl rfl rfl rfl rfl rfl hi603 (map_get hx605) ?_
      refine pS rfl rfl rfl ?_
      refine pS rfl rfl rfl ?_
      refine AOps.done ?_
      refine AWp.seq ?_
      refine AWp.regionN (fun _ => false) rfl ?_
      refine pF rfl rfl rfl ?_
      refine AOps.done ?_
      refine AWp.seq ?_
      refine AWp.seq ?_
      refine AWp.regionN (fun _ => false) rfl ?_
      refine pS rfl rfl rfl ?_
      refine AOps.i (j := ((x604.length : Nat) : Int)) tabOk rfl rfl rfl (by first | (rw [List.length_map]; done) | rfl) ?_
      refine pI rfl rfl rfl ?_
      refine AOps.done ?_
      refine AWp.block ?_
      obtain ⟨I683, x684, hz685, hr686⟩ := h
      refine AWp.loop (I := fun p : Nat × Int => mkSt [(4, .dat (.v (.float .f64 most517))), (7, .dat (.v (.float .f64 p.1))), (13, .dat (.sl 34 1 (List.map (eSl 36 2 GIval.enc) m1))), (14, .dat (.v (.int .i64 ((m1.length : Nat) : Int)))), (15, .dat (.v (.int .i64 x518))), (19, .dat (.sl 36 2 (List.map GIval.enc x604))), (20, .dat (.v (.int .i64 ((x604.length : Nat) : Int)))), (21, .dat (.v (.int .i64 p.2)))] []) (Inv := fun p => I683 p.1 p.2) (μ := fun p => x684 p.1 p.2) (x0 := ⟨(0 : Nat), (0 : Int)⟩) hz685 (Sub.list (fun i => i) rfl rfl ⟨rfl, rfl, rfl, rfl, rfl, rfl, rfl, rfl, trivial⟩ trivial) (fun p hp => ?_)
      obtain ⟨sum663, x664⟩ := p
      have h := hr686 sum663 x664 hp
      refine AWp.seq ?_
      refine AWp.regionN (fun _ => false) rfl ?_
      refine pW rfl rfl rfl ?_
      refine AOps.done ?_
      refine AWp.seq ?_
      refine AWp.cond rfl (fun e => ?_) (fun e => ?_)
      · replace h := h.1 e
        refine AWp.skip ?_
        refine AWp.seq ?_
        refine AWp.block ?_
        refine AWp.seq ?_
        refine AWp.regionN (fun o => writes o) rfl ?_
        obtain ⟨hi673, x674, hx675, h⟩ := h
        refine AOps.idx tabOk (z := GIval.enc x674) rfl rfl rfl rfl rfl rfl rfl rfl hi673 (map_get hx675) ?_
        refine pT rfl rfl rfl ?_
        refine AOps.alloc tabOk rfl rfl rfl rfl rfl ?_
        refine AOps.store tabOk (v := .dat (.st _ _)) rfl rfl rfl rfl rfl rfl rfl rfl rfl rfl rfl rfl rfl ?_
        refine AOps.done ?_
        refine AWp.regionN (fun _ => false) rfl ?_
        refine pF rfl rfl rfl ?_
        refine pT rfl rfl rfl ?_
        obtain ⟨x676, hc677, h⟩ := h
        refine AOps.call hc677 rfl rfl rfl ⟨.inl rfl, trivial⟩ ?_
        obtain ⟨x678, hc679, h⟩ := h
        refine AOps.call hc679 rfl rfl rfl ⟨.inl rfl, .inl rfl, .inl rfl, trivial⟩ ?_
        refine pF rfl rfl rfl ?_
        refine AOps.done ?_
        refine AWp.regionN (fun _ => false) rfl ?_
        obtain ⟨x680, ex680, h⟩ := h.get
        refine AOps.i tabOk rfl rfl rfl ex680 ?_
        refine pI rfl rfl rfl ?_
        refine AOps.done ?_
        exact ⟨⟨x678, x680⟩, h.1, h.2, (Sub.list (fun i => i) rfl rfl ⟨rfl, rfl, rfl, rfl, rfl, rfl, rfl, rfl, trivial⟩ trivial)⟩
      · replace h := h.2 e
        refine AWp.exit ?_
        refine AWp.regionN (fun _ => false) rfl ?_
        refine pF rfl rfl rfl ?_
        refine pF rfl rfl rfl ?_
        obtain ⟨hq, x681, ex681, h⟩ := h.get
        refine AOps.v rfl rfl (Step.fmax rfl rfl rfl hq ex681) ?_
        refine pF rfl rfl rfl ?_
        refine AOps.done ?_
        refine AWp.regionN (fun _ => false) rfl ?_
        obtain ⟨x682, ex682, h⟩ := h.get
        refine AOps.i tabOk rfl rfl rfl ex682 ?_
        refine pI rfl rfl rfl ?_
        refine AOps.done ?_
        exact ⟨⟨x681, x682⟩, h.1, h.2, (Sub.list (fun i => i) rfl rfl ⟨rfl, rfl, rfl, rfl, trivial⟩ trivial)⟩
    · replace h := h.2 e
      refine AWp.exit ?_
      refine AWp.seq ?_
      refine AWp.regionN (fun _ => false) rfl ?_
      refine pF rfl rfl rfl ?_
      refine pF rfl rfl rfl ?_
      refine pI rfl rfl rfl ?_
      refine AOps.done ?_
      refine AWp.ret ?_
      subst h
      exact ⟨_, rfl, rfl⟩
def W_ref04_Matrix (m1 : List (List GIval)) (Q : Bool → Prop) : Prop :=
  Loop1 (0 : Int) (fun (x116 : Int) next117 =>
    Br (decide (x116 < ((m1.length : Nat) : Int))) (
      At m1 x116 fun x136 =>
      Call (Ev_ref04_Vector x136) fun x145 =>
      Br (!x145) (Q false) (
        At m1 (0 : Int) fun x149 =>
        Br (((x136.length : Nat) : Int) != ((x149.length : Nat) : Int)) (Q false) (
          Let (IntKind.i64.wrap (x116 + (1 : Int))) fun x152 =>
          next117 x152))) (
      Br (decide (((m1.length : Nat) : Int) ≥ (1 : Int))) (Q (decide (((m1.length : Nat) : Int) ≤ (24 : Int)))) (
        Q false)))
theorem walk_ref04_Matrix {m1 : List (List GIval)} {r : Bool} (h : W_ref04_Matrix m1 (fun r' => r' = r)) : Ev_ref04_Matrix m1 r := by
  unfold W_ref04_Matrix at h
  refine AFn.intro' (L := [(0, .dat (.sl 34 1 (List.map (eSl 36 2 GIval.enc) m1)))]) tabOk Try.func10 rfl rfl Try.ntmps10 rfl rfl rfl ?_
  refine AWp.seq ?_
  refine AWp.regionN (fun _ => false) rfl ?_
  refine pB rfl rfl rfl ?_
  refine AOps.done ?_
  refine AWp.seq ?_
  refine AWp.seq ?_
  refine AWp.regionN (fun _ => false) rfl ?_
  refine pS rfl rfl rfl ?_
  refine AOps.i (j := ((m1.length : Nat) : Int)) tabOk rfl rfl rfl (by first | (rw [List.length_map]; done) | rfl) ?_
  refine pI rfl rfl rfl ?_
  refine AOps.done ?_
  refine AWp.block ?_
  obtain ⟨I157, x158, hz159, hr160⟩ := h
  refine AWp.loop (I := fun p : Int => mkSt [(0, .dat (.sl 34 1 (List.map (eSl 36 2 GIval.enc) m1))), (5, .dat (.sl 34 1 (List.map (eSl 36 2 GIval.enc) m1))), (6, .dat (.v (.int .i64 ((m1.length : Nat) : Int)))), (7, .dat (.v (.int .i64 p)))] []) (Inv := fun p => I157 p) (μ := fun p => x158 p) (x0 := (0 : Int)) hz159 (Sub.list (fun i => i) rfl rfl ⟨rfl, rfl, rfl, rfl, trivial⟩ trivial) (fun p hp => ?_)
  have h := hr160 p hp
  revert h; clear hp; generalize p = x116; intro h
  refine AWp.seq ?_
  refine AWp.regionN (fun _ => false) rfl ?_
  refine pW rfl rfl rfl ?_
  refine AOps.done ?_
  refine AWp.seq ?_
  refine AWp.cond rfl (fun e => ?_) (fun e => ?_)
  · replace h := h.1 e
    refine AWp.skip ?_
    refine AWp.seq ?_
    refine AWp.block ?_
    refine AWp.seq ?_
    refine AWp.regionN (fun _ => false) rfl ?_
    obtain ⟨hi135, x136, hx137, h⟩ := h
    refine AOps.idx tabOk (z := .sl 36 2 (List.map GIval.enc x136)) rfl rfl rfl rfl rfl rfl rfl rfl hi135 (map_get hx137) ?_
    refine pS rfl rfl rfl ?_
    refine pS rfl rfl rfl ?_
    refine AOps.done ?_
    refine AWp.seq ?_
    refine AWp.regionN (fun _ => false) rfl ?_
    refine pS rfl rfl rfl ?_
    obtain ⟨x145, hc146, h⟩ := h
    refine AOps.call hc146 rfl rfl rfl ⟨.inl rfl, trivial⟩ ?_
    refine pB rfl rfl rfl ?_
    refine pB rfl rfl rfl ?_
    refine AOps.splitB 14 rfl (fun e => ?_) (fun e => ?_)
    · replace h := h.1 e
      refine AOps.off rfl rfl ?_
      refine AOps.off rfl rfl ?_
      refine AOps.off rfl rfl ?_
      refine AOps.off rfl rfl ?_
      refine AOps.off rfl rfl ?_
      refine AOps.off rfl rfl ?_
      refine AOps.off rfl rfl ?_
      refine pB rfl rfl rfl ?_
      refine AOps.done ?_
      refine AWp.condT rfl ?_
      refine AWp.seq ?_
      refine AWp.regionN (fun _ => false) rfl ?_
      refine pB rfl rfl rfl ?_
      refine AOps.done ?_
      refine AWp.ret ?_
      subst h
      exact ⟨_, rfl, rfl⟩
    · replace h := h.2 e
      refine pS rfl rfl rfl ?_
      refine AOps.i (j := ((x136.length : Nat) : Int)) tabOk rfl rfl rfl (by first | (rw [List.length_map]; done) | rfl) ?_
      refine pS rfl rfl rfl ?_
      obtain ⟨hi148, x149, hx150, h⟩ := h
      refine AOps.idx tabOk (z := .sl 36 2 (List.map GIval.enc x149)) rfl rfl rfl rfl rfl rfl rfl rfl hi148 (map_get hx150) ?_
      refine pS rfl rfl rfl ?_
      refine AOps.i (j := ((x149.length : Nat) : Int)) tabOk rfl rfl rfl (by first | (rw [List.length_map]; done) | rfl) ?_
      refine pB rfl rfl rfl ?_
      refine pB rfl rfl rfl ?_
      refine AOps.done ?_
      refine AWp.cond rfl (fun e => ?_) (fun e => ?_)
      · replace h := h.1 e
        refine AWp.seq ?_
        refine AWp.regionN (fun _ => false) rfl ?_
        refine pB rfl rfl rfl ?_
        refine AOps.done ?_
        refine AWp.ret ?_
        subst h
        exact ⟨_, rfl, rfl⟩
      · replace h := h.2 e
        refine AWp.skip ?_
        refine AWp.regionN (fun _ => false) rfl ?_
        obtain ⟨x152, ex152, h⟩ := h.get
        refine AOps.i tabOk rfl rfl rfl ex152 ?_
        refine pI rfl rfl rfl ?_
        refine AOps.done ?_
        exact ⟨x152, h.1, h.2, (Sub.list (fun i => i) rfl rfl ⟨rfl, rfl, rfl, rfl, trivial⟩ trivial)⟩
  · replace h := h.2 e
    refine AWp.exit ?_
    refine AWp.seq ?_
    refine AWp.regionN (fun _ => false) rfl ?_
    refine pS rfl rfl rfl ?_
    refine AOps.i (j := ((m1.length : Nat) : Int)) tabOk rfl rfl rfl (by first | (rw [List.length_map]; done) | rfl) ?_
    refine pB rfl rfl rfl ?_
    refine pB rfl rfl rfl ?_
    refine AOps.splitB 27 rfl (fun e => ?_) (fun e => ?_)
    · replace h := h.1 e
      refine pS rfl rfl rfl ?_
      refine AOps.i (j := ((m1.length : Nat) : Int)) tabOk rfl rfl rfl (by first | (rw [List.length_map]; done) | rfl) ?_
      refine pB rfl rfl rfl ?_
      refine pB rfl rfl rfl ?_
      refine pB rfl rfl rfl ?_
      refine AOps.done ?_
      refine AWp.ret ?_
      subst h
      exact ⟨_, rfl, rfl⟩
    · replace h := h.2 e
      refine AOps.off rfl rfl ?_
      refine AOps.off rfl rfl ?_
      refine AOps.off rfl rfl ?_
      refine pB rfl rfl rfl ?_
      refine pB rfl rfl rfl ?_
      refine AOps.done ?_
      refine AWp.ret ?_
      subst h
      exact ⟨_, rfl, rfl⟩
def W_ref04_Norm (m1 : List (List GIval)) (Q : Nat → Prop) : Prop :=
  Loop2 (0 : Nat) (0 : Int) (fun (most512 : Nat) (x513 : Int) next514 =>
    Br (decide (x513 < ((m1.length : Nat) : Int))) (
      At m1 x513 fun x598 =>
      Loop2 (0 : Nat) (0 : Int) (fun (sum657 : Nat) (x658 : Int) next659 =>
        Br (decide (x658 < ((x598.length : Nat) : Int))) (
          At x598 x658 fun x668 =>
          Call (Ev_ref02_Mag x668) fun x670 =>
          Call (Ev_ref01_Add sum657 x670 (1 : Int)) fun x672 =>
          Let (IntKind.i64.wrap (x658 + (1 : Int))) fun x674 =>
          next659 x672 x674) (
          Br (FloatKind.f64.format.order sum657 most512 == some .gt) (
            Let (IntKind.i64.wrap (x513 + (1 : Int))) fun x675 =>
            next514 sum657 x675) (
            Let (IntKind.i64.wrap (x513 + (1 : Int))) fun x676 =>
            next514 most512 x676)))) (
      Q most512))
theorem walk_ref04_Norm {m1 : List (List GIval)} {r : Nat} (h : W_ref04_Norm m1 (fun r' => r' = r)) : Ev_ref04_Norm m1 r := by
  unfold W_ref04_Norm at h
  refine AFn.intro' (L := [(0, .dat (.sl 34 1 (List.map (eSl 36 2 GIval.enc) m1)))]) tabOk Try.func11 rfl rfl Try.ntmps11 rfl rfl rfl ?_
  refine AWp.seq ?_
  refine AWp.regionN (fun _ => false) rfl ?_
  refine pF rfl rfl rfl ?_
  refine AOps.done ?_
  refine AWp.seq ?_
  refine AWp.regionN (fun _ => false) rfl ?_
  refine pF rfl rfl rfl ?_
  refine AOps.done ?_
  refine AWp.seq ?_
  refine AWp.seq ?_
  refine AWp.regionN (fun _ => false) rfl ?_
  refine pS rfl rfl rfl ?_
  refine AOps.i (j := ((m1.length : Nat) : Int)) tabOk rfl rfl rfl (by first | (rw [List.length_map]; done) | rfl) ?_
  refine pI rfl rfl rfl ?_
  refine AOps.done ?_
  refine AWp.block ?_
  obtain ⟨I681, x682, hz683, hr684⟩ := h
  refine AWp.loop (I := fun p : Nat × Int => mkSt [(3, .dat (.v (.float .f64 p.1))), (9, .dat (.sl 34 1 (List.map (eSl 36 2 GIval.enc) m1))), (10, .dat (.v (.int .i64 ((m1.length : Nat) : Int)))), (11, .dat (.v (.int .i64 p.2)))] []) (Inv := fun p => I681 p.1 p.2) (μ := fun p => x682 p.1 p.2) (x0 := ⟨(0 : Nat), (0 : Int)⟩) hz683 (Sub.list (fun i => i) rfl rfl ⟨rfl, rfl, rfl, rfl, trivial⟩ trivial) (fun p hp => ?_)
  obtain ⟨most512, x513⟩ := p
  have h := hr684 most512 x513 hp
  refine AWp.seq ?_
  refine AWp.regionN (fun _ => false) rfl ?_
  refine pW rfl rfl rfl ?_
  refine AOps.done ?_
  refine AWp.seq ?_
  refine AWp.cond rfl (fun e => ?_) (fun e => ?_)
  · replace h := h.1 e
    refine AWp.skip ?_
    refine AWp.seq ?_
    refine AWp.block ?_
    refine AWp.seq ?_
    refine AWp.regionN (fun _ => false) rfl ?_
    obtain ⟨hi597, x598, hx599, h⟩ := h
    refine AOps.idx tabOk (z := .sl 36 2 (List.map GIval.enc x598)) rfl rfl rfl rfl rfl rfl rfl rfl hi597 (map_get hx599) ?_
    refine pS rfl rfl rfl ?_
    refine pS rfl rfl rfl ?_
    refine AOps.done ?_
    refine AWp.seq ?_
    refine AWp.regionN (fun _ => false) rfl ?_
    refine pF rfl rfl rfl ?_
    refine AOps.done ?_
    refine AWp.seq ?_
    refine AWp.seq ?_
    refine AWp.regionN (fun _ => false) rfl ?_
    refine pS rfl rfl rfl ?_
    refine AOps.i (j := ((x598.length : Nat) : Int)) tabOk rfl rfl rfl (by first | (rw [List.length_map]; done) | rfl) ?_
    refine pI rfl rfl rfl ?_
    refine AOps.done ?_
    refine AWp.block ?_
    obtain ⟨I677, x678, hz679, hr680⟩ := h
    refine AWp.loop (I := fun p : Nat × Int => mkSt [(3, .dat (.v (.float .f64 most512))), (6, .dat (.v (.float .f64 p.1))), (9, .dat (.sl 34 1 (List.map (eSl 36 2 GIval.enc) m1))), (10, .dat (.v (.int .i64 ((m1.length : Nat) : Int)))), (11, .dat (.v (.int .i64 x513))), (15, .dat (.sl 36 2 (List.map GIval.enc x598))), (16, .dat (.v (.int .i64 ((x598.length : Nat) : Int)))), (17, .dat (.v (.int .i64 p.2)))] []) (Inv := fun p => I677 p.1 p.2) (μ := fun p => x678 p.1 p.2) (x0 := ⟨(0 : Nat), (0 : Int)⟩) hz679 (Sub.list (fun i => i) rfl rfl ⟨rfl, rfl, rfl, rfl, rfl, rfl, rfl, rfl, trivial⟩ trivial) (fun p hp => ?_)
    obtain ⟨sum657, x658⟩ := p
    have h := hr680 sum657 x658 hp
    refine AWp.seq ?_
    refine AWp.regionN (fun _ => false) rfl ?_
    refine pW rfl rfl rfl ?_
    refine AOps.done ?_
    refine AWp.seq ?_
    refine AWp.cond rfl (fun e => ?_) (fun e => ?_)
    · replace h := h.1 e
      refine AWp.skip ?_
      refine AWp.seq ?_
      refine AWp.block ?_
      refine AWp.seq ?_
      refine AWp.regionN (fun o => writes o) rfl ?_
      obtain ⟨hi667, x668, hx669, h⟩ := h
      refine AOps.idx tabOk (z := GIval.enc x668) rfl rfl rfl rfl rfl rfl rfl rfl hi667 (map_get hx669) ?_
      refine pT rfl rfl rfl ?_
      refine AOps.alloc tabOk rfl rfl rfl rfl rfl ?_
      refine AOps.store tabOk (v := .dat (.st _ _)) rfl rfl rfl rfl rfl rfl rfl rfl rfl rfl rfl rfl rfl ?_
      refine AOps.done ?_
      refine AWp.regionN (fun _ => false) rfl ?_
      refine pF rfl rfl rfl ?_
      refine pT rfl rfl rfl ?_
      obtain ⟨x670, hc671, h⟩ := h
      refine AOps.call hc671 rfl rfl rfl ⟨.inl rfl, trivial⟩ ?_
      obtain ⟨x672, hc673, h⟩ := h
      refine AOps.call hc673 rfl rfl rfl ⟨.inl rfl, .inl rfl, .inl rfl, trivial⟩ ?_
      refine pF rfl rfl rfl ?_
      refine AOps.done ?_
      refine AWp.regionN (fun _ => false) rfl ?_
      obtain ⟨x674, ex674, h⟩ := h.get
      refine AOps.i tabOk rfl rfl rfl ex674 ?_
      refine pI rfl rfl rfl ?_
      refine AOps.done ?_
      exact ⟨⟨x672, x674⟩, h.1, h.2, (Sub.list (fun i => i) rfl rfl ⟨rfl, rfl, rfl, rfl, rfl, rfl, rfl, rfl, trivial⟩ trivial)⟩
    · replace h := h.2 e
      refine AWp.exit ?_
      refine AWp.seq ?_
      refine AWp.regionN (fun _ => false) rfl ?_
      refine pF rfl rfl rfl ?_
      refine pF rfl rfl rfl ?_
      refine pB rfl rfl rfl ?_
      refine AOps.done ?_
      refine AWp.cond rfl (fun e => ?_) (fun e => ?_)
      · replace h := h.1 e
        refine AWp.regionN (fun _ => false) rfl ?_
        refine pF rfl rfl rfl ?_
        refine pF rfl rfl rfl ?_
        refine AOps.done ?_
        refine AWp.regionN (fun _ => false) rfl ?_
        obtain ⟨x675, ex675, h⟩ := h.get
        refine AOps.i tabOk rfl rfl rfl ex675 ?_
        refine pI rfl rfl rfl ?_
        refine AOps.done ?_
        exact ⟨⟨sum657, x675⟩, h.1, h.2, (Sub.list (fun i => i) rfl rfl ⟨rfl, rfl, rfl, rfl, trivial⟩ trivial)⟩
      · replace h := h.2 e
        refine AWp.skip ?_
        refine AWp.regionN (fun _ => false) rfl ?_
        obtain ⟨x676, ex676, h⟩ := h.get
        refine AOps.i tabOk rfl rfl rfl ex676 ?_
        refine pI rfl rfl rfl ?_
        refine AOps.done ?_
        exact ⟨⟨most512, x676⟩, h.1, h.2, (Sub.list (fun i => i) rfl rfl ⟨rfl, rfl, rfl, rfl, trivial⟩ trivial)⟩
  · replace h := h.2 e
    refine AWp.exit ?_
    refine AWp.seq ?_
    refine AWp.regionN (fun _ => false) rfl ?_
    refine pF rfl rfl rfl ?_
    refine pF rfl rfl rfl ?_
    refine AOps.done ?_
    refine AWp.ret ?_
    subst h
    exact ⟨_, rfl, rfl⟩
def W_lin_One (n1 : Int) (Q : List (List GIval) → Prop) : Prop :=
  Br (decide (n1 < (1 : Int))) (Q ([] : List (List GIval))) (
    Br (decide (n1 > (24 : Int))) (Q ([] : List (List GIval))) (
      Call (Ev_lin_unit n1) fun x2 =>
      Call (Ev_lin_Points x2) fun x4 =>
      Q x4))
theorem walk_lin_One {n1 : Int} {r : List (List GIval)} (h : W_lin_One n1 (fun r' => r' = r)) : Ev_lin_One n1 r := by
  unfold W_lin_One at h
  refine AFn.intro' (L := [(0, .dat (.v (.int .i64 n1)))]) tabOk Try.func12 rfl rfl Try.ntmps12 rfl rfl rfl ?_
  refine AWp.seq ?_
  refine AWp.regionN (fun _ => false) rfl ?_
  refine pS rfl rfl rfl ?_
  refine AOps.done ?_
  refine AWp.seq ?_
  refine AWp.seq ?_
  refine AWp.regionN (fun _ => false) rfl ?_
  refine pI rfl rfl rfl ?_
  refine pB rfl rfl rfl ?_
  refine pB rfl rfl rfl ?_
  refine AOps.splitB 5 rfl (fun e => ?_) (fun e => ?_)
  · replace h := h.1 e
    refine AOps.off rfl rfl ?_
    refine AOps.off rfl rfl ?_
    refine pB rfl rfl rfl ?_
    refine AOps.done ?_
    refine AWp.condT rfl ?_
    refine AWp.seq ?_
    refine AWp.regionN (fun _ => false) rfl ?_
    refine pS rfl rfl rfl ?_
    refine AOps.done ?_
    refine AWp.ret ?_
    subst h
    exact ⟨_, rfl, rfl⟩
  · replace h := h.2 e
    refine pI rfl rfl rfl ?_
    refine pB rfl rfl rfl ?_
    refine pB rfl rfl rfl ?_
    refine AOps.done ?_
    refine AWp.cond rfl (fun e => ?_) (fun e => ?_)
    · replace h := h.1 e
      refine AWp.seq ?_
      refine AWp.regionN (fun _ => false) rfl ?_
      refine pS rfl rfl rfl ?_
      refine AOps.done ?_
      refine AWp.ret ?_
      subst h
      exact ⟨_, rfl, rfl⟩
    · replace h := h.2 e
      refine AWp.skip ?_
      refine AWp.seq ?_
      refine AWp.regionN (fun _ => false) rfl ?_
      refine pI rfl rfl rfl ?_
      obtain ⟨x2, hc3, h⟩ := h
      refine AOps.call hc3 rfl rfl rfl ⟨.inl rfl, trivial⟩ ?_
      obtain ⟨x4, hc5, h⟩ := h
      refine AOps.call hc5 rfl rfl rfl ⟨.inl rfl, trivial⟩ ?_
      refine pS rfl rfl rfl ?_
      refine AOps.done ?_
      refine AWp.ret ?_
      subst h
      exact ⟨_, rfl, rfl⟩
def W_ref04_SameAll (a1 : List (List GIval)) (b2 : List (List GIval)) (Q : Bool → Prop) : Prop :=
  Br (((a1.length : Nat) : Int) != ((b2.length : Nat) : Int)) (Q false) (
    Loop1 (0 : Int) (fun (x65 : Int) next66 =>
      Br (decide (x65 < ((a1.length : Nat) : Int))) (
        At a1 x65 fun x76 =>
        At b2 x65 fun x79 =>
        Call (Ev_ref04_Same x76 x79) fun x81 =>
        Br (!x81) (Q false) (
          Let (IntKind.i64.wrap (x65 + (1 : Int))) fun x83 =>
          next66 x83)) (
        Q true)))
theorem walk_ref04_SameAll {a1 : List (List GIval)} {b2 : List (List GIval)} {r : Bool} (h : W_ref04_SameAll a1 b2 (fun r' => r' = r)) : Ev_ref04_SameAll a1 b2 r := by
  unfold W_ref04_SameAll at h
  refine AFn.intro' (L := [(0, .dat (.sl 34 1 (List.map (eSl 36 2 GIval.enc) a1))), (1, .dat (.sl 34 1 (List.map (eSl 36 2 GIval.enc) b2)))]) tabOk Try.func13 rfl rfl Try.ntmps13 rfl rfl rfl ?_
  refine AWp.seq ?_
  refine AWp.regionN (fun _ => false) rfl ?_
  refine pB rfl rfl rfl ?_
  refine AOps.done ?_
  refine AWp.seq ?_
  refine AWp.seq ?_
  refine AWp.regionN (fun _ => false) rfl ?_
  refine pS rfl rfl rfl ?_
  refine AOps.i (j := ((a1.length : Nat) : Int)) tabOk rfl rfl rfl (by first | (rw [List.length_map]; done) | rfl) ?_
  refine pS rfl rfl rfl ?_
  refine AOps.i (j := ((b2.length : Nat) : Int)) tabOk rfl rfl rfl (by first | (rw [List.length_map]; done) | rfl) ?_
  refine pB rfl rfl rfl ?_
  refine AOps.done ?_
  refine AWp.cond rfl (fun e => ?_) (fun e => ?_)
  · replace h := h.1 e
    refine AWp.seq ?_
    refine AWp.regionN (fun _ => false) rfl ?_
    refine pB rfl rfl rfl ?_
    refine AOps.done ?_
    refine AWp.ret ?_
    subst h
    exact ⟨_, rfl, rfl⟩
  · replace h := h.2 e
    refine AWp.skip ?_
    refine AWp.seq ?_
    refine AWp.seq ?_
    refine AWp.regionN (fun _ => false) rfl ?_
    refine pS rfl rfl rfl ?_
    refine AOps.i (j := ((a1.length : Nat) : Int)) tabOk rfl rfl rfl (by first | (rw [List.length_map]; done) | rfl) ?_
    refine pI rfl rfl rfl ?_
    refine AOps.done ?_
    refine AWp.block ?_
    obtain ⟨I84, x85, hz86, hr87⟩ := h
    refine AWp.loop (I := fun p : Int => mkSt [(0, .dat (.sl 34 1 (List.map (eSl 36 2 GIval.enc) a1))), (1, .dat (.sl 34 1 (List.map (eSl 36 2 GIval.enc) b2))), (12, .dat (.v (.int .i64 ((a1.length : Nat) : Int)))), (13, .dat (.v (.int .i64 p)))] []) (Inv := fun p => I84 p) (μ := fun p => x85 p) (x0 := (0 : Int)) hz86 (Sub.list (fun i => i) rfl rfl ⟨rfl, rfl, rfl, rfl, trivial⟩ trivial) (fun p hp => ?_)
    have h := hr87 p hp
    revert h; clear hp; generalize p = x65; intro h
    refine AWp.seq ?_
    refine AWp.regionN (fun _ => false) rfl ?_
    refine pW rfl rfl rfl ?_
    refine AOps.done ?_
    refine AWp.seq ?_
    refine AWp.cond rfl (fun e => ?_) (fun e => ?_)
    · replace h := h.1 e
      refine AWp.skip ?_
      refine AWp.seq ?_
      refine AWp.block ?_
      refine AWp.seq ?_
      refine AWp.regionN (fun _ => false) rfl ?_
      refine pI rfl rfl rfl ?_
      refine pI rfl rfl rfl ?_
      refine AOps.done ?_
      refine AWp.seq ?_
      refine AWp.regionD (fun _ => false) mixed (by decide +kernel) rfl ?_
      refine pS rfl rfl rfl ?_
      refine pI rfl rfl rfl ?_
      obtain ⟨hi75, x76, hx77, h⟩ := h
      refine AOps.idx tabOk (z := .sl 36 2 (List.map GIval.enc x76)) rfl rfl rfl rfl rfl rfl rfl rfl hi75 (map_get hx77) ?_
      refine pS rfl rfl rfl ?_
      refine pS rfl rfl rfl ?_
      refine pI rfl rfl rfl ?_
      obtain ⟨hi78, x79, hx80, h⟩ := h
      refine AOps.idx tabOk (z := .sl 36 2 (List.map GIval.enc x79)) rfl rfl rfl rfl rfl rfl rfl rfl hi78 (map_get hx80) ?_
      refine pS rfl rfl rfl ?_
      obtain ⟨x81, hc82, h⟩ := h
      refine AOps.call hc82 rfl rfl rfl ⟨.inl rfl, .inl rfl, trivial⟩ ?_
      refine pB rfl rfl rfl ?_
      refine AOps.done ?_
      refine AWp.cond rfl (fun e => ?_) (fun e => ?_)
      · replace h := h.1 e
        refine AWp.seq ?_
        refine AWp.regionN (fun _ => false) rfl ?_
        refine pB rfl rfl rfl ?_
        refine AOps.done ?_
        refine AWp.ret ?_
        subst h
        exact ⟨_, rfl, rfl⟩
      · replace h := h.2 e
        refine AWp.skip ?_
        refine AWp.regionN (fun _ => false) rfl ?_
        obtain ⟨x83, ex83, h⟩ := h.get
        refine AOps.i tabOk rfl rfl rfl ex83 ?_
        refine pI rfl rfl rfl ?_
        refine AOps.done ?_
        exact ⟨x83, h.1, h.2, (Sub.list (fun i => i) rfl rfl ⟨rfl, rfl, rfl, rfl, trivial⟩ trivial)⟩
    · replace h := h.2 e
      refine AWp.exit ?_
      refine AWp.seq ?_
      refine AWp.regionN (fun _ => false) rfl ?_
      refine pB rfl rfl rfl ?_
      refine AOps.done ?_
      refine AWp.ret ?_
      subst h
      exact ⟨_, rfl, rfl⟩
def W_ref04_Points (m1 : List (List Nat)) (Q : List (List GIval) → Prop) : Prop :=
  Call (Ev_ref04_Floats m1) fun x2 =>
  Br (!x2) (Q ([] : List (List GIval))) (
    Loop2 ([] : List (List GIval)) (0 : Int) (fun (out481 : List (List GIval)) (x482 : Int) next483 =>
      Br (decide (x482 < ((m1.length : Nat) : Int))) (
        At m1 x482 fun x562 =>
        Loop2 ([] : List GIval) (0 : Int) (fun (row617 : List GIval) (x618 : Int) next619 =>
          Br (decide (x618 < ((x562.length : Nat) : Int))) (
            At x562 x618 fun x627 =>
            Call (Ev_ref02_Make x627 x627) fun x629 =>
            App 16 row617 ([x629]) fun x631 =>
            Let (IntKind.i64.wrap (x618 + (1 : Int))) fun x632 =>
            next619 x631 x632) (
            App 24 out481 ([row617]) fun x633 =>
            Let (IntKind.i64.wrap (x482 + (1 : Int))) fun x634 =>
            next483 x633 x634))) (
        Q out481)))
theorem walk_ref04_Points {m1 : List (List Nat)} {r : List (List GIval)} (h : W_ref04_Points m1 (fun r' => r' = r)) : Ev_ref04_Points m1 r := by
  unfold W_ref04_Points at h
  refine AFn.intro' (L := [(0, .dat (.sl 83 1 (List.map (eSl 24 1 (eFlt .f64)) m1)))]) tabOk Try.func15 rfl rfl Try.ntmps15 rfl rfl rfl ?_
  refine AWp.seq ?_
  refine AWp.regionN (fun _ => false) rfl ?_
  refine pS rfl rfl rfl ?_
  refine AOps.done ?_
  refine AWp.seq ?_
  refine AWp.regionN (fun _ => false) rfl ?_
  refine AOps.litown tabOk (ys := []) rfl rfl rfl rfl rfl rfl rfl rfl ?_
  refine pO rfl rfl rfl ?_
  refine AOps.done ?_
  refine AWp.seq ?_
  refine AWp.seq ?_
  refine AWp.regionN (fun _ => false) rfl ?_
  refine pS rfl rfl rfl ?_
  obtain ⟨x2, hc3, h⟩ := h
  refine AOps.call hc3 rfl rfl rfl ⟨.inl rfl, trivial⟩ ?_
  refine pB rfl rfl rfl ?_
  refine AOps.done ?_
  refine AWp.cond rfl (fun e => ?_) (fun e => ?_)
  · replace h := h.1 e
    refine AWp.seq ?_
    refine AWp.regionN (fun _ => false) rfl ?_
    refine pO rfl rfl rfl ?_
    refine pO rfl rfl rfl ?_
    refine AOps.done ?_
    refine AWp.ret ?_
    subst h
    exact ⟨_, rfl, rfl⟩
  · replace h := h.2 e
    refine AWp.skip ?_
    refine AWp.seq ?_
    refine AWp.seq ?_
    refine AWp.regionN (fun _ => false) rfl ?_
    refine pS rfl rfl rfl ?_
    refine AOps.i (j := ((m1.length : Nat) : Int)) tabOk rfl rfl rfl (by first | (rw [List.length_map]; done) | rfl) ?_
    refine pI rfl rfl rfl ?_
    refine AOps.done ?_
    refine AWp.block ?_
    obtain ⟨I639, x640, hz641, hr642⟩ := h
    refine AWp.loop (I := fun p : (List (List GIval)) × Int => mkSt [(3, .oref 1003), (14, .dat (.sl 83 1 (List.map (eSl 24 1 (eFlt .f64)) m1))), (15, .dat (.v (.int .i64 ((m1.length : Nat) : Int)))), (16, .dat (.v (.int .i64 p.2)))] [(1003, .row 34 1 (List.map (eSl 36 2 GIval.enc) p.1))]) (Inv := fun p => I639 p.1 p.2) (μ := fun p => x640 p.1 p.2) (x0 := ⟨([] : List (List GIval)), (0 : Int)⟩) hz641 (Sub.list (fun i => (if Nat.beq i 1003 then 9 else i)) rfl rfl ⟨rfl, rfl, rfl, rfl, trivial⟩ ⟨rfl, trivial⟩) (fun p hp => ?_)
    obtain ⟨out481, x482⟩ := p
    have h := hr642 out481 x482 hp
    refine AWp.seq ?_
    refine AWp.regionN (fun _ => false) rfl ?_
    refine pW rfl rfl rfl ?_
    refine AOps.done ?_
    refine AWp.seq ?_
    refine AWp.cond rfl (fun e => ?_) (fun e => ?_)
    · replace h := h.1 e
      refine AWp.skip ?_
      refine AWp.seq ?_
      refine AWp.block ?_
      refine AWp.seq ?_
      refine AWp.regionN (fun _ => false) rfl ?_
      obtain ⟨hi561, x562, hx563, h⟩ := h
      refine AOps.idx tabOk (z := .sl 24 1 (List.map (eFlt .f64) x562)) rfl rfl rfl rfl rfl rfl rfl rfl hi561 (map_get hx563) ?_
      refine pS rfl rfl rfl ?_
      refine pS rfl rfl rfl ?_
      refine AOps.done ?_
      refine AWp.seq ?_
      refine AWp.regionN (fun _ => false) rfl ?_
      refine AOps.litown tabOk (ys := []) rfl rfl rfl rfl rfl rfl rfl rfl ?_
      refine pO rfl rfl rfl ?_
      refine AOps.done ?_
      refine AWp.seq ?_
      refine AWp.seq ?_
      refine AWp.regionN (fun _ => false) rfl ?_
      refine pS rfl rfl rfl ?_
      refine AOps.i (j := ((x562.length : Nat) : Int)) tabOk rfl rfl rfl (by first | (rw [List.length_map]; done) | rfl) ?_
      refine pI rfl rfl rfl ?_
      refine AOps.done ?_
      refine AWp.block ?_
      obtain ⟨I635, x636, hz637, hr638⟩ := h
      refine AWp.loop (I := fun p : (List GIval) × Int => mkSt [(3, .oref 1003), (6, .oref 1006), (14, .dat (.sl 83 1 (List.map (eSl 24 1 (eFlt .f64)) m1))), (15, .dat (.v (.int .i64 ((m1.length : Nat) : Int)))), (16, .dat (.v (.int .i64 x482))), (21, .dat (.sl 24 1 (List.map (eFlt .f64) x562))), (22, .dat (.v (.int .i64 ((x562.length : Nat) : Int)))), (23, .dat (.v (.int .i64 p.2)))] [(1003, .row 34 1 (List.map (eSl 36 2 GIval.enc) out481)), (1006, .row 36 2 (List.map GIval.enc p.1))]) (Inv := fun p => I635 p.1 p.2) (μ := fun p => x636 p.1 p.2) (x0 := ⟨([] : List GIval), (0 : Int)⟩) hz637 (Sub.list (fun i => (if Nat.beq i 1006 then 20 else i)) rfl rfl ⟨rfl, rfl, rfl, rfl, rfl, rfl, rfl, rfl, trivial⟩ ⟨rfl, rfl, trivial⟩) (fun p hp => ?_)
      obtain ⟨row617, x618⟩ := p
      have h := hr638 row617 x618 hp
      refine AWp.seq ?_
      refine AWp.regionN (fun _ => false) rfl ?_
      refine pW rfl rfl rfl ?_
      refine AOps.done ?_
      refine AWp.seq ?_
      refine AWp.cond rfl (fun e => ?_) (fun e => ?_)
      · replace h := h.1 e
        refine AWp.skip ?_
        refine AWp.seq ?_
        refine AWp.block ?_
        refine AWp.seq ?_
        refine AWp.regionN (fun _ => false) rfl ?_
        obtain ⟨hi626, x627, hx628, h⟩ := h
        refine AOps.idx tabOk (z := .v (.float .f64 x627)) rfl rfl rfl rfl rfl rfl rfl rfl hi626 (map_get hx628) ?_
        refine pF rfl rfl rfl ?_
        refine pF rfl rfl rfl ?_
        refine AOps.done ?_
        refine AWp.regionN (fun o => writes o) rfl ?_
        refine pO rfl rfl rfl ?_
        refine pF rfl rfl rfl ?_
        refine pF rfl rfl rfl ?_
        obtain ⟨x629, hc630, h⟩ := h
        refine AOps.call hc630 rfl rfl rfl ⟨.inl rfl, .inl rfl, trivial⟩ ?_
        refine AOps.lit tabOk (ys := [GIval.enc x629]) rfl rfl rfl rfl rfl rfl ?_
        obtain ⟨h1, h2, x631, ex631, h⟩ := h.get
        refine AOps.append tabOk rfl rfl rfl rfl rfl rfl rfl rfl rfl rfl rfl (.inl ⟨_, rfl⟩) (app1 h1) (app2 h2) (app3 ex631) ?_
        refine pO rfl rfl rfl ?_
        refine AOps.done ?_
        refine AWp.regionN (fun _ => false) rfl ?_
        obtain ⟨x632, ex632, h⟩ := h.get
        refine AOps.i tabOk rfl rfl rfl ex632 ?_
        refine pI rfl rfl rfl ?_
        refine AOps.done ?_
        exact ⟨⟨x631, x632⟩, h.1, h.2, (Sub.list (fun i => (if Nat.beq i 1006 then 32 else i)) rfl rfl ⟨rfl, rfl, rfl, rfl, rfl, rfl, rfl, rfl, trivial⟩ ⟨rfl, rfl, trivial⟩)⟩
      · replace h := h.2 e
        refine AWp.exit ?_
        refine AWp.freeze 6 1006 rfl rfl ?_
        refine AWp.regionN (fun o => writes o) rfl ?_
        refine pO rfl rfl rfl ?_
        refine pS rfl rfl rfl ?_
        refine AOps.lit tabOk (ys := [.sl 36 2 (List.map GIval.enc row617)]) rfl rfl rfl rfl rfl rfl ?_
        obtain ⟨h1, h2, x633, ex633, h⟩ := h.get
        refine AOps.append tabOk rfl rfl rfl rfl rfl rfl rfl rfl rfl rfl rfl (.inl ⟨_, rfl⟩) (app1 h1) (app2 h2) (app3 ex633) ?_
        refine pO rfl rfl rfl ?_
        refine AOps.done ?_
        refine AWp.regionN (fun _ => false) rfl ?_
        obtain ⟨x634, ex634, h⟩ := h.get
        refine AOps.i tabOk rfl rfl rfl ex634 ?_
        refine pI rfl rfl rfl ?_
        refine AOps.done ?_
        exact ⟨⟨x633, x634⟩, h.1, h.2, (Sub.list (fun i => (if Nat.beq i 1003 then 37 else i)) rfl rfl ⟨rfl, rfl, rfl, rfl, trivial⟩ ⟨rfl, trivial⟩)⟩
    · replace h := h.2 e
      refine AWp.exit ?_
      refine AWp.seq ?_
      refine AWp.regionN (fun _ => false) rfl ?_
      refine pO rfl rfl rfl ?_
      refine pO rfl rfl rfl ?_
      refine AOps.done ?_
      refine AWp.ret ?_
      subst h
      exact ⟨_, rfl, rfl⟩
def W_ref04_One (n1 : Int) (Q : List (List GIval) → Prop) : Prop :=
  Br (decide (n1 > (24 : Int))) (Q ([] : List (List GIval))) (
    Loop2 ([] : List (List GIval)) (0 : Int) (fun (out550 : List (List GIval)) (i551 : Int) next552 =>
      Br (decide (i551 < n1)) (
        Loop2 ([] : List GIval) (0 : Int) (fun (row706 : List GIval) (j707 : Int) next708 =>
          Br (decide (j707 < n1)) (
            Join1 (fun j718 =>
              Br (i551 == j707) (j718 (4607182418800017408 : Nat)) (
                j718 (0 : Nat))
            ) (fun (v717 : Nat) =>
              Call (Ev_ref02_Make v717 v717) fun x719 =>
              App 16 row706 ([x719]) fun x721 =>
              Let (IntKind.i64.wrap (j707 + (1 : Int))) fun x722 =>
              next708 x721 x722)) (
            App 24 out550 ([row706]) fun x726 =>
            Let (IntKind.i64.wrap (i551 + (1 : Int))) fun x727 =>
            next552 x726 x727))) (
        Q out550)))
theorem walk_ref04_One {n1 : Int} {r : List (List GIval)} (h : W_ref04_One n1 (fun r' => r' = r)) : Ev_ref04_One n1 r := by
  unfold W_ref04_One at h
  refine AFn.intro' (L := [(0, .dat (.v (.int .i64 n1)))]) tabOk Try.func16 rfl rfl Try.ntmps16 rfl rfl rfl ?_
  refine AWp.seq ?_
  refine AWp.regionN (fun _ => false) rfl ?_
  refine pS rfl rfl rfl ?_
  refine AOps.done ?_
  refine AWp.seq ?_
  refine AWp.regionN (fun _ => false) rfl ?_
  refine AOps.litown tabOk (ys := []) rfl rfl rfl rfl rfl rfl rfl rfl ?_
  refine pO rfl rfl rfl ?_
  refine AOps.done ?_
  refine AWp.seq ?_
  refine AWp.seq ?_
  refine AWp.regionN (fun _ => false) rfl ?_
  refine pI rfl rfl rfl ?_
  refine pB rfl rfl rfl ?_
  refine AOps.done ?_
  refine AWp.cond rfl (fun e => ?_) (fun e => ?_)
  · replace h := h.1 e
    refine AWp.seq ?_
    refine AWp.regionN (fun _ => false) rfl ?_
    refine pO rfl rfl rfl ?_
    refine pO rfl rfl rfl ?_
    refine AOps.done ?_
    refine AWp.ret ?_
    subst h
    exact ⟨_, rfl, rfl⟩
  · replace h := h.2 e
    refine AWp.skip ?_
    refine AWp.seq ?_
    refine AWp.seq ?_
    refine AWp.regionN (fun _ => false) rfl ?_
    refine pI rfl rfl rfl ?_
    refine AOps.done ?_
    refine AWp.block ?_
    obtain ⟨I732, x733, hz734, hr735⟩ := h
    refine AWp.loop (I := fun p : (List (List GIval)) × Int => mkSt [(0, .dat (.v (.int .i64 n1))), (3, .oref 1003), (4, .dat (.v (.int .i64 p.2)))] [(1003, .row 34 1 (List.map (eSl 36 2 GIval.enc) p.1))]) (Inv := fun p => I732 p.1 p.2) (μ := fun p => x733 p.1 p.2) (x0 := ⟨([] : List (List GIval)), (0 : Int)⟩) hz734 (Sub.list (fun i => (if Nat.beq i 1003 then 8 else i)) rfl rfl ⟨rfl, rfl, rfl, trivial⟩ ⟨rfl, trivial⟩) (fun p hp => ?_)
    obtain ⟨out550, i551⟩ := p
    have h := hr735 out550 i551 hp
    refine AWp.seq ?_
    refine AWp.seq ?_
    refine AWp.regionN (fun _ => false) rfl ?_
    refine pI rfl rfl rfl ?_
    refine pI rfl rfl rfl ?_
    refine pB rfl rfl rfl ?_
    refine AOps.done ?_
    refine AWp.cond rfl (fun e => ?_) (fun e => ?_)
    · replace h := h.1 e
      refine AWp.skip ?_
      refine AWp.seq ?_
      refine AWp.block ?_
      refine AWp.seq ?_
      refine AWp.regionN (fun _ => false) rfl ?_
      refine AOps.litown tabOk (ys := []) rfl rfl rfl rfl rfl rfl rfl rfl ?_
      refine pO rfl rfl rfl ?_
      refine AOps.done ?_
      refine AWp.seq ?_
      refine AWp.seq ?_
      refine AWp.regionN (fun _ => false) rfl ?_
      refine pI rfl rfl rfl ?_
      refine AOps.done ?_
      refine AWp.block ?_
      obtain ⟨I728, x729, hz730, hr731⟩ := h
      refine AWp.loop (I := fun p : (List GIval) × Int => mkSt [(0, .dat (.v (.int .i64 n1))), (3, .oref 1003), (4, .dat (.v (.int .i64 i551))), (5, .oref 1005), (6, .dat (.v (.int .i64 p.2)))] [(1003, .row 34 1 (List.map (eSl 36 2 GIval.enc) out550)), (1005, .row 36 2 (List.map GIval.enc p.1))]) (Inv := fun p => I728 p.1 p.2) (μ := fun p => x729 p.1 p.2) (x0 := ⟨([] : List GIval), (0 : Int)⟩) hz730 (Sub.list (fun i => (if Nat.beq i 1005 then 17 else i)) rfl rfl ⟨rfl, rfl, rfl, rfl, rfl, trivial⟩ ⟨rfl, rfl, trivial⟩) (fun p hp => ?_)
      obtain ⟨row706, j707⟩ := p
      have h := hr731 row706 j707 hp
      refine AWp.seq ?_
      refine AWp.seq ?_
      refine AWp.regionN (fun _ => false) rfl ?_
      refine pI rfl rfl rfl ?_
      refine pI rfl rfl rfl ?_
      refine pB rfl rfl rfl ?_
      refine AOps.done ?_
      refine AWp.cond rfl (fun e => ?_) (fun e => ?_)
      · replace h := h.1 e
        refine AWp.skip ?_
        refine AWp.seq ?_
        refine AWp.block ?_
        refine AWp.seq ?_
        refine AWp.regionN (fun _ => false) rfl ?_
        refine pF rfl rfl rfl ?_
        refine AOps.done ?_
        refine AWp.seq ?_
        refine AWp.seq ?_
        refine AWp.regionN (fun _ => false) rfl ?_
        refine pI rfl rfl rfl ?_
        refine pI rfl rfl rfl ?_
        refine pB rfl rfl rfl ?_
        refine AOps.done ?_
        obtain ⟨J723, hj724, hk725⟩ := h
        refine AWp.cutK (I := fun p : Nat => mkSt [(0, .dat (.v (.int .i64 n1))), (3, .oref 1003), (4, .dat (.v (.int .i64 i551))), (5, .oref 1005), (6, .dat (.v (.int .i64 j707))), (7, .dat (.v (.float .f64 p)))] [(1003, .row 34 1 (List.map (eSl 36 2 GIval.enc) out550)), (1005, .row 36 2 (List.map GIval.enc row706))]) (Inv := fun p : Nat => J723 p) ?_ (fun p hp => ?_)
        · have h := hj724
          refine AWp.cond rfl (fun e => ?_) (fun e => ?_)
          · replace h := h.1 e
            refine AWp.regionN (fun _ => false) rfl ?_
            refine pF rfl rfl rfl ?_
            refine AOps.done ?_
            exact ⟨(4607182418800017408 : Nat), h, (Sub.list (fun i => i) rfl rfl ⟨rfl, rfl, rfl, rfl, rfl, rfl, trivial⟩ ⟨rfl, rfl, trivial⟩)⟩
          · replace h := h.2 e
            refine AWp.skip ?_
            exact ⟨(0 : Nat), h, (Sub.list (fun i => i) rfl rfl ⟨rfl, rfl, rfl, rfl, rfl, rfl, trivial⟩ ⟨rfl, rfl, trivial⟩)⟩
        · have h := hk725 p hp
          revert h; clear hp; generalize p = v717; intro h
          refine AWp.regionN (fun o => writes o) rfl ?_
          refine pO rfl rfl rfl ?_
          refine pF rfl rfl rfl ?_
          refine pF rfl rfl rfl ?_
          obtain ⟨x719, hc720, h⟩ := h
          refine AOps.call hc720 rfl rfl rfl ⟨.inl rfl, .inl rfl, trivial⟩ ?_
          refine AOps.lit tabOk (ys := [GIval.enc x719]) rfl rfl rfl rfl rfl rfl ?_
          obtain ⟨h1, h2, x721, ex721, h⟩ := h.get
          refine AOps.append tabOk rfl rfl rfl rfl rfl rfl rfl rfl rfl rfl rfl (.inl ⟨_, rfl⟩) (app1 h1) (app2 h2) (app3 ex721) ?_
          refine pO rfl rfl rfl ?_
          refine AOps.done ?_
          refine AWp.regionN (fun _ => false) rfl ?_
          refine pI rfl rfl rfl ?_
          obtain ⟨x722, ex722, h⟩ := h.get
          refine AOps.i tabOk rfl rfl rfl ex722 ?_
          refine pI rfl rfl rfl ?_
          refine AOps.done ?_
          exact ⟨⟨x721, x722⟩, h.1, h.2, (Sub.list (fun i => (if Nat.beq i 1005 then 31 else i)) rfl rfl ⟨rfl, rfl, rfl, rfl, rfl, trivial⟩ ⟨rfl, rfl, trivial⟩)⟩
      · replace h := h.2 e
        refine AWp.exit ?_
        refine AWp.freeze 5 1005 rfl rfl ?_
        refine AWp.regionN (fun o => writes o) rfl ?_
        refine pO rfl rfl rfl ?_
        refine pS rfl rfl rfl ?_
        refine AOps.lit tabOk (ys := [.sl 36 2 (List.map GIval.enc row706)]) rfl rfl rfl rfl rfl rfl ?_
        obtain ⟨h1, h2, x726, ex726, h⟩ := h.get
        refine AOps.append tabOk rfl rfl rfl rfl rfl rfl rfl rfl rfl rfl rfl (.inl ⟨_, rfl⟩) (app1 h1) (app2 h2) (app3 ex726) ?_
        refine pO rfl rfl rfl ?_
        refine AOps.done ?_
        refine AWp.regionN (fun _ => false) rfl ?_
        refine pI rfl rfl rfl ?_
        obtain ⟨x727, ex727, h⟩ := h.get
        refine AOps.i tabOk rfl rfl rfl ex727 ?_
        refine pI rfl rfl rfl ?_
        refine AOps.done ?_
        exact ⟨⟨x726, x727⟩, h.1, h.2, (Sub.list (fun i => (if Nat.beq i 1003 then 35 else i)) rfl rfl ⟨rfl, rfl, rfl, trivial⟩ ⟨rfl, trivial⟩)⟩
    · replace h := h.2 e
      refine AWp.exit ?_
      refine AWp.seq ?_
      refine AWp.regionN (fun _ => false) rfl ?_
      refine pO rfl rfl rfl ?_
      refine pO rfl rfl rfl ?_
      refine AOps.done ?_
      refine AWp.ret ?_
      subst h
      exact ⟨_, rfl, rfl⟩
def W_ref04_Vector (v1 : List GIval) (Q : Bool → Prop) : Prop :=
  Loop1 (0 : Int) (fun (x44 : Int) next45 =>
    Br (decide (x44 < ((v1.length : Nat) : Int))) (
      At v1 x44 fun x52 =>
      Call (Ev_ref02_Right x52) fun x54 =>
      Br (!x54) (Q false) (
        Let (IntKind.i64.wrap (x44 + (1 : Int))) fun x56 =>
        next45 x56)) (
      Br (decide (((v1.length : Nat) : Int) ≥ (1 : Int))) (Q (decide (((v1.length : Nat) : Int) ≤ (24 : Int)))) (
        Q false)))
theorem walk_ref04_Vector {v1 : List GIval} {r : Bool} (h : W_ref04_Vector v1 (fun r' => r' = r)) : Ev_ref04_Vector v1 r := by
  unfold W_ref04_Vector at h
  refine AFn.intro' (L := [(0, .dat (.sl 36 2 (List.map GIval.enc v1)))]) tabOk Try.func19 rfl rfl Try.ntmps19 rfl rfl rfl ?_
  refine AWp.seq ?_
  refine AWp.regionN (fun _ => false) rfl ?_
  refine pB rfl rfl rfl ?_
  refine AOps.done ?_
  refine AWp.seq ?_
  refine AWp.seq ?_
  refine AWp.regionN (fun _ => false) rfl ?_
  refine pS rfl rfl rfl ?_
  refine AOps.i (j := ((v1.length : Nat) : Int)) tabOk rfl rfl rfl (by first | (rw [List.length_map]; done) | rfl) ?_
  refine pI rfl rfl rfl ?_
  refine AOps.done ?_
  refine AWp.block ?_
  obtain ⟨I61, x62, hz63, hr64⟩ := h
  refine AWp.loop (I := fun p : Int => mkSt [(0, .dat (.sl 36 2 (List.map GIval.enc v1))), (5, .dat (.sl 36 2 (List.map GIval.enc v1))), (6, .dat (.v (.int .i64 ((v1.length : Nat) : Int)))), (7, .dat (.v (.int .i64 p)))] []) (Inv := fun p => I61 p) (μ := fun p => x62 p) (x0 := (0 : Int)) hz63 (Sub.list (fun i => i) rfl rfl ⟨rfl, rfl, rfl, rfl, trivial⟩ trivial) (fun p hp => ?_)
  have h := hr64 p hp
  revert h; clear hp; generalize p = x44; intro h
  refine AWp.seq ?_
  refine AWp.regionN (fun _ => false) rfl ?_
  refine pW rfl rfl rfl ?_
  refine AOps.done ?_
  refine AWp.seq ?_
  refine AWp.cond rfl (fun e => ?_) (fun e => ?_)
  · replace h := h.1 e
    refine AWp.skip ?_
    refine AWp.seq ?_
    refine AWp.block ?_
    refine AWp.seq ?_
    refine AWp.regionN (fun o => writes o) rfl ?_
    obtain ⟨hi51, x52, hx53, h⟩ := h
    refine AOps.idx tabOk (z := GIval.enc x52) rfl rfl rfl rfl rfl rfl rfl rfl hi51 (map_get hx53) ?_
    refine pT rfl rfl rfl ?_
    refine AOps.alloc tabOk rfl rfl rfl rfl rfl ?_
    refine AOps.store tabOk (v := .dat (.st _ _)) rfl rfl rfl rfl rfl rfl rfl rfl rfl rfl rfl rfl rfl ?_
    refine AOps.done ?_
    refine AWp.seq ?_
    refine AWp.regionN (fun _ => false) rfl ?_
    refine pT rfl rfl rfl ?_
    obtain ⟨x54, hc55, h⟩ := h
    refine AOps.call hc55 rfl rfl rfl ⟨.inl rfl, trivial⟩ ?_
    refine pB rfl rfl rfl ?_
    refine AOps.done ?_
    refine AWp.cond rfl (fun e => ?_) (fun e => ?_)
    · replace h := h.1 e
      refine AWp.seq ?_
      refine AWp.regionN (fun _ => false) rfl ?_
      refine pB rfl rfl rfl ?_
      refine AOps.done ?_
      refine AWp.ret ?_
      subst h
      exact ⟨_, rfl, rfl⟩
    · replace h := h.2 e
      refine AWp.skip ?_
      refine AWp.regionN (fun _ => false) rfl ?_
      obtain ⟨x56, ex56, h⟩ := h.get
      refine AOps.i tabOk rfl rfl rfl ex56 ?_
      refine pI rfl rfl rfl ?_
      refine AOps.done ?_
      exact ⟨x56, h.1, h.2, (Sub.list (fun i => i) rfl rfl ⟨rfl, rfl, rfl, rfl, trivial⟩ trivial)⟩
  · replace h := h.2 e
    refine AWp.exit ?_
    refine AWp.seq ?_
    refine AWp.regionN (fun _ => false) rfl ?_
    refine pS rfl rfl rfl ?_
    refine AOps.i (j := ((v1.length : Nat) : Int)) tabOk rfl rfl rfl (by first | (rw [List.length_map]; done) | rfl) ?_
    refine pB rfl rfl rfl ?_
    refine pB rfl rfl rfl ?_
    refine AOps.splitB 18 rfl (fun e => ?_) (fun e => ?_)
    · replace h := h.1 e
      refine pS rfl rfl rfl ?_
      refine AOps.i (j := ((v1.length : Nat) : Int)) tabOk rfl rfl rfl (by first | (rw [List.length_map]; done) | rfl) ?_
      refine pB rfl rfl rfl ?_
      refine pB rfl rfl rfl ?_
      refine pB rfl rfl rfl ?_
      refine AOps.done ?_
      refine AWp.ret ?_
      subst h
      exact ⟨_, rfl, rfl⟩
    · replace h := h.2 e
      refine AOps.off rfl rfl ?_
      refine AOps.off rfl rfl ?_
      refine AOps.off rfl rfl ?_
      refine pB rfl rfl rfl ?_
      refine pB rfl rfl rfl ?_
      refine AOps.done ?_
      refine AWp.ret ?_
      subst h
      exact ⟨_, rfl, rfl⟩
def W_ref02_Same (x1 : GIval) (y2 : GIval) (Q : Bool → Prop) : Prop :=
  Call (Ev_ref01_Same x1.Lo y2.Lo) fun x7 =>
  Br x7 (
    Call (Ev_ref01_Same x1.Hi y2.Hi) fun x9 =>
    Q x9) (
    Q false)
theorem walk_ref02_Same {x1 : GIval} {y2 : GIval} {r : Bool} (h : W_ref02_Same x1 y2 (fun r' => r' = r)) : Ev_ref02_Same x1 y2 r := by
  unfold W_ref02_Same at h
  refine AFn.intro' (L := [(0, .dat (GIval.enc x1)), (1, .dat (GIval.enc y2))]) tabOk Try.func20 rfl rfl Try.ntmps20 rfl rfl rfl ?_
  refine AWp.seq ?_
  refine AWp.regionN (fun _ => false) rfl ?_
  refine AOps.box (v := .dat (.st _ _)) rfl rfl rfl rfl rfl rfl ?_
  refine AOps.box (v := .dat (.st _ _)) rfl rfl rfl rfl rfl rfl ?_
  refine pB rfl rfl rfl ?_
  refine AOps.done ?_
  refine AWp.seq ?_
  refine AWp.regionN (fun _ => false) rfl ?_
  refine pP rfl rfl rfl ?_
  refine pF rfl rfl rfl ?_
  refine pP rfl rfl rfl ?_
  refine pF rfl rfl rfl ?_
  obtain ⟨x7, hc8, h⟩ := h
  refine AOps.call hc8 rfl rfl rfl ⟨.inl rfl, .inl rfl, trivial⟩ ?_
  refine pB rfl rfl rfl ?_
  refine AOps.splitB 10 rfl (fun e => ?_) (fun e => ?_)
  · replace h := h.1 e
    refine pP rfl rfl rfl ?_
    refine pF rfl rfl rfl ?_
    refine pP rfl rfl rfl ?_
    refine pF rfl rfl rfl ?_
    obtain ⟨x9, hc10, h⟩ := h
    refine AOps.call hc10 rfl rfl rfl ⟨.inl rfl, .inl rfl, trivial⟩ ?_
    refine pB rfl rfl rfl ?_
    refine pB rfl rfl rfl ?_
    refine AOps.done ?_
    refine AWp.ret ?_
    subst h
    exact ⟨_, rfl, rfl⟩
  · replace h := h.2 e
    refine AOps.off rfl rfl ?_
    refine AOps.off rfl rfl ?_
    refine AOps.off rfl rfl ?_
    refine AOps.off rfl rfl ?_
    refine AOps.off rfl rfl ?_
    refine pB rfl rfl rfl ?_
    refine pB rfl rfl rfl ?_
    refine AOps.done ?_
    refine AWp.ret ?_
    subst h
    exact ⟨_, rfl, rfl⟩
def W_ref04_Same (a1 : List GIval) (b2 : List GIval) (Q : Bool → Prop) : Prop :=
  Br (((a1.length : Nat) : Int) != ((b2.length : Nat) : Int)) (Q false) (
    Loop1 (0 : Int) (fun (x65 : Int) next66 =>
      Br (decide (x65 < ((a1.length : Nat) : Int))) (
        At a1 x65 fun x76 =>
        At b2 x65 fun x79 =>
        Call (Ev_ref02_Same x76 x79) fun x81 =>
        Br (!x81) (Q false) (
          Let (IntKind.i64.wrap (x65 + (1 : Int))) fun x83 =>
          next66 x83)) (
        Q true)))
theorem walk_ref04_Same {a1 : List GIval} {b2 : List GIval} {r : Bool} (h : W_ref04_Same a1 b2 (fun r' => r' = r)) : Ev_ref04_Same a1 b2 r := by
  unfold W_ref04_Same at h
  refine AFn.intro' (L := [(0, .dat (.sl 36 2 (List.map GIval.enc a1))), (1, .dat (.sl 36 2 (List.map GIval.enc b2)))]) tabOk Try.func23 rfl rfl Try.ntmps23 rfl rfl rfl ?_
  refine AWp.seq ?_
  refine AWp.regionN (fun _ => false) rfl ?_
  refine pB rfl rfl rfl ?_
  refine AOps.done ?_
  refine AWp.seq ?_
  refine AWp.seq ?_
  refine AWp.regionN (fun _ => false) rfl ?_
  refine pS rfl rfl rfl ?_
  refine AOps.i (j := ((a1.length : Nat) : Int)) tabOk rfl rfl rfl (by first | (rw [List.length_map]; done) | rfl) ?_
  refine pS rfl rfl rfl ?_
  refine AOps.i (j := ((b2.length : Nat) : Int)) tabOk rfl rfl rfl (by first | (rw [List.length_map]; done) | rfl) ?_
  refine pB rfl rfl rfl ?_
  refine AOps.done ?_
  refine AWp.cond rfl (fun e => ?_) (fun e => ?_)
  · replace h := h.1 e
    refine AWp.seq ?_
    refine AWp.regionN (fun _ => false) rfl ?_
    refine pB rfl rfl rfl ?_
    refine AOps.done ?_
    refine AWp.ret ?_
    subst h
    exact ⟨_, rfl, rfl⟩
  · replace h := h.2 e
    refine AWp.skip ?_
    refine AWp.seq ?_
    refine AWp.seq ?_
    refine AWp.regionN (fun _ => false) rfl ?_
    refine pS rfl rfl rfl ?_
    refine AOps.i (j := ((a1.length : Nat) : Int)) tabOk rfl rfl rfl (by first | (rw [List.length_map]; done) | rfl) ?_
    refine pI rfl rfl rfl ?_
    refine AOps.done ?_
    refine AWp.block ?_
    obtain ⟨I84, x85, hz86, hr87⟩ := h
    refine AWp.loop (I := fun p : Int => mkSt [(0, .dat (.sl 36 2 (List.map GIval.enc a1))), (1, .dat (.sl 36 2 (List.map GIval.enc b2))), (12, .dat (.v (.int .i64 ((a1.length : Nat) : Int)))), (13, .dat (.v (.int .i64 p)))] []) (Inv := fun p => I84 p) (μ := fun p => x85 p) (x0 := (0 : Int)) hz86 (Sub.list (fun i => i) rfl rfl ⟨rfl, rfl, rfl, rfl, trivial⟩ trivial) (fun p hp => ?_)
    have h := hr87 p hp
    revert h; clear hp; generalize p = x65; intro h
    refine AWp.seq ?_
    refine AWp.regionN (fun _ => false) rfl ?_
    refine pW rfl rfl rfl ?_
    refine AOps.done ?_
    refine AWp.seq ?_
    refine AWp.cond rfl (fun e => ?_) (fun e => ?_)
    · replace h := h.1 e
      refine AWp.skip ?_
      refine AWp.seq ?_
      refine AWp.block ?_
      refine AWp.seq ?_
      refine AWp.regionN (fun _ => false) rfl ?_
      refine pI rfl rfl rfl ?_
      refine pI rfl rfl rfl ?_
      refine AOps.done ?_
      refine AWp.seq ?_
      refine AWp.regionD (fun _ => false) mixed (by decide +kernel) rfl ?_
      refine pS rfl rfl rfl ?_
      refine pI rfl rfl rfl ?_
      obtain ⟨hi75, x76, hx77, h⟩ := h
      refine AOps.idx tabOk (z := GIval.enc x76) rfl rfl rfl rfl rfl rfl rfl rfl hi75 (map_get hx77) ?_
      refine pT rfl rfl rfl ?_
      refine pS rfl rfl rfl ?_
      refine pI rfl rfl rfl ?_
      obtain ⟨hi78, x79, hx80, h⟩ := h
      refine AOps.idx tabOk (z := GIval.enc x79) rfl rfl rfl rfl rfl rfl rfl rfl hi78 (map_get hx80) ?_
      refine pT rfl rfl rfl ?_
      obtain ⟨x81, hc82, h⟩ := h
      refine AOps.call hc82 rfl rfl rfl ⟨.inl rfl, .inl rfl, trivial⟩ ?_
      refine pB rfl rfl rfl ?_
      refine AOps.done ?_
      refine AWp.cond rfl (fun e => ?_) (fun e => ?_)
      · replace h := h.1 e
        refine AWp.seq ?_
        refine AWp.regionN (fun _ => false) rfl ?_
        refine pB rfl rfl rfl ?_
        refine AOps.done ?_
        refine AWp.ret ?_
        subst h
        exact ⟨_, rfl, rfl⟩
      · replace h := h.2 e
        refine AWp.skip ?_
        refine AWp.regionN (fun _ => false) rfl ?_
        obtain ⟨x83, ex83, h⟩ := h.get
        refine AOps.i tabOk rfl rfl rfl ex83 ?_
        refine pI rfl rfl rfl ?_
        refine AOps.done ?_
        exact ⟨x83, h.1, h.2, (Sub.list (fun i => i) rfl rfl ⟨rfl, rfl, rfl, rfl, trivial⟩ trivial)⟩
    · replace h := h.2 e
      refine AWp.exit ?_
      refine AWp.seq ?_
      refine AWp.regionN (fun _ => false) rfl ?_
      refine pB rfl rfl rfl ?_
      refine AOps.done ?_
      refine AWp.ret ?_
      subst h
      exact ⟨_, rfl, rfl⟩
def W_lin_matrix (m1 : List (List GIval)) (Q : Bool → Prop) : Prop :=
  Loop1 (0 : Int) (fun (x116 : Int) next117 =>
    Br (decide (x116 < ((m1.length : Nat) : Int))) (
      At m1 x116 fun x136 =>
      Call (Ev_lin_vector x136) fun x145 =>
      Br (!x145) (Q false) (
        At m1 (0 : Int) fun x149 =>
        Br (((x136.length : Nat) : Int) != ((x149.length : Nat) : Int)) (Q false) (
          Let (IntKind.i64.wrap (x116 + (1 : Int))) fun x152 =>
          next117 x152))) (
      Br (decide (((m1.length : Nat) : Int) > (0 : Int))) (Q (decide (((m1.length : Nat) : Int) ≤ (24 : Int)))) (
        Q false)))
theorem walk_lin_matrix {m1 : List (List GIval)} {r : Bool} (h : W_lin_matrix m1 (fun r' => r' = r)) : Ev_lin_matrix m1 r := by
  unfold W_lin_matrix at h
  refine AFn.intro' (L := [(0, .dat (.sl 34 1 (List.map (eSl 36 2 GIval.enc) m1)))]) tabOk Try.func49 rfl rfl Try.ntmps49 rfl rfl rfl ?_
  refine AWp.seq ?_
  refine AWp.regionN (fun _ => false) rfl ?_
  refine pB rfl rfl rfl ?_
  refine AOps.done ?_
  refine AWp.seq ?_
  refine AWp.seq ?_
  refine AWp.regionN (fun _ => false) rfl ?_
  refine pS rfl rfl rfl ?_
  refine AOps.i (j := ((m1.length : Nat) : Int)) tabOk rfl rfl rfl (by first | (rw [List.length_map]; done) | rfl) ?_
  refine pI rfl rfl rfl ?_
  refine AOps.done ?_
  refine AWp.block ?_
  obtain ⟨I157, x158, hz159, hr160⟩ := h
  refine AWp.loop (I := fun p : Int => mkSt [(0, .dat (.sl 34 1 (List.map (eSl 36 2 GIval.enc) m1))), (5, .dat (.sl 34 1 (List.map (eSl 36 2 GIval.enc) m1))), (6, .dat (.v (.int .i64 ((m1.length : Nat) : Int)))), (7, .dat (.v (.int .i64 p)))] []) (Inv := fun p => I157 p) (μ := fun p => x158 p) (x0 := (0 : Int)) hz159 (Sub.list (fun i => i) rfl rfl ⟨rfl, rfl, rfl, rfl, trivial⟩ trivial) (fun p hp => ?_)
  have h := hr160 p hp
  revert h; clear hp; generalize p = x116; intro h
  refine AWp.seq ?_
  refine AWp.regionN (fun _ => false) rfl ?_
  refine pW rfl rfl rfl ?_
  refine AOps.done ?_
  refine AWp.seq ?_
  refine AWp.cond rfl (fun e => ?_) (fun e => ?_)
  · replace h := h.1 e
    refine AWp.skip ?_
    refine AWp.seq ?_
    refine AWp.block ?_
    refine AWp.seq ?_
    refine AWp.regionN (fun _ => false) rfl ?_
    obtain ⟨hi135, x136, hx137, h⟩ := h
    refine AOps.idx tabOk (z := .sl 36 2 (List.map GIval.enc x136)) rfl rfl rfl rfl rfl rfl rfl rfl hi135 (map_get hx137) ?_
    refine pS rfl rfl rfl ?_
    refine pS rfl rfl rfl ?_
    refine AOps.done ?_
    refine AWp.seq ?_
    refine AWp.regionN (fun _ => false) rfl ?_
    refine pS rfl rfl rfl ?_
    obtain ⟨x145, hc146, h⟩ := h
    refine AOps.call hc146 rfl rfl rfl ⟨.inl rfl, trivial⟩ ?_
    refine pB rfl rfl rfl ?_
    refine pB rfl rfl rfl ?_
    refine AOps.splitB 14 rfl (fun e => ?_) (fun e => ?_)
    · replace h := h.1 e
      refine AOps.off rfl rfl ?_
      refine AOps.off rfl rfl ?_
      refine AOps.off rfl rfl ?_
      refine AOps.off rfl rfl ?_
      refine AOps.off rfl rfl ?_
      refine AOps.off rfl rfl ?_
      refine AOps.off rfl rfl ?_
      refine pB rfl rfl rfl ?_
      refine AOps.done ?_
      refine AWp.condT rfl ?_
      refine AWp.seq ?_
      refine AWp.regionN (fun _ => false) rfl ?_
      refine pB rfl rfl rfl ?_
      refine AOps.done ?_
      refine AWp.ret ?_
      subst h
      exact ⟨_, rfl, rfl⟩
    · replace h := h.2 e
      refine pS rfl rfl rfl ?_
      refine AOps.i (j := ((x136.length : Nat) : Int)) tabOk rfl rfl rfl (by first | (rw [List.length_map]; done) | rfl) ?_
      refine pS rfl rfl rfl ?_
      obtain ⟨hi148, x149, hx150, h⟩ := h
      refine AOps.idx tabOk (z := .sl 36 2 (List.map GIval.enc x149)) rfl rfl rfl rfl rfl rfl rfl rfl hi148 (map_get hx150) ?_
      refine pS rfl rfl rfl ?_
      refine AOps.i (j := ((x149.length : Nat) : Int)) tabOk rfl rfl rfl (by first | (rw [List.length_map]; done) | rfl) ?_
      refine pB rfl rfl rfl ?_
      refine pB rfl rfl rfl ?_
      refine AOps.done ?_
      refine AWp.cond rfl (fun e => ?_) (fun e => ?_)
      · replace h := h.1 e
        refine AWp.seq ?_
        refine AWp.regionN (fun _ => false) rfl ?_
        refine pB rfl rfl rfl ?_
        refine AOps.done ?_
        refine AWp.ret ?_
        subst h
        exact ⟨_, rfl, rfl⟩
      · replace h := h.2 e
        refine AWp.skip ?_
        refine AWp.regionN (fun _ => false) rfl ?_
        obtain ⟨x152, ex152, h⟩ := h.get
        refine AOps.i tabOk rfl rfl rfl ex152 ?_
        refine pI rfl rfl rfl ?_
        refine AOps.done ?_
        exact ⟨x152, h.1, h.2, (Sub.list (fun i => i) rfl rfl ⟨rfl, rfl, rfl, rfl, trivial⟩ trivial)⟩
  · replace h := h.2 e
    refine AWp.exit ?_
    refine AWp.seq ?_
    refine AWp.regionN (fun _ => false) rfl ?_
    refine pS rfl rfl rfl ?_
    refine AOps.i (j := ((m1.length : Nat) : Int)) tabOk rfl rfl rfl (by first | (rw [List.length_map]; done) | rfl) ?_
    refine pB rfl rfl rfl ?_
    refine pB rfl rfl rfl ?_
    refine AOps.splitB 27 rfl (fun e => ?_) (fun e => ?_)
    · replace h := h.1 e
      refine pS rfl rfl rfl ?_
      refine AOps.i (j := ((m1.length : Nat) : Int)) tabOk rfl rfl rfl (by first | (rw [List.length_map]; done) | rfl) ?_
      refine pB rfl rfl rfl ?_
      refine pB rfl rfl rfl ?_
      refine pB rfl rfl rfl ?_
      refine AOps.done ?_
      refine AWp.ret ?_
      subst h
      exact ⟨_, rfl, rfl⟩
    · replace h := h.2 e
      refine AOps.off rfl rfl ?_
      refine AOps.off rfl rfl ?_
      refine AOps.off rfl rfl ?_
      refine pB rfl rfl rfl ?_
      refine pB rfl rfl rfl ?_
      refine AOps.done ?_
      refine AWp.ret ?_
      subst h
      exact ⟨_, rfl, rfl⟩
def W_lin_floats (m1 : List (List Nat)) (Q : Bool → Prop) : Prop :=
  Loop1 (0 : Int) (fun (x386 : Int) next387 =>
    Br (decide (x386 < ((m1.length : Nat) : Int))) (
      At m1 x386 fun x451 =>
      At m1 (0 : Int) fun x455 =>
      Br (((x451.length : Nat) : Int) != ((x455.length : Nat) : Int)) (Q false) (
        Loop1 (0 : Int) (fun (x483 : Int) next484 =>
          Br (decide (x483 < ((x451.length : Nat) : Int))) (
            At x451 x483 fun x497 =>
            Call (Ev_math_IsNaN x497) fun x503 =>
            Br x503 (Q false) (
              Call (Ev_math_IsInf x497 (0 : Int)) fun x505 =>
              Br x505 (Q false) (
                Let (IntKind.i64.wrap (x483 + (1 : Int))) fun x507 =>
                next484 x507))) (
            Let (IntKind.i64.wrap (x386 + (1 : Int))) fun x508 =>
            next387 x508)))) (
      Br (decide (((m1.length : Nat) : Int) > (0 : Int))) (
        Br (decide (((m1.length : Nat) : Int) ≤ (24 : Int))) (
          At m1 (0 : Int) fun x526 =>
          Br (decide (((x526.length : Nat) : Int) > (0 : Int))) (
            At m1 (0 : Int) fun x530 =>
            Q (decide (((x530.length : Nat) : Int) ≤ (24 : Int)))) (
            Q false)) (
          Q false)) (
        Q false)))
theorem walk_lin_floats {m1 : List (List Nat)} {r : Bool} (h : W_lin_floats m1 (fun r' => r' = r)) : Ev_lin_floats m1 r := by
  unfold W_lin_floats at h
  refine AFn.intro' (L := [(0, .dat (.sl 83 1 (List.map (eSl 24 1 (eFlt .f64)) m1)))]) tabOk Try.func55 rfl rfl Try.ntmps55 rfl rfl rfl ?_
  refine AWp.seq ?_
  refine AWp.regionN (fun _ => false) rfl ?_
  refine pB rfl rfl rfl ?_
  refine AOps.done ?_
  refine AWp.seq ?_
  refine AWp.seq ?_
  refine AWp.regionN (fun _ => false) rfl ?_
  refine pS rfl rfl rfl ?_
  refine AOps.i (j := ((m1.length : Nat) : Int)) tabOk rfl rfl rfl (by first | (rw [List.length_map]; done) | rfl) ?_
  refine pI rfl rfl rfl ?_
  refine AOps.done ?_
  refine AWp.block ?_
  obtain ⟨I533, x534, hz535, hr536⟩ := h
  refine AWp.loop (I := fun p : Int => mkSt [(0, .dat (.sl 83 1 (List.map (eSl 24 1 (eFlt .f64)) m1))), (7, .dat (.sl 83 1 (List.map (eSl 24 1 (eFlt .f64)) m1))), (8, .dat (.v (.int .i64 ((m1.length : Nat) : Int)))), (9, .dat (.v (.int .i64 p)))] []) (Inv := fun p => I533 p) (μ := fun p => x534 p) (x0 := (0 : Int)) hz535 (Sub.list (fun i => i) rfl rfl ⟨rfl, rfl, rfl, rfl, trivial⟩ trivial) (fun p hp => ?_)
  have h := hr536 p hp
  revert h; clear hp; generalize p = x386; intro h
  refine AWp.seq ?_
  refine AWp.regionN (fun _ => false) rfl ?_
  refine pW rfl rfl rfl ?_
  refine AOps.done ?_
  refine AWp.seq ?_
  refine AWp.cond rfl (fun e => ?_) (fun e => ?_)
  · replace h := h.1 e
    refine AWp.skip ?_
    refine AWp.seq ?_
    refine AWp.block ?_
    refine AWp.seq ?_
    refine AWp.regionN (fun _ => false) rfl ?_
    obtain ⟨hi450, x451, hx452, h⟩ := h
    refine AOps.idx tabOk (z := .sl 24 1 (List.map (eFlt .f64) x451)) rfl rfl rfl rfl rfl rfl rfl rfl hi450 (map_get hx452) ?_
    refine pS rfl rfl rfl ?_
    refine pS rfl rfl rfl ?_
    refine AOps.done ?_
    refine AWp.seq ?_
    refine AWp.seq ?_
    refine AWp.regionN (fun _ => false) rfl ?_
    refine pS rfl rfl rfl ?_
    refine AOps.i (j := ((x451.length : Nat) : Int)) tabOk rfl rfl rfl (by first | (rw [List.length_map]; done) | rfl) ?_
    refine pS rfl rfl rfl ?_
    obtain ⟨hi454, x455, hx456, h⟩ := h
    refine AOps.idx tabOk (z := .sl 24 1 (List.map (eFlt .f64) x455)) rfl rfl rfl rfl rfl rfl rfl rfl hi454 (map_get hx456) ?_
    refine pS rfl rfl rfl ?_
    refine AOps.i (j := ((x455.length : Nat) : Int)) tabOk rfl rfl rfl (by first | (rw [List.length_map]; done) | rfl) ?_
    refine pB rfl rfl rfl ?_
    refine AOps.done ?_
    refine AWp.cond rfl (fun e => ?_) (fun e => ?_)
    · replace h := h.1 e
      refine AWp.seq ?_
      refine AWp.regionN (fun _ => false) rfl ?_
      refine pB rfl rfl rfl ?_
      refine AOps.done ?_
      refine AWp.ret ?_
      subst h
      exact ⟨_, rfl, rfl⟩
    · replace h := h.2 e
      refine AWp.skip ?_
      refine AWp.seq ?_
      refine AWp.regionN (fun _ => false) rfl ?_
      refine pS rfl rfl rfl ?_
      refine AOps.i (j := ((x451.length : Nat) : Int)) tabOk rfl rfl rfl (by first | (rw [List.length_map]; done) | rfl) ?_
      refine pI rfl rfl rfl ?_
      refine AOps.done ?_
      refine AWp.block ?_
      obtain ⟨I509, x510, hz511, hr512⟩ := h
      refine AWp.loop (I := fun p : Int => mkSt [(0, .dat (.sl 83 1 (List.map (eSl 24 1 (eFlt .f64)) m1))), (7, .dat (.sl 83 1 (List.map (eSl 24 1 (eFlt .f64)) m1))), (8, .dat (.v (.int .i64 ((m1.length : Nat) : Int)))), (9, .dat (.v (.int .i64 x386))), (20, .dat (.sl 24 1 (List.map (eFlt .f64) x451))), (21, .dat (.v (.int .i64 ((x451.length : Nat) : Int)))), (22, .dat (.v (.int .i64 p)))] []) (Inv := fun p => I509 p) (μ := fun p => x510 p) (x0 := (0 : Int)) hz511 (Sub.list (fun i => i) rfl rfl ⟨rfl, rfl, rfl, rfl, rfl, rfl, rfl, trivial⟩ trivial) (fun p hp => ?_)
      have h := hr512 p hp
      revert h; clear hp; generalize p = x483; intro h
      refine AWp.seq ?_
      refine AWp.regionN (fun _ => false) rfl ?_
      refine pW rfl rfl rfl ?_
      refine AOps.done ?_
      refine AWp.seq ?_
      refine AWp.cond rfl (fun e => ?_) (fun e => ?_)
      · replace h := h.1 e
        refine AWp.skip ?_
        refine AWp.seq ?_
        refine AWp.block ?_
        refine AWp.seq ?_
        refine AWp.regionN (fun _ => false) rfl ?_
        obtain ⟨hi496, x497, hx498, h⟩ := h
        refine AOps.idx tabOk (z := .v (.float .f64 x497)) rfl rfl rfl rfl rfl rfl rfl rfl hi496 (map_get hx498) ?_
        refine pF rfl rfl rfl ?_
        refine pF rfl rfl rfl ?_
        refine AOps.done ?_
        refine AWp.seq ?_
        refine AWp.regionN (fun _ => false) rfl ?_
        refine pF rfl rfl rfl ?_
        obtain ⟨x503, hc504, h⟩ := h
        refine AOps.call hc504 rfl rfl rfl ⟨.inl rfl, trivial⟩ ?_
        refine pB rfl rfl rfl ?_
        refine AOps.splitB 28 rfl (fun e => ?_) (fun e => ?_)
        · replace h := h.1 e
          refine AOps.off rfl rfl ?_
          refine AOps.off rfl rfl ?_
          refine pB rfl rfl rfl ?_
          refine AOps.done ?_
          refine AWp.condT rfl ?_
          refine AWp.seq ?_
          refine AWp.regionN (fun _ => false) rfl ?_
          refine pB rfl rfl rfl ?_
          refine AOps.done ?_
          refine AWp.ret ?_
          subst h
          exact ⟨_, rfl, rfl⟩
        · replace h := h.2 e
          refine pF rfl rfl rfl ?_
          obtain ⟨x505, hc506, h⟩ := h
          refine AOps.call hc506 rfl rfl rfl ⟨.inl rfl, .inl rfl, trivial⟩ ?_
          refine pB rfl rfl rfl ?_
          refine AOps.done ?_
          refine AWp.cond rfl (fun e => ?_) (fun e => ?_)
          · replace h := h.1 e
            refine AWp.seq ?_
            refine AWp.regionN (fun _ => false) rfl ?_
            refine pB rfl rfl rfl ?_
            refine AOps.done ?_
            refine AWp.ret ?_
            subst h
            exact ⟨_, rfl, rfl⟩
          · replace h := h.2 e
            refine AWp.skip ?_
            refine AWp.regionN (fun _ => false) rfl ?_
            obtain ⟨x507, ex507, h⟩ := h.get
            refine AOps.i tabOk rfl rfl rfl ex507 ?_
            refine pI rfl rfl rfl ?_
            refine AOps.done ?_
            exact ⟨x507, h.1, h.2, (Sub.list (fun i => i) rfl rfl ⟨rfl, rfl, rfl, rfl, rfl, rfl, rfl, trivial⟩ trivial)⟩
      · replace h := h.2 e
        refine AWp.exit ?_
        refine AWp.regionN (fun _ => false) rfl ?_
        obtain ⟨x508, ex508, h⟩ := h.get
        refine AOps.i tabOk rfl rfl rfl ex508 ?_
        refine pI rfl rfl rfl ?_
        refine AOps.done ?_
        exact ⟨x508, h.1, h.2, (Sub.list (fun i => i) rfl rfl ⟨rfl, rfl, rfl, rfl, trivial⟩ trivial)⟩
  · replace h := h.2 e
    refine AWp.exit ?_
    refine AWp.seq ?_
    refine AWp.regionN (fun _ => false) rfl ?_
    refine pS rfl rfl rfl ?_
    refine AOps.i (j := ((m1.length : Nat) : Int)) tabOk rfl rfl rfl (by first | (rw [List.length_map]; done) | rfl) ?_
    refine pB rfl rfl rfl ?_
    refine pB rfl rfl rfl ?_
    refine AOps.splitB 37 rfl (fun e => ?_) (fun e => ?_)
    · replace h := h.1 e
      refine pS rfl rfl rfl ?_
      refine AOps.i (j := ((m1.length : Nat) : Int)) tabOk rfl rfl rfl (by first | (rw [List.length_map]; done) | rfl) ?_
      refine pB rfl rfl rfl ?_
      refine pB rfl rfl rfl ?_
      refine pB rfl rfl rfl ?_
      refine AOps.splitB 42 rfl (fun e => ?_) (fun e => ?_)
      · replace h := h.1 e
        refine pS rfl rfl rfl ?_
        obtain ⟨hi525, x526, hx527, h⟩ := h
        refine AOps.idx tabOk (z := .sl 24 1 (List.map (eFlt .f64) x526)) rfl rfl rfl rfl rfl rfl rfl rfl hi525 (map_get hx527) ?_
        refine pS rfl rfl rfl ?_
        refine AOps.i (j := ((x526.length : Nat) : Int)) tabOk rfl rfl rfl (by first | (rw [List.length_map]; done) | rfl) ?_
        refine pB rfl rfl rfl ?_
        refine pB rfl rfl rfl ?_
        refine pB rfl rfl rfl ?_
        refine AOps.splitB 49 rfl (fun e => ?_) (fun e => ?_)
        · replace h := h.1 e
          refine pS rfl rfl rfl ?_
          obtain ⟨hi529, x530, hx531, h⟩ := h
          refine AOps.idx tabOk (z := .sl 24 1 (List.map (eFlt .f64) x530)) rfl rfl rfl rfl rfl rfl rfl rfl hi529 (map_get hx531) ?_
          refine pS rfl rfl rfl ?_
          refine AOps.i (j := ((x530.length : Nat) : Int)) tabOk rfl rfl rfl (by first | (rw [List.length_map]; done) | rfl) ?_
          refine pB rfl rfl rfl ?_
          refine pB rfl rfl rfl ?_
          refine pB rfl rfl rfl ?_
          refine AOps.done ?_
          refine AWp.ret ?_
          subst h
          exact ⟨_, rfl, rfl⟩
        · replace h := h.2 e
          refine AOps.off rfl rfl ?_
          refine AOps.off rfl rfl ?_
          refine AOps.off rfl rfl ?_
          refine AOps.off rfl rfl ?_
          refine AOps.off rfl rfl ?_
          refine pB rfl rfl rfl ?_
          refine pB rfl rfl rfl ?_
          refine AOps.done ?_
          refine AWp.ret ?_
          subst h
          exact ⟨_, rfl, rfl⟩
      · replace h := h.2 e
        refine AOps.off rfl rfl ?_
        refine AOps.off rfl rfl ?_
        refine AOps.off rfl rfl ?_
        refine AOps.off rfl rfl ?_
        refine AOps.off rfl rfl ?_
        refine pB rfl rfl rfl ?_
        refine pB rfl rfl rfl ?_
        refine AOps.off rfl rfl ?_
        refine AOps.off rfl rfl ?_
        refine AOps.off rfl rfl ?_
        refine AOps.off rfl rfl ?_
        refine AOps.off rfl rfl ?_
        refine pB rfl rfl rfl ?_
        refine pB rfl rfl rfl ?_
        refine AOps.done ?_
        refine AWp.ret ?_
        subst h
        exact ⟨_, rfl, rfl⟩
    · replace h := h.2 e
      refine AOps.off rfl rfl ?_
      refine AOps.off rfl rfl ?_
      refine AOps.off rfl rfl ?_
      refine pB rfl rfl rfl ?_
      refine pB rfl rfl rfl ?_
      refine AOps.off rfl rfl ?_
      refine AOps.off rfl rfl ?_
      refine AOps.off rfl rfl ?_
      refine AOps.off rfl rfl ?_
      refine AOps.off rfl rfl ?_
      refine pB rfl rfl rfl ?_
      refine pB rfl rfl rfl ?_
      refine AOps.off rfl rfl ?_
      refine AOps.off rfl rfl ?_
      refine AOps.off rfl rfl ?_
      refine AOps.off rfl rfl ?_
      refine AOps.off rfl rfl ?_
      refine pB rfl rfl rfl ?_
      refine pB rfl rfl rfl ?_
      refine AOps.done ?_
      refine AWp.ret ?_
      subst h
      exact ⟨_, rfl, rfl⟩
def W_ref04_Floats (m1 : List (List Nat)) (Q : Bool → Prop) : Prop :=
  Loop1 (0 : Int) (fun (x296 : Int) next297 =>
    Br (decide (x296 < ((m1.length : Nat) : Int))) (
      At m1 x296 fun x346 =>
      Br (decide (((x346.length : Nat) : Int) < (1 : Int))) (Q false) (
        Br (decide (((x346.length : Nat) : Int) > (24 : Int))) (Q false) (
          At m1 (0 : Int) fun x359 =>
          Br (((x346.length : Nat) : Int) != ((x359.length : Nat) : Int)) (Q false) (
            Loop1 (0 : Int) (fun (x375 : Int) next376 =>
              Br (decide (x375 < ((x346.length : Nat) : Int))) (
                At x346 x375 fun x383 =>
                Call (Ev_ref04_finite x383) fun x385 =>
                Br (!x385) (Q false) (
                  Let (IntKind.i64.wrap (x375 + (1 : Int))) fun x387 =>
                  next376 x387)) (
                Let (IntKind.i64.wrap (x296 + (1 : Int))) fun x388 =>
                next297 x388)))))) (
      Br (decide (((m1.length : Nat) : Int) ≥ (1 : Int))) (Q (decide (((m1.length : Nat) : Int) ≤ (24 : Int)))) (
        Q false)))
theorem walk_ref04_Floats {m1 : List (List Nat)} {r : Bool} (h : W_ref04_Floats m1 (fun r' => r' = r)) : Ev_ref04_Floats m1 r := by
  unfold W_ref04_Floats at h
  refine AFn.intro' (L := [(0, .dat (.sl 83 1 (List.map (eSl 24 1 (eFlt .f64)) m1)))]) tabOk Try.func57 rfl rfl Try.ntmps57 rfl rfl rfl ?_
  refine AWp.seq ?_
  refine AWp.regionN (fun _ => false) rfl ?_
  refine pB rfl rfl rfl ?_
  refine AOps.done ?_
  refine AWp.seq ?_
  refine AWp.seq ?_
  refine AWp.regionN (fun _ => false) rfl ?_
  refine pS rfl rfl rfl ?_
  refine AOps.i (j := ((m1.length : Nat) : Int)) tabOk rfl rfl rfl (by first | (rw [List.length_map]; done) | rfl) ?_
  refine pI rfl rfl rfl ?_
  refine AOps.done ?_
  refine AWp.block ?_
  obtain ⟨I397, x398, hz399, hr400⟩ := h
  refine AWp.loop (I := fun p : Int => mkSt [(0, .dat (.sl 83 1 (List.map (eSl 24 1 (eFlt .f64)) m1))), (7, .dat (.sl 83 1 (List.map (eSl 24 1 (eFlt .f64)) m1))), (8, .dat (.v (.int .i64 ((m1.length : Nat) : Int)))), (9, .dat (.v (.int .i64 p)))] []) (Inv := fun p => I397 p) (μ := fun p => x398 p) (x0 := (0 : Int)) hz399 (Sub.list (fun i => i) rfl rfl ⟨rfl, rfl, rfl, rfl, trivial⟩ trivial) (fun p hp => ?_)
  have h := hr400 p hp
  revert h; clear hp; generalize p = x296; intro h
  refine AWp.seq ?_
  refine AWp.regionN (fun _ => false) rfl ?_
  refine pW rfl rfl rfl ?_
  refine AOps.done ?_
  refine AWp.seq ?_
  refine AWp.cond rfl (fun e => ?_) (fun e => ?_)
  · replace h := h.1 e
    refine AWp.skip ?_
    refine AWp.seq ?_
    refine AWp.block ?_
    refine AWp.seq ?_
    refine AWp.regionN (fun _ => false) rfl ?_
    obtain ⟨hi345, x346, hx347, h⟩ := h
    refine AOps.idx tabOk (z := .sl 24 1 (List.map (eFlt .f64) x346)) rfl rfl rfl rfl rfl rfl rfl rfl hi345 (map_get hx347) ?_
    refine pS rfl rfl rfl ?_
    refine pS rfl rfl rfl ?_
    refine AOps.done ?_
    refine AWp.seq ?_
    refine AWp.seq ?_
    refine AWp.regionN (fun _ => false) rfl ?_
    refine pS rfl rfl rfl ?_
    refine AOps.i (j := ((x346.length : Nat) : Int)) tabOk rfl rfl rfl (by first | (rw [List.length_map]; done) | rfl) ?_
    refine pB rfl rfl rfl ?_
    refine pB rfl rfl rfl ?_
    refine AOps.splitB 16 rfl (fun e => ?_) (fun e => ?_)
    · replace h := h.1 e
      refine AOps.off rfl rfl ?_
      refine AOps.off rfl rfl ?_
      refine AOps.off rfl rfl ?_
      refine pB rfl rfl rfl ?_
      refine pB rfl rfl rfl ?_
      refine AOps.off rfl rfl ?_
      refine AOps.off rfl rfl ?_
      refine AOps.off rfl rfl ?_
      refine AOps.off rfl rfl ?_
      refine AOps.off rfl rfl ?_
      refine AOps.off rfl rfl ?_
      refine AOps.off rfl rfl ?_
      refine pB rfl rfl rfl ?_
      refine AOps.done ?_
      refine AWp.condT rfl ?_
      refine AWp.seq ?_
      refine AWp.regionN (fun _ => false) rfl ?_
      refine pB rfl rfl rfl ?_
      refine AOps.done ?_
      refine AWp.ret ?_
      subst h
      exact ⟨_, rfl, rfl⟩
    · replace h := h.2 e
      refine pS rfl rfl rfl ?_
      refine AOps.i (j := ((x346.length : Nat) : Int)) tabOk rfl rfl rfl (by first | (rw [List.length_map]; done) | rfl) ?_
      refine pB rfl rfl rfl ?_
      refine pB rfl rfl rfl ?_
      refine pB rfl rfl rfl ?_
      refine AOps.splitB 21 rfl (fun e => ?_) (fun e => ?_)
      · replace h := h.1 e
        refine AOps.off rfl rfl ?_
        refine AOps.off rfl rfl ?_
        refine AOps.off rfl rfl ?_
        refine AOps.off rfl rfl ?_
        refine AOps.off rfl rfl ?_
        refine AOps.off rfl rfl ?_
        refine AOps.off rfl rfl ?_
        refine pB rfl rfl rfl ?_
        refine AOps.done ?_
        refine AWp.condT rfl ?_
        refine AWp.seq ?_
        refine AWp.regionN (fun _ => false) rfl ?_
        refine pB rfl rfl rfl ?_
        refine AOps.done ?_
        refine AWp.ret ?_
        subst h
        exact ⟨_, rfl, rfl⟩
      · replace h := h.2 e
        refine pS rfl rfl rfl ?_
        refine AOps.i (j := ((x346.length : Nat) : Int)) tabOk rfl rfl rfl (by first | (rw [List.length_map]; done) | rfl) ?_
        refine pS rfl rfl rfl ?_
        obtain ⟨hi358, x359, hx360, h⟩ := h
        refine AOps.idx tabOk (z := .sl 24 1 (List.map (eFlt .f64) x359)) rfl rfl rfl rfl rfl rfl rfl rfl hi358 (map_get hx360) ?_
        refine pS rfl rfl rfl ?_
        refine AOps.i (j := ((x359.length : Nat) : Int)) tabOk rfl rfl rfl (by first | (rw [List.length_map]; done) | rfl) ?_
        refine pB rfl rfl rfl ?_
        refine pB rfl rfl rfl ?_
        refine AOps.done ?_
        refine AWp.cond rfl (fun e => ?_) (fun e => ?_)
        · replace h := h.1 e
          refine AWp.seq ?_
          refine AWp.regionN (fun _ => false) rfl ?_
          refine pB rfl rfl rfl ?_
          refine AOps.done ?_
          refine AWp.ret ?_
          subst h
          exact ⟨_, rfl, rfl⟩
        · replace h := h.2 e
          refine AWp.skip ?_
          refine AWp.seq ?_
          refine AWp.regionN (fun _ => false) rfl ?_
          refine pS rfl rfl rfl ?_
          refine AOps.i (j := ((x346.length : Nat) : Int)) tabOk rfl rfl rfl (by first | (rw [List.length_map]; done) | rfl) ?_
          refine pI rfl rfl rfl ?_
          refine AOps.done ?_
          refine AWp.block ?_
          obtain ⟨I389, x390, hz391, hr392⟩ := h
          refine AWp.loop (I := fun p : Int => mkSt [(0, .dat (.sl 83 1 (List.map (eSl 24 1 (eFlt .f64)) m1))), (7, .dat (.sl 83 1 (List.map (eSl 24 1 (eFlt .f64)) m1))), (8, .dat (.v (.int .i64 ((m1.length : Nat) : Int)))), (9, .dat (.v (.int .i64 x296))), (30, .dat (.sl 24 1 (List.map (eFlt .f64) x346))), (31, .dat (.v (.int .i64 ((x346.length : Nat) : Int)))), (32, .dat (.v (.int .i64 p)))] []) (Inv := fun p => I389 p) (μ := fun p => x390 p) (x0 := (0 : Int)) hz391 (Sub.list (fun i => i) rfl rfl ⟨rfl, rfl, rfl, rfl, rfl, rfl, rfl, trivial⟩ trivial) (fun p hp => ?_)
          have h := hr392 p hp
          revert h; clear hp; generalize p = x375; intro h
          refine AWp.seq ?_
          refine AWp.regionN (fun _ => false) rfl ?_
          refine pW rfl rfl rfl ?_
          refine AOps.done ?_
          refine AWp.seq ?_
          refine AWp.cond rfl (fun e => ?_) (fun e => ?_)
          · replace h := h.1 e
            refine AWp.skip ?_
            refine AWp.seq ?_
            refine AWp.block ?_
            refine AWp.seq ?_
            refine AWp.regionN (fun _ => false) rfl ?_
            obtain ⟨hi382, x383, hx384, h⟩ := h
            refine AOps.idx tabOk (z := .v (.float .f64 x383)) rfl rfl rfl rfl rfl rfl rfl rfl hi382 (map_get hx384) ?_
            refine pF rfl rfl rfl ?_
            refine pF rfl rfl rfl ?_
            refine AOps.done ?_
            refine AWp.seq ?_
            refine AWp.regionN (fun _ => false) rfl ?_
            refine pF rfl rfl rfl ?_
            obtain ⟨x385, hc386, h⟩ := h
            refine AOps.call hc386 rfl rfl rfl ⟨.inl rfl, trivial⟩ ?_
            refine pB rfl rfl rfl ?_
            refine AOps.done ?_
            refine AWp.cond rfl (fun e => ?_) (fun e => ?_)
            · replace h := h.1 e
              refine AWp.seq ?_
              refine AWp.regionN (fun _ => false) rfl ?_
              refine pB rfl rfl rfl ?_
              refine AOps.done ?_
              refine AWp.ret ?_
              subst h
              exact ⟨_, rfl, rfl⟩
            · replace h := h.2 e
              refine AWp.skip ?_
              refine AWp.regionN (fun _ => false) rfl ?_
              obtain ⟨x387, ex387, h⟩ := h.get
              refine AOps.i tabOk rfl rfl rfl ex387 ?_
              refine pI rfl rfl rfl ?_
              refine AOps.done ?_
              exact ⟨x387, h.1, h.2, (Sub.list (fun i => i) rfl rfl ⟨rfl, rfl, rfl, rfl, rfl, rfl, rfl, trivial⟩ trivial)⟩
          · replace h := h.2 e
            refine AWp.exit ?_
            refine AWp.regionN (fun _ => false) rfl ?_
            obtain ⟨x388, ex388, h⟩ := h.get
            refine AOps.i tabOk rfl rfl rfl ex388 ?_
            refine pI rfl rfl rfl ?_
            refine AOps.done ?_
            exact ⟨x388, h.1, h.2, (Sub.list (fun i => i) rfl rfl ⟨rfl, rfl, rfl, rfl, trivial⟩ trivial)⟩
  · replace h := h.2 e
    refine AWp.exit ?_
    refine AWp.seq ?_
    refine AWp.regionN (fun _ => false) rfl ?_
    refine pS rfl rfl rfl ?_
    refine AOps.i (j := ((m1.length : Nat) : Int)) tabOk rfl rfl rfl (by first | (rw [List.length_map]; done) | rfl) ?_
    refine pB rfl rfl rfl ?_
    refine pB rfl rfl rfl ?_
    refine AOps.splitB 44 rfl (fun e => ?_) (fun e => ?_)
    · replace h := h.1 e
      refine pS rfl rfl rfl ?_
      refine AOps.i (j := ((m1.length : Nat) : Int)) tabOk rfl rfl rfl (by first | (rw [List.length_map]; done) | rfl) ?_
      refine pB rfl rfl rfl ?_
      refine pB rfl rfl rfl ?_
      refine pB rfl rfl rfl ?_
      refine AOps.done ?_
      refine AWp.ret ?_
      subst h
      exact ⟨_, rfl, rfl⟩
    · replace h := h.2 e
      refine AOps.off rfl rfl ?_
      refine AOps.off rfl rfl ?_
      refine AOps.off rfl rfl ?_
      refine pB rfl rfl rfl ?_
      refine pB rfl rfl rfl ?_
      refine AOps.done ?_
      refine AWp.ret ?_
      subst h
      exact ⟨_, rfl, rfl⟩
def W_lin_vector (v1 : List GIval) (Q : Bool → Prop) : Prop :=
  Loop1 (0 : Int) (fun (x44 : Int) next45 =>
    Br (decide (x44 < ((v1.length : Nat) : Int))) (
      At v1 x44 fun x52 =>
      Call (Ev_ival_Right x52) fun x54 =>
      Br (!x54) (Q false) (
        Let (IntKind.i64.wrap (x44 + (1 : Int))) fun x56 =>
        next45 x56)) (
      Br (decide (((v1.length : Nat) : Int) > (0 : Int))) (Q (decide (((v1.length : Nat) : Int) ≤ (24 : Int)))) (
        Q false)))
theorem walk_lin_vector {v1 : List GIval} {r : Bool} (h : W_lin_vector v1 (fun r' => r' = r)) : Ev_lin_vector v1 r := by
  unfold W_lin_vector at h
  refine AFn.intro' (L := [(0, .dat (.sl 36 2 (List.map GIval.enc v1)))]) tabOk Try.func58 rfl rfl Try.ntmps58 rfl rfl rfl ?_
  refine AWp.seq ?_
  refine AWp.regionN (fun _ => false) rfl ?_
  refine pB rfl rfl rfl ?_
  refine AOps.done ?_
  refine AWp.seq ?_
  refine AWp.seq ?_
  refine AWp.regionN (fun _ => false) rfl ?_
  refine pS rfl rfl rfl ?_
  refine AOps.i (j := ((v1.length : Nat) : Int)) tabOk rfl rfl rfl (by first | (rw [List.length_map]; done) | rfl) ?_
  refine pI rfl rfl rfl ?_
  refine AOps.done ?_
  refine AWp.block ?_
  obtain ⟨I61, x62, hz63, hr64⟩ := h
  refine AWp.loop (I := fun p : Int => mkSt [(0, .dat (.sl 36 2 (List.map GIval.enc v1))), (5, .dat (.sl 36 2 (List.map GIval.enc v1))), (6, .dat (.v (.int .i64 ((v1.length : Nat) : Int)))), (7, .dat (.v (.int .i64 p)))] []) (Inv := fun p => I61 p) (μ := fun p => x62 p) (x0 := (0 : Int)) hz63 (Sub.list (fun i => i) rfl rfl ⟨rfl, rfl, rfl, rfl, trivial⟩ trivial) (fun p hp => ?_)
  have h := hr64 p hp
  revert h; clear hp; generalize p = x44; intro h
  refine AWp.seq ?_
  refine AWp.regionN (fun _ => false) rfl ?_
  refine pW rfl rfl rfl ?_
  refine AOps.done ?_
  refine AWp.seq ?_
  refine AWp.cond rfl (fun e => ?_) (fun e => ?_)
  · replace h := h.1 e
    refine AWp.skip ?_
    refine AWp.seq ?_
    refine AWp.block ?_
    refine AWp.seq ?_
    refine AWp.regionN (fun o => writes o) rfl ?_
    obtain ⟨hi51, x52, hx53, h⟩ := h
    refine AOps.idx tabOk (z := GIval.enc x52) rfl rfl rfl rfl rfl rfl rfl rfl hi51 (map_get hx53) ?_
    refine pT rfl rfl rfl ?_
    refine AOps.alloc tabOk rfl rfl rfl rfl rfl ?_
    refine AOps.store tabOk (v := .dat (.st _ _)) rfl rfl rfl rfl rfl rfl rfl rfl rfl rfl rfl rfl rfl ?_
    refine AOps.done ?_
    refine AWp.seq ?_
    refine AWp.regionN (fun _ => false) rfl ?_
    refine pT rfl rfl rfl ?_
    obtain ⟨x54, hc55, h⟩ := h
    refine AOps.call hc55 rfl rfl rfl ⟨.inl rfl, trivial⟩ ?_
    refine pB rfl rfl rfl ?_
    refine AOps.done ?_
    refine AWp.cond rfl (fun e => ?_) (fun e => ?_)
    · replace h := h.1 e
      refine AWp.seq ?_
      refine AWp.regionN (fun _ => false) rfl ?_
      refine pB rfl rfl rfl ?_
      refine AOps.done ?_
      refine AWp.ret ?_
      subst h
      exact ⟨_, rfl, rfl⟩
    · replace h := h.2 e
      refine AWp.skip ?_
      refine AWp.regionN (fun _ => false) rfl ?_
      obtain ⟨x56, ex56, h⟩ := h.get
      refine AOps.i tabOk rfl rfl rfl ex56 ?_
      refine pI rfl rfl rfl ?_
      refine AOps.done ?_
      exact ⟨x56, h.1, h.2, (Sub.list (fun i => i) rfl rfl ⟨rfl, rfl, rfl, rfl, trivial⟩ trivial)⟩
  · replace h := h.2 e
    refine AWp.exit ?_
    refine AWp.seq ?_
    refine AWp.regionN (fun _ => false) rfl ?_
    refine pS rfl rfl rfl ?_
    refine AOps.i (j := ((v1.length : Nat) : Int)) tabOk rfl rfl rfl (by first | (rw [List.length_map]; done) | rfl) ?_
    refine pB rfl rfl rfl ?_
    refine pB rfl rfl rfl ?_
    refine AOps.splitB 18 rfl (fun e => ?_) (fun e => ?_)
    · replace h := h.1 e
      refine pS rfl rfl rfl ?_
      refine AOps.i (j := ((v1.length : Nat) : Int)) tabOk rfl rfl rfl (by first | (rw [List.length_map]; done) | rfl) ?_
      refine pB rfl rfl rfl ?_
      refine pB rfl rfl rfl ?_
      refine pB rfl rfl rfl ?_
      refine AOps.done ?_
      refine AWp.ret ?_
      subst h
      exact ⟨_, rfl, rfl⟩
    · replace h := h.2 e
      refine AOps.off rfl rfl ?_
      refine AOps.off rfl rfl ?_
      refine AOps.off rfl rfl ?_
      refine pB rfl rfl rfl ?_
      refine pB rfl rfl rfl ?_
      refine AOps.done ?_
      refine AWp.ret ?_
      subst h
      exact ⟨_, rfl, rfl⟩
end Go.Sim.Ytlglkgineclggaa
