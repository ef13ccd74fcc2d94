/- What is proved: functions of the program compute what plain statements tell. -/
import Derived.Test.YtlglkgineclggaaZPWE
namespace Go.Sim.Ytlglkgineclggaa
open Go.RowKit Go.Proofs Go.Proofs.Try
set_option maxRecDepth 100000
def W_ref04_Matrix (m1 : List (List GIval)) (Q : Bool → Prop) : Prop :=
  Loop1 (0 : Int) (fun (x116 : Int) next117 =>
    Br (decide (x116 < ((m1.length : Nat) : Int))) (
      At m1 x116 fun x136 =>
      Call (Ev_ref04_Vector x136) fun x145 =>
      Br (!x145) (Q false) (
        At m1 (0 : Int) fun x149 =>
        Br (((x136.length : Nat) : Int) != ((x149.length : Nat) : Int)) (Q false) (
          Let (IntKind.i64.wrap (x116 + (1 : Int))) fun x152 =>
          next117 x152))) (
      Br (decide (((m1.length : Nat) : Int) ≥ (1 : Int))) (Q (decide (((m1.length : Nat) : Int) ≤ (24 : Int)))) (
        Q false)))
theorem walk_ref04_Matrix {m1 : List (List GIval)} {r : Bool} (h : W_ref04_Matrix m1 (fun r' => r' = r)) : Ev_ref04_Matrix m1 r := by
  unfold W_ref04_Matrix at h
  refine AFn.intro' (L := [(0, .dat (.sl 34 1 (List.map (eSl 36 2 GIval.enc) m1)))]) tabOk Try.func10 rfl rfl Try.ntmps10 rfl rfl rfl ?_
  refine AWp.seq ?_
  refine AWp.regionN (fun _ => false) rfl ?_
  refine pB rfl rfl rfl ?_
  refine AOps.done ?_
  refine AWp.seq ?_
  refine AWp.seq ?_
  refine AWp.regionN (fun _ => false) rfl ?_
  refine pS rfl rfl rfl ?_
  refine AOps.i (j := ((m1.length : Nat) : Int)) tabOk rfl rfl rfl (by first | (rw [List.length_map]; done) | rfl) ?_
  refine pI rfl rfl rfl ?_
  refine AOps.done ?_
  refine AWp.block ?_
  obtain ⟨I157, x158, hz159, hr160⟩ := h
  refine AWp.loop (I := fun p : Int => mkSt [(0, .dat (.sl 34 1 (List.map (eSl 36 2 GIval.enc) m1))), (5, .dat (.sl 34 1 (List.map (eSl 36 2 GIval.enc) m1))), (6, .dat (.v (.int .i64 ((m1.length : Nat) : Int)))), (7, .dat (.v (.int .i64 p)))] []) (Inv := fun p => I157 p) (μ := fun p => x158 p) (x0 := (0 : Int)) hz159 (Sub.list (fun i => i) rfl rfl ⟨rfl, rfl, rfl, rfl, trivial⟩ trivial) (fun p hp => ?_)
  have h := hr160 p hp
  revert h; clear hp; generalize p = x116; intro h
  refine AWp.seq ?_
  refine AWp.regionN (fun _ => false) rfl ?_
  refine pW rfl rfl rfl ?_
  refine AOps.done ?_
  refine AWp.seq ?_
  refine AWp.cond rfl (fun e => ?_) (fun e => ?_)
  · replace h := h.1 e
    refine AWp.skip ?_
    refine AWp.seq ?_
    refine AWp.block ?_
    refine AWp.seq ?_
    refine AWp.regionN (fun _ => false) rfl ?_
    obtain ⟨hi135, x136, hx137, h⟩ := h
    refine AOps.idx tabOk (z := .sl 36 2 (List.map GIval.enc x136)) rfl rfl rfl rfl rfl rfl rfl rfl hi135 (map_get hx137) ?_
    refine pS rfl rfl rfl ?_
    refine pS rfl rfl rfl ?_
    refine AOps.done ?_
    refine AWp.seq ?_
    refine AWp.regionN (fun _ => false) rfl ?_
    refine pS rfl rfl rfl ?_
    obtain ⟨x145, hc146, h⟩ := h
    refine AOps.call hc146 rfl rfl rfl ⟨.inl rfl, trivial⟩ ?_
    refine pB rfl rfl rfl ?_
    refine pB rfl rfl rfl ?_
    refine AOps.splitB 14 rfl (fun e => ?_) (fun e => ?_)
    · replace h := h.1 e
      refine AOps.off rfl rfl ?_
      refine AOps.off rfl rfl ?_
      refine AOps.off rfl rfl ?_
      refine AOps.off rfl rfl ?_
      refine AOps.off rfl rfl ?_
      refine AOps.off rfl rfl ?_
      refine AOps.off rfl rfl ?_
      refine pB rfl rfl rfl ?_
      refine AOps.done ?_
      refine AWp.condT rfl ?_
      refine AWp.seq ?_
      refine AWp.regionN (fun _ => false) rfl ?_
      refine pB rfl rfl rfl ?_
      refine AOps.done ?_
      refine AWp.ret ?_
      subst h
      exact ⟨_, rfl, rfl⟩
    · replace h := h.2 e
      refine pS rfl rfl rfl ?_
      refine AOps.i (j := ((x136.length : Nat) : Int)) tabOk rfl rfl rfl (by first | (rw [List.length_map]; done) | rfl) ?_
      refine pS rfl rfl rfl ?_
      obtain ⟨hi148, x149, hx150, h⟩ := h
      refine AOps.idx tabOk (z := .sl 36 2 (List.map GIval.enc x149)) rfl rfl rfl rfl rfl rfl rfl rfl hi148 (map_get hx150) ?_
      refine pS rfl rfl rfl ?_
      refine AOps.i (j := ((x149.length : Nat) : Int)) tabOk rfl rfl rfl (by first | (rw [List.length_map]; done) | rfl) ?_
      refine pB rfl rfl rfl ?_
      refine pB rfl rfl rfl ?_
      refine AOps.done ?_
      refine AWp.cond rfl (fun e => ?_) (fun e => ?_)
      · replace h := h.1 e
        refine AWp.seq ?_
        refine AWp.regionN (fun _ => false) rfl ?_
        refine pB rfl rfl rfl ?_
        refine AOps.done ?_
        refine AWp.ret ?_
        subst h
        exact ⟨_, rfl, rfl⟩
      · replace h := h.2 e
        refine AWp.skip ?_
        refine AWp.regionN (fun _ => false) rfl ?_
        obtain ⟨x152, ex152, h⟩ := h.get
        refine AOps.i tabOk rfl rfl rfl ex152 ?_
        refine pI rfl rfl rfl ?_
        refine AOps.done ?_
        exact ⟨x152, h.1, h.2, (Sub.list (fun i => i) rfl rfl ⟨rfl, rfl, rfl, rfl, trivial⟩ trivial)⟩
  · replace h := h.2 e
    refine AWp.exit ?_
    refine AWp.seq ?_
    refine AWp.regionN (fun _ => false) rfl ?_
    refine pS rfl rfl rfl ?_
    refine AOps.i (j := ((m1.length : Nat) : Int)) tabOk rfl rfl rfl (by first | (rw [List.length_map]; done) | rfl) ?_
    refine pB rfl rfl rfl ?_
    refine pB rfl rfl rfl ?_
    refine AOps.splitB 27 rfl (fun e => ?_) (fun e => ?_)
    · replace h := h.1 e
      refine pS rfl rfl rfl ?_
      refine AOps.i (j := ((m1.length : Nat) : Int)) tabOk rfl rfl rfl (by first | (rw [List.length_map]; done) | rfl) ?_
      refine pB rfl rfl rfl ?_
      refine pB rfl rfl rfl ?_
      refine pB rfl rfl rfl ?_
      refine AOps.done ?_
      refine AWp.ret ?_
      subst h
      exact ⟨_, rfl, rfl⟩
    · replace h := h.2 e
      refine AOps.off rfl rfl ?_
      refine AOps.off rfl rfl ?_
      refine AOps.off rfl rfl ?_
      refine pB rfl rfl rfl ?_
      refine pB rfl rfl rfl ?_
      refine AOps.done ?_
      refine AWp.ret ?_
      subst h
      exact ⟨_, rfl, rfl⟩
def W_ref04_SameAll (a1 : List (List GIval)) (b2 : List (List GIval)) (Q : Bool → Prop) : Prop :=
  Br (((a1.length : Nat) : Int) != ((b2.length : Nat) : Int)) (Q false) (
    Loop1 (0 : Int) (fun (x65 : Int) next66 =>
      Br (decide (x65 < ((a1.length : Nat) : Int))) (
        At a1 x65 fun x76 =>
        At b2 x65 fun x79 =>
        Call (Ev_ref04_Same x76 x79) fun x81 =>
        Br (!x81) (Q false) (
          Let (IntKind.i64.wrap (x65 + (1 : Int))) fun x83 =>
          next66 x83)) (
        Q true)))
theorem walk_ref04_SameAll {a1 : List (List GIval)} {b2 : List (List GIval)} {r : Bool} (h : W_ref04_SameAll a1 b2 (fun r' => r' = r)) : Ev_ref04_SameAll a1 b2 r := by
  unfold W_ref04_SameAll at h
  refine AFn.intro' (L := [(0, .dat (.sl 34 1 (List.map (eSl 36 2 GIval.enc) a1))), (1, .dat (.sl 34 1 (List.map (eSl 36 2 GIval.enc) b2)))]) tabOk Try.func13 rfl rfl Try.ntmps13 rfl rfl rfl ?_
  refine AWp.seq ?_
  refine AWp.regionN (fun _ => false) rfl ?_
  refine pB rfl rfl rfl ?_
  refine AOps.done ?_
  refine AWp.seq ?_
  refine AWp.seq ?_
  refine AWp.regionN (fun _ => false) rfl ?_
  refine pS rfl rfl rfl ?_
  refine AOps.i (j := ((a1.length : Nat) : Int)) tabOk rfl rfl rfl (by first | (rw [List.length_map]; done) | rfl) ?_
  refine pS rfl rfl rfl ?_
  refine AOps.i (j := ((b2.length : Nat) : Int)) tabOk rfl rfl rfl (by first | (rw [List.length_map]; done) | rfl) ?_
  refine pB rfl rfl rfl ?_
  refine AOps.done ?_
  refine AWp.cond rfl (fun e => ?_) (fun e => ?_)
  · replace h := h.1 e
    refine AWp.seq ?_
    refine AWp.regionN (fun _ => false) rfl ?_
    refine pB rfl rfl rfl ?_
    refine AOps.done ?_
    refine AWp.ret ?_
    subst h
    exact ⟨_, rfl, rfl⟩
  · replace h := h.2 e
    refine AWp.skip ?_
    refine AWp.seq ?_
    refine AWp.seq ?_
    refine AWp.regionN (fun _ => false) rfl ?_
    refine pS rfl rfl rfl ?_
    refine AOps.i (j := ((a1.length : Nat) : Int)) tabOk rfl rfl rfl (by first | (rw [List.length_map]; done) | rfl) ?_
    refine pI rfl rfl rfl ?_
    refine AOps.done ?_
    refine AWp.block ?_
    obtain ⟨I84, x85, hz86, hr87⟩ := h
    refine AWp.loop (I := fun p : Int => mkSt [(0, .dat (.sl 34 1 (List.map (eSl 36 2 GIval.enc) a1))), (1, .dat (.sl 34 1 (List.map (eSl 36 2 GIval.enc) b2))), (12, .dat (.v (.int .i64 ((a1.length : Nat) : Int)))), (13, .dat (.v (.int .i64 p)))] []) (Inv := fun p => I84 p) (μ := fun p => x85 p) (x0 := (0 : Int)) hz86 (Sub.list (fun i => i) rfl rfl ⟨rfl, rfl, rfl, rfl, trivial⟩ trivial) (fun p hp => ?_)
    have h := hr87 p hp
    revert h; clear hp; generalize p = x65; intro h
    refine AWp.seq ?_
    refine AWp.regionN (fun _ => false) rfl ?_
    refine pW rfl rfl rfl ?_
    refine AOps.done ?_
    refine AWp.seq ?_
    refine AWp.cond rfl (fun e => ?_) (fun e => ?_)
    · replace h := h.1 e
      refine AWp.skip ?_
      refine AWp.seq ?_
      refine AWp.block ?_
      refine AWp.seq ?_
      refine AWp.regionN (fun _ => false) rfl ?_
      refine pI rfl rfl rfl ?_
      refine pI rfl rfl rfl ?_
      refine AOps.done ?_
      refine AWp.seq ?_
      refine AWp.regionD (fun _ => false) mixed (by decide +kernel) rfl ?_
      refine pS rfl rfl rfl ?_
      refine pI rfl rfl rfl ?_
      obtain ⟨hi75, x76, hx77, h⟩ := h
      refine AOps.idx tabOk (z := .sl 36 2 (List.map GIval.enc x76)) rfl rfl rfl rfl rfl rfl rfl rfl hi75 (map_get hx77) ?_
      refine pS rfl rfl rfl ?_
      refine pS rfl rfl rfl ?_
      refine pI rfl rfl rfl ?_
      obtain ⟨hi78, x79, hx80, h⟩ := h
      refine AOps.idx tabOk (z := .sl 36 2 (List.map GIval.enc x79)) rfl rfl rfl rfl rfl rfl rfl rfl hi78 (map_get hx80) ?_
      refine pS rfl rfl rfl ?_
      obtain ⟨x81, hc82, h⟩ := h
      refine AOps.call hc82 rfl rfl rfl ⟨.inl rfl, .inl rfl, trivial⟩ ?_
      refine pB rfl rfl rfl ?_
      refine AOps.done ?_
      refine AWp.cond rfl (fun e => ?_) (fun e => ?_)
      · replace h := h.1 e
        refine AWp.seq ?_
        refine AWp.regionN (fun _ => false) rfl ?_
        refine pB rfl rfl rfl ?_
        refine AOps.done ?_
        refine AWp.ret ?_
        subst h
        exact ⟨_, rfl, rfl⟩
      · replace h := h.2 e
        refine AWp.skip ?_
        refine AWp.regionN (fun _ => false) rfl ?_
        obtain ⟨x83, ex83, h⟩ := h.get
        refine AOps.i tabOk rfl rfl rfl ex83 ?_
        refine pI rfl rfl rfl ?_
        refine AOps.done ?_
        exact ⟨x83, h.1, h.2, (Sub.list (fun i => i) rfl rfl ⟨rfl, rfl, rfl, rfl, trivial⟩ trivial)⟩
    · replace h := h.2 e
      refine AWp.exit ?_
      refine AWp.seq ?_
      refine AWp.regionN (fun _ => false) rfl ?_
      refine pB rfl rfl rfl ?_
      refine AOps.done ?_
      refine AWp.ret ?_
      subst h
      exact ⟨_, rfl, rfl⟩
def W_lin_Dot (a1 : List GIval) (b2 : List GIval) (Q : GIval × Int → Prop) : Prop :=
  Call (Ev_lin_vector a1) fun x9 =>
  Br (!x9) (Q (GIval.zero, (1 : Int))) (
    Call (Ev_lin_vector b2) fun x11 =>
    Br (!x11) (Q (GIval.zero, (1 : Int))) (
      Br (((a1.length : Nat) : Int) != ((b2.length : Nat) : Int)) (Q (GIval.zero, (1 : Int))) (
        Call (Ev_ival_Point (0 : Nat)) fun x15 =>
        Loop2 x15 (0 : Int) (fun (sum94 : GIval) (x95 : Int) next96 =>
          Br (decide (x95 < ((a1.length : Nat) : Int))) (
            At a1 x95 fun x108 =>
            At b2 x95 fun x111 =>
            Call (Ev_ival_Mul x108 x111) fun x113 =>
            Call (Ev_ival_Add sum94 x113) fun x115 =>
            Let (IntKind.i64.wrap (x95 + (1 : Int))) fun x117 =>
            next96 x115 x117) (
            Q (sum94, (0 : Int)))))))
theorem walk_lin_Dot {a1 : List GIval} {b2 : List GIval} {r : GIval × Int} (h : W_lin_Dot a1 b2 (fun r' => r' = r)) : Ev_lin_Dot a1 b2 r := by
  unfold W_lin_Dot at h
  refine AFn.intro' (L := [(0, .dat (.sl 36 2 (List.map GIval.enc a1))), (1, .dat (.sl 36 2 (List.map GIval.enc b2)))]) tabOk Try.func17 rfl rfl Try.ntmps17 rfl rfl rfl ?_
  refine AWp.seq ?_
  refine AWp.regionN (fun _ => false) rfl ?_
  refine AOps.alloc tabOk rfl rfl rfl rfl rfl ?_
  refine pI rfl rfl rfl ?_
  refine AOps.done ?_
  refine AWp.seq ?_
  refine AWp.seq ?_
  refine AWp.regionN (fun _ => false) rfl ?_
  refine pS rfl rfl rfl ?_
  obtain ⟨x9, hc10, h⟩ := h
  refine AOps.call hc10 rfl rfl rfl ⟨.inl rfl, trivial⟩ ?_
  refine pB rfl rfl rfl ?_
  refine pB rfl rfl rfl ?_
  refine AOps.splitB 11 rfl (fun e => ?_) (fun e => ?_)
  · replace h := h.1 e
    refine AOps.off rfl rfl ?_
    refine AOps.off rfl rfl ?_
    refine AOps.off rfl rfl ?_
    refine pB rfl rfl rfl ?_
    refine pB rfl rfl rfl ?_
    refine AOps.off rfl rfl ?_
    refine AOps.off rfl rfl ?_
    refine AOps.off rfl rfl ?_
    refine AOps.off rfl rfl ?_
    refine AOps.off rfl rfl ?_
    refine pB rfl rfl rfl ?_
    refine AOps.done ?_
    refine AWp.condT rfl ?_
    refine AWp.seq ?_
    refine AWp.regionN (fun o => writes o) rfl ?_
    refine pT rfl rfl rfl ?_
    refine AOps.store tabOk (v := .dat (.st _ _)) rfl rfl rfl rfl rfl rfl rfl rfl rfl rfl rfl rfl rfl ?_
    refine pI rfl rfl rfl ?_
    refine AOps.done ?_
    refine AWp.ret ?_
    subst h
    exact ⟨_, rfl, rfl⟩
  · replace h := h.2 e
    refine pS rfl rfl rfl ?_
    obtain ⟨x11, hc12, h⟩ := h
    refine AOps.call hc12 rfl rfl rfl ⟨.inl rfl, trivial⟩ ?_
    refine pB rfl rfl rfl ?_
    refine pB rfl rfl rfl ?_
    refine pB rfl rfl rfl ?_
    refine AOps.splitB 16 rfl (fun e => ?_) (fun e => ?_)
    · replace h := h.1 e
      refine AOps.off rfl rfl ?_
      refine AOps.off rfl rfl ?_
      refine AOps.off rfl rfl ?_
      refine AOps.off rfl rfl ?_
      refine AOps.off rfl rfl ?_
      refine pB rfl rfl rfl ?_
      refine AOps.done ?_
      refine AWp.condT rfl ?_
      refine AWp.seq ?_
      refine AWp.regionN (fun o => writes o) rfl ?_
      refine pT rfl rfl rfl ?_
      refine AOps.store tabOk (v := .dat (.st _ _)) rfl rfl rfl rfl rfl rfl rfl rfl rfl rfl rfl rfl rfl ?_
      refine pI rfl rfl rfl ?_
      refine AOps.done ?_
      refine AWp.ret ?_
      subst h
      exact ⟨_, rfl, rfl⟩
    · replace h := h.2 e
      refine pS rfl rfl rfl ?_
      refine AOps.i (j := ((a1.length : Nat) : Int)) tabOk rfl rfl rfl (by first | (rw [List.length_map]; done) | rfl) ?_
      refine pS rfl rfl rfl ?_
      refine AOps.i (j := ((b2.length : Nat) : Int)) tabOk rfl rfl rfl (by first | (rw [List.length_map]; done) | rfl) ?_
      refine pB rfl rfl rfl ?_
      refine pB rfl rfl rfl ?_
      refine AOps.done ?_
      refine AWp.cond rfl (fun e => ?_) (fun e => ?_)
      · replace h := h.1 e
        refine AWp.seq ?_
        refine AWp.regionN (fun o => writes o) rfl ?_
        refine pT rfl rfl rfl ?_
        refine AOps.store tabOk (v := .dat (.st _ _)) rfl rfl rfl rfl rfl rfl rfl rfl rfl rfl rfl rfl rfl ?_
        refine pI rfl rfl rfl ?_
        refine AOps.done ?_
        refine AWp.ret ?_
        subst h
        exact ⟨_, rfl, rfl⟩
      · replace h := h.2 e
        refine AWp.skip ?_
        refine AWp.seq ?_
        refine AWp.regionN (fun o => writes o) rfl ?_
        obtain ⟨x15, hc16, h⟩ := h
        refine AOps.call hc16 rfl rfl rfl ⟨.inl rfl, trivial⟩ ?_
        refine AOps.alloc tabOk rfl rfl rfl rfl rfl ?_
        refine AOps.store tabOk (v := .dat (.st _ _)) rfl rfl rfl rfl rfl rfl rfl rfl rfl rfl rfl rfl rfl ?_
        refine AOps.done ?_
        refine AWp.seq ?_
        refine AWp.seq ?_
        refine AWp.regionN (fun _ => false) rfl ?_
        refine pS rfl rfl rfl ?_
        refine AOps.i (j := ((a1.length : Nat) : Int)) tabOk rfl rfl rfl (by first | (rw [List.length_map]; done) | rfl) ?_
        refine pI rfl rfl rfl ?_
        refine AOps.done ?_
        refine AWp.block ?_
        obtain ⟨I118, x119, hz120, hr121⟩ := h
        refine AWp.loop (I := fun p : GIval × Int => mkSt [(0, .dat (.sl 36 2 (List.map GIval.enc a1))), (1, .dat (.sl 36 2 (List.map GIval.enc b2))), (4, .pt 4 [] 0), (6, .pt 6 [] 0), (26, .dat (.v (.int .i64 ((a1.length : Nat) : Int)))), (27, .dat (.v (.int .i64 p.2)))] [(4, .box 36 2 (.dat (GIval.enc GIval.zero))), (6, .box 36 2 (.dat (GIval.enc p.1)))]) (Inv := fun p => I118 p.1 p.2) (μ := fun p => x119 p.1 p.2) (x0 := ⟨x15, (0 : Int)⟩) hz120 (Sub.list (fun i => i) rfl rfl ⟨rfl, rfl, rfl, rfl, rfl, rfl, trivial⟩ ⟨rfl, rfl, trivial⟩) (fun p hp => ?_)
        obtain ⟨sum94, x95⟩ := p
        have h := hr121 sum94 x95 hp
        refine AWp.seq ?_
        refine AWp.regionN (fun _ => false) rfl ?_
        refine pW rfl rfl rfl ?_
        refine AOps.done ?_
        refine AWp.seq ?_
        refine AWp.cond rfl (fun e => ?_) (fun e => ?_)
        · replace h := h.1 e
          refine AWp.skip ?_
          refine AWp.seq ?_
          refine AWp.block ?_
          refine AWp.seq ?_
          refine AWp.regionN (fun _ => false) rfl ?_
          refine pI rfl rfl rfl ?_
          refine pI rfl rfl rfl ?_
          refine AOps.done ?_
          refine AWp.regionD (fun o => writes o) mixed (by decide +kernel) rfl ?_
          refine pT rfl rfl rfl ?_
          refine pS rfl rfl rfl ?_
          refine pI rfl rfl rfl ?_
          obtain ⟨hi107, x108, hx109, h⟩ := h
          refine AOps.idx tabOk (z := GIval.enc x108) rfl rfl rfl rfl rfl rfl rfl rfl hi107 (map_get hx109) ?_
          refine pT rfl rfl rfl ?_
          refine pS rfl rfl rfl ?_
          refine pI rfl rfl rfl ?_
          obtain ⟨hi110, x111, hx112, h⟩ := h
          refine AOps.idx tabOk (z := GIval.enc x111) rfl rfl rfl rfl rfl rfl rfl rfl hi110 (map_get hx112) ?_
          refine pT rfl rfl rfl ?_
          obtain ⟨x113, hc114, h⟩ := h
          refine AOps.call hc114 rfl rfl rfl ⟨.inl rfl, .inl rfl, trivial⟩ ?_
          obtain ⟨x115, hc116, h⟩ := h
          refine AOps.call hc116 rfl rfl rfl ⟨.inl rfl, .inl rfl, trivial⟩ ?_
          refine AOps.store tabOk (v := .dat (.st _ _)) rfl rfl rfl rfl rfl rfl rfl rfl rfl rfl rfl rfl rfl ?_
          refine AOps.done ?_
          refine AWp.regionN (fun _ => false) rfl ?_
          obtain ⟨x117, ex117, h⟩ := h.get
          refine AOps.i tabOk rfl rfl rfl ex117 ?_
          refine pI rfl rfl rfl ?_
          refine AOps.done ?_
          exact ⟨⟨x115, x117⟩, h.1, h.2, (Sub.list (fun i => i) rfl rfl ⟨rfl, rfl, rfl, rfl, rfl, rfl, trivial⟩ ⟨rfl, rfl, trivial⟩)⟩
        · replace h := h.2 e
          refine AWp.exit ?_
          refine AWp.seq ?_
          refine AWp.regionN (fun o => writes o) rfl ?_
          refine pT rfl rfl rfl ?_
          refine AOps.store tabOk (v := .dat (.st _ _)) rfl rfl rfl rfl rfl rfl rfl rfl rfl rfl rfl rfl rfl ?_
          refine pI rfl rfl rfl ?_
          refine AOps.done ?_
          refine AWp.ret ?_
          subst h
          exact ⟨_, rfl, rfl⟩
def W_law04_first (m1 : List (List GIval)) (Q : List GIval → Prop) : Prop :=
  Br (((m1.length : Nat) : Int) == (0 : Int)) (Q ([] : List GIval)) (
    At m1 (0 : Int) fun x4 =>
    Q x4)
theorem walk_law04_first {m1 : List (List GIval)} {r : List GIval} (h : W_law04_first m1 (fun r' => r' = r)) : Ev_law04_first m1 r := by
  unfold W_law04_first at h
  refine AFn.intro' (L := [(0, .dat (.sl 34 1 (List.map (eSl 36 2 GIval.enc) m1)))]) tabOk Try.func18 rfl rfl Try.ntmps18 rfl rfl rfl ?_
  refine AWp.seq ?_
  refine AWp.regionN (fun _ => false) rfl ?_
  refine pS rfl rfl rfl ?_
  refine AOps.done ?_
  refine AWp.seq ?_
  refine AWp.seq ?_
  refine AWp.regionN (fun _ => false) rfl ?_
  refine pS rfl rfl rfl ?_
  refine AOps.i (j := ((m1.length : Nat) : Int)) tabOk rfl rfl rfl (by first | (rw [List.length_map]; done) | rfl) ?_
  refine pB rfl rfl rfl ?_
  refine AOps.done ?_
  refine AWp.cond rfl (fun e => ?_) (fun e => ?_)
  · replace h := h.1 e
    refine AWp.seq ?_
    refine AWp.regionN (fun _ => false) rfl ?_
    refine pS rfl rfl rfl ?_
    refine AOps.done ?_
    refine AWp.ret ?_
    subst h
    exact ⟨_, rfl, rfl⟩
  · replace h := h.2 e
    refine AWp.skip ?_
    refine AWp.seq ?_
    refine AWp.regionN (fun _ => false) rfl ?_
    refine pS rfl rfl rfl ?_
    obtain ⟨hi3, x4, hx5, h⟩ := h
    refine AOps.idx tabOk (z := .sl 36 2 (List.map GIval.enc x4)) rfl rfl rfl rfl rfl rfl rfl rfl hi3 (map_get hx5) ?_
    refine pS rfl rfl rfl ?_
    refine pS rfl rfl rfl ?_
    refine AOps.done ?_
    refine AWp.ret ?_
    subst h
    exact ⟨_, rfl, rfl⟩
def W_ref04_Vector (v1 : List GIval) (Q : Bool → Prop) : Prop :=
  Loop1 (0 : Int) (fun (x44 : Int) next45 =>
    Br (decide (x44 < ((v1.length : Nat) : Int))) (
      At v1 x44 fun x52 =>
      Call (Ev_ref02_Right x52) fun x54 =>
      Br (!x54) (Q false) (
        Let (IntKind.i64.wrap (x44 + (1 : Int))) fun x56 =>
        next45 x56)) (
      Br (decide (((v1.length : Nat) : Int) ≥ (1 : Int))) (Q (decide (((v1.length : Nat) : Int) ≤ (24 : Int)))) (
        Q false)))
theorem walk_ref04_Vector {v1 : List GIval} {r : Bool} (h : W_ref04_Vector v1 (fun r' => r' = r)) : Ev_ref04_Vector v1 r := by
  unfold W_ref04_Vector at h
  refine AFn.intro' (L := [(0, .dat (.sl 36 2 (List.map GIval.enc v1)))]) tabOk Try.func19 rfl rfl Try.ntmps19 rfl rfl rfl ?_
  refine AWp.seq ?_
  refine AWp.regionN (fun _ => false) rfl ?_
  refine pB rfl rfl rfl ?_
  refine AOps.done ?_
  refine AWp.seq ?_
  refine AWp.seq ?_
  refine AWp.regionN (fun _ => false) rfl ?_
  refine pS rfl rfl rfl ?_
  refine AOps.i (j := ((v1.length : Nat) : Int)) tabOk rfl rfl rfl (by first | (rw [List.length_map]; done) | rfl) ?_
  refine pI rfl rfl rfl ?_
  refine AOps.done ?_
  refine AWp.block ?_
  obtain ⟨I61, x62, hz63, hr64⟩ := h
  refine AWp.loop (I := fun p : Int => mkSt [(0, .dat (.sl 36 2 (List.map GIval.enc v1))), (5, .dat (.sl 36 2 (List.map GIval.enc v1))), (6, .dat (.v (.int .i64 ((v1.length : Nat) : Int)))), (7, .dat (.v (.int .i64 p)))] []) (Inv := fun p => I61 p) (μ := fun p => x62 p) (x0 := (0 : Int)) hz63 (Sub.list (fun i => i) rfl rfl ⟨rfl, rfl, rfl, rfl, trivial⟩ trivial) (fun p hp => ?_)
  have h := hr64 p hp
  revert h; clear hp; generalize p = x44; intro h
  refine AWp.seq ?_
  refine AWp.regionN (fun _ => false) rfl ?_
  refine pW rfl rfl rfl ?_
  refine AOps.done ?_
  refine AWp.seq ?_
  refine AWp.cond rfl (fun e => ?_) (fun e => ?_)
  · replace h := h.1 e
    refine AWp.skip ?_
    refine AWp.seq ?_
    refine AWp.block ?_
    refine AWp.seq ?_
    refine AWp.regionN (fun o => writes o) rfl ?_
    obtain ⟨hi51, x52, hx53, h⟩ := h
    refine AOps.idx tabOk (z := GIval.enc x52) rfl rfl rfl rfl rfl rfl rfl rfl hi51 (map_get hx53) ?_
    refine pT rfl rfl rfl ?_
    refine AOps.alloc tabOk rfl rfl rfl rfl rfl ?_
    refine AOps.store tabOk (v := .dat (.st _ _)) rfl rfl rfl rfl rfl rfl rfl rfl rfl rfl rfl rfl rfl ?_
    refine AOps.done ?_
    refine AWp.seq ?_
    refine AWp.regionN (fun _ => false) rfl ?_
    refine pT rfl rfl rfl ?_
    obtain ⟨x54, hc55, h⟩ := h
    refine AOps.call hc55 rfl rfl rfl ⟨.inl rfl, trivial⟩ ?_
    refine pB rfl rfl rfl ?_
    refine AOps.done ?_
    refine AWp.cond rfl (fun e => ?_) (fun e => ?_)
    · replace h := h.1 e
      refine AWp.seq ?_
      refine AWp.regionN (fun _ => false) rfl ?_
      refine pB rfl rfl rfl ?_
      refine AOps.done ?_
      refine AWp.ret ?_
      subst h
      exact ⟨_, rfl, rfl⟩
    · replace h := h.2 e
      refine AWp.skip ?_
      refine AWp.regionN (fun _ => false) rfl ?_
      obtain ⟨x56, ex56, h⟩ := h.get
      refine AOps.i tabOk rfl rfl rfl ex56 ?_
      refine pI rfl rfl rfl ?_
      refine AOps.done ?_
      exact ⟨x56, h.1, h.2, (Sub.list (fun i => i) rfl rfl ⟨rfl, rfl, rfl, rfl, trivial⟩ trivial)⟩
  · replace h := h.2 e
    refine AWp.exit ?_
    refine AWp.seq ?_
    refine AWp.regionN (fun _ => false) rfl ?_
    refine pS rfl rfl rfl ?_
    refine AOps.i (j := ((v1.length : Nat) : Int)) tabOk rfl rfl rfl (by first | (rw [List.length_map]; done) | rfl) ?_
    refine pB rfl rfl rfl ?_
    refine pB rfl rfl rfl ?_
    refine AOps.splitB 18 rfl (fun e => ?_) (fun e => ?_)
    · replace h := h.1 e
      refine pS rfl rfl rfl ?_
      refine AOps.i (j := ((v1.length : Nat) : Int)) tabOk rfl rfl rfl (by first | (rw [List.length_map]; done) | rfl) ?_
      refine pB rfl rfl rfl ?_
      refine pB rfl rfl rfl ?_
      refine pB rfl rfl rfl ?_
      refine AOps.done ?_
      refine AWp.ret ?_
      subst h
      exact ⟨_, rfl, rfl⟩
    · replace h := h.2 e
      refine AOps.off rfl rfl ?_
      refine AOps.off rfl rfl ?_
      refine AOps.off rfl rfl ?_
      refine pB rfl rfl rfl ?_
      refine pB rfl rfl rfl ?_
      refine AOps.done ?_
      refine AWp.ret ?_
      subst h
      exact ⟨_, rfl, rfl⟩
def W_ref02_Same (x1 : GIval) (y2 : GIval) (Q : Bool → Prop) : Prop :=
  Call (Ev_ref01_Same x1.Lo y2.Lo) fun x7 =>
  Br x7 (
    Call (Ev_ref01_Same x1.Hi y2.Hi) fun x9 =>
    Q x9) (
    Q false)
theorem walk_ref02_Same {x1 : GIval} {y2 : GIval} {r : Bool} (h : W_ref02_Same x1 y2 (fun r' => r' = r)) : Ev_ref02_Same x1 y2 r := by
  unfold W_ref02_Same at h
  refine AFn.intro' (L := [(0, .dat (GIval.enc x1)), (1, .dat (GIval.enc y2))]) tabOk Try.func20 rfl rfl Try.ntmps20 rfl rfl rfl ?_
  refine AWp.seq ?_
  refine AWp.regionN (fun _ => false) rfl ?_
  refine AOps.box (v := .dat (.st _ _)) rfl rfl rfl rfl rfl rfl ?_
  refine AOps.box (v := .dat (.st _ _)) rfl rfl rfl rfl rfl rfl ?_
  refine pB rfl rfl rfl ?_
  refine AOps.done ?_
  refine AWp.seq ?_
  refine AWp.regionN (fun _ => false) rfl ?_
  refine pP rfl rfl rfl ?_
  refine pF rfl rfl rfl ?_
  refine pP rfl rfl rfl ?_
  refine pF rfl rfl rfl ?_
  obtain ⟨x7, hc8, h⟩ := h
  refine AOps.call hc8 rfl rfl rfl ⟨.inl rfl, .inl rfl, trivial⟩ ?_
  refine pB rfl rfl rfl ?_
  refine AOps.splitB 10 rfl (fun e => ?_) (fun e => ?_)
  · replace h := h.1 e
    refine pP rfl rfl rfl ?_
    refine pF rfl rfl rfl ?_
    refine pP rfl rfl rfl ?_
    refine pF rfl rfl rfl ?_
    obtain ⟨x9, hc10, h⟩ := h
    refine AOps.call hc10 rfl rfl rfl ⟨.inl rfl, .inl rfl, trivial⟩ ?_
    refine pB rfl rfl rfl ?_
    refine pB rfl rfl rfl ?_
    refine AOps.done ?_
    refine AWp.ret ?_
    subst h
    exact ⟨_, rfl, rfl⟩
  · replace h := h.2 e
    refine AOps.off rfl rfl ?_
    refine AOps.off rfl rfl ?_
    refine AOps.off rfl rfl ?_
    refine AOps.off rfl rfl ?_
    refine AOps.off rfl rfl ?_
    refine pB rfl rfl rfl ?_
    refine pB rfl rfl rfl ?_
    refine AOps.done ?_
    refine AWp.ret ?_
    subst h
    exact ⟨_, rfl, rfl⟩
def W_ref04_Dot (a1 : List GIval) (b2 : List GIval) (Q : GIval → Prop) : Prop :=
  Call (Ev_ref02_Make (0 : Nat) (0 : Nat)) fun x3 =>
  Loop2 x3 (0 : Int) (fun (sum82 : GIval) (x83 : Int) next84 =>
    Br (decide (x83 < ((a1.length : Nat) : Int))) (
      At a1 x83 fun x96 =>
      At b2 x83 fun x99 =>
      Call (Ev_ref02_Mul x96 x99) fun x101 =>
      Call (Ev_ref02_Add sum82 x101) fun x103 =>
      Let (IntKind.i64.wrap (x83 + (1 : Int))) fun x105 =>
      next84 x103 x105) (
      Q sum82))
theorem walk_ref04_Dot {a1 : List GIval} {b2 : List GIval} {r : GIval} (h : W_ref04_Dot a1 b2 (fun r' => r' = r)) : Ev_ref04_Dot a1 b2 r := by
  unfold W_ref04_Dot at h
  refine AFn.intro' (L := [(0, .dat (.sl 36 2 (List.map GIval.enc a1))), (1, .dat (.sl 36 2 (List.map GIval.enc b2)))]) tabOk Try.func21 rfl rfl Try.ntmps21 rfl rfl rfl ?_
  refine AWp.seq ?_
  refine AWp.regionN (fun _ => false) rfl ?_
  refine AOps.alloc tabOk rfl rfl rfl rfl rfl ?_
  refine AOps.done ?_
  refine AWp.seq ?_
  refine AWp.regionN (fun o => writes o) rfl ?_
  obtain ⟨x3, hc4, h⟩ := h
  refine AOps.call hc4 rfl rfl rfl ⟨.inl rfl, .inl rfl, trivial⟩ ?_
  refine AOps.alloc tabOk rfl rfl rfl rfl rfl ?_
  refine AOps.store tabOk (v := .dat (.st _ _)) rfl rfl rfl rfl rfl rfl rfl rfl rfl rfl rfl rfl rfl ?_
  refine AOps.done ?_
  refine AWp.seq ?_
  refine AWp.seq ?_
  refine AWp.regionN (fun _ => false) rfl ?_
  refine pS rfl rfl rfl ?_
  refine AOps.i (j := ((a1.length : Nat) : Int)) tabOk rfl rfl rfl (by first | (rw [List.length_map]; done) | rfl) ?_
  refine pI rfl rfl rfl ?_
  refine AOps.done ?_
  refine AWp.block ?_
  obtain ⟨I106, x107, hz108, hr109⟩ := h
  refine AWp.loop (I := fun p : GIval × Int => mkSt [(0, .dat (.sl 36 2 (List.map GIval.enc a1))), (1, .dat (.sl 36 2 (List.map GIval.enc b2))), (4, .pt 4 [] 0), (5, .pt 5 [] 0), (9, .dat (.v (.int .i64 ((a1.length : Nat) : Int)))), (10, .dat (.v (.int .i64 p.2)))] [(4, .box 36 2 (.dat (GIval.enc GIval.zero))), (5, .box 36 2 (.dat (GIval.enc p.1)))]) (Inv := fun p => I106 p.1 p.2) (μ := fun p => x107 p.1 p.2) (x0 := ⟨x3, (0 : Int)⟩) hz108 (Sub.list (fun i => i) rfl rfl ⟨rfl, rfl, rfl, rfl, rfl, rfl, trivial⟩ ⟨rfl, rfl, trivial⟩) (fun p hp => ?_)
  obtain ⟨sum82, x83⟩ := p
  have h := hr109 sum82 x83 hp
  refine AWp.seq ?_
  refine AWp.regionN (fun _ => false) rfl ?_
  refine pW rfl rfl rfl ?_
  refine AOps.done ?_
  refine AWp.seq ?_
  refine AWp.cond rfl (fun e => ?_) (fun e => ?_)
  · replace h := h.1 e
    refine AWp.skip ?_
    refine AWp.seq ?_
    refine AWp.block ?_
    refine AWp.seq ?_
    refine AWp.regionN (fun _ => false) rfl ?_
    refine pI rfl rfl rfl ?_
    refine pI rfl rfl rfl ?_
    refine AOps.done ?_
    refine AWp.regionD (fun o => writes o) mixed (by decide +kernel) rfl ?_
    refine pT rfl rfl rfl ?_
    refine pS rfl rfl rfl ?_
    refine pI rfl rfl rfl ?_
    obtain ⟨hi95, x96, hx97, h⟩ := h
    refine AOps.idx tabOk (z := GIval.enc x96) rfl rfl rfl rfl rfl rfl rfl rfl hi95 (map_get hx97) ?_
    refine pT rfl rfl rfl ?_
    refine pS rfl rfl rfl ?_
    refine pI rfl rfl rfl ?_
    obtain ⟨hi98, x99, hx100, h⟩ := h
    refine AOps.idx tabOk (z := GIval.enc x99) rfl rfl rfl rfl rfl rfl rfl rfl hi98 (map_get hx100) ?_
    refine pT rfl rfl rfl ?_
    obtain ⟨x101, hc102, h⟩ := h
    refine AOps.call hc102 rfl rfl rfl ⟨.inl rfl, .inl rfl, trivial⟩ ?_
    obtain ⟨x103, hc104, h⟩ := h
    refine AOps.call hc104 rfl rfl rfl ⟨.inl rfl, .inl rfl, trivial⟩ ?_
    refine AOps.store tabOk (v := .dat (.st _ _)) rfl rfl rfl rfl rfl rfl rfl rfl rfl rfl rfl rfl rfl ?_
    refine AOps.done ?_
    refine AWp.regionN (fun _ => false) rfl ?_
    obtain ⟨x105, ex105, h⟩ := h.get
    refine AOps.i tabOk rfl rfl rfl ex105 ?_
    refine pI rfl rfl rfl ?_
    refine AOps.done ?_
    exact ⟨⟨x103, x105⟩, h.1, h.2, (Sub.list (fun i => i) rfl rfl ⟨rfl, rfl, rfl, rfl, rfl, rfl, trivial⟩ ⟨rfl, rfl, trivial⟩)⟩
  · replace h := h.2 e
    refine AWp.exit ?_
    refine AWp.seq ?_
    refine AWp.regionN (fun o => writes o) rfl ?_
    refine pT rfl rfl rfl ?_
    refine AOps.store tabOk (v := .dat (.st _ _)) rfl rfl rfl rfl rfl rfl rfl rfl rfl rfl rfl rfl rfl ?_
    refine AOps.done ?_
    refine AWp.ret ?_
    subst h
    exact ⟨_, rfl, rfl⟩
def W_lin_Apply (m1 : List (List GIval)) (v2 : List GIval) (Q : (List GIval) × Int → Prop) : Prop :=
  Call (Ev_lin_matrix m1) fun x12 =>
  Br (!x12) (Q (([] : List GIval), (1 : Int))) (
    Call (Ev_lin_vector v2) fun x14 =>
    Br (!x14) (Q (([] : List GIval), (1 : Int))) (
      At m1 (0 : Int) fun x17 =>
      Br (((x17.length : Nat) : Int) != ((v2.length : Nat) : Int)) (Q (([] : List GIval), (1 : Int))) (
        Loop2 ([] : List GIval) (0 : Int) (fun (out72 : List GIval) (x73 : Int) next74 =>
          Br (decide (x73 < ((m1.length : Nat) : Int))) (
            At m1 x73 fun x82 =>
            Call (Ev_lin_Dot x82 v2) fun x84 =>
            App 16 out72 ([x84.1]) fun x86 =>
            Let (IntKind.i64.wrap (x73 + (1 : Int))) fun x87 =>
            next74 x86 x87) (
            Q (out72, (0 : Int)))))))
theorem walk_lin_Apply {m1 : List (List GIval)} {v2 : List GIval} {r : (List GIval) × Int} (h : W_lin_Apply m1 v2 (fun r' => r' = r)) : Ev_lin_Apply m1 v2 r := by
  unfold W_lin_Apply at h
  refine AFn.intro' (L := [(0, .dat (.sl 34 1 (List.map (eSl 36 2 GIval.enc) m1))), (1, .dat (.sl 36 2 (List.map GIval.enc v2)))]) tabOk Try.func22 rfl rfl Try.ntmps22 rfl rfl rfl ?_
  refine AWp.seq ?_
  refine AWp.regionN (fun _ => false) rfl ?_
  refine pS rfl rfl rfl ?_
  refine pI rfl rfl rfl ?_
  refine AOps.done ?_
  refine AWp.seq ?_
  refine AWp.seq ?_
  refine AWp.regionN (fun _ => false) rfl ?_
  refine pS rfl rfl rfl ?_
  obtain ⟨x12, hc13, h⟩ := h
  refine AOps.call hc13 rfl rfl rfl ⟨.inl rfl, trivial⟩ ?_
  refine pB rfl rfl rfl ?_
  refine pB rfl rfl rfl ?_
  refine AOps.splitB 14 rfl (fun e => ?_) (fun e => ?_)
  · replace h := h.1 e
    refine AOps.off rfl rfl ?_
    refine AOps.off rfl rfl ?_
    refine AOps.off rfl rfl ?_
    refine pB rfl rfl rfl ?_
    refine pB rfl rfl rfl ?_
    refine AOps.off rfl rfl ?_
    refine AOps.off rfl rfl ?_
    refine AOps.off rfl rfl ?_
    refine AOps.off rfl rfl ?_
    refine AOps.off rfl rfl ?_
    refine AOps.off rfl rfl ?_
    refine AOps.off rfl rfl ?_
    refine pB rfl rfl rfl ?_
    refine AOps.done ?_
    refine AWp.condT rfl ?_
    refine AWp.seq ?_
    refine AWp.regionN (fun _ => false) rfl ?_
    refine pS rfl rfl rfl ?_
    refine pI rfl rfl rfl ?_
    refine AOps.done ?_
    refine AWp.ret ?_
    subst h
    exact ⟨_, rfl, rfl⟩
  · replace h := h.2 e
    refine pS rfl rfl rfl ?_
    obtain ⟨x14, hc15, h⟩ := h
    refine AOps.call hc15 rfl rfl rfl ⟨.inl rfl, trivial⟩ ?_
    refine pB rfl rfl rfl ?_
    refine pB rfl rfl rfl ?_
    refine pB rfl rfl rfl ?_
    refine AOps.splitB 19 rfl (fun e => ?_) (fun e => ?_)
    · replace h := h.1 e
      refine AOps.off rfl rfl ?_
      refine AOps.off rfl rfl ?_
      refine AOps.off rfl rfl ?_
      refine AOps.off rfl rfl ?_
      refine AOps.off rfl rfl ?_
      refine AOps.off rfl rfl ?_
      refine AOps.off rfl rfl ?_
      refine pB rfl rfl rfl ?_
      refine AOps.done ?_
      refine AWp.condT rfl ?_
      refine AWp.seq ?_
      refine AWp.regionN (fun _ => false) rfl ?_
      refine pS rfl rfl rfl ?_
      refine pI rfl rfl rfl ?_
      refine AOps.done ?_
      refine AWp.ret ?_
      subst h
      exact ⟨_, rfl, rfl⟩
    · replace h := h.2 e
      refine pS rfl rfl rfl ?_
      obtain ⟨hi16, x17, hx18, h⟩ := h
      refine AOps.idx tabOk (z := .sl 36 2 (List.map GIval.enc x17)) rfl rfl rfl rfl rfl rfl rfl rfl hi16 (map_get hx18) ?_
      refine pS rfl rfl rfl ?_
      refine AOps.i (j := ((x17.length : Nat) : Int)) tabOk rfl rfl rfl (by first | (rw [List.length_map]; done) | rfl) ?_
      refine pS rfl rfl rfl ?_
      refine AOps.i (j := ((v2.length : Nat) : Int)) tabOk rfl rfl rfl (by first | (rw [List.length_map]; done) | rfl) ?_
      refine pB rfl rfl rfl ?_
      refine pB rfl rfl rfl ?_
      refine AOps.done ?_
      refine AWp.cond rfl (fun e => ?_) (fun e => ?_)
      · replace h := h.1 e
        refine AWp.seq ?_
        refine AWp.regionN (fun _ => false) rfl ?_
        refine pS rfl rfl rfl ?_
        refine pI rfl rfl rfl ?_
        refine AOps.done ?_
        refine AWp.ret ?_
        subst h
        exact ⟨_, rfl, rfl⟩
      · replace h := h.2 e
        refine AWp.skip ?_
        refine AWp.seq ?_
        refine AWp.regionN (fun _ => false) rfl ?_
        refine AOps.nilown tabOk rfl rfl rfl rfl rfl rfl ?_
        refine AOps.done ?_
        refine AWp.seq ?_
        refine AWp.seq ?_
        refine AWp.regionN (fun _ => false) rfl ?_
        refine pS rfl rfl rfl ?_
        refine AOps.i (j := ((m1.length : Nat) : Int)) tabOk rfl rfl rfl (by first | (rw [List.length_map]; done) | rfl) ?_
        refine pI rfl rfl rfl ?_
        refine AOps.done ?_
        refine AWp.block ?_
        obtain ⟨I88, x89, hz90, hr91⟩ := h
        refine AWp.loop (I := fun p : (List GIval) × Int => mkSt [(1, .dat (.sl 36 2 (List.map GIval.enc v2))), (6, .oref 1006), (28, .dat (.sl 34 1 (List.map (eSl 36 2 GIval.enc) m1))), (29, .dat (.v (.int .i64 ((m1.length : Nat) : Int)))), (30, .dat (.v (.int .i64 p.2)))] [(1006, .row 36 2 (List.map GIval.enc p.1))]) (Inv := fun p => I88 p.1 p.2) (μ := fun p => x89 p.1 p.2) (x0 := ⟨([] : List GIval), (0 : Int)⟩) hz90 (Sub.list (fun i => (if Nat.beq i 1006 then 6 else i)) rfl rfl ⟨rfl, rfl, rfl, rfl, rfl, trivial⟩ ⟨rfl, trivial⟩) (fun p hp => ?_)
        obtain ⟨out72, x73⟩ := p
        have h := hr91 out72 x73 hp
        refine AWp.seq ?_
        refine AWp.regionN (fun _ => false) rfl ?_
        refine pW rfl rfl rfl ?_
        refine AOps.done ?_
        refine AWp.seq ?_
        refine AWp.cond rfl (fun e => ?_) (fun e => ?_)
        · replace h := h.1 e
          refine AWp.skip ?_
          refine AWp.seq ?_
          refine AWp.block ?_
          refine AWp.seq ?_
          refine AWp.regionN (fun _ => false) rfl ?_
          obtain ⟨hi81, x82, hx83, h⟩ := h
          refine AOps.idx tabOk (z := .sl 36 2 (List.map GIval.enc x82)) rfl rfl rfl rfl rfl rfl rfl rfl hi81 (map_get hx83) ?_
          refine pS rfl rfl rfl ?_
          refine pS rfl rfl rfl ?_
          refine AOps.done ?_
          refine AWp.seq ?_
          refine AWp.regionN (fun o => writes o) rfl ?_
          refine pS rfl rfl rfl ?_
          refine pS rfl rfl rfl ?_
          obtain ⟨x84, hc85, h⟩ := h
          refine AOps.call hc85 rfl rfl rfl ⟨.inl rfl, .inl rfl, trivial⟩ ?_
          refine pU rfl rfl rfl ?_
          refine pT rfl rfl rfl ?_
          refine pI rfl rfl rfl ?_
          refine AOps.alloc tabOk rfl rfl rfl rfl rfl ?_
          refine AOps.store tabOk (v := .dat (.st _ _)) rfl rfl rfl rfl rfl rfl rfl rfl rfl rfl rfl rfl rfl ?_
          refine pI rfl rfl rfl ?_
          refine AOps.done ?_
          refine AWp.regionN (fun o => writes o) rfl ?_
          refine pO rfl rfl rfl ?_
          refine pT rfl rfl rfl ?_
          refine AOps.lit tabOk (ys := [GIval.enc x84.1]) rfl rfl rfl rfl rfl rfl ?_
          obtain ⟨h1, h2, x86, ex86, h⟩ := h.get
          refine AOps.append tabOk rfl rfl rfl rfl rfl rfl rfl rfl rfl rfl rfl (.inl ⟨_, rfl⟩) (app1 h1) (app2 h2) (app3 ex86) ?_
          refine pO rfl rfl rfl ?_
          refine AOps.done ?_
          refine AWp.regionN (fun _ => false) rfl ?_
          obtain ⟨x87, ex87, h⟩ := h.get
          refine AOps.i tabOk rfl rfl rfl ex87 ?_
          refine pI rfl rfl rfl ?_
          refine AOps.done ?_
          exact ⟨⟨x86, x87⟩, h.1, h.2, (Sub.list (fun i => (if Nat.beq i 1006 then 43 else i)) rfl rfl ⟨rfl, rfl, rfl, rfl, rfl, trivial⟩ ⟨rfl, trivial⟩)⟩
        · replace h := h.2 e
          refine AWp.exit ?_
          refine AWp.seq ?_
          refine AWp.regionN (fun _ => false) rfl ?_
          refine pO rfl rfl rfl ?_
          refine pO rfl rfl rfl ?_
          refine pI rfl rfl rfl ?_
          refine AOps.done ?_
          refine AWp.ret ?_
          subst h
          exact ⟨_, rfl, rfl⟩
def W_ref04_Same (a1 : List GIval) (b2 : List GIval) (Q : Bool → Prop) : Prop :=
  Br (((a1.length : Nat) : Int) != ((b2.length : Nat) : Int)) (Q false) (
    Loop1 (0 : Int) (fun (x65 : Int) next66 =>
      Br (decide (x65 < ((a1.length : Nat) : Int))) (
        At a1 x65 fun x76 =>
        At b2 x65 fun x79 =>
        Call (Ev_ref02_Same x76 x79) fun x81 =>
        Br (!x81) (Q false) (
          Let (IntKind.i64.wrap (x65 + (1 : Int))) fun x83 =>
          next66 x83)) (
        Q true)))
theorem walk_ref04_Same {a1 : List GIval} {b2 : List GIval} {r : Bool} (h : W_ref04_Same a1 b2 (fun r' => r' = r)) : Ev_ref04_Same a1 b2 r := by
  unfold W_ref04_Same at h
  refine AFn.intro' (L := [(0, .dat (.sl 36 2 (List.map GIval.enc a1))), (1, .dat (.sl 36 2 (List.map GIval.enc b2)))]) tabOk Try.func23 rfl rfl Try.ntmps23 rfl rfl rfl ?_
  refine AWp.seq ?_
  refine AWp.regionN (fun _ => false) rfl ?_
  refine pB rfl rfl rfl ?_
  refine AOps.done ?_
  refine AWp.seq ?_
  refine AWp.seq ?_
  refine AWp.regionN (fun _ => false) rfl ?_
  refine pS rfl rfl rfl ?_
  refine AOps.i (j := ((a1.length : Nat) : Int)) tabOk rfl rfl rfl (by first | (rw [List.length_map]; done) | rfl) ?_
  refine pS rfl rfl rfl ?_
  refine AOps.i (j := ((b2.length : Nat) : Int)) tabOk rfl rfl rfl (by first | (rw [List.length_map]; done) | rfl) ?_
  refine pB rfl rfl rfl ?_
  refine AOps.done ?_
  refine AWp.cond rfl (fun e => ?_) (fun e => ?_)
  · replace h := h.1 e
    refine AWp.seq ?_
    refine AWp.regionN (fun _ => false) rfl ?_
    refine pB rfl rfl rfl ?_
    refine AOps.done ?_
    refine AWp.ret ?_
    subst h
    exact ⟨_, rfl, rfl⟩
  · replace h := h.2 e
    refine AWp.skip ?_
    refine AWp.seq ?_
    refine AWp.seq ?_
    refine AWp.regionN (fun _ => false) rfl ?_
    refine pS rfl rfl rfl ?_
    refine AOps.i (j := ((a1.length : Nat) : Int)) tabOk rfl rfl rfl (by first | (rw [List.length_map]; done) | rfl) ?_
    refine pI rfl rfl rfl ?_
    refine AOps.done ?_
    refine AWp.block ?_
    obtain ⟨I84, x85, hz86, hr87⟩ := h
    refine AWp.loop (I := fun p : Int => mkSt [(0, .dat (.sl 36 2 (List.map GIval.enc a1))), (1, .dat (.sl 36 2 (List.map GIval.enc b2))), (12, .dat (.v (.int .i64 ((a1.length : Nat) : Int)))), (13, .dat (.v (.int .i64 p)))] []) (Inv := fun p => I84 p) (μ := fun p => x85 p) (x0 := (0 : Int)) hz86 (Sub.list (fun i => i) rfl rfl ⟨rfl, rfl, rfl, rfl, trivial⟩ trivial) (fun p hp => ?_)
    have h := hr87 p hp
    revert h; clear hp; generalize p = x65; intro h
    refine AWp.seq ?_
    refine AWp.regionN (fun _ => false) rfl ?_
    refine pW rfl rfl rfl ?_
    refine AOps.done ?_
    refine AWp.seq ?_
    refine AWp.cond rfl (fun e => ?_) (fun e => ?_)
    · replace h := h.1 e
      refine AWp.skip ?_
      refine AWp.seq ?_
      refine AWp.block ?_
      refine AWp.seq ?_
      refine AWp.regionN (fun _ => false) rfl ?_
      refine pI rfl rfl rfl ?_
      refine pI rfl rfl rfl ?_
      refine AOps.done ?_
      refine AWp.seq ?_
      refine AWp.regionD (fun _ => false) mixed (by decide +kernel) rfl ?_
      refine pS rfl rfl rfl ?_
      refine pI rfl rfl rfl ?_
      obtain ⟨hi75, x76, hx77, h⟩ := h
      refine AOps.idx tabOk (z := GIval.enc x76) rfl rfl rfl rfl rfl rfl rfl rfl hi75 (map_get hx77) ?_
      refine pT rfl rfl rfl ?_
      refine pS rfl rfl rfl ?_
      refine pI rfl rfl rfl ?_
      obtain ⟨hi78, x79, hx80, h⟩ := h
      refine AOps.idx tabOk (z := GIval.enc x79) rfl rfl rfl rfl rfl rfl rfl rfl hi78 (map_get hx80) ?_
      refine pT rfl rfl rfl ?_
      obtain ⟨x81, hc82, h⟩ := h
      refine AOps.call hc82 rfl rfl rfl ⟨.inl rfl, .inl rfl, trivial⟩ ?_
      refine pB rfl rfl rfl ?_
      refine AOps.done ?_
      refine AWp.cond rfl (fun e => ?_) (fun e => ?_)
      · replace h := h.1 e
        refine AWp.seq ?_
        refine AWp.regionN (fun _ => false) rfl ?_
        refine pB rfl rfl rfl ?_
        refine AOps.done ?_
        refine AWp.ret ?_
        subst h
        exact ⟨_, rfl, rfl⟩
      · replace h := h.2 e
        refine AWp.skip ?_
        refine AWp.regionN (fun _ => false) rfl ?_
        obtain ⟨x83, ex83, h⟩ := h.get
        refine AOps.i tabOk rfl rfl rfl ex83 ?_
        refine pI rfl rfl rfl ?_
        refine AOps.done ?_
        exact ⟨x83, h.1, h.2, (Sub.list (fun i => i) rfl rfl ⟨rfl, rfl, rfl, rfl, trivial⟩ trivial)⟩
    · replace h := h.2 e
      refine AWp.exit ?_
      refine AWp.seq ?_
      refine AWp.regionN (fun _ => false) rfl ?_
      refine pB rfl rfl rfl ?_
      refine AOps.done ?_
      refine AWp.ret ?_
      subst h
      exact ⟨_, rfl, rfl⟩
def W_ref04_Apply (m1 : List (List GIval)) (v2 : List GIval) (Q : List GIval → Prop) : Prop :=
  Loop2 ([] : List GIval) (0 : Int) (fun (out54 : List GIval) (x55 : Int) next56 =>
    Br (decide (x55 < ((m1.length : Nat) : Int))) (
      At m1 x55 fun x64 =>
      Call (Ev_ref04_Dot x64 v2) fun x66 =>
      App 16 out54 ([x66]) fun x68 =>
      Let (IntKind.i64.wrap (x55 + (1 : Int))) fun x69 =>
      next56 x68 x69) (
      Q out54))
theorem walk_ref04_Apply {m1 : List (List GIval)} {v2 : List GIval} {r : List GIval} (h : W_ref04_Apply m1 v2 (fun r' => r' = r)) : Ev_ref04_Apply m1 v2 r := by
  unfold W_ref04_Apply at h
  refine AFn.intro' (L := [(0, .dat (.sl 34 1 (List.map (eSl 36 2 GIval.enc) m1))), (1, .dat (.sl 36 2 (List.map GIval.enc v2)))]) tabOk Try.func24 rfl rfl Try.ntmps24 rfl rfl rfl ?_
  refine AWp.seq ?_
  refine AWp.regionN (fun _ => false) rfl ?_
  refine pS rfl rfl rfl ?_
  refine AOps.done ?_
  refine AWp.seq ?_
  refine AWp.regionN (fun _ => false) rfl ?_
  refine AOps.litown tabOk (ys := []) rfl rfl rfl rfl rfl rfl rfl rfl ?_
  refine pO rfl rfl rfl ?_
  refine AOps.done ?_
  refine AWp.seq ?_
  refine AWp.seq ?_
  refine AWp.regionN (fun _ => false) rfl ?_
  refine pS rfl rfl rfl ?_
  refine AOps.i (j := ((m1.length : Nat) : Int)) tabOk rfl rfl rfl (by first | (rw [List.length_map]; done) | rfl) ?_
  refine pI rfl rfl rfl ?_
  refine AOps.done ?_
  refine AWp.block ?_
  obtain ⟨I70, x71, hz72, hr73⟩ := h
  refine AWp.loop (I := fun p : (List GIval) × Int => mkSt [(1, .dat (.sl 36 2 (List.map GIval.enc v2))), (5, .oref 1005), (9, .dat (.sl 34 1 (List.map (eSl 36 2 GIval.enc) m1))), (10, .dat (.v (.int .i64 ((m1.length : Nat) : Int)))), (11, .dat (.v (.int .i64 p.2)))] [(1005, .row 36 2 (List.map GIval.enc p.1))]) (Inv := fun p => I70 p.1 p.2) (μ := fun p => x71 p.1 p.2) (x0 := ⟨([] : List GIval), (0 : Int)⟩) hz72 (Sub.list (fun i => (if Nat.beq i 1005 then 8 else i)) rfl rfl ⟨rfl, rfl, rfl, rfl, rfl, trivial⟩ ⟨rfl, trivial⟩) (fun p hp => ?_)
  obtain ⟨out54, x55⟩ := p
  have h := hr73 out54 x55 hp
  refine AWp.seq ?_
  refine AWp.regionN (fun _ => false) rfl ?_
  refine pW rfl rfl rfl ?_
  refine AOps.done ?_
  refine AWp.seq ?_
  refine AWp.cond rfl (fun e => ?_) (fun e => ?_)
  · replace h := h.1 e
    refine AWp.skip ?_
    refine AWp.seq ?_
    refine AWp.block ?_
    refine AWp.seq ?_
    refine AWp.regionN (fun _ => false) rfl ?_
    obtain ⟨hi63, x64, hx65, h⟩ := h
    refine AOps.idx tabOk (z := .sl 36 2 (List.map GIval.enc x64)) rfl rfl rfl rfl rfl rfl rfl rfl hi63 (map_get hx65) ?_
    refine pS rfl rfl rfl ?_
    refine pS rfl rfl rfl ?_
    refine AOps.done ?_
    refine AWp.regionN (fun o => writes o) rfl ?_
    refine pO rfl rfl rfl ?_
    refine pS rfl rfl rfl ?_
    refine pS rfl rfl rfl ?_
    obtain ⟨x66, hc67, h⟩ := h
    refine AOps.call hc67 rfl rfl rfl ⟨.inl rfl, .inl rfl, trivial⟩ ?_
    refine AOps.lit tabOk (ys := [GIval.enc x66]) rfl rfl rfl rfl rfl rfl ?_
    obtain ⟨h1, h2, x68, ex68, h⟩ := h.get
    refine AOps.append tabOk rfl rfl rfl rfl rfl rfl rfl rfl rfl rfl rfl (.inl ⟨_, rfl⟩) (app1 h1) (app2 h2) (app3 ex68) ?_
    refine pO rfl rfl rfl ?_
    refine AOps.done ?_
    refine AWp.regionN (fun _ => false) rfl ?_
    obtain ⟨x69, ex69, h⟩ := h.get
    refine AOps.i tabOk rfl rfl rfl ex69 ?_
    refine pI rfl rfl rfl ?_
    refine AOps.done ?_
    exact ⟨⟨x68, x69⟩, h.1, h.2, (Sub.list (fun i => (if Nat.beq i 1005 then 20 else i)) rfl rfl ⟨rfl, rfl, rfl, rfl, rfl, trivial⟩ ⟨rfl, trivial⟩)⟩
  · replace h := h.2 e
    refine AWp.exit ?_
    refine AWp.seq ?_
    refine AWp.regionN (fun _ => false) rfl ?_
    refine pO rfl rfl rfl ?_
    refine pO rfl rfl rfl ?_
    refine AOps.done ?_
    refine AWp.ret ?_
    subst h
    exact ⟨_, rfl, rfl⟩
def W_ref04_Mul (a1 : List (List GIval)) (b2 : List (List GIval)) (Q : List (List GIval) → Prop) : Prop :=
  Loop2 ([] : List (List GIval)) (0 : Int) (fun (out4338 : List (List GIval)) (x4339 : Int) next4340 =>
    Br (decide (x4339 < ((a1.length : Nat) : Int))) (
      At a1 x4339 fun x5062 =>
      At b2 (0 : Int) fun x5065 =>
      Loop2 ([] : List GIval) (0 : Int) (fun (row5600 : List GIval) (x5601 : Int) next5602 =>
        Br (decide (x5601 < ((x5065.length : Nat) : Int))) (
          Loop2 ([] : List GIval) (0 : Int) (fun (col5750 : List GIval) (x5751 : Int) next5752 =>
            Br (decide (x5751 < ((b2.length : Nat) : Int))) (
              At b2 x5751 fun x5761 =>
              At x5761 x5601 fun x5764 =>
              App 16 col5750 ([x5764]) fun x5766 =>
              Let (IntKind.i64.wrap (x5751 + (1 : Int))) fun x5767 =>
              next5752 x5766 x5767) (
              Call (Ev_ref04_Dot x5062 col5750) fun x5768 =>
              App 16 row5600 ([x5768]) fun x5770 =>
              Let (IntKind.i64.wrap (x5601 + (1 : Int))) fun x5771 =>
              next5602 x5770 x5771))) (
          App 24 out4338 ([row5600]) fun x5776 =>
          Let (IntKind.i64.wrap (x4339 + (1 : Int))) fun x5777 =>
          next4340 x5776 x5777))) (
      Q out4338))
theorem walk_ref04_Mul {a1 : List (List GIval)} {b2 : List (List GIval)} {r : List (List GIval)} (h : W_ref04_Mul a1 b2 (fun r' => r' = r)) : Ev_ref04_Mul a1 b2 r := by
  unfold W_ref04_Mul at h
  refine AFn.intro' (L := [(0, .dat (.sl 34 1 (List.map (eSl 36 2 GIval.enc) a1))), (1, .dat (.sl 34 1 (List.map (eSl 36 2 GIval.enc) b2)))]) tabOk Try.func26 rfl rfl Try.ntmps26 rfl rfl rfl ?_
  refine AWp.seq ?_
  refine AWp.regionN (fun _ => false) rfl ?_
  refine pS rfl rfl rfl ?_
  refine AOps.done ?_
  refine AWp.seq ?_
  refine AWp.regionN (fun _ => false) rfl ?_
  refine AOps.litown tabOk (ys := []) rfl rfl rfl rfl rfl rfl rfl rfl ?_
  refine pO rfl rfl rfl ?_
  refine AOps.done ?_
  refine AWp.seq ?_
  refine AWp.seq ?_
  refine AWp.regionN (fun _ => false) rfl ?_
  refine pS rfl rfl rfl ?_
  refine AOps.i (j := ((a1.length : Nat) : Int)) tabOk rfl rfl rfl (by first | (rw [List.length_map]; done) | rfl) ?_
  refine pI rfl rfl rfl ?_
  refine AOps.done ?_
  refine AWp.block ?_
  obtain ⟨I5782, x5783, hz5784, hr5785⟩ := h
  refine AWp.loop (I := fun p : (List (List GIval)) × Int => mkSt [(1, .dat (.sl 34 1 (List.map (eSl 36 2 GIval.enc) b2))), (5, .oref 1005), (14, .dat (.sl 34 1 (List.map (eSl 36 2 GIval.enc) a1))), (15, .dat (.v (.int .i64 ((a1.length : Nat) : Int)))), (16, .dat (.v (.int .i64 p.2)))] [(1005, .row 34 1 (List.map (eSl 36 2 GIval.enc) p.1))]) (Inv := fun p => I5782 p.1 p.2) (μ := fun p => x5783 p.1 p.2) (x0 := ⟨([] : List (List GIval)), (0 : Int)⟩) hz5784 (Sub.list (fun i => (if Nat.beq i 1005 then 13 else i)) rfl rfl ⟨rfl, rfl, rfl, rfl, rfl, trivial⟩ ⟨rfl, trivial⟩) (fun p hp => ?_)
  obtain ⟨out4338, x4339⟩ := p
  have h := hr5785 out4338 x4339 hp
  refine AWp.seq ?_
  refine AWp.regionN (fun _ => false) rfl ?_
  refine pW rfl rfl rfl ?_
  refine AOps.done ?_
  refine AWp.seq ?_
  refine AWp.cond rfl (fun e => ?_) (fun e => ?_)
  · replace h := h.1 e
    refine AWp.skip ?_
    refine AWp.seq ?_
    refine AWp.block ?_
    refine AWp.seq ?_
    refine AWp.regionN (fun _ => false) rfl ?_
    obtain ⟨hi5061, x5062, hx5063, h⟩ := h
    refine AOps.idx tabOk (z := .sl 36 2 (List.map GIval.enc x5062)) rfl rfl rfl rfl rfl rfl rfl rfl hi5061 (map_get hx5063) ?_
    refine pS rfl rfl rfl ?_
    refine pS rfl rfl rfl ?_
    refine AOps.done ?_
    refine AWp.seq ?_
    refine AWp.regionN (fun _ => false) rfl ?_
    refine AOps.litown tabOk (ys := []) rfl rfl rfl rfl rfl rfl rfl rfl ?_
    refine pO rfl rfl rfl ?_
    refine AOps.done ?_
    refine AWp.seq ?_
    refine AWp.seq ?_
    refine AWp.regionN (fun _ => false) rfl ?_
    refine pS rfl rfl rfl ?_
    obtain ⟨hi5064, x5065, hx5066, h⟩ := h
    refine AOps.idx tabOk (z := .sl 36 2 (List.map GIval.enc x5065)) rfl rfl rfl rfl rfl rfl rfl rfl hi5064 (map_get hx5066) ?_
    refine pS rfl rfl rfl ?_
    refine AOps.i (j := ((x5065.length : Nat) : Int)) tabOk rfl rfl rfl (by first | (rw [List.length_map]; done) | rfl) ?_
    refine pI rfl rfl rfl ?_
    refine AOps.done ?_
    refine AWp.block ?_
    obtain ⟨I5778, x5779, hz5780, hr5781⟩ := h
    refine AWp.loop (I := fun p : (List GIval) × Int => mkSt [(1, .dat (.sl 34 1 (List.map (eSl 36 2 GIval.enc) b2))), (5, .oref 1005), (7, .dat (.sl 36 2 (List.map GIval.enc x5062))), (8, .oref 1008), (14, .dat (.sl 34 1 (List.map (eSl 36 2 GIval.enc) a1))), (15, .dat (.v (.int .i64 ((a1.length : Nat) : Int)))), (16, .dat (.v (.int .i64 x4339))), (24, .dat (.v (.int .i64 ((x5065.length : Nat) : Int)))), (25, .dat (.v (.int .i64 p.2)))] [(1005, .row 34 1 (List.map (eSl 36 2 GIval.enc) out4338)), (1008, .row 36 2 (List.map GIval.enc p.1))]) (Inv := fun p => I5778 p.1 p.2) (μ := fun p => x5779 p.1 p.2) (x0 := ⟨([] : List GIval), (0 : Int)⟩) hz5780 (Sub.list (fun i => (if Nat.beq i 1008 then 20 else i)) rfl rfl ⟨rfl, rfl, rfl, rfl, rfl, rfl, rfl, rfl, rfl, trivial⟩ ⟨rfl, rfl, trivial⟩) (fun p hp => ?_)
    obtain ⟨row5600, x5601⟩ := p
    have h := hr5781 row5600 x5601 hp
    refine AWp.seq ?_
    refine AWp.regionN (fun _ => false) rfl ?_
    refine pW rfl rfl rfl ?_
    refine AOps.done ?_
    refine AWp.seq ?_
    refine AWp.cond rfl (fun e => ?_) (fun e => ?_)
    · replace h := h.1 e
      refine AWp.skip ?_
      refine AWp.seq ?_
      refine AWp.block ?_
      refine AWp.seq ?_
      refine AWp.regionN (fun _ => false) rfl ?_
      refine pI rfl rfl rfl ?_
      refine pI rfl rfl rfl ?_
      refine AOps.done ?_
      refine AWp.seq ?_
      refine AWp.regionN (fun _ => false) rfl ?_
      refine AOps.litown tabOk (ys := []) rfl rfl rfl rfl rfl rfl rfl rfl ?_
      refine pO rfl rfl rfl ?_
      refine AOps.done ?_
      refine AWp.seq ?_
      refine AWp.seq ?_
      refine AWp.regionN (fun _ => false) rfl ?_
      refine pS rfl rfl rfl ?_
      refine AOps.i (j := ((b2.length : Nat) : Int)) tabOk rfl rfl rfl (by first | (rw [List.length_map]; done) | rfl) ?_
      refine pI rfl rfl rfl ?_
      refine AOps.done ?_
      refine AWp.block ?_
      obtain ⟨I5772, x5773, hz5774, hr5775⟩ := h
      refine AWp.loop (I := fun p : (List GIval) × Int => mkSt [(1, .dat (.sl 34 1 (List.map (eSl 36 2 GIval.enc) b2))), (5, .oref 1005), (7, .dat (.sl 36 2 (List.map GIval.enc x5062))), (8, .oref 1008), (9, .dat (.v (.int .i64 x5601))), (10, .oref 1010), (14, .dat (.sl 34 1 (List.map (eSl 36 2 GIval.enc) a1))), (15, .dat (.v (.int .i64 ((a1.length : Nat) : Int)))), (16, .dat (.v (.int .i64 x4339))), (24, .dat (.v (.int .i64 ((x5065.length : Nat) : Int)))), (25, .dat (.v (.int .i64 x5601))), (29, .dat (.sl 34 1 (List.map (eSl 36 2 GIval.enc) b2))), (30, .dat (.v (.int .i64 ((b2.length : Nat) : Int)))), (31, .dat (.v (.int .i64 p.2)))] [(1005, .row 34 1 (List.map (eSl 36 2 GIval.enc) out4338)), (1008, .row 36 2 (List.map GIval.enc row5600)), (1010, .row 36 2 (List.map GIval.enc p.1))]) (Inv := fun p => I5772 p.1 p.2) (μ := fun p => x5773 p.1 p.2) (x0 := ⟨([] : List GIval), (0 : Int)⟩) hz5774 (Sub.list (fun i => (if Nat.beq i 1010 then 28 else i)) rfl rfl ⟨rfl, rfl, rfl, rfl, rfl, rfl, rfl, rfl, rfl, rfl, rfl, rfl, rfl, rfl, trivial⟩ ⟨rfl, rfl, rfl, trivial⟩) (fun p hp => ?_)
      obtain ⟨col5750, x5751⟩ := p
      have h := hr5775 col5750 x5751 hp
      refine AWp.seq ?_
      refine AWp.regionN (fun _ => false) rfl ?_
      refine pW rfl rfl rfl ?_
      refine AOps.done ?_
      refine AWp.seq ?_
      refine AWp.cond rfl (fun e => ?_) (fun e => ?_)
      · replace h := h.1 e
        refine AWp.skip ?_
        refine AWp.seq ?_
        refine AWp.block ?_
        refine AWp.seq ?_
        refine AWp.regionN (fun _ => false) rfl ?_
        obtain ⟨hi5760, x5761, hx5762, h⟩ := h
        refine AOps.idx tabOk (z := .sl 36 2 (List.map GIval.enc x5761)) rfl rfl rfl rfl rfl rfl rfl rfl hi5760 (map_get hx5762) ?_
        refine pS rfl rfl rfl ?_
        refine pS rfl rfl rfl ?_
        refine AOps.done ?_
        refine AWp.regionN (fun o => writes o) rfl ?_
        refine pO rfl rfl rfl ?_
        refine pS rfl rfl rfl ?_
        refine pI rfl rfl rfl ?_
        obtain ⟨hi5763, x5764, hx5765, h⟩ := h
        refine AOps.idx tabOk (z := GIval.enc x5764) rfl rfl rfl rfl rfl rfl rfl rfl hi5763 (map_get hx5765) ?_
        refine pT rfl rfl rfl ?_
        refine AOps.lit tabOk (ys := [GIval.enc x5764]) rfl rfl rfl rfl rfl rfl ?_
        obtain ⟨h1, h2, x5766, ex5766, h⟩ := h.get
        refine AOps.append tabOk rfl rfl rfl rfl rfl rfl rfl rfl rfl rfl rfl (.inl ⟨_, rfl⟩) (app1 h1) (app2 h2) (app3 ex5766) ?_
        refine pO rfl rfl rfl ?_
        refine AOps.done ?_
        refine AWp.regionN (fun _ => false) rfl ?_
        obtain ⟨x5767, ex5767, h⟩ := h.get
        refine AOps.i tabOk rfl rfl rfl ex5767 ?_
        refine pI rfl rfl rfl ?_
        refine AOps.done ?_
        exact ⟨⟨x5766, x5767⟩, h.1, h.2, (Sub.list (fun i => (if Nat.beq i 1010 then 41 else i)) rfl rfl ⟨rfl, rfl, rfl, rfl, rfl, rfl, rfl, rfl, rfl, rfl, rfl, rfl, rfl, rfl, trivial⟩ ⟨rfl, rfl, rfl, trivial⟩)⟩
      · replace h := h.2 e
        refine AWp.exit ?_
        refine AWp.regionN (fun o => writes o) rfl ?_
        refine pO rfl rfl rfl ?_
        refine pS rfl rfl rfl ?_
        refine pO rfl rfl rfl ?_
        obtain ⟨x5768, hc5769, h⟩ := h
        refine AOps.call (AFn.fresh rfl hc5769) rfl rfl rfl ⟨.inl rfl, .inr (.inr ⟨rfl, _, _, _, _, rfl, rfl, rfl⟩), trivial⟩ ?_
        refine AOps.lit tabOk (ys := [GIval.enc x5768]) rfl rfl rfl rfl rfl rfl ?_
        obtain ⟨h1, h2, x5770, ex5770, h⟩ := h.get
        refine AOps.append tabOk rfl rfl rfl rfl rfl rfl rfl rfl rfl rfl rfl (.inl ⟨_, rfl⟩) (app1 h1) (app2 h2) (app3 ex5770) ?_
        refine pO rfl rfl rfl ?_
        refine AOps.done ?_
        refine AWp.regionN (fun _ => false) rfl ?_
        obtain ⟨x5771, ex5771, h⟩ := h.get
        refine AOps.i tabOk rfl rfl rfl ex5771 ?_
        refine pI rfl rfl rfl ?_
        refine AOps.done ?_
        exact ⟨⟨x5770, x5771⟩, h.1, h.2, (Sub.list (fun i => (if Nat.beq i 1008 then 48 else i)) rfl rfl ⟨rfl, rfl, rfl, rfl, rfl, rfl, rfl, rfl, rfl, trivial⟩ ⟨rfl, rfl, trivial⟩)⟩
    · replace h := h.2 e
      refine AWp.exit ?_
      refine AWp.freeze 8 1008 rfl rfl ?_
      refine AWp.regionN (fun o => writes o) rfl ?_
      refine pO rfl rfl rfl ?_
      refine pS rfl rfl rfl ?_
      refine AOps.lit tabOk (ys := [.sl 36 2 (List.map GIval.enc row5600)]) rfl rfl rfl rfl rfl rfl ?_
      obtain ⟨h1, h2, x5776, ex5776, h⟩ := h.get
      refine AOps.append tabOk rfl rfl rfl rfl rfl rfl rfl rfl rfl rfl rfl (.inl ⟨_, rfl⟩) (app1 h1) (app2 h2) (app3 ex5776) ?_
      refine pO rfl rfl rfl ?_
      refine AOps.done ?_
      refine AWp.regionN (fun _ => false) rfl ?_
      obtain ⟨x5777, ex5777, h⟩ := h.get
      refine AOps.i tabOk rfl rfl rfl ex5777 ?_
      refine pI rfl rfl rfl ?_
      refine AOps.done ?_
      exact ⟨⟨x5776, x5777⟩, h.1, h.2, (Sub.list (fun i => (if Nat.beq i 1005 then 53 else i)) rfl rfl ⟨rfl, rfl, rfl, rfl, rfl, trivial⟩ ⟨rfl, trivial⟩)⟩
  · replace h := h.2 e
    refine AWp.exit ?_
    refine AWp.seq ?_
    refine AWp.regionN (fun _ => false) rfl ?_
    refine pO rfl rfl rfl ?_
    refine pO rfl rfl rfl ?_
    refine AOps.done ?_
    refine AWp.ret ?_
    subst h
    exact ⟨_, rfl, rfl⟩
def W_lin_matrix (m1 : List (List GIval)) (Q : Bool → Prop) : Prop :=
  Loop1 (0 : Int) (fun (x116 : Int) next117 =>
    Br (decide (x116 < ((m1.length : Nat) : Int))) (
      At m1 x116 fun x136 =>
      Call (Ev_lin_vector x136) fun x145 =>
      Br (!x145) (Q false) (
        At m1 (0 : Int) fun x149 =>
        Br (((x136.length : Nat) : Int) != ((x149.length : Nat) : Int)) (Q false) (
          Let (IntKind.i64.wrap (x116 + (1 : Int))) fun x152 =>
          next117 x152))) (
      Br (decide (((m1.length : Nat) : Int) > (0 : Int))) (Q (decide (((m1.length : Nat) : Int) ≤ (24 : Int)))) (
        Q false)))
theorem walk_lin_matrix {m1 : List (List GIval)} {r : Bool} (h : W_lin_matrix m1 (fun r' => r' = r)) : Ev_lin_matrix m1 r := by
  unfold W_lin_matrix at h
  refine AFn.intro' (L := [(0, .dat (.sl 34 1 (List.map (eSl 36 2 GIval.enc) m1)))]) tabOk Try.func49 rfl rfl Try.ntmps49 rfl rfl rfl ?_
  refine AWp.seq ?_
  refine AWp.regionN (fun _ => false) rfl ?_
  refine pB rfl rfl rfl ?_
  refine AOps.done ?_
  refine AWp.seq ?_
  refine AWp.seq ?_
  refine AWp.regionN (fun _ => false) rfl ?_
  refine pS rfl rfl rfl ?_
  refine AOps.i (j := ((m1.length : Nat) : Int)) tabOk rfl rfl rfl (by first | (rw [List.length_map]; done) | rfl) ?_
  refine pI rfl rfl rfl ?_
  refine AOps.done ?_
  refine AWp.block ?_
  obtain ⟨I157, x158, hz159, hr160⟩ := h
  refine AWp.loop (I := fun p : Int => mkSt [(0, .dat (.sl 34 1 (List.map (eSl 36 2 GIval.enc) m1))), (5, .dat (.sl 34 1 (List.map (eSl 36 2 GIval.enc) m1))), (6, .dat (.v (.int .i64 ((m1.length : Nat) : Int)))), (7, .dat (.v (.int .i64 p)))] []) (Inv := fun p => I157 p) (μ := fun p => x158 p) (x0 := (0 : Int)) hz159 (Sub.list (fun i => i) rfl rfl ⟨rfl, rfl, rfl, rfl, trivial⟩ trivial) (fun p hp => ?_)
  have h := hr160 p hp
  revert h; clear hp; generalize p = x116; intro h
  refine AWp.seq ?_
  refine AWp.regionN (fun _ => false) rfl ?_
  refine pW rfl rfl rfl ?_
  refine AOps.done ?_
  refine AWp.seq ?_
  refine AWp.cond rfl (fun e => ?_) (fun e => ?_)
  · replace h := h.1 e
    refine AWp.skip ?_
    refine AWp.seq ?_
    refine AWp.block ?_
    refine AWp.seq ?_
    refine AWp.regionN (fun _ => false) rfl ?_
    obtain ⟨hi135, x136, hx137, h⟩ := h
    refine AOps.idx tabOk (z := .sl 36 2 (List.map GIval.enc x136)) rfl rfl rfl rfl rfl rfl rfl rfl hi135 (map_get hx137) ?_
    refine pS rfl rfl rfl ?_
    refine pS rfl rfl rfl ?_
    refine AOps.done ?_
    refine AWp.seq ?_
    refine AWp.regionN (fun _ => false) rfl ?_
    refine pS rfl rfl rfl ?_
    obtain ⟨x145, hc146, h⟩ := h
    refine AOps.call hc146 rfl rfl rfl ⟨.inl rfl, trivial⟩ ?_
    refine pB rfl rfl rfl ?_
    refine pB rfl rfl rfl ?_
    refine AOps.splitB 14 rfl (fun e => ?_) (fun e => ?_)
    · replace h := h.1 e
      refine AOps.off rfl rfl ?_
      refine AOps.off rfl rfl ?_
      refine AOps.off rfl rfl ?_
      refine AOps.off rfl rfl ?_
      refine AOps.off rfl rfl ?_
      refine AOps.off rfl rfl ?_
      refine AOps.off rfl rfl ?_
      refine pB rfl rfl rfl ?_
      refine AOps.done ?_
      refine AWp.condT rfl ?_
      refine AWp.seq ?_
      refine AWp.regionN (fun _ => false) rfl ?_
      refine pB rfl rfl rfl ?_
      refine AOps.done ?_
      refine AWp.ret ?_
      subst h
      exact ⟨_, rfl, rfl⟩
    · replace h := h.2 e
      refine pS rfl rfl rfl ?_
      refine AOps.i (j := ((x136.length : Nat) : Int)) tabOk rfl rfl rfl (by first | (rw [List.length_map]; done) | rfl) ?_
      refine pS rfl rfl rfl ?_
      obtain ⟨hi148, x149, hx150, h⟩ := h
      refine AOps.idx tabOk (z := .sl 36 2 (List.map GIval.enc x149)) rfl rfl rfl rfl rfl rfl rfl rfl hi148 (map_get hx150) ?_
      refine pS rfl rfl rfl ?_
      refine AOps.i (j := ((x149.length : Nat) : Int)) tabOk rfl rfl rfl (by first | (rw [List.length_map]; done) | rfl) ?_
      refine pB rfl rfl rfl ?_
      refine pB rfl rfl rfl ?_
      refine AOps.done ?_
      refine AWp.cond rfl (fun e => ?_) (fun e => ?_)
      · replace h := h.1 e
        refine AWp.seq ?_
        refine AWp.regionN (fun _ => false) rfl ?_
        refine pB rfl rfl rfl ?_
        refine AOps.done ?_
        refine AWp.ret ?_
        subst h
        exact ⟨_, rfl, rfl⟩
      · replace h := h.2 e
        refine AWp.skip ?_
        refine AWp.regionN (fun _ => false) rfl ?_
        obtain ⟨x152, ex152, h⟩ := h.get
        refine AOps.i tabOk rfl rfl rfl ex152 ?_
        refine pI rfl rfl rfl ?_
        refine AOps.done ?_
        exact ⟨x152, h.1, h.2, (Sub.list (fun i => i) rfl rfl ⟨rfl, rfl, rfl, rfl, trivial⟩ trivial)⟩
  · replace h := h.2 e
    refine AWp.exit ?_
    refine AWp.seq ?_
    refine AWp.regionN (fun _ => false) rfl ?_
    refine pS rfl rfl rfl ?_
    refine AOps.i (j := ((m1.length : Nat) : Int)) tabOk rfl rfl rfl (by first | (rw [List.length_map]; done) | rfl) ?_
    refine pB rfl rfl rfl ?_
    refine pB rfl rfl rfl ?_
    refine AOps.splitB 27 rfl (fun e => ?_) (fun e => ?_)
    · replace h := h.1 e
      refine pS rfl rfl rfl ?_
      refine AOps.i (j := ((m1.length : Nat) : Int)) tabOk rfl rfl rfl (by first | (rw [List.length_map]; done) | rfl) ?_
      refine pB rfl rfl rfl ?_
      refine pB rfl rfl rfl ?_
      refine pB rfl rfl rfl ?_
      refine AOps.done ?_
      refine AWp.ret ?_
      subst h
      exact ⟨_, rfl, rfl⟩
    · replace h := h.2 e
      refine AOps.off rfl rfl ?_
      refine AOps.off rfl rfl ?_
      refine AOps.off rfl rfl ?_
      refine pB rfl rfl rfl ?_
      refine pB rfl rfl rfl ?_
      refine AOps.done ?_
      refine AWp.ret ?_
      subst h
      exact ⟨_, rfl, rfl⟩
def W_lin_vector (v1 : List GIval) (Q : Bool → Prop) : Prop :=
  Loop1 (0 : Int) (fun (x44 : Int) next45 =>
    Br (decide (x44 < ((v1.length : Nat) : Int))) (
      At v1 x44 fun x52 =>
      Call (Ev_ival_Right x52) fun x54 =>
      Br (!x54) (Q false) (
        Let (IntKind.i64.wrap (x44 + (1 : Int))) fun x56 =>
        next45 x56)) (
      Br (decide (((v1.length : Nat) : Int) > (0 : Int))) (Q (decide (((v1.length : Nat) : Int) ≤ (24 : Int)))) (
        Q false)))
theorem walk_lin_vector {v1 : List GIval} {r : Bool} (h : W_lin_vector v1 (fun r' => r' = r)) : Ev_lin_vector v1 r := by
  unfold W_lin_vector at h
  refine AFn.intro' (L := [(0, .dat (.sl 36 2 (List.map GIval.enc v1)))]) tabOk Try.func58 rfl rfl Try.ntmps58 rfl rfl rfl ?_
  refine AWp.seq ?_
  refine AWp.regionN (fun _ => false) rfl ?_
  refine pB rfl rfl rfl ?_
  refine AOps.done ?_
  refine AWp.seq ?_
  refine AWp.seq ?_
  refine AWp.regionN (fun _ => false) rfl ?_
  refine pS rfl rfl rfl ?_
  refine AOps.i (j := ((v1.length : Nat) : Int)) tabOk rfl rfl rfl (by first | (rw [List.length_map]; done) | rfl) ?_
  refine pI rfl rfl rfl ?_
  refine AOps.done ?_
  refine AWp.block ?_
  obtain ⟨I61, x62, hz63, hr64⟩ := h
  refine AWp.loop (I := fun p : Int => mkSt [(0, .dat (.sl 36 2 (List.map GIval.enc v1))), (5, .dat (.sl 36 2 (List.map GIval.enc v1))), (6, .dat (.v (.int .i64 ((v1.length : Nat) : Int)))), (7, .dat (.v (.int .i64 p)))] []) (Inv := fun p => I61 p) (μ := fun p => x62 p) (x0 := (0 : Int)) hz63 (Sub.list (fun i => i) rfl rfl ⟨rfl, rfl, rfl, rfl, trivial⟩ trivial) (fun p hp => ?_)
  have h := hr64 p hp
  revert h; clear hp; generalize p = x44; intro h
  refine AWp.seq ?_
  refine AWp.regionN (fun _ => false) rfl ?_
  refine pW rfl rfl rfl ?_
  refine AOps.done ?_
  refine AWp.seq ?_
  refine AWp.cond rfl (fun e => ?_) (fun e => ?_)
  · replace h := h.1 e
    refine AWp.skip ?_
    refine AWp.seq ?_
    refine AWp.block ?_
    refine AWp.seq ?_
    refine AWp.regionN (fun o => writes o) rfl ?_
    obtain ⟨hi51, x52, hx53, h⟩ := h
    refine AOps.idx tabOk (z := GIval.enc x52) rfl rfl rfl rfl rfl rfl rfl rfl hi51 (map_get hx53) ?_
    refine pT rfl rfl rfl ?_
    refine AOps.alloc tabOk rfl rfl rfl rfl rfl ?_
    refine AOps.store tabOk (v := .dat (.st _ _)) rfl rfl rfl rfl rfl rfl rfl rfl rfl rfl rfl rfl rfl ?_
    refine AOps.done ?_
    refine AWp.seq ?_
    refine AWp.regionN (fun _ => false) rfl ?_
    refine pT rfl rfl rfl ?_
    obtain ⟨x54, hc55, h⟩ := h
    refine AOps.call hc55 rfl rfl rfl ⟨.inl rfl, trivial⟩ ?_
    refine pB rfl rfl rfl ?_
    refine AOps.done ?_
    refine AWp.cond rfl (fun e => ?_) (fun e => ?_)
    · replace h := h.1 e
      refine AWp.seq ?_
      refine AWp.regionN (fun _ => false) rfl ?_
      refine pB rfl rfl rfl ?_
      refine AOps.done ?_
      refine AWp.ret ?_
      subst h
      exact ⟨_, rfl, rfl⟩
    · replace h := h.2 e
      refine AWp.skip ?_
      refine AWp.regionN (fun _ => false) rfl ?_
      obtain ⟨x56, ex56, h⟩ := h.get
      refine AOps.i tabOk rfl rfl rfl ex56 ?_
      refine pI rfl rfl rfl ?_
      refine AOps.done ?_
      exact ⟨x56, h.1, h.2, (Sub.list (fun i => i) rfl rfl ⟨rfl, rfl, rfl, rfl, trivial⟩ trivial)⟩
  · replace h := h.2 e
    refine AWp.exit ?_
    refine AWp.seq ?_
    refine AWp.regionN (fun _ => false) rfl ?_
    refine pS rfl rfl rfl ?_
    refine AOps.i (j := ((v1.length : Nat) : Int)) tabOk rfl rfl rfl (by first | (rw [List.length_map]; done) | rfl) ?_
    refine pB rfl rfl rfl ?_
    refine pB rfl rfl rfl ?_
    refine AOps.splitB 18 rfl (fun e => ?_) (fun e => ?_)
    · replace h := h.1 e
      refine pS rfl rfl rfl ?_
      refine AOps.i (j := ((v1.length : Nat) : Int)) tabOk rfl rfl rfl (by first | (rw [List.length_map]; done) | rfl) ?_
      refine pB rfl rfl rfl ?_
      refine pB rfl rfl rfl ?_
      refine pB rfl rfl rfl ?_
      refine AOps.done ?_
      refine AWp.ret ?_
      subst h
      exact ⟨_, rfl, rfl⟩
    · replace h := h.2 e
      refine AOps.off rfl rfl ?_
      refine AOps.off rfl rfl ?_
      refine AOps.off rfl rfl ?_
      refine pB rfl rfl rfl ?_
      refine pB rfl rfl rfl ?_
      refine AOps.done ?_
      refine AWp.ret ?_
      subst h
      exact ⟨_, rfl, rfl⟩
end Go.Sim.Ytlglkgineclggaa
