/- What is proved: functions of the program compute what plain statements tell. -/
import Derived.Test.YtnnfiohdkobkdaaGreatDoorZPRWE

namespace Go.Sim.YtnnfiohdkobkdaaGreatDoor
open Go.RowKit Go.Proofs Go.Proofs.Tryz
set_option maxRecDepth 100000
def W_ref01_Cmp (a1 : List Int) (b2 : List Int) (Q : Int → Prop) : Prop :=
  Br (((a1.length : Nat) : Int) != ((b2.length : Nat) : Int)) (
    Br (decide (((a1.length : Nat) : Int) < ((b2.length : Nat) : Int))) (Q (-1 : Int)) (
      Q (1 : Int))) (
    Let (IntKind.i64.wrap (((a1.length : Nat) : Int) - (1 : Int))) fun x10 =>
    Loop1 x10 (fun (i94 : Int) next95 =>
      Br (decide (i94 ≥ (0 : Int))) (
        At a1 i94 fun x109 =>
        At b2 i94 fun x112 =>
        Br (decide (x109 < x112)) (Q (-1 : Int)) (
          At a1 i94 fun x115 =>
          At b2 i94 fun x118 =>
          Br (decide (x115 > x118)) (Q (1 : Int)) (
            Let (IntKind.i64.wrap (i94 - (1 : Int))) fun x120 =>
            next95 x120))) (
        Q (0 : Int))))
theorem walk_ref01_Cmp {a1 : List Int} {b2 : List Int} {r : Int} (h : W_ref01_Cmp a1 b2 (fun r' => r' = r)) : Ev_ref01_Cmp a1 b2 r := by
  unfold W_ref01_Cmp at h
  refine AFn.intro' (L := [(0, .dat (.sl 140 1 (List.map (eInt .u32) a1))), (1, .dat (.sl 140 1 (List.map (eInt .u32) b2)))]) tabOk Tryz.func155 rfl rfl Tryz.ntmps155 rfl rfl rfl ?_
  refine AWp.seq ?_
  refine AWp.regionN (fun _ => false) rfl ?_
  refine pI rfl rfl rfl ?_
  refine AOps.done ?_
  refine AWp.seq ?_
  refine AWp.seq ?_
  refine AWp.regionN (fun _ => false) rfl ?_
  refine pS rfl rfl rfl ?_
  refine AOps.i (j := ((a1.length : Nat) : Int)) tabOk rfl rfl rfl (by first | (rw [List.length_map]; done) | rfl) ?_
  refine pS rfl rfl rfl ?_
  refine AOps.i (j := ((b2.length : Nat) : Int)) tabOk rfl rfl rfl (by first | (rw [List.length_map]; done) | rfl) ?_
  refine pB rfl rfl rfl ?_
  refine AOps.done ?_
  refine AWp.cond rfl (fun e => ?_) (fun e => ?_)
  · replace h := h.1 e
    refine AWp.seq ?_
    refine AWp.seq ?_
    refine AWp.regionN (fun _ => false) rfl ?_
    refine pS rfl rfl rfl ?_
    refine AOps.i (j := ((a1.length : Nat) : Int)) tabOk rfl rfl rfl (by first | (rw [List.length_map]; done) | rfl) ?_
    refine pS rfl rfl rfl ?_
    refine AOps.i (j := ((b2.length : Nat) : Int)) tabOk rfl rfl rfl (by first | (rw [List.length_map]; done) | rfl) ?_
    refine pB rfl rfl rfl ?_
    refine AOps.done ?_
    refine AWp.cond rfl (fun e => ?_) (fun e => ?_)
    · replace h := h.1 e
      refine AWp.seq ?_
      refine AWp.regionN (fun _ => false) rfl ?_
      refine pI rfl rfl rfl ?_
      refine AOps.done ?_
      refine AWp.ret ?_
      subst h
      exact ⟨_, rfl, rfl⟩
    · replace h := h.2 e
      refine AWp.skip ?_
      refine AWp.seq ?_
      refine AWp.regionN (fun _ => false) rfl ?_
      refine pI rfl rfl rfl ?_
      refine AOps.done ?_
      refine AWp.ret ?_
      subst h
      exact ⟨_, rfl, rfl⟩
  · replace h := h.2 e
    refine AWp.skip ?_
    refine AWp.seq ?_
    refine AWp.seq ?_
    refine AWp.regionN (fun _ => false) rfl ?_
    refine pS rfl rfl rfl ?_
    refine AOps.i (j := ((a1.length : Nat) : Int)) tabOk rfl rfl rfl (by first | (rw [List.length_map]; done) | rfl) ?_
    obtain ⟨x10, ex10, h⟩ := h.get
    refine AOps.i tabOk rfl rfl rfl ex10 ?_
    refine pI rfl rfl rfl ?_
    refine AOps.done ?_
    refine AWp.block ?_
    obtain ⟨I121, x122, hz123, hr124⟩ := h
    refine AWp.loop (I := fun p : Int => mkSt [(0, .dat (.sl 140 1 (List.map (eInt .u32) a1))), (1, .dat (.sl 140 1 (List.map (eInt .u32) b2))), (5, .dat (.v (.int .i64 p)))] []) (Inv := fun p => I121 p) (μ := fun p => x122 p) (x0 := x10) hz123 (Sub.list (fun i => i) rfl rfl ⟨rfl, rfl, rfl, trivial⟩ trivial) (fun p hp => ?_)
    have h := hr124 p hp
    revert h; clear hp; generalize p = i94; intro h
    refine AWp.seq ?_
    refine AWp.seq ?_
    refine AWp.regionN (fun _ => false) rfl ?_
    refine pI rfl rfl rfl ?_
    refine pB rfl rfl rfl ?_
    refine AOps.done ?_
    refine AWp.cond rfl (fun e => ?_) (fun e => ?_)
    · replace h := h.1 e
      refine AWp.skip ?_
      refine AWp.seq ?_
      refine AWp.block ?_
      refine AWp.seq ?_
      refine AWp.seq ?_
      refine AWp.regionD (fun _ => false) mixed (by decide +kernel) rfl ?_
      refine pS rfl rfl rfl ?_
      refine pI rfl rfl rfl ?_
      obtain ⟨hi108, x109, hx110, h⟩ := h
      refine AOps.idx tabOk (z := .v (.int .u32 x109)) rfl rfl rfl rfl rfl rfl rfl rfl hi108 (map_get hx110) ?_
      refine pI rfl rfl rfl ?_
      refine pS rfl rfl rfl ?_
      refine pI rfl rfl rfl ?_
      obtain ⟨hi111, x112, hx113, h⟩ := h
      refine AOps.idx tabOk (z := .v (.int .u32 x112)) rfl rfl rfl rfl rfl rfl rfl rfl hi111 (map_get hx113) ?_
      refine pI rfl rfl rfl ?_
      refine pB rfl rfl rfl ?_
      refine AOps.done ?_
      refine AWp.cond rfl (fun e => ?_) (fun e => ?_)
      · replace h := h.1 e
        refine AWp.seq ?_
        refine AWp.regionN (fun _ => false) rfl ?_
        refine pI rfl rfl rfl ?_
        refine AOps.done ?_
        refine AWp.ret ?_
        subst h
        exact ⟨_, rfl, rfl⟩
      · replace h := h.2 e
        refine AWp.skip ?_
        refine AWp.seq ?_
        refine AWp.regionD (fun _ => false) mixed (by decide +kernel) rfl ?_
        refine pS rfl rfl rfl ?_
        refine pI rfl rfl rfl ?_
        obtain ⟨hi114, x115, hx116, h⟩ := h
        refine AOps.idx tabOk (z := .v (.int .u32 x115)) rfl rfl rfl rfl rfl rfl rfl rfl hi114 (map_get hx116) ?_
        refine pI rfl rfl rfl ?_
        refine pS rfl rfl rfl ?_
        refine pI rfl rfl rfl ?_
        obtain ⟨hi117, x118, hx119, h⟩ := h
        refine AOps.idx tabOk (z := .v (.int .u32 x118)) rfl rfl rfl rfl rfl rfl rfl rfl hi117 (map_get hx119) ?_
        refine pI rfl rfl rfl ?_
        refine pB rfl rfl rfl ?_
        refine AOps.done ?_
        refine AWp.cond rfl (fun e => ?_) (fun e => ?_)
        · replace h := h.1 e
          refine AWp.seq ?_
          refine AWp.regionN (fun _ => false) rfl ?_
          refine pI rfl rfl rfl ?_
          refine AOps.done ?_
          refine AWp.ret ?_
          subst h
          exact ⟨_, rfl, rfl⟩
        · replace h := h.2 e
          refine AWp.skip ?_
          refine AWp.regionN (fun _ => false) rfl ?_
          refine pI rfl rfl rfl ?_
          obtain ⟨x120, ex120, h⟩ := h.get
          refine AOps.i tabOk rfl rfl rfl ex120 ?_
          refine pI rfl rfl rfl ?_
          refine AOps.done ?_
          exact ⟨x120, h.1, h.2, (Sub.list (fun i => i) rfl rfl ⟨rfl, rfl, rfl, trivial⟩ trivial)⟩
    · replace h := h.2 e
      refine AWp.exit ?_
      refine AWp.seq ?_
      refine AWp.regionN (fun _ => false) rfl ?_
      refine pI rfl rfl rfl ?_
      refine AOps.done ?_
      refine AWp.ret ?_
      subst h
      exact ⟨_, rfl, rfl⟩
def W_ref11_common (a1 : List Int) (b2 : List Int) (Q : List Int → Prop) : Prop :=
  Loop2 a1 b2 (fun (a23 : List Int) (b24 : List Int) next25 =>
    Br (decide (((b24.length : Nat) : Int) > (0 : Int))) (
      Call (Ev_ref11_rest a23 b24) fun x27 =>
      next25 b24 x27) (
      Q a23))
theorem walk_ref11_common {a1 : List Int} {b2 : List Int} {r : List Int} (h : W_ref11_common a1 b2 (fun r' => r' = r)) : Ev_ref11_common a1 b2 r := by
  unfold W_ref11_common at h
  refine AFn.intro' (L := [(0, .dat (.sl 140 1 (List.map (eInt .u32) a1))), (1, .dat (.sl 140 1 (List.map (eInt .u32) b2)))]) tabOk Tryz.func156 rfl rfl Tryz.ntmps156 rfl rfl rfl ?_
  refine AWp.seq ?_
  refine AWp.regionN (fun _ => false) rfl ?_
  refine pS rfl rfl rfl ?_
  refine AOps.done ?_
  refine AWp.seq ?_
  refine AWp.block ?_
  obtain ⟨I29, x30, hz31, hr32⟩ := h
  refine AWp.loop (I := fun p : (List Int) × (List Int) => mkSt [(0, .dat (.sl 140 1 (List.map (eInt .u32) p.1))), (1, .dat (.sl 140 1 (List.map (eInt .u32) p.2)))] []) (Inv := fun p => I29 p.1 p.2) (μ := fun p => x30 p.1 p.2) (x0 := ⟨a1, b2⟩) hz31 (Sub.list (fun i => i) rfl rfl ⟨rfl, rfl, trivial⟩ trivial) (fun p hp => ?_)
  obtain ⟨a23, b24⟩ := p
  have h := hr32 a23 b24 hp
  refine AWp.seq ?_
  refine AWp.seq ?_
  refine AWp.regionN (fun _ => false) rfl ?_
  refine pS rfl rfl rfl ?_
  refine AOps.i (j := ((b24.length : Nat) : Int)) tabOk rfl rfl rfl (by first | (rw [List.length_map]; done) | rfl) ?_
  refine pB rfl rfl rfl ?_
  refine AOps.done ?_
  refine AWp.cond rfl (fun e => ?_) (fun e => ?_)
  · replace h := h.1 e
    refine AWp.skip ?_
    refine AWp.block ?_
    refine AWp.regionN (fun _ => false) rfl ?_
    refine pS rfl rfl rfl ?_
    refine pS rfl rfl rfl ?_
    refine pS rfl rfl rfl ?_
    obtain ⟨x27, hc28, h⟩ := h
    refine AOps.call hc28 rfl rfl rfl ⟨.inl rfl, .inl rfl, trivial⟩ ?_
    refine pS rfl rfl rfl ?_
    refine pS rfl rfl rfl ?_
    refine AOps.done ?_
    exact ⟨⟨b24, x27⟩, h.1, h.2, (Sub.list (fun i => i) rfl rfl ⟨rfl, rfl, trivial⟩ trivial)⟩
  · replace h := h.2 e
    refine AWp.exit ?_
    refine AWp.seq ?_
    refine AWp.regionN (fun _ => false) rfl ?_
    refine pS rfl rfl rfl ?_
    refine pS rfl rfl rfl ?_
    refine AOps.done ?_
    refine AWp.ret ?_
    subst h
    exact ⟨_, rfl, rfl⟩
def W_ref11_size (n1 : Int) (Q : List Int → Prop) : Prop :=
  Br (decide (n1 < (0 : Int))) (
    Let (IntKind.u64.wrap n1) fun x6 =>
    Let (IntKind.u64.wrap ((0 : Int) - x6)) fun x7 =>
    Call (Ev_ref01_Of x7) fun x8 =>
    Q x8) (
    Let (IntKind.u64.wrap n1) fun x10 =>
    Call (Ev_ref01_Of x10) fun x11 =>
    Q x11)
theorem walk_ref11_size {n1 : Int} {r : List Int} (h : W_ref11_size n1 (fun r' => r' = r)) : Ev_ref11_size n1 r := by
  unfold W_ref11_size at h
  refine AFn.intro' (L := [(0, .dat (.v (.int .i64 n1)))]) tabOk Tryz.func157 rfl rfl Tryz.ntmps157 rfl rfl rfl ?_
  refine AWp.seq ?_
  refine AWp.regionN (fun _ => false) rfl ?_
  refine pS rfl rfl rfl ?_
  refine AOps.done ?_
  refine AWp.seq ?_
  refine AWp.seq ?_
  refine AWp.regionN (fun _ => false) rfl ?_
  refine pI rfl rfl rfl ?_
  refine pB rfl rfl rfl ?_
  refine AOps.done ?_
  refine AWp.cond rfl (fun e => ?_) (fun e => ?_)
  · replace h := h.1 e
    refine AWp.seq ?_
    refine AWp.regionN (fun _ => false) rfl ?_
    refine pI rfl rfl rfl ?_
    obtain ⟨x6, ex6, h⟩ := h.get
    refine AOps.i tabOk rfl rfl rfl ex6 ?_
    obtain ⟨x7, ex7, h⟩ := h.get
    refine AOps.i tabOk rfl rfl rfl ex7 ?_
    obtain ⟨x8, hc9, h⟩ := h
    refine AOps.call hc9 rfl rfl rfl ⟨.inl rfl, trivial⟩ ?_
    refine pS rfl rfl rfl ?_
    refine AOps.done ?_
    refine AWp.ret ?_
    subst h
    exact ⟨_, rfl, rfl⟩
  · replace h := h.2 e
    refine AWp.skip ?_
    refine AWp.seq ?_
    refine AWp.regionN (fun _ => false) rfl ?_
    refine pI rfl rfl rfl ?_
    obtain ⟨x10, ex10, h⟩ := h.get
    refine AOps.i tabOk rfl rfl rfl ex10 ?_
    obtain ⟨x11, hc12, h⟩ := h
    refine AOps.call hc12 rfl rfl rfl ⟨.inl rfl, trivial⟩ ?_
    refine pS rfl rfl rfl ?_
    refine AOps.done ?_
    refine AWp.ret ?_
    subst h
    exact ⟨_, rfl, rfl⟩
def W_ref11_one (Q : List Int → Prop) : Prop :=
  Call (Ev_ref01_Of (1 : Int)) fun x1 =>
  Q x1
theorem walk_ref11_one {r : List Int} (h : W_ref11_one (fun r' => r' = r)) : Ev_ref11_one r := by
  unfold W_ref11_one at h
  refine AFn.intro' (L := []) tabOk Tryz.func124 rfl rfl Tryz.ntmps124 rfl rfl rfl ?_
  refine AWp.seq ?_
  refine AWp.regionN (fun _ => false) rfl ?_
  refine pS rfl rfl rfl ?_
  refine AOps.done ?_
  refine AWp.seq ?_
  refine AWp.regionN (fun _ => false) rfl ?_
  obtain ⟨x1, hc2, h⟩ := h
  refine AOps.call hc2 rfl rfl rfl ⟨.inl rfl, trivial⟩ ?_
  refine pS rfl rfl rfl ?_
  refine AOps.done ?_
  refine AWp.ret ?_
  subst h
  exact ⟨_, rfl, rfl⟩
def W_ref11_rest (a1 : List Int) (b2 : List Int) (Q : List Int → Prop) : Prop :=
  Call (Ev_ref01_Bits a1) fun x3 =>
  Call (Ev_ref01_Bits b2) fun x5 =>
  Let (IntKind.i64.wrap (x3 - x5)) fun x7 =>
  Loop2 a1 x7 (fun (a61 : List Int) (k62 : Int) next63 =>
    Br (decide (k62 ≥ (0 : Int))) (
      Call (Ev_ref01_Left b2 k62) fun x64 =>
      Call (Ev_ref01_Cmp x64 a61) fun x66 =>
      Join1 (fun j71 =>
        Br (decide (x66 ≤ (0 : Int))) (
          Call (Ev_ref01_Less a61 x64) fun x72 =>
          j71 x72) (
          j71 a61)
      ) (fun (a70 : List Int) =>
        Let (IntKind.i64.wrap (k62 - (1 : Int))) fun x74 =>
        next63 a70 x74)) (
      Q a61))
theorem walk_ref11_rest {a1 : List Int} {b2 : List Int} {r : List Int} (h : W_ref11_rest a1 b2 (fun r' => r' = r)) : Ev_ref11_rest a1 b2 r := by
  unfold W_ref11_rest at h
  refine AFn.intro' (L := [(0, .dat (.sl 140 1 (List.map (eInt .u32) a1))), (1, .dat (.sl 140 1 (List.map (eInt .u32) b2)))]) tabOk Tryz.func203 rfl rfl Tryz.ntmps203 rfl rfl rfl ?_
  refine AWp.seq ?_
  refine AWp.regionN (fun _ => false) rfl ?_
  refine pS rfl rfl rfl ?_
  refine AOps.done ?_
  refine AWp.seq ?_
  refine AWp.regionN (fun _ => false) rfl ?_
  refine pS rfl rfl rfl ?_
  obtain ⟨x3, hc4, h⟩ := h
  refine AOps.call hc4 rfl rfl rfl ⟨.inl rfl, trivial⟩ ?_
  refine pS rfl rfl rfl ?_
  obtain ⟨x5, hc6, h⟩ := h
  refine AOps.call hc6 rfl rfl rfl ⟨.inl rfl, trivial⟩ ?_
  obtain ⟨x7, ex7, h⟩ := h.get
  refine AOps.i tabOk rfl rfl rfl ex7 ?_
  refine pI rfl rfl rfl ?_
  refine AOps.done ?_
  refine AWp.seq ?_
  refine AWp.block ?_
  obtain ⟨I78, x79, hz80, hr81⟩ := h
  refine AWp.loop (I := fun p : (List Int) × Int => mkSt [(0, .dat (.sl 140 1 (List.map (eInt .u32) p.1))), (1, .dat (.sl 140 1 (List.map (eInt .u32) b2))), (5, .dat (.v (.int .i64 p.2)))] []) (Inv := fun p => I78 p.1 p.2) (μ := fun p => x79 p.1 p.2) (x0 := ⟨a1, x7⟩) hz80 (Sub.list (fun i => i) rfl rfl ⟨rfl, rfl, rfl, trivial⟩ trivial) (fun p hp => ?_)
  obtain ⟨a61, k62⟩ := p
  have h := hr81 a61 k62 hp
  refine AWp.seq ?_
  refine AWp.seq ?_
  refine AWp.regionN (fun _ => false) rfl ?_
  refine pI rfl rfl rfl ?_
  refine pB rfl rfl rfl ?_
  refine AOps.done ?_
  refine AWp.cond rfl (fun e => ?_) (fun e => ?_)
  · replace h := h.1 e
    refine AWp.skip ?_
    refine AWp.block ?_
    refine AWp.seq ?_
    refine AWp.regionN (fun _ => false) rfl ?_
    refine pS rfl rfl rfl ?_
    refine pI rfl rfl rfl ?_
    obtain ⟨x64, hc65, h⟩ := h
    refine AOps.call hc65 rfl rfl rfl ⟨.inl rfl, .inl rfl, trivial⟩ ?_
    refine pS rfl rfl rfl ?_
    refine AOps.done ?_
    refine AWp.seq ?_
    refine AWp.seq ?_
    refine AWp.regionN (fun _ => false) rfl ?_
    refine pS rfl rfl rfl ?_
    refine pS rfl rfl rfl ?_
    obtain ⟨x66, hc67, h⟩ := h
    refine AOps.call hc67 rfl rfl rfl ⟨.inl rfl, .inl rfl, trivial⟩ ?_
    refine pB rfl rfl rfl ?_
    refine AOps.done ?_
    obtain ⟨J75, hj76, hk77⟩ := h
    refine AWp.cutK (I := fun p : (List Int) => mkSt [(0, .dat (.sl 140 1 (List.map (eInt .u32) p))), (1, .dat (.sl 140 1 (List.map (eInt .u32) b2))), (5, .dat (.v (.int .i64 k62)))] []) (Inv := fun p : (List Int) => J75 p) ?_ (fun p hp => ?_)
    · have h := hj76
      refine AWp.cond rfl (fun e => ?_) (fun e => ?_)
      · replace h := h.1 e
        refine AWp.regionN (fun _ => false) rfl ?_
        refine pS rfl rfl rfl ?_
        refine pS rfl rfl rfl ?_
        obtain ⟨x72, hc73, h⟩ := h
        refine AOps.call hc73 rfl rfl rfl ⟨.inl rfl, .inl rfl, trivial⟩ ?_
        refine pS rfl rfl rfl ?_
        refine AOps.done ?_
        exact ⟨x72, h, (Sub.list (fun i => i) rfl rfl ⟨rfl, rfl, rfl, trivial⟩ trivial)⟩
      · replace h := h.2 e
        refine AWp.skip ?_
        exact ⟨a61, h, (Sub.list (fun i => i) rfl rfl ⟨rfl, rfl, rfl, trivial⟩ trivial)⟩
    · have h := hk77 p hp
      revert h; clear hp; generalize p = a70; intro h
      refine AWp.regionN (fun _ => false) rfl ?_
      refine pI rfl rfl rfl ?_
      obtain ⟨x74, ex74, h⟩ := h.get
      refine AOps.i tabOk rfl rfl rfl ex74 ?_
      refine pI rfl rfl rfl ?_
      refine AOps.done ?_
      exact ⟨⟨a70, x74⟩, h.1, h.2, (Sub.list (fun i => i) rfl rfl ⟨rfl, rfl, rfl, trivial⟩ trivial)⟩
  · replace h := h.2 e
    refine AWp.exit ?_
    refine AWp.seq ?_
    refine AWp.regionN (fun _ => false) rfl ?_
    refine pS rfl rfl rfl ?_
    refine pS rfl rfl rfl ?_
    refine AOps.done ?_
    refine AWp.ret ?_
    subst h
    exact ⟨_, rfl, rfl⟩
def W_ref01_Of (n1 : Int) (Q : List Int → Prop) : Prop :=
  Let (IntKind.u32.wrap n1) fun x2 =>
  Let (Int.fdiv n1 (2 ^ 32)) fun x3 =>
  Let (IntKind.u32.wrap x3) fun x4 =>
  Call (Ev_ref01_trim ([x2, x4])) fun x5 =>
  Q x5
theorem walk_ref01_Of {n1 : Int} {r : List Int} (h : W_ref01_Of n1 (fun r' => r' = r)) : Ev_ref01_Of n1 r := by
  unfold W_ref01_Of at h
  refine AFn.intro' (L := [(0, .dat (.v (.int .u64 n1)))]) tabOk Tryz.func120 rfl rfl Tryz.ntmps120 rfl rfl rfl ?_
  refine AWp.seq ?_
  refine AWp.regionN (fun _ => false) rfl ?_
  refine pS rfl rfl rfl ?_
  refine AOps.done ?_
  refine AWp.seq ?_
  refine AWp.regionN (fun _ => false) rfl ?_
  refine pI rfl rfl rfl ?_
  obtain ⟨x2, ex2, h⟩ := h.get
  refine AOps.i tabOk rfl rfl rfl ex2 ?_
  refine pI rfl rfl rfl ?_
  obtain ⟨x3, ex3, h⟩ := h.get
  refine AOps.q rfl rfl rfl rfl rfl (rbin_shr (by decide)) ex3 ?_
  obtain ⟨x4, ex4, h⟩ := h.get
  refine AOps.i tabOk rfl rfl rfl ex4 ?_
  refine AOps.lit tabOk (ys := [.v (.int .u32 x2), .v (.int .u32 x4)]) rfl rfl rfl rfl rfl rfl ?_
  obtain ⟨x5, hc6, h⟩ := h
  refine AOps.call hc6 rfl rfl rfl ⟨.inl rfl, trivial⟩ ?_
  refine pS rfl rfl rfl ?_
  refine AOps.done ?_
  refine AWp.ret ?_
  subst h
  exact ⟨_, rfl, rfl⟩
def W_ref01_Less (a1 : List Int) (b2 : List Int) (Q : List Int → Prop) : Prop :=
  Loop3 ([] : List Int) (0 : Int) (0 : Int) (fun (out209 : List Int) (borrow210 : Int) (i211 : Int) next212 =>
    Br (decide (i211 < ((a1.length : Nat) : Int))) (
      At a1 i211 fun x246 =>
      Let (IntKind.i64.wrap x246) fun x248 =>
      Let (IntKind.i64.wrap (x248 - borrow210)) fun x249 =>
      Join1 (fun j257 =>
        Br (decide (i211 < ((b2.length : Nat) : Int))) (
          At b2 i211 fun x259 =>
          Let (IntKind.i64.wrap x259) fun x261 =>
          Let (IntKind.i64.wrap (x249 - x261)) fun x262 =>
          j257 x262) (
          j257 x249)
      ) (fun (n256 : Int) =>
        Join2 (fun j266 =>
          Br (decide (n256 < (0 : Int))) (
            Let (IntKind.i64.wrap (n256 + (4294967296 : Int))) fun x267 =>
            j266 (1 : Int) x267) (
            j266 (0 : Int) n256)
        ) (fun (borrow264 : Int) (n265 : Int) =>
          Let (IntKind.u32.wrap n265) fun x268 =>
          App 4 out209 ([x268]) fun x269 =>
          Let (IntKind.i64.wrap (i211 + (1 : Int))) fun x270 =>
          next212 x269 borrow264 x270))) (
      Call (Ev_ref01_trim out209) fun x277 =>
      Q x277))
theorem walk_ref01_Less {a1 : List Int} {b2 : List Int} {r : List Int} (h : W_ref01_Less a1 b2 (fun r' => r' = r)) : Ev_ref01_Less a1 b2 r := by
  unfold W_ref01_Less at h
  refine AFn.intro' (L := [(0, .dat (.sl 140 1 (List.map (eInt .u32) a1))), (1, .dat (.sl 140 1 (List.map (eInt .u32) b2)))]) tabOk Tryz.func217 rfl rfl Tryz.ntmps217 rfl rfl rfl ?_
  refine AWp.seq ?_
  refine AWp.regionN (fun _ => false) rfl ?_
  refine pS rfl rfl rfl ?_
  refine AOps.done ?_
  refine AWp.seq ?_
  refine AWp.regionN (fun _ => false) rfl ?_
  refine AOps.litown tabOk (ys := []) rfl rfl rfl rfl rfl rfl rfl rfl ?_
  refine pO rfl rfl rfl ?_
  refine AOps.done ?_
  refine AWp.seq ?_
  refine AWp.regionN (fun _ => false) rfl ?_
  refine pI rfl rfl rfl ?_
  refine AOps.done ?_
  refine AWp.seq ?_
  refine AWp.seq ?_
  refine AWp.regionN (fun _ => false) rfl ?_
  refine pI rfl rfl rfl ?_
  refine AOps.done ?_
  refine AWp.block ?_
  obtain ⟨I279, x280, hz281, hr282⟩ := h
  refine AWp.loop (I := fun p : (List Int) × Int × Int => mkSt [(0, .dat (.sl 140 1 (List.map (eInt .u32) a1))), (1, .dat (.sl 140 1 (List.map (eInt .u32) b2))), (5, .oref 1005), (6, .dat (.v (.int .i64 p.2.1))), (7, .dat (.v (.int .i64 p.2.2)))] [(1005, .row 140 1 (List.map (eInt .u32) p.1))]) (Inv := fun p => I279 p.1 p.2.1 p.2.2) (μ := fun p => x280 p.1 p.2.1 p.2.2) (x0 := ⟨([] : List Int), (0 : Int), (0 : Int)⟩) hz281 (Sub.list (fun i => (if Nat.beq i 1005 then 9 else i)) rfl rfl ⟨rfl, rfl, rfl, rfl, rfl, trivial⟩ ⟨rfl, trivial⟩) (fun p hp => ?_)
  obtain ⟨out209, borrow210, i211⟩ := p
  have h := hr282 out209 borrow210 i211 hp
  refine AWp.seq ?_
  refine AWp.seq ?_
  refine AWp.regionN (fun _ => false) rfl ?_
  refine pI rfl rfl rfl ?_
  refine pS rfl rfl rfl ?_
  refine AOps.i (j := ((a1.length : Nat) : Int)) tabOk rfl rfl rfl (by first | (rw [List.length_map]; done) | rfl) ?_
  refine pB rfl rfl rfl ?_
  refine AOps.done ?_
  refine AWp.cond rfl (fun e => ?_) (fun e => ?_)
  · replace h := h.1 e
    refine AWp.skip ?_
    refine AWp.seq ?_
    refine AWp.block ?_
    refine AWp.seq ?_
    refine AWp.regionN (fun _ => false) rfl ?_
    refine pS rfl rfl rfl ?_
    refine pI rfl rfl rfl ?_
    obtain ⟨hi245, x246, hx247, h⟩ := h
    refine AOps.idx tabOk (z := .v (.int .u32 x246)) rfl rfl rfl rfl rfl rfl rfl rfl hi245 (map_get hx247) ?_
    refine pI rfl rfl rfl ?_
    obtain ⟨x248, ex248, h⟩ := h.get
    refine AOps.i tabOk rfl rfl rfl ex248 ?_
    refine pI rfl rfl rfl ?_
    obtain ⟨x249, ex249, h⟩ := h.get
    refine AOps.i tabOk rfl rfl rfl ex249 ?_
    refine pI rfl rfl rfl ?_
    refine AOps.done ?_
    refine AWp.seq ?_
    refine AWp.seq ?_
    refine AWp.regionN (fun _ => false) rfl ?_
    refine pI rfl rfl rfl ?_
    refine pS rfl rfl rfl ?_
    refine AOps.i (j := ((b2.length : Nat) : Int)) tabOk rfl rfl rfl (by first | (rw [List.length_map]; done) | rfl) ?_
    refine pB rfl rfl rfl ?_
    refine AOps.done ?_
    obtain ⟨J274, hj275, hk276⟩ := h
    refine AWp.cutK (I := fun p : Int => mkSt [(0, .dat (.sl 140 1 (List.map (eInt .u32) a1))), (1, .dat (.sl 140 1 (List.map (eInt .u32) b2))), (5, .oref 1005), (7, .dat (.v (.int .i64 i211))), (8, .dat (.v (.int .i64 p)))] [(1005, .row 140 1 (List.map (eInt .u32) out209))]) (Inv := fun p : Int => J274 p) ?_ (fun p hp => ?_)
    · have h := hj275
      refine AWp.cond rfl (fun e => ?_) (fun e => ?_)
      · replace h := h.1 e
        refine AWp.regionN (fun _ => false) rfl ?_
        refine pI rfl rfl rfl ?_
        refine pS rfl rfl rfl ?_
        refine pI rfl rfl rfl ?_
        obtain ⟨hi258, x259, hx260, h⟩ := h
        refine AOps.idx tabOk (z := .v (.int .u32 x259)) rfl rfl rfl rfl rfl rfl rfl rfl hi258 (map_get hx260) ?_
        refine pI rfl rfl rfl ?_
        obtain ⟨x261, ex261, h⟩ := h.get
        refine AOps.i tabOk rfl rfl rfl ex261 ?_
        obtain ⟨x262, ex262, h⟩ := h.get
        refine AOps.i tabOk rfl rfl rfl ex262 ?_
        refine pI rfl rfl rfl ?_
        refine AOps.done ?_
        exact ⟨x262, h, (Sub.list (fun i => i) rfl rfl ⟨rfl, rfl, rfl, rfl, rfl, trivial⟩ ⟨rfl, trivial⟩)⟩
      · replace h := h.2 e
        refine AWp.skip ?_
        exact ⟨x249, h, (Sub.list (fun i => i) rfl rfl ⟨rfl, rfl, rfl, rfl, rfl, trivial⟩ ⟨rfl, trivial⟩)⟩
    · have h := hk276 p hp
      revert h; clear hp; generalize p = n256; intro h
      refine AWp.seq ?_
      refine AWp.regionN (fun _ => false) rfl ?_
      refine pI rfl rfl rfl ?_
      refine AOps.done ?_
      refine AWp.seq ?_
      refine AWp.seq ?_
      refine AWp.regionN (fun _ => false) rfl ?_
      refine pI rfl rfl rfl ?_
      refine pB rfl rfl rfl ?_
      refine AOps.done ?_
      obtain ⟨J271, hj272, hk273⟩ := h
      refine AWp.cutK (I := fun p : Int × Int => mkSt [(0, .dat (.sl 140 1 (List.map (eInt .u32) a1))), (1, .dat (.sl 140 1 (List.map (eInt .u32) b2))), (5, .oref 1005), (6, .dat (.v (.int .i64 p.1))), (7, .dat (.v (.int .i64 i211))), (8, .dat (.v (.int .i64 p.2)))] [(1005, .row 140 1 (List.map (eInt .u32) out209))]) (Inv := fun p : Int × Int => J271 p.1 p.2) ?_ (fun p hp => ?_)
      · have h := hj272
        refine AWp.cond rfl (fun e => ?_) (fun e => ?_)
        · replace h := h.1 e
          refine AWp.seq ?_
          refine AWp.regionN (fun _ => false) rfl ?_
          refine pI rfl rfl rfl ?_
          obtain ⟨x267, ex267, h⟩ := h.get
          refine AOps.i tabOk rfl rfl rfl ex267 ?_
          refine pI rfl rfl rfl ?_
          refine AOps.done ?_
          refine AWp.regionN (fun _ => false) rfl ?_
          refine pI rfl rfl rfl ?_
          refine AOps.done ?_
          exact ⟨⟨(1 : Int), x267⟩, h, (Sub.list (fun i => i) rfl rfl ⟨rfl, rfl, rfl, rfl, rfl, rfl, trivial⟩ ⟨rfl, trivial⟩)⟩
        · replace h := h.2 e
          refine AWp.skip ?_
          exact ⟨⟨(0 : Int), n256⟩, h, (Sub.list (fun i => i) rfl rfl ⟨rfl, rfl, rfl, rfl, rfl, rfl, trivial⟩ ⟨rfl, trivial⟩)⟩
      · obtain ⟨borrow264, n265⟩ := p
        have h := hk273 borrow264 n265 hp
        refine AWp.regionN (fun o => writes o) rfl ?_
        refine pO rfl rfl rfl ?_
        refine pI rfl rfl rfl ?_
        obtain ⟨x268, ex268, h⟩ := h.get
        refine AOps.i tabOk rfl rfl rfl ex268 ?_
        refine AOps.lit tabOk (ys := [.v (.int .u32 x268)]) rfl rfl rfl rfl rfl rfl ?_
        obtain ⟨h1, h2, x269, ex269, h⟩ := h.get
        refine AOps.append tabOk rfl rfl rfl rfl rfl rfl rfl rfl rfl rfl rfl (.inl ⟨_, rfl⟩) (app1 h1) (app2 h2) (app3 ex269) ?_
        refine pO rfl rfl rfl ?_
        refine AOps.done ?_
        refine AWp.regionN (fun _ => false) rfl ?_
        refine pI rfl rfl rfl ?_
        obtain ⟨x270, ex270, h⟩ := h.get
        refine AOps.i tabOk rfl rfl rfl ex270 ?_
        refine pI rfl rfl rfl ?_
        refine AOps.done ?_
        exact ⟨⟨x269, borrow264, x270⟩, h.1, h.2, (Sub.list (fun i => (if Nat.beq i 1005 then 42 else i)) rfl rfl ⟨rfl, rfl, rfl, rfl, rfl, trivial⟩ ⟨rfl, trivial⟩)⟩
  · replace h := h.2 e
    refine AWp.exit ?_
    refine AWp.seq ?_
    refine AWp.freeze 5 1005 rfl rfl ?_
    refine AWp.regionN (fun _ => false) rfl ?_
    refine pS rfl rfl rfl ?_
    obtain ⟨x277, hc278, h⟩ := h
    refine AOps.call hc278 rfl rfl rfl ⟨.inl rfl, trivial⟩ ?_
    refine pS rfl rfl rfl ?_
    refine AOps.done ?_
    refine AWp.ret ?_
    subst h
    exact ⟨_, rfl, rfl⟩
def W_ref01_Bits (a1 : List Int) (Q : Int → Prop) : Prop :=
  Br (((a1.length : Nat) : Int) == (0 : Int)) (Q (0 : Int)) (
    Let (IntKind.i64.wrap (((a1.length : Nat) : Int) - (1 : Int))) fun x4 =>
    Let (IntKind.i64.wrap ((32 : Int) * x4)) fun x5 =>
    Let (IntKind.i64.wrap (((a1.length : Nat) : Int) - (1 : Int))) fun x7 =>
    At a1 x7 fun x9 =>
    Loop2 x5 x9 (fun (n31 : Int) (d32 : Int) next33 =>
      Br (decide (d32 > (0 : Int))) (
        Let (IntKind.i64.wrap (n31 + (1 : Int))) fun x35 =>
        Let (Int.fdiv d32 (2 ^ 1)) fun x36 =>
        next33 x35 x36) (
        Q n31)))
theorem walk_ref01_Bits {a1 : List Int} {r : Int} (h : W_ref01_Bits a1 (fun r' => r' = r)) : Ev_ref01_Bits a1 r := by
  unfold W_ref01_Bits at h
  refine AFn.intro' (L := [(0, .dat (.sl 140 1 (List.map (eInt .u32) a1)))]) tabOk Tryz.func215 rfl rfl Tryz.ntmps215 rfl rfl rfl ?_
  refine AWp.seq ?_
  refine AWp.regionN (fun _ => false) rfl ?_
  refine pI rfl rfl rfl ?_
  refine AOps.done ?_
  refine AWp.seq ?_
  refine AWp.seq ?_
  refine AWp.regionN (fun _ => false) rfl ?_
  refine pS rfl rfl rfl ?_
  refine AOps.i (j := ((a1.length : Nat) : Int)) tabOk rfl rfl rfl (by first | (rw [List.length_map]; done) | rfl) ?_
  refine pB rfl rfl rfl ?_
  refine AOps.done ?_
  refine AWp.cond rfl (fun e => ?_) (fun e => ?_)
  · replace h := h.1 e
    refine AWp.seq ?_
    refine AWp.regionN (fun _ => false) rfl ?_
    refine pI rfl rfl rfl ?_
    refine AOps.done ?_
    refine AWp.ret ?_
    subst h
    exact ⟨_, rfl, rfl⟩
  · replace h := h.2 e
    refine AWp.skip ?_
    refine AWp.seq ?_
    refine AWp.regionN (fun _ => false) rfl ?_
    refine pS rfl rfl rfl ?_
    refine AOps.i (j := ((a1.length : Nat) : Int)) tabOk rfl rfl rfl (by first | (rw [List.length_map]; done) | rfl) ?_
    obtain ⟨x4, ex4, h⟩ := h.get
    refine AOps.i tabOk rfl rfl rfl ex4 ?_
    obtain ⟨x5, ex5, h⟩ := h.get
    refine AOps.i tabOk rfl rfl rfl ex5 ?_
    refine pI rfl rfl rfl ?_
    refine AOps.done ?_
    refine AWp.seq ?_
    refine AWp.seq ?_
    refine AWp.regionN (fun _ => false) rfl ?_
    refine pS rfl rfl rfl ?_
    refine pS rfl rfl rfl ?_
    refine AOps.i (j := ((a1.length : Nat) : Int)) tabOk rfl rfl rfl (by first | (rw [List.length_map]; done) | rfl) ?_
    obtain ⟨x7, ex7, h⟩ := h.get
    refine AOps.i tabOk rfl rfl rfl ex7 ?_
    obtain ⟨hi8, x9, hx10, h⟩ := h
    refine AOps.idx tabOk (z := .v (.int .u32 x9)) rfl rfl rfl rfl rfl rfl rfl rfl hi8 (map_get hx10) ?_
    refine pI rfl rfl rfl ?_
    refine pI rfl rfl rfl ?_
    refine AOps.done ?_
    refine AWp.block ?_
    obtain ⟨I37, x38, hz39, hr40⟩ := h
    refine AWp.loop (I := fun p : Int × Int => mkSt [(3, .dat (.v (.int .i64 p.1))), (4, .dat (.v (.int .u32 p.2)))] []) (Inv := fun p => I37 p.1 p.2) (μ := fun p => x38 p.1 p.2) (x0 := ⟨x5, x9⟩) hz39 (Sub.list (fun i => i) rfl rfl ⟨rfl, rfl, trivial⟩ trivial) (fun p hp => ?_)
    obtain ⟨n31, d32⟩ := p
    have h := hr40 n31 d32 hp
    refine AWp.seq ?_
    refine AWp.seq ?_
    refine AWp.regionN (fun _ => false) rfl ?_
    refine pI rfl rfl rfl ?_
    refine pB rfl rfl rfl ?_
    refine AOps.done ?_
    refine AWp.cond rfl (fun e => ?_) (fun e => ?_)
    · replace h := h.1 e
      refine AWp.skip ?_
      refine AWp.seq ?_
      refine AWp.block ?_
      refine AWp.regionN (fun _ => false) rfl ?_
      refine pI rfl rfl rfl ?_
      obtain ⟨x35, ex35, h⟩ := h.get
      refine AOps.i tabOk rfl rfl rfl ex35 ?_
      refine pI rfl rfl rfl ?_
      refine AOps.done ?_
      refine AWp.regionN (fun _ => false) rfl ?_
      refine pI rfl rfl rfl ?_
      obtain ⟨x36, ex36, h⟩ := h.get
      refine AOps.q rfl rfl rfl rfl rfl (rbin_shr (by decide)) ex36 ?_
      refine pI rfl rfl rfl ?_
      refine AOps.done ?_
      exact ⟨⟨x35, x36⟩, h.1, h.2, (Sub.list (fun i => i) rfl rfl ⟨rfl, rfl, trivial⟩ trivial)⟩
    · replace h := h.2 e
      refine AWp.exit ?_
      refine AWp.seq ?_
      refine AWp.regionN (fun _ => false) rfl ?_
      refine pI rfl rfl rfl ?_
      refine pI rfl rfl rfl ?_
      refine AOps.done ?_
      refine AWp.ret ?_
      subst h
      exact ⟨_, rfl, rfl⟩
def W_ref01_Left (a1 : List Int) (n2 : Int) (Q : List Int → Prop) : Prop :=
  Br (((a1.length : Nat) : Int) == (0 : Int)) (Q a1) (
    Let (IntKind.i64.wrap (Int.tdiv n2 (32 : Int))) fun x4 =>
    Mk 4 x4 (0 : Int) fun x5 =>
    Loop3 x5 (0 : Int) (0 : Int) (fun (out90 : List Int) (carry91 : Int) (x92 : Int) next93 =>
      Br (decide (x92 < ((a1.length : Nat) : Int))) (
        At a1 x92 fun x106 =>
        Let (IntKind.u64.wrap x106) fun x108 =>
        Let (Int.tmod n2 (32 : Int)) fun x109 =>
        Let (IntKind.u64.wrap x109) fun x110 =>
        Nn x110 <|
        Let (IntKind.u64.wrap (x108 * 2 ^ (min (Int.toNat x110) 64))) fun x111 =>
        Let (bits .or .u64 carry91 x111) fun x112 =>
        Let (IntKind.u32.wrap x112) fun x113 =>
        App 4 out90 ([x113]) fun x114 =>
        Let (Int.fdiv x112 (2 ^ 32)) fun x115 =>
        Let (IntKind.i64.wrap (x92 + (1 : Int))) fun x116 =>
        next93 x114 x115 x116) (
        Let (IntKind.u32.wrap carry91) fun x117 =>
        App 4 out90 ([x117]) fun x118 =>
        Call (Ev_ref01_trim x118) fun x119 =>
        Q x119)))
theorem walk_ref01_Left {a1 : List Int} {n2 : Int} {r : List Int} (h : W_ref01_Left a1 n2 (fun r' => r' = r)) : Ev_ref01_Left a1 n2 r := by
  unfold W_ref01_Left at h
  refine AFn.intro' (L := [(0, .dat (.sl 140 1 (List.map (eInt .u32) a1))), (1, .dat (.v (.int .i64 n2)))]) tabOk Tryz.func216 rfl rfl Tryz.ntmps216 rfl rfl rfl ?_
  refine AWp.seq ?_
  refine AWp.regionN (fun _ => false) rfl ?_
  refine pS rfl rfl rfl ?_
  refine AOps.done ?_
  refine AWp.seq ?_
  refine AWp.seq ?_
  refine AWp.regionN (fun _ => false) rfl ?_
  refine pS rfl rfl rfl ?_
  refine AOps.i (j := ((a1.length : Nat) : Int)) tabOk rfl rfl rfl (by first | (rw [List.length_map]; done) | rfl) ?_
  refine pB rfl rfl rfl ?_
  refine AOps.done ?_
  refine AWp.cond rfl (fun e => ?_) (fun e => ?_)
  · replace h := h.1 e
    refine AWp.seq ?_
    refine AWp.regionN (fun _ => false) rfl ?_
    refine pS rfl rfl rfl ?_
    refine pS rfl rfl rfl ?_
    refine AOps.done ?_
    refine AWp.ret ?_
    subst h
    exact ⟨_, rfl, rfl⟩
  · replace h := h.2 e
    refine AWp.skip ?_
    refine AWp.seq ?_
    refine AWp.regionN (fun _ => false) rfl ?_
    refine pI rfl rfl rfl ?_
    obtain ⟨x4, ex4, h⟩ := h.get
    refine AOps.q rfl rfl rfl rfl rfl (rbin_quo (by decide)) ex4 ?_
    obtain ⟨h1, h2, h3, x5, ex5, h⟩ := h.get
    refine AOps.makeownE tabOk (e := (eInt .u32)) rfl rfl rfl rfl rfl rfl rfl h1 h2 h3 rfl ex5 ?_
    refine pO rfl rfl rfl ?_
    refine AOps.done ?_
    refine AWp.seq ?_
    refine AWp.regionN (fun _ => false) rfl ?_
    refine pI rfl rfl rfl ?_
    refine AOps.done ?_
    refine AWp.seq ?_
    refine AWp.seq ?_
    refine AWp.regionN (fun _ => false) rfl ?_
    refine pS rfl rfl rfl ?_
    refine AOps.i (j := ((a1.length : Nat) : Int)) tabOk rfl rfl rfl (by first | (rw [List.length_map]; done) | rfl) ?_
    refine pI rfl rfl rfl ?_
    refine AOps.done ?_
    refine AWp.block ?_
    obtain ⟨I121, x122, hz123, hr124⟩ := h
    refine AWp.loop (I := fun p : (List Int) × Int × Int => mkSt [(1, .dat (.v (.int .i64 n2))), (5, .oref 1005), (6, .dat (.v (.int .u64 p.2.1))), (16, .dat (.sl 140 1 (List.map (eInt .u32) a1))), (17, .dat (.v (.int .i64 ((a1.length : Nat) : Int)))), (18, .dat (.v (.int .i64 p.2.2)))] [(1005, .row 140 1 (List.map (eInt .u32) p.1))]) (Inv := fun p => I121 p.1 p.2.1 p.2.2) (μ := fun p => x122 p.1 p.2.1 p.2.2) (x0 := ⟨x5, (0 : Int), (0 : Int)⟩) hz123 (Sub.list (fun i => (if Nat.beq i 1005 then 15 else i)) rfl rfl ⟨rfl, rfl, rfl, rfl, rfl, rfl, trivial⟩ ⟨rfl, trivial⟩) (fun p hp => ?_)
    obtain ⟨out90, carry91, x92⟩ := p
    have h := hr124 out90 carry91 x92 hp
    refine AWp.seq ?_
    refine AWp.regionN (fun _ => false) rfl ?_
    refine pW rfl rfl rfl ?_
    refine AOps.done ?_
    refine AWp.seq ?_
    refine AWp.cond rfl (fun e => ?_) (fun e => ?_)
    · replace h := h.1 e
      refine AWp.skip ?_
      refine AWp.seq ?_
      refine AWp.block ?_
      refine AWp.seq ?_
      refine AWp.regionN (fun _ => false) rfl ?_
      obtain ⟨hi105, x106, hx107, h⟩ := h
      refine AOps.idx tabOk (z := .v (.int .u32 x106)) rfl rfl rfl rfl rfl rfl rfl rfl hi105 (map_get hx107) ?_
      refine pI rfl rfl rfl ?_
      refine pI rfl rfl rfl ?_
      refine AOps.done ?_
      refine AWp.seq ?_
      refine AWp.regionN (fun _ => false) rfl ?_
      refine pI rfl rfl rfl ?_
      refine pI rfl rfl rfl ?_
      obtain ⟨x108, ex108, h⟩ := h.get
      refine AOps.i tabOk rfl rfl rfl ex108 ?_
      refine pI rfl rfl rfl ?_
      obtain ⟨x109, ex109, h⟩ := h.get
      refine AOps.q rfl rfl rfl rfl rfl (rbin_rem (by decide)) ex109 ?_
      obtain ⟨x110, ex110, h⟩ := h.get
      refine AOps.i tabOk rfl rfl rfl ex110 ?_
      obtain ⟨hq, h⟩ := h
      obtain ⟨x111, ex111, h⟩ := h.get
      refine AOps.q rfl rfl rfl rfl rfl (rbin_shl hq) ex111 ?_
      obtain ⟨x112, ex112, h⟩ := h.get
      refine AOps.i tabOk rfl rfl rfl ex112 ?_
      refine pI rfl rfl rfl ?_
      refine AOps.done ?_
      refine AWp.seq ?_
      refine AWp.regionN (fun o => writes o) rfl ?_
      refine pO rfl rfl rfl ?_
      refine pI rfl rfl rfl ?_
      obtain ⟨x113, ex113, h⟩ := h.get
      refine AOps.i tabOk rfl rfl rfl ex113 ?_
      refine AOps.lit tabOk (ys := [.v (.int .u32 x113)]) rfl rfl rfl rfl rfl rfl ?_
      obtain ⟨h1, h2, x114, ex114, h⟩ := h.get
      refine AOps.append tabOk rfl rfl rfl rfl rfl rfl rfl rfl rfl rfl rfl (.inl ⟨_, rfl⟩) (app1 h1) (app2 h2) (app3 ex114) ?_
      refine pO rfl rfl rfl ?_
      refine AOps.done ?_
      refine AWp.regionN (fun _ => false) rfl ?_
      refine pI rfl rfl rfl ?_
      obtain ⟨x115, ex115, h⟩ := h.get
      refine AOps.q rfl rfl rfl rfl rfl (rbin_shr (by decide)) ex115 ?_
      refine pI rfl rfl rfl ?_
      refine AOps.done ?_
      refine AWp.regionN (fun _ => false) rfl ?_
      obtain ⟨x116, ex116, h⟩ := h.get
      refine AOps.i tabOk rfl rfl rfl ex116 ?_
      refine pI rfl rfl rfl ?_
      refine AOps.done ?_
      exact ⟨⟨x114, x115, x116⟩, h.1, h.2, (Sub.list (fun i => (if Nat.beq i 1005 then 34 else i)) rfl rfl ⟨rfl, rfl, rfl, rfl, rfl, rfl, trivial⟩ ⟨rfl, trivial⟩)⟩
    · replace h := h.2 e
      refine AWp.exit ?_
      refine AWp.seq ?_
      refine AWp.regionN (fun o => writes o) rfl ?_
      refine pO rfl rfl rfl ?_
      refine pI rfl rfl rfl ?_
      obtain ⟨x117, ex117, h⟩ := h.get
      refine AOps.i tabOk rfl rfl rfl ex117 ?_
      refine AOps.lit tabOk (ys := [.v (.int .u32 x117)]) rfl rfl rfl rfl rfl rfl ?_
      obtain ⟨h1, h2, x118, ex118, h⟩ := h.get
      refine AOps.append tabOk rfl rfl rfl rfl rfl rfl rfl rfl rfl rfl rfl (.inl ⟨_, rfl⟩) (app1 h1) (app2 h2) (app3 ex118) ?_
      refine pO rfl rfl rfl ?_
      refine AOps.done ?_
      refine AWp.seq ?_
      refine AWp.freeze 5 42 rfl rfl ?_
      refine AWp.regionN (fun _ => false) rfl ?_
      refine pS rfl rfl rfl ?_
      obtain ⟨x119, hc120, h⟩ := h
      refine AOps.call hc120 rfl rfl rfl ⟨.inl rfl, trivial⟩ ?_
      refine pS rfl rfl rfl ?_
      refine AOps.done ?_
      refine AWp.ret ?_
      subst h
      exact ⟨_, rfl, rfl⟩
def W_ref01_trim (a1 : List Int) (Q : List Int → Prop) : Prop :=
  Loop1 a1 (fun (a55 : List Int) next56 =>
    Br (decide (((a55.length : Nat) : Int) > (0 : Int))) (
      Let (IntKind.i64.wrap (((a55.length : Nat) : Int) - (1 : Int))) fun x65 =>
      At a55 x65 fun x67 =>
      Br (x67 == (0 : Int)) (
        Let (IntKind.i64.wrap (((a55.length : Nat) : Int) - (1 : Int))) fun x70 =>
        Sl a55 0 x70 fun x71 =>
        next56 x71) (
        Q a55)) (
      Q a55))
theorem walk_ref01_trim {a1 : List Int} {r : List Int} (h : W_ref01_trim a1 (fun r' => r' = r)) : Ev_ref01_trim a1 r := by
  unfold W_ref01_trim at h
  refine AFn.intro' (L := [(0, .dat (.sl 140 1 (List.map (eInt .u32) a1)))]) tabOk Tryz.func174 rfl rfl Tryz.ntmps174 rfl rfl rfl ?_
  refine AWp.seq ?_
  refine AWp.regionN (fun _ => false) rfl ?_
  refine pS rfl rfl rfl ?_
  refine AOps.done ?_
  refine AWp.seq ?_
  refine AWp.block ?_
  obtain ⟨I72, x73, hz74, hr75⟩ := h
  refine AWp.loop (I := fun p : (List Int) => mkSt [(0, .dat (.sl 140 1 (List.map (eInt .u32) p)))] []) (Inv := fun p => I72 p) (μ := fun p => x73 p) (x0 := a1) hz74 (Sub.list (fun i => i) rfl rfl ⟨rfl, trivial⟩ trivial) (fun p hp => ?_)
  have h := hr75 p hp
  revert h; clear hp; generalize p = a55; intro h
  refine AWp.seq ?_
  refine AWp.seq ?_
  refine AWp.regionN (fun _ => false) rfl ?_
  refine pS rfl rfl rfl ?_
  refine AOps.i (j := ((a55.length : Nat) : Int)) tabOk rfl rfl rfl (by first | (rw [List.length_map]; done) | rfl) ?_
  refine pB rfl rfl rfl ?_
  refine pB rfl rfl rfl ?_
  refine AOps.splitB 6 rfl (fun e => ?_) (fun e => ?_)
  · replace h := h.1 e
    refine pS rfl rfl rfl ?_
    refine pS rfl rfl rfl ?_
    refine AOps.i (j := ((a55.length : Nat) : Int)) tabOk rfl rfl rfl (by first | (rw [List.length_map]; done) | rfl) ?_
    obtain ⟨x65, ex65, h⟩ := h.get
    refine AOps.i tabOk rfl rfl rfl ex65 ?_
    obtain ⟨hi66, x67, hx68, h⟩ := h
    refine AOps.idx tabOk (z := .v (.int .u32 x67)) rfl rfl rfl rfl rfl rfl rfl rfl hi66 (map_get hx68) ?_
    refine pI rfl rfl rfl ?_
    refine pB rfl rfl rfl ?_
    refine pB rfl rfl rfl ?_
    refine AOps.done ?_
    refine AWp.cond rfl (fun e => ?_) (fun e => ?_)
    · replace h := h.1 e
      refine AWp.skip ?_
      refine AWp.block ?_
      refine AWp.regionN (fun _ => false) rfl ?_
      refine pS rfl rfl rfl ?_
      refine pS rfl rfl rfl ?_
      refine AOps.i (j := ((a55.length : Nat) : Int)) tabOk rfl rfl rfl (by first | (rw [List.length_map]; done) | rfl) ?_
      obtain ⟨x70, ex70, h⟩ := h.get
      refine AOps.i tabOk rfl rfl rfl ex70 ?_
      obtain ⟨h1, h2, h3, x71, ex71, h⟩ := h.get
      refine AOps.cutE tabOk rfl rfl rfl rfl rfl rfl rfl ⟨_, rfl⟩ h1 h2 h3 ex71 ?_
      refine pS rfl rfl rfl ?_
      refine AOps.done ?_
      exact ⟨x71, h.1, h.2, (Sub.list (fun i => i) rfl rfl ⟨rfl, trivial⟩ trivial)⟩
    · replace h := h.2 e
      refine AWp.exit ?_
      refine AWp.seq ?_
      refine AWp.regionN (fun _ => false) rfl ?_
      refine pS rfl rfl rfl ?_
      refine pS rfl rfl rfl ?_
      refine AOps.done ?_
      refine AWp.ret ?_
      subst h
      exact ⟨_, rfl, rfl⟩
  · replace h := h.2 e
    refine AOps.off rfl rfl ?_
    refine AOps.off rfl rfl ?_
    refine AOps.off rfl rfl ?_
    refine AOps.off rfl rfl ?_
    refine AOps.off rfl rfl ?_
    refine AOps.off rfl rfl ?_
    refine AOps.off rfl rfl ?_
    refine pB rfl rfl rfl ?_
    refine AOps.done ?_
    refine AWp.condF rfl ?_
    refine AWp.exit ?_
    refine AWp.seq ?_
    refine AWp.regionN (fun _ => false) rfl ?_
    refine pS rfl rfl rfl ?_
    refine pS rfl rfl rfl ?_
    refine AOps.done ?_
    refine AWp.ret ?_
    subst h
    exact ⟨_, rfl, rfl⟩
def W_ref11_Right (a1 : GRat) (Q : Bool → Prop) : Prop :=
  Br (decide (a1.D ≥ (1 : Int))) (
    Br (a1.N != (-9223372036854775808 : Int)) (
      Call (Ev_ref11_size a1.N) fun x12 =>
      Call (Ev_ref11_size a1.D) fun x14 =>
      Call (Ev_ref11_common x12 x14) fun x16 =>
      Call (Ev_ref11_one) fun x18 =>
      Call (Ev_ref01_Cmp x16 x18) fun x20 =>
      Q (x20 == (0 : Int))) (
      Q false)) (
    Q false)
theorem walk_ref11_Right {a1 : GRat} {r : Bool} (h : W_ref11_Right a1 (fun r' => r' = r)) : Ev_ref11_Right a1 r := by
  unfold W_ref11_Right at h
  refine AFn.intro' (L := [(0, .dat (GRat.enc a1))]) tabOk Tryz.func110 rfl rfl Tryz.ntmps110 rfl rfl rfl ?_
  refine AWp.seq ?_
  refine AWp.regionN (fun _ => false) rfl ?_
  refine AOps.box (v := .dat (.st _ _)) rfl rfl rfl rfl rfl rfl ?_
  refine pB rfl rfl rfl ?_
  refine AOps.done ?_
  refine AWp.seq ?_
  refine AWp.regionD (fun _ => false) mixed (by decide +kernel) rfl ?_
  refine pP rfl rfl rfl ?_
  refine pI rfl rfl rfl ?_
  refine pB rfl rfl rfl ?_
  refine pB rfl rfl rfl ?_
  refine AOps.splitB 6 rfl (fun e => ?_) (fun e => ?_)
  · replace h := h.1 e
    refine pP rfl rfl rfl ?_
    refine pI rfl rfl rfl ?_
    refine pB rfl rfl rfl ?_
    refine pB rfl rfl rfl ?_
    refine pB rfl rfl rfl ?_
    refine AOps.splitB 11 rfl (fun e => ?_) (fun e => ?_)
    · replace h := h.1 e
      refine pP rfl rfl rfl ?_
      refine pI rfl rfl rfl ?_
      obtain ⟨x12, hc13, h⟩ := h
      refine AOps.call hc13 rfl rfl rfl ⟨.inl rfl, trivial⟩ ?_
      refine pP rfl rfl rfl ?_
      refine pI rfl rfl rfl ?_
      obtain ⟨x14, hc15, h⟩ := h
      refine AOps.call hc15 rfl rfl rfl ⟨.inl rfl, trivial⟩ ?_
      obtain ⟨x16, hc17, h⟩ := h
      refine AOps.call hc17 rfl rfl rfl ⟨.inl rfl, .inl rfl, trivial⟩ ?_
      obtain ⟨x18, hc19, h⟩ := h
      refine AOps.call hc19 rfl rfl rfl trivial ?_
      obtain ⟨x20, hc21, h⟩ := h
      refine AOps.call hc21 rfl rfl rfl ⟨.inl rfl, .inl rfl, trivial⟩ ?_
      refine pB rfl rfl rfl ?_
      refine pB rfl rfl rfl ?_
      refine pB rfl rfl rfl ?_
      refine AOps.done ?_
      refine AWp.ret ?_
      subst h
      exact ⟨_, rfl, rfl⟩
    · replace h := h.2 e
      refine AOps.off rfl rfl ?_
      refine AOps.off rfl rfl ?_
      refine AOps.off rfl rfl ?_
      refine AOps.off rfl rfl ?_
      refine AOps.off rfl rfl ?_
      refine AOps.off rfl rfl ?_
      refine AOps.off rfl rfl ?_
      refine AOps.off rfl rfl ?_
      refine AOps.off rfl rfl ?_
      refine AOps.off rfl rfl ?_
      refine pB rfl rfl rfl ?_
      refine pB rfl rfl rfl ?_
      refine AOps.done ?_
      refine AWp.ret ?_
      subst h
      exact ⟨_, rfl, rfl⟩
  · replace h := h.2 e
    refine AOps.off rfl rfl ?_
    refine AOps.off rfl rfl ?_
    refine AOps.off rfl rfl ?_
    refine pB rfl rfl rfl ?_
    refine pB rfl rfl rfl ?_
    refine AOps.off rfl rfl ?_
    refine AOps.off rfl rfl ?_
    refine AOps.off rfl rfl ?_
    refine AOps.off rfl rfl ?_
    refine AOps.off rfl rfl ?_
    refine AOps.off rfl rfl ?_
    refine AOps.off rfl rfl ?_
    refine AOps.off rfl rfl ?_
    refine AOps.off rfl rfl ?_
    refine AOps.off rfl rfl ?_
    refine pB rfl rfl rfl ?_
    refine pB rfl rfl rfl ?_
    refine AOps.done ?_
    refine AWp.ret ?_
    subst h
    exact ⟨_, rfl, rfl⟩
end Go.Sim.YtnnfiohdkobkdaaGreatDoor
