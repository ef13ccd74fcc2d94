/- What is proved: functions of the program compute what plain statements tell. -/
import Derived.Test.YtnnfiohdkobkdaaGreatDoorZPRWE

namespace Go.Sim.YtnnfiohdkobkdaaGreatDoor
open Go.RowKit Go.Proofs Go.Proofs.Tryz
set_option maxRecDepth 100000
def W_law13_ParseRights (t1 : GTree) (Q : Bool → Prop) : Prop :=
  Call (Ev_parse_Right t1) fun x2 =>
  Call (Ev_ref13_Right t1) fun x4 =>
  Q (x2 == x4)
theorem walk_law13_ParseRights {t1 : GTree} {r : Bool} (h : W_law13_ParseRights t1 (fun r' => r' = r)) : Ev_law13_ParseRights t1 r := by
  unfold W_law13_ParseRights at h
  refine AFn.intro' (L := [(0, .dat (GTree.out t1))]) tabOk Tryz.func3 rfl rfl Tryz.ntmps3 rfl rfl rfl ?_
  refine AWp.seq ?_
  refine AWp.regionN (fun _ => false) rfl ?_
  refine AOps.box (v := .dat (.st _ _)) rfl rfl rfl rfl rfl rfl ?_
  refine pB rfl rfl rfl ?_
  refine AOps.done ?_
  refine AWp.seq ?_
  refine AWp.regionD (fun _ => false) mixed (by decide +kernel) rfl ?_
  refine pT rfl rfl rfl ?_
  obtain ⟨x2, hc3, h⟩ := h
  refine AOps.call hc3 rfl rfl rfl ⟨.inl rfl, trivial⟩ ?_
  refine pT rfl rfl rfl ?_
  obtain ⟨x4, hc5, h⟩ := h
  refine AOps.call hc5 rfl rfl rfl ⟨.inl rfl, trivial⟩ ?_
  refine pB rfl rfl rfl ?_
  refine pB rfl rfl rfl ?_
  refine AOps.done ?_
  refine AWp.ret ?_
  subst h
  exact ⟨_, rfl, rfl⟩
def W_parse_Right (t1 : GTree) (Q : Int → Prop) : Prop :=
  Call (Ev_parse_deep t1 (30 : Int)) fun x12 =>
  Br x12 (Q (132 : Int)) (
    Call (Ev_parse_nodes t1 (4000 : Int)) fun x14 =>
    Br (decide (x14 > (4000 : Int))) (
      Br (decide (x14 > (4000 : Int))) (Q (133 : Int)) (
        Q (0 : Int))) (
      Br (t1.Kind != (30 : Int)) (
        Br (t1.Kind != (30 : Int)) (Q (133 : Int)) (
          Q (0 : Int))) (
        Call (Ev_parse_shaped t1) fun x20 =>
        Br (!x20) (Q (133 : Int)) (
          Q (0 : Int)))))
theorem walk_parse_Right {t1 : GTree} {r : Int} (h : W_parse_Right t1 (fun r' => r' = r)) : Ev_parse_Right t1 r := by
  unfold W_parse_Right at h
  refine AFn.intro' (L := [(0, .dat (GTree.out t1))]) tabOk Tryz.func10 rfl rfl Tryz.ntmps10 rfl rfl rfl ?_
  refine AWp.seq ?_
  refine AWp.regionN (fun _ => false) rfl ?_
  refine AOps.box (v := .dat (.st _ _)) rfl rfl rfl rfl rfl rfl ?_
  refine pI rfl rfl rfl ?_
  refine AOps.done ?_
  refine AWp.seq ?_
  refine AWp.block ?_
  refine AWp.seq ?_
  refine AWp.regionN (fun _ => false) rfl ?_
  refine pT rfl rfl rfl ?_
  obtain ⟨x12, hc13, h⟩ := h
  refine AOps.call hc13 rfl rfl rfl ⟨.inl rfl, .inl rfl, trivial⟩ ?_
  refine pB rfl rfl rfl ?_
  refine AOps.done ?_
  refine AWp.cond rfl (fun e => ?_) (fun e => ?_)
  · replace h := h.1 e
    refine AWp.seq ?_
    refine AWp.regionN (fun _ => false) rfl ?_
    refine pI rfl rfl rfl ?_
    refine AOps.done ?_
    refine AWp.ret ?_
    subst h
    exact ⟨_, rfl, rfl⟩
  · replace h := h.2 e
    refine AWp.seq ?_
    refine AWp.seq ?_
    refine AWp.regionN (fun _ => false) rfl ?_
    refine pT rfl rfl rfl ?_
    obtain ⟨x14, hc15, h⟩ := h
    refine AOps.call hc15 rfl rfl rfl ⟨.inl rfl, .inl rfl, trivial⟩ ?_
    refine pB rfl rfl rfl ?_
    refine pB rfl rfl rfl ?_
    refine AOps.done ?_
    refine AWp.cond rfl (fun e => ?_) (fun e => ?_)
    · replace h := h.1 e
      refine AWp.skip ?_
      refine AWp.cond rfl (fun e => ?_) (fun e => ?_)
      · replace h := h.1 e
        refine AWp.seq ?_
        refine AWp.regionN (fun _ => false) rfl ?_
        refine pI rfl rfl rfl ?_
        refine AOps.done ?_
        refine AWp.ret ?_
        subst h
        exact ⟨_, rfl, rfl⟩
      · replace h := h.2 e
        refine AWp.skip ?_
        refine AWp.seq ?_
        refine AWp.regionN (fun _ => false) rfl ?_
        refine pI rfl rfl rfl ?_
        refine AOps.done ?_
        refine AWp.ret ?_
        subst h
        exact ⟨_, rfl, rfl⟩
    · replace h := h.2 e
      refine AWp.seq ?_
      refine AWp.regionN (fun _ => false) rfl ?_
      refine pP rfl rfl rfl ?_
      refine pI rfl rfl rfl ?_
      refine pB rfl rfl rfl ?_
      refine pB rfl rfl rfl ?_
      refine AOps.done ?_
      refine AWp.cond rfl (fun e => ?_) (fun e => ?_)
      · replace h := h.1 e
        refine AWp.skip ?_
        refine AWp.cond rfl (fun e => ?_) (fun e => ?_)
        · replace h := h.1 e
          refine AWp.seq ?_
          refine AWp.regionN (fun _ => false) rfl ?_
          refine pI rfl rfl rfl ?_
          refine AOps.done ?_
          refine AWp.ret ?_
          subst h
          exact ⟨_, rfl, rfl⟩
        · replace h := h.2 e
          refine AWp.skip ?_
          refine AWp.seq ?_
          refine AWp.regionN (fun _ => false) rfl ?_
          refine pI rfl rfl rfl ?_
          refine AOps.done ?_
          refine AWp.ret ?_
          subst h
          exact ⟨_, rfl, rfl⟩
      · replace h := h.2 e
        refine AWp.regionN (fun _ => false) rfl ?_
        refine pT rfl rfl rfl ?_
        obtain ⟨x20, hc21, h⟩ := h
        refine AOps.call hc21 rfl rfl rfl ⟨.inl rfl, trivial⟩ ?_
        refine pB rfl rfl rfl ?_
        refine pB rfl rfl rfl ?_
        refine AOps.done ?_
        refine AWp.cond rfl (fun e => ?_) (fun e => ?_)
        · replace h := h.1 e
          refine AWp.seq ?_
          refine AWp.regionN (fun _ => false) rfl ?_
          refine pI rfl rfl rfl ?_
          refine AOps.done ?_
          refine AWp.ret ?_
          subst h
          exact ⟨_, rfl, rfl⟩
        · replace h := h.2 e
          refine AWp.skip ?_
          refine AWp.seq ?_
          refine AWp.regionN (fun _ => false) rfl ?_
          refine pI rfl rfl rfl ?_
          refine AOps.done ?_
          refine AWp.ret ?_
          subst h
          exact ⟨_, rfl, rfl⟩
def W_ref13_Right (t1 : GTree) (Q : Int → Prop) : Prop :=
  Call (Ev_ref13_Deep t1 (31 : Int)) fun x2 =>
  Br (decide (x2 > (30 : Int))) (Q (132 : Int)) (
    Call (Ev_ref13_Nodes t1 (4001 : Int)) fun x8 =>
    Br (decide (x8 > (4000 : Int))) (Q (133 : Int)) (
      Br (t1.Kind != (30 : Int)) (Q (133 : Int)) (
        Call (Ev_ref13_every t1) fun x10 =>
        Br (!x10) (Q (133 : Int)) (
          Q (0 : Int)))))
theorem walk_ref13_Right {t1 : GTree} {r : Int} (h : W_ref13_Right t1 (fun r' => r' = r)) : Ev_ref13_Right t1 r := by
  unfold W_ref13_Right at h
  refine AFn.intro' (L := [(0, .dat (GTree.out t1))]) tabOk Tryz.func11 rfl rfl Tryz.ntmps11 rfl rfl rfl ?_
  refine AWp.seq ?_
  refine AWp.regionN (fun _ => false) rfl ?_
  refine AOps.box (v := .dat (.st _ _)) rfl rfl rfl rfl rfl rfl ?_
  refine pI rfl rfl rfl ?_
  refine AOps.done ?_
  refine AWp.seq ?_
  refine AWp.seq ?_
  refine AWp.regionN (fun _ => false) rfl ?_
  refine pT rfl rfl rfl ?_
  obtain ⟨x2, hc3, h⟩ := h
  refine AOps.call hc3 rfl rfl rfl ⟨.inl rfl, .inl rfl, trivial⟩ ?_
  refine pB rfl rfl rfl ?_
  refine AOps.done ?_
  refine AWp.cond rfl (fun e => ?_) (fun e => ?_)
  · replace h := h.1 e
    refine AWp.seq ?_
    refine AWp.regionN (fun _ => false) rfl ?_
    refine pI rfl rfl rfl ?_
    refine AOps.done ?_
    refine AWp.ret ?_
    subst h
    exact ⟨_, rfl, rfl⟩
  · replace h := h.2 e
    refine AWp.skip ?_
    refine AWp.seq ?_
    refine AWp.seq ?_
    refine AWp.regionN (fun _ => false) rfl ?_
    refine pT rfl rfl rfl ?_
    obtain ⟨x8, hc9, h⟩ := h
    refine AOps.call hc9 rfl rfl rfl ⟨.inl rfl, .inl rfl, trivial⟩ ?_
    refine pB rfl rfl rfl ?_
    refine pB rfl rfl rfl ?_
    refine AOps.splitB 9 rfl (fun e => ?_) (fun e => ?_)
    · replace h := h.1 e
      refine AOps.off rfl rfl ?_
      refine AOps.off rfl rfl ?_
      refine AOps.off rfl rfl ?_
      refine pB rfl rfl rfl ?_
      refine pB rfl rfl rfl ?_
      refine AOps.off rfl rfl ?_
      refine AOps.off rfl rfl ?_
      refine AOps.off rfl rfl ?_
      refine pB rfl rfl rfl ?_
      refine AOps.done ?_
      refine AWp.condT rfl ?_
      refine AWp.seq ?_
      refine AWp.regionN (fun _ => false) rfl ?_
      refine pI rfl rfl rfl ?_
      refine AOps.done ?_
      refine AWp.ret ?_
      subst h
      exact ⟨_, rfl, rfl⟩
    · replace h := h.2 e
      refine pP rfl rfl rfl ?_
      refine pI rfl rfl rfl ?_
      refine pB rfl rfl rfl ?_
      refine pB rfl rfl rfl ?_
      refine pB rfl rfl rfl ?_
      refine AOps.splitB 14 rfl (fun e => ?_) (fun e => ?_)
      · replace h := h.1 e
        refine AOps.off rfl rfl ?_
        refine AOps.off rfl rfl ?_
        refine AOps.off rfl rfl ?_
        refine pB rfl rfl rfl ?_
        refine AOps.done ?_
        refine AWp.condT rfl ?_
        refine AWp.seq ?_
        refine AWp.regionN (fun _ => false) rfl ?_
        refine pI rfl rfl rfl ?_
        refine AOps.done ?_
        refine AWp.ret ?_
        subst h
        exact ⟨_, rfl, rfl⟩
      · replace h := h.2 e
        refine pT rfl rfl rfl ?_
        obtain ⟨x10, hc11, h⟩ := h
        refine AOps.call hc11 rfl rfl rfl ⟨.inl rfl, trivial⟩ ?_
        refine pB rfl rfl rfl ?_
        refine pB rfl rfl rfl ?_
        refine AOps.done ?_
        refine AWp.cond rfl (fun e => ?_) (fun e => ?_)
        · replace h := h.1 e
          refine AWp.seq ?_
          refine AWp.regionN (fun _ => false) rfl ?_
          refine pI rfl rfl rfl ?_
          refine AOps.done ?_
          refine AWp.ret ?_
          subst h
          exact ⟨_, rfl, rfl⟩
        · replace h := h.2 e
          refine AWp.skip ?_
          refine AWp.seq ?_
          refine AWp.regionN (fun _ => false) rfl ?_
          refine pI rfl rfl rfl ?_
          refine AOps.done ?_
          refine AWp.ret ?_
          subst h
          exact ⟨_, rfl, rfl⟩
def W_parse_deep (t1 : GTree) (most2 : Int) (Q : Bool → Prop) : Prop :=
  Br (most2 == (0 : Int)) (Q true) (
    Call (Ev_slices_ContainsFunc_api_Tree t1.Kids (Fn_parse_deep_1 most2)) fun x5 =>
    Q x5)
theorem walk_parse_deep {t1 : GTree} {most2 : Int} {r : Bool} (h : W_parse_deep t1 most2 (fun r' => r' = r)) : Ev_parse_deep t1 most2 r := by
  unfold W_parse_deep at h
  refine AFn.intro' (L := [(0, .dat (GTree.out t1)), (1, .dat (.v (.int .i64 most2)))]) tabOk Tryz.func20 rfl rfl Tryz.ntmps20 rfl rfl rfl ?_
  refine AWp.seq ?_
  refine AWp.regionN (fun _ => false) rfl ?_
  refine AOps.box (v := .dat (.st _ _)) rfl rfl rfl rfl rfl rfl ?_
  refine AOps.box (v := .dat (.v (.int _ _))) rfl rfl rfl rfl rfl rfl ?_
  refine pB rfl rfl rfl ?_
  refine AOps.done ?_
  refine AWp.seq ?_
  refine AWp.freezebox 3 3 rfl rfl ?_
  refine AWp.regionN (fun _ => false) rfl ?_
  refine pI rfl rfl rfl ?_
  refine pB rfl rfl rfl ?_
  refine pB rfl rfl rfl ?_
  refine AOps.splitB 7 rfl (fun e => ?_) (fun e => ?_)
  · replace h := h.1 e
    refine AOps.off rfl rfl ?_
    refine AOps.off rfl rfl ?_
    refine AOps.off rfl rfl ?_
    refine AOps.off rfl rfl ?_
    refine pB rfl rfl rfl ?_
    refine pB rfl rfl rfl ?_
    refine AOps.done ?_
    refine AWp.ret ?_
    subst h
    exact ⟨_, rfl, rfl⟩
  · replace h := h.2 e
    refine pP rfl rfl rfl ?_
    refine pS rfl rfl rfl ?_
    refine AOps.mkfn (ds := [.pd (.v (.int .i64 most2))]) rfl rfl rfl ⟨.inr ⟨_, rfl, rfl⟩, trivial⟩ ?_
    obtain ⟨x5, hc6, h⟩ := h
    refine AOps.call hc6 rfl rfl rfl ⟨.inl rfl, .inl rfl, trivial⟩ ?_
    refine pB rfl rfl rfl ?_
    refine pB rfl rfl rfl ?_
    refine AOps.done ?_
    refine AWp.ret ?_
    subst h
    exact ⟨_, rfl, rfl⟩
def W_parse_nodes (t1 : GTree) (most2 : Int) (Q : Int → Prop) : Prop :=
  Loop2 (1 : Int) (0 : Int) (fun (n60 : Int) (x61 : Int) next62 =>
    Br (decide (x61 < ((t1.Kids.length : Nat) : Int))) (
      At t1.Kids x61 fun x71 =>
      Br (decide (n60 > most2)) (Q n60) (
        Let (IntKind.i64.wrap (most2 - n60)) fun x73 =>
        Call (Ev_parse_nodes x71 x73) fun x74 =>
        Let (IntKind.i64.wrap (n60 + x74)) fun x76 =>
        Let (IntKind.i64.wrap (x61 + (1 : Int))) fun x77 =>
        next62 x76 x77)) (
      Q n60))
theorem walk_parse_nodes {t1 : GTree} {most2 : Int} {r : Int} (h : W_parse_nodes t1 most2 (fun r' => r' = r)) : Ev_parse_nodes t1 most2 r := by
  unfold W_parse_nodes at h
  refine AFn.intro' (L := [(0, .dat (GTree.out t1)), (1, .dat (.v (.int .i64 most2)))]) tabOk Tryz.func21 rfl rfl Tryz.ntmps21 rfl rfl rfl ?_
  refine AWp.seq ?_
  refine AWp.regionN (fun _ => false) rfl ?_
  refine AOps.box (v := .dat (.st _ _)) rfl rfl rfl rfl rfl rfl ?_
  refine pI rfl rfl rfl ?_
  refine AOps.done ?_
  refine AWp.seq ?_
  refine AWp.regionN (fun _ => false) rfl ?_
  refine pI rfl rfl rfl ?_
  refine AOps.done ?_
  refine AWp.seq ?_
  refine AWp.seq ?_
  refine AWp.regionN (fun _ => false) rfl ?_
  refine pP rfl rfl rfl ?_
  refine pS rfl rfl rfl ?_
  refine AOps.i (j := ((t1.Kids.length : Nat) : Int)) tabOk rfl rfl rfl (by first | (rw [List.length_map]; done) | rfl) ?_
  refine pI rfl rfl rfl ?_
  refine AOps.done ?_
  refine AWp.block ?_
  obtain ⟨I78, x79, hz80, hr81⟩ := h
  refine AWp.loop (I := fun p : Int × Int => mkSt [(1, .dat (.v (.int .i64 most2))), (5, .dat (.v (.int .i64 p.1))), (9, .dat (.sl 26 9 (List.map GTree.enc t1.Kids))), (10, .dat (.v (.int .i64 ((t1.Kids.length : Nat) : Int)))), (11, .dat (.v (.int .i64 p.2)))] []) (Inv := fun p => I78 p.1 p.2) (μ := fun p => x79 p.1 p.2) (x0 := ⟨(1 : Int), (0 : Int)⟩) hz80 (Sub.list (fun i => i) rfl rfl ⟨rfl, rfl, rfl, rfl, rfl, trivial⟩ trivial) (fun p hp => ?_)
  obtain ⟨n60, x61⟩ := p
  have h := hr81 n60 x61 hp
  refine AWp.seq ?_
  refine AWp.regionN (fun _ => false) rfl ?_
  refine pW rfl rfl rfl ?_
  refine AOps.done ?_
  refine AWp.seq ?_
  refine AWp.cond rfl (fun e => ?_) (fun e => ?_)
  · replace h := h.1 e
    refine AWp.skip ?_
    refine AWp.seq ?_
    refine AWp.block ?_
    refine AWp.seq ?_
    refine AWp.regionN (fun o => writes o) rfl ?_
    obtain ⟨hi70, x71, hx72, h⟩ := h
    refine AOps.idx tabOk (z := GTree.out x71) rfl rfl rfl rfl rfl rfl rfl rfl hi70 (GTree.get hx72) ?_
    refine pT rfl rfl rfl ?_
    refine AOps.alloc tabOk rfl rfl rfl rfl rfl ?_
    refine AOps.store tabOk (v := .dat (.st _ _)) rfl rfl rfl rfl rfl rfl rfl rfl rfl rfl rfl rfl rfl ?_
    refine AOps.done ?_
    refine AWp.seq ?_
    refine AWp.seq ?_
    refine AWp.regionN (fun _ => false) rfl ?_
    refine pI rfl rfl rfl ?_
    refine pI rfl rfl rfl ?_
    refine pB rfl rfl rfl ?_
    refine AOps.done ?_
    refine AWp.cond rfl (fun e => ?_) (fun e => ?_)
    · replace h := h.1 e
      refine AWp.exit ?_
      refine AWp.seq ?_
      refine AWp.regionN (fun _ => false) rfl ?_
      refine pI rfl rfl rfl ?_
      refine pI rfl rfl rfl ?_
      refine AOps.done ?_
      refine AWp.ret ?_
      subst h
      exact ⟨_, rfl, rfl⟩
    · replace h := h.2 e
      refine AWp.skip ?_
      refine AWp.regionN (fun _ => false) rfl ?_
      refine pI rfl rfl rfl ?_
      refine pT rfl rfl rfl ?_
      refine pI rfl rfl rfl ?_
      refine pI rfl rfl rfl ?_
      obtain ⟨x73, ex73, h⟩ := h.get
      refine AOps.i tabOk rfl rfl rfl ex73 ?_
      obtain ⟨x74, hc75, h⟩ := h
      refine AOps.call hc75 rfl rfl rfl ⟨.inl rfl, .inl rfl, trivial⟩ ?_
      obtain ⟨x76, ex76, h⟩ := h.get
      refine AOps.i tabOk rfl rfl rfl ex76 ?_
      refine pI rfl rfl rfl ?_
      refine AOps.done ?_
      refine AWp.regionN (fun _ => false) rfl ?_
      obtain ⟨x77, ex77, h⟩ := h.get
      refine AOps.i tabOk rfl rfl rfl ex77 ?_
      refine pI rfl rfl rfl ?_
      refine AOps.done ?_
      exact ⟨⟨x76, x77⟩, h.1, h.2, (Sub.list (fun i => i) rfl rfl ⟨rfl, rfl, rfl, rfl, rfl, trivial⟩ trivial)⟩
  · replace h := h.2 e
    refine AWp.exit ?_
    refine AWp.seq ?_
    refine AWp.regionN (fun _ => false) rfl ?_
    refine pI rfl rfl rfl ?_
    refine pI rfl rfl rfl ?_
    refine AOps.done ?_
    refine AWp.ret ?_
    subst h
    exact ⟨_, rfl, rfl⟩
def W_parse_shaped (t1 : GTree) (Q : Bool → Prop) : Prop :=
  Call (Ev_parse_shape t1) fun x6 =>
  Br x6 (
    Call (Ev_parse_all t1.Kids (0 : Int) (-1 : Int) Fn_parse_shaped) fun x8 =>
    Q x8) (
    Q false)
theorem walk_parse_shaped {t1 : GTree} {r : Bool} (h : W_parse_shaped t1 (fun r' => r' = r)) : Ev_parse_shaped t1 r := by
  unfold W_parse_shaped at h
  refine AFn.intro' (L := [(0, .dat (GTree.out t1))]) tabOk Tryz.func22 rfl rfl Tryz.ntmps22 rfl rfl rfl ?_
  refine AWp.seq ?_
  refine AWp.regionN (fun _ => false) rfl ?_
  refine AOps.box (v := .dat (.st _ _)) rfl rfl rfl rfl rfl rfl ?_
  refine pB rfl rfl rfl ?_
  refine AOps.done ?_
  refine AWp.seq ?_
  refine AWp.regionN (fun _ => false) rfl ?_
  refine pT rfl rfl rfl ?_
  obtain ⟨x6, hc7, h⟩ := h
  refine AOps.call hc7 rfl rfl rfl ⟨.inl rfl, trivial⟩ ?_
  refine pB rfl rfl rfl ?_
  refine AOps.splitB 5 rfl (fun e => ?_) (fun e => ?_)
  · replace h := h.1 e
    refine pP rfl rfl rfl ?_
    refine pS rfl rfl rfl ?_
    obtain ⟨x8, hc9, h⟩ := h
    refine AOps.call hc9 rfl rfl rfl ⟨.inl rfl, .inl rfl, .inl rfl, .inl rfl, trivial⟩ ?_
    refine pB rfl rfl rfl ?_
    refine pB rfl rfl rfl ?_
    refine AOps.done ?_
    refine AWp.ret ?_
    subst h
    exact ⟨_, rfl, rfl⟩
  · replace h := h.2 e
    refine AOps.off rfl rfl ?_
    refine AOps.off rfl rfl ?_
    refine AOps.off rfl rfl ?_
    refine pB rfl rfl rfl ?_
    refine pB rfl rfl rfl ?_
    refine AOps.done ?_
    refine AWp.ret ?_
    subst h
    exact ⟨_, rfl, rfl⟩
def W_ref13_Deep (t1 : GTree) (most2 : Int) (Q : Int → Prop) : Prop :=
  Br (decide (most2 ≤ (1 : Int))) (Q most2) (
    Loop2 (0 : Int) (0 : Int) (fun (n90 : Int) (x91 : Int) next92 =>
      Br (decide (x91 < ((t1.Kids.length : Nat) : Int))) (
        At t1.Kids x91 fun x106 =>
        Let (IntKind.i64.wrap (most2 - (1 : Int))) fun x108 =>
        Call (Ev_ref13_Deep x106 x108) fun x109 =>
        Join1 (fun j112 =>
          Br (decide (x109 > n90)) (j112 x109) (
            j112 n90)
        ) (fun (n111 : Int) =>
          Let (IntKind.i64.wrap (most2 - (1 : Int))) fun x113 =>
          Br (decide (n111 ≥ x113)) (Q most2) (
            Let (IntKind.i64.wrap (x91 + (1 : Int))) fun x114 =>
            next92 n111 x114))) (
        Let (IntKind.i64.wrap (n90 + (1 : Int))) fun x118 =>
        Q x118)))
theorem walk_ref13_Deep {t1 : GTree} {most2 : Int} {r : Int} (h : W_ref13_Deep t1 most2 (fun r' => r' = r)) : Ev_ref13_Deep t1 most2 r := by
  unfold W_ref13_Deep at h
  refine AFn.intro' (L := [(0, .dat (GTree.out t1)), (1, .dat (.v (.int .i64 most2)))]) tabOk Tryz.func23 rfl rfl Tryz.ntmps23 rfl rfl rfl ?_
  refine AWp.seq ?_
  refine AWp.regionN (fun _ => false) rfl ?_
  refine AOps.box (v := .dat (.st _ _)) rfl rfl rfl rfl rfl rfl ?_
  refine pI rfl rfl rfl ?_
  refine AOps.done ?_
  refine AWp.seq ?_
  refine AWp.seq ?_
  refine AWp.regionN (fun _ => false) rfl ?_
  refine pI rfl rfl rfl ?_
  refine pB rfl rfl rfl ?_
  refine AOps.done ?_
  refine AWp.cond rfl (fun e => ?_) (fun e => ?_)
  · replace h := h.1 e
    refine AWp.seq ?_
    refine AWp.regionN (fun _ => false) rfl ?_
    refine pI rfl rfl rfl ?_
    refine pI rfl rfl rfl ?_
    refine AOps.done ?_
    refine AWp.ret ?_
    subst h
    exact ⟨_, rfl, rfl⟩
  · replace h := h.2 e
    refine AWp.skip ?_
    refine AWp.seq ?_
    refine AWp.regionN (fun _ => false) rfl ?_
    refine pI rfl rfl rfl ?_
    refine AOps.done ?_
    refine AWp.seq ?_
    refine AWp.seq ?_
    refine AWp.regionN (fun _ => false) rfl ?_
    refine pP rfl rfl rfl ?_
    refine pS rfl rfl rfl ?_
    refine AOps.i (j := ((t1.Kids.length : Nat) : Int)) tabOk rfl rfl rfl (by first | (rw [List.length_map]; done) | rfl) ?_
    refine pI rfl rfl rfl ?_
    refine AOps.done ?_
    refine AWp.block ?_
    obtain ⟨I119, x120, hz121, hr122⟩ := h
    refine AWp.loop (I := fun p : Int × Int => mkSt [(1, .dat (.v (.int .i64 most2))), (5, .dat (.v (.int .i64 p.1))), (13, .dat (.sl 26 9 (List.map GTree.enc t1.Kids))), (14, .dat (.v (.int .i64 ((t1.Kids.length : Nat) : Int)))), (15, .dat (.v (.int .i64 p.2)))] []) (Inv := fun p => I119 p.1 p.2) (μ := fun p => x120 p.1 p.2) (x0 := ⟨(0 : Int), (0 : Int)⟩) hz121 (Sub.list (fun i => i) rfl rfl ⟨rfl, rfl, rfl, rfl, rfl, trivial⟩ trivial) (fun p hp => ?_)
    obtain ⟨n90, x91⟩ := p
    have h := hr122 n90 x91 hp
    refine AWp.seq ?_
    refine AWp.regionN (fun _ => false) rfl ?_
    refine pW rfl rfl rfl ?_
    refine AOps.done ?_
    refine AWp.seq ?_
    refine AWp.cond rfl (fun e => ?_) (fun e => ?_)
    · replace h := h.1 e
      refine AWp.skip ?_
      refine AWp.seq ?_
      refine AWp.block ?_
      refine AWp.seq ?_
      refine AWp.regionN (fun o => writes o) rfl ?_
      obtain ⟨hi105, x106, hx107, h⟩ := h
      refine AOps.idx tabOk (z := GTree.out x106) rfl rfl rfl rfl rfl rfl rfl rfl hi105 (GTree.get hx107) ?_
      refine pT rfl rfl rfl ?_
      refine AOps.alloc tabOk rfl rfl rfl rfl rfl ?_
      refine AOps.store tabOk (v := .dat (.st _ _)) rfl rfl rfl rfl rfl rfl rfl rfl rfl rfl rfl rfl rfl ?_
      refine AOps.done ?_
      refine AWp.seq ?_
      refine AWp.regionN (fun _ => false) rfl ?_
      refine pT rfl rfl rfl ?_
      refine pI rfl rfl rfl ?_
      obtain ⟨x108, ex108, h⟩ := h.get
      refine AOps.i tabOk rfl rfl rfl ex108 ?_
      obtain ⟨x109, hc110, h⟩ := h
      refine AOps.call hc110 rfl rfl rfl ⟨.inl rfl, .inl rfl, trivial⟩ ?_
      refine pI rfl rfl rfl ?_
      refine AOps.done ?_
      refine AWp.seq ?_
      refine AWp.seq ?_
      refine AWp.regionN (fun _ => false) rfl ?_
      refine pI rfl rfl rfl ?_
      refine pI rfl rfl rfl ?_
      refine pB rfl rfl rfl ?_
      refine AOps.done ?_
      obtain ⟨J115, hj116, hk117⟩ := h
      refine AWp.cutK (I := fun p : Int => mkSt [(1, .dat (.v (.int .i64 most2))), (5, .dat (.v (.int .i64 p))), (13, .dat (.sl 26 9 (List.map GTree.enc t1.Kids))), (14, .dat (.v (.int .i64 ((t1.Kids.length : Nat) : Int)))), (15, .dat (.v (.int .i64 x91)))] []) (Inv := fun p : Int => J115 p) ?_ (fun p hp => ?_)
      · have h := hj116
        refine AWp.cond rfl (fun e => ?_) (fun e => ?_)
        · replace h := h.1 e
          refine AWp.regionN (fun _ => false) rfl ?_
          refine pI rfl rfl rfl ?_
          refine pI rfl rfl rfl ?_
          refine AOps.done ?_
          exact ⟨x109, h, (Sub.list (fun i => i) rfl rfl ⟨rfl, rfl, rfl, rfl, rfl, trivial⟩ trivial)⟩
        · replace h := h.2 e
          refine AWp.skip ?_
          exact ⟨n90, h, (Sub.list (fun i => i) rfl rfl ⟨rfl, rfl, rfl, rfl, rfl, trivial⟩ trivial)⟩
      · have h := hk117 p hp
        revert h; clear hp; generalize p = n111; intro h
        refine AWp.seq ?_
        refine AWp.regionN (fun _ => false) rfl ?_
        refine pI rfl rfl rfl ?_
        refine pI rfl rfl rfl ?_
        obtain ⟨x113, ex113, h⟩ := h.get
        refine AOps.i tabOk rfl rfl rfl ex113 ?_
        refine pB rfl rfl rfl ?_
        refine AOps.done ?_
        refine AWp.cond rfl (fun e => ?_) (fun e => ?_)
        · replace h := h.1 e
          refine AWp.seq ?_
          refine AWp.regionN (fun _ => false) rfl ?_
          refine pI rfl rfl rfl ?_
          refine pI rfl rfl rfl ?_
          refine AOps.done ?_
          refine AWp.ret ?_
          subst h
          exact ⟨_, rfl, rfl⟩
        · replace h := h.2 e
          refine AWp.skip ?_
          refine AWp.regionN (fun _ => false) rfl ?_
          obtain ⟨x114, ex114, h⟩ := h.get
          refine AOps.i tabOk rfl rfl rfl ex114 ?_
          refine pI rfl rfl rfl ?_
          refine AOps.done ?_
          exact ⟨⟨n111, x114⟩, h.1, h.2, (Sub.list (fun i => i) rfl rfl ⟨rfl, rfl, rfl, rfl, rfl, trivial⟩ trivial)⟩
    · replace h := h.2 e
      refine AWp.exit ?_
      refine AWp.seq ?_
      refine AWp.regionN (fun _ => false) rfl ?_
      refine pI rfl rfl rfl ?_
      obtain ⟨x118, ex118, h⟩ := h.get
      refine AOps.i tabOk rfl rfl rfl ex118 ?_
      refine pI rfl rfl rfl ?_
      refine AOps.done ?_
      refine AWp.ret ?_
      subst h
      exact ⟨_, rfl, rfl⟩
def W_ref13_Nodes (t1 : GTree) (most2 : Int) (Q : Int → Prop) : Prop :=
  Loop2 (1 : Int) (0 : Int) (fun (n60 : Int) (x61 : Int) next62 =>
    Br (decide (x61 < ((t1.Kids.length : Nat) : Int))) (
      At t1.Kids x61 fun x71 =>
      Br (decide (n60 ≥ most2)) (Q most2) (
        Let (IntKind.i64.wrap (most2 - n60)) fun x73 =>
        Call (Ev_ref13_Nodes x71 x73) fun x74 =>
        Let (IntKind.i64.wrap (n60 + x74)) fun x76 =>
        Let (IntKind.i64.wrap (x61 + (1 : Int))) fun x77 =>
        next62 x76 x77)) (
      Br (decide (n60 > most2)) (Q most2) (
        Q n60)))
theorem walk_ref13_Nodes {t1 : GTree} {most2 : Int} {r : Int} (h : W_ref13_Nodes t1 most2 (fun r' => r' = r)) : Ev_ref13_Nodes t1 most2 r := by
  unfold W_ref13_Nodes at h
  refine AFn.intro' (L := [(0, .dat (GTree.out t1)), (1, .dat (.v (.int .i64 most2)))]) tabOk Tryz.func24 rfl rfl Tryz.ntmps24 rfl rfl rfl ?_
  refine AWp.seq ?_
  refine AWp.regionN (fun _ => false) rfl ?_
  refine AOps.box (v := .dat (.st _ _)) rfl rfl rfl rfl rfl rfl ?_
  refine pI rfl rfl rfl ?_
  refine AOps.done ?_
  refine AWp.seq ?_
  refine AWp.regionN (fun _ => false) rfl ?_
  refine pI rfl rfl rfl ?_
  refine AOps.done ?_
  refine AWp.seq ?_
  refine AWp.seq ?_
  refine AWp.regionN (fun _ => false) rfl ?_
  refine pP rfl rfl rfl ?_
  refine pS rfl rfl rfl ?_
  refine AOps.i (j := ((t1.Kids.length : Nat) : Int)) tabOk rfl rfl rfl (by first | (rw [List.length_map]; done) | rfl) ?_
  refine pI rfl rfl rfl ?_
  refine AOps.done ?_
  refine AWp.block ?_
  obtain ⟨I78, x79, hz80, hr81⟩ := h
  refine AWp.loop (I := fun p : Int × Int => mkSt [(1, .dat (.v (.int .i64 most2))), (5, .dat (.v (.int .i64 p.1))), (9, .dat (.sl 26 9 (List.map GTree.enc t1.Kids))), (10, .dat (.v (.int .i64 ((t1.Kids.length : Nat) : Int)))), (11, .dat (.v (.int .i64 p.2)))] []) (Inv := fun p => I78 p.1 p.2) (μ := fun p => x79 p.1 p.2) (x0 := ⟨(1 : Int), (0 : Int)⟩) hz80 (Sub.list (fun i => i) rfl rfl ⟨rfl, rfl, rfl, rfl, rfl, trivial⟩ trivial) (fun p hp => ?_)
  obtain ⟨n60, x61⟩ := p
  have h := hr81 n60 x61 hp
  refine AWp.seq ?_
  refine AWp.regionN (fun _ => false) rfl ?_
  refine pW rfl rfl rfl ?_
  refine AOps.done ?_
  refine AWp.seq ?_
  refine AWp.cond rfl (fun e => ?_) (fun e => ?_)
  · replace h := h.1 e
    refine AWp.skip ?_
    refine AWp.seq ?_
    refine AWp.block ?_
    refine AWp.seq ?_
    refine AWp.regionN (fun o => writes o) rfl ?_
    obtain ⟨hi70, x71, hx72, h⟩ := h
    refine AOps.idx tabOk (z := GTree.out x71) rfl rfl rfl rfl rfl rfl rfl rfl hi70 (GTree.get hx72) ?_
    refine pT rfl rfl rfl ?_
    refine AOps.alloc tabOk rfl rfl rfl rfl rfl ?_
    refine AOps.store tabOk (v := .dat (.st _ _)) rfl rfl rfl rfl rfl rfl rfl rfl rfl rfl rfl rfl rfl ?_
    refine AOps.done ?_
    refine AWp.seq ?_
    refine AWp.seq ?_
    refine AWp.regionN (fun _ => false) rfl ?_
    refine pI rfl rfl rfl ?_
    refine pI rfl rfl rfl ?_
    refine pB rfl rfl rfl ?_
    refine AOps.done ?_
    refine AWp.cond rfl (fun e => ?_) (fun e => ?_)
    · replace h := h.1 e
      refine AWp.seq ?_
      refine AWp.regionN (fun _ => false) rfl ?_
      refine pI rfl rfl rfl ?_
      refine pI rfl rfl rfl ?_
      refine AOps.done ?_
      refine AWp.ret ?_
      subst h
      exact ⟨_, rfl, rfl⟩
    · replace h := h.2 e
      refine AWp.skip ?_
      refine AWp.regionN (fun _ => false) rfl ?_
      refine pI rfl rfl rfl ?_
      refine pT rfl rfl rfl ?_
      refine pI rfl rfl rfl ?_
      refine pI rfl rfl rfl ?_
      obtain ⟨x73, ex73, h⟩ := h.get
      refine AOps.i tabOk rfl rfl rfl ex73 ?_
      obtain ⟨x74, hc75, h⟩ := h
      refine AOps.call hc75 rfl rfl rfl ⟨.inl rfl, .inl rfl, trivial⟩ ?_
      obtain ⟨x76, ex76, h⟩ := h.get
      refine AOps.i tabOk rfl rfl rfl ex76 ?_
      refine pI rfl rfl rfl ?_
      refine AOps.done ?_
      refine AWp.regionN (fun _ => false) rfl ?_
      obtain ⟨x77, ex77, h⟩ := h.get
      refine AOps.i tabOk rfl rfl rfl ex77 ?_
      refine pI rfl rfl rfl ?_
      refine AOps.done ?_
      exact ⟨⟨x76, x77⟩, h.1, h.2, (Sub.list (fun i => i) rfl rfl ⟨rfl, rfl, rfl, rfl, rfl, trivial⟩ trivial)⟩
  · replace h := h.2 e
    refine AWp.exit ?_
    refine AWp.seq ?_
    refine AWp.seq ?_
    refine AWp.regionN (fun _ => false) rfl ?_
    refine pI rfl rfl rfl ?_
    refine pI rfl rfl rfl ?_
    refine pB rfl rfl rfl ?_
    refine AOps.done ?_
    refine AWp.cond rfl (fun e => ?_) (fun e => ?_)
    · replace h := h.1 e
      refine AWp.seq ?_
      refine AWp.regionN (fun _ => false) rfl ?_
      refine pI rfl rfl rfl ?_
      refine pI rfl rfl rfl ?_
      refine AOps.done ?_
      refine AWp.ret ?_
      subst h
      exact ⟨_, rfl, rfl⟩
    · replace h := h.2 e
      refine AWp.skip ?_
      refine AWp.seq ?_
      refine AWp.regionN (fun _ => false) rfl ?_
      refine pI rfl rfl rfl ?_
      refine pI rfl rfl rfl ?_
      refine AOps.done ?_
      refine AWp.ret ?_
      subst h
      exact ⟨_, rfl, rfl⟩
def W_ref13_every (t1 : GTree) (Q : Bool → Prop) : Prop :=
  Call (Ev_ref13_one t1) fun x2 =>
  Br (!x2) (Q false) (
    Loop1 (0 : Int) (fun (x46 : Int) next47 =>
      Br (decide (x46 < ((t1.Kids.length : Nat) : Int))) (
        At t1.Kids x46 fun x54 =>
        Call (Ev_ref13_every x54) fun x56 =>
        Br (!x56) (Q false) (
          Let (IntKind.i64.wrap (x46 + (1 : Int))) fun x58 =>
          next47 x58)) (
        Q true)))
theorem walk_ref13_every {t1 : GTree} {r : Bool} (h : W_ref13_every t1 (fun r' => r' = r)) : Ev_ref13_every t1 r := by
  unfold W_ref13_every at h
  refine AFn.intro' (L := [(0, .dat (GTree.out t1))]) tabOk Tryz.func25 rfl rfl Tryz.ntmps25 rfl rfl rfl ?_
  refine AWp.seq ?_
  refine AWp.regionN (fun _ => false) rfl ?_
  refine AOps.box (v := .dat (.st _ _)) rfl rfl rfl rfl rfl rfl ?_
  refine pB rfl rfl rfl ?_
  refine AOps.done ?_
  refine AWp.seq ?_
  refine AWp.seq ?_
  refine AWp.regionN (fun _ => false) rfl ?_
  refine pT rfl rfl rfl ?_
  obtain ⟨x2, hc3, h⟩ := h
  refine AOps.call hc3 rfl rfl rfl ⟨.inl rfl, trivial⟩ ?_
  refine pB rfl rfl rfl ?_
  refine AOps.done ?_
  refine AWp.cond rfl (fun e => ?_) (fun e => ?_)
  · replace h := h.1 e
    refine AWp.seq ?_
    refine AWp.regionN (fun _ => false) rfl ?_
    refine pB rfl rfl rfl ?_
    refine AOps.done ?_
    refine AWp.ret ?_
    subst h
    exact ⟨_, rfl, rfl⟩
  · replace h := h.2 e
    refine AWp.skip ?_
    refine AWp.seq ?_
    refine AWp.seq ?_
    refine AWp.regionN (fun _ => false) rfl ?_
    refine pP rfl rfl rfl ?_
    refine pS rfl rfl rfl ?_
    refine AOps.i (j := ((t1.Kids.length : Nat) : Int)) tabOk rfl rfl rfl (by first | (rw [List.length_map]; done) | rfl) ?_
    refine pI rfl rfl rfl ?_
    refine AOps.done ?_
    refine AWp.block ?_
    obtain ⟨I59, x60, hz61, hr62⟩ := h
    refine AWp.loop (I := fun p : Int => mkSt [(9, .dat (.sl 26 9 (List.map GTree.enc t1.Kids))), (10, .dat (.v (.int .i64 ((t1.Kids.length : Nat) : Int)))), (11, .dat (.v (.int .i64 p)))] []) (Inv := fun p => I59 p) (μ := fun p => x60 p) (x0 := (0 : Int)) hz61 (Sub.list (fun i => i) rfl rfl ⟨rfl, rfl, rfl, trivial⟩ trivial) (fun p hp => ?_)
    have h := hr62 p hp
    revert h; clear hp; generalize p = x46; intro h
    refine AWp.seq ?_
    refine AWp.regionN (fun _ => false) rfl ?_
    refine pW rfl rfl rfl ?_
    refine AOps.done ?_
    refine AWp.seq ?_
    refine AWp.cond rfl (fun e => ?_) (fun e => ?_)
    · replace h := h.1 e
      refine AWp.skip ?_
      refine AWp.seq ?_
      refine AWp.block ?_
      refine AWp.seq ?_
      refine AWp.regionN (fun o => writes o) rfl ?_
      obtain ⟨hi53, x54, hx55, h⟩ := h
      refine AOps.idx tabOk (z := GTree.out x54) rfl rfl rfl rfl rfl rfl rfl rfl hi53 (GTree.get hx55) ?_
      refine pT rfl rfl rfl ?_
      refine AOps.alloc tabOk rfl rfl rfl rfl rfl ?_
      refine AOps.store tabOk (v := .dat (.st _ _)) rfl rfl rfl rfl rfl rfl rfl rfl rfl rfl rfl rfl rfl ?_
      refine AOps.done ?_
      refine AWp.seq ?_
      refine AWp.regionN (fun _ => false) rfl ?_
      refine pT rfl rfl rfl ?_
      obtain ⟨x56, hc57, h⟩ := h
      refine AOps.call hc57 rfl rfl rfl ⟨.inl rfl, trivial⟩ ?_
      refine pB rfl rfl rfl ?_
      refine AOps.done ?_
      refine AWp.cond rfl (fun e => ?_) (fun e => ?_)
      · replace h := h.1 e
        refine AWp.seq ?_
        refine AWp.regionN (fun _ => false) rfl ?_
        refine pB rfl rfl rfl ?_
        refine AOps.done ?_
        refine AWp.ret ?_
        subst h
        exact ⟨_, rfl, rfl⟩
      · replace h := h.2 e
        refine AWp.skip ?_
        refine AWp.regionN (fun _ => false) rfl ?_
        obtain ⟨x58, ex58, h⟩ := h.get
        refine AOps.i tabOk rfl rfl rfl ex58 ?_
        refine pI rfl rfl rfl ?_
        refine AOps.done ?_
        exact ⟨x58, h.1, h.2, (Sub.list (fun i => i) rfl rfl ⟨rfl, rfl, rfl, trivial⟩ trivial)⟩
    · replace h := h.2 e
      refine AWp.exit ?_
      refine AWp.seq ?_
      refine AWp.regionN (fun _ => false) rfl ?_
      refine pB rfl rfl rfl ?_
      refine AOps.done ?_
      refine AWp.ret ?_
      subst h
      exact ⟨_, rfl, rfl⟩
def W_slices_ContainsFunc_api_Tree (s1 : List GTree) (f2 : DV) (Q : Bool → Prop) : Prop :=
  Call (Ev_slices_IndexFunc_api_Tree s1 f2) fun x3 =>
  Q (decide (x3 ≥ (0 : Int)))
theorem walk_slices_ContainsFunc_api_Tree {s1 : List GTree} {f2 : DV} {r : Bool} (h : W_slices_ContainsFunc_api_Tree s1 f2 (fun r' => r' = r)) : Ev_slices_ContainsFunc_api_Tree s1 f2 r := by
  unfold W_slices_ContainsFunc_api_Tree at h
  refine AFn.intro' (L := [(0, .dat (.sl 26 9 (List.map GTree.enc s1))), (1, .dat (f2))]) tabOk Tryz.func36 rfl rfl Tryz.ntmps36 rfl rfl rfl ?_
  refine AWp.seq ?_
  refine AWp.regionN (fun _ => false) rfl ?_
  refine pB rfl rfl rfl ?_
  refine AOps.done ?_
  refine AWp.seq ?_
  refine AWp.regionN (fun _ => false) rfl ?_
  refine pS rfl rfl rfl ?_
  refine AOps.mv rfl rfl (.inl rfl) rfl ?_
  obtain ⟨x3, hc4, h⟩ := h
  refine AOps.call hc4 rfl rfl rfl ⟨.inl rfl, .inl rfl, trivial⟩ ?_
  refine pB rfl rfl rfl ?_
  refine pB rfl rfl rfl ?_
  refine AOps.done ?_
  refine AWp.ret ?_
  subst h
  exact ⟨_, rfl, rfl⟩
def W_parse_deep_1 (k1 : GTree) (x2 : Int) (Q : Bool → Prop) : Prop :=
  Let (IntKind.i64.wrap (x2 - (1 : Int))) fun x3 =>
  Call (Ev_parse_deep k1 x3) fun x4 =>
  Q x4
theorem walk_parse_deep_1 {k1 : GTree} {x2 : Int} {r : Bool} (h : W_parse_deep_1 k1 x2 (fun r' => r' = r)) : Ev_parse_deep_1 k1 x2 r := by
  unfold W_parse_deep_1 at h
  refine AFn.intro' (L := [(0, .dat (GTree.out k1)), (1, .dat (.pd (.v (.int .i64 x2))))]) tabOk Tryz.func37 rfl rfl Tryz.ntmps37 rfl rfl rfl ?_
  refine AWp.unpd 1 rfl ?_
  refine AWp.seq ?_
  refine AWp.regionN (fun _ => false) rfl ?_
  refine AOps.box (v := .dat (.st _ _)) rfl rfl rfl rfl rfl rfl ?_
  refine pB rfl rfl rfl ?_
  refine AOps.done ?_
  refine AWp.seq ?_
  refine AWp.regionN (fun _ => false) rfl ?_
  refine pT rfl rfl rfl ?_
  refine pI rfl rfl rfl ?_
  obtain ⟨x3, ex3, h⟩ := h.get
  refine AOps.i tabOk rfl rfl rfl ex3 ?_
  obtain ⟨x4, hc5, h⟩ := h
  refine AOps.call hc5 rfl rfl rfl ⟨.inl rfl, .inl rfl, trivial⟩ ?_
  refine pB rfl rfl rfl ?_
  refine AOps.done ?_
  refine AWp.ret ?_
  subst h
  exact ⟨_, rfl, rfl⟩
def W_parse_shape (x1 : GTree) (Q : Bool → Prop) : Prop :=
  Join2 (fun j66 =>
    Br (x1.Kind == (30 : Int)) (
      Call (Ev_parse_kind ([(31 : Int), (32 : Int)])) fun x67 =>
      Call (Ev_parse_all x1.Kids (0 : Int) (-1 : Int) x67) fun x69 =>
      j66 ({ GTree.zero with Kind := x1.Kind, Kids := x1.Kids }) x69) (
      Br (x1.Kind == (31 : Int)) (
        Call (Ev_parse_all x1.Kids (0 : Int) (1 : Int) Fn_parse_dimension) fun x71 =>
        j66 ({ GTree.zero with Kind := x1.Kind, Name := x1.Name, Kids := x1.Kids }) x71) (
        Br (x1.Kind == (32 : Int)) (
          Call (Ev_parse_upto x1.N (1 : Int) (2 : Int)) fun x73 =>
          Br x73 (
            Call (Ev_parse_all x1.Kids (0 : Int) (-1 : Int) Fn_parse_item) fun x75 =>
            j66 ({ GTree.zero with Kind := x1.Kind, Name := x1.Name, N := x1.N, Kids := x1.Kids }) x75) (
            j66 ({ GTree.zero with Kind := x1.Kind, Name := x1.Name, N := x1.N, Kids := x1.Kids }) false)) (
          Br (x1.Kind == (33 : Int)) (
            Call (Ev_parse_kind ([(41 : Int)])) fun x77 =>
            IsFn x77 ∧
            Call (Ev_parse_each x1.Kids ([x77, Fn_parse_expression])) fun x79 =>
            j66 ({ GTree.zero with Kind := x1.Kind, Name := x1.Name, Kids := x1.Kids }) x79) (
            Br (x1.Kind == (34 : Int)) (
              Call (Ev_parse_upto x1.N (0 : Int) (1000000 : Int)) fun x82 =>
              Br x82 (
                Call (Ev_parse_kind ([(41 : Int)])) fun x84 =>
                IsFn x84 ∧
                Call (Ev_parse_each x1.Kids ([x84])) fun x86 =>
                j66 ({ GTree.zero with Kind := x1.Kind, Name := x1.Name, N := x1.N, Flag := x1.Flag, Kids := x1.Kids }) x86) (
                j66 ({ GTree.zero with Kind := x1.Kind, Name := x1.Name, N := x1.N, Flag := x1.Flag, Kids := x1.Kids }) false)) (
              Br (x1.Kind == (35 : Int)) (
                Call (Ev_parse_upto x1.N (0 : Int) (1000000 : Int)) fun x89 =>
                Br x89 (
                  Call (Ev_parse_named x1.Alias) fun x91 =>
                  Br x91 (
                    Call (Ev_parse_kind ([(36 : Int)])) fun x93 =>
                    Call (Ev_parse_all x1.Kids (0 : Int) (-1 : Int) x93) fun x95 =>
                    j66 ({ GTree.zero with Kind := x1.Kind, Name := x1.Name, Alias := x1.Alias, N := x1.N, Kids := x1.Kids }) x95) (
                    j66 ({ GTree.zero with Kind := x1.Kind, Name := x1.Name, Alias := x1.Alias, N := x1.N, Kids := x1.Kids }) false)) (
                  j66 ({ GTree.zero with Kind := x1.Kind, Name := x1.Name, Alias := x1.Alias, N := x1.N, Kids := x1.Kids }) false)) (
                Br (x1.Kind == (36 : Int)) (
                  Call (Ev_parse_each x1.Kids ([Fn_parse_expression])) fun x97 =>
                  j66 ({ GTree.zero with Kind := x1.Kind, Name := x1.Name, Kids := x1.Kids }) x97) (
                  Br (x1.Kind == (37 : Int)) (
                    Call (Ev_parse_kind ([(2 : Int), (4 : Int)])) fun x99 =>
                    IsFn x99 ∧
                    Call (Ev_parse_each x1.Kids ([x99, Fn_parse_expression, Fn_parse_expression])) fun x101 =>
                    j66 ({ GTree.zero with Kind := x1.Kind, Kids := x1.Kids }) x101) (
                    Br (x1.Kind == (38 : Int)) (
                      Call (Ev_parse_kind ([(2 : Int)])) fun x104 =>
                      Call (Ev_parse_kind ([(2 : Int)])) fun x106 =>
                      IsFn x104 ∧
                      IsFn x106 ∧
                      Call (Ev_parse_each x1.Kids ([x104, x106])) fun x108 =>
                      j66 ({ GTree.zero with Kind := x1.Kind, Kids := x1.Kids }) x108) (
                      Join1 (fun j113 =>
                        Br (x1.Kind == (39 : Int)) (j113 (x1.Kind == (39 : Int))) (
                          Br (x1.Kind == (8 : Int)) (j113 (x1.Kind == (8 : Int))) (
                            Br (x1.Kind == (9 : Int)) (j113 (x1.Kind == (9 : Int))) (
                              Br (x1.Kind == (10 : Int)) (j113 (x1.Kind == (10 : Int))) (
                                j113 (x1.Kind == (11 : Int))))))
                      ) (fun (x112 : Bool) =>
                        Br x112 (
                          Call (Ev_parse_each x1.Kids ([Fn_parse_expression, Fn_parse_expression])) fun x114 =>
                          j66 ({ GTree.zero with Kind := x1.Kind, Kids := x1.Kids }) x114) (
                          Br (x1.Kind == (40 : Int)) (
                            Call (Ev_parse_upto x1.N (0 : Int) (1000000 : Int)) fun x116 =>
                            Br x116 (
                              Call (Ev_parse_upto x1.M (0 : Int) (1000000 : Int)) fun x118 =>
                              Br x118 (
                                Call (Ev_parse_all x1.Kids (0 : Int) (-1 : Int) Fn_parse_rule) fun x120 =>
                                j66 ({ GTree.zero with Kind := x1.Kind, Name := x1.Name, N := x1.N, M := x1.M, Kids := x1.Kids }) x120) (
                                j66 ({ GTree.zero with Kind := x1.Kind, Name := x1.Name, N := x1.N, M := x1.M, Kids := x1.Kids }) false)) (
                              j66 ({ GTree.zero with Kind := x1.Kind, Name := x1.Name, N := x1.N, M := x1.M, Kids := x1.Kids }) false)) (
                            Br (x1.Kind == (41 : Int)) (
                              Call (Ev_parse_all x1.Kids (0 : Int) (1 : Int) Fn_parse_dimension) fun x122 =>
                              j66 ({ GTree.zero with Kind := x1.Kind, Kids := x1.Kids }) x122) (
                              Call (Ev_parse_low x1 ({ GTree.zero with Kind := x1.Kind, Kids := x1.Kids })) fun x124 =>
                              Q x124)))))))))))))
  ) (fun (x64 : GTree) (x65 : Bool) =>
    Br x65 (
      Br (x64.Name.toList == (ByteArray.mk #[]).toList) (
        Call (Ev_parse_same x1 x64) fun x139 =>
        Br x139 (
          Br (!(x64.Name.toList == (ByteArray.mk #[]).toList)) (Q true) (
            Call (Ev_parse_names x1.Kind) fun x141 =>
            Q (!x141))) (
          Q false)) (
        Call (Ev_parse_named x64.Name) fun x143 =>
        Br x143 (
          Call (Ev_parse_same x1 x64) fun x145 =>
          Br x145 (
            Br (!(x64.Name.toList == (ByteArray.mk #[]).toList)) (Q true) (
              Call (Ev_parse_names x1.Kind) fun x147 =>
              Q (!x147))) (
            Q false)) (
          Q false))) (
      Q false))
theorem walk_parse_shape {x1 : GTree} {r : Bool} (h : W_parse_shape x1 (fun r' => r' = r)) : Ev_parse_shape x1 r := by
  unfold W_parse_shape at h
  refine AFn.intro' (L := [(0, .dat (GTree.out x1))]) tabOk Tryz.func38 rfl rfl Tryz.ntmps38 rfl rfl rfl ?_
  refine AWp.seq ?_
  refine AWp.regionN (fun _ => false) rfl ?_
  refine AOps.box (v := .dat (.st _ _)) rfl rfl rfl rfl rfl rfl ?_
  refine pB rfl rfl rfl ?_
  refine AOps.done ?_
  refine AWp.seq ?_
  refine AWp.regionN (fun o => writes o) rfl ?_
  refine pP rfl rfl rfl ?_
  refine pI rfl rfl rfl ?_
  refine pP rfl rfl rfl ?_
  refine pS rfl rfl rfl ?_
  refine pT rfl rfl rfl ?_
  refine AOps.alloc tabOk rfl rfl rfl rfl rfl ?_
  refine AOps.store tabOk (v := .dat (.st _ _)) rfl rfl rfl rfl rfl rfl rfl rfl rfl rfl rfl rfl rfl ?_
  refine AOps.done ?_
  refine AWp.seq ?_
  refine AWp.regionN (fun _ => false) rfl ?_
  refine pB rfl rfl rfl ?_
  refine AOps.done ?_
  refine AWp.seq ?_
  refine AWp.regionN (fun _ => false) rfl ?_
  refine pP rfl rfl rfl ?_
  refine pS rfl rfl rfl ?_
  refine pS rfl rfl rfl ?_
  refine AOps.done ?_
  refine AWp.seq ?_
  refine AWp.seq ?_
  refine AWp.regionN (fun _ => false) rfl ?_
  refine pP rfl rfl rfl ?_
  refine pI rfl rfl rfl ?_
  refine AOps.done ?_
  obtain ⟨J149, hj150, hk151⟩ := h
  refine AWp.cutK (I := fun p : GTree × Bool => mkSt [(1, .pt 1 [] 0), (3, .pt 3 [] 0), (4, .dat (.v (.bool p.2)))] [(1, .box 26 9 (.dat (GTree.out x1))), (3, .box 26 9 (.dat (GTree.out p.1)))]) (Inv := fun p : GTree × Bool => J149 p.1 p.2) ?_ (fun p hp => ?_)
  · have h := hj150
    refine AWp.block ?_
    refine AWp.seq ?_
    refine AWp.regionN (fun _ => false) rfl ?_
    refine pB rfl rfl rfl ?_
    refine pB rfl rfl rfl ?_
    refine AOps.done ?_
    refine AWp.cond rfl (fun e => ?_) (fun e => ?_)
    · replace h := h.1 e
      refine AWp.regionN (fun _ => false) rfl ?_
      refine pS rfl rfl rfl ?_
      refine AOps.lit tabOk (ys := [.v (.int .i64 (31 : Int)), .v (.int .i64 (32 : Int))]) rfl rfl rfl rfl rfl rfl ?_
      obtain ⟨x67, hc68, h⟩ := h
      refine AOps.call hc68 rfl rfl rfl ⟨.inl rfl, trivial⟩ ?_
      obtain ⟨x69, hc70, h⟩ := h
      refine AOps.call hc70 rfl rfl rfl ⟨.inl rfl, .inl rfl, .inl rfl, .inl rfl, trivial⟩ ?_
      refine pB rfl rfl rfl ?_
      refine AOps.done ?_
      exact ⟨⟨({ GTree.zero with Kind := x1.Kind, Kids := x1.Kids }), x69⟩, h, (Sub.list (fun i => i) rfl rfl ⟨rfl, rfl, rfl, trivial⟩ ⟨rfl, rfl, trivial⟩)⟩
    · replace h := h.2 e
      refine AWp.seq ?_
      refine AWp.regionN (fun _ => false) rfl ?_
      refine pB rfl rfl rfl ?_
      refine pB rfl rfl rfl ?_
      refine AOps.done ?_
      refine AWp.cond rfl (fun e => ?_) (fun e => ?_)
      · replace h := h.1 e
        first | refine AWp.regionD (fun o => writes o) mixed (by decide +kernel) rfl ?_ | refine AWp.regionE [(1, 1), (3, 3), (26, 1), (30, 3)] (fun o => writes o) mixed (by decide +kernel) rfl (Fix.cons (fun _ h => h) (Fix.cons (fun _ h => h) (Fix.cons (fun _ h => False.elim h) (Fix.cons (fun _ h => False.elim h) Fix.nil)))) ?_ | refine AWp.regionE [(1, 1), (3, 3), (26, 1), (30, 3), (5, 999999), (28, 999999)] (fun o => writes o) mixed (by decide +kernel) rfl (Fix.cons (fun _ h => h) (Fix.cons (fun _ h => h) (Fix.cons (fun _ h => False.elim h) (Fix.cons (fun _ h => False.elim h) (Fix.cons (fun _ h => False.elim h) (Fix.cons (fun _ h => False.elim h) Fix.nil)))))) ?_
        refine pP rfl rfl rfl ?_
        refine pG rfl rfl rfl ?_
        refine pS rfl rfl rfl ?_
        obtain ⟨x71, hc72, h⟩ := h
        refine AOps.call hc72 rfl rfl rfl ⟨.inl rfl, .inl rfl, .inl rfl, .inl rfl, trivial⟩ ?_
        refine pP rfl rfl rfl ?_
        refine AOps.store tabOk (v := .dat (.v (.string _))) rfl rfl rfl rfl rfl rfl rfl rfl rfl rfl rfl rfl rfl ?_
        refine pB rfl rfl rfl ?_
        refine AOps.done ?_
        exact ⟨⟨({ GTree.zero with Kind := x1.Kind, Name := x1.Name, Kids := x1.Kids }), x71⟩, h, (Sub.list (fun i => i) rfl rfl ⟨rfl, rfl, rfl, trivial⟩ ⟨rfl, rfl, trivial⟩)⟩
      · replace h := h.2 e
        refine AWp.seq ?_
        refine AWp.regionN (fun _ => false) rfl ?_
        refine pB rfl rfl rfl ?_
        refine pB rfl rfl rfl ?_
        refine AOps.done ?_
        refine AWp.cond rfl (fun e => ?_) (fun e => ?_)
        · replace h := h.1 e
          first | refine AWp.regionE [(1, 1), (3, 3), (33, 1), (35, 1), (37, 1), (44, 3), (45, 3)] (fun o => writes o) mixed (by decide +kernel) rfl (Fix.cons (fun _ h => h) (Fix.cons (fun _ h => h) (Fix.cons (fun _ h => False.elim h) (Fix.cons (fun _ h => False.elim h) (Fix.cons (fun _ h => False.elim h) (Fix.cons (fun _ h => False.elim h) (Fix.cons (fun _ h => False.elim h) Fix.nil))))))) ?_ | refine AWp.regionE [(1, 1), (3, 3), (33, 1), (35, 1), (37, 1), (44, 3), (45, 3), (5, 999999), (41, 999999)] (fun o => writes o) mixed (by decide +kernel) rfl (Fix.cons (fun _ h => h) (Fix.cons (fun _ h => h) (Fix.cons (fun _ h => False.elim h) (Fix.cons (fun _ h => False.elim h) (Fix.cons (fun _ h => False.elim h) (Fix.cons (fun _ h => False.elim h) (Fix.cons (fun _ h => False.elim h) (Fix.cons (fun _ h => False.elim h) (Fix.cons (fun _ h => False.elim h) Fix.nil))))))))) ?_
          refine pP rfl rfl rfl ?_
          refine pG rfl rfl rfl ?_
          refine pP rfl rfl rfl ?_
          refine pI rfl rfl rfl ?_
          refine pP rfl rfl rfl ?_
          refine pI rfl rfl rfl ?_
          obtain ⟨x73, hc74, h⟩ := h
          refine AOps.call hc74 rfl rfl rfl ⟨.inl rfl, .inl rfl, .inl rfl, trivial⟩ ?_
          refine pB rfl rfl rfl ?_
          refine AOps.splitB 40 rfl (fun e => ?_) (fun e => ?_)
          · replace h := h.1 e
            refine pS rfl rfl rfl ?_
            obtain ⟨x75, hc76, h⟩ := h
            refine AOps.call hc76 rfl rfl rfl ⟨.inl rfl, .inl rfl, .inl rfl, .inl rfl, trivial⟩ ?_
            refine pB rfl rfl rfl ?_
            refine pP rfl rfl rfl ?_
            refine AOps.store tabOk (v := .dat (.v (.string _))) rfl rfl rfl rfl rfl rfl rfl rfl rfl rfl rfl rfl rfl ?_
            refine pP rfl rfl rfl ?_
            refine AOps.store tabOk (v := .dat (.v (.int _ _))) rfl rfl rfl rfl rfl rfl rfl rfl rfl rfl rfl rfl rfl ?_
            refine pB rfl rfl rfl ?_
            refine AOps.done ?_
            exact ⟨⟨({ GTree.zero with Kind := x1.Kind, Name := x1.Name, N := x1.N, Kids := x1.Kids }), x75⟩, h, (Sub.list (fun i => i) rfl rfl ⟨rfl, rfl, rfl, trivial⟩ ⟨rfl, rfl, trivial⟩)⟩
          · replace h := h.2 e
            refine AOps.off rfl rfl ?_
            refine AOps.off rfl rfl ?_
            refine pB rfl rfl rfl ?_
            refine pP rfl rfl rfl ?_
            refine AOps.store tabOk (v := .dat (.v (.string _))) rfl rfl rfl rfl rfl rfl rfl rfl rfl rfl rfl rfl rfl ?_
            refine pP rfl rfl rfl ?_
            refine AOps.store tabOk (v := .dat (.v (.int _ _))) rfl rfl rfl rfl rfl rfl rfl rfl rfl rfl rfl rfl rfl ?_
            refine pB rfl rfl rfl ?_
            refine AOps.done ?_
            exact ⟨⟨({ GTree.zero with Kind := x1.Kind, Name := x1.Name, N := x1.N, Kids := x1.Kids }), false⟩, h, (Sub.list (fun i => i) rfl rfl ⟨rfl, rfl, rfl, trivial⟩ ⟨rfl, rfl, trivial⟩)⟩
        · replace h := h.2 e
          refine AWp.seq ?_
          refine AWp.regionN (fun _ => false) rfl ?_
          refine pB rfl rfl rfl ?_
          refine pB rfl rfl rfl ?_
          refine AOps.done ?_
          refine AWp.cond rfl (fun e => ?_) (fun e => ?_)
          · replace h := h.1 e
            first | refine AWp.regionD (fun o => writes o) mixed (by decide +kernel) rfl ?_ | refine AWp.regionE [(1, 1), (3, 3), (48, 1), (55, 3)] (fun o => writes o) mixed (by decide +kernel) rfl (Fix.cons (fun _ h => h) (Fix.cons (fun _ h => h) (Fix.cons (fun _ h => False.elim h) (Fix.cons (fun _ h => False.elim h) Fix.nil)))) ?_ | refine AWp.regionE [(1, 1), (3, 3), (48, 1), (55, 3), (5, 999999), (50, 999999)] (fun o => writes o) mixed (by decide +kernel) rfl (Fix.cons (fun _ h => h) (Fix.cons (fun _ h => h) (Fix.cons (fun _ h => False.elim h) (Fix.cons (fun _ h => False.elim h) (Fix.cons (fun _ h => False.elim h) (Fix.cons (fun _ h => False.elim h) Fix.nil)))))) ?_
            refine pP rfl rfl rfl ?_
            refine pG rfl rfl rfl ?_
            refine pS rfl rfl rfl ?_
            refine AOps.lit tabOk (ys := [.v (.int .i64 (41 : Int))]) rfl rfl rfl rfl rfl rfl ?_
            obtain ⟨x77, hc78, h⟩ := h
            refine AOps.call hc78 rfl rfl rfl ⟨.inl rfl, trivial⟩ ?_
            obtain ⟨hf81, h⟩ := h
            refine AOps.lit tabOk (ys := [x77, Fn_parse_expression]) rfl rfl rfl rfl rfl (by exact (buildS_step (d := x77) rfl rfl hf81 (buildS_step (d := Fn_parse_expression) rfl rfl (by first | exact isFn_v | exact isFn_c) rfl))) ?_
            obtain ⟨x79, hc80, h⟩ := h
            refine AOps.call hc80 rfl rfl rfl ⟨.inl rfl, .inl rfl, trivial⟩ ?_
            refine pP rfl rfl rfl ?_
            refine AOps.store tabOk (v := .dat (.v (.string _))) rfl rfl rfl rfl rfl rfl rfl rfl rfl rfl rfl rfl rfl ?_
            refine pB rfl rfl rfl ?_
            refine AOps.done ?_
            exact ⟨⟨({ GTree.zero with Kind := x1.Kind, Name := x1.Name, Kids := x1.Kids }), x79⟩, h, (Sub.list (fun i => i) rfl rfl ⟨rfl, rfl, rfl, trivial⟩ ⟨rfl, rfl, trivial⟩)⟩
          · replace h := h.2 e
            refine AWp.seq ?_
            refine AWp.regionN (fun _ => false) rfl ?_
            refine pB rfl rfl rfl ?_
            refine pB rfl rfl rfl ?_
            refine AOps.done ?_
            refine AWp.cond rfl (fun e => ?_) (fun e => ?_)
            · replace h := h.1 e
              first | refine AWp.regionE [(1, 1), (3, 3), (58, 1), (60, 1), (62, 1), (64, 1), (74, 3), (75, 3), (76, 3)] (fun o => writes o) mixed (by decide +kernel) rfl (Fix.cons (fun _ h => h) (Fix.cons (fun _ h => h) (Fix.cons (fun _ h => False.elim h) (Fix.cons (fun _ h => False.elim h) (Fix.cons (fun _ h => False.elim h) (Fix.cons (fun _ h => False.elim h) (Fix.cons (fun _ h => False.elim h) (Fix.cons (fun _ h => False.elim h) (Fix.cons (fun _ h => False.elim h) Fix.nil))))))))) ?_ | refine AWp.regionE [(1, 1), (3, 3), (58, 1), (60, 1), (62, 1), (64, 1), (74, 3), (75, 3), (76, 3), (5, 999999), (68, 999999)] (fun o => writes o) mixed (by decide +kernel) rfl (Fix.cons (fun _ h => h) (Fix.cons (fun _ h => h) (Fix.cons (fun _ h => False.elim h) (Fix.cons (fun _ h => False.elim h) (Fix.cons (fun _ h => False.elim h) (Fix.cons (fun _ h => False.elim h) (Fix.cons (fun _ h => False.elim h) (Fix.cons (fun _ h => False.elim h) (Fix.cons (fun _ h => False.elim h) (Fix.cons (fun _ h => False.elim h) (Fix.cons (fun _ h => False.elim h) Fix.nil))))))))))) ?_
              refine pP rfl rfl rfl ?_
              refine pG rfl rfl rfl ?_
              refine pP rfl rfl rfl ?_
              refine pI rfl rfl rfl ?_
              refine pP rfl rfl rfl ?_
              refine pB rfl rfl rfl ?_
              refine pP rfl rfl rfl ?_
              refine pI rfl rfl rfl ?_
              obtain ⟨x82, hc83, h⟩ := h
              refine AOps.call hc83 rfl rfl rfl ⟨.inl rfl, .inl rfl, .inl rfl, trivial⟩ ?_
              refine pB rfl rfl rfl ?_
              refine AOps.splitB 67 rfl (fun e => ?_) (fun e => ?_)
              · replace h := h.1 e
                refine pS rfl rfl rfl ?_
                refine AOps.lit tabOk (ys := [.v (.int .i64 (41 : Int))]) rfl rfl rfl rfl rfl rfl ?_
                obtain ⟨x84, hc85, h⟩ := h
                refine AOps.call hc85 rfl rfl rfl ⟨.inl rfl, trivial⟩ ?_
                obtain ⟨hf88, h⟩ := h
                refine AOps.lit tabOk (ys := [x84]) rfl rfl rfl rfl rfl (by exact (buildS_step (d := x84) rfl rfl hf88 rfl)) ?_
                obtain ⟨x86, hc87, h⟩ := h
                refine AOps.call hc87 rfl rfl rfl ⟨.inl rfl, .inl rfl, trivial⟩ ?_
                refine pB rfl rfl rfl ?_
                refine pP rfl rfl rfl ?_
                refine AOps.store tabOk (v := .dat (.v (.string _))) rfl rfl rfl rfl rfl rfl rfl rfl rfl rfl rfl rfl rfl ?_
                refine pP rfl rfl rfl ?_
                refine AOps.store tabOk (v := .dat (.v (.int _ _))) rfl rfl rfl rfl rfl rfl rfl rfl rfl rfl rfl rfl rfl ?_
                refine pP rfl rfl rfl ?_
                refine AOps.store tabOk (v := .dat (.v (.bool _))) rfl rfl rfl rfl rfl rfl rfl rfl rfl rfl rfl rfl rfl ?_
                refine pB rfl rfl rfl ?_
                refine AOps.done ?_
                exact ⟨⟨({ GTree.zero with Kind := x1.Kind, Name := x1.Name, N := x1.N, Flag := x1.Flag, Kids := x1.Kids }), x86⟩, h, (Sub.list (fun i => i) rfl rfl ⟨rfl, rfl, rfl, trivial⟩ ⟨rfl, rfl, trivial⟩)⟩
              · replace h := h.2 e
                refine AOps.off rfl rfl ?_
                refine AOps.off rfl rfl ?_
                refine AOps.off rfl rfl ?_
                refine AOps.off rfl rfl ?_
                refine AOps.off rfl rfl ?_
                refine pB rfl rfl rfl ?_
                refine pP rfl rfl rfl ?_
                refine AOps.store tabOk (v := .dat (.v (.string _))) rfl rfl rfl rfl rfl rfl rfl rfl rfl rfl rfl rfl rfl ?_
                refine pP rfl rfl rfl ?_
                refine AOps.store tabOk (v := .dat (.v (.int _ _))) rfl rfl rfl rfl rfl rfl rfl rfl rfl rfl rfl rfl rfl ?_
                refine pP rfl rfl rfl ?_
                refine AOps.store tabOk (v := .dat (.v (.bool _))) rfl rfl rfl rfl rfl rfl rfl rfl rfl rfl rfl rfl rfl ?_
                refine pB rfl rfl rfl ?_
                refine AOps.done ?_
                exact ⟨⟨({ GTree.zero with Kind := x1.Kind, Name := x1.Name, N := x1.N, Flag := x1.Flag, Kids := x1.Kids }), false⟩, h, (Sub.list (fun i => i) rfl rfl ⟨rfl, rfl, rfl, trivial⟩ ⟨rfl, rfl, trivial⟩)⟩
            · replace h := h.2 e
              refine AWp.seq ?_
              refine AWp.regionN (fun _ => false) rfl ?_
              refine pB rfl rfl rfl ?_
              refine pB rfl rfl rfl ?_
              refine AOps.done ?_
              refine AWp.cond rfl (fun e => ?_) (fun e => ?_)
              · replace h := h.1 e
                first | refine AWp.regionE [(1, 1), (3, 3), (79, 1), (81, 1), (83, 1), (85, 1), (89, 1), (99, 3), (100, 3), (101, 3)] (fun o => writes o) mixed (by decide +kernel) rfl (Fix.cons (fun _ h => h) (Fix.cons (fun _ h => h) (Fix.cons (fun _ h => False.elim h) (Fix.cons (fun _ h => False.elim h) (Fix.cons (fun _ h => False.elim h) (Fix.cons (fun _ h => False.elim h) (Fix.cons (fun _ h => False.elim h) (Fix.cons (fun _ h => False.elim h) (Fix.cons (fun _ h => False.elim h) (Fix.cons (fun _ h => False.elim h) Fix.nil)))))))))) ?_ | refine AWp.regionE [(1, 1), (3, 3), (79, 1), (81, 1), (83, 1), (85, 1), (89, 1), (99, 3), (100, 3), (101, 3), (5, 999999), (94, 999999)] (fun o => writes o) mixed (by decide +kernel) rfl (Fix.cons (fun _ h => h) (Fix.cons (fun _ h => h) (Fix.cons (fun _ h => False.elim h) (Fix.cons (fun _ h => False.elim h) (Fix.cons (fun _ h => False.elim h) (Fix.cons (fun _ h => False.elim h) (Fix.cons (fun _ h => False.elim h) (Fix.cons (fun _ h => False.elim h) (Fix.cons (fun _ h => False.elim h) (Fix.cons (fun _ h => False.elim h) (Fix.cons (fun _ h => False.elim h) (Fix.cons (fun _ h => False.elim h) Fix.nil)))))))))))) ?_
                refine pP rfl rfl rfl ?_
                refine pG rfl rfl rfl ?_
                refine pP rfl rfl rfl ?_
                refine pI rfl rfl rfl ?_
                refine pP rfl rfl rfl ?_
                refine pG rfl rfl rfl ?_
                refine pP rfl rfl rfl ?_
                refine pI rfl rfl rfl ?_
                obtain ⟨x89, hc90, h⟩ := h
                refine AOps.call hc90 rfl rfl rfl ⟨.inl rfl, .inl rfl, .inl rfl, trivial⟩ ?_
                refine pB rfl rfl rfl ?_
                refine AOps.splitB 88 rfl (fun e => ?_) (fun e => ?_)
                · replace h := h.1 e
                  refine pP rfl rfl rfl ?_
                  refine pG rfl rfl rfl ?_
                  obtain ⟨x91, hc92, h⟩ := h
                  refine AOps.call hc92 rfl rfl rfl ⟨.inl rfl, trivial⟩ ?_
                  refine pB rfl rfl rfl ?_
                  refine pB rfl rfl rfl ?_
                  refine AOps.splitB 93 rfl (fun e => ?_) (fun e => ?_)
                  · replace h := h.1 e
                    refine pS rfl rfl rfl ?_
                    refine AOps.lit tabOk (ys := [.v (.int .i64 (36 : Int))]) rfl rfl rfl rfl rfl rfl ?_
                    obtain ⟨x93, hc94, h⟩ := h
                    refine AOps.call hc94 rfl rfl rfl ⟨.inl rfl, trivial⟩ ?_
                    obtain ⟨x95, hc96, h⟩ := h
                    refine AOps.call hc96 rfl rfl rfl ⟨.inl rfl, .inl rfl, .inl rfl, .inl rfl, trivial⟩ ?_
                    refine pB rfl rfl rfl ?_
                    refine pP rfl rfl rfl ?_
                    refine AOps.store tabOk (v := .dat (.v (.string _))) rfl rfl rfl rfl rfl rfl rfl rfl rfl rfl rfl rfl rfl ?_
                    refine pP rfl rfl rfl ?_
                    refine AOps.store tabOk (v := .dat (.v (.int _ _))) rfl rfl rfl rfl rfl rfl rfl rfl rfl rfl rfl rfl rfl ?_
                    refine pP rfl rfl rfl ?_
                    refine AOps.store tabOk (v := .dat (.v (.string _))) rfl rfl rfl rfl rfl rfl rfl rfl rfl rfl rfl rfl rfl ?_
                    refine pB rfl rfl rfl ?_
                    refine AOps.done ?_
                    exact ⟨⟨({ GTree.zero with Kind := x1.Kind, Name := x1.Name, Alias := x1.Alias, N := x1.N, Kids := x1.Kids }), x95⟩, h, (Sub.list (fun i => i) rfl rfl ⟨rfl, rfl, rfl, trivial⟩ ⟨rfl, rfl, trivial⟩)⟩
                  · replace h := h.2 e
                    refine AOps.off rfl rfl ?_
                    refine AOps.off rfl rfl ?_
                    refine AOps.off rfl rfl ?_
                    refine AOps.off rfl rfl ?_
                    refine pB rfl rfl rfl ?_
                    refine pP rfl rfl rfl ?_
                    refine AOps.store tabOk (v := .dat (.v (.string _))) rfl rfl rfl rfl rfl rfl rfl rfl rfl rfl rfl rfl rfl ?_
                    refine pP rfl rfl rfl ?_
                    refine AOps.store tabOk (v := .dat (.v (.int _ _))) rfl rfl rfl rfl rfl rfl rfl rfl rfl rfl rfl rfl rfl ?_
                    refine pP rfl rfl rfl ?_
                    refine AOps.store tabOk (v := .dat (.v (.string _))) rfl rfl rfl rfl rfl rfl rfl rfl rfl rfl rfl rfl rfl ?_
                    refine pB rfl rfl rfl ?_
                    refine AOps.done ?_
                    exact ⟨⟨({ GTree.zero with Kind := x1.Kind, Name := x1.Name, Alias := x1.Alias, N := x1.N, Kids := x1.Kids }), false⟩, h, (Sub.list (fun i => i) rfl rfl ⟨rfl, rfl, rfl, trivial⟩ ⟨rfl, rfl, trivial⟩)⟩
                · replace h := h.2 e
                  refine AOps.off rfl rfl ?_
                  refine AOps.off rfl rfl ?_
                  refine AOps.off rfl rfl ?_
                  refine pB rfl rfl rfl ?_
                  refine pB rfl rfl rfl ?_
                  refine AOps.off rfl rfl ?_
                  refine AOps.off rfl rfl ?_
                  refine AOps.off rfl rfl ?_
                  refine AOps.off rfl rfl ?_
                  refine pB rfl rfl rfl ?_
                  refine pP rfl rfl rfl ?_
                  refine AOps.store tabOk (v := .dat (.v (.string _))) rfl rfl rfl rfl rfl rfl rfl rfl rfl rfl rfl rfl rfl ?_
                  refine pP rfl rfl rfl ?_
                  refine AOps.store tabOk (v := .dat (.v (.int _ _))) rfl rfl rfl rfl rfl rfl rfl rfl rfl rfl rfl rfl rfl ?_
                  refine pP rfl rfl rfl ?_
                  refine AOps.store tabOk (v := .dat (.v (.string _))) rfl rfl rfl rfl rfl rfl rfl rfl rfl rfl rfl rfl rfl ?_
                  refine pB rfl rfl rfl ?_
                  refine AOps.done ?_
                  exact ⟨⟨({ GTree.zero with Kind := x1.Kind, Name := x1.Name, Alias := x1.Alias, N := x1.N, Kids := x1.Kids }), false⟩, h, (Sub.list (fun i => i) rfl rfl ⟨rfl, rfl, rfl, trivial⟩ ⟨rfl, rfl, trivial⟩)⟩
              · replace h := h.2 e
                refine AWp.seq ?_
                refine AWp.regionN (fun _ => false) rfl ?_
                refine pB rfl rfl rfl ?_
                refine pB rfl rfl rfl ?_
                refine AOps.done ?_
                refine AWp.cond rfl (fun e => ?_) (fun e => ?_)
                · replace h := h.1 e
                  first | refine AWp.regionD (fun o => writes o) mixed (by decide +kernel) rfl ?_ | refine AWp.regionE [(1, 1), (3, 3), (104, 1), (109, 3)] (fun o => writes o) mixed (by decide +kernel) rfl (Fix.cons (fun _ h => h) (Fix.cons (fun _ h => h) (Fix.cons (fun _ h => False.elim h) (Fix.cons (fun _ h => False.elim h) Fix.nil)))) ?_ | refine AWp.regionE [(1, 1), (3, 3), (104, 1), (109, 3), (5, 999999), (106, 999999)] (fun o => writes o) mixed (by decide +kernel) rfl (Fix.cons (fun _ h => h) (Fix.cons (fun _ h => h) (Fix.cons (fun _ h => False.elim h) (Fix.cons (fun _ h => False.elim h) (Fix.cons (fun _ h => False.elim h) (Fix.cons (fun _ h => False.elim h) Fix.nil)))))) ?_
                  refine pP rfl rfl rfl ?_
                  refine pG rfl rfl rfl ?_
                  refine pS rfl rfl rfl ?_
                  refine AOps.lit tabOk (ys := [Fn_parse_expression]) rfl rfl rfl rfl rfl rfl ?_
                  obtain ⟨x97, hc98, h⟩ := h
                  refine AOps.call hc98 rfl rfl rfl ⟨.inl rfl, .inl rfl, trivial⟩ ?_
                  refine pP rfl rfl rfl ?_
                  refine AOps.store tabOk (v := .dat (.v (.string _))) rfl rfl rfl rfl rfl rfl rfl rfl rfl rfl rfl rfl rfl ?_
                  refine pB rfl rfl rfl ?_
                  refine AOps.done ?_
                  exact ⟨⟨({ GTree.zero with Kind := x1.Kind, Name := x1.Name, Kids := x1.Kids }), x97⟩, h, (Sub.list (fun i => i) rfl rfl ⟨rfl, rfl, rfl, trivial⟩ ⟨rfl, rfl, trivial⟩)⟩
                · replace h := h.2 e
                  refine AWp.seq ?_
                  refine AWp.regionN (fun _ => false) rfl ?_
                  refine pB rfl rfl rfl ?_
                  refine pB rfl rfl rfl ?_
                  refine AOps.done ?_
                  refine AWp.cond rfl (fun e => ?_) (fun e => ?_)
                  · replace h := h.1 e
                    refine AWp.regionN (fun _ => false) rfl ?_
                    refine pS rfl rfl rfl ?_
                    refine AOps.lit tabOk (ys := [.v (.int .i64 (2 : Int)), .v (.int .i64 (4 : Int))]) rfl rfl rfl rfl rfl rfl ?_
                    obtain ⟨x99, hc100, h⟩ := h
                    refine AOps.call hc100 rfl rfl rfl ⟨.inl rfl, trivial⟩ ?_
                    obtain ⟨hf103, h⟩ := h
                    refine AOps.lit tabOk (ys := [x99, Fn_parse_expression, Fn_parse_expression]) rfl rfl rfl rfl rfl (by exact (buildS_step (d := x99) rfl rfl hf103 (buildS_step (d := Fn_parse_expression) rfl rfl (by first | exact isFn_v | exact isFn_c) (buildS_step (d := Fn_parse_expression) rfl rfl (by first | exact isFn_v | exact isFn_c) rfl)))) ?_
                    obtain ⟨x101, hc102, h⟩ := h
                    refine AOps.call hc102 rfl rfl rfl ⟨.inl rfl, .inl rfl, trivial⟩ ?_
                    refine pB rfl rfl rfl ?_
                    refine AOps.done ?_
                    exact ⟨⟨({ GTree.zero with Kind := x1.Kind, Kids := x1.Kids }), x101⟩, h, (Sub.list (fun i => i) rfl rfl ⟨rfl, rfl, rfl, trivial⟩ ⟨rfl, rfl, trivial⟩)⟩
                  · replace h := h.2 e
                    refine AWp.seq ?_
                    refine AWp.regionN (fun _ => false) rfl ?_
                    refine pB rfl rfl rfl ?_
                    refine pB rfl rfl rfl ?_
                    refine AOps.done ?_
                    refine AWp.cond rfl (fun e => ?_) (fun e => ?_)
                    · replace h := h.1 e
                      refine AWp.regionN (fun _ => false) rfl ?_
                      refine pS rfl rfl rfl ?_
                      refine AOps.lit tabOk (ys := [.v (.int .i64 (2 : Int))]) rfl rfl rfl rfl rfl rfl ?_
                      obtain ⟨x104, hc105, h⟩ := h
                      refine AOps.call hc105 rfl rfl rfl ⟨.inl rfl, trivial⟩ ?_
                      refine AOps.lit tabOk (ys := [.v (.int .i64 (2 : Int))]) rfl rfl rfl rfl rfl rfl ?_
                      obtain ⟨x106, hc107, h⟩ := h
                      refine AOps.call hc107 rfl rfl rfl ⟨.inl rfl, trivial⟩ ?_
                      obtain ⟨hf111, h⟩ := h
                      obtain ⟨hf110, h⟩ := h
                      refine AOps.lit tabOk (ys := [x104, x106]) rfl rfl rfl rfl rfl (by exact (buildS_step (d := x104) rfl rfl hf111 (buildS_step (d := x106) rfl rfl hf110 rfl))) ?_
                      obtain ⟨x108, hc109, h⟩ := h
                      refine AOps.call hc109 rfl rfl rfl ⟨.inl rfl, .inl rfl, trivial⟩ ?_
                      refine pB rfl rfl rfl ?_
                      refine AOps.done ?_
                      exact ⟨⟨({ GTree.zero with Kind := x1.Kind, Kids := x1.Kids }), x108⟩, h, (Sub.list (fun i => i) rfl rfl ⟨rfl, rfl, rfl, trivial⟩ ⟨rfl, rfl, trivial⟩)⟩
                    · replace h := h.2 e
                      refine AWp.seq ?_
                      refine AWp.seq ?_
                      refine AWp.regionN (fun _ => false) rfl ?_
                      refine pB rfl rfl rfl ?_
                      refine pB rfl rfl rfl ?_
                      refine AOps.done ?_
                      obtain ⟨J126, hj127, hk128⟩ := h
                      refine AWp.cutK (I := fun p : Bool => mkSt [(1, .pt 1 [] 0), (3, .pt 3 [] 0), (5, .dat (.sl 26 9 (List.map GTree.enc x1.Kids))), (14, .dat (.v (.int .i64 x1.Kind))), (126, .dat (.v (.bool p)))] [(1, .box 26 9 (.dat (GTree.out x1))), (3, .box 26 9 (.dat (GTree.out ({ GTree.zero with Kind := x1.Kind, Kids := x1.Kids }))))]) (Inv := fun p : Bool => J126 p) ?_ (fun p hp => ?_)
                      · have h := hj127
                        refine AWp.cond rfl (fun e => ?_) (fun e => ?_)
                        · replace h := h.1 e
                          refine AWp.skip ?_
                          exact ⟨(x1.Kind == (39 : Int)), h, (Sub.list (fun i => i) rfl rfl ⟨rfl, rfl, rfl, rfl, rfl, trivial⟩ ⟨rfl, rfl, trivial⟩)⟩
                        · replace h := h.2 e
                          refine AWp.seq ?_
                          refine AWp.regionN (fun _ => false) rfl ?_
                          refine pB rfl rfl rfl ?_
                          refine pB rfl rfl rfl ?_
                          refine AOps.done ?_
                          refine AWp.cond rfl (fun e => ?_) (fun e => ?_)
                          · replace h := h.1 e
                            refine AWp.skip ?_
                            exact ⟨(x1.Kind == (8 : Int)), h, (Sub.list (fun i => i) rfl rfl ⟨rfl, rfl, rfl, rfl, rfl, trivial⟩ ⟨rfl, rfl, trivial⟩)⟩
                          · replace h := h.2 e
                            refine AWp.seq ?_
                            refine AWp.regionN (fun _ => false) rfl ?_
                            refine pB rfl rfl rfl ?_
                            refine pB rfl rfl rfl ?_
                            refine AOps.done ?_
                            refine AWp.cond rfl (fun e => ?_) (fun e => ?_)
                            · replace h := h.1 e
                              refine AWp.skip ?_
                              exact ⟨(x1.Kind == (9 : Int)), h, (Sub.list (fun i => i) rfl rfl ⟨rfl, rfl, rfl, rfl, rfl, trivial⟩ ⟨rfl, rfl, trivial⟩)⟩
                            · replace h := h.2 e
                              refine AWp.seq ?_
                              refine AWp.regionN (fun _ => false) rfl ?_
                              refine pB rfl rfl rfl ?_
                              refine pB rfl rfl rfl ?_
                              refine AOps.done ?_
                              refine AWp.cond rfl (fun e => ?_) (fun e => ?_)
                              · replace h := h.1 e
                                refine AWp.skip ?_
                                exact ⟨(x1.Kind == (10 : Int)), h, (Sub.list (fun i => i) rfl rfl ⟨rfl, rfl, rfl, rfl, rfl, trivial⟩ ⟨rfl, rfl, trivial⟩)⟩
                              · replace h := h.2 e
                                refine AWp.regionN (fun _ => false) rfl ?_
                                refine pB rfl rfl rfl ?_
                                refine pB rfl rfl rfl ?_
                                refine AOps.done ?_
                                exact ⟨(x1.Kind == (11 : Int)), h, (Sub.list (fun i => i) rfl rfl ⟨rfl, rfl, rfl, rfl, rfl, trivial⟩ ⟨rfl, rfl, trivial⟩)⟩
                      · have h := hk128 p hp
                        revert h; clear hp; generalize p = x112; intro h
                        refine AWp.cond rfl (fun e => ?_) (fun e => ?_)
                        · replace h := h.1 e
                          refine AWp.regionN (fun _ => false) rfl ?_
                          refine pS rfl rfl rfl ?_
                          refine AOps.lit tabOk (ys := [Fn_parse_expression, Fn_parse_expression]) rfl rfl rfl rfl rfl rfl ?_
                          obtain ⟨x114, hc115, h⟩ := h
                          refine AOps.call hc115 rfl rfl rfl ⟨.inl rfl, .inl rfl, trivial⟩ ?_
                          refine pB rfl rfl rfl ?_
                          refine AOps.done ?_
                          exact ⟨⟨({ GTree.zero with Kind := x1.Kind, Kids := x1.Kids }), x114⟩, h, (Sub.list (fun i => i) rfl rfl ⟨rfl, rfl, rfl, trivial⟩ ⟨rfl, rfl, trivial⟩)⟩
                        · replace h := h.2 e
                          refine AWp.seq ?_
                          refine AWp.regionN (fun _ => false) rfl ?_
                          refine pB rfl rfl rfl ?_
                          refine pB rfl rfl rfl ?_
                          refine AOps.done ?_
                          refine AWp.cond rfl (fun e => ?_) (fun e => ?_)
                          · replace h := h.1 e
                            first | refine AWp.regionE [(1, 1), (3, 3), (137, 1), (139, 1), (141, 1), (143, 1), (147, 1), (155, 3), (156, 3), (157, 3)] (fun o => writes o) mixed (by decide +kernel) rfl (Fix.cons (fun _ h => h) (Fix.cons (fun _ h => h) (Fix.cons (fun _ h => False.elim h) (Fix.cons (fun _ h => False.elim h) (Fix.cons (fun _ h => False.elim h) (Fix.cons (fun _ h => False.elim h) (Fix.cons (fun _ h => False.elim h) (Fix.cons (fun _ h => False.elim h) (Fix.cons (fun _ h => False.elim h) (Fix.cons (fun _ h => False.elim h) Fix.nil)))))))))) ?_ | refine AWp.regionE [(1, 1), (3, 3), (137, 1), (139, 1), (141, 1), (143, 1), (147, 1), (155, 3), (156, 3), (157, 3), (5, 999999), (152, 999999)] (fun o => writes o) mixed (by decide +kernel) rfl (Fix.cons (fun _ h => h) (Fix.cons (fun _ h => h) (Fix.cons (fun _ h => False.elim h) (Fix.cons (fun _ h => False.elim h) (Fix.cons (fun _ h => False.elim h) (Fix.cons (fun _ h => False.elim h) (Fix.cons (fun _ h => False.elim h) (Fix.cons (fun _ h => False.elim h) (Fix.cons (fun _ h => False.elim h) (Fix.cons (fun _ h => False.elim h) (Fix.cons (fun _ h => False.elim h) (Fix.cons (fun _ h => False.elim h) Fix.nil)))))))))))) ?_
                            refine pP rfl rfl rfl ?_
                            refine pG rfl rfl rfl ?_
                            refine pP rfl rfl rfl ?_
                            refine pI rfl rfl rfl ?_
                            refine pP rfl rfl rfl ?_
                            refine pI rfl rfl rfl ?_
                            refine pP rfl rfl rfl ?_
                            refine pI rfl rfl rfl ?_
                            obtain ⟨x116, hc117, h⟩ := h
                            refine AOps.call hc117 rfl rfl rfl ⟨.inl rfl, .inl rfl, .inl rfl, trivial⟩ ?_
                            refine pB rfl rfl rfl ?_
                            refine AOps.splitB 146 rfl (fun e => ?_) (fun e => ?_)
                            · replace h := h.1 e
                              refine pP rfl rfl rfl ?_
                              refine pI rfl rfl rfl ?_
                              obtain ⟨x118, hc119, h⟩ := h
                              refine AOps.call hc119 rfl rfl rfl ⟨.inl rfl, .inl rfl, .inl rfl, trivial⟩ ?_
                              refine pB rfl rfl rfl ?_
                              refine pB rfl rfl rfl ?_
                              refine AOps.splitB 151 rfl (fun e => ?_) (fun e => ?_)
                              · replace h := h.1 e
                                refine pS rfl rfl rfl ?_
                                obtain ⟨x120, hc121, h⟩ := h
                                refine AOps.call hc121 rfl rfl rfl ⟨.inl rfl, .inl rfl, .inl rfl, .inl rfl, trivial⟩ ?_
                                refine pB rfl rfl rfl ?_
                                refine pP rfl rfl rfl ?_
                                refine AOps.store tabOk (v := .dat (.v (.string _))) rfl rfl rfl rfl rfl rfl rfl rfl rfl rfl rfl rfl rfl ?_
                                refine pP rfl rfl rfl ?_
                                refine AOps.store tabOk (v := .dat (.v (.int _ _))) rfl rfl rfl rfl rfl rfl rfl rfl rfl rfl rfl rfl rfl ?_
                                refine pP rfl rfl rfl ?_
                                refine AOps.store tabOk (v := .dat (.v (.int _ _))) rfl rfl rfl rfl rfl rfl rfl rfl rfl rfl rfl rfl rfl ?_
                                refine pB rfl rfl rfl ?_
                                refine AOps.done ?_
                                exact ⟨⟨({ GTree.zero with Kind := x1.Kind, Name := x1.Name, N := x1.N, M := x1.M, Kids := x1.Kids }), x120⟩, h, (Sub.list (fun i => i) rfl rfl ⟨rfl, rfl, rfl, trivial⟩ ⟨rfl, rfl, trivial⟩)⟩
                              · replace h := h.2 e
                                refine AOps.off rfl rfl ?_
                                refine AOps.off rfl rfl ?_
                                refine pB rfl rfl rfl ?_
                                refine pP rfl rfl rfl ?_
                                refine AOps.store tabOk (v := .dat (.v (.string _))) rfl rfl rfl rfl rfl rfl rfl rfl rfl rfl rfl rfl rfl ?_
                                refine pP rfl rfl rfl ?_
                                refine AOps.store tabOk (v := .dat (.v (.int _ _))) rfl rfl rfl rfl rfl rfl rfl rfl rfl rfl rfl rfl rfl ?_
                                refine pP rfl rfl rfl ?_
                                refine AOps.store tabOk (v := .dat (.v (.int _ _))) rfl rfl rfl rfl rfl rfl rfl rfl rfl rfl rfl rfl rfl ?_
                                refine pB rfl rfl rfl ?_
                                refine AOps.done ?_
                                exact ⟨⟨({ GTree.zero with Kind := x1.Kind, Name := x1.Name, N := x1.N, M := x1.M, Kids := x1.Kids }), false⟩, h, (Sub.list (fun i => i) rfl rfl ⟨rfl, rfl, rfl, trivial⟩ ⟨rfl, rfl, trivial⟩)⟩
                            · replace h := h.2 e
                              refine AOps.off rfl rfl ?_
                              refine AOps.off rfl rfl ?_
                              refine AOps.off rfl rfl ?_
                              refine pB rfl rfl rfl ?_
                              refine pB rfl rfl rfl ?_
                              refine AOps.off rfl rfl ?_
                              refine AOps.off rfl rfl ?_
                              refine pB rfl rfl rfl ?_
                              refine pP rfl rfl rfl ?_
                              refine AOps.store tabOk (v := .dat (.v (.string _))) rfl rfl rfl rfl rfl rfl rfl rfl rfl rfl rfl rfl rfl ?_
                              refine pP rfl rfl rfl ?_
                              refine AOps.store tabOk (v := .dat (.v (.int _ _))) rfl rfl rfl rfl rfl rfl rfl rfl rfl rfl rfl rfl rfl ?_
                              refine pP rfl rfl rfl ?_
                              refine AOps.store tabOk (v := .dat (.v (.int _ _))) rfl rfl rfl rfl rfl rfl rfl rfl rfl rfl rfl rfl rfl ?_
                              refine pB rfl rfl rfl ?_
                              refine AOps.done ?_
                              exact ⟨⟨({ GTree.zero with Kind := x1.Kind, Name := x1.Name, N := x1.N, M := x1.M, Kids := x1.Kids }), false⟩, h, (Sub.list (fun i => i) rfl rfl ⟨rfl, rfl, rfl, trivial⟩ ⟨rfl, rfl, trivial⟩)⟩
                          · replace h := h.2 e
                            refine AWp.seq ?_
                            refine AWp.regionN (fun _ => false) rfl ?_
                            refine pB rfl rfl rfl ?_
                            refine pB rfl rfl rfl ?_
                            refine AOps.done ?_
                            refine AWp.cond rfl (fun e => ?_) (fun e => ?_)
                            · replace h := h.1 e
                              refine AWp.regionN (fun _ => false) rfl ?_
                              refine pS rfl rfl rfl ?_
                              obtain ⟨x122, hc123, h⟩ := h
                              refine AOps.call hc123 rfl rfl rfl ⟨.inl rfl, .inl rfl, .inl rfl, .inl rfl, trivial⟩ ?_
                              refine pB rfl rfl rfl ?_
                              refine AOps.done ?_
                              exact ⟨⟨({ GTree.zero with Kind := x1.Kind, Kids := x1.Kids }), x122⟩, h, (Sub.list (fun i => i) rfl rfl ⟨rfl, rfl, rfl, trivial⟩ ⟨rfl, rfl, trivial⟩)⟩
                            · replace h := h.2 e
                              refine AWp.seq ?_
                              refine AWp.regionN (fun _ => false) rfl ?_
                              refine pT rfl rfl rfl ?_
                              refine pT rfl rfl rfl ?_
                              obtain ⟨x124, hc125, h⟩ := h
                              refine AOps.call hc125 rfl rfl rfl ⟨.inl rfl, .inl rfl, trivial⟩ ?_
                              refine pB rfl rfl rfl ?_
                              refine AOps.done ?_
                              refine AWp.ret ?_
                              subst h
                              exact ⟨_, rfl, rfl⟩
  · obtain ⟨x64, x65⟩ := p
    have h := hk151 x64 x65 hp
    refine AWp.seq ?_
    refine AWp.regionN (fun _ => false) rfl ?_
    refine pB rfl rfl rfl ?_
    refine pB rfl rfl rfl ?_
    refine AOps.splitB 163 rfl (fun e => ?_) (fun e => ?_)
    · replace h := h.1 e
      refine pP rfl rfl rfl ?_
      refine pG rfl rfl rfl ?_
      refine pB rfl rfl rfl ?_
      refine pB rfl rfl rfl ?_
      refine AOps.splitB 167 rfl (fun e => ?_) (fun e => ?_)
      · replace h := h.1 e
        refine AOps.off rfl rfl ?_
        refine AOps.off rfl rfl ?_
        refine AOps.off rfl rfl ?_
        refine pB rfl rfl rfl ?_
        refine pB rfl rfl rfl ?_
        refine pB rfl rfl rfl ?_
        refine pT rfl rfl rfl ?_
        refine pT rfl rfl rfl ?_
        obtain ⟨x139, hc140, h⟩ := h
        refine AOps.call hc140 rfl rfl rfl ⟨.inl rfl, .inl rfl, trivial⟩ ?_
        refine pB rfl rfl rfl ?_
        refine pB rfl rfl rfl ?_
        refine AOps.splitB 178 rfl (fun e => ?_) (fun e => ?_)
        · replace h := h.1 e
          refine pP rfl rfl rfl ?_
          refine pG rfl rfl rfl ?_
          refine pB rfl rfl rfl ?_
          refine pB rfl rfl rfl ?_
          refine AOps.splitB 182 rfl (fun e => ?_) (fun e => ?_)
          · replace h := h.1 e
            refine AOps.off rfl rfl ?_
            refine AOps.off rfl rfl ?_
            refine AOps.off rfl rfl ?_
            refine AOps.off rfl rfl ?_
            refine pB rfl rfl rfl ?_
            refine pB rfl rfl rfl ?_
            refine pB rfl rfl rfl ?_
            refine AOps.done ?_
            refine AWp.ret ?_
            subst h
            exact ⟨_, rfl, rfl⟩
          · replace h := h.2 e
            refine pP rfl rfl rfl ?_
            refine pI rfl rfl rfl ?_
            obtain ⟨x141, hc142, h⟩ := h
            refine AOps.call hc142 rfl rfl rfl ⟨.inl rfl, trivial⟩ ?_
            refine pB rfl rfl rfl ?_
            refine pB rfl rfl rfl ?_
            refine pB rfl rfl rfl ?_
            refine pB rfl rfl rfl ?_
            refine AOps.done ?_
            refine AWp.ret ?_
            subst h
            exact ⟨_, rfl, rfl⟩
        · replace h := h.2 e
          refine AOps.off rfl rfl ?_
          refine AOps.off rfl rfl ?_
          refine AOps.off rfl rfl ?_
          refine AOps.off rfl rfl ?_
          refine AOps.off rfl rfl ?_
          refine AOps.off rfl rfl ?_
          refine AOps.off rfl rfl ?_
          refine AOps.off rfl rfl ?_
          refine AOps.off rfl rfl ?_
          refine pB rfl rfl rfl ?_
          refine pB rfl rfl rfl ?_
          refine AOps.done ?_
          refine AWp.ret ?_
          subst h
          exact ⟨_, rfl, rfl⟩
      · replace h := h.2 e
        refine pP rfl rfl rfl ?_
        refine pG rfl rfl rfl ?_
        obtain ⟨x143, hc144, h⟩ := h
        refine AOps.call hc144 rfl rfl rfl ⟨.inl rfl, trivial⟩ ?_
        refine pB rfl rfl rfl ?_
        refine pB rfl rfl rfl ?_
        refine pB rfl rfl rfl ?_
        refine AOps.splitB 173 rfl (fun e => ?_) (fun e => ?_)
        · replace h := h.1 e
          refine pT rfl rfl rfl ?_
          refine pT rfl rfl rfl ?_
          obtain ⟨x145, hc146, h⟩ := h
          refine AOps.call hc146 rfl rfl rfl ⟨.inl rfl, .inl rfl, trivial⟩ ?_
          refine pB rfl rfl rfl ?_
          refine pB rfl rfl rfl ?_
          refine AOps.splitB 178 rfl (fun e => ?_) (fun e => ?_)
          · replace h := h.1 e
            refine pP rfl rfl rfl ?_
            refine pG rfl rfl rfl ?_
            refine pB rfl rfl rfl ?_
            refine pB rfl rfl rfl ?_
            refine AOps.splitB 182 rfl (fun e => ?_) (fun e => ?_)
            · replace h := h.1 e
              refine AOps.off rfl rfl ?_
              refine AOps.off rfl rfl ?_
              refine AOps.off rfl rfl ?_
              refine AOps.off rfl rfl ?_
              refine pB rfl rfl rfl ?_
              refine pB rfl rfl rfl ?_
              refine pB rfl rfl rfl ?_
              refine AOps.done ?_
              refine AWp.ret ?_
              subst h
              exact ⟨_, rfl, rfl⟩
            · replace h := h.2 e
              refine pP rfl rfl rfl ?_
              refine pI rfl rfl rfl ?_
              obtain ⟨x147, hc148, h⟩ := h
              refine AOps.call hc148 rfl rfl rfl ⟨.inl rfl, trivial⟩ ?_
              refine pB rfl rfl rfl ?_
              refine pB rfl rfl rfl ?_
              refine pB rfl rfl rfl ?_
              refine pB rfl rfl rfl ?_
              refine AOps.done ?_
              refine AWp.ret ?_
              subst h
              exact ⟨_, rfl, rfl⟩
          · replace h := h.2 e
            refine AOps.off rfl rfl ?_
            refine AOps.off rfl rfl ?_
            refine AOps.off rfl rfl ?_
            refine AOps.off rfl rfl ?_
            refine AOps.off rfl rfl ?_
            refine AOps.off rfl rfl ?_
            refine AOps.off rfl rfl ?_
            refine AOps.off rfl rfl ?_
            refine AOps.off rfl rfl ?_
            refine pB rfl rfl rfl ?_
            refine pB rfl rfl rfl ?_
            refine AOps.done ?_
            refine AWp.ret ?_
            subst h
            exact ⟨_, rfl, rfl⟩
        · replace h := h.2 e
          refine AOps.off rfl rfl ?_
          refine AOps.off rfl rfl ?_
          refine AOps.off rfl rfl ?_
          refine pB rfl rfl rfl ?_
          refine pB rfl rfl rfl ?_
          refine AOps.off rfl rfl ?_
          refine AOps.off rfl rfl ?_
          refine AOps.off rfl rfl ?_
          refine AOps.off rfl rfl ?_
          refine AOps.off rfl rfl ?_
          refine AOps.off rfl rfl ?_
          refine AOps.off rfl rfl ?_
          refine AOps.off rfl rfl ?_
          refine AOps.off rfl rfl ?_
          refine pB rfl rfl rfl ?_
          refine pB rfl rfl rfl ?_
          refine AOps.done ?_
          refine AWp.ret ?_
          subst h
          exact ⟨_, rfl, rfl⟩
    · replace h := h.2 e
      refine AOps.off rfl rfl ?_
      refine AOps.off rfl rfl ?_
      refine AOps.off rfl rfl ?_
      refine AOps.off rfl rfl ?_
      refine AOps.off rfl rfl ?_
      refine AOps.off rfl rfl ?_
      refine AOps.off rfl rfl ?_
      refine AOps.off rfl rfl ?_
      refine pB rfl rfl rfl ?_
      refine pB rfl rfl rfl ?_
      refine AOps.off rfl rfl ?_
      refine AOps.off rfl rfl ?_
      refine AOps.off rfl rfl ?_
      refine pB rfl rfl rfl ?_
      refine pB rfl rfl rfl ?_
      refine AOps.off rfl rfl ?_
      refine AOps.off rfl rfl ?_
      refine AOps.off rfl rfl ?_
      refine AOps.off rfl rfl ?_
      refine AOps.off rfl rfl ?_
      refine AOps.off rfl rfl ?_
      refine AOps.off rfl rfl ?_
      refine AOps.off rfl rfl ?_
      refine AOps.off rfl rfl ?_
      refine pB rfl rfl rfl ?_
      refine pB rfl rfl rfl ?_
      refine AOps.done ?_
      refine AWp.ret ?_
      subst h
      exact ⟨_, rfl, rfl⟩
def W_parse_all (l1 : List GTree) (least2 : Int) (most3 : Int) (is4 : DV) (Q : Bool → Prop) : Prop :=
  IsFn is4 ∧
  Br (decide (((l1.length : Nat) : Int) ≥ least2)) (
    Br (decide (most3 < (0 : Int))) (
      Call (Ev_slices_ContainsFunc_api_Tree l1 (Fn_parse_all_1 is4)) fun x15 =>
      Q (!x15)) (
      Br (decide (((l1.length : Nat) : Int) ≤ most3)) (
        Call (Ev_slices_ContainsFunc_api_Tree l1 (Fn_parse_all_1 is4)) fun x18 =>
        Q (!x18)) (
        Q false))) (
    Q false)
theorem walk_parse_all {l1 : List GTree} {least2 : Int} {most3 : Int} {is4 : DV} {r : Bool} (h : W_parse_all l1 least2 most3 is4 (fun r' => r' = r)) : Ev_parse_all l1 least2 most3 is4 r := by
  unfold W_parse_all at h
  refine AFn.intro' (L := [(0, .dat (.sl 26 9 (List.map GTree.enc l1))), (1, .dat (.v (.int .i64 least2))), (2, .dat (.v (.int .i64 most3))), (3, .dat (is4))]) tabOk Tryz.func39 rfl rfl Tryz.ntmps39 rfl rfl rfl ?_
  refine AWp.seq ?_
  refine AWp.regionN (fun _ => false) rfl ?_
  obtain ⟨hf5, h⟩ := h
  refine AOps.boxfn rfl rfl rfl rfl hf5 rfl ?_
  refine pB rfl rfl rfl ?_
  refine AOps.done ?_
  refine AWp.seq ?_
  refine AWp.freezebox 7 7 rfl rfl ?_
  refine AWp.regionN (fun _ => false) rfl ?_
  refine pS rfl rfl rfl ?_
  refine AOps.i (j := ((l1.length : Nat) : Int)) tabOk rfl rfl rfl (by first | (rw [List.length_map]; done) | rfl) ?_
  refine pI rfl rfl rfl ?_
  refine pB rfl rfl rfl ?_
  refine pB rfl rfl rfl ?_
  refine AOps.splitB 13 rfl (fun e => ?_) (fun e => ?_)
  · replace h := h.1 e
    refine pI rfl rfl rfl ?_
    refine pB rfl rfl rfl ?_
    refine pB rfl rfl rfl ?_
    refine AOps.splitB 16 rfl (fun e => ?_) (fun e => ?_)
    · replace h := h.1 e
      refine AOps.off rfl rfl ?_
      refine AOps.off rfl rfl ?_
      refine AOps.off rfl rfl ?_
      refine AOps.off rfl rfl ?_
      refine pB rfl rfl rfl ?_
      refine pB rfl rfl rfl ?_
      refine pB rfl rfl rfl ?_
      refine pS rfl rfl rfl ?_
      refine AOps.mkfn (ds := [.pd (is4)]) rfl rfl rfl ⟨.inr ⟨_, rfl, rfl⟩, trivial⟩ ?_
      obtain ⟨x15, hc16, h⟩ := h
      refine AOps.call hc16 rfl rfl rfl ⟨.inl rfl, .inl rfl, trivial⟩ ?_
      refine pB rfl rfl rfl ?_
      refine pB rfl rfl rfl ?_
      refine pB rfl rfl rfl ?_
      refine AOps.done ?_
      refine AWp.ret ?_
      subst h
      exact ⟨_, rfl, rfl⟩
    · replace h := h.2 e
      refine pS rfl rfl rfl ?_
      refine AOps.i (j := ((l1.length : Nat) : Int)) tabOk rfl rfl rfl (by first | (rw [List.length_map]; done) | rfl) ?_
      refine pI rfl rfl rfl ?_
      refine pB rfl rfl rfl ?_
      refine pB rfl rfl rfl ?_
      refine pB rfl rfl rfl ?_
      refine pB rfl rfl rfl ?_
      refine AOps.splitB 23 rfl (fun e => ?_) (fun e => ?_)
      · replace h := h.1 e
        refine pS rfl rfl rfl ?_
        refine AOps.mkfn (ds := [.pd (is4)]) rfl rfl rfl ⟨.inr ⟨_, rfl, rfl⟩, trivial⟩ ?_
        obtain ⟨x18, hc19, h⟩ := h
        refine AOps.call hc19 rfl rfl rfl ⟨.inl rfl, .inl rfl, trivial⟩ ?_
        refine pB rfl rfl rfl ?_
        refine pB rfl rfl rfl ?_
        refine pB rfl rfl rfl ?_
        refine AOps.done ?_
        refine AWp.ret ?_
        subst h
        exact ⟨_, rfl, rfl⟩
      · replace h := h.2 e
        refine AOps.off rfl rfl ?_
        refine AOps.off rfl rfl ?_
        refine AOps.off rfl rfl ?_
        refine AOps.off rfl rfl ?_
        refine pB rfl rfl rfl ?_
        refine pB rfl rfl rfl ?_
        refine AOps.done ?_
        refine AWp.ret ?_
        subst h
        exact ⟨_, rfl, rfl⟩
  · replace h := h.2 e
    refine AOps.off rfl rfl ?_
    refine AOps.off rfl rfl ?_
    refine AOps.off rfl rfl ?_
    refine AOps.off rfl rfl ?_
    refine AOps.off rfl rfl ?_
    refine AOps.off rfl rfl ?_
    refine AOps.off rfl rfl ?_
    refine AOps.off rfl rfl ?_
    refine pB rfl rfl rfl ?_
    refine pB rfl rfl rfl ?_
    refine AOps.off rfl rfl ?_
    refine AOps.off rfl rfl ?_
    refine AOps.off rfl rfl ?_
    refine AOps.off rfl rfl ?_
    refine pB rfl rfl rfl ?_
    refine pB rfl rfl rfl ?_
    refine AOps.done ?_
    refine AWp.ret ?_
    subst h
    exact ⟨_, rfl, rfl⟩
def W_parse_kind (l1 : List Int) (Q : DV → Prop) : Prop :=
  Q (Fn_parse_kind_1 l1)
theorem walk_parse_kind {l1 : List Int} {r : DV} (h : W_parse_kind l1 (fun r' => r' = r)) : Ev_parse_kind l1 r := by
  unfold W_parse_kind at h
  refine AFn.intro' (L := [(0, .dat (.sl 3 1 (List.map (eInt .i64) l1)))]) tabOk Tryz.func93 rfl rfl Tryz.ntmps93 rfl rfl rfl ?_
  refine AWp.seq ?_
  refine AWp.regionN (fun _ => false) rfl ?_
  refine AOps.box (v := .dat (.sl _ _ _)) rfl rfl rfl rfl rfl rfl ?_
  refine AOps.mv rfl rfl (.inr rfl) rfl ?_
  refine AOps.done ?_
  refine AWp.seq ?_
  refine AWp.freezebox 1 1 rfl rfl ?_
  refine AWp.regionN (fun _ => false) rfl ?_
  refine AOps.mkfn (ds := [.pd (.sl 3 1 (List.map (eInt .i64) l1))]) rfl rfl rfl ⟨.inr ⟨_, rfl, rfl⟩, trivial⟩ ?_
  refine AOps.mv rfl rfl (.inr rfl) rfl ?_
  refine AOps.done ?_
  refine AWp.ret ?_
  subst h
  exact ⟨_, rfl, rfl⟩
def W_parse_dimension (t1 : GTree) (Q : Bool → Prop) : Prop :=
  Br (decide (t1.Kind ≥ (20 : Int))) (Q (decide (t1.Kind ≤ (24 : Int)))) (
    Q false)
theorem walk_parse_dimension {t1 : GTree} {r : Bool} (h : W_parse_dimension t1 (fun r' => r' = r)) : Ev_parse_dimension t1 r := by
  unfold W_parse_dimension at h
  refine AFn.intro' (L := [(0, .dat (GTree.out t1))]) tabOk Tryz.func94 rfl rfl Tryz.ntmps94 rfl rfl rfl ?_
  refine AWp.seq ?_
  refine AWp.regionN (fun _ => false) rfl ?_
  refine AOps.box (v := .dat (.st _ _)) rfl rfl rfl rfl rfl rfl ?_
  refine pB rfl rfl rfl ?_
  refine AOps.done ?_
  refine AWp.seq ?_
  refine AWp.regionN (fun _ => false) rfl ?_
  refine pP rfl rfl rfl ?_
  refine pI rfl rfl rfl ?_
  refine pB rfl rfl rfl ?_
  refine pB rfl rfl rfl ?_
  refine AOps.splitB 6 rfl (fun e => ?_) (fun e => ?_)
  · replace h := h.1 e
    refine pP rfl rfl rfl ?_
    refine pI rfl rfl rfl ?_
    refine pB rfl rfl rfl ?_
    refine pB rfl rfl rfl ?_
    refine pB rfl rfl rfl ?_
    refine AOps.done ?_
    refine AWp.ret ?_
    subst h
    exact ⟨_, rfl, rfl⟩
  · replace h := h.2 e
    refine AOps.off rfl rfl ?_
    refine AOps.off rfl rfl ?_
    refine AOps.off rfl rfl ?_
    refine pB rfl rfl rfl ?_
    refine pB rfl rfl rfl ?_
    refine AOps.done ?_
    refine AWp.ret ?_
    subst h
    exact ⟨_, rfl, rfl⟩
def W_parse_upto (n1 : Int) (lo2 : Int) (hi3 : Int) (Q : Bool → Prop) : Prop :=
  Br (decide (n1 ≥ lo2)) (Q (decide (n1 ≤ hi3))) (
    Q false)
theorem walk_parse_upto {n1 : Int} {lo2 : Int} {hi3 : Int} {r : Bool} (h : W_parse_upto n1 lo2 hi3 (fun r' => r' = r)) : Ev_parse_upto n1 lo2 hi3 r := by
  unfold W_parse_upto at h
  refine AFn.intro' (L := [(0, .dat (.v (.int .i64 n1))), (1, .dat (.v (.int .i64 lo2))), (2, .dat (.v (.int .i64 hi3)))]) tabOk Tryz.func95 rfl rfl Tryz.ntmps95 rfl rfl rfl ?_
  refine AWp.seq ?_
  refine AWp.regionN (fun _ => false) rfl ?_
  refine pB rfl rfl rfl ?_
  refine AOps.done ?_
  refine AWp.seq ?_
  refine AWp.regionN (fun _ => false) rfl ?_
  refine pI rfl rfl rfl ?_
  refine pI rfl rfl rfl ?_
  refine pB rfl rfl rfl ?_
  refine pB rfl rfl rfl ?_
  refine AOps.splitB 10 rfl (fun e => ?_) (fun e => ?_)
  · replace h := h.1 e
    refine pI rfl rfl rfl ?_
    refine pI rfl rfl rfl ?_
    refine pB rfl rfl rfl ?_
    refine pB rfl rfl rfl ?_
    refine pB rfl rfl rfl ?_
    refine AOps.done ?_
    refine AWp.ret ?_
    subst h
    exact ⟨_, rfl, rfl⟩
  · replace h := h.2 e
    refine AOps.off rfl rfl ?_
    refine AOps.off rfl rfl ?_
    refine AOps.off rfl rfl ?_
    refine pB rfl rfl rfl ?_
    refine pB rfl rfl rfl ?_
    refine AOps.done ?_
    refine AWp.ret ?_
    subst h
    exact ⟨_, rfl, rfl⟩
def W_parse_item (t1 : GTree) (Q : Bool → Prop) : Prop :=
  Br (decide (t1.Kind ≥ (33 : Int))) (
    Br (decide (t1.Kind ≤ (35 : Int))) (Q true) (
      Br (t1.Kind == (37 : Int)) (Q true) (
        Call (Ev_parse_rule t1) fun x6 =>
        Q x6))) (
    Br (t1.Kind == (37 : Int)) (Q true) (
      Call (Ev_parse_rule t1) fun x8 =>
      Q x8))
theorem walk_parse_item {t1 : GTree} {r : Bool} (h : W_parse_item t1 (fun r' => r' = r)) : Ev_parse_item t1 r := by
  unfold W_parse_item at h
  refine AFn.intro' (L := [(0, .dat (GTree.out t1))]) tabOk Tryz.func96 rfl rfl Tryz.ntmps96 rfl rfl rfl ?_
  refine AWp.seq ?_
  refine AWp.regionN (fun _ => false) rfl ?_
  refine AOps.box (v := .dat (.st _ _)) rfl rfl rfl rfl rfl rfl ?_
  refine pB rfl rfl rfl ?_
  refine AOps.done ?_
  refine AWp.seq ?_
  refine AWp.regionN (fun _ => false) rfl ?_
  refine pP rfl rfl rfl ?_
  refine pI rfl rfl rfl ?_
  refine pB rfl rfl rfl ?_
  refine pB rfl rfl rfl ?_
  refine AOps.splitB 6 rfl (fun e => ?_) (fun e => ?_)
  · replace h := h.1 e
    refine pP rfl rfl rfl ?_
    refine pI rfl rfl rfl ?_
    refine pB rfl rfl rfl ?_
    refine pB rfl rfl rfl ?_
    refine pB rfl rfl rfl ?_
    refine AOps.splitB 11 rfl (fun e => ?_) (fun e => ?_)
    · replace h := h.1 e
      refine AOps.off rfl rfl ?_
      refine AOps.off rfl rfl ?_
      refine AOps.off rfl rfl ?_
      refine pB rfl rfl rfl ?_
      refine pB rfl rfl rfl ?_
      refine AOps.off rfl rfl ?_
      refine AOps.off rfl rfl ?_
      refine pB rfl rfl rfl ?_
      refine pB rfl rfl rfl ?_
      refine AOps.done ?_
      refine AWp.ret ?_
      subst h
      exact ⟨_, rfl, rfl⟩
    · replace h := h.2 e
      refine pP rfl rfl rfl ?_
      refine pI rfl rfl rfl ?_
      refine pB rfl rfl rfl ?_
      refine pB rfl rfl rfl ?_
      refine pB rfl rfl rfl ?_
      refine AOps.splitB 16 rfl (fun e => ?_) (fun e => ?_)
      · replace h := h.1 e
        refine AOps.off rfl rfl ?_
        refine AOps.off rfl rfl ?_
        refine pB rfl rfl rfl ?_
        refine pB rfl rfl rfl ?_
        refine AOps.done ?_
        refine AWp.ret ?_
        subst h
        exact ⟨_, rfl, rfl⟩
      · replace h := h.2 e
        refine pT rfl rfl rfl ?_
        obtain ⟨x6, hc7, h⟩ := h
        refine AOps.call hc7 rfl rfl rfl ⟨.inl rfl, trivial⟩ ?_
        refine pB rfl rfl rfl ?_
        refine pB rfl rfl rfl ?_
        refine AOps.done ?_
        refine AWp.ret ?_
        subst h
        exact ⟨_, rfl, rfl⟩
  · replace h := h.2 e
    refine AOps.off rfl rfl ?_
    refine AOps.off rfl rfl ?_
    refine AOps.off rfl rfl ?_
    refine pB rfl rfl rfl ?_
    refine pB rfl rfl rfl ?_
    refine pP rfl rfl rfl ?_
    refine pI rfl rfl rfl ?_
    refine pB rfl rfl rfl ?_
    refine pB rfl rfl rfl ?_
    refine pB rfl rfl rfl ?_
    refine AOps.splitB 16 rfl (fun e => ?_) (fun e => ?_)
    · replace h := h.1 e
      refine AOps.off rfl rfl ?_
      refine AOps.off rfl rfl ?_
      refine pB rfl rfl rfl ?_
      refine pB rfl rfl rfl ?_
      refine AOps.done ?_
      refine AWp.ret ?_
      subst h
      exact ⟨_, rfl, rfl⟩
    · replace h := h.2 e
      refine pT rfl rfl rfl ?_
      obtain ⟨x8, hc9, h⟩ := h
      refine AOps.call hc9 rfl rfl rfl ⟨.inl rfl, trivial⟩ ?_
      refine pB rfl rfl rfl ?_
      refine pB rfl rfl rfl ?_
      refine AOps.done ?_
      refine AWp.ret ?_
      subst h
      exact ⟨_, rfl, rfl⟩
def W_parse_each (l1 : List GTree) (is2 : List DV) (Q : Bool → Prop) : Prop :=
  Br (((l1.length : Nat) : Int) != ((is2.length : Nat) : Int)) (Q false) (
    Loop1 (0 : Int) (fun (x71 : Int) next72 =>
      Br (decide (x71 < ((is2.length : Nat) : Int))) (
        At is2 x71 fun x83 =>
        IsFn x83 ∧
        At l1 x71 fun x87 =>
        Call (fun x89 : Bool => FVal prog x83 [GTree.out x87] (.v (.bool x89))) fun x89 =>
        Br (!x89) (Q false) (
          Let (IntKind.i64.wrap (x71 + (1 : Int))) fun x91 =>
          next72 x91)) (
        Q true)))
theorem walk_parse_each {l1 : List GTree} {is2 : List DV} {r : Bool} (h : W_parse_each l1 is2 (fun r' => r' = r)) : Ev_parse_each l1 is2 r := by
  unfold W_parse_each at h
  refine AFn.intro' (L := [(0, .dat (.sl 26 9 (List.map GTree.enc l1))), (1, .dat (.sl 29 1 (List.map id is2)))]) tabOk Tryz.func97 rfl rfl Tryz.ntmps97 rfl rfl rfl ?_
  refine AWp.seq ?_
  refine AWp.regionN (fun _ => false) rfl ?_
  refine pB rfl rfl rfl ?_
  refine AOps.done ?_
  refine AWp.seq ?_
  refine AWp.seq ?_
  refine AWp.regionN (fun _ => false) rfl ?_
  refine pS rfl rfl rfl ?_
  refine AOps.i (j := ((l1.length : Nat) : Int)) tabOk rfl rfl rfl (by first | (rw [List.length_map]; done) | rfl) ?_
  refine pS rfl rfl rfl ?_
  refine AOps.i (j := ((is2.length : Nat) : Int)) tabOk rfl rfl rfl (by first | (rw [List.length_map]; done) | rfl) ?_
  refine pB rfl rfl rfl ?_
  refine AOps.done ?_
  refine AWp.cond rfl (fun e => ?_) (fun e => ?_)
  · replace h := h.1 e
    refine AWp.seq ?_
    refine AWp.regionN (fun _ => false) rfl ?_
    refine pB rfl rfl rfl ?_
    refine AOps.done ?_
    refine AWp.ret ?_
    subst h
    exact ⟨_, rfl, rfl⟩
  · replace h := h.2 e
    refine AWp.skip ?_
    refine AWp.seq ?_
    refine AWp.seq ?_
    refine AWp.regionN (fun _ => false) rfl ?_
    refine pS rfl rfl rfl ?_
    refine AOps.i (j := ((is2.length : Nat) : Int)) tabOk rfl rfl rfl (by first | (rw [List.length_map]; done) | rfl) ?_
    refine pI rfl rfl rfl ?_
    refine AOps.done ?_
    refine AWp.block ?_
    obtain ⟨I92, x93, hz94, hr95⟩ := h
    refine AWp.loop (I := fun p : Int => mkSt [(0, .dat (.sl 26 9 (List.map GTree.enc l1))), (12, .dat (.sl 29 1 (List.map id is2))), (13, .dat (.v (.int .i64 ((is2.length : Nat) : Int)))), (14, .dat (.v (.int .i64 p)))] []) (Inv := fun p => I92 p) (μ := fun p => x93 p) (x0 := (0 : Int)) hz94 (Sub.list (fun i => i) rfl rfl ⟨rfl, rfl, rfl, rfl, trivial⟩ trivial) (fun p hp => ?_)
    have h := hr95 p hp
    revert h; clear hp; generalize p = x71; intro h
    refine AWp.seq ?_
    refine AWp.regionN (fun _ => false) rfl ?_
    refine pW rfl rfl rfl ?_
    refine AOps.done ?_
    refine AWp.seq ?_
    refine AWp.cond rfl (fun e => ?_) (fun e => ?_)
    · replace h := h.1 e
      refine AWp.skip ?_
      refine AWp.seq ?_
      refine AWp.block ?_
      refine AWp.seq ?_
      refine AWp.regionN (fun _ => false) rfl ?_
      refine pI rfl rfl rfl ?_
      obtain ⟨hi82, x83, hx84, h⟩ := h
      refine AOps.idx tabOk (z := x83) rfl rfl rfl rfl rfl rfl rfl rfl hi82 (map_get hx84) ?_
      obtain ⟨hf85, h⟩ := h
      refine AOps.loadfn tabOk rfl rfl rfl rfl rfl rfl hf85 ?_
      refine pI rfl rfl rfl ?_
      refine AOps.mv rfl rfl (.inr rfl) rfl ?_
      refine AOps.done ?_
      refine AWp.seq ?_
      refine AWp.regionN (fun _ => false) rfl ?_
      refine AOps.mv rfl rfl (.inl rfl) rfl ?_
      refine pS rfl rfl rfl ?_
      refine pI rfl rfl rfl ?_
      obtain ⟨hi86, x87, hx88, h⟩ := h
      refine AOps.idx tabOk (z := GTree.out x87) rfl rfl rfl rfl rfl rfl rfl rfl hi86 (GTree.get hx88) ?_
      refine pT rfl rfl rfl ?_
      obtain ⟨x89, hc90, h⟩ := h
      refine AOps.callv hc90 rfl rfl rfl rfl ⟨.inl rfl, trivial⟩ ?_
      refine pB rfl rfl rfl ?_
      refine AOps.done ?_
      refine AWp.cond rfl (fun e => ?_) (fun e => ?_)
      · replace h := h.1 e
        refine AWp.seq ?_
        refine AWp.regionN (fun _ => false) rfl ?_
        refine pB rfl rfl rfl ?_
        refine AOps.done ?_
        refine AWp.ret ?_
        subst h
        exact ⟨_, rfl, rfl⟩
      · replace h := h.2 e
        refine AWp.skip ?_
        refine AWp.regionN (fun _ => false) rfl ?_
        obtain ⟨x91, ex91, h⟩ := h.get
        refine AOps.i tabOk rfl rfl rfl ex91 ?_
        refine pI rfl rfl rfl ?_
        refine AOps.done ?_
        exact ⟨x91, h.1, h.2, (Sub.list (fun i => i) rfl rfl ⟨rfl, rfl, rfl, rfl, trivial⟩ trivial)⟩
    · replace h := h.2 e
      refine AWp.exit ?_
      refine AWp.seq ?_
      refine AWp.regionN (fun _ => false) rfl ?_
      refine pB rfl rfl rfl ?_
      refine AOps.done ?_
      refine AWp.ret ?_
      subst h
      exact ⟨_, rfl, rfl⟩
def W_parse_expression (t1 : GTree) (Q : Bool → Prop) : Prop :=
  Br (decide (t1.Kind ≥ (1 : Int))) (
    Br (decide (t1.Kind ≤ (12 : Int))) (Q (t1.Kind != (3 : Int))) (
      Q false)) (
    Q false)
theorem walk_parse_expression {t1 : GTree} {r : Bool} (h : W_parse_expression t1 (fun r' => r' = r)) : Ev_parse_expression t1 r := by
  unfold W_parse_expression at h
  refine AFn.intro' (L := [(0, .dat (GTree.out t1))]) tabOk Tryz.func98 rfl rfl Tryz.ntmps98 rfl rfl rfl ?_
  refine AWp.seq ?_
  refine AWp.regionN (fun _ => false) rfl ?_
  refine AOps.box (v := .dat (.st _ _)) rfl rfl rfl rfl rfl rfl ?_
  refine pB rfl rfl rfl ?_
  refine AOps.done ?_
  refine AWp.seq ?_
  refine AWp.regionN (fun _ => false) rfl ?_
  refine pP rfl rfl rfl ?_
  refine pI rfl rfl rfl ?_
  refine pB rfl rfl rfl ?_
  refine pB rfl rfl rfl ?_
  refine AOps.splitB 6 rfl (fun e => ?_) (fun e => ?_)
  · replace h := h.1 e
    refine pP rfl rfl rfl ?_
    refine pI rfl rfl rfl ?_
    refine pB rfl rfl rfl ?_
    refine pB rfl rfl rfl ?_
    refine pB rfl rfl rfl ?_
    refine AOps.splitB 11 rfl (fun e => ?_) (fun e => ?_)
    · replace h := h.1 e
      refine pP rfl rfl rfl ?_
      refine pI rfl rfl rfl ?_
      refine pB rfl rfl rfl ?_
      refine pB rfl rfl rfl ?_
      refine pB rfl rfl rfl ?_
      refine AOps.done ?_
      refine AWp.ret ?_
      subst h
      exact ⟨_, rfl, rfl⟩
    · replace h := h.2 e
      refine AOps.off rfl rfl ?_
      refine AOps.off rfl rfl ?_
      refine AOps.off rfl rfl ?_
      refine pB rfl rfl rfl ?_
      refine pB rfl rfl rfl ?_
      refine AOps.done ?_
      refine AWp.ret ?_
      subst h
      exact ⟨_, rfl, rfl⟩
  · replace h := h.2 e
    refine AOps.off rfl rfl ?_
    refine AOps.off rfl rfl ?_
    refine AOps.off rfl rfl ?_
    refine pB rfl rfl rfl ?_
    refine pB rfl rfl rfl ?_
    refine AOps.off rfl rfl ?_
    refine AOps.off rfl rfl ?_
    refine AOps.off rfl rfl ?_
    refine pB rfl rfl rfl ?_
    refine pB rfl rfl rfl ?_
    refine AOps.done ?_
    refine AWp.ret ?_
    subst h
    exact ⟨_, rfl, rfl⟩
def W_parse_named (s1 : ByteArray) (Q : Bool → Prop) : Prop :=
  Call (Ev_lex_Lex s1) fun x2 =>
  Br (x2.2.1 == (0 : Int)) (
    Br (((x2.1.length : Nat) : Int) == (2 : Int)) (
      At x2.1 (0 : Int) fun x13 =>
      Br (x13.Kind == (1 : Int)) (
        At x2.1 (0 : Int) fun x16 =>
        Q (x16.S.toList == s1.toList)) (
        Q false)) (
      Q false)) (
    Q false)
theorem walk_parse_named {s1 : ByteArray} {r : Bool} (h : W_parse_named s1 (fun r' => r' = r)) : Ev_parse_named s1 r := by
  unfold W_parse_named at h
  refine AFn.intro' (L := [(0, .dat (.v (.string s1)))]) tabOk Tryz.func99 rfl rfl Tryz.ntmps99 rfl rfl rfl ?_
  refine AWp.seq ?_
  refine AWp.regionN (fun _ => false) rfl ?_
  refine pB rfl rfl rfl ?_
  refine AOps.done ?_
  refine AWp.seq ?_
  refine AWp.regionN (fun _ => false) rfl ?_
  refine pG rfl rfl rfl ?_
  obtain ⟨x2, hc3, h⟩ := h
  refine AOps.call hc3 rfl rfl rfl ⟨.inl rfl, trivial⟩ ?_
  refine pU rfl rfl rfl ?_
  refine pS rfl rfl rfl ?_
  refine pI rfl rfl rfl ?_
  refine pI rfl rfl rfl ?_
  refine pS rfl rfl rfl ?_
  refine pI rfl rfl rfl ?_
  refine pI rfl rfl rfl ?_
  refine AOps.done ?_
  refine AWp.seq ?_
  refine AWp.regionN (fun _ => false) rfl ?_
  refine pI rfl rfl rfl ?_
  refine pB rfl rfl rfl ?_
  refine pB rfl rfl rfl ?_
  refine AOps.splitB 14 rfl (fun e => ?_) (fun e => ?_)
  · replace h := h.1 e
    refine pS rfl rfl rfl ?_
    refine AOps.i (j := ((x2.1.length : Nat) : Int)) tabOk rfl rfl rfl (by first | (rw [List.length_map]; done) | rfl) ?_
    refine pB rfl rfl rfl ?_
    refine pB rfl rfl rfl ?_
    refine pB rfl rfl rfl ?_
    refine AOps.splitB 19 rfl (fun e => ?_) (fun e => ?_)
    · replace h := h.1 e
      refine pS rfl rfl rfl ?_
      obtain ⟨hi12, x13, hx14, h⟩ := h
      refine AOps.idx tabOk (z := GToken.enc x13) rfl rfl rfl rfl rfl rfl rfl rfl hi12 (map_get hx14) ?_
      refine pX rfl rfl rfl ?_
      refine pI rfl rfl rfl ?_
      refine pB rfl rfl rfl ?_
      refine pB rfl rfl rfl ?_
      refine pB rfl rfl rfl ?_
      refine AOps.splitB 26 rfl (fun e => ?_) (fun e => ?_)
      · replace h := h.1 e
        refine pS rfl rfl rfl ?_
        obtain ⟨hi15, x16, hx17, h⟩ := h
        refine AOps.idx tabOk (z := GToken.enc x16) rfl rfl rfl rfl rfl rfl rfl rfl hi15 (map_get hx17) ?_
        refine pX rfl rfl rfl ?_
        refine pG rfl rfl rfl ?_
        refine pG rfl rfl rfl ?_
        refine pB rfl rfl rfl ?_
        refine pB rfl rfl rfl ?_
        refine pB rfl rfl rfl ?_
        refine AOps.done ?_
        refine AWp.ret ?_
        subst h
        exact ⟨_, rfl, rfl⟩
      · replace h := h.2 e
        refine AOps.off rfl rfl ?_
        refine AOps.off rfl rfl ?_
        refine AOps.off rfl rfl ?_
        refine AOps.off rfl rfl ?_
        refine AOps.off rfl rfl ?_
        refine AOps.off rfl rfl ?_
        refine pB rfl rfl rfl ?_
        refine pB rfl rfl rfl ?_
        refine AOps.done ?_
        refine AWp.ret ?_
        subst h
        exact ⟨_, rfl, rfl⟩
    · replace h := h.2 e
      refine AOps.off rfl rfl ?_
      refine AOps.off rfl rfl ?_
      refine AOps.off rfl rfl ?_
      refine AOps.off rfl rfl ?_
      refine AOps.off rfl rfl ?_
      refine pB rfl rfl rfl ?_
      refine pB rfl rfl rfl ?_
      refine AOps.off rfl rfl ?_
      refine AOps.off rfl rfl ?_
      refine AOps.off rfl rfl ?_
      refine AOps.off rfl rfl ?_
      refine AOps.off rfl rfl ?_
      refine AOps.off rfl rfl ?_
      refine pB rfl rfl rfl ?_
      refine pB rfl rfl rfl ?_
      refine AOps.done ?_
      refine AWp.ret ?_
      subst h
      exact ⟨_, rfl, rfl⟩
  · replace h := h.2 e
    refine AOps.off rfl rfl ?_
    refine AOps.off rfl rfl ?_
    refine AOps.off rfl rfl ?_
    refine pB rfl rfl rfl ?_
    refine pB rfl rfl rfl ?_
    refine AOps.off rfl rfl ?_
    refine AOps.off rfl rfl ?_
    refine AOps.off rfl rfl ?_
    refine AOps.off rfl rfl ?_
    refine AOps.off rfl rfl ?_
    refine pB rfl rfl rfl ?_
    refine pB rfl rfl rfl ?_
    refine AOps.off rfl rfl ?_
    refine AOps.off rfl rfl ?_
    refine AOps.off rfl rfl ?_
    refine AOps.off rfl rfl ?_
    refine AOps.off rfl rfl ?_
    refine AOps.off rfl rfl ?_
    refine pB rfl rfl rfl ?_
    refine pB rfl rfl rfl ?_
    refine AOps.done ?_
    refine AWp.ret ?_
    subst h
    exact ⟨_, rfl, rfl⟩
def W_parse_rule (t1 : GTree) (Q : Bool → Prop) : Prop :=
  Br (decide (t1.Kind ≥ (38 : Int))) (Q (decide (t1.Kind ≤ (40 : Int)))) (
    Q false)
theorem walk_parse_rule {t1 : GTree} {r : Bool} (h : W_parse_rule t1 (fun r' => r' = r)) : Ev_parse_rule t1 r := by
  unfold W_parse_rule at h
  refine AFn.intro' (L := [(0, .dat (GTree.out t1))]) tabOk Tryz.func100 rfl rfl Tryz.ntmps100 rfl rfl rfl ?_
  refine AWp.seq ?_
  refine AWp.regionN (fun _ => false) rfl ?_
  refine AOps.box (v := .dat (.st _ _)) rfl rfl rfl rfl rfl rfl ?_
  refine pB rfl rfl rfl ?_
  refine AOps.done ?_
  refine AWp.seq ?_
  refine AWp.regionN (fun _ => false) rfl ?_
  refine pP rfl rfl rfl ?_
  refine pI rfl rfl rfl ?_
  refine pB rfl rfl rfl ?_
  refine pB rfl rfl rfl ?_
  refine AOps.splitB 6 rfl (fun e => ?_) (fun e => ?_)
  · replace h := h.1 e
    refine pP rfl rfl rfl ?_
    refine pI rfl rfl rfl ?_
    refine pB rfl rfl rfl ?_
    refine pB rfl rfl rfl ?_
    refine pB rfl rfl rfl ?_
    refine AOps.done ?_
    refine AWp.ret ?_
    subst h
    exact ⟨_, rfl, rfl⟩
  · replace h := h.2 e
    refine AOps.off rfl rfl ?_
    refine AOps.off rfl rfl ?_
    refine AOps.off rfl rfl ?_
    refine pB rfl rfl rfl ?_
    refine pB rfl rfl rfl ?_
    refine AOps.done ?_
    refine AWp.ret ?_
    subst h
    exact ⟨_, rfl, rfl⟩
def W_parse_low (x1 : GTree) (x2 : GTree) (Q : Bool → Prop) : Prop :=
  Join2 (fun j51 =>
    Br (x1.Kind == (1 : Int)) (
      Call (Ev_parse_decimal x1.Num) fun x52 =>
      Br x52 (j51 ({ x2 with Num := x1.Num }) (((x1.Kids.length : Nat) : Int) == (0 : Int))) (
        j51 ({ x2 with Num := x1.Num }) false)) (
      Br (x1.Kind == (2 : Int)) (
        Call (Ev_parse_kind ([(3 : Int)])) fun x55 =>
        Call (Ev_parse_all x1.Kids (1 : Int) (-1 : Int) x55) fun x57 =>
        j51 x2 x57) (
        Br (x1.Kind == (3 : Int)) (
          Call (Ev_parse_named x1.Name) fun x59 =>
          Br x59 (
            Call (Ev_parse_all x1.Kids (0 : Int) (1 : Int) Fn_parse_index) fun x61 =>
            j51 ({ x2 with Name := x1.Name }) x61) (
            j51 ({ x2 with Name := x1.Name }) false)) (
          Br (x1.Kind == (4 : Int)) (
            Call (Ev_parse_kind ([(2 : Int)])) fun x63 =>
            IsFn x63 ∧
            Call (Ev_parse_each x1.Kids ([x63])) fun x65 =>
            j51 x2 x65) (
            Join1 (fun j69 =>
              Br (x1.Kind == (5 : Int)) (j69 (x1.Kind == (5 : Int))) (
                j69 (x1.Kind == (20 : Int)))
            ) (fun (x68 : Bool) =>
              Br x68 (j51 x2 (((x1.Kids.length : Nat) : Int) == (0 : Int))) (
                Br (x1.Kind == (6 : Int)) (
                  Call (Ev_parse_upto x1.N (9 : Int) (14 : Int)) fun x71 =>
                  Br x71 (
                    Call (Ev_parse_each x1.Kids ([Fn_parse_expression])) fun x73 =>
                    j51 ({ x2 with N := x1.N }) x73) (
                    j51 ({ x2 with N := x1.N }) false)) (
                  Br (x1.Kind == (7 : Int)) (
                    Call (Ev_parse_each x1.Kids ([Fn_parse_expression])) fun x75 =>
                    j51 x2 x75) (
                    Br (x1.Kind == (12 : Int)) (
                      Call (Ev_parse_upto x1.N (-64 : Int) (64 : Int)) fun x77 =>
                      Br x77 (
                        Call (Ev_parse_each x1.Kids ([Fn_parse_expression])) fun x79 =>
                        j51 ({ x2 with N := x1.N }) x79) (
                        j51 ({ x2 with N := x1.N }) false)) (
                      Br (x1.Kind == (21 : Int)) (
                        Call (Ev_parse_named x1.Name) fun x81 =>
                        Br x81 (j51 ({ x2 with Name := x1.Name }) (((x1.Kids.length : Nat) : Int) == (0 : Int))) (
                          j51 ({ x2 with Name := x1.Name }) false)) (
                        Join1 (fun j85 =>
                          Br (x1.Kind == (22 : Int)) (j85 (x1.Kind == (22 : Int))) (
                            j85 (x1.Kind == (23 : Int)))
                        ) (fun (x84 : Bool) =>
                          Br x84 (
                            Call (Ev_parse_each x1.Kids ([Fn_parse_dimension, Fn_parse_dimension])) fun x86 =>
                            j51 x2 x86) (
                            Br (x1.Kind == (24 : Int)) (
                              Call (Ev_rat_Right x1.Num) fun x88 =>
                              Br x88 (
                                Br (decide (x1.Num.N ≥ (-64 : Int))) (
                                  Br (decide (x1.Num.N ≤ (64 : Int))) (
                                    Br (decide (x1.Num.D ≤ (64 : Int))) (
                                      Call (Ev_parse_each x1.Kids ([Fn_parse_dimension])) fun x90 =>
                                      j51 ({ x2 with Num := x1.Num }) x90) (
                                      j51 ({ x2 with Num := x1.Num }) false)) (
                                    j51 ({ x2 with Num := x1.Num }) false)) (
                                  j51 ({ x2 with Num := x1.Num }) false)) (
                                j51 ({ x2 with Num := x1.Num }) false)) (
                              j51 x2 false)))))))))))))
  ) (fun (x49 : GTree) (x50 : Bool) =>
    Br x50 (
      Call (Ev_parse_same x1 x49) fun x100 =>
      Q x100) (
      Q false))
theorem walk_parse_low {x1 : GTree} {x2 : GTree} {r : Bool} (h : W_parse_low x1 x2 (fun r' => r' = r)) : Ev_parse_low x1 x2 r := by
  unfold W_parse_low at h
  refine AFn.intro' (L := [(0, .dat (GTree.out x1)), (1, .dat (GTree.out x2))]) tabOk Tryz.func101 rfl rfl Tryz.ntmps101 rfl rfl rfl ?_
  refine AWp.seq ?_
  refine AWp.regionN (fun _ => false) rfl ?_
  refine AOps.box (v := .dat (.st _ _)) rfl rfl rfl rfl rfl rfl ?_
  refine AOps.box (v := .dat (.st _ _)) rfl rfl rfl rfl rfl rfl ?_
  refine pB rfl rfl rfl ?_
  refine AOps.done ?_
  refine AWp.seq ?_
  refine AWp.regionN (fun _ => false) rfl ?_
  refine pB rfl rfl rfl ?_
  refine AOps.done ?_
  refine AWp.seq ?_
  refine AWp.regionN (fun _ => false) rfl ?_
  refine pP rfl rfl rfl ?_
  refine pS rfl rfl rfl ?_
  refine pS rfl rfl rfl ?_
  refine AOps.done ?_
  refine AWp.seq ?_
  refine AWp.seq ?_
  refine AWp.regionN (fun _ => false) rfl ?_
  refine pP rfl rfl rfl ?_
  refine pI rfl rfl rfl ?_
  refine AOps.done ?_
  obtain ⟨J102, hj103, hk104⟩ := h
  refine AWp.cutK (I := fun p : GTree × Bool => mkSt [(2, .pt 2 [] 0), (3, .pt 3 [] 0), (5, .dat (.v (.bool p.2)))] [(2, .box 26 9 (.dat (GTree.out x1))), (3, .box 26 9 (.dat (GTree.out p.1)))]) (Inv := fun p : GTree × Bool => J102 p.1 p.2) ?_ (fun p hp => ?_)
  · have h := hj103
    refine AWp.block ?_
    refine AWp.seq ?_
    refine AWp.regionN (fun _ => false) rfl ?_
    refine pB rfl rfl rfl ?_
    refine pB rfl rfl rfl ?_
    refine AOps.done ?_
    refine AWp.cond rfl (fun e => ?_) (fun e => ?_)
    · replace h := h.1 e
      first | refine AWp.regionD (fun o => writes o) mixed (by decide +kernel) rfl ?_ | refine AWp.regionE [(2, 2), (3, 3), (14, 2), (16, 2), (24, 3)] (fun o => writes o) mixed (by decide +kernel) rfl (Fix.cons (fun _ h => h) (Fix.cons (fun _ h => h) (Fix.cons (fun _ h => False.elim h) (Fix.cons (fun _ h => False.elim h) (Fix.cons (fun _ h => False.elim h) Fix.nil))))) ?_ | refine AWp.regionE [(2, 2), (3, 3), (14, 2), (16, 2), (24, 3), (6, 999999), (20, 999999)] (fun o => writes o) mixed (by decide +kernel) rfl (Fix.cons (fun _ h => h) (Fix.cons (fun _ h => h) (Fix.cons (fun _ h => False.elim h) (Fix.cons (fun _ h => False.elim h) (Fix.cons (fun _ h => False.elim h) (Fix.cons (fun _ h => False.elim h) (Fix.cons (fun _ h => False.elim h) Fix.nil))))))) ?_
      refine pP rfl rfl rfl ?_
      refine pT rfl rfl rfl ?_
      refine pP rfl rfl rfl ?_
      refine pT rfl rfl rfl ?_
      obtain ⟨x52, hc53, h⟩ := h
      refine AOps.call hc53 rfl rfl rfl ⟨.inl rfl, trivial⟩ ?_
      refine pB rfl rfl rfl ?_
      refine AOps.splitB 19 rfl (fun e => ?_) (fun e => ?_)
      · replace h := h.1 e
        refine pS rfl rfl rfl ?_
        refine AOps.i (j := ((x1.Kids.length : Nat) : Int)) tabOk rfl rfl rfl (by first | (rw [List.length_map]; done) | rfl) ?_
        refine pB rfl rfl rfl ?_
        refine pB rfl rfl rfl ?_
        refine pP rfl rfl rfl ?_
        refine AOps.store tabOk (v := .dat (.st _ _)) rfl rfl rfl rfl rfl rfl rfl rfl rfl rfl rfl rfl rfl ?_
        refine pB rfl rfl rfl ?_
        refine AOps.done ?_
        exact ⟨⟨({ x2 with Num := x1.Num }), (((x1.Kids.length : Nat) : Int) == (0 : Int))⟩, h, (Sub.list (fun i => i) rfl rfl ⟨rfl, rfl, rfl, trivial⟩ ⟨rfl, rfl, trivial⟩)⟩
      · replace h := h.2 e
        refine AOps.off rfl rfl ?_
        refine AOps.off rfl rfl ?_
        refine AOps.off rfl rfl ?_
        refine pB rfl rfl rfl ?_
        refine pP rfl rfl rfl ?_
        refine AOps.store tabOk (v := .dat (.st _ _)) rfl rfl rfl rfl rfl rfl rfl rfl rfl rfl rfl rfl rfl ?_
        refine pB rfl rfl rfl ?_
        refine AOps.done ?_
        exact ⟨⟨({ x2 with Num := x1.Num }), false⟩, h, (Sub.list (fun i => i) rfl rfl ⟨rfl, rfl, rfl, trivial⟩ ⟨rfl, rfl, trivial⟩)⟩
    · replace h := h.2 e
      refine AWp.seq ?_
      refine AWp.regionN (fun _ => false) rfl ?_
      refine pB rfl rfl rfl ?_
      refine pB rfl rfl rfl ?_
      refine AOps.done ?_
      refine AWp.cond rfl (fun e => ?_) (fun e => ?_)
      · replace h := h.1 e
        refine AWp.regionN (fun _ => false) rfl ?_
        refine pS rfl rfl rfl ?_
        refine AOps.lit tabOk (ys := [.v (.int .i64 (3 : Int))]) rfl rfl rfl rfl rfl rfl ?_
        obtain ⟨x55, hc56, h⟩ := h
        refine AOps.call hc56 rfl rfl rfl ⟨.inl rfl, trivial⟩ ?_
        obtain ⟨x57, hc58, h⟩ := h
        refine AOps.call hc58 rfl rfl rfl ⟨.inl rfl, .inl rfl, .inl rfl, .inl rfl, trivial⟩ ?_
        refine pB rfl rfl rfl ?_
        refine AOps.done ?_
        exact ⟨⟨x2, x57⟩, h, (Sub.list (fun i => i) rfl rfl ⟨rfl, rfl, rfl, trivial⟩ ⟨rfl, rfl, trivial⟩)⟩
      · replace h := h.2 e
        refine AWp.seq ?_
        refine AWp.regionN (fun _ => false) rfl ?_
        refine pB rfl rfl rfl ?_
        refine pB rfl rfl rfl ?_
        refine AOps.done ?_
        refine AWp.cond rfl (fun e => ?_) (fun e => ?_)
        · replace h := h.1 e
          first | refine AWp.regionD (fun o => writes o) mixed (by decide +kernel) rfl ?_ | refine AWp.regionE [(2, 2), (3, 3), (33, 2), (35, 2), (42, 3)] (fun o => writes o) mixed (by decide +kernel) rfl (Fix.cons (fun _ h => h) (Fix.cons (fun _ h => h) (Fix.cons (fun _ h => False.elim h) (Fix.cons (fun _ h => False.elim h) (Fix.cons (fun _ h => False.elim h) Fix.nil))))) ?_ | refine AWp.regionE [(2, 2), (3, 3), (33, 2), (35, 2), (42, 3), (6, 999999), (39, 999999)] (fun o => writes o) mixed (by decide +kernel) rfl (Fix.cons (fun _ h => h) (Fix.cons (fun _ h => h) (Fix.cons (fun _ h => False.elim h) (Fix.cons (fun _ h => False.elim h) (Fix.cons (fun _ h => False.elim h) (Fix.cons (fun _ h => False.elim h) (Fix.cons (fun _ h => False.elim h) Fix.nil))))))) ?_
          refine pP rfl rfl rfl ?_
          refine pG rfl rfl rfl ?_
          refine pP rfl rfl rfl ?_
          refine pG rfl rfl rfl ?_
          obtain ⟨x59, hc60, h⟩ := h
          refine AOps.call hc60 rfl rfl rfl ⟨.inl rfl, trivial⟩ ?_
          refine pB rfl rfl rfl ?_
          refine AOps.splitB 38 rfl (fun e => ?_) (fun e => ?_)
          · replace h := h.1 e
            refine pS rfl rfl rfl ?_
            obtain ⟨x61, hc62, h⟩ := h
            refine AOps.call hc62 rfl rfl rfl ⟨.inl rfl, .inl rfl, .inl rfl, .inl rfl, trivial⟩ ?_
            refine pB rfl rfl rfl ?_
            refine pP rfl rfl rfl ?_
            refine AOps.store tabOk (v := .dat (.v (.string _))) rfl rfl rfl rfl rfl rfl rfl rfl rfl rfl rfl rfl rfl ?_
            refine pB rfl rfl rfl ?_
            refine AOps.done ?_
            exact ⟨⟨({ x2 with Name := x1.Name }), x61⟩, h, (Sub.list (fun i => i) rfl rfl ⟨rfl, rfl, rfl, trivial⟩ ⟨rfl, rfl, trivial⟩)⟩
          · replace h := h.2 e
            refine AOps.off rfl rfl ?_
            refine AOps.off rfl rfl ?_
            refine pB rfl rfl rfl ?_
            refine pP rfl rfl rfl ?_
            refine AOps.store tabOk (v := .dat (.v (.string _))) rfl rfl rfl rfl rfl rfl rfl rfl rfl rfl rfl rfl rfl ?_
            refine pB rfl rfl rfl ?_
            refine AOps.done ?_
            exact ⟨⟨({ x2 with Name := x1.Name }), false⟩, h, (Sub.list (fun i => i) rfl rfl ⟨rfl, rfl, rfl, trivial⟩ ⟨rfl, rfl, trivial⟩)⟩
        · replace h := h.2 e
          refine AWp.seq ?_
          refine AWp.regionN (fun _ => false) rfl ?_
          refine pB rfl rfl rfl ?_
          refine pB rfl rfl rfl ?_
          refine AOps.done ?_
          refine AWp.cond rfl (fun e => ?_) (fun e => ?_)
          · replace h := h.1 e
            refine AWp.regionN (fun _ => false) rfl ?_
            refine pS rfl rfl rfl ?_
            refine AOps.lit tabOk (ys := [.v (.int .i64 (2 : Int))]) rfl rfl rfl rfl rfl rfl ?_
            obtain ⟨x63, hc64, h⟩ := h
            refine AOps.call hc64 rfl rfl rfl ⟨.inl rfl, trivial⟩ ?_
            obtain ⟨hf67, h⟩ := h
            refine AOps.lit tabOk (ys := [x63]) rfl rfl rfl rfl rfl (by exact (buildS_step (d := x63) rfl rfl hf67 rfl)) ?_
            obtain ⟨x65, hc66, h⟩ := h
            refine AOps.call hc66 rfl rfl rfl ⟨.inl rfl, .inl rfl, trivial⟩ ?_
            refine pB rfl rfl rfl ?_
            refine AOps.done ?_
            exact ⟨⟨x2, x65⟩, h, (Sub.list (fun i => i) rfl rfl ⟨rfl, rfl, rfl, trivial⟩ ⟨rfl, rfl, trivial⟩)⟩
          · replace h := h.2 e
            refine AWp.seq ?_
            refine AWp.seq ?_
            refine AWp.regionN (fun _ => false) rfl ?_
            refine pB rfl rfl rfl ?_
            refine pB rfl rfl rfl ?_
            refine AOps.done ?_
            obtain ⟨J95, hj96, hk97⟩ := h
            refine AWp.cutK (I := fun p : Bool => mkSt [(2, .pt 2 [] 0), (3, .pt 3 [] 0), (5, .dat (.v (.bool false))), (6, .dat (.sl 26 9 (List.map GTree.enc x1.Kids))), (11, .dat (.v (.int .i64 x1.Kind))), (50, .dat (.v (.bool p)))] [(2, .box 26 9 (.dat (GTree.out x1))), (3, .box 26 9 (.dat (GTree.out x2)))]) (Inv := fun p : Bool => J95 p) ?_ (fun p hp => ?_)
            · have h := hj96
              refine AWp.cond rfl (fun e => ?_) (fun e => ?_)
              · replace h := h.1 e
                refine AWp.skip ?_
                exact ⟨(x1.Kind == (5 : Int)), h, (Sub.list (fun i => i) rfl rfl ⟨rfl, rfl, rfl, rfl, rfl, rfl, trivial⟩ ⟨rfl, rfl, trivial⟩)⟩
              · replace h := h.2 e
                refine AWp.regionN (fun _ => false) rfl ?_
                refine pB rfl rfl rfl ?_
                refine pB rfl rfl rfl ?_
                refine AOps.done ?_
                exact ⟨(x1.Kind == (20 : Int)), h, (Sub.list (fun i => i) rfl rfl ⟨rfl, rfl, rfl, rfl, rfl, rfl, trivial⟩ ⟨rfl, rfl, trivial⟩)⟩
            · have h := hk97 p hp
              revert h; clear hp; generalize p = x68; intro h
              refine AWp.cond rfl (fun e => ?_) (fun e => ?_)
              · replace h := h.1 e
                refine AWp.regionN (fun _ => false) rfl ?_
                refine pS rfl rfl rfl ?_
                refine AOps.i (j := ((x1.Kids.length : Nat) : Int)) tabOk rfl rfl rfl (by first | (rw [List.length_map]; done) | rfl) ?_
                refine pB rfl rfl rfl ?_
                refine pB rfl rfl rfl ?_
                refine AOps.done ?_
                exact ⟨⟨x2, (((x1.Kids.length : Nat) : Int) == (0 : Int))⟩, h, (Sub.list (fun i => i) rfl rfl ⟨rfl, rfl, rfl, trivial⟩ ⟨rfl, rfl, trivial⟩)⟩
              · replace h := h.2 e
                refine AWp.seq ?_
                refine AWp.regionN (fun _ => false) rfl ?_
                refine pB rfl rfl rfl ?_
                refine pB rfl rfl rfl ?_
                refine AOps.done ?_
                refine AWp.cond rfl (fun e => ?_) (fun e => ?_)
                · replace h := h.1 e
                  first | refine AWp.regionD (fun o => writes o) mixed (by decide +kernel) rfl ?_ | refine AWp.regionE [(2, 2), (3, 3), (58, 2), (60, 2), (68, 3)] (fun o => writes o) mixed (by decide +kernel) rfl (Fix.cons (fun _ h => h) (Fix.cons (fun _ h => h) (Fix.cons (fun _ h => False.elim h) (Fix.cons (fun _ h => False.elim h) (Fix.cons (fun _ h => False.elim h) Fix.nil))))) ?_ | refine AWp.regionE [(2, 2), (3, 3), (58, 2), (60, 2), (68, 3), (6, 999999), (64, 999999)] (fun o => writes o) mixed (by decide +kernel) rfl (Fix.cons (fun _ h => h) (Fix.cons (fun _ h => h) (Fix.cons (fun _ h => False.elim h) (Fix.cons (fun _ h => False.elim h) (Fix.cons (fun _ h => False.elim h) (Fix.cons (fun _ h => False.elim h) (Fix.cons (fun _ h => False.elim h) Fix.nil))))))) ?_
                  refine pP rfl rfl rfl ?_
                  refine pI rfl rfl rfl ?_
                  refine pP rfl rfl rfl ?_
                  refine pI rfl rfl rfl ?_
                  obtain ⟨x71, hc72, h⟩ := h
                  refine AOps.call hc72 rfl rfl rfl ⟨.inl rfl, .inl rfl, .inl rfl, trivial⟩ ?_
                  refine pB rfl rfl rfl ?_
                  refine AOps.splitB 63 rfl (fun e => ?_) (fun e => ?_)
                  · replace h := h.1 e
                    refine pS rfl rfl rfl ?_
                    refine AOps.lit tabOk (ys := [Fn_parse_expression]) rfl rfl rfl rfl rfl rfl ?_
                    obtain ⟨x73, hc74, h⟩ := h
                    refine AOps.call hc74 rfl rfl rfl ⟨.inl rfl, .inl rfl, trivial⟩ ?_
                    refine pB rfl rfl rfl ?_
                    refine pP rfl rfl rfl ?_
                    refine AOps.store tabOk (v := .dat (.v (.int _ _))) rfl rfl rfl rfl rfl rfl rfl rfl rfl rfl rfl rfl rfl ?_
                    refine pB rfl rfl rfl ?_
                    refine AOps.done ?_
                    exact ⟨⟨({ x2 with N := x1.N }), x73⟩, h, (Sub.list (fun i => i) rfl rfl ⟨rfl, rfl, rfl, trivial⟩ ⟨rfl, rfl, trivial⟩)⟩
                  · replace h := h.2 e
                    refine AOps.off rfl rfl ?_
                    refine AOps.off rfl rfl ?_
                    refine AOps.off rfl rfl ?_
                    refine pB rfl rfl rfl ?_
                    refine pP rfl rfl rfl ?_
                    refine AOps.store tabOk (v := .dat (.v (.int _ _))) rfl rfl rfl rfl rfl rfl rfl rfl rfl rfl rfl rfl rfl ?_
                    refine pB rfl rfl rfl ?_
                    refine AOps.done ?_
                    exact ⟨⟨({ x2 with N := x1.N }), false⟩, h, (Sub.list (fun i => i) rfl rfl ⟨rfl, rfl, rfl, trivial⟩ ⟨rfl, rfl, trivial⟩)⟩
                · replace h := h.2 e
                  refine AWp.seq ?_
                  refine AWp.regionN (fun _ => false) rfl ?_
                  refine pB rfl rfl rfl ?_
                  refine pB rfl rfl rfl ?_
                  refine AOps.done ?_
                  refine AWp.cond rfl (fun e => ?_) (fun e => ?_)
                  · replace h := h.1 e
                    refine AWp.regionN (fun _ => false) rfl ?_
                    refine pS rfl rfl rfl ?_
                    refine AOps.lit tabOk (ys := [Fn_parse_expression]) rfl rfl rfl rfl rfl rfl ?_
                    obtain ⟨x75, hc76, h⟩ := h
                    refine AOps.call hc76 rfl rfl rfl ⟨.inl rfl, .inl rfl, trivial⟩ ?_
                    refine pB rfl rfl rfl ?_
                    refine AOps.done ?_
                    exact ⟨⟨x2, x75⟩, h, (Sub.list (fun i => i) rfl rfl ⟨rfl, rfl, rfl, trivial⟩ ⟨rfl, rfl, trivial⟩)⟩
                  · replace h := h.2 e
                    refine AWp.seq ?_
                    refine AWp.regionN (fun _ => false) rfl ?_
                    refine pB rfl rfl rfl ?_
                    refine pB rfl rfl rfl ?_
                    refine AOps.done ?_
                    refine AWp.cond rfl (fun e => ?_) (fun e => ?_)
                    · replace h := h.1 e
                      first | refine AWp.regionD (fun o => writes o) mixed (by decide +kernel) rfl ?_ | refine AWp.regionE [(2, 2), (3, 3), (76, 2), (78, 2), (86, 3)] (fun o => writes o) mixed (by decide +kernel) rfl (Fix.cons (fun _ h => h) (Fix.cons (fun _ h => h) (Fix.cons (fun _ h => False.elim h) (Fix.cons (fun _ h => False.elim h) (Fix.cons (fun _ h => False.elim h) Fix.nil))))) ?_ | refine AWp.regionE [(2, 2), (3, 3), (76, 2), (78, 2), (86, 3), (6, 999999), (82, 999999)] (fun o => writes o) mixed (by decide +kernel) rfl (Fix.cons (fun _ h => h) (Fix.cons (fun _ h => h) (Fix.cons (fun _ h => False.elim h) (Fix.cons (fun _ h => False.elim h) (Fix.cons (fun _ h => False.elim h) (Fix.cons (fun _ h => False.elim h) (Fix.cons (fun _ h => False.elim h) Fix.nil))))))) ?_
                      refine pP rfl rfl rfl ?_
                      refine pI rfl rfl rfl ?_
                      refine pP rfl rfl rfl ?_
                      refine pI rfl rfl rfl ?_
                      obtain ⟨x77, hc78, h⟩ := h
                      refine AOps.call hc78 rfl rfl rfl ⟨.inl rfl, .inl rfl, .inl rfl, trivial⟩ ?_
                      refine pB rfl rfl rfl ?_
                      refine AOps.splitB 81 rfl (fun e => ?_) (fun e => ?_)
                      · replace h := h.1 e
                        refine pS rfl rfl rfl ?_
                        refine AOps.lit tabOk (ys := [Fn_parse_expression]) rfl rfl rfl rfl rfl rfl ?_
                        obtain ⟨x79, hc80, h⟩ := h
                        refine AOps.call hc80 rfl rfl rfl ⟨.inl rfl, .inl rfl, trivial⟩ ?_
                        refine pB rfl rfl rfl ?_
                        refine pP rfl rfl rfl ?_
                        refine AOps.store tabOk (v := .dat (.v (.int _ _))) rfl rfl rfl rfl rfl rfl rfl rfl rfl rfl rfl rfl rfl ?_
                        refine pB rfl rfl rfl ?_
                        refine AOps.done ?_
                        exact ⟨⟨({ x2 with N := x1.N }), x79⟩, h, (Sub.list (fun i => i) rfl rfl ⟨rfl, rfl, rfl, trivial⟩ ⟨rfl, rfl, trivial⟩)⟩
                      · replace h := h.2 e
                        refine AOps.off rfl rfl ?_
                        refine AOps.off rfl rfl ?_
                        refine AOps.off rfl rfl ?_
                        refine pB rfl rfl rfl ?_
                        refine pP rfl rfl rfl ?_
                        refine AOps.store tabOk (v := .dat (.v (.int _ _))) rfl rfl rfl rfl rfl rfl rfl rfl rfl rfl rfl rfl rfl ?_
                        refine pB rfl rfl rfl ?_
                        refine AOps.done ?_
                        exact ⟨⟨({ x2 with N := x1.N }), false⟩, h, (Sub.list (fun i => i) rfl rfl ⟨rfl, rfl, rfl, trivial⟩ ⟨rfl, rfl, trivial⟩)⟩
                    · replace h := h.2 e
                      refine AWp.seq ?_
                      refine AWp.regionN (fun _ => false) rfl ?_
                      refine pB rfl rfl rfl ?_
                      refine pB rfl rfl rfl ?_
                      refine AOps.done ?_
                      refine AWp.cond rfl (fun e => ?_) (fun e => ?_)
                      · replace h := h.1 e
                        first | refine AWp.regionD (fun o => writes o) mixed (by decide +kernel) rfl ?_ | refine AWp.regionE [(2, 2), (3, 3), (89, 2), (91, 2), (99, 3)] (fun o => writes o) mixed (by decide +kernel) rfl (Fix.cons (fun _ h => h) (Fix.cons (fun _ h => h) (Fix.cons (fun _ h => False.elim h) (Fix.cons (fun _ h => False.elim h) (Fix.cons (fun _ h => False.elim h) Fix.nil))))) ?_ | refine AWp.regionE [(2, 2), (3, 3), (89, 2), (91, 2), (99, 3), (6, 999999), (95, 999999)] (fun o => writes o) mixed (by decide +kernel) rfl (Fix.cons (fun _ h => h) (Fix.cons (fun _ h => h) (Fix.cons (fun _ h => False.elim h) (Fix.cons (fun _ h => False.elim h) (Fix.cons (fun _ h => False.elim h) (Fix.cons (fun _ h => False.elim h) (Fix.cons (fun _ h => False.elim h) Fix.nil))))))) ?_
                        refine pP rfl rfl rfl ?_
                        refine pG rfl rfl rfl ?_
                        refine pP rfl rfl rfl ?_
                        refine pG rfl rfl rfl ?_
                        obtain ⟨x81, hc82, h⟩ := h
                        refine AOps.call hc82 rfl rfl rfl ⟨.inl rfl, trivial⟩ ?_
                        refine pB rfl rfl rfl ?_
                        refine AOps.splitB 94 rfl (fun e => ?_) (fun e => ?_)
                        · replace h := h.1 e
                          refine pS rfl rfl rfl ?_
                          refine AOps.i (j := ((x1.Kids.length : Nat) : Int)) tabOk rfl rfl rfl (by first | (rw [List.length_map]; done) | rfl) ?_
                          refine pB rfl rfl rfl ?_
                          refine pB rfl rfl rfl ?_
                          refine pP rfl rfl rfl ?_
                          refine AOps.store tabOk (v := .dat (.v (.string _))) rfl rfl rfl rfl rfl rfl rfl rfl rfl rfl rfl rfl rfl ?_
                          refine pB rfl rfl rfl ?_
                          refine AOps.done ?_
                          exact ⟨⟨({ x2 with Name := x1.Name }), (((x1.Kids.length : Nat) : Int) == (0 : Int))⟩, h, (Sub.list (fun i => i) rfl rfl ⟨rfl, rfl, rfl, trivial⟩ ⟨rfl, rfl, trivial⟩)⟩
                        · replace h := h.2 e
                          refine AOps.off rfl rfl ?_
                          refine AOps.off rfl rfl ?_
                          refine AOps.off rfl rfl ?_
                          refine pB rfl rfl rfl ?_
                          refine pP rfl rfl rfl ?_
                          refine AOps.store tabOk (v := .dat (.v (.string _))) rfl rfl rfl rfl rfl rfl rfl rfl rfl rfl rfl rfl rfl ?_
                          refine pB rfl rfl rfl ?_
                          refine AOps.done ?_
                          exact ⟨⟨({ x2 with Name := x1.Name }), false⟩, h, (Sub.list (fun i => i) rfl rfl ⟨rfl, rfl, rfl, trivial⟩ ⟨rfl, rfl, trivial⟩)⟩
                      · replace h := h.2 e
                        refine AWp.seq ?_
                        refine AWp.seq ?_
                        refine AWp.regionN (fun _ => false) rfl ?_
                        refine pB rfl rfl rfl ?_
                        refine pB rfl rfl rfl ?_
                        refine AOps.done ?_
                        obtain ⟨J92, hj93, hk94⟩ := h
                        refine AWp.cutK (I := fun p : Bool => mkSt [(2, .pt 2 [] 0), (3, .pt 3 [] 0), (5, .dat (.v (.bool false))), (6, .dat (.sl 26 9 (List.map GTree.enc x1.Kids))), (11, .dat (.v (.int .i64 x1.Kind))), (100, .dat (.v (.bool p)))] [(2, .box 26 9 (.dat (GTree.out x1))), (3, .box 26 9 (.dat (GTree.out x2)))]) (Inv := fun p : Bool => J92 p) ?_ (fun p hp => ?_)
                        · have h := hj93
                          refine AWp.cond rfl (fun e => ?_) (fun e => ?_)
                          · replace h := h.1 e
                            refine AWp.skip ?_
                            exact ⟨(x1.Kind == (22 : Int)), h, (Sub.list (fun i => i) rfl rfl ⟨rfl, rfl, rfl, rfl, rfl, rfl, trivial⟩ ⟨rfl, rfl, trivial⟩)⟩
                          · replace h := h.2 e
                            refine AWp.regionN (fun _ => false) rfl ?_
                            refine pB rfl rfl rfl ?_
                            refine pB rfl rfl rfl ?_
                            refine AOps.done ?_
                            exact ⟨(x1.Kind == (23 : Int)), h, (Sub.list (fun i => i) rfl rfl ⟨rfl, rfl, rfl, rfl, rfl, rfl, trivial⟩ ⟨rfl, rfl, trivial⟩)⟩
                        · have h := hk94 p hp
                          revert h; clear hp; generalize p = x84; intro h
                          refine AWp.cond rfl (fun e => ?_) (fun e => ?_)
                          · replace h := h.1 e
                            refine AWp.regionN (fun _ => false) rfl ?_
                            refine pS rfl rfl rfl ?_
                            refine AOps.lit tabOk (ys := [Fn_parse_dimension, Fn_parse_dimension]) rfl rfl rfl rfl rfl rfl ?_
                            obtain ⟨x86, hc87, h⟩ := h
                            refine AOps.call hc87 rfl rfl rfl ⟨.inl rfl, .inl rfl, trivial⟩ ?_
                            refine pB rfl rfl rfl ?_
                            refine AOps.done ?_
                            exact ⟨⟨x2, x86⟩, h, (Sub.list (fun i => i) rfl rfl ⟨rfl, rfl, rfl, trivial⟩ ⟨rfl, rfl, trivial⟩)⟩
                          · replace h := h.2 e
                            refine AWp.seq ?_
                            refine AWp.regionN (fun _ => false) rfl ?_
                            refine pB rfl rfl rfl ?_
                            refine pB rfl rfl rfl ?_
                            refine AOps.done ?_
                            refine AWp.cond rfl (fun e => ?_) (fun e => ?_)
                            · replace h := h.1 e
                              refine AWp.seq ?_
                              refine AWp.regionN (fun o => writes o) rfl ?_
                              refine pP rfl rfl rfl ?_
                              refine pT rfl rfl rfl ?_
                              refine AOps.alloc tabOk rfl rfl rfl rfl rfl ?_
                              refine AOps.store tabOk (v := .dat (.st _ _)) rfl rfl rfl rfl rfl rfl rfl rfl rfl rfl rfl rfl rfl ?_
                              refine AOps.done ?_
                              first | refine AWp.regionD (fun o => writes o) mixed (by decide +kernel) rfl ?_ | refine AWp.regionE [(7, 7), (3, 3), (114, 7), (119, 7), (124, 7), (133, 3)] (fun o => writes o) mixed (by decide +kernel) rfl (Fix.cons (fun _ h => h) (Fix.cons (fun _ h => h) (Fix.cons (fun _ h => False.elim h) (Fix.cons (fun _ h => False.elim h) (Fix.cons (fun _ h => False.elim h) (Fix.cons (fun _ h => False.elim h) Fix.nil)))))) ?_ | refine AWp.regionE [(7, 7), (3, 3), (114, 7), (119, 7), (124, 7), (133, 3), (6, 999999), (129, 999999)] (fun o => writes o) mixed (by decide +kernel) rfl (Fix.cons (fun _ h => h) (Fix.cons (fun _ h => h) (Fix.cons (fun _ h => False.elim h) (Fix.cons (fun _ h => False.elim h) (Fix.cons (fun _ h => False.elim h) (Fix.cons (fun _ h => False.elim h) (Fix.cons (fun _ h => False.elim h) (Fix.cons (fun _ h => False.elim h) Fix.nil)))))))) ?_
                              refine pT rfl rfl rfl ?_
                              refine pT rfl rfl rfl ?_
                              obtain ⟨x88, hc89, h⟩ := h
                              refine AOps.call hc89 rfl rfl rfl ⟨.inl rfl, trivial⟩ ?_
                              refine pB rfl rfl rfl ?_
                              refine AOps.splitB 113 rfl (fun e => ?_) (fun e => ?_)
                              · replace h := h.1 e
                                refine pP rfl rfl rfl ?_
                                refine pI rfl rfl rfl ?_
                                refine pB rfl rfl rfl ?_
                                refine pB rfl rfl rfl ?_
                                refine pB rfl rfl rfl ?_
                                refine AOps.splitB 118 rfl (fun e => ?_) (fun e => ?_)
                                · replace h := h.1 e
                                  refine pP rfl rfl rfl ?_
                                  refine pI rfl rfl rfl ?_
                                  refine pB rfl rfl rfl ?_
                                  refine pB rfl rfl rfl ?_
                                  refine pB rfl rfl rfl ?_
                                  refine AOps.splitB 123 rfl (fun e => ?_) (fun e => ?_)
                                  · replace h := h.1 e
                                    refine pP rfl rfl rfl ?_
                                    refine pI rfl rfl rfl ?_
                                    refine pB rfl rfl rfl ?_
                                    refine pB rfl rfl rfl ?_
                                    refine pB rfl rfl rfl ?_
                                    refine AOps.splitB 128 rfl (fun e => ?_) (fun e => ?_)
                                    · replace h := h.1 e
                                      refine pS rfl rfl rfl ?_
                                      refine AOps.lit tabOk (ys := [Fn_parse_dimension]) rfl rfl rfl rfl rfl rfl ?_
                                      obtain ⟨x90, hc91, h⟩ := h
                                      refine AOps.call hc91 rfl rfl rfl ⟨.inl rfl, .inl rfl, trivial⟩ ?_
                                      refine pB rfl rfl rfl ?_
                                      refine pP rfl rfl rfl ?_
                                      refine AOps.store tabOk (v := .dat (.st _ _)) rfl rfl rfl rfl rfl rfl rfl rfl rfl rfl rfl rfl rfl ?_
                                      refine pB rfl rfl rfl ?_
                                      refine AOps.done ?_
                                      exact ⟨⟨({ x2 with Num := x1.Num }), x90⟩, h, (Sub.list (fun i => i) rfl rfl ⟨rfl, rfl, rfl, trivial⟩ ⟨rfl, rfl, trivial⟩)⟩
                                    · replace h := h.2 e
                                      refine AOps.off rfl rfl ?_
                                      refine AOps.off rfl rfl ?_
                                      refine AOps.off rfl rfl ?_
                                      refine pB rfl rfl rfl ?_
                                      refine pP rfl rfl rfl ?_
                                      refine AOps.store tabOk (v := .dat (.st _ _)) rfl rfl rfl rfl rfl rfl rfl rfl rfl rfl rfl rfl rfl ?_
                                      refine pB rfl rfl rfl ?_
                                      refine AOps.done ?_
                                      exact ⟨⟨({ x2 with Num := x1.Num }), false⟩, h, (Sub.list (fun i => i) rfl rfl ⟨rfl, rfl, rfl, trivial⟩ ⟨rfl, rfl, trivial⟩)⟩
                                  · replace h := h.2 e
                                    refine AOps.off rfl rfl ?_
                                    refine AOps.off rfl rfl ?_
                                    refine AOps.off rfl rfl ?_
                                    refine pB rfl rfl rfl ?_
                                    refine pB rfl rfl rfl ?_
                                    refine AOps.off rfl rfl ?_
                                    refine AOps.off rfl rfl ?_
                                    refine AOps.off rfl rfl ?_
                                    refine pB rfl rfl rfl ?_
                                    refine pP rfl rfl rfl ?_
                                    refine AOps.store tabOk (v := .dat (.st _ _)) rfl rfl rfl rfl rfl rfl rfl rfl rfl rfl rfl rfl rfl ?_
                                    refine pB rfl rfl rfl ?_
                                    refine AOps.done ?_
                                    exact ⟨⟨({ x2 with Num := x1.Num }), false⟩, h, (Sub.list (fun i => i) rfl rfl ⟨rfl, rfl, rfl, trivial⟩ ⟨rfl, rfl, trivial⟩)⟩
                                · replace h := h.2 e
                                  refine AOps.off rfl rfl ?_
                                  refine AOps.off rfl rfl ?_
                                  refine AOps.off rfl rfl ?_
                                  refine pB rfl rfl rfl ?_
                                  refine pB rfl rfl rfl ?_
                                  refine AOps.off rfl rfl ?_
                                  refine AOps.off rfl rfl ?_
                                  refine AOps.off rfl rfl ?_
                                  refine pB rfl rfl rfl ?_
                                  refine pB rfl rfl rfl ?_
                                  refine AOps.off rfl rfl ?_
                                  refine AOps.off rfl rfl ?_
                                  refine AOps.off rfl rfl ?_
                                  refine pB rfl rfl rfl ?_
                                  refine pP rfl rfl rfl ?_
                                  refine AOps.store tabOk (v := .dat (.st _ _)) rfl rfl rfl rfl rfl rfl rfl rfl rfl rfl rfl rfl rfl ?_
                                  refine pB rfl rfl rfl ?_
                                  refine AOps.done ?_
                                  exact ⟨⟨({ x2 with Num := x1.Num }), false⟩, h, (Sub.list (fun i => i) rfl rfl ⟨rfl, rfl, rfl, trivial⟩ ⟨rfl, rfl, trivial⟩)⟩
                              · replace h := h.2 e
                                refine AOps.off rfl rfl ?_
                                refine AOps.off rfl rfl ?_
                                refine AOps.off rfl rfl ?_
                                refine pB rfl rfl rfl ?_
                                refine pB rfl rfl rfl ?_
                                refine AOps.off rfl rfl ?_
                                refine AOps.off rfl rfl ?_
                                refine AOps.off rfl rfl ?_
                                refine pB rfl rfl rfl ?_
                                refine pB rfl rfl rfl ?_
                                refine AOps.off rfl rfl ?_
                                refine AOps.off rfl rfl ?_
                                refine AOps.off rfl rfl ?_
                                refine pB rfl rfl rfl ?_
                                refine pB rfl rfl rfl ?_
                                refine AOps.off rfl rfl ?_
                                refine AOps.off rfl rfl ?_
                                refine AOps.off rfl rfl ?_
                                refine pB rfl rfl rfl ?_
                                refine pP rfl rfl rfl ?_
                                refine AOps.store tabOk (v := .dat (.st _ _)) rfl rfl rfl rfl rfl rfl rfl rfl rfl rfl rfl rfl rfl ?_
                                refine pB rfl rfl rfl ?_
                                refine AOps.done ?_
                                exact ⟨⟨({ x2 with Num := x1.Num }), false⟩, h, (Sub.list (fun i => i) rfl rfl ⟨rfl, rfl, rfl, trivial⟩ ⟨rfl, rfl, trivial⟩)⟩
                            · replace h := h.2 e
                              refine AWp.skip ?_
                              exact ⟨⟨x2, false⟩, h, (Sub.list (fun i => i) rfl rfl ⟨rfl, rfl, rfl, trivial⟩ ⟨rfl, rfl, trivial⟩)⟩
  · obtain ⟨x49, x50⟩ := p
    have h := hk104 x49 x50 hp
    refine AWp.seq ?_
    refine AWp.regionN (fun _ => false) rfl ?_
    refine pB rfl rfl rfl ?_
    refine pB rfl rfl rfl ?_
    refine AOps.splitB 135 rfl (fun e => ?_) (fun e => ?_)
    · replace h := h.1 e
      refine pT rfl rfl rfl ?_
      refine pT rfl rfl rfl ?_
      obtain ⟨x100, hc101, h⟩ := h
      refine AOps.call hc101 rfl rfl rfl ⟨.inl rfl, .inl rfl, trivial⟩ ?_
      refine pB rfl rfl rfl ?_
      refine pB rfl rfl rfl ?_
      refine AOps.done ?_
      refine AWp.ret ?_
      subst h
      exact ⟨_, rfl, rfl⟩
    · replace h := h.2 e
      refine AOps.off rfl rfl ?_
      refine AOps.off rfl rfl ?_
      refine AOps.off rfl rfl ?_
      refine pB rfl rfl rfl ?_
      refine pB rfl rfl rfl ?_
      refine AOps.done ?_
      refine AWp.ret ?_
      subst h
      exact ⟨_, rfl, rfl⟩
def W_parse_same (a1 : GTree) (b2 : GTree) (Q : Bool → Prop) : Prop :=
  Br (a1.Kind == b2.Kind) (
    Br (a1.Name.toList == b2.Name.toList) (
      Br (a1.Alias.toList == b2.Alias.toList) (
        Br (a1.N == b2.N) (
          Br (a1.M == b2.M) (
            Br (a1.Flag == b2.Flag) (Q (GRat.beq a1.Num b2.Num)) (
              Q false)) (
            Q false)) (
          Q false)) (
        Q false)) (
      Q false)) (
    Q false)
theorem walk_parse_same {a1 : GTree} {b2 : GTree} {r : Bool} (h : W_parse_same a1 b2 (fun r' => r' = r)) : Ev_parse_same a1 b2 r := by
  unfold W_parse_same at h
  refine AFn.intro' (L := [(0, .dat (GTree.out a1)), (1, .dat (GTree.out b2))]) tabOk Tryz.func102 rfl rfl Tryz.ntmps102 rfl rfl rfl ?_
  refine AWp.seq ?_
  refine AWp.regionN (fun _ => false) rfl ?_
  refine AOps.box (v := .dat (.st _ _)) rfl rfl rfl rfl rfl rfl ?_
  refine AOps.box (v := .dat (.st _ _)) rfl rfl rfl rfl rfl rfl ?_
  refine pB rfl rfl rfl ?_
  refine AOps.done ?_
  refine AWp.seq ?_
  refine AWp.regionN (fun _ => false) rfl ?_
  refine pP rfl rfl rfl ?_
  refine pI rfl rfl rfl ?_
  refine pP rfl rfl rfl ?_
  refine pI rfl rfl rfl ?_
  refine pB rfl rfl rfl ?_
  refine pB rfl rfl rfl ?_
  refine AOps.splitB 10 rfl (fun e => ?_) (fun e => ?_)
  · replace h := h.1 e
    refine pP rfl rfl rfl ?_
    refine pG rfl rfl rfl ?_
    refine pP rfl rfl rfl ?_
    refine pG rfl rfl rfl ?_
    refine pB rfl rfl rfl ?_
    refine pB rfl rfl rfl ?_
    refine pB rfl rfl rfl ?_
    refine AOps.splitB 17 rfl (fun e => ?_) (fun e => ?_)
    · replace h := h.1 e
      refine pP rfl rfl rfl ?_
      refine pG rfl rfl rfl ?_
      refine pP rfl rfl rfl ?_
      refine pG rfl rfl rfl ?_
      refine pB rfl rfl rfl ?_
      refine pB rfl rfl rfl ?_
      refine pB rfl rfl rfl ?_
      refine AOps.splitB 24 rfl (fun e => ?_) (fun e => ?_)
      · replace h := h.1 e
        refine pP rfl rfl rfl ?_
        refine pI rfl rfl rfl ?_
        refine pP rfl rfl rfl ?_
        refine pI rfl rfl rfl ?_
        refine pB rfl rfl rfl ?_
        refine pB rfl rfl rfl ?_
        refine pB rfl rfl rfl ?_
        refine AOps.splitB 31 rfl (fun e => ?_) (fun e => ?_)
        · replace h := h.1 e
          refine pP rfl rfl rfl ?_
          refine pI rfl rfl rfl ?_
          refine pP rfl rfl rfl ?_
          refine pI rfl rfl rfl ?_
          refine pB rfl rfl rfl ?_
          refine pB rfl rfl rfl ?_
          refine pB rfl rfl rfl ?_
          refine AOps.splitB 38 rfl (fun e => ?_) (fun e => ?_)
          · replace h := h.1 e
            refine pP rfl rfl rfl ?_
            refine pB rfl rfl rfl ?_
            refine pP rfl rfl rfl ?_
            refine pB rfl rfl rfl ?_
            refine pB rfl rfl rfl ?_
            refine pB rfl rfl rfl ?_
            refine pB rfl rfl rfl ?_
            refine AOps.splitB 45 rfl (fun e => ?_) (fun e => ?_)
            · replace h := h.1 e
              refine pP rfl rfl rfl ?_
              refine pT rfl rfl rfl ?_
              refine pP rfl rfl rfl ?_
              refine pT rfl rfl rfl ?_
              refine AOps.eqs rfl rfl rfl rfl rfl rfl rfl (by decide +kernel) (GRat.eqok23 _ a1.Num b2.Num) ?_
              refine pB rfl rfl rfl ?_
              refine pB rfl rfl rfl ?_
              refine AOps.done ?_
              refine AWp.ret ?_
              subst h
              exact ⟨_, rfl, rfl⟩
            · replace h := h.2 e
              refine AOps.off rfl rfl ?_
              refine AOps.off rfl rfl ?_
              refine AOps.off rfl rfl ?_
              refine AOps.off rfl rfl ?_
              refine AOps.off rfl rfl ?_
              refine pB rfl rfl rfl ?_
              refine pB rfl rfl rfl ?_
              refine AOps.done ?_
              refine AWp.ret ?_
              subst h
              exact ⟨_, rfl, rfl⟩
          · replace h := h.2 e
            refine AOps.off rfl rfl ?_
            refine AOps.off rfl rfl ?_
            refine AOps.off rfl rfl ?_
            refine AOps.off rfl rfl ?_
            refine AOps.off rfl rfl ?_
            refine pB rfl rfl rfl ?_
            refine pB rfl rfl rfl ?_
            refine AOps.off rfl rfl ?_
            refine AOps.off rfl rfl ?_
            refine AOps.off rfl rfl ?_
            refine AOps.off rfl rfl ?_
            refine AOps.off rfl rfl ?_
            refine pB rfl rfl rfl ?_
            refine pB rfl rfl rfl ?_
            refine AOps.done ?_
            refine AWp.ret ?_
            subst h
            exact ⟨_, rfl, rfl⟩
        · replace h := h.2 e
          refine AOps.off rfl rfl ?_
          refine AOps.off rfl rfl ?_
          refine AOps.off rfl rfl ?_
          refine AOps.off rfl rfl ?_
          refine AOps.off rfl rfl ?_
          refine pB rfl rfl rfl ?_
          refine pB rfl rfl rfl ?_
          refine AOps.off rfl rfl ?_
          refine AOps.off rfl rfl ?_
          refine AOps.off rfl rfl ?_
          refine AOps.off rfl rfl ?_
          refine AOps.off rfl rfl ?_
          refine pB rfl rfl rfl ?_
          refine pB rfl rfl rfl ?_
          refine AOps.off rfl rfl ?_
          refine AOps.off rfl rfl ?_
          refine AOps.off rfl rfl ?_
          refine AOps.off rfl rfl ?_
          refine AOps.off rfl rfl ?_
          refine pB rfl rfl rfl ?_
          refine pB rfl rfl rfl ?_
          refine AOps.done ?_
          refine AWp.ret ?_
          subst h
          exact ⟨_, rfl, rfl⟩
      · replace h := h.2 e
        refine AOps.off rfl rfl ?_
        refine AOps.off rfl rfl ?_
        refine AOps.off rfl rfl ?_
        refine AOps.off rfl rfl ?_
        refine AOps.off rfl rfl ?_
        refine pB rfl rfl rfl ?_
        refine pB rfl rfl rfl ?_
        refine AOps.off rfl rfl ?_
        refine AOps.off rfl rfl ?_
        refine AOps.off rfl rfl ?_
        refine AOps.off rfl rfl ?_
        refine AOps.off rfl rfl ?_
        refine pB rfl rfl rfl ?_
        refine pB rfl rfl rfl ?_
        refine AOps.off rfl rfl ?_
        refine AOps.off rfl rfl ?_
        refine AOps.off rfl rfl ?_
        refine AOps.off rfl rfl ?_
        refine AOps.off rfl rfl ?_
        refine pB rfl rfl rfl ?_
        refine pB rfl rfl rfl ?_
        refine AOps.off rfl rfl ?_
        refine AOps.off rfl rfl ?_
        refine AOps.off rfl rfl ?_
        refine AOps.off rfl rfl ?_
        refine AOps.off rfl rfl ?_
        refine pB rfl rfl rfl ?_
        refine pB rfl rfl rfl ?_
        refine AOps.done ?_
        refine AWp.ret ?_
        subst h
        exact ⟨_, rfl, rfl⟩
    · replace h := h.2 e
      refine AOps.off rfl rfl ?_
      refine AOps.off rfl rfl ?_
      refine AOps.off rfl rfl ?_
      refine AOps.off rfl rfl ?_
      refine AOps.off rfl rfl ?_
      refine pB rfl rfl rfl ?_
      refine pB rfl rfl rfl ?_
      refine AOps.off rfl rfl ?_
      refine AOps.off rfl rfl ?_
      refine AOps.off rfl rfl ?_
      refine AOps.off rfl rfl ?_
      refine AOps.off rfl rfl ?_
      refine pB rfl rfl rfl ?_
      refine pB rfl rfl rfl ?_
      refine AOps.off rfl rfl ?_
      refine AOps.off rfl rfl ?_
      refine AOps.off rfl rfl ?_
      refine AOps.off rfl rfl ?_
      refine AOps.off rfl rfl ?_
      refine pB rfl rfl rfl ?_
      refine pB rfl rfl rfl ?_
      refine AOps.off rfl rfl ?_
      refine AOps.off rfl rfl ?_
      refine AOps.off rfl rfl ?_
      refine AOps.off rfl rfl ?_
      refine AOps.off rfl rfl ?_
      refine pB rfl rfl rfl ?_
      refine pB rfl rfl rfl ?_
      refine AOps.off rfl rfl ?_
      refine AOps.off rfl rfl ?_
      refine AOps.off rfl rfl ?_
      refine AOps.off rfl rfl ?_
      refine AOps.off rfl rfl ?_
      refine pB rfl rfl rfl ?_
      refine pB rfl rfl rfl ?_
      refine AOps.done ?_
      refine AWp.ret ?_
      subst h
      exact ⟨_, rfl, rfl⟩
  · replace h := h.2 e
    refine AOps.off rfl rfl ?_
    refine AOps.off rfl rfl ?_
    refine AOps.off rfl rfl ?_
    refine AOps.off rfl rfl ?_
    refine AOps.off rfl rfl ?_
    refine pB rfl rfl rfl ?_
    refine pB rfl rfl rfl ?_
    refine AOps.off rfl rfl ?_
    refine AOps.off rfl rfl ?_
    refine AOps.off rfl rfl ?_
    refine AOps.off rfl rfl ?_
    refine AOps.off rfl rfl ?_
    refine pB rfl rfl rfl ?_
    refine pB rfl rfl rfl ?_
    refine AOps.off rfl rfl ?_
    refine AOps.off rfl rfl ?_
    refine AOps.off rfl rfl ?_
    refine AOps.off rfl rfl ?_
    refine AOps.off rfl rfl ?_
    refine pB rfl rfl rfl ?_
    refine pB rfl rfl rfl ?_
    refine AOps.off rfl rfl ?_
    refine AOps.off rfl rfl ?_
    refine AOps.off rfl rfl ?_
    refine AOps.off rfl rfl ?_
    refine AOps.off rfl rfl ?_
    refine pB rfl rfl rfl ?_
    refine pB rfl rfl rfl ?_
    refine AOps.off rfl rfl ?_
    refine AOps.off rfl rfl ?_
    refine AOps.off rfl rfl ?_
    refine AOps.off rfl rfl ?_
    refine AOps.off rfl rfl ?_
    refine pB rfl rfl rfl ?_
    refine pB rfl rfl rfl ?_
    refine AOps.off rfl rfl ?_
    refine AOps.off rfl rfl ?_
    refine AOps.off rfl rfl ?_
    refine AOps.off rfl rfl ?_
    refine AOps.off rfl rfl ?_
    refine pB rfl rfl rfl ?_
    refine pB rfl rfl rfl ?_
    refine AOps.done ?_
    refine AWp.ret ?_
    subst h
    exact ⟨_, rfl, rfl⟩
def W_parse_names (k1 : Int) (Q : Bool → Prop) : Prop :=
  Call (Ev_slices_Contains_int ([(31 : Int), (32 : Int), (33 : Int), (34 : Int), (35 : Int), (36 : Int), (40 : Int), (3 : Int), (21 : Int)]) k1) fun x2 =>
  Q x2
theorem walk_parse_names {k1 : Int} {r : Bool} (h : W_parse_names k1 (fun r' => r' = r)) : Ev_parse_names k1 r := by
  unfold W_parse_names at h
  refine AFn.intro' (L := [(0, .dat (.v (.int .i64 k1)))]) tabOk Tryz.func103 rfl rfl Tryz.ntmps103 rfl rfl rfl ?_
  refine AWp.seq ?_
  refine AWp.regionN (fun _ => false) rfl ?_
  refine pB rfl rfl rfl ?_
  refine AOps.done ?_
  refine AWp.seq ?_
  refine AWp.regionN (fun _ => false) rfl ?_
  refine AOps.lit tabOk (ys := [.v (.int .i64 (31 : Int)), .v (.int .i64 (32 : Int)), .v (.int .i64 (33 : Int)), .v (.int .i64 (34 : Int)), .v (.int .i64 (35 : Int)), .v (.int .i64 (36 : Int)), .v (.int .i64 (40 : Int)), .v (.int .i64 (3 : Int)), .v (.int .i64 (21 : Int))]) rfl rfl rfl rfl rfl rfl ?_
  refine pI rfl rfl rfl ?_
  obtain ⟨x2, hc3, h⟩ := h
  refine AOps.call hc3 rfl rfl rfl ⟨.inl rfl, .inl rfl, trivial⟩ ?_
  refine pB rfl rfl rfl ?_
  refine AOps.done ?_
  refine AWp.ret ?_
  subst h
  exact ⟨_, rfl, rfl⟩
def W_parse_all_1 (t1 : GTree) (x2 : DV) (Q : Bool → Prop) : Prop :=
  IsFn x2 ∧
  Call (fun x4 : Bool => FVal prog x2 [GTree.out t1] (.v (.bool x4))) fun x4 =>
  Q (!x4)
theorem walk_parse_all_1 {t1 : GTree} {x2 : DV} {r : Bool} (h : W_parse_all_1 t1 x2 (fun r' => r' = r)) : Ev_parse_all_1 t1 x2 r := by
  unfold W_parse_all_1 at h
  refine AFn.intro' (L := [(0, .dat (GTree.out t1)), (1, .dat (.pd (x2)))]) tabOk Tryz.func104 rfl rfl Tryz.ntmps104 rfl rfl rfl ?_
  refine AWp.unpd 1 rfl ?_
  refine AWp.seq ?_
  refine AWp.regionN (fun _ => false) rfl ?_
  refine AOps.box (v := .dat (.st _ _)) rfl rfl rfl rfl rfl rfl ?_
  refine pB rfl rfl rfl ?_
  refine AOps.done ?_
  refine AWp.seq ?_
  refine AWp.regionN (fun _ => false) rfl ?_
  obtain ⟨hf3, h⟩ := h
  refine AOps.loadfn tabOk rfl rfl rfl rfl rfl rfl hf3 ?_
  refine pT rfl rfl rfl ?_
  obtain ⟨x4, hc5, h⟩ := h
  refine AOps.callv hc5 rfl rfl rfl rfl ⟨.inl rfl, trivial⟩ ?_
  refine pB rfl rfl rfl ?_
  refine pB rfl rfl rfl ?_
  refine AOps.done ?_
  refine AWp.ret ?_
  subst h
  exact ⟨_, rfl, rfl⟩
def W_parse_kind_1 (t1 : GTree) (x2 : List Int) (Q : Bool → Prop) : Prop :=
  Call (Ev_slices_Contains_int x2 t1.Kind) fun x3 =>
  Q x3
theorem walk_parse_kind_1 {t1 : GTree} {x2 : List Int} {r : Bool} (h : W_parse_kind_1 t1 x2 (fun r' => r' = r)) : Ev_parse_kind_1 t1 x2 r := by
  unfold W_parse_kind_1 at h
  refine AFn.intro' (L := [(0, .dat (GTree.out t1)), (1, .dat (.pd (.sl 3 1 (List.map (eInt .i64) x2))))]) tabOk Tryz.func148 rfl rfl Tryz.ntmps148 rfl rfl rfl ?_
  refine AWp.unpd 1 rfl ?_
  refine AWp.seq ?_
  refine AWp.regionN (fun _ => false) rfl ?_
  refine AOps.box (v := .dat (.st _ _)) rfl rfl rfl rfl rfl rfl ?_
  refine pB rfl rfl rfl ?_
  refine AOps.done ?_
  refine AWp.seq ?_
  refine AWp.regionN (fun _ => false) rfl ?_
  refine pS rfl rfl rfl ?_
  refine pP rfl rfl rfl ?_
  refine pI rfl rfl rfl ?_
  obtain ⟨x3, hc4, h⟩ := h
  refine AOps.call hc4 rfl rfl rfl ⟨.inl rfl, .inl rfl, trivial⟩ ?_
  refine pB rfl rfl rfl ?_
  refine AOps.done ?_
  refine AWp.ret ?_
  subst h
  exact ⟨_, rfl, rfl⟩
def W_slices_Contains_int (s1 : List Int) (v2 : Int) (Q : Bool → Prop) : Prop :=
  Call (Ev_slices_Index_int s1 v2) fun x3 =>
  Q (decide (x3 ≥ (0 : Int)))
theorem walk_slices_Contains_int {s1 : List Int} {v2 : Int} {r : Bool} (h : W_slices_Contains_int s1 v2 (fun r' => r' = r)) : Ev_slices_Contains_int s1 v2 r := by
  unfold W_slices_Contains_int at h
  refine AFn.intro' (L := [(0, .dat (.sl 3 1 (List.map (eInt .i64) s1))), (1, .dat (.v (.int .i64 v2)))]) tabOk Tryz.func149 rfl rfl Tryz.ntmps149 rfl rfl rfl ?_
  refine AWp.seq ?_
  refine AWp.regionN (fun _ => false) rfl ?_
  refine pB rfl rfl rfl ?_
  refine AOps.done ?_
  refine AWp.seq ?_
  refine AWp.regionN (fun _ => false) rfl ?_
  refine pS rfl rfl rfl ?_
  refine pI rfl rfl rfl ?_
  obtain ⟨x3, hc4, h⟩ := h
  refine AOps.call hc4 rfl rfl rfl ⟨.inl rfl, .inl rfl, trivial⟩ ?_
  refine pB rfl rfl rfl ?_
  refine pB rfl rfl rfl ?_
  refine AOps.done ?_
  refine AWp.ret ?_
  subst h
  exact ⟨_, rfl, rfl⟩
def W_parse_decimal (a1 : GRat) (Q : Bool → Prop) : Prop :=
  Call (Ev_rat_Right a1) fun x5 =>
  Br x5 (
    Br (decide (a1.N ≥ (0 : Int))) (
      Nz a1.D <|
      Let (Int.tmod (1000000000000000000 : Int) a1.D) fun x7 =>
      Q (x7 == (0 : Int))) (
      Q false)) (
    Q false)
theorem walk_parse_decimal {a1 : GRat} {r : Bool} (h : W_parse_decimal a1 (fun r' => r' = r)) : Ev_parse_decimal a1 r := by
  unfold W_parse_decimal at h
  refine AFn.intro' (L := [(0, .dat (GRat.enc a1))]) tabOk Tryz.func150 rfl rfl Tryz.ntmps150 rfl rfl rfl ?_
  refine AWp.seq ?_
  refine AWp.regionN (fun _ => false) rfl ?_
  refine AOps.box (v := .dat (.st _ _)) rfl rfl rfl rfl rfl rfl ?_
  refine pB rfl rfl rfl ?_
  refine AOps.done ?_
  refine AWp.seq ?_
  refine AWp.regionN (fun _ => false) rfl ?_
  refine pT rfl rfl rfl ?_
  obtain ⟨x5, hc6, h⟩ := h
  refine AOps.call hc6 rfl rfl rfl ⟨.inl rfl, trivial⟩ ?_
  refine pB rfl rfl rfl ?_
  refine AOps.splitB 5 rfl (fun e => ?_) (fun e => ?_)
  · replace h := h.1 e
    refine pP rfl rfl rfl ?_
    refine pI rfl rfl rfl ?_
    refine pB rfl rfl rfl ?_
    refine pB rfl rfl rfl ?_
    refine pB rfl rfl rfl ?_
    refine AOps.splitB 10 rfl (fun e => ?_) (fun e => ?_)
    · replace h := h.1 e
      refine pP rfl rfl rfl ?_
      refine pI rfl rfl rfl ?_
      obtain ⟨hq, h⟩ := h
      obtain ⟨x7, ex7, h⟩ := h.get
      refine AOps.q rfl rfl rfl rfl rfl (rbin_rem hq) ex7 ?_
      refine pB rfl rfl rfl ?_
      refine pB rfl rfl rfl ?_
      refine pB rfl rfl rfl ?_
      refine AOps.done ?_
      refine AWp.ret ?_
      subst h
      exact ⟨_, rfl, rfl⟩
    · replace h := h.2 e
      refine AOps.off rfl rfl ?_
      refine AOps.off rfl rfl ?_
      refine AOps.off rfl rfl ?_
      refine AOps.off rfl rfl ?_
      refine pB rfl rfl rfl ?_
      refine pB rfl rfl rfl ?_
      refine AOps.done ?_
      refine AWp.ret ?_
      subst h
      exact ⟨_, rfl, rfl⟩
  · replace h := h.2 e
    refine AOps.off rfl rfl ?_
    refine AOps.off rfl rfl ?_
    refine AOps.off rfl rfl ?_
    refine pB rfl rfl rfl ?_
    refine pB rfl rfl rfl ?_
    refine AOps.off rfl rfl ?_
    refine AOps.off rfl rfl ?_
    refine AOps.off rfl rfl ?_
    refine AOps.off rfl rfl ?_
    refine pB rfl rfl rfl ?_
    refine pB rfl rfl rfl ?_
    refine AOps.done ?_
    refine AWp.ret ?_
    subst h
    exact ⟨_, rfl, rfl⟩
def W_parse_index (t1 : GTree) (Q : Bool → Prop) : Prop :=
  Join1 (fun j30 =>
    Br (t1.Kind == (8 : Int)) (j30 (t1.Kind == (8 : Int))) (
      j30 (t1.Kind == (9 : Int)))
  ) (fun (x29 : Bool) =>
    Br x29 (
      Br (((t1.Kids.length : Nat) : Int) == (2 : Int)) (
        At t1.Kids (0 : Int) fun x44 =>
        Call (fun x46 : Bool => FVal prog Fn_parse_index_2 [GTree.out x44] (.v (.bool x46))) fun x46 =>
        Br x46 (
          At t1.Kids (1 : Int) fun x49 =>
          Call (fun x51 : Bool => FVal prog Fn_parse_index_1 [GTree.out x49] (.v (.bool x51))) fun x51 =>
          Q x51) (
          Q false)) (
        Q false)) (
      Call (fun x57 : Bool => FVal prog Fn_parse_index_1 [GTree.out t1] (.v (.bool x57))) fun x57 =>
      Br x57 (Q true) (
        Call (fun x59 : Bool => FVal prog Fn_parse_index_2 [GTree.out t1] (.v (.bool x59))) fun x59 =>
        Q x59)))
theorem walk_parse_index {t1 : GTree} {r : Bool} (h : W_parse_index t1 (fun r' => r' = r)) : Ev_parse_index t1 r := by
  unfold W_parse_index at h
  refine AFn.intro' (L := [(0, .dat (GTree.out t1))]) tabOk Tryz.func151 rfl rfl Tryz.ntmps151 rfl rfl rfl ?_
  refine AWp.seq ?_
  refine AWp.regionN (fun _ => false) rfl ?_
  refine AOps.box (v := .dat (.st _ _)) rfl rfl rfl rfl rfl rfl ?_
  refine pB rfl rfl rfl ?_
  refine AOps.done ?_
  refine AWp.seq ?_
  refine AWp.regionN (fun _ => false) rfl ?_
  refine AOps.mv rfl rfl (.inr rfl) rfl ?_
  refine AOps.done ?_
  refine AWp.seq ?_
  refine AWp.regionN (fun _ => false) rfl ?_
  refine AOps.mv rfl rfl (.inr rfl) rfl ?_
  refine AOps.done ?_
  refine AWp.seq ?_
  refine AWp.seq ?_
  refine AWp.regionN (fun _ => false) rfl ?_
  refine pP rfl rfl rfl ?_
  refine pI rfl rfl rfl ?_
  refine AOps.done ?_
  refine AWp.block ?_
  refine AWp.seq ?_
  refine AWp.seq ?_
  refine AWp.regionN (fun _ => false) rfl ?_
  refine pB rfl rfl rfl ?_
  refine pB rfl rfl rfl ?_
  refine AOps.done ?_
  obtain ⟨J61, hj62, hk63⟩ := h
  refine AWp.cutK (I := fun p : Bool => mkSt [(1, .pt 1 [] 0), (3, .dat (Fn_parse_index_1)), (4, .dat (Fn_parse_index_2)), (7, .dat (.v (.bool p)))] [(1, .box 26 9 (.dat (GTree.out t1)))]) (Inv := fun p : Bool => J61 p) ?_ (fun p hp => ?_)
  · have h := hj62
    refine AWp.cond rfl (fun e => ?_) (fun e => ?_)
    · replace h := h.1 e
      refine AWp.skip ?_
      exact ⟨(t1.Kind == (8 : Int)), h, (Sub.list (fun i => i) rfl rfl ⟨rfl, rfl, rfl, rfl, trivial⟩ ⟨rfl, trivial⟩)⟩
    · replace h := h.2 e
      refine AWp.regionN (fun _ => false) rfl ?_
      refine pB rfl rfl rfl ?_
      refine pB rfl rfl rfl ?_
      refine AOps.done ?_
      exact ⟨(t1.Kind == (9 : Int)), h, (Sub.list (fun i => i) rfl rfl ⟨rfl, rfl, rfl, rfl, trivial⟩ ⟨rfl, trivial⟩)⟩
  · have h := hk63 p hp
    revert h; clear hp; generalize p = x29; intro h
    refine AWp.cond rfl (fun e => ?_) (fun e => ?_)
    · replace h := h.1 e
      refine AWp.seq ?_
      refine AWp.regionN (fun _ => false) rfl ?_
      refine pP rfl rfl rfl ?_
      refine pS rfl rfl rfl ?_
      refine AOps.i (j := ((t1.Kids.length : Nat) : Int)) tabOk rfl rfl rfl (by first | (rw [List.length_map]; done) | rfl) ?_
      refine pB rfl rfl rfl ?_
      refine pB rfl rfl rfl ?_
      refine AOps.splitB 14 rfl (fun e => ?_) (fun e => ?_)
      · replace h := h.1 e
        refine AOps.mv rfl rfl (.inl rfl) rfl ?_
        refine pP rfl rfl rfl ?_
        refine pS rfl rfl rfl ?_
        obtain ⟨hi43, x44, hx45, h⟩ := h
        refine AOps.idx tabOk (z := GTree.out x44) rfl rfl rfl rfl rfl rfl rfl rfl hi43 (GTree.get hx45) ?_
        refine pT rfl rfl rfl ?_
        obtain ⟨x46, hc47, h⟩ := h
        refine AOps.callv hc47 rfl rfl rfl rfl ⟨.inl rfl, trivial⟩ ?_
        refine pB rfl rfl rfl ?_
        refine pB rfl rfl rfl ?_
        refine AOps.splitB 22 rfl (fun e => ?_) (fun e => ?_)
        · replace h := h.1 e
          refine AOps.mv rfl rfl (.inl rfl) rfl ?_
          refine pP rfl rfl rfl ?_
          refine pS rfl rfl rfl ?_
          obtain ⟨hi48, x49, hx50, h⟩ := h
          refine AOps.idx tabOk (z := GTree.out x49) rfl rfl rfl rfl rfl rfl rfl rfl hi48 (GTree.get hx50) ?_
          refine pT rfl rfl rfl ?_
          obtain ⟨x51, hc52, h⟩ := h
          refine AOps.callv hc52 rfl rfl rfl rfl ⟨.inl rfl, trivial⟩ ?_
          refine pB rfl rfl rfl ?_
          refine pB rfl rfl rfl ?_
          refine AOps.done ?_
          refine AWp.ret ?_
          subst h
          exact ⟨_, rfl, rfl⟩
        · replace h := h.2 e
          refine AOps.off rfl rfl ?_
          refine AOps.off rfl rfl ?_
          refine AOps.off rfl rfl ?_
          refine AOps.off rfl rfl ?_
          refine AOps.off rfl rfl ?_
          refine AOps.off rfl rfl ?_
          refine pB rfl rfl rfl ?_
          refine pB rfl rfl rfl ?_
          refine AOps.done ?_
          refine AWp.ret ?_
          subst h
          exact ⟨_, rfl, rfl⟩
      · replace h := h.2 e
        refine AOps.off rfl rfl ?_
        refine AOps.off rfl rfl ?_
        refine AOps.off rfl rfl ?_
        refine AOps.off rfl rfl ?_
        refine AOps.off rfl rfl ?_
        refine AOps.off rfl rfl ?_
        refine pB rfl rfl rfl ?_
        refine pB rfl rfl rfl ?_
        refine AOps.off rfl rfl ?_
        refine AOps.off rfl rfl ?_
        refine AOps.off rfl rfl ?_
        refine AOps.off rfl rfl ?_
        refine AOps.off rfl rfl ?_
        refine AOps.off rfl rfl ?_
        refine pB rfl rfl rfl ?_
        refine pB rfl rfl rfl ?_
        refine AOps.done ?_
        refine AWp.ret ?_
        subst h
        exact ⟨_, rfl, rfl⟩
    · replace h := h.2 e
      refine AWp.skip ?_
      refine AWp.seq ?_
      refine AWp.regionN (fun _ => false) rfl ?_
      refine AOps.mv rfl rfl (.inl rfl) rfl ?_
      refine pT rfl rfl rfl ?_
      obtain ⟨x57, hc58, h⟩ := h
      refine AOps.callv hc58 rfl rfl rfl rfl ⟨.inl rfl, trivial⟩ ?_
      refine pB rfl rfl rfl ?_
      refine AOps.splitB 33 rfl (fun e => ?_) (fun e => ?_)
      · replace h := h.1 e
        refine AOps.off rfl rfl ?_
        refine AOps.off rfl rfl ?_
        refine AOps.off rfl rfl ?_
        refine pB rfl rfl rfl ?_
        refine pB rfl rfl rfl ?_
        refine AOps.done ?_
        refine AWp.ret ?_
        subst h
        exact ⟨_, rfl, rfl⟩
      · replace h := h.2 e
        refine AOps.mv rfl rfl (.inl rfl) rfl ?_
        refine pT rfl rfl rfl ?_
        obtain ⟨x59, hc60, h⟩ := h
        refine AOps.callv hc60 rfl rfl rfl rfl ⟨.inl rfl, trivial⟩ ?_
        refine pB rfl rfl rfl ?_
        refine pB rfl rfl rfl ?_
        refine AOps.done ?_
        refine AWp.ret ?_
        subst h
        exact ⟨_, rfl, rfl⟩
def W_slices_Index_int (s1 : List Int) (v2 : Int) (Q : Int → Prop) : Prop :=
  Loop1 (0 : Int) (fun (x33 : Int) next34 =>
    Br (decide (x33 < ((s1.length : Nat) : Int))) (
      At s1 x33 fun x39 =>
      Br (v2 == x39) (Q x33) (
        Let (IntKind.i64.wrap (x33 + (1 : Int))) fun x41 =>
        next34 x41)) (
      Q (-1 : Int)))
theorem walk_slices_Index_int {s1 : List Int} {v2 : Int} {r : Int} (h : W_slices_Index_int s1 v2 (fun r' => r' = r)) : Ev_slices_Index_int s1 v2 r := by
  unfold W_slices_Index_int at h
  refine AFn.intro' (L := [(0, .dat (.sl 3 1 (List.map (eInt .i64) s1))), (1, .dat (.v (.int .i64 v2)))]) tabOk Tryz.func197 rfl rfl Tryz.ntmps197 rfl rfl rfl ?_
  refine AWp.seq ?_
  refine AWp.regionN (fun _ => false) rfl ?_
  refine pI rfl rfl rfl ?_
  refine AOps.done ?_
  refine AWp.seq ?_
  refine AWp.seq ?_
  refine AWp.regionN (fun _ => false) rfl ?_
  refine pS rfl rfl rfl ?_
  refine AOps.i (j := ((s1.length : Nat) : Int)) tabOk rfl rfl rfl (by first | (rw [List.length_map]; done) | rfl) ?_
  refine pI rfl rfl rfl ?_
  refine AOps.done ?_
  refine AWp.block ?_
  obtain ⟨I42, x43, hz44, hr45⟩ := h
  refine AWp.loop (I := fun p : Int => mkSt [(0, .dat (.sl 3 1 (List.map (eInt .i64) s1))), (1, .dat (.v (.int .i64 v2))), (7, .dat (.v (.int .i64 ((s1.length : Nat) : Int)))), (8, .dat (.v (.int .i64 p)))] []) (Inv := fun p => I42 p) (μ := fun p => x43 p) (x0 := (0 : Int)) hz44 (Sub.list (fun i => i) rfl rfl ⟨rfl, rfl, rfl, rfl, trivial⟩ trivial) (fun p hp => ?_)
  have h := hr45 p hp
  revert h; clear hp; generalize p = x33; intro h
  refine AWp.seq ?_
  refine AWp.regionN (fun _ => false) rfl ?_
  refine pW rfl rfl rfl ?_
  refine AOps.done ?_
  refine AWp.seq ?_
  refine AWp.cond rfl (fun e => ?_) (fun e => ?_)
  · replace h := h.1 e
    refine AWp.skip ?_
    refine AWp.seq ?_
    refine AWp.block ?_
    refine AWp.seq ?_
    refine AWp.regionN (fun _ => false) rfl ?_
    refine pI rfl rfl rfl ?_
    refine pI rfl rfl rfl ?_
    refine AOps.done ?_
    refine AWp.seq ?_
    refine AWp.regionN (fun _ => false) rfl ?_
    refine pI rfl rfl rfl ?_
    refine pS rfl rfl rfl ?_
    refine pI rfl rfl rfl ?_
    obtain ⟨hi38, x39, hx40, h⟩ := h
    refine AOps.idx tabOk (z := .v (.int .i64 x39)) rfl rfl rfl rfl rfl rfl rfl rfl hi38 (map_get hx40) ?_
    refine pI rfl rfl rfl ?_
    refine pB rfl rfl rfl ?_
    refine AOps.done ?_
    refine AWp.cond rfl (fun e => ?_) (fun e => ?_)
    · replace h := h.1 e
      refine AWp.seq ?_
      refine AWp.regionN (fun _ => false) rfl ?_
      refine pI rfl rfl rfl ?_
      refine pI rfl rfl rfl ?_
      refine AOps.done ?_
      refine AWp.ret ?_
      subst h
      exact ⟨_, rfl, rfl⟩
    · replace h := h.2 e
      refine AWp.skip ?_
      refine AWp.regionN (fun _ => false) rfl ?_
      obtain ⟨x41, ex41, h⟩ := h.get
      refine AOps.i tabOk rfl rfl rfl ex41 ?_
      refine pI rfl rfl rfl ?_
      refine AOps.done ?_
      exact ⟨x41, h.1, h.2, (Sub.list (fun i => i) rfl rfl ⟨rfl, rfl, rfl, rfl, trivial⟩ trivial)⟩
  · replace h := h.2 e
    refine AWp.exit ?_
    refine AWp.seq ?_
    refine AWp.regionN (fun _ => false) rfl ?_
    refine pI rfl rfl rfl ?_
    refine AOps.done ?_
    refine AWp.ret ?_
    subst h
    exact ⟨_, rfl, rfl⟩
def W_parse_index_1 (t1 : GTree) (Q : Bool → Prop) : Prop :=
  Br (t1.Kind == (1 : Int)) (
    Br (t1.Num.D == (1 : Int)) (
      Br (decide (t1.Num.N ≥ (0 : Int))) (Q (decide (t1.Num.N ≤ (1000000 : Int)))) (
        Q false)) (
      Q false)) (
    Q false)
theorem walk_parse_index_1 {t1 : GTree} {r : Bool} (h : W_parse_index_1 t1 (fun r' => r' = r)) : Ev_parse_index_1 t1 r := by
  unfold W_parse_index_1 at h
  refine AFn.intro' (L := [(0, .dat (GTree.out t1))]) tabOk Tryz.func198 rfl rfl Tryz.ntmps198 rfl rfl rfl ?_
  refine AWp.seq ?_
  refine AWp.regionN (fun _ => false) rfl ?_
  refine AOps.box (v := .dat (.st _ _)) rfl rfl rfl rfl rfl rfl ?_
  refine pB rfl rfl rfl ?_
  refine AOps.done ?_
  refine AWp.seq ?_
  refine AWp.regionN (fun _ => false) rfl ?_
  refine pP rfl rfl rfl ?_
  refine pI rfl rfl rfl ?_
  refine pB rfl rfl rfl ?_
  refine pB rfl rfl rfl ?_
  refine AOps.splitB 6 rfl (fun e => ?_) (fun e => ?_)
  · replace h := h.1 e
    refine pP rfl rfl rfl ?_
    refine pP rfl rfl rfl ?_
    refine pI rfl rfl rfl ?_
    refine pB rfl rfl rfl ?_
    refine pB rfl rfl rfl ?_
    refine pB rfl rfl rfl ?_
    refine AOps.splitB 12 rfl (fun e => ?_) (fun e => ?_)
    · replace h := h.1 e
      refine pP rfl rfl rfl ?_
      refine pP rfl rfl rfl ?_
      refine pI rfl rfl rfl ?_
      refine pB rfl rfl rfl ?_
      refine pB rfl rfl rfl ?_
      refine pB rfl rfl rfl ?_
      refine AOps.splitB 18 rfl (fun e => ?_) (fun e => ?_)
      · replace h := h.1 e
        refine pP rfl rfl rfl ?_
        refine pP rfl rfl rfl ?_
        refine pI rfl rfl rfl ?_
        refine pB rfl rfl rfl ?_
        refine pB rfl rfl rfl ?_
        refine pB rfl rfl rfl ?_
        refine AOps.done ?_
        refine AWp.ret ?_
        subst h
        exact ⟨_, rfl, rfl⟩
      · replace h := h.2 e
        refine AOps.off rfl rfl ?_
        refine AOps.off rfl rfl ?_
        refine AOps.off rfl rfl ?_
        refine AOps.off rfl rfl ?_
        refine pB rfl rfl rfl ?_
        refine pB rfl rfl rfl ?_
        refine AOps.done ?_
        refine AWp.ret ?_
        subst h
        exact ⟨_, rfl, rfl⟩
    · replace h := h.2 e
      refine AOps.off rfl rfl ?_
      refine AOps.off rfl rfl ?_
      refine AOps.off rfl rfl ?_
      refine AOps.off rfl rfl ?_
      refine pB rfl rfl rfl ?_
      refine pB rfl rfl rfl ?_
      refine AOps.off rfl rfl ?_
      refine AOps.off rfl rfl ?_
      refine AOps.off rfl rfl ?_
      refine AOps.off rfl rfl ?_
      refine pB rfl rfl rfl ?_
      refine pB rfl rfl rfl ?_
      refine AOps.done ?_
      refine AWp.ret ?_
      subst h
      exact ⟨_, rfl, rfl⟩
  · replace h := h.2 e
    refine AOps.off rfl rfl ?_
    refine AOps.off rfl rfl ?_
    refine AOps.off rfl rfl ?_
    refine AOps.off rfl rfl ?_
    refine pB rfl rfl rfl ?_
    refine pB rfl rfl rfl ?_
    refine AOps.off rfl rfl ?_
    refine AOps.off rfl rfl ?_
    refine AOps.off rfl rfl ?_
    refine AOps.off rfl rfl ?_
    refine pB rfl rfl rfl ?_
    refine pB rfl rfl rfl ?_
    refine AOps.off rfl rfl ?_
    refine AOps.off rfl rfl ?_
    refine AOps.off rfl rfl ?_
    refine AOps.off rfl rfl ?_
    refine pB rfl rfl rfl ?_
    refine pB rfl rfl rfl ?_
    refine AOps.done ?_
    refine AWp.ret ?_
    subst h
    exact ⟨_, rfl, rfl⟩
def W_parse_index_2 (t1 : GTree) (Q : Bool → Prop) : Prop :=
  Br (t1.Kind == (2 : Int)) (
    Br (((t1.Kids.length : Nat) : Int) == (1 : Int)) (
      At t1.Kids (0 : Int) fun x9 =>
      Q (((x9.Kids.length : Nat) : Int) == (0 : Int))) (
      Q false)) (
    Q false)
theorem walk_parse_index_2 {t1 : GTree} {r : Bool} (h : W_parse_index_2 t1 (fun r' => r' = r)) : Ev_parse_index_2 t1 r := by
  unfold W_parse_index_2 at h
  refine AFn.intro' (L := [(0, .dat (GTree.out t1))]) tabOk Tryz.func199 rfl rfl Tryz.ntmps199 rfl rfl rfl ?_
  refine AWp.seq ?_
  refine AWp.regionN (fun _ => false) rfl ?_
  refine AOps.box (v := .dat (.st _ _)) rfl rfl rfl rfl rfl rfl ?_
  refine pB rfl rfl rfl ?_
  refine AOps.done ?_
  refine AWp.seq ?_
  refine AWp.regionN (fun _ => false) rfl ?_
  refine pP rfl rfl rfl ?_
  refine pI rfl rfl rfl ?_
  refine pB rfl rfl rfl ?_
  refine pB rfl rfl rfl ?_
  refine AOps.splitB 6 rfl (fun e => ?_) (fun e => ?_)
  · replace h := h.1 e
    refine pP rfl rfl rfl ?_
    refine pS rfl rfl rfl ?_
    refine AOps.i (j := ((t1.Kids.length : Nat) : Int)) tabOk rfl rfl rfl (by first | (rw [List.length_map]; done) | rfl) ?_
    refine pB rfl rfl rfl ?_
    refine pB rfl rfl rfl ?_
    refine pB rfl rfl rfl ?_
    refine AOps.splitB 12 rfl (fun e => ?_) (fun e => ?_)
    · replace h := h.1 e
      refine pP rfl rfl rfl ?_
      refine pS rfl rfl rfl ?_
      obtain ⟨hi8, x9, hx10, h⟩ := h
      refine AOps.idx tabOk (z := GTree.out x9) rfl rfl rfl rfl rfl rfl rfl rfl hi8 (GTree.get hx10) ?_
      refine pX rfl rfl rfl ?_
      refine pS rfl rfl rfl ?_
      refine AOps.i (j := ((x9.Kids.length : Nat) : Int)) tabOk rfl rfl rfl (by first | (rw [List.length_map]; done) | rfl) ?_
      refine pB rfl rfl rfl ?_
      refine pB rfl rfl rfl ?_
      refine pB rfl rfl rfl ?_
      refine AOps.done ?_
      refine AWp.ret ?_
      subst h
      exact ⟨_, rfl, rfl⟩
    · replace h := h.2 e
      refine AOps.off rfl rfl ?_
      refine AOps.off rfl rfl ?_
      refine AOps.off rfl rfl ?_
      refine AOps.off rfl rfl ?_
      refine AOps.off rfl rfl ?_
      refine AOps.off rfl rfl ?_
      refine AOps.off rfl rfl ?_
      refine pB rfl rfl rfl ?_
      refine pB rfl rfl rfl ?_
      refine AOps.done ?_
      refine AWp.ret ?_
      subst h
      exact ⟨_, rfl, rfl⟩
  · replace h := h.2 e
    refine AOps.off rfl rfl ?_
    refine AOps.off rfl rfl ?_
    refine AOps.off rfl rfl ?_
    refine AOps.off rfl rfl ?_
    refine pB rfl rfl rfl ?_
    refine pB rfl rfl rfl ?_
    refine AOps.off rfl rfl ?_
    refine AOps.off rfl rfl ?_
    refine AOps.off rfl rfl ?_
    refine AOps.off rfl rfl ?_
    refine AOps.off rfl rfl ?_
    refine AOps.off rfl rfl ?_
    refine AOps.off rfl rfl ?_
    refine pB rfl rfl rfl ?_
    refine pB rfl rfl rfl ?_
    refine AOps.done ?_
    refine AWp.ret ?_
    subst h
    exact ⟨_, rfl, rfl⟩
def W_slices_IndexFunc_api_Tree (s1 : List GTree) (f2 : DV) (Q : Int → Prop) : Prop :=
  Loop1 (0 : Int) (fun (x45 : Int) next46 =>
    Br (decide (x45 < ((s1.length : Nat) : Int))) (
      At s1 x45 fun x53 =>
      Call (fun x55 : Bool => FVal prog f2 [GTree.out x53] (.v (.bool x55))) fun x55 =>
      Br x55 (Q x45) (
        Let (IntKind.i64.wrap (x45 + (1 : Int))) fun x57 =>
        next46 x57)) (
      Q (-1 : Int)))
theorem walk_slices_IndexFunc_api_Tree {s1 : List GTree} {f2 : DV} {r : Int} (h : W_slices_IndexFunc_api_Tree s1 f2 (fun r' => r' = r)) : Ev_slices_IndexFunc_api_Tree s1 f2 r := by
  unfold W_slices_IndexFunc_api_Tree at h
  refine AFn.intro' (L := [(0, .dat (.sl 26 9 (List.map GTree.enc s1))), (1, .dat (f2))]) tabOk Tryz.func92 rfl rfl Tryz.ntmps92 rfl rfl rfl ?_
  refine AWp.seq ?_
  refine AWp.regionN (fun _ => false) rfl ?_
  refine pI rfl rfl rfl ?_
  refine AOps.done ?_
  refine AWp.seq ?_
  refine AWp.seq ?_
  refine AWp.regionN (fun _ => false) rfl ?_
  refine pS rfl rfl rfl ?_
  refine AOps.i (j := ((s1.length : Nat) : Int)) tabOk rfl rfl rfl (by first | (rw [List.length_map]; done) | rfl) ?_
  refine pI rfl rfl rfl ?_
  refine AOps.done ?_
  refine AWp.block ?_
  obtain ⟨I58, x59, hz60, hr61⟩ := h
  refine AWp.loop (I := fun p : Int => mkSt [(0, .dat (.sl 26 9 (List.map GTree.enc s1))), (1, .dat (f2)), (7, .dat (.v (.int .i64 ((s1.length : Nat) : Int)))), (8, .dat (.v (.int .i64 p)))] []) (Inv := fun p => I58 p) (μ := fun p => x59 p) (x0 := (0 : Int)) hz60 (Sub.list (fun i => i) rfl rfl ⟨rfl, rfl, rfl, rfl, trivial⟩ trivial) (fun p hp => ?_)
  have h := hr61 p hp
  revert h; clear hp; generalize p = x45; intro h
  refine AWp.seq ?_
  refine AWp.regionN (fun _ => false) rfl ?_
  refine pW rfl rfl rfl ?_
  refine AOps.done ?_
  refine AWp.seq ?_
  refine AWp.cond rfl (fun e => ?_) (fun e => ?_)
  · replace h := h.1 e
    refine AWp.skip ?_
    refine AWp.seq ?_
    refine AWp.block ?_
    refine AWp.seq ?_
    refine AWp.regionN (fun _ => false) rfl ?_
    refine pI rfl rfl rfl ?_
    refine pI rfl rfl rfl ?_
    refine AOps.done ?_
    refine AWp.seq ?_
    refine AWp.regionN (fun _ => false) rfl ?_
    refine AOps.mv rfl rfl (.inl rfl) rfl ?_
    refine pS rfl rfl rfl ?_
    refine pI rfl rfl rfl ?_
    obtain ⟨hi52, x53, hx54, h⟩ := h
    refine AOps.idx tabOk (z := GTree.out x53) rfl rfl rfl rfl rfl rfl rfl rfl hi52 (GTree.get hx54) ?_
    refine pT rfl rfl rfl ?_
    obtain ⟨x55, hc56, h⟩ := h
    refine AOps.callv hc56 rfl rfl rfl rfl ⟨.inl rfl, trivial⟩ ?_
    refine AOps.done ?_
    refine AWp.cond rfl (fun e => ?_) (fun e => ?_)
    · replace h := h.1 e
      refine AWp.seq ?_
      refine AWp.regionN (fun _ => false) rfl ?_
      refine pI rfl rfl rfl ?_
      refine pI rfl rfl rfl ?_
      refine AOps.done ?_
      refine AWp.ret ?_
      subst h
      exact ⟨_, rfl, rfl⟩
    · replace h := h.2 e
      refine AWp.skip ?_
      refine AWp.regionN (fun _ => false) rfl ?_
      obtain ⟨x57, ex57, h⟩ := h.get
      refine AOps.i tabOk rfl rfl rfl ex57 ?_
      refine pI rfl rfl rfl ?_
      refine AOps.done ?_
      exact ⟨x57, h.1, h.2, (Sub.list (fun i => i) rfl rfl ⟨rfl, rfl, rfl, rfl, trivial⟩ trivial)⟩
  · replace h := h.2 e
    refine AWp.exit ?_
    refine AWp.seq ?_
    refine AWp.regionN (fun _ => false) rfl ?_
    refine pI rfl rfl rfl ?_
    refine AOps.done ?_
    refine AWp.ret ?_
    subst h
    exact ⟨_, rfl, rfl⟩
end Go.Sim.YtnnfiohdkobkdaaGreatDoor
