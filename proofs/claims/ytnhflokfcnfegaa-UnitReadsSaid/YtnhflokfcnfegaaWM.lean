/- What is proved: functions of the program compute what plain statements tell. -/
import Derived.Test.YtnhflokfcnfegaaWE
namespace Go.Sim.Ytnhflokfcnfegaa
open Go.RowKit Go.Proofs Go.Proofs.Try

def W_law14_UnitReads (t1 : GTree) (names2 : List ByteArray) (dims3 : List GDim) (Q : Bool → Prop) : Prop :=
  Call (Ev_unit_Of t1 names2 dims3) fun x4 =>
  Call (Ev_ref14_Of t1 names2 dims3) fun x6 =>
  Br (GDim.beq x4.1 x6.1) (Q (x4.2 == x6.2)) (
    Q false)

theorem walk_law14_UnitReads {t1 : GTree} {names2 : List ByteArray} {dims3 : List GDim} {r : Bool} (h : W_law14_UnitReads t1 names2 dims3 (fun r' => r' = r)) : Ev_law14_UnitReads t1 names2 dims3 r := by
  unfold W_law14_UnitReads at h
  refine AFn.intro' (L := [(0, .dat (GTree.out t1)), (1, .dat (.sl 9 1 (List.map eStr names2))), (2, .dat (.sl 44 14 (List.map GDim.enc dims3)))]) tabOk Try.func10 rfl rfl Try.ntmps10 rfl rfl rfl ?_
  refine AWp.seq ?_
  refine AWp.regionN (fun _ => false) rfl ?_
  refine AOps.box (v := .dat (.st _ _)) rfl rfl rfl rfl rfl rfl ?_
  refine pB rfl rfl rfl ?_
  refine AOps.done ?_
  refine AWp.seq ?_
  refine AWp.regionN (fun o => writes o) rfl ?_
  refine pT rfl rfl rfl ?_
  refine pS rfl rfl rfl ?_
  refine pS rfl rfl rfl ?_
  obtain ⟨x4, hc5, h⟩ := h
  refine AOps.call hc5 rfl rfl rfl ⟨.inl rfl, .inl rfl, .inl rfl, trivial⟩ ?_
  refine pU rfl rfl rfl ?_
  refine pT rfl rfl rfl ?_
  refine pI rfl rfl rfl ?_
  refine AOps.alloc tabOk rfl rfl rfl rfl rfl ?_
  refine AOps.store tabOk (v := .dat (.st _ _)) rfl rfl rfl rfl rfl rfl rfl rfl rfl rfl rfl rfl rfl ?_
  refine pI rfl rfl rfl ?_
  refine AOps.done ?_
  refine AWp.seq ?_
  refine AWp.regionN (fun o => writes o) rfl ?_
  refine pT rfl rfl rfl ?_
  refine pS rfl rfl rfl ?_
  refine pS rfl rfl rfl ?_
  obtain ⟨x6, hc7, h⟩ := h
  refine AOps.call hc7 rfl rfl rfl ⟨.inl rfl, .inl rfl, .inl rfl, trivial⟩ ?_
  refine pU rfl rfl rfl ?_
  refine pT rfl rfl rfl ?_
  refine pI rfl rfl rfl ?_
  refine AOps.alloc tabOk rfl rfl rfl rfl rfl ?_
  refine AOps.store tabOk (v := .dat (.st _ _)) rfl rfl rfl rfl rfl rfl rfl rfl rfl rfl rfl rfl rfl ?_
  refine pI rfl rfl rfl ?_
  refine AOps.done ?_
  refine AWp.seq ?_
  refine AWp.regionN (fun _ => false) rfl ?_
  refine pT rfl rfl rfl ?_
  refine pT rfl rfl rfl ?_
  refine AOps.eqs rfl rfl rfl rfl rfl rfl rfl (by decide +kernel) (GDim.eqok44 _ x4.1 x6.1) ?_
  refine pB rfl rfl rfl ?_
  refine AOps.splitB 28 rfl (fun e => ?_) (fun e => ?_)
  · replace h := h.1 e
    refine pI rfl rfl rfl ?_
    refine pI rfl rfl rfl ?_
    refine pB rfl rfl rfl ?_
    refine pB rfl rfl rfl ?_
    refine pB rfl rfl rfl ?_
    refine AOps.done ?_
    refine AWp.ret ?_
    subst h
    exact ⟨_, rfl, rfl⟩
  · replace h := h.2 e
    refine AOps.off rfl rfl ?_
    refine AOps.off rfl rfl ?_
    refine AOps.off rfl rfl ?_
    refine pB rfl rfl rfl ?_
    refine pB rfl rfl rfl ?_
    refine AOps.done ?_
    refine AWp.ret ?_
    subst h
    exact ⟨_, rfl, rfl⟩

def W_unit_Of (t1 : GTree) (names2 : List ByteArray) (dims3 : List GDim) (Q : GDim × Int → Prop) : Prop :=
  Br (((dims3.length : Nat) : Int) != ((names2.length : Nat) : Int)) (Q (GDim.zero, (1 : Int))) (
    Call (Ev_slices_ContainsFunc_api_Dim dims3 Fn_unit_Of_1) fun x10 =>
    Br x10 (Q (GDim.zero, (1 : Int))) (
      Call (Ev_unit_of t1 names2 dims3) fun x12 =>
      Q (x12.1, x12.2)))

theorem walk_unit_Of {t1 : GTree} {names2 : List ByteArray} {dims3 : List GDim} {r : GDim × Int} (h : W_unit_Of t1 names2 dims3 (fun r' => r' = r)) : Ev_unit_Of t1 names2 dims3 r := by
  unfold W_unit_Of at h
  refine AFn.intro' (L := [(0, .dat (GTree.out t1)), (1, .dat (.sl 9 1 (List.map eStr names2))), (2, .dat (.sl 44 14 (List.map GDim.enc dims3)))]) tabOk Try.func36 rfl rfl Try.ntmps36 rfl rfl rfl ?_
  refine AWp.seq ?_
  refine AWp.regionN (fun _ => false) rfl ?_
  refine AOps.box (v := .dat (.st _ _)) rfl rfl rfl rfl rfl rfl ?_
  refine AOps.alloc tabOk rfl rfl rfl rfl rfl ?_
  refine pI rfl rfl rfl ?_
  refine AOps.done ?_
  refine AWp.seq ?_
  refine AWp.seq ?_
  refine AWp.regionN (fun _ => false) rfl ?_
  refine pS rfl rfl rfl ?_
  refine AOps.i (j := ((dims3.length : Nat) : Int)) tabOk rfl rfl rfl (by rw [List.length_map]) ?_
  refine pS rfl rfl rfl ?_
  refine AOps.i (j := ((names2.length : Nat) : Int)) tabOk rfl rfl rfl (by rw [List.length_map]) ?_
  refine pB rfl rfl rfl ?_
  refine pB rfl rfl rfl ?_
  refine AOps.splitB 13 rfl (fun e => ?_) (fun e => ?_)
  · replace h := h.1 e
    refine AOps.off rfl rfl ?_
    refine AOps.off rfl rfl ?_
    refine pB rfl rfl rfl ?_
    refine AOps.done ?_
    refine AWp.condT rfl ?_
    refine AWp.seq ?_
    refine AWp.regionN (fun o => writes o) rfl ?_
    refine pT rfl rfl rfl ?_
    refine AOps.store tabOk (v := .dat (.st _ _)) rfl rfl rfl rfl rfl rfl rfl rfl rfl rfl rfl rfl rfl ?_
    refine pI rfl rfl rfl ?_
    refine AOps.done ?_
    refine AWp.ret ?_
    subst h
    exact ⟨_, rfl, rfl⟩
  · replace h := h.2 e
    refine pS rfl rfl rfl ?_
    obtain ⟨x10, hc11, h⟩ := h
    refine AOps.call hc11 rfl rfl rfl ⟨.inl rfl, .inl rfl, trivial⟩ ?_
    refine pB rfl rfl rfl ?_
    refine AOps.done ?_
    refine AWp.cond rfl (fun e => ?_) (fun e => ?_)
    · replace h := h.1 e
      refine AWp.seq ?_
      refine AWp.regionN (fun o => writes o) rfl ?_
      refine pT rfl rfl rfl ?_
      refine AOps.store tabOk (v := .dat (.st _ _)) rfl rfl rfl rfl rfl rfl rfl rfl rfl rfl rfl rfl rfl ?_
      refine pI rfl rfl rfl ?_
      refine AOps.done ?_
      refine AWp.ret ?_
      subst h
      exact ⟨_, rfl, rfl⟩
    · replace h := h.2 e
      refine AWp.skip ?_
      refine AWp.seq ?_
      refine AWp.regionN (fun o => writes o) rfl ?_
      refine pT rfl rfl rfl ?_
      refine pS rfl rfl rfl ?_
      refine pS rfl rfl rfl ?_
      obtain ⟨x12, hc13, h⟩ := h
      refine AOps.call hc13 rfl rfl rfl ⟨.inl rfl, .inl rfl, .inl rfl, trivial⟩ ?_
      refine pT rfl rfl rfl ?_
      refine pI rfl rfl rfl ?_
      refine AOps.store tabOk (v := .dat (.st _ _)) rfl rfl rfl rfl rfl rfl rfl rfl rfl rfl rfl rfl rfl ?_
      refine pI rfl rfl rfl ?_
      refine AOps.done ?_
      refine AWp.ret ?_
      subst h
      exact ⟨_, rfl, rfl⟩

def W_ref14_Of (t1 : GTree) (names2 : List ByteArray) (dims3 : List GDim) (Q : GDim × Int → Prop) : Prop :=
  Br (((names2.length : Nat) : Int) != ((dims3.length : Nat) : Int)) (Q (GDim.zero, (1 : Int))) (
    Loop1 (0 : Int) (fun (x52 : Int) next53 =>
      Br (decide (x52 < ((dims3.length : Nat) : Int))) (
        At dims3 x52 fun x60 =>
        Call (Ev_ref14_Right x60) fun x62 =>
        Br (!x62) (Q (GDim.zero, (1 : Int))) (
          Let (IntKind.i64.wrap (x52 + (1 : Int))) fun x64 =>
          next53 x64)) (
        Call (Ev_ref14_dim t1 names2 dims3) fun x65 =>
        Q (x65.1, x65.2))))

theorem walk_ref14_Of {t1 : GTree} {names2 : List ByteArray} {dims3 : List GDim} {r : GDim × Int} (h : W_ref14_Of t1 names2 dims3 (fun r' => r' = r)) : Ev_ref14_Of t1 names2 dims3 r := by
  unfold W_ref14_Of at h
  refine AFn.intro' (L := [(0, .dat (GTree.out t1)), (1, .dat (.sl 9 1 (List.map eStr names2))), (2, .dat (.sl 44 14 (List.map GDim.enc dims3)))]) tabOk Try.func37 rfl rfl Try.ntmps37 rfl rfl rfl ?_
  refine AWp.seq ?_
  refine AWp.regionN (fun _ => false) rfl ?_
  refine AOps.box (v := .dat (.st _ _)) rfl rfl rfl rfl rfl rfl ?_
  refine AOps.alloc tabOk rfl rfl rfl rfl rfl ?_
  refine pI rfl rfl rfl ?_
  refine AOps.done ?_
  refine AWp.seq ?_
  refine AWp.seq ?_
  refine AWp.regionN (fun _ => false) rfl ?_
  refine pS rfl rfl rfl ?_
  refine AOps.i (j := ((names2.length : Nat) : Int)) tabOk rfl rfl rfl (by rw [List.length_map]) ?_
  refine pS rfl rfl rfl ?_
  refine AOps.i (j := ((dims3.length : Nat) : Int)) tabOk rfl rfl rfl (by rw [List.length_map]) ?_
  refine pB rfl rfl rfl ?_
  refine AOps.done ?_
  refine AWp.cond rfl (fun e => ?_) (fun e => ?_)
  · replace h := h.1 e
    refine AWp.seq ?_
    refine AWp.regionN (fun o => writes o) rfl ?_
    refine pT rfl rfl rfl ?_
    refine AOps.store tabOk (v := .dat (.st _ _)) rfl rfl rfl rfl rfl rfl rfl rfl rfl rfl rfl rfl rfl ?_
    refine pI rfl rfl rfl ?_
    refine AOps.done ?_
    refine AWp.ret ?_
    subst h
    exact ⟨_, rfl, rfl⟩
  · replace h := h.2 e
    refine AWp.skip ?_
    refine AWp.seq ?_
    refine AWp.seq ?_
    refine AWp.regionN (fun _ => false) rfl ?_
    refine pS rfl rfl rfl ?_
    refine AOps.i (j := ((dims3.length : Nat) : Int)) tabOk rfl rfl rfl (by rw [List.length_map]) ?_
    refine pI rfl rfl rfl ?_
    refine AOps.done ?_
    refine AWp.block ?_
    obtain ⟨I67, x68, hz69, hr70⟩ := h
    refine AWp.loop (I := fun p : Int => mkSt [(1, .dat (.sl 9 1 (List.map eStr names2))), (2, .dat (.sl 44 14 (List.map GDim.enc dims3))), (3, .pt 3 [] 0), (6, .pt 6 [] 0), (16, .dat (.sl 44 14 (List.map GDim.enc dims3))), (17, .dat (.v (.int .i64 ((dims3.length : Nat) : Int)))), (18, .dat (.v (.int .i64 p)))] [(3, .box 26 9 (.dat (GTree.out t1))), (6, .box 44 14 (.dat (GDim.enc GDim.zero)))]) (Inv := fun p => I67 p) (μ := fun p => x68 p) (x0 := (0 : Int)) hz69 (Sub.list (fun i => i) rfl rfl ⟨rfl, rfl, rfl, rfl, rfl, rfl, rfl, trivial⟩ ⟨rfl, rfl, trivial⟩) (fun p hp => ?_)
    have h := hr70 p hp
    revert h; clear hp; generalize p = x52; intro h
    refine AWp.seq ?_
    refine AWp.regionN (fun _ => false) rfl ?_
    refine pW rfl rfl rfl ?_
    refine AOps.done ?_
    refine AWp.seq ?_
    refine AWp.cond rfl (fun e => ?_) (fun e => ?_)
    · replace h := h.1 e
      refine AWp.skip ?_
      refine AWp.seq ?_
      refine AWp.block ?_
      refine AWp.seq ?_
      refine AWp.regionN (fun o => writes o) rfl ?_
      obtain ⟨hi59, x60, hx61, h⟩ := h
      refine AOps.idx tabOk (z := GDim.enc x60) rfl rfl rfl rfl rfl rfl rfl rfl hi59 (map_get hx61) ?_
      refine pT rfl rfl rfl ?_
      refine AOps.alloc tabOk rfl rfl rfl rfl rfl ?_
      refine AOps.store tabOk (v := .dat (.st _ _)) rfl rfl rfl rfl rfl rfl rfl rfl rfl rfl rfl rfl rfl ?_
      refine AOps.done ?_
      refine AWp.seq ?_
      refine AWp.regionN (fun _ => false) rfl ?_
      refine pT rfl rfl rfl ?_
      obtain ⟨x62, hc63, h⟩ := h
      refine AOps.call hc63 rfl rfl rfl ⟨.inl rfl, trivial⟩ ?_
      refine pB rfl rfl rfl ?_
      refine AOps.done ?_
      refine AWp.cond rfl (fun e => ?_) (fun e => ?_)
      · replace h := h.1 e
        refine AWp.seq ?_
        refine AWp.regionN (fun o => writes o) rfl ?_
        refine pT rfl rfl rfl ?_
        refine AOps.store tabOk (v := .dat (.st _ _)) rfl rfl rfl rfl rfl rfl rfl rfl rfl rfl rfl rfl rfl ?_
        refine pI rfl rfl rfl ?_
        refine AOps.done ?_
        refine AWp.ret ?_
        subst h
        exact ⟨_, rfl, rfl⟩
      · replace h := h.2 e
        refine AWp.skip ?_
        refine AWp.regionN (fun _ => false) rfl ?_
        obtain ⟨x64, ex64, h⟩ := h.get
        refine AOps.i tabOk rfl rfl rfl ex64 ?_
        refine pI rfl rfl rfl ?_
        refine AOps.done ?_
        exact ⟨x64, h.1, h.2, (Sub.list (fun i => i) rfl rfl ⟨rfl, rfl, rfl, rfl, rfl, rfl, rfl, trivial⟩ ⟨rfl, rfl, trivial⟩)⟩
    · replace h := h.2 e
      refine AWp.exit ?_
      refine AWp.seq ?_
      refine AWp.regionN (fun o => writes o) rfl ?_
      refine pT rfl rfl rfl ?_
      refine pS rfl rfl rfl ?_
      refine pS rfl rfl rfl ?_
      obtain ⟨x65, hc66, h⟩ := h
      refine AOps.call hc66 rfl rfl rfl ⟨.inl rfl, .inl rfl, .inl rfl, trivial⟩ ?_
      refine pT rfl rfl rfl ?_
      refine pI rfl rfl rfl ?_
      refine AOps.store tabOk (v := .dat (.st _ _)) rfl rfl rfl rfl rfl rfl rfl rfl rfl rfl rfl rfl rfl ?_
      refine pI rfl rfl rfl ?_
      refine AOps.done ?_
      refine AWp.ret ?_
      subst h
      exact ⟨_, rfl, rfl⟩

def W_slices_ContainsFunc_api_Dim (s1 : List GDim) (f2 : DV) (Q : Bool → Prop) : Prop :=
  Call (Ev_slices_IndexFunc_api_Dim s1 f2) fun x3 =>
  Q (decide (x3 ≥ (0 : Int)))

theorem walk_slices_ContainsFunc_api_Dim {s1 : List GDim} {f2 : DV} {r : Bool} (h : W_slices_ContainsFunc_api_Dim s1 f2 (fun r' => r' = r)) : Ev_slices_ContainsFunc_api_Dim s1 f2 r := by
  unfold W_slices_ContainsFunc_api_Dim at h
  refine AFn.intro' (L := [(0, .dat (.sl 44 14 (List.map GDim.enc s1))), (1, .dat (f2))]) tabOk Try.func60 rfl rfl Try.ntmps60 rfl rfl rfl ?_
  refine AWp.seq ?_
  refine AWp.regionN (fun _ => false) rfl ?_
  refine pB rfl rfl rfl ?_
  refine AOps.done ?_
  refine AWp.seq ?_
  refine AWp.regionN (fun _ => false) rfl ?_
  refine pS rfl rfl rfl ?_
  refine AOps.mv rfl rfl (.inl rfl) rfl ?_
  obtain ⟨x3, hc4, h⟩ := h
  refine AOps.call hc4 rfl rfl rfl ⟨.inl rfl, .inl rfl, trivial⟩ ?_
  refine pB rfl rfl rfl ?_
  refine pB rfl rfl rfl ?_
  refine AOps.done ?_
  refine AWp.ret ?_
  subst h
  exact ⟨_, rfl, rfl⟩

def W_unit_Of_1 (d1 : GDim) (Q : Bool → Prop) : Prop :=
  Call (Ev_unit_Right d1) fun x2 =>
  Q (!x2)

theorem walk_unit_Of_1 {d1 : GDim} {r : Bool} (h : W_unit_Of_1 d1 (fun r' => r' = r)) : Ev_unit_Of_1 d1 r := by
  unfold W_unit_Of_1 at h
  refine AFn.intro' (L := [(0, .dat (GDim.enc d1))]) tabOk Try.func61 rfl rfl Try.ntmps61 rfl rfl rfl ?_
  refine AWp.seq ?_
  refine AWp.regionN (fun _ => false) rfl ?_
  refine AOps.box (v := .dat (.st _ _)) rfl rfl rfl rfl rfl rfl ?_
  refine pB rfl rfl rfl ?_
  refine AOps.done ?_
  refine AWp.seq ?_
  refine AWp.regionN (fun _ => false) rfl ?_
  refine pT rfl rfl rfl ?_
  obtain ⟨x2, hc3, h⟩ := h
  refine AOps.call hc3 rfl rfl rfl ⟨.inl rfl, trivial⟩ ?_
  refine pB rfl rfl rfl ?_
  refine pB rfl rfl rfl ?_
  refine AOps.done ?_
  refine AWp.ret ?_
  subst h
  exact ⟨_, rfl, rfl⟩

def W_unit_of (x1 : GTree) (x2 : List ByteArray) (x3 : List GDim) (Q : GDim × Int → Prop) : Prop :=
  Let (mput ([] : List (Int × Int)) (20 : Int) (0 : Int)) fun m4 =>
  Let (mput m4 (21 : Int) (0 : Int)) fun m5 =>
  Let (mput m5 (22 : Int) (2 : Int)) fun m6 =>
  Let (mput m6 (23 : Int) (2 : Int)) fun m7 =>
  Let (mput m7 (24 : Int) (1 : Int)) fun m8 =>
  Br (!(mget m8 x1.Kind).isSome) (Q (GDim.zero, (133 : Int))) (
    Br (((x1.Kids.length : Nat) : Int) != ((mget m8 x1.Kind).getD (0 : Int))) (Q (GDim.zero, (133 : Int))) (
      Br (((mget m8 x1.Kind).getD (0 : Int)) == (0 : Int)) (
        Br (x1.Kind == (20 : Int)) (
          Call (Ev_unit_Plain) fun x22 =>
          Q (x22, (0 : Int))) (
          Call (Ev_slices_Index_string x2 x1.Name) fun x24 =>
          Br (decide (x24 < (0 : Int))) (Q (GDim.zero, (150 : Int))) (
            At x3 x24 fun x27 =>
            Q (x27, (0 : Int))))) (
        At x1.Kids (0 : Int) fun x30 =>
        Call (Ev_unit_of x30 x2 x3) fun x32 =>
        Br (x32.2 != (0 : Int)) (Q (GDim.zero, x32.2)) (
          Br (((mget m8 x1.Kind).getD (0 : Int)) == (1 : Int)) (
            Call (Ev_unit_Plain) fun x38 =>
            Call (Ev_unit_Times x38 x32.1 x1.Num) fun x40 =>
            Q (x40.1, x40.2)) (
            At x1.Kids (1 : Int) fun x43 =>
            Call (Ev_unit_of x43 x2 x3) fun x45 =>
            Br (x45.2 != (0 : Int)) (Q (GDim.zero, x45.2)) (
              Br (x1.Kind == (22 : Int)) (
                Call (Ev_unit_whole (1 : Int)) fun x51 =>
                Call (Ev_unit_Times x32.1 x45.1 x51) fun x53 =>
                Q (x53.1, x53.2)) (
                Call (Ev_unit_whole (-1 : Int)) fun x55 =>
                Call (Ev_unit_Times x32.1 x45.1 x55) fun x57 =>
                Q (x57.1, x57.2))))))))

theorem walk_unit_of {x1 : GTree} {x2 : List ByteArray} {x3 : List GDim} {r : GDim × Int} (h : W_unit_of x1 x2 x3 (fun r' => r' = r)) : Ev_unit_of x1 x2 x3 r := by
  unfold W_unit_of at h
  refine AFn.intro' (L := [(0, .dat (GTree.out x1)), (1, .dat (.sl 9 1 (List.map eStr x2))), (2, .dat (.sl 44 14 (List.map GDim.enc x3)))]) tabOk Try.func62 rfl rfl Try.ntmps62 rfl rfl rfl ?_
  refine AWp.seq ?_
  refine AWp.regionN (fun _ => false) rfl ?_
  refine AOps.box (v := .dat (.st _ _)) rfl rfl rfl rfl rfl rfl ?_
  refine AOps.alloc tabOk rfl rfl rfl rfl rfl ?_
  refine pI rfl rfl rfl ?_
  refine AOps.done ?_
  refine AWp.seq ?_
  refine AWp.regionN (fun o => writes o) rfl ?_
  refine AOps.mkmap rfl rfl rfl rfl ?_
  obtain ⟨m4, em4, h⟩ := h.get
  refine AOps.insert tabOk (ek := (fun n : Int => Value.int .i64 n)) (ex := (eInt .i64)) (keyInt .i64) ⟨3, Try.underlying94, Try.underlying3⟩ (.inl rfl) rfl rfl rfl rfl rfl rfl rfl (fun _ h => by cases h) em4 ?_
  obtain ⟨m5, em5, h⟩ := h.get
  refine AOps.insert tabOk (ek := (fun n : Int => Value.int .i64 n)) (ex := (eInt .i64)) (keyInt .i64) ⟨3, Try.underlying94, Try.underlying3⟩ (.inl rfl) rfl rfl rfl rfl rfl rfl rfl (fun _ h => by cases h) em5 ?_
  obtain ⟨m6, em6, h⟩ := h.get
  refine AOps.insert tabOk (ek := (fun n : Int => Value.int .i64 n)) (ex := (eInt .i64)) (keyInt .i64) ⟨3, Try.underlying94, Try.underlying3⟩ (.inl rfl) rfl rfl rfl rfl rfl rfl rfl (fun _ h => by cases h) em6 ?_
  obtain ⟨m7, em7, h⟩ := h.get
  refine AOps.insert tabOk (ek := (fun n : Int => Value.int .i64 n)) (ex := (eInt .i64)) (keyInt .i64) ⟨3, Try.underlying94, Try.underlying3⟩ (.inl rfl) rfl rfl rfl rfl rfl rfl rfl (fun _ h => by cases h) em7 ?_
  obtain ⟨m8, em8, h⟩ := h.get
  refine AOps.insert tabOk (ek := (fun n : Int => Value.int .i64 n)) (ex := (eInt .i64)) (keyInt .i64) ⟨3, Try.underlying94, Try.underlying3⟩ (.inl rfl) rfl rfl rfl rfl rfl rfl rfl (fun _ h => by cases h) em8 ?_
  refine pO rfl rfl rfl ?_
  refine pO rfl rfl rfl ?_
  refine AOps.done ?_
  refine AWp.seq ?_
  refine AWp.regionN (fun _ => false) rfl ?_
  refine pO rfl rfl rfl ?_
  refine pP rfl rfl rfl ?_
  refine pI rfl rfl rfl ?_
  refine AOps.lookup2 tabOk (ek := (fun n : Int => Value.int .i64 n)) (ex := (eInt .i64)) (z := (0 : Int)) (m := m8) (k := x1.Kind) (keyInt .i64) ⟨3, Try.underlying94, Try.underlying3⟩ rfl rfl rfl rfl rfl rfl rfl rfl ?_
  refine pU rfl rfl rfl ?_
  refine pI rfl rfl rfl ?_
  refine pB rfl rfl rfl ?_
  refine pI rfl rfl rfl ?_
  refine pB rfl rfl rfl ?_
  refine AOps.done ?_
  refine AWp.seq ?_
  refine AWp.seq ?_
  refine AWp.regionN (fun _ => false) rfl ?_
  refine pB rfl rfl rfl ?_
  refine pB rfl rfl rfl ?_
  refine pB rfl rfl rfl ?_
  refine AOps.splitB 26 rfl (fun e => ?_) (fun e => ?_)
  · replace h := h.1 e
    refine AOps.off rfl rfl ?_
    refine AOps.off rfl rfl ?_
    refine AOps.off rfl rfl ?_
    refine AOps.off rfl rfl ?_
    refine AOps.off rfl rfl ?_
    refine pB rfl rfl rfl ?_
    refine AOps.done ?_
    refine AWp.condT rfl ?_
    refine AWp.seq ?_
    refine AWp.regionN (fun o => writes o) rfl ?_
    refine pT rfl rfl rfl ?_
    refine AOps.store tabOk (v := .dat (.st _ _)) rfl rfl rfl rfl rfl rfl rfl rfl rfl rfl rfl rfl rfl ?_
    refine pI rfl rfl rfl ?_
    refine AOps.done ?_
    refine AWp.ret ?_
    subst h
    exact ⟨_, rfl, rfl⟩
  · replace h := h.2 e
    refine pP rfl rfl rfl ?_
    refine pS rfl rfl rfl ?_
    refine AOps.i (j := ((x1.Kids.length : Nat) : Int)) tabOk rfl rfl rfl (by rw [List.length_map]) ?_
    refine pI rfl rfl rfl ?_
    refine pB rfl rfl rfl ?_
    refine pB rfl rfl rfl ?_
    refine AOps.done ?_
    refine AWp.cond rfl (fun e => ?_) (fun e => ?_)
    · replace h := h.1 e
      refine AWp.seq ?_
      refine AWp.regionN (fun o => writes o) rfl ?_
      refine pT rfl rfl rfl ?_
      refine AOps.store tabOk (v := .dat (.st _ _)) rfl rfl rfl rfl rfl rfl rfl rfl rfl rfl rfl rfl rfl ?_
      refine pI rfl rfl rfl ?_
      refine AOps.done ?_
      refine AWp.ret ?_
      subst h
      exact ⟨_, rfl, rfl⟩
    · replace h := h.2 e
      refine AWp.skip ?_
      refine AWp.seq ?_
      refine AWp.seq ?_
      refine AWp.regionN (fun _ => false) rfl ?_
      refine pI rfl rfl rfl ?_
      refine pB rfl rfl rfl ?_
      refine AOps.done ?_
      refine AWp.cond rfl (fun e => ?_) (fun e => ?_)
      · replace h := h.1 e
        refine AWp.seq ?_
        refine AWp.seq ?_
        refine AWp.regionN (fun _ => false) rfl ?_
        refine pP rfl rfl rfl ?_
        refine pI rfl rfl rfl ?_
        refine pB rfl rfl rfl ?_
        refine AOps.done ?_
        refine AWp.cond rfl (fun e => ?_) (fun e => ?_)
        · replace h := h.1 e
          refine AWp.seq ?_
          refine AWp.regionN (fun o => writes o) rfl ?_
          obtain ⟨x22, hc23, h⟩ := h
          refine AOps.call hc23 rfl rfl rfl trivial ?_
          refine AOps.store tabOk (v := .dat (.st _ _)) rfl rfl rfl rfl rfl rfl rfl rfl rfl rfl rfl rfl rfl ?_
          refine pI rfl rfl rfl ?_
          refine AOps.done ?_
          refine AWp.ret ?_
          subst h
          exact ⟨_, rfl, rfl⟩
        · replace h := h.2 e
          refine AWp.skip ?_
          refine AWp.seq ?_
          refine AWp.regionN (fun _ => false) rfl ?_
          refine pS rfl rfl rfl ?_
          refine pP rfl rfl rfl ?_
          refine pG rfl rfl rfl ?_
          obtain ⟨x24, hc25, h⟩ := h
          refine AOps.call hc25 rfl rfl rfl ⟨.inl rfl, .inl rfl, trivial⟩ ?_
          refine pI rfl rfl rfl ?_
          refine AOps.done ?_
          refine AWp.seq ?_
          refine AWp.seq ?_
          refine AWp.regionN (fun _ => false) rfl ?_
          refine pI rfl rfl rfl ?_
          refine pB rfl rfl rfl ?_
          refine AOps.done ?_
          refine AWp.cond rfl (fun e => ?_) (fun e => ?_)
          · replace h := h.1 e
            refine AWp.seq ?_
            refine AWp.regionN (fun o => writes o) rfl ?_
            refine pT rfl rfl rfl ?_
            refine AOps.store tabOk (v := .dat (.st _ _)) rfl rfl rfl rfl rfl rfl rfl rfl rfl rfl rfl rfl rfl ?_
            refine pI rfl rfl rfl ?_
            refine AOps.done ?_
            refine AWp.ret ?_
            subst h
            exact ⟨_, rfl, rfl⟩
          · replace h := h.2 e
            refine AWp.skip ?_
            refine AWp.seq ?_
            refine AWp.regionN (fun o => writes o) rfl ?_
            refine pS rfl rfl rfl ?_
            refine pI rfl rfl rfl ?_
            obtain ⟨hi26, x27, hx28, h⟩ := h
            refine AOps.idx tabOk (z := GDim.enc x27) rfl rfl rfl rfl rfl rfl rfl rfl hi26 (map_get hx28) ?_
            refine pT rfl rfl rfl ?_
            refine AOps.store tabOk (v := .dat (.st _ _)) rfl rfl rfl rfl rfl rfl rfl rfl rfl rfl rfl rfl rfl ?_
            refine pI rfl rfl rfl ?_
            refine AOps.done ?_
            refine AWp.ret ?_
            subst h
            exact ⟨_, rfl, rfl⟩
      · replace h := h.2 e
        refine AWp.skip ?_
        refine AWp.seq ?_
        refine AWp.regionN (fun o => writes o) rfl ?_
        refine pP rfl rfl rfl ?_
        refine pS rfl rfl rfl ?_
        obtain ⟨hi29, x30, hx31, h⟩ := h
        refine AOps.idx tabOk (z := GTree.out x30) rfl rfl rfl rfl rfl rfl rfl rfl hi29 (GTree.get hx31) ?_
        refine pT rfl rfl rfl ?_
        refine pS rfl rfl rfl ?_
        refine pS rfl rfl rfl ?_
        obtain ⟨x32, hc33, h⟩ := h
        refine AOps.call hc33 rfl rfl rfl ⟨.inl rfl, .inl rfl, .inl rfl, trivial⟩ ?_
        refine pU rfl rfl rfl ?_
        refine pT rfl rfl rfl ?_
        refine pI rfl rfl rfl ?_
        refine AOps.alloc tabOk rfl rfl rfl rfl rfl ?_
        refine AOps.store tabOk (v := .dat (.st _ _)) rfl rfl rfl rfl rfl rfl rfl rfl rfl rfl rfl rfl rfl ?_
        refine pI rfl rfl rfl ?_
        refine AOps.done ?_
        refine AWp.seq ?_
        refine AWp.seq ?_
        refine AWp.regionN (fun _ => false) rfl ?_
        refine pI rfl rfl rfl ?_
        refine pB rfl rfl rfl ?_
        refine AOps.done ?_
        refine AWp.cond rfl (fun e => ?_) (fun e => ?_)
        · replace h := h.1 e
          refine AWp.seq ?_
          refine AWp.regionN (fun o => writes o) rfl ?_
          refine pT rfl rfl rfl ?_
          refine pI rfl rfl rfl ?_
          refine AOps.store tabOk (v := .dat (.st _ _)) rfl rfl rfl rfl rfl rfl rfl rfl rfl rfl rfl rfl rfl ?_
          refine pI rfl rfl rfl ?_
          refine AOps.done ?_
          refine AWp.ret ?_
          subst h
          exact ⟨_, rfl, rfl⟩
        · replace h := h.2 e
          refine AWp.skip ?_
          refine AWp.seq ?_
          refine AWp.seq ?_
          refine AWp.regionN (fun _ => false) rfl ?_
          refine pI rfl rfl rfl ?_
          refine pB rfl rfl rfl ?_
          refine AOps.done ?_
          refine AWp.cond rfl (fun e => ?_) (fun e => ?_)
          · replace h := h.1 e
            refine AWp.seq ?_
            refine AWp.regionD (fun o => writes o) mixed (by decide +kernel) rfl ?_
            obtain ⟨x38, hc39, h⟩ := h
            refine AOps.call hc39 rfl rfl rfl trivial ?_
            refine pT rfl rfl rfl ?_
            refine pP rfl rfl rfl ?_
            refine pT rfl rfl rfl ?_
            obtain ⟨x40, hc41, h⟩ := h
            refine AOps.call hc41 rfl rfl rfl ⟨.inl rfl, .inl rfl, .inl rfl, trivial⟩ ?_
            refine pT rfl rfl rfl ?_
            refine pI rfl rfl rfl ?_
            refine AOps.store tabOk (v := .dat (.st _ _)) rfl rfl rfl rfl rfl rfl rfl rfl rfl rfl rfl rfl rfl ?_
            refine pI rfl rfl rfl ?_
            refine AOps.done ?_
            refine AWp.ret ?_
            subst h
            exact ⟨_, rfl, rfl⟩
          · replace h := h.2 e
            refine AWp.skip ?_
            refine AWp.seq ?_
            refine AWp.regionN (fun o => writes o) rfl ?_
            refine pP rfl rfl rfl ?_
            refine pS rfl rfl rfl ?_
            obtain ⟨hi42, x43, hx44, h⟩ := h
            refine AOps.idx tabOk (z := GTree.out x43) rfl rfl rfl rfl rfl rfl rfl rfl hi42 (GTree.get hx44) ?_
            refine pT rfl rfl rfl ?_
            refine pS rfl rfl rfl ?_
            refine pS rfl rfl rfl ?_
            obtain ⟨x45, hc46, h⟩ := h
            refine AOps.call hc46 rfl rfl rfl ⟨.inl rfl, .inl rfl, .inl rfl, trivial⟩ ?_
            refine pU rfl rfl rfl ?_
            refine pT rfl rfl rfl ?_
            refine pI rfl rfl rfl ?_
            refine AOps.alloc tabOk rfl rfl rfl rfl rfl ?_
            refine AOps.store tabOk (v := .dat (.st _ _)) rfl rfl rfl rfl rfl rfl rfl rfl rfl rfl rfl rfl rfl ?_
            refine pI rfl rfl rfl ?_
            refine AOps.done ?_
            refine AWp.seq ?_
            refine AWp.seq ?_
            refine AWp.regionN (fun _ => false) rfl ?_
            refine pI rfl rfl rfl ?_
            refine pB rfl rfl rfl ?_
            refine AOps.done ?_
            refine AWp.cond rfl (fun e => ?_) (fun e => ?_)
            · replace h := h.1 e
              refine AWp.seq ?_
              refine AWp.regionN (fun o => writes o) rfl ?_
              refine pT rfl rfl rfl ?_
              refine pI rfl rfl rfl ?_
              refine AOps.store tabOk (v := .dat (.st _ _)) rfl rfl rfl rfl rfl rfl rfl rfl rfl rfl rfl rfl rfl ?_
              refine pI rfl rfl rfl ?_
              refine AOps.done ?_
              refine AWp.ret ?_
              subst h
              exact ⟨_, rfl, rfl⟩
            · replace h := h.2 e
              refine AWp.skip ?_
              refine AWp.seq ?_
              refine AWp.seq ?_
              refine AWp.regionN (fun _ => false) rfl ?_
              refine pP rfl rfl rfl ?_
              refine pI rfl rfl rfl ?_
              refine pB rfl rfl rfl ?_
              refine AOps.done ?_
              refine AWp.cond rfl (fun e => ?_) (fun e => ?_)
              · replace h := h.1 e
                refine AWp.seq ?_
                refine AWp.regionD (fun o => writes o) mixed (by decide +kernel) rfl ?_
                refine pT rfl rfl rfl ?_
                refine pT rfl rfl rfl ?_
                obtain ⟨x51, hc52, h⟩ := h
                refine AOps.call hc52 rfl rfl rfl ⟨.inl rfl, trivial⟩ ?_
                obtain ⟨x53, hc54, h⟩ := h
                refine AOps.call hc54 rfl rfl rfl ⟨.inl rfl, .inl rfl, .inl rfl, trivial⟩ ?_
                refine pT rfl rfl rfl ?_
                refine pI rfl rfl rfl ?_
                refine AOps.store tabOk (v := .dat (.st _ _)) rfl rfl rfl rfl rfl rfl rfl rfl rfl rfl rfl rfl rfl ?_
                refine pI rfl rfl rfl ?_
                refine AOps.done ?_
                refine AWp.ret ?_
                subst h
                exact ⟨_, rfl, rfl⟩
              · replace h := h.2 e
                refine AWp.skip ?_
                refine AWp.seq ?_
                refine AWp.regionD (fun o => writes o) mixed (by decide +kernel) rfl ?_
                refine pT rfl rfl rfl ?_
                refine pT rfl rfl rfl ?_
                obtain ⟨x55, hc56, h⟩ := h
                refine AOps.call hc56 rfl rfl rfl ⟨.inl rfl, trivial⟩ ?_
                obtain ⟨x57, hc58, h⟩ := h
                refine AOps.call hc58 rfl rfl rfl ⟨.inl rfl, .inl rfl, .inl rfl, trivial⟩ ?_
                refine pT rfl rfl rfl ?_
                refine pI rfl rfl rfl ?_
                refine AOps.store tabOk (v := .dat (.st _ _)) rfl rfl rfl rfl rfl rfl rfl rfl rfl rfl rfl rfl rfl ?_
                refine pI rfl rfl rfl ?_
                refine AOps.done ?_
                refine AWp.ret ?_
                subst h
                exact ⟨_, rfl, rfl⟩

def W_ref14_dim (x1 : GTree) (x2 : List ByteArray) (x3 : List GDim) (Q : GDim × Int → Prop) : Prop :=
  Join1 (fun j15 =>
    Join1 (fun j17 =>
      Br (x1.Kind == (20 : Int)) (j17 (x1.Kind == (20 : Int))) (
        j17 (x1.Kind == (21 : Int)))
    ) (fun (x16 : Bool) =>
      Br x16 (j15 (0 : Int)) (
        Join1 (fun j19 =>
          Br (x1.Kind == (22 : Int)) (j19 (x1.Kind == (22 : Int))) (
            j19 (x1.Kind == (23 : Int)))
        ) (fun (x18 : Bool) =>
          Br x18 (j15 (2 : Int)) (
            Br (x1.Kind == (24 : Int)) (j15 (1 : Int)) (
              j15 (-1 : Int))))))
  ) (fun (x14 : Int) =>
    Br (((x1.Kids.length : Nat) : Int) != x14) (Q (GDim.zero, (133 : Int))) (
      Br (x1.Kind == (20 : Int)) (
        Call (Ev_ref14_Plain) fun x29 =>
        Q (x29, (0 : Int))) (
        Br (x1.Kind == (21 : Int)) (
          Loop1 (0 : Int) (fun (x154 : Int) next155 =>
            Br (decide (x154 < ((x2.length : Nat) : Int))) (
              At x2 x154 fun x163 =>
              Br (x163.toList == x1.Name.toList) (
                At x3 x154 fun x166 =>
                Q (x166, (0 : Int))) (
                Let (IntKind.i64.wrap (x154 + (1 : Int))) fun x168 =>
                next155 x168)) (
              Q (GDim.zero, (150 : Int))))) (
          At x1.Kids (0 : Int) fun x174 =>
          Call (Ev_ref14_dim x174 x2 x3) fun x176 =>
          Br (x176.2 != (0 : Int)) (Q (GDim.zero, x176.2)) (
            Br (x1.Kind == (24 : Int)) (
              Call (Ev_ref14_Plain) fun x182 =>
              Call (Ev_ref14_Times x182 x176.1 x1.Num) fun x184 =>
              Q (x184.1, x184.2)) (
              At x1.Kids (1 : Int) fun x187 =>
              Call (Ev_ref14_dim x187 x2 x3) fun x189 =>
              Br (x189.2 != (0 : Int)) (Q (GDim.zero, x189.2)) (
                Br (x1.Kind == (23 : Int)) (
                  Call (Ev_ref14_Whole (-1 : Int)) fun x195 =>
                  Call (Ev_ref14_Times x176.1 x189.1 x195) fun x197 =>
                  Q (x197.1, x197.2)) (
                  Call (Ev_ref14_Whole (1 : Int)) fun x199 =>
                  Call (Ev_ref14_Times x176.1 x189.1 x199) fun x201 =>
                  Q (x201.1, x201.2)))))))))

theorem walk_ref14_dim {x1 : GTree} {x2 : List ByteArray} {x3 : List GDim} {r : GDim × Int} (h : W_ref14_dim x1 x2 x3 (fun r' => r' = r)) : Ev_ref14_dim x1 x2 x3 r := by
  unfold W_ref14_dim at h
  refine AFn.intro' (L := [(0, .dat (GTree.out x1)), (1, .dat (.sl 9 1 (List.map eStr x2))), (2, .dat (.sl 44 14 (List.map GDim.enc x3)))]) tabOk Try.func63 rfl rfl Try.ntmps63 rfl rfl rfl ?_
  refine AWp.seq ?_
  refine AWp.regionN (fun _ => false) rfl ?_
  refine AOps.box (v := .dat (.st _ _)) rfl rfl rfl rfl rfl rfl ?_
  refine AOps.alloc tabOk rfl rfl rfl rfl rfl ?_
  refine pI rfl rfl rfl ?_
  refine AOps.done ?_
  refine AWp.seq ?_
  refine AWp.regionN (fun _ => false) rfl ?_
  refine pI rfl rfl rfl ?_
  refine AOps.done ?_
  refine AWp.seq ?_
  refine AWp.seq ?_
  refine AWp.regionN (fun _ => false) rfl ?_
  refine pP rfl rfl rfl ?_
  refine pI rfl rfl rfl ?_
  refine AOps.done ?_
  obtain ⟨J203, hj204, hk205⟩ := h
  refine AWp.cutK (I := fun p : Int => mkSt [(1, .dat (.sl 9 1 (List.map eStr x2))), (2, .dat (.sl 44 14 (List.map GDim.enc x3))), (3, .pt 3 [] 0), (6, .pt 6 [] 0), (8, .dat (.v (.int .i64 p)))] [(3, .box 26 9 (.dat (GTree.out x1))), (6, .box 44 14 (.dat (GDim.enc GDim.zero)))]) (Inv := fun p : Int => J203 p) ?_ (fun p hp => ?_)
  · have h := hj204
    refine AWp.block ?_
    refine AWp.seq ?_
    refine AWp.seq ?_
    refine AWp.regionN (fun _ => false) rfl ?_
    refine pB rfl rfl rfl ?_
    refine pB rfl rfl rfl ?_
    refine AOps.done ?_
    obtain ⟨J23, hj24, hk25⟩ := h
    refine AWp.cutK (I := fun p : Bool => mkSt [(1, .dat (.sl 9 1 (List.map eStr x2))), (2, .dat (.sl 44 14 (List.map GDim.enc x3))), (3, .pt 3 [] 0), (6, .pt 6 [] 0), (8, .dat (.v (.int .i64 (-1 : Int)))), (16, .dat (.v (.int .i64 x1.Kind))), (17, .dat (.v (.bool p)))] [(3, .box 26 9 (.dat (GTree.out x1))), (6, .box 44 14 (.dat (GDim.enc GDim.zero)))]) (Inv := fun p : Bool => J23 p) ?_ (fun p hp => ?_)
    · have h := hj24
      refine AWp.cond rfl (fun e => ?_) (fun e => ?_)
      · replace h := h.1 e
        refine AWp.skip ?_
        exact ⟨(x1.Kind == (20 : Int)), h, (Sub.list (fun i => i) rfl rfl ⟨rfl, rfl, rfl, rfl, rfl, rfl, rfl, trivial⟩ ⟨rfl, rfl, trivial⟩)⟩
      · replace h := h.2 e
        refine AWp.regionN (fun _ => false) rfl ?_
        refine pB rfl rfl rfl ?_
        refine pB rfl rfl rfl ?_
        refine AOps.done ?_
        exact ⟨(x1.Kind == (21 : Int)), h, (Sub.list (fun i => i) rfl rfl ⟨rfl, rfl, rfl, rfl, rfl, rfl, rfl, trivial⟩ ⟨rfl, rfl, trivial⟩)⟩
    · have h := hk25 p hp
      revert h; clear hp; generalize p = x16; intro h
      refine AWp.cond rfl (fun e => ?_) (fun e => ?_)
      · replace h := h.1 e
        refine AWp.regionN (fun _ => false) rfl ?_
        refine pI rfl rfl rfl ?_
        refine AOps.done ?_
        exact ⟨(0 : Int), h, (Sub.list (fun i => i) rfl rfl ⟨rfl, rfl, rfl, rfl, rfl, trivial⟩ ⟨rfl, rfl, trivial⟩)⟩
      · replace h := h.2 e
        refine AWp.seq ?_
        refine AWp.seq ?_
        refine AWp.regionN (fun _ => false) rfl ?_
        refine pB rfl rfl rfl ?_
        refine pB rfl rfl rfl ?_
        refine AOps.done ?_
        obtain ⟨J20, hj21, hk22⟩ := h
        refine AWp.cutK (I := fun p : Bool => mkSt [(1, .dat (.sl 9 1 (List.map eStr x2))), (2, .dat (.sl 44 14 (List.map GDim.enc x3))), (3, .pt 3 [] 0), (6, .pt 6 [] 0), (8, .dat (.v (.int .i64 (-1 : Int)))), (16, .dat (.v (.int .i64 x1.Kind))), (20, .dat (.v (.bool p)))] [(3, .box 26 9 (.dat (GTree.out x1))), (6, .box 44 14 (.dat (GDim.enc GDim.zero)))]) (Inv := fun p : Bool => J20 p) ?_ (fun p hp => ?_)
        · have h := hj21
          refine AWp.cond rfl (fun e => ?_) (fun e => ?_)
          · replace h := h.1 e
            refine AWp.skip ?_
            exact ⟨(x1.Kind == (22 : Int)), h, (Sub.list (fun i => i) rfl rfl ⟨rfl, rfl, rfl, rfl, rfl, rfl, rfl, trivial⟩ ⟨rfl, rfl, trivial⟩)⟩
          · replace h := h.2 e
            refine AWp.regionN (fun _ => false) rfl ?_
            refine pB rfl rfl rfl ?_
            refine pB rfl rfl rfl ?_
            refine AOps.done ?_
            exact ⟨(x1.Kind == (23 : Int)), h, (Sub.list (fun i => i) rfl rfl ⟨rfl, rfl, rfl, rfl, rfl, rfl, rfl, trivial⟩ ⟨rfl, rfl, trivial⟩)⟩
        · have h := hk22 p hp
          revert h; clear hp; generalize p = x18; intro h
          refine AWp.cond rfl (fun e => ?_) (fun e => ?_)
          · replace h := h.1 e
            refine AWp.regionN (fun _ => false) rfl ?_
            refine pI rfl rfl rfl ?_
            refine AOps.done ?_
            exact ⟨(2 : Int), h, (Sub.list (fun i => i) rfl rfl ⟨rfl, rfl, rfl, rfl, rfl, trivial⟩ ⟨rfl, rfl, trivial⟩)⟩
          · replace h := h.2 e
            refine AWp.seq ?_
            refine AWp.regionN (fun _ => false) rfl ?_
            refine pB rfl rfl rfl ?_
            refine pB rfl rfl rfl ?_
            refine AOps.done ?_
            refine AWp.cond rfl (fun e => ?_) (fun e => ?_)
            · replace h := h.1 e
              refine AWp.regionN (fun _ => false) rfl ?_
              refine pI rfl rfl rfl ?_
              refine AOps.done ?_
              exact ⟨(1 : Int), h, (Sub.list (fun i => i) rfl rfl ⟨rfl, rfl, rfl, rfl, rfl, trivial⟩ ⟨rfl, rfl, trivial⟩)⟩
            · replace h := h.2 e
              refine AWp.skip ?_
              exact ⟨(-1 : Int), h, (Sub.list (fun i => i) rfl rfl ⟨rfl, rfl, rfl, rfl, rfl, trivial⟩ ⟨rfl, rfl, trivial⟩)⟩
  · have h := hk205 p hp
    revert h; clear hp; generalize p = x14; intro h
    refine AWp.seq ?_
    refine AWp.seq ?_
    refine AWp.regionN (fun _ => false) rfl ?_
    refine pP rfl rfl rfl ?_
    refine pS rfl rfl rfl ?_
    refine AOps.i (j := ((x1.Kids.length : Nat) : Int)) tabOk rfl rfl rfl (by rw [List.length_map]) ?_
    refine pI rfl rfl rfl ?_
    refine pB rfl rfl rfl ?_
    refine AOps.done ?_
    refine AWp.cond rfl (fun e => ?_) (fun e => ?_)
    · replace h := h.1 e
      refine AWp.seq ?_
      refine AWp.regionN (fun o => writes o) rfl ?_
      refine pT rfl rfl rfl ?_
      refine AOps.store tabOk (v := .dat (.st _ _)) rfl rfl rfl rfl rfl rfl rfl rfl rfl rfl rfl rfl rfl ?_
      refine pI rfl rfl rfl ?_
      refine AOps.done ?_
      refine AWp.ret ?_
      subst h
      exact ⟨_, rfl, rfl⟩
    · replace h := h.2 e
      refine AWp.skip ?_
      refine AWp.seq ?_
      refine AWp.seq ?_
      refine AWp.regionN (fun _ => false) rfl ?_
      refine pP rfl rfl rfl ?_
      refine pI rfl rfl rfl ?_
      refine pB rfl rfl rfl ?_
      refine AOps.done ?_
      refine AWp.cond rfl (fun e => ?_) (fun e => ?_)
      · replace h := h.1 e
        refine AWp.seq ?_
        refine AWp.regionN (fun o => writes o) rfl ?_
        obtain ⟨x29, hc30, h⟩ := h
        refine AOps.call hc30 rfl rfl rfl trivial ?_
        refine AOps.store tabOk (v := .dat (.st _ _)) rfl rfl rfl rfl rfl rfl rfl rfl rfl rfl rfl rfl rfl ?_
        refine pI rfl rfl rfl ?_
        refine AOps.done ?_
        refine AWp.ret ?_
        subst h
        exact ⟨_, rfl, rfl⟩
      · replace h := h.2 e
        refine AWp.skip ?_
        refine AWp.seq ?_
        refine AWp.seq ?_
        refine AWp.regionN (fun _ => false) rfl ?_
        refine pP rfl rfl rfl ?_
        refine pI rfl rfl rfl ?_
        refine pB rfl rfl rfl ?_
        refine AOps.done ?_
        refine AWp.cond rfl (fun e => ?_) (fun e => ?_)
        · replace h := h.1 e
          refine AWp.seq ?_
          refine AWp.seq ?_
          refine AWp.regionN (fun _ => false) rfl ?_
          refine pS rfl rfl rfl ?_
          refine AOps.i (j := ((x2.length : Nat) : Int)) tabOk rfl rfl rfl (by rw [List.length_map]) ?_
          refine pI rfl rfl rfl ?_
          refine AOps.done ?_
          refine AWp.block ?_
          obtain ⟨I169, x170, hz171, hr172⟩ := h
          refine AWp.loop (I := fun p : Int => mkSt [(2, .dat (.sl 44 14 (List.map GDim.enc x3))), (3, .pt 3 [] 0), (6, .pt 6 [] 0), (38, .dat (.sl 9 1 (List.map eStr x2))), (39, .dat (.v (.int .i64 ((x2.length : Nat) : Int)))), (40, .dat (.v (.int .i64 p)))] [(3, .box 26 9 (.dat (GTree.out x1))), (6, .box 44 14 (.dat (GDim.enc GDim.zero)))]) (Inv := fun p => I169 p) (μ := fun p => x170 p) (x0 := (0 : Int)) hz171 (Sub.list (fun i => i) rfl rfl ⟨rfl, rfl, rfl, rfl, rfl, rfl, trivial⟩ ⟨rfl, rfl, trivial⟩) (fun p hp => ?_)
          have h := hr172 p hp
          revert h; clear hp; generalize p = x154; intro h
          refine AWp.seq ?_
          refine AWp.regionN (fun _ => false) rfl ?_
          refine pW rfl rfl rfl ?_
          refine AOps.done ?_
          refine AWp.seq ?_
          refine AWp.cond rfl (fun e => ?_) (fun e => ?_)
          · replace h := h.1 e
            refine AWp.skip ?_
            refine AWp.seq ?_
            refine AWp.block ?_
            refine AWp.seq ?_
            refine AWp.regionN (fun _ => false) rfl ?_
            refine pI rfl rfl rfl ?_
            obtain ⟨hi162, x163, hx164, h⟩ := h
            refine AOps.idx tabOk (z := .v (.string x163)) rfl rfl rfl rfl rfl rfl rfl rfl hi162 (map_get hx164) ?_
            refine pG rfl rfl rfl ?_
            refine pI rfl rfl rfl ?_
            refine pG rfl rfl rfl ?_
            refine AOps.done ?_
            refine AWp.seq ?_
            refine AWp.regionN (fun _ => false) rfl ?_
            refine pG rfl rfl rfl ?_
            refine pP rfl rfl rfl ?_
            refine pG rfl rfl rfl ?_
            refine pB rfl rfl rfl ?_
            refine AOps.done ?_
            refine AWp.cond rfl (fun e => ?_) (fun e => ?_)
            · replace h := h.1 e
              refine AWp.seq ?_
              refine AWp.regionN (fun o => writes o) rfl ?_
              refine pS rfl rfl rfl ?_
              refine pI rfl rfl rfl ?_
              obtain ⟨hi165, x166, hx167, h⟩ := h
              refine AOps.idx tabOk (z := GDim.enc x166) rfl rfl rfl rfl rfl rfl rfl rfl hi165 (map_get hx167) ?_
              refine pT rfl rfl rfl ?_
              refine AOps.store tabOk (v := .dat (.st _ _)) rfl rfl rfl rfl rfl rfl rfl rfl rfl rfl rfl rfl rfl ?_
              refine pI rfl rfl rfl ?_
              refine AOps.done ?_
              refine AWp.ret ?_
              subst h
              exact ⟨_, rfl, rfl⟩
            · replace h := h.2 e
              refine AWp.skip ?_
              refine AWp.regionN (fun _ => false) rfl ?_
              obtain ⟨x168, ex168, h⟩ := h.get
              refine AOps.i tabOk rfl rfl rfl ex168 ?_
              refine pI rfl rfl rfl ?_
              refine AOps.done ?_
              exact ⟨x168, h.1, h.2, (Sub.list (fun i => i) rfl rfl ⟨rfl, rfl, rfl, rfl, rfl, rfl, trivial⟩ ⟨rfl, rfl, trivial⟩)⟩
          · replace h := h.2 e
            refine AWp.exit ?_
            refine AWp.seq ?_
            refine AWp.regionN (fun o => writes o) rfl ?_
            refine pT rfl rfl rfl ?_
            refine AOps.store tabOk (v := .dat (.st _ _)) rfl rfl rfl rfl rfl rfl rfl rfl rfl rfl rfl rfl rfl ?_
            refine pI rfl rfl rfl ?_
            refine AOps.done ?_
            refine AWp.ret ?_
            subst h
            exact ⟨_, rfl, rfl⟩
        · replace h := h.2 e
          refine AWp.skip ?_
          refine AWp.seq ?_
          refine AWp.regionN (fun o => writes o) rfl ?_
          refine pP rfl rfl rfl ?_
          refine pS rfl rfl rfl ?_
          obtain ⟨hi173, x174, hx175, h⟩ := h
          refine AOps.idx tabOk (z := GTree.out x174) rfl rfl rfl rfl rfl rfl rfl rfl hi173 (GTree.get hx175) ?_
          refine pT rfl rfl rfl ?_
          refine pS rfl rfl rfl ?_
          refine pS rfl rfl rfl ?_
          obtain ⟨x176, hc177, h⟩ := h
          refine AOps.call hc177 rfl rfl rfl ⟨.inl rfl, .inl rfl, .inl rfl, trivial⟩ ?_
          refine pU rfl rfl rfl ?_
          refine pT rfl rfl rfl ?_
          refine pI rfl rfl rfl ?_
          refine AOps.alloc tabOk rfl rfl rfl rfl rfl ?_
          refine AOps.store tabOk (v := .dat (.st _ _)) rfl rfl rfl rfl rfl rfl rfl rfl rfl rfl rfl rfl rfl ?_
          refine pI rfl rfl rfl ?_
          refine AOps.done ?_
          refine AWp.seq ?_
          refine AWp.seq ?_
          refine AWp.regionN (fun _ => false) rfl ?_
          refine pI rfl rfl rfl ?_
          refine pB rfl rfl rfl ?_
          refine AOps.done ?_
          refine AWp.cond rfl (fun e => ?_) (fun e => ?_)
          · replace h := h.1 e
            refine AWp.seq ?_
            refine AWp.regionN (fun o => writes o) rfl ?_
            refine pT rfl rfl rfl ?_
            refine pI rfl rfl rfl ?_
            refine AOps.store tabOk (v := .dat (.st _ _)) rfl rfl rfl rfl rfl rfl rfl rfl rfl rfl rfl rfl rfl ?_
            refine pI rfl rfl rfl ?_
            refine AOps.done ?_
            refine AWp.ret ?_
            subst h
            exact ⟨_, rfl, rfl⟩
          · replace h := h.2 e
            refine AWp.skip ?_
            refine AWp.seq ?_
            refine AWp.seq ?_
            refine AWp.regionN (fun _ => false) rfl ?_
            refine pP rfl rfl rfl ?_
            refine pI rfl rfl rfl ?_
            refine pB rfl rfl rfl ?_
            refine AOps.done ?_
            refine AWp.cond rfl (fun e => ?_) (fun e => ?_)
            · replace h := h.1 e
              refine AWp.seq ?_
              refine AWp.regionD (fun o => writes o) mixed (by decide +kernel) rfl ?_
              obtain ⟨x182, hc183, h⟩ := h
              refine AOps.call hc183 rfl rfl rfl trivial ?_
              refine pT rfl rfl rfl ?_
              refine pP rfl rfl rfl ?_
              refine pT rfl rfl rfl ?_
              obtain ⟨x184, hc185, h⟩ := h
              refine AOps.call hc185 rfl rfl rfl ⟨.inl rfl, .inl rfl, .inl rfl, trivial⟩ ?_
              refine pT rfl rfl rfl ?_
              refine pI rfl rfl rfl ?_
              refine AOps.store tabOk (v := .dat (.st _ _)) rfl rfl rfl rfl rfl rfl rfl rfl rfl rfl rfl rfl rfl ?_
              refine pI rfl rfl rfl ?_
              refine AOps.done ?_
              refine AWp.ret ?_
              subst h
              exact ⟨_, rfl, rfl⟩
            · replace h := h.2 e
              refine AWp.skip ?_
              refine AWp.seq ?_
              refine AWp.regionN (fun o => writes o) rfl ?_
              refine pP rfl rfl rfl ?_
              refine pS rfl rfl rfl ?_
              obtain ⟨hi186, x187, hx188, h⟩ := h
              refine AOps.idx tabOk (z := GTree.out x187) rfl rfl rfl rfl rfl rfl rfl rfl hi186 (GTree.get hx188) ?_
              refine pT rfl rfl rfl ?_
              refine pS rfl rfl rfl ?_
              refine pS rfl rfl rfl ?_
              obtain ⟨x189, hc190, h⟩ := h
              refine AOps.call hc190 rfl rfl rfl ⟨.inl rfl, .inl rfl, .inl rfl, trivial⟩ ?_
              refine pU rfl rfl rfl ?_
              refine pT rfl rfl rfl ?_
              refine pI rfl rfl rfl ?_
              refine AOps.alloc tabOk rfl rfl rfl rfl rfl ?_
              refine AOps.store tabOk (v := .dat (.st _ _)) rfl rfl rfl rfl rfl rfl rfl rfl rfl rfl rfl rfl rfl ?_
              refine pI rfl rfl rfl ?_
              refine AOps.done ?_
              refine AWp.seq ?_
              refine AWp.seq ?_
              refine AWp.regionN (fun _ => false) rfl ?_
              refine pI rfl rfl rfl ?_
              refine pB rfl rfl rfl ?_
              refine AOps.done ?_
              refine AWp.cond rfl (fun e => ?_) (fun e => ?_)
              · replace h := h.1 e
                refine AWp.seq ?_
                refine AWp.regionN (fun o => writes o) rfl ?_
                refine pT rfl rfl rfl ?_
                refine pI rfl rfl rfl ?_
                refine AOps.store tabOk (v := .dat (.st _ _)) rfl rfl rfl rfl rfl rfl rfl rfl rfl rfl rfl rfl rfl ?_
                refine pI rfl rfl rfl ?_
                refine AOps.done ?_
                refine AWp.ret ?_
                subst h
                exact ⟨_, rfl, rfl⟩
              · replace h := h.2 e
                refine AWp.skip ?_
                refine AWp.seq ?_
                refine AWp.seq ?_
                refine AWp.regionN (fun _ => false) rfl ?_
                refine pP rfl rfl rfl ?_
                refine pI rfl rfl rfl ?_
                refine pB rfl rfl rfl ?_
                refine AOps.done ?_
                refine AWp.cond rfl (fun e => ?_) (fun e => ?_)
                · replace h := h.1 e
                  refine AWp.seq ?_
                  refine AWp.regionD (fun o => writes o) mixed (by decide +kernel) rfl ?_
                  refine pT rfl rfl rfl ?_
                  refine pT rfl rfl rfl ?_
                  obtain ⟨x195, hc196, h⟩ := h
                  refine AOps.call hc196 rfl rfl rfl ⟨.inl rfl, trivial⟩ ?_
                  obtain ⟨x197, hc198, h⟩ := h
                  refine AOps.call hc198 rfl rfl rfl ⟨.inl rfl, .inl rfl, .inl rfl, trivial⟩ ?_
                  refine pT rfl rfl rfl ?_
                  refine pI rfl rfl rfl ?_
                  refine AOps.store tabOk (v := .dat (.st _ _)) rfl rfl rfl rfl rfl rfl rfl rfl rfl rfl rfl rfl rfl ?_
                  refine pI rfl rfl rfl ?_
                  refine AOps.done ?_
                  refine AWp.ret ?_
                  subst h
                  exact ⟨_, rfl, rfl⟩
                · replace h := h.2 e
                  refine AWp.skip ?_
                  refine AWp.seq ?_
                  refine AWp.regionD (fun o => writes o) mixed (by decide +kernel) rfl ?_
                  refine pT rfl rfl rfl ?_
                  refine pT rfl rfl rfl ?_
                  obtain ⟨x199, hc200, h⟩ := h
                  refine AOps.call hc200 rfl rfl rfl ⟨.inl rfl, trivial⟩ ?_
                  obtain ⟨x201, hc202, h⟩ := h
                  refine AOps.call hc202 rfl rfl rfl ⟨.inl rfl, .inl rfl, .inl rfl, trivial⟩ ?_
                  refine pT rfl rfl rfl ?_
                  refine pI rfl rfl rfl ?_
                  refine AOps.store tabOk (v := .dat (.st _ _)) rfl rfl rfl rfl rfl rfl rfl rfl rfl rfl rfl rfl rfl ?_
                  refine pI rfl rfl rfl ?_
                  refine AOps.done ?_
                  refine AWp.ret ?_
                  subst h
                  exact ⟨_, rfl, rfl⟩

def W_slices_IndexFunc_api_Dim (s1 : List GDim) (f2 : DV) (Q : Int → Prop) : Prop :=
  Loop1 (0 : Int) (fun (x45 : Int) next46 =>
    Br (decide (x45 < ((s1.length : Nat) : Int))) (
      At s1 x45 fun x53 =>
      Call (fun x55 : Bool => FVal prog f2 [GDim.enc x53] (.v (.bool x55))) fun x55 =>
      Br x55 (Q x45) (
        Let (IntKind.i64.wrap (x45 + (1 : Int))) fun x57 =>
        next46 x57)) (
      Q (-1 : Int)))

theorem walk_slices_IndexFunc_api_Dim {s1 : List GDim} {f2 : DV} {r : Int} (h : W_slices_IndexFunc_api_Dim s1 f2 (fun r' => r' = r)) : Ev_slices_IndexFunc_api_Dim s1 f2 r := by
  unfold W_slices_IndexFunc_api_Dim at h
  refine AFn.intro' (L := [(0, .dat (.sl 44 14 (List.map GDim.enc s1))), (1, .dat (f2))]) tabOk Try.func75 rfl rfl Try.ntmps75 rfl rfl rfl ?_
  refine AWp.seq ?_
  refine AWp.regionN (fun _ => false) rfl ?_
  refine pI rfl rfl rfl ?_
  refine AOps.done ?_
  refine AWp.seq ?_
  refine AWp.seq ?_
  refine AWp.regionN (fun _ => false) rfl ?_
  refine pS rfl rfl rfl ?_
  refine AOps.i (j := ((s1.length : Nat) : Int)) tabOk rfl rfl rfl (by rw [List.length_map]) ?_
  refine pI rfl rfl rfl ?_
  refine AOps.done ?_
  refine AWp.block ?_
  obtain ⟨I58, x59, hz60, hr61⟩ := h
  refine AWp.loop (I := fun p : Int => mkSt [(0, .dat (.sl 44 14 (List.map GDim.enc s1))), (1, .dat (f2)), (7, .dat (.v (.int .i64 ((s1.length : Nat) : Int)))), (8, .dat (.v (.int .i64 p)))] []) (Inv := fun p => I58 p) (μ := fun p => x59 p) (x0 := (0 : Int)) hz60 (Sub.list (fun i => i) rfl rfl ⟨rfl, rfl, rfl, rfl, trivial⟩ trivial) (fun p hp => ?_)
  have h := hr61 p hp
  revert h; clear hp; generalize p = x45; intro h
  refine AWp.seq ?_
  refine AWp.regionN (fun _ => false) rfl ?_
  refine pW rfl rfl rfl ?_
  refine AOps.done ?_
  refine AWp.seq ?_
  refine AWp.cond rfl (fun e => ?_) (fun e => ?_)
  · replace h := h.1 e
    refine AWp.skip ?_
    refine AWp.seq ?_
    refine AWp.block ?_
    refine AWp.seq ?_
    refine AWp.regionN (fun _ => false) rfl ?_
    refine pI rfl rfl rfl ?_
    refine pI rfl rfl rfl ?_
    refine AOps.done ?_
    refine AWp.seq ?_
    refine AWp.regionN (fun _ => false) rfl ?_
    refine AOps.mv rfl rfl (.inl rfl) rfl ?_
    refine pS rfl rfl rfl ?_
    refine pI rfl rfl rfl ?_
    obtain ⟨hi52, x53, hx54, h⟩ := h
    refine AOps.idx tabOk (z := GDim.enc x53) rfl rfl rfl rfl rfl rfl rfl rfl hi52 (map_get hx54) ?_
    refine pT rfl rfl rfl ?_
    obtain ⟨x55, hc56, h⟩ := h
    refine AOps.callv hc56 rfl rfl rfl rfl ⟨.inl rfl, trivial⟩ ?_
    refine AOps.done ?_
    refine AWp.cond rfl (fun e => ?_) (fun e => ?_)
    · replace h := h.1 e
      refine AWp.seq ?_
      refine AWp.regionN (fun _ => false) rfl ?_
      refine pI rfl rfl rfl ?_
      refine pI rfl rfl rfl ?_
      refine AOps.done ?_
      refine AWp.ret ?_
      subst h
      exact ⟨_, rfl, rfl⟩
    · replace h := h.2 e
      refine AWp.skip ?_
      refine AWp.regionN (fun _ => false) rfl ?_
      obtain ⟨x57, ex57, h⟩ := h.get
      refine AOps.i tabOk rfl rfl rfl ex57 ?_
      refine pI rfl rfl rfl ?_
      refine AOps.done ?_
      exact ⟨x57, h.1, h.2, (Sub.list (fun i => i) rfl rfl ⟨rfl, rfl, rfl, rfl, trivial⟩ trivial)⟩
  · replace h := h.2 e
    refine AWp.exit ?_
    refine AWp.seq ?_
    refine AWp.regionN (fun _ => false) rfl ?_
    refine pI rfl rfl rfl ?_
    refine AOps.done ?_
    refine AWp.ret ?_
    subst h
    exact ⟨_, rfl, rfl⟩

def W_slices_Index_string (s1 : List ByteArray) (v2 : ByteArray) (Q : Int → Prop) : Prop :=
  Loop1 (0 : Int) (fun (x33 : Int) next34 =>
    Br (decide (x33 < ((s1.length : Nat) : Int))) (
      At s1 x33 fun x39 =>
      Br (v2.toList == x39.toList) (Q x33) (
        Let (IntKind.i64.wrap (x33 + (1 : Int))) fun x41 =>
        next34 x41)) (
      Q (-1 : Int)))

theorem walk_slices_Index_string {s1 : List ByteArray} {v2 : ByteArray} {r : Int} (h : W_slices_Index_string s1 v2 (fun r' => r' = r)) : Ev_slices_Index_string s1 v2 r := by
  unfold W_slices_Index_string at h
  refine AFn.intro' (L := [(0, .dat (.sl 9 1 (List.map eStr s1))), (1, .dat (.v (.string v2)))]) tabOk Try.func76 rfl rfl Try.ntmps76 rfl rfl rfl ?_
  refine AWp.seq ?_
  refine AWp.regionN (fun _ => false) rfl ?_
  refine pI rfl rfl rfl ?_
  refine AOps.done ?_
  refine AWp.seq ?_
  refine AWp.seq ?_
  refine AWp.regionN (fun _ => false) rfl ?_
  refine pS rfl rfl rfl ?_
  refine AOps.i (j := ((s1.length : Nat) : Int)) tabOk rfl rfl rfl (by rw [List.length_map]) ?_
  refine pI rfl rfl rfl ?_
  refine AOps.done ?_
  refine AWp.block ?_
  obtain ⟨I42, x43, hz44, hr45⟩ := h
  refine AWp.loop (I := fun p : Int => mkSt [(0, .dat (.sl 9 1 (List.map eStr s1))), (1, .dat (.v (.string v2))), (7, .dat (.v (.int .i64 ((s1.length : Nat) : Int)))), (8, .dat (.v (.int .i64 p)))] []) (Inv := fun p => I42 p) (μ := fun p => x43 p) (x0 := (0 : Int)) hz44 (Sub.list (fun i => i) rfl rfl ⟨rfl, rfl, rfl, rfl, trivial⟩ trivial) (fun p hp => ?_)
  have h := hr45 p hp
  revert h; clear hp; generalize p = x33; intro h
  refine AWp.seq ?_
  refine AWp.regionN (fun _ => false) rfl ?_
  refine pW rfl rfl rfl ?_
  refine AOps.done ?_
  refine AWp.seq ?_
  refine AWp.cond rfl (fun e => ?_) (fun e => ?_)
  · replace h := h.1 e
    refine AWp.skip ?_
    refine AWp.seq ?_
    refine AWp.block ?_
    refine AWp.seq ?_
    refine AWp.regionN (fun _ => false) rfl ?_
    refine pI rfl rfl rfl ?_
    refine pI rfl rfl rfl ?_
    refine AOps.done ?_
    refine AWp.seq ?_
    refine AWp.regionN (fun _ => false) rfl ?_
    refine pG rfl rfl rfl ?_
    refine pS rfl rfl rfl ?_
    refine pI rfl rfl rfl ?_
    obtain ⟨hi38, x39, hx40, h⟩ := h
    refine AOps.idx tabOk (z := .v (.string x39)) rfl rfl rfl rfl rfl rfl rfl rfl hi38 (map_get hx40) ?_
    refine pG rfl rfl rfl ?_
    refine pB rfl rfl rfl ?_
    refine AOps.done ?_
    refine AWp.cond rfl (fun e => ?_) (fun e => ?_)
    · replace h := h.1 e
      refine AWp.seq ?_
      refine AWp.regionN (fun _ => false) rfl ?_
      refine pI rfl rfl rfl ?_
      refine pI rfl rfl rfl ?_
      refine AOps.done ?_
      refine AWp.ret ?_
      subst h
      exact ⟨_, rfl, rfl⟩
    · replace h := h.2 e
      refine AWp.skip ?_
      refine AWp.regionN (fun _ => false) rfl ?_
      obtain ⟨x41, ex41, h⟩ := h.get
      refine AOps.i tabOk rfl rfl rfl ex41 ?_
      refine pI rfl rfl rfl ?_
      refine AOps.done ?_
      exact ⟨x41, h.1, h.2, (Sub.list (fun i => i) rfl rfl ⟨rfl, rfl, rfl, rfl, trivial⟩ trivial)⟩
  · replace h := h.2 e
    refine AWp.exit ?_
    refine AWp.seq ?_
    refine AWp.regionN (fun _ => false) rfl ?_
    refine pI rfl rfl rfl ?_
    refine AOps.done ?_
    refine AWp.ret ?_
    subst h
    exact ⟨_, rfl, rfl⟩

end Go.Sim.Ytnhflokfcnfegaa
