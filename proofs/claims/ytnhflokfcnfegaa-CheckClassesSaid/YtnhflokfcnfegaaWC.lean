/- What is proved: functions of the program compute what plain statements tell. -/
import Derived.Test.YtnhflokfcnfegaaWE
namespace Go.Sim.Ytnhflokfcnfegaa
open Go.RowKit Go.Proofs Go.Proofs.Try

def W_law15_CheckClasses (file1 : GTree) (name2 : ByteArray) (Q : Bool → Prop) : Prop :=
  Call (Ev_check_Class file1 name2) fun x3 =>
  Call (Ev_ref15_Class file1 name2) fun x5 =>
  Br (x3.2 == x5.2) (
    Call (Ev_ref13_Like x3.1 x5.1) fun x9 =>
    Q x9) (
    Q false)

theorem walk_law15_CheckClasses {file1 : GTree} {name2 : ByteArray} {r : Bool} (h : W_law15_CheckClasses file1 name2 (fun r' => r' = r)) : Ev_law15_CheckClasses file1 name2 r := by
  unfold W_law15_CheckClasses at h
  refine AFn.intro' (L := [(0, .dat (GTree.out file1)), (1, .dat (.v (.string name2)))]) tabOk Try.func3 rfl rfl Try.ntmps3 rfl rfl rfl ?_
  refine AWp.seq ?_
  refine AWp.regionN (fun _ => false) rfl ?_
  refine AOps.box (v := .dat (.st _ _)) rfl rfl rfl rfl rfl rfl ?_
  refine pB rfl rfl rfl ?_
  refine AOps.done ?_
  refine AWp.seq ?_
  refine AWp.regionN (fun o => writes o) rfl ?_
  refine pT rfl rfl rfl ?_
  refine pG rfl rfl rfl ?_
  obtain ⟨x3, hc4, h⟩ := h
  refine AOps.call hc4 rfl rfl rfl ⟨.inl rfl, .inl rfl, trivial⟩ ?_
  refine pU rfl rfl rfl ?_
  refine pT rfl rfl rfl ?_
  refine pB rfl rfl rfl ?_
  refine AOps.alloc tabOk rfl rfl rfl rfl rfl ?_
  refine AOps.store tabOk (v := .dat (.st _ _)) rfl rfl rfl rfl rfl rfl rfl rfl rfl rfl rfl rfl rfl ?_
  refine pB rfl rfl rfl ?_
  refine AOps.done ?_
  refine AWp.seq ?_
  refine AWp.regionN (fun o => writes o) rfl ?_
  refine pT rfl rfl rfl ?_
  refine pG rfl rfl rfl ?_
  obtain ⟨x5, hc6, h⟩ := h
  refine AOps.call hc6 rfl rfl rfl ⟨.inl rfl, .inl rfl, trivial⟩ ?_
  refine pU rfl rfl rfl ?_
  refine pT rfl rfl rfl ?_
  refine pB rfl rfl rfl ?_
  refine AOps.alloc tabOk rfl rfl rfl rfl rfl ?_
  refine AOps.store tabOk (v := .dat (.st _ _)) rfl rfl rfl rfl rfl rfl rfl rfl rfl rfl rfl rfl rfl ?_
  refine pB rfl rfl rfl ?_
  refine AOps.done ?_
  refine AWp.seq ?_
  refine AWp.regionN (fun _ => false) rfl ?_
  refine pB rfl rfl rfl ?_
  refine pB rfl rfl rfl ?_
  refine pB rfl rfl rfl ?_
  refine pB rfl rfl rfl ?_
  refine AOps.splitB 24 rfl (fun e => ?_) (fun e => ?_)
  · replace h := h.1 e
    refine pT rfl rfl rfl ?_
    refine pT rfl rfl rfl ?_
    obtain ⟨x9, hc10, h⟩ := h
    refine AOps.call hc10 rfl rfl rfl ⟨.inl rfl, .inl rfl, trivial⟩ ?_
    refine pB rfl rfl rfl ?_
    refine pB rfl rfl rfl ?_
    refine AOps.done ?_
    refine AWp.ret ?_
    subst h
    exact ⟨_, rfl, rfl⟩
  · replace h := h.2 e
    refine AOps.off rfl rfl ?_
    refine AOps.off rfl rfl ?_
    refine AOps.off rfl rfl ?_
    refine pB rfl rfl rfl ?_
    refine pB rfl rfl rfl ?_
    refine AOps.done ?_
    refine AWp.ret ?_
    subst h
    exact ⟨_, rfl, rfl⟩

def W_check_Class (file1 : GTree) (name2 : ByteArray) (Q : GTree × Bool → Prop) : Prop :=
  Call (Ev_slices_IndexFunc_api_Tree file1.Kids (Fn_check_Class_1 name2)) fun x3 =>
  Br (decide (x3 < (0 : Int))) (Q (GTree.zero, false)) (
    At file1.Kids x3 fun x6 =>
    Q (x6, true))

theorem walk_check_Class {file1 : GTree} {name2 : ByteArray} {r : GTree × Bool} (h : W_check_Class file1 name2 (fun r' => r' = r)) : Ev_check_Class file1 name2 r := by
  unfold W_check_Class at h
  refine AFn.intro' (L := [(0, .dat (GTree.out file1)), (1, .dat (.v (.string name2)))]) tabOk Try.func11 rfl rfl Try.ntmps11 rfl rfl rfl ?_
  refine AWp.seq ?_
  refine AWp.regionN (fun _ => false) rfl ?_
  refine AOps.box (v := .dat (.st _ _)) rfl rfl rfl rfl rfl rfl ?_
  refine AOps.box (v := .dat (.v (.string _))) rfl rfl rfl rfl rfl rfl ?_
  refine AOps.alloc tabOk rfl rfl rfl rfl rfl ?_
  refine pB rfl rfl rfl ?_
  refine AOps.done ?_
  refine AWp.seq ?_
  refine AWp.freezebox 3 3 rfl rfl ?_
  refine AWp.regionN (fun _ => false) rfl ?_
  refine pP rfl rfl rfl ?_
  refine pS rfl rfl rfl ?_
  refine AOps.mkfn (ds := [.pd (.v (.string name2))]) rfl rfl rfl ⟨.inr ⟨_, rfl, rfl⟩, trivial⟩ ?_
  obtain ⟨x3, hc4, h⟩ := h
  refine AOps.call hc4 rfl rfl rfl ⟨.inl rfl, .inl rfl, trivial⟩ ?_
  refine pI rfl rfl rfl ?_
  refine AOps.done ?_
  refine AWp.seq ?_
  refine AWp.seq ?_
  refine AWp.regionN (fun _ => false) rfl ?_
  refine pI rfl rfl rfl ?_
  refine pB rfl rfl rfl ?_
  refine AOps.done ?_
  refine AWp.cond rfl (fun e => ?_) (fun e => ?_)
  · replace h := h.1 e
    refine AWp.seq ?_
    refine AWp.regionN (fun o => writes o) rfl ?_
    refine pT rfl rfl rfl ?_
    refine AOps.store tabOk (v := .dat (.st _ _)) rfl rfl rfl rfl rfl rfl rfl rfl rfl rfl rfl rfl rfl ?_
    refine pB rfl rfl rfl ?_
    refine AOps.done ?_
    refine AWp.ret ?_
    subst h
    exact ⟨_, rfl, rfl⟩
  · replace h := h.2 e
    refine AWp.skip ?_
    refine AWp.seq ?_
    refine AWp.regionN (fun o => writes o) rfl ?_
    refine pP rfl rfl rfl ?_
    refine pS rfl rfl rfl ?_
    refine pI rfl rfl rfl ?_
    obtain ⟨hi5, x6, hx7, h⟩ := h
    refine AOps.idx tabOk (z := GTree.out x6) rfl rfl rfl rfl rfl rfl rfl rfl hi5 (GTree.get hx7) ?_
    refine pT rfl rfl rfl ?_
    refine AOps.store tabOk (v := .dat (.st _ _)) rfl rfl rfl rfl rfl rfl rfl rfl rfl rfl rfl rfl rfl ?_
    refine pB rfl rfl rfl ?_
    refine AOps.done ?_
    refine AWp.ret ?_
    subst h
    exact ⟨_, rfl, rfl⟩

def W_slices_IndexFunc_api_Tree (s1 : List GTree) (f2 : DV) (Q : Int → Prop) : Prop :=
  Loop1 (0 : Int) (fun (x45 : Int) next46 =>
    Br (decide (x45 < ((s1.length : Nat) : Int))) (
      At s1 x45 fun x53 =>
      Call (fun x55 : Bool => FVal prog f2 [GTree.out x53] (.v (.bool x55))) fun x55 =>
      Br x55 (Q x45) (
        Let (IntKind.i64.wrap (x45 + (1 : Int))) fun x57 =>
        next46 x57)) (
      Q (-1 : Int)))

theorem walk_slices_IndexFunc_api_Tree {s1 : List GTree} {f2 : DV} {r : Int} (h : W_slices_IndexFunc_api_Tree s1 f2 (fun r' => r' = r)) : Ev_slices_IndexFunc_api_Tree s1 f2 r := by
  unfold W_slices_IndexFunc_api_Tree at h
  refine AFn.intro' (L := [(0, .dat (.sl 26 9 (List.map GTree.enc s1))), (1, .dat (f2))]) tabOk Try.func38 rfl rfl Try.ntmps38 rfl rfl rfl ?_
  refine AWp.seq ?_
  refine AWp.regionN (fun _ => false) rfl ?_
  refine pI rfl rfl rfl ?_
  refine AOps.done ?_
  refine AWp.seq ?_
  refine AWp.seq ?_
  refine AWp.regionN (fun _ => false) rfl ?_
  refine pS rfl rfl rfl ?_
  refine AOps.i (j := ((s1.length : Nat) : Int)) tabOk rfl rfl rfl (by rw [List.length_map]) ?_
  refine pI rfl rfl rfl ?_
  refine AOps.done ?_
  refine AWp.block ?_
  obtain ⟨I58, x59, hz60, hr61⟩ := h
  refine AWp.loop (I := fun p : Int => mkSt [(0, .dat (.sl 26 9 (List.map GTree.enc s1))), (1, .dat (f2)), (7, .dat (.v (.int .i64 ((s1.length : Nat) : Int)))), (8, .dat (.v (.int .i64 p)))] []) (Inv := fun p => I58 p) (μ := fun p => x59 p) (x0 := (0 : Int)) hz60 (Sub.list (fun i => i) rfl rfl ⟨rfl, rfl, rfl, rfl, trivial⟩ trivial) (fun p hp => ?_)
  have h := hr61 p hp
  revert h; clear hp; generalize p = x45; intro h
  refine AWp.seq ?_
  refine AWp.regionN (fun _ => false) rfl ?_
  refine pW rfl rfl rfl ?_
  refine AOps.done ?_
  refine AWp.seq ?_
  refine AWp.cond rfl (fun e => ?_) (fun e => ?_)
  · replace h := h.1 e
    refine AWp.skip ?_
    refine AWp.seq ?_
    refine AWp.block ?_
    refine AWp.seq ?_
    refine AWp.regionN (fun _ => false) rfl ?_
    refine pI rfl rfl rfl ?_
    refine pI rfl rfl rfl ?_
    refine AOps.done ?_
    refine AWp.seq ?_
    refine AWp.regionN (fun _ => false) rfl ?_
    refine AOps.mv rfl rfl (.inl rfl) rfl ?_
    refine pS rfl rfl rfl ?_
    refine pI rfl rfl rfl ?_
    obtain ⟨hi52, x53, hx54, h⟩ := h
    refine AOps.idx tabOk (z := GTree.out x53) rfl rfl rfl rfl rfl rfl rfl rfl hi52 (GTree.get hx54) ?_
    refine pT rfl rfl rfl ?_
    obtain ⟨x55, hc56, h⟩ := h
    refine AOps.callv hc56 rfl rfl rfl rfl ⟨.inl rfl, trivial⟩ ?_
    refine AOps.done ?_
    refine AWp.cond rfl (fun e => ?_) (fun e => ?_)
    · replace h := h.1 e
      refine AWp.seq ?_
      refine AWp.regionN (fun _ => false) rfl ?_
      refine pI rfl rfl rfl ?_
      refine pI rfl rfl rfl ?_
      refine AOps.done ?_
      refine AWp.ret ?_
      subst h
      exact ⟨_, rfl, rfl⟩
    · replace h := h.2 e
      refine AWp.skip ?_
      refine AWp.regionN (fun _ => false) rfl ?_
      obtain ⟨x57, ex57, h⟩ := h.get
      refine AOps.i tabOk rfl rfl rfl ex57 ?_
      refine pI rfl rfl rfl ?_
      refine AOps.done ?_
      exact ⟨x57, h.1, h.2, (Sub.list (fun i => i) rfl rfl ⟨rfl, rfl, rfl, rfl, trivial⟩ trivial)⟩
  · replace h := h.2 e
    refine AWp.exit ?_
    refine AWp.seq ?_
    refine AWp.regionN (fun _ => false) rfl ?_
    refine pI rfl rfl rfl ?_
    refine AOps.done ?_
    refine AWp.ret ?_
    subst h
    exact ⟨_, rfl, rfl⟩

def W_check_Class_1 (c1 : GTree) (x2 : ByteArray) (Q : Bool → Prop) : Prop :=
  Br (c1.Kind == (32 : Int)) (Q (c1.Name.toList == x2.toList)) (
    Q false)

theorem walk_check_Class_1 {c1 : GTree} {x2 : ByteArray} {r : Bool} (h : W_check_Class_1 c1 x2 (fun r' => r' = r)) : Ev_check_Class_1 c1 x2 r := by
  unfold W_check_Class_1 at h
  refine AFn.intro' (L := [(0, .dat (GTree.out c1)), (1, .dat (.pd (.v (.string x2))))]) tabOk Try.func39 rfl rfl Try.ntmps39 rfl rfl rfl ?_
  refine AWp.unpd 1 rfl ?_
  refine AWp.seq ?_
  refine AWp.regionN (fun _ => false) rfl ?_
  refine AOps.box (v := .dat (.st _ _)) rfl rfl rfl rfl rfl rfl ?_
  refine pB rfl rfl rfl ?_
  refine AOps.done ?_
  refine AWp.seq ?_
  refine AWp.regionN (fun _ => false) rfl ?_
  refine pP rfl rfl rfl ?_
  refine pI rfl rfl rfl ?_
  refine pB rfl rfl rfl ?_
  refine pB rfl rfl rfl ?_
  refine AOps.splitB 7 rfl (fun e => ?_) (fun e => ?_)
  · replace h := h.1 e
    refine pP rfl rfl rfl ?_
    refine pG rfl rfl rfl ?_
    refine pG rfl rfl rfl ?_
    refine pB rfl rfl rfl ?_
    refine pB rfl rfl rfl ?_
    refine pB rfl rfl rfl ?_
    refine AOps.done ?_
    refine AWp.ret ?_
    subst h
    exact ⟨_, rfl, rfl⟩
  · replace h := h.2 e
    refine AOps.off rfl rfl ?_
    refine AOps.off rfl rfl ?_
    refine AOps.off rfl rfl ?_
    refine AOps.off rfl rfl ?_
    refine pB rfl rfl rfl ?_
    refine pB rfl rfl rfl ?_
    refine AOps.done ?_
    refine AWp.ret ?_
    subst h
    exact ⟨_, rfl, rfl⟩

def W_ref13_Like (x1 : GTree) (x2 : GTree) (Q : Bool → Prop) : Prop :=
  Br (x1.Kind != x2.Kind) (Q false) (
    Br (!(x1.Name.toList == x2.Name.toList)) (Q false) (
      Br (!(x1.Alias.toList == x2.Alias.toList)) (Q false) (
        Br (x1.N != x2.N) (Q false) (
          Br (x1.M != x2.M) (Q false) (
            Br (x1.Flag != x2.Flag) (Q false) (
              Br (!(GRat.beq x1.Num x2.Num)) (Q false) (
                Br (((x1.Kids.length : Nat) : Int) != ((x2.Kids.length : Nat) : Int)) (Q false) (
                  Loop1 (0 : Int) (fun (x71 : Int) next72 =>
                    Br (decide (x71 < ((x1.Kids.length : Nat) : Int))) (
                      At x1.Kids x71 fun x82 =>
                      At x2.Kids x71 fun x85 =>
                      Call (Ev_ref13_Like x82 x85) fun x87 =>
                      Br (!x87) (Q false) (
                        Let (IntKind.i64.wrap (x71 + (1 : Int))) fun x89 =>
                        next72 x89)) (
                      Q true))))))))))

theorem walk_ref13_Like {x1 : GTree} {x2 : GTree} {r : Bool} (h : W_ref13_Like x1 x2 (fun r' => r' = r)) : Ev_ref13_Like x1 x2 r := by
  unfold W_ref13_Like at h
  refine AFn.intro' (L := [(0, .dat (GTree.out x1)), (1, .dat (GTree.out x2))]) tabOk Try.func13 rfl rfl Try.ntmps13 rfl rfl rfl ?_
  refine AWp.seq ?_
  refine AWp.regionN (fun _ => false) rfl ?_
  refine AOps.box (v := .dat (.st _ _)) rfl rfl rfl rfl rfl rfl ?_
  refine AOps.box (v := .dat (.st _ _)) rfl rfl rfl rfl rfl rfl ?_
  refine pB rfl rfl rfl ?_
  refine AOps.done ?_
  refine AWp.seq ?_
  refine AWp.seq ?_
  refine AWp.regionN (fun _ => false) rfl ?_
  refine pP rfl rfl rfl ?_
  refine pI rfl rfl rfl ?_
  refine pP rfl rfl rfl ?_
  refine pI rfl rfl rfl ?_
  refine pB rfl rfl rfl ?_
  refine pB rfl rfl rfl ?_
  refine AOps.splitB 11 rfl (fun e => ?_) (fun e => ?_)
  · replace h := h.1 e
    refine AOps.off rfl rfl ?_
    refine AOps.off rfl rfl ?_
    refine AOps.off rfl rfl ?_
    refine AOps.off rfl rfl ?_
    refine AOps.off rfl rfl ?_
    refine pB rfl rfl rfl ?_
    refine pB rfl rfl rfl ?_
    refine AOps.off rfl rfl ?_
    refine AOps.off rfl rfl ?_
    refine AOps.off rfl rfl ?_
    refine AOps.off rfl rfl ?_
    refine AOps.off rfl rfl ?_
    refine pB rfl rfl rfl ?_
    refine pB rfl rfl rfl ?_
    refine AOps.off rfl rfl ?_
    refine AOps.off rfl rfl ?_
    refine AOps.off rfl rfl ?_
    refine AOps.off rfl rfl ?_
    refine AOps.off rfl rfl ?_
    refine pB rfl rfl rfl ?_
    refine pB rfl rfl rfl ?_
    refine AOps.off rfl rfl ?_
    refine AOps.off rfl rfl ?_
    refine AOps.off rfl rfl ?_
    refine AOps.off rfl rfl ?_
    refine AOps.off rfl rfl ?_
    refine pB rfl rfl rfl ?_
    refine pB rfl rfl rfl ?_
    refine AOps.off rfl rfl ?_
    refine AOps.off rfl rfl ?_
    refine AOps.off rfl rfl ?_
    refine AOps.off rfl rfl ?_
    refine AOps.off rfl rfl ?_
    refine pB rfl rfl rfl ?_
    refine pB rfl rfl rfl ?_
    refine AOps.off rfl rfl ?_
    refine AOps.off rfl rfl ?_
    refine AOps.off rfl rfl ?_
    refine AOps.off rfl rfl ?_
    refine AOps.off rfl rfl ?_
    refine pB rfl rfl rfl ?_
    refine pB rfl rfl rfl ?_
    refine AOps.off rfl rfl ?_
    refine AOps.off rfl rfl ?_
    refine AOps.off rfl rfl ?_
    refine AOps.off rfl rfl ?_
    refine AOps.off rfl rfl ?_
    refine AOps.off rfl rfl ?_
    refine AOps.off rfl rfl ?_
    refine pB rfl rfl rfl ?_
    refine AOps.done ?_
    refine AWp.condT rfl ?_
    refine AWp.seq ?_
    refine AWp.regionN (fun _ => false) rfl ?_
    refine pB rfl rfl rfl ?_
    refine AOps.done ?_
    refine AWp.ret ?_
    subst h
    exact ⟨_, rfl, rfl⟩
  · replace h := h.2 e
    refine pP rfl rfl rfl ?_
    refine pG rfl rfl rfl ?_
    refine pP rfl rfl rfl ?_
    refine pG rfl rfl rfl ?_
    refine pB rfl rfl rfl ?_
    refine pB rfl rfl rfl ?_
    refine pB rfl rfl rfl ?_
    refine AOps.splitB 18 rfl (fun e => ?_) (fun e => ?_)
    · replace h := h.1 e
      refine AOps.off rfl rfl ?_
      refine AOps.off rfl rfl ?_
      refine AOps.off rfl rfl ?_
      refine AOps.off rfl rfl ?_
      refine AOps.off rfl rfl ?_
      refine pB rfl rfl rfl ?_
      refine pB rfl rfl rfl ?_
      refine AOps.off rfl rfl ?_
      refine AOps.off rfl rfl ?_
      refine AOps.off rfl rfl ?_
      refine AOps.off rfl rfl ?_
      refine AOps.off rfl rfl ?_
      refine pB rfl rfl rfl ?_
      refine pB rfl rfl rfl ?_
      refine AOps.off rfl rfl ?_
      refine AOps.off rfl rfl ?_
      refine AOps.off rfl rfl ?_
      refine AOps.off rfl rfl ?_
      refine AOps.off rfl rfl ?_
      refine pB rfl rfl rfl ?_
      refine pB rfl rfl rfl ?_
      refine AOps.off rfl rfl ?_
      refine AOps.off rfl rfl ?_
      refine AOps.off rfl rfl ?_
      refine AOps.off rfl rfl ?_
      refine AOps.off rfl rfl ?_
      refine pB rfl rfl rfl ?_
      refine pB rfl rfl rfl ?_
      refine AOps.off rfl rfl ?_
      refine AOps.off rfl rfl ?_
      refine AOps.off rfl rfl ?_
      refine AOps.off rfl rfl ?_
      refine AOps.off rfl rfl ?_
      refine pB rfl rfl rfl ?_
      refine pB rfl rfl rfl ?_
      refine AOps.off rfl rfl ?_
      refine AOps.off rfl rfl ?_
      refine AOps.off rfl rfl ?_
      refine AOps.off rfl rfl ?_
      refine AOps.off rfl rfl ?_
      refine AOps.off rfl rfl ?_
      refine AOps.off rfl rfl ?_
      refine pB rfl rfl rfl ?_
      refine AOps.done ?_
      refine AWp.condT rfl ?_
      refine AWp.seq ?_
      refine AWp.regionN (fun _ => false) rfl ?_
      refine pB rfl rfl rfl ?_
      refine AOps.done ?_
      refine AWp.ret ?_
      subst h
      exact ⟨_, rfl, rfl⟩
    · replace h := h.2 e
      refine pP rfl rfl rfl ?_
      refine pG rfl rfl rfl ?_
      refine pP rfl rfl rfl ?_
      refine pG rfl rfl rfl ?_
      refine pB rfl rfl rfl ?_
      refine pB rfl rfl rfl ?_
      refine pB rfl rfl rfl ?_
      refine AOps.splitB 25 rfl (fun e => ?_) (fun e => ?_)
      · replace h := h.1 e
        refine AOps.off rfl rfl ?_
        refine AOps.off rfl rfl ?_
        refine AOps.off rfl rfl ?_
        refine AOps.off rfl rfl ?_
        refine AOps.off rfl rfl ?_
        refine pB rfl rfl rfl ?_
        refine pB rfl rfl rfl ?_
        refine AOps.off rfl rfl ?_
        refine AOps.off rfl rfl ?_
        refine AOps.off rfl rfl ?_
        refine AOps.off rfl rfl ?_
        refine AOps.off rfl rfl ?_
        refine pB rfl rfl rfl ?_
        refine pB rfl rfl rfl ?_
        refine AOps.off rfl rfl ?_
        refine AOps.off rfl rfl ?_
        refine AOps.off rfl rfl ?_
        refine AOps.off rfl rfl ?_
        refine AOps.off rfl rfl ?_
        refine pB rfl rfl rfl ?_
        refine pB rfl rfl rfl ?_
        refine AOps.off rfl rfl ?_
        refine AOps.off rfl rfl ?_
        refine AOps.off rfl rfl ?_
        refine AOps.off rfl rfl ?_
        refine AOps.off rfl rfl ?_
        refine pB rfl rfl rfl ?_
        refine pB rfl rfl rfl ?_
        refine AOps.off rfl rfl ?_
        refine AOps.off rfl rfl ?_
        refine AOps.off rfl rfl ?_
        refine AOps.off rfl rfl ?_
        refine AOps.off rfl rfl ?_
        refine AOps.off rfl rfl ?_
        refine AOps.off rfl rfl ?_
        refine pB rfl rfl rfl ?_
        refine AOps.done ?_
        refine AWp.condT rfl ?_
        refine AWp.seq ?_
        refine AWp.regionN (fun _ => false) rfl ?_
        refine pB rfl rfl rfl ?_
        refine AOps.done ?_
        refine AWp.ret ?_
        subst h
        exact ⟨_, rfl, rfl⟩
      · replace h := h.2 e
        refine pP rfl rfl rfl ?_
        refine pI rfl rfl rfl ?_
        refine pP rfl rfl rfl ?_
        refine pI rfl rfl rfl ?_
        refine pB rfl rfl rfl ?_
        refine pB rfl rfl rfl ?_
        refine pB rfl rfl rfl ?_
        refine AOps.splitB 32 rfl (fun e => ?_) (fun e => ?_)
        · replace h := h.1 e
          refine AOps.off rfl rfl ?_
          refine AOps.off rfl rfl ?_
          refine AOps.off rfl rfl ?_
          refine AOps.off rfl rfl ?_
          refine AOps.off rfl rfl ?_
          refine pB rfl rfl rfl ?_
          refine pB rfl rfl rfl ?_
          refine AOps.off rfl rfl ?_
          refine AOps.off rfl rfl ?_
          refine AOps.off rfl rfl ?_
          refine AOps.off rfl rfl ?_
          refine AOps.off rfl rfl ?_
          refine pB rfl rfl rfl ?_
          refine pB rfl rfl rfl ?_
          refine AOps.off rfl rfl ?_
          refine AOps.off rfl rfl ?_
          refine AOps.off rfl rfl ?_
          refine AOps.off rfl rfl ?_
          refine AOps.off rfl rfl ?_
          refine pB rfl rfl rfl ?_
          refine pB rfl rfl rfl ?_
          refine AOps.off rfl rfl ?_
          refine AOps.off rfl rfl ?_
          refine AOps.off rfl rfl ?_
          refine AOps.off rfl rfl ?_
          refine AOps.off rfl rfl ?_
          refine AOps.off rfl rfl ?_
          refine AOps.off rfl rfl ?_
          refine pB rfl rfl rfl ?_
          refine AOps.done ?_
          refine AWp.condT rfl ?_
          refine AWp.seq ?_
          refine AWp.regionN (fun _ => false) rfl ?_
          refine pB rfl rfl rfl ?_
          refine AOps.done ?_
          refine AWp.ret ?_
          subst h
          exact ⟨_, rfl, rfl⟩
        · replace h := h.2 e
          refine pP rfl rfl rfl ?_
          refine pI rfl rfl rfl ?_
          refine pP rfl rfl rfl ?_
          refine pI rfl rfl rfl ?_
          refine pB rfl rfl rfl ?_
          refine pB rfl rfl rfl ?_
          refine pB rfl rfl rfl ?_
          refine AOps.splitB 39 rfl (fun e => ?_) (fun e => ?_)
          · replace h := h.1 e
            refine AOps.off rfl rfl ?_
            refine AOps.off rfl rfl ?_
            refine AOps.off rfl rfl ?_
            refine AOps.off rfl rfl ?_
            refine AOps.off rfl rfl ?_
            refine pB rfl rfl rfl ?_
            refine pB rfl rfl rfl ?_
            refine AOps.off rfl rfl ?_
            refine AOps.off rfl rfl ?_
            refine AOps.off rfl rfl ?_
            refine AOps.off rfl rfl ?_
            refine AOps.off rfl rfl ?_
            refine pB rfl rfl rfl ?_
            refine pB rfl rfl rfl ?_
            refine AOps.off rfl rfl ?_
            refine AOps.off rfl rfl ?_
            refine AOps.off rfl rfl ?_
            refine AOps.off rfl rfl ?_
            refine AOps.off rfl rfl ?_
            refine AOps.off rfl rfl ?_
            refine AOps.off rfl rfl ?_
            refine pB rfl rfl rfl ?_
            refine AOps.done ?_
            refine AWp.condT rfl ?_
            refine AWp.seq ?_
            refine AWp.regionN (fun _ => false) rfl ?_
            refine pB rfl rfl rfl ?_
            refine AOps.done ?_
            refine AWp.ret ?_
            subst h
            exact ⟨_, rfl, rfl⟩
          · replace h := h.2 e
            refine pP rfl rfl rfl ?_
            refine pB rfl rfl rfl ?_
            refine pP rfl rfl rfl ?_
            refine pB rfl rfl rfl ?_
            refine pB rfl rfl rfl ?_
            refine pB rfl rfl rfl ?_
            refine pB rfl rfl rfl ?_
            refine AOps.splitB 46 rfl (fun e => ?_) (fun e => ?_)
            · replace h := h.1 e
              refine AOps.off rfl rfl ?_
              refine AOps.off rfl rfl ?_
              refine AOps.off rfl rfl ?_
              refine AOps.off rfl rfl ?_
              refine AOps.off rfl rfl ?_
              refine pB rfl rfl rfl ?_
              refine pB rfl rfl rfl ?_
              refine AOps.off rfl rfl ?_
              refine AOps.off rfl rfl ?_
              refine AOps.off rfl rfl ?_
              refine AOps.off rfl rfl ?_
              refine AOps.off rfl rfl ?_
              refine AOps.off rfl rfl ?_
              refine AOps.off rfl rfl ?_
              refine pB rfl rfl rfl ?_
              refine AOps.done ?_
              refine AWp.condT rfl ?_
              refine AWp.seq ?_
              refine AWp.regionN (fun _ => false) rfl ?_
              refine pB rfl rfl rfl ?_
              refine AOps.done ?_
              refine AWp.ret ?_
              subst h
              exact ⟨_, rfl, rfl⟩
            · replace h := h.2 e
              refine pP rfl rfl rfl ?_
              refine pT rfl rfl rfl ?_
              refine pP rfl rfl rfl ?_
              refine pT rfl rfl rfl ?_
              refine AOps.nes rfl rfl rfl rfl rfl rfl rfl (by decide +kernel) (GRat.eqok23 _ x1.Num x2.Num) ?_
              refine pB rfl rfl rfl ?_
              refine pB rfl rfl rfl ?_
              refine AOps.splitB 53 rfl (fun e => ?_) (fun e => ?_)
              · replace h := h.1 e
                refine AOps.off rfl rfl ?_
                refine AOps.off rfl rfl ?_
                refine AOps.off rfl rfl ?_
                refine AOps.off rfl rfl ?_
                refine AOps.off rfl rfl ?_
                refine AOps.off rfl rfl ?_
                refine AOps.off rfl rfl ?_
                refine pB rfl rfl rfl ?_
                refine AOps.done ?_
                refine AWp.condT rfl ?_
                refine AWp.seq ?_
                refine AWp.regionN (fun _ => false) rfl ?_
                refine pB rfl rfl rfl ?_
                refine AOps.done ?_
                refine AWp.ret ?_
                subst h
                exact ⟨_, rfl, rfl⟩
              · replace h := h.2 e
                refine pP rfl rfl rfl ?_
                refine pS rfl rfl rfl ?_
                refine AOps.i (j := ((x1.Kids.length : Nat) : Int)) tabOk rfl rfl rfl (by rw [List.length_map]) ?_
                refine pP rfl rfl rfl ?_
                refine pS rfl rfl rfl ?_
                refine AOps.i (j := ((x2.Kids.length : Nat) : Int)) tabOk rfl rfl rfl (by rw [List.length_map]) ?_
                refine pB rfl rfl rfl ?_
                refine pB rfl rfl rfl ?_
                refine AOps.done ?_
                refine AWp.cond rfl (fun e => ?_) (fun e => ?_)
                · replace h := h.1 e
                  refine AWp.seq ?_
                  refine AWp.regionN (fun _ => false) rfl ?_
                  refine pB rfl rfl rfl ?_
                  refine AOps.done ?_
                  refine AWp.ret ?_
                  subst h
                  exact ⟨_, rfl, rfl⟩
                · replace h := h.2 e
                  refine AWp.skip ?_
                  refine AWp.seq ?_
                  refine AWp.seq ?_
                  refine AWp.regionN (fun _ => false) rfl ?_
                  refine pP rfl rfl rfl ?_
                  refine pS rfl rfl rfl ?_
                  refine AOps.i (j := ((x1.Kids.length : Nat) : Int)) tabOk rfl rfl rfl (by rw [List.length_map]) ?_
                  refine pI rfl rfl rfl ?_
                  refine AOps.done ?_
                  refine AWp.block ?_
                  obtain ⟨I90, x91, hz92, hr93⟩ := h
                  refine AWp.loop (I := fun p : Int => mkSt [(2, .pt 2 [] 0), (3, .pt 3 [] 0), (64, .dat (.v (.int .i64 ((x1.Kids.length : Nat) : Int)))), (65, .dat (.v (.int .i64 p)))] [(2, .box 26 9 (.dat (GTree.out x1))), (3, .box 26 9 (.dat (GTree.out x2)))]) (Inv := fun p => I90 p) (μ := fun p => x91 p) (x0 := (0 : Int)) hz92 (Sub.list (fun i => i) rfl rfl ⟨rfl, rfl, rfl, rfl, trivial⟩ ⟨rfl, rfl, trivial⟩) (fun p hp => ?_)
                  have h := hr93 p hp
                  revert h; clear hp; generalize p = x71; intro h
                  refine AWp.seq ?_
                  refine AWp.regionN (fun _ => false) rfl ?_
                  refine pW rfl rfl rfl ?_
                  refine AOps.done ?_
                  refine AWp.seq ?_
                  refine AWp.cond rfl (fun e => ?_) (fun e => ?_)
                  · replace h := h.1 e
                    refine AWp.skip ?_
                    refine AWp.seq ?_
                    refine AWp.block ?_
                    refine AWp.seq ?_
                    refine AWp.regionN (fun _ => false) rfl ?_
                    refine pI rfl rfl rfl ?_
                    refine pI rfl rfl rfl ?_
                    refine AOps.done ?_
                    refine AWp.seq ?_
                    refine AWp.regionD (fun _ => false) mixed (by decide +kernel) rfl ?_
                    refine pP rfl rfl rfl ?_
                    refine pS rfl rfl rfl ?_
                    refine pI rfl rfl rfl ?_
                    obtain ⟨hi81, x82, hx83, h⟩ := h
                    refine AOps.idx tabOk (z := GTree.out x82) rfl rfl rfl rfl rfl rfl rfl rfl hi81 (GTree.get hx83) ?_
                    refine pT rfl rfl rfl ?_
                    refine pP rfl rfl rfl ?_
                    refine pS rfl rfl rfl ?_
                    refine pI rfl rfl rfl ?_
                    obtain ⟨hi84, x85, hx86, h⟩ := h
                    refine AOps.idx tabOk (z := GTree.out x85) rfl rfl rfl rfl rfl rfl rfl rfl hi84 (GTree.get hx86) ?_
                    refine pT rfl rfl rfl ?_
                    obtain ⟨x87, hc88, h⟩ := h
                    refine AOps.call hc88 rfl rfl rfl ⟨.inl rfl, .inl rfl, trivial⟩ ?_
                    refine pB rfl rfl rfl ?_
                    refine AOps.done ?_
                    refine AWp.cond rfl (fun e => ?_) (fun e => ?_)
                    · replace h := h.1 e
                      refine AWp.seq ?_
                      refine AWp.regionN (fun _ => false) rfl ?_
                      refine pB rfl rfl rfl ?_
                      refine AOps.done ?_
                      refine AWp.ret ?_
                      subst h
                      exact ⟨_, rfl, rfl⟩
                    · replace h := h.2 e
                      refine AWp.skip ?_
                      refine AWp.regionN (fun _ => false) rfl ?_
                      obtain ⟨x89, ex89, h⟩ := h.get
                      refine AOps.i tabOk rfl rfl rfl ex89 ?_
                      refine pI rfl rfl rfl ?_
                      refine AOps.done ?_
                      exact ⟨x89, h.1, h.2, (Sub.list (fun i => i) rfl rfl ⟨rfl, rfl, rfl, rfl, trivial⟩ ⟨rfl, rfl, trivial⟩)⟩
                  · replace h := h.2 e
                    refine AWp.exit ?_
                    refine AWp.seq ?_
                    refine AWp.regionN (fun _ => false) rfl ?_
                    refine pB rfl rfl rfl ?_
                    refine AOps.done ?_
                    refine AWp.ret ?_
                    subst h
                    exact ⟨_, rfl, rfl⟩

def W_ref15_Class (file1 : GTree) (name2 : ByteArray) (Q : GTree × Bool → Prop) : Prop :=
  Loop1 (0 : Int) (fun (x38 : Int) next39 =>
    Br (decide (x38 < ((file1.Kids.length : Nat) : Int))) (
      At file1.Kids x38 fun x44 =>
      Br (x44.Kind == (32 : Int)) (
        Br (x44.Name.toList == name2.toList) (Q (x44, true)) (
          Let (IntKind.i64.wrap (x38 + (1 : Int))) fun x46 =>
          next39 x46)) (
        Let (IntKind.i64.wrap (x38 + (1 : Int))) fun x47 =>
        next39 x47)) (
      Q (GTree.zero, false)))

theorem walk_ref15_Class {file1 : GTree} {name2 : ByteArray} {r : GTree × Bool} (h : W_ref15_Class file1 name2 (fun r' => r' = r)) : Ev_ref15_Class file1 name2 r := by
  unfold W_ref15_Class at h
  refine AFn.intro' (L := [(0, .dat (GTree.out file1)), (1, .dat (.v (.string name2)))]) tabOk Try.func12 rfl rfl Try.ntmps12 rfl rfl rfl ?_
  refine AWp.seq ?_
  refine AWp.regionN (fun _ => false) rfl ?_
  refine AOps.box (v := .dat (.st _ _)) rfl rfl rfl rfl rfl rfl ?_
  refine AOps.alloc tabOk rfl rfl rfl rfl rfl ?_
  refine pB rfl rfl rfl ?_
  refine AOps.done ?_
  refine AWp.seq ?_
  refine AWp.seq ?_
  refine AWp.regionN (fun _ => false) rfl ?_
  refine pP rfl rfl rfl ?_
  refine pS rfl rfl rfl ?_
  refine AOps.i (j := ((file1.Kids.length : Nat) : Int)) tabOk rfl rfl rfl (by rw [List.length_map]) ?_
  refine pI rfl rfl rfl ?_
  refine AOps.done ?_
  refine AWp.block ?_
  obtain ⟨I48, x49, hz50, hr51⟩ := h
  refine AWp.loop (I := fun p : Int => mkSt [(1, .dat (.v (.string name2))), (4, .pt 4 [] 0), (9, .dat (.sl 26 9 (List.map GTree.enc file1.Kids))), (10, .dat (.v (.int .i64 ((file1.Kids.length : Nat) : Int)))), (11, .dat (.v (.int .i64 p)))] [(4, .box 26 9 (.dat (GTree.out GTree.zero)))]) (Inv := fun p => I48 p) (μ := fun p => x49 p) (x0 := (0 : Int)) hz50 (Sub.list (fun i => i) rfl rfl ⟨rfl, rfl, rfl, rfl, rfl, trivial⟩ ⟨rfl, trivial⟩) (fun p hp => ?_)
  have h := hr51 p hp
  revert h; clear hp; generalize p = x38; intro h
  refine AWp.seq ?_
  refine AWp.regionN (fun _ => false) rfl ?_
  refine pW rfl rfl rfl ?_
  refine AOps.done ?_
  refine AWp.seq ?_
  refine AWp.cond rfl (fun e => ?_) (fun e => ?_)
  · replace h := h.1 e
    refine AWp.skip ?_
    refine AWp.seq ?_
    refine AWp.block ?_
    refine AWp.seq ?_
    refine AWp.regionN (fun o => writes o) rfl ?_
    obtain ⟨hi43, x44, hx45, h⟩ := h
    refine AOps.idx tabOk (z := GTree.out x44) rfl rfl rfl rfl rfl rfl rfl rfl hi43 (GTree.get hx45) ?_
    refine pT rfl rfl rfl ?_
    refine AOps.alloc tabOk rfl rfl rfl rfl rfl ?_
    refine AOps.store tabOk (v := .dat (.st _ _)) rfl rfl rfl rfl rfl rfl rfl rfl rfl rfl rfl rfl rfl ?_
    refine AOps.done ?_
    refine AWp.seq ?_
    refine AWp.regionN (fun _ => false) rfl ?_
    refine pP rfl rfl rfl ?_
    refine pI rfl rfl rfl ?_
    refine pB rfl rfl rfl ?_
    refine pB rfl rfl rfl ?_
    refine AOps.splitB 18 rfl (fun e => ?_) (fun e => ?_)
    · replace h := h.1 e
      refine pP rfl rfl rfl ?_
      refine pG rfl rfl rfl ?_
      refine pG rfl rfl rfl ?_
      refine pB rfl rfl rfl ?_
      refine pB rfl rfl rfl ?_
      refine AOps.done ?_
      refine AWp.cond rfl (fun e => ?_) (fun e => ?_)
      · replace h := h.1 e
        refine AWp.seq ?_
        refine AWp.regionN (fun o => writes o) rfl ?_
        refine pT rfl rfl rfl ?_
        refine AOps.store tabOk (v := .dat (.st _ _)) rfl rfl rfl rfl rfl rfl rfl rfl rfl rfl rfl rfl rfl ?_
        refine pB rfl rfl rfl ?_
        refine AOps.done ?_
        refine AWp.ret ?_
        subst h
        exact ⟨_, rfl, rfl⟩
      · replace h := h.2 e
        refine AWp.skip ?_
        refine AWp.regionN (fun _ => false) rfl ?_
        obtain ⟨x46, ex46, h⟩ := h.get
        refine AOps.i tabOk rfl rfl rfl ex46 ?_
        refine pI rfl rfl rfl ?_
        refine AOps.done ?_
        exact ⟨x46, h.1, h.2, (Sub.list (fun i => i) rfl rfl ⟨rfl, rfl, rfl, rfl, rfl, trivial⟩ ⟨rfl, trivial⟩)⟩
    · replace h := h.2 e
      refine AOps.off rfl rfl ?_
      refine AOps.off rfl rfl ?_
      refine AOps.off rfl rfl ?_
      refine AOps.off rfl rfl ?_
      refine pB rfl rfl rfl ?_
      refine AOps.done ?_
      refine AWp.condF rfl ?_
      refine AWp.skip ?_
      refine AWp.regionN (fun _ => false) rfl ?_
      obtain ⟨x47, ex47, h⟩ := h.get
      refine AOps.i tabOk rfl rfl rfl ex47 ?_
      refine pI rfl rfl rfl ?_
      refine AOps.done ?_
      exact ⟨x47, h.1, h.2, (Sub.list (fun i => i) rfl rfl ⟨rfl, rfl, rfl, rfl, rfl, trivial⟩ ⟨rfl, trivial⟩)⟩
  · replace h := h.2 e
    refine AWp.exit ?_
    refine AWp.seq ?_
    refine AWp.regionN (fun o => writes o) rfl ?_
    refine pT rfl rfl rfl ?_
    refine AOps.store tabOk (v := .dat (.st _ _)) rfl rfl rfl rfl rfl rfl rfl rfl rfl rfl rfl rfl rfl ?_
    refine pB rfl rfl rfl ?_
    refine AOps.done ?_
    refine AWp.ret ?_
    subst h
    exact ⟨_, rfl, rfl⟩

end Go.Sim.Ytnhflokfcnfegaa
