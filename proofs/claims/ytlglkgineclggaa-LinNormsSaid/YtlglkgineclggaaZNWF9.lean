/- What is proved: functions of the program compute what plain statements tell. -/
import Derived.Test.YtlglkgineclggaaZNWE
import Derived.Test.YtlglkgineclggaaZNFnL
namespace Go.Sim.Ytlglkgineclggaa
open Go.RowKit Go.Proofs Go.Proofs.Try
set_option maxRecDepth 100000
def W_law04_LinNorms (m1 : List (List GIval)) (f2 : List (List Nat)) (n3 : Int) (Q : Bool → Prop) : Prop :=
  Call (Ev_lin_Norm m1) fun x4 =>
  Call (Ev_ref04_Matrix m1) fun x6 =>
  Join0 (fun j12 =>
    Br (!x6) (
      Br (x4.2 != (1 : Int)) (Q false) (
        Br (FloatKind.f64.format.order x4.1 (0 : Nat) != some .eq) (Q false) (
          j12))) (
      Br (x4.2 != (0 : Int)) (Q false) (
        Call (Ev_ref04_Norm m1) fun x15 =>
        Br (FloatKind.f64.format.order x4.1 x15 != some .eq) (Q false) (
          j12)))
  ) (
    Call (Ev_lin_One n3) fun x17 =>
    Join1 (fun j20 =>
      Br (decide (n3 < (1 : Int))) (j20 true) (
        j20 (decide (n3 > (24 : Int))))
    ) (fun (x19 : Bool) =>
      Br x19 (
        Br (((x17.length : Nat) : Int) == (0 : Int)) (
          Call (Ev_lin_Points f2) fun x43 =>
          Call (Ev_ref04_Points f2) fun x45 =>
          Call (Ev_ref04_SameAll x43 x45) fun x47 =>
          Q x47) (
          Q false)) (
        Call (Ev_ref04_One n3) fun x59 =>
        Call (Ev_ref04_SameAll x17 x59) fun x61 =>
        Br x61 (
          Call (Ev_lin_Points f2) fun x63 =>
          Call (Ev_ref04_Points f2) fun x65 =>
          Call (Ev_ref04_SameAll x63 x65) fun x67 =>
          Q x67) (
          Q false))))
theorem walk_law04_LinNorms {m1 : List (List GIval)} {f2 : List (List Nat)} {n3 : Int} {r : Bool} (h : W_law04_LinNorms m1 f2 n3 (fun r' => r' = r)) : Ev_law04_LinNorms m1 f2 n3 r := by
  unfold W_law04_LinNorms at h
  refine AFn.intro' (L := [(0, .dat (.sl 34 1 (List.map (eSl 36 2 GIval.enc) m1))), (1, .dat (.sl 83 1 (List.map (eSl 24 1 (eFlt .f64)) f2))), (2, .dat (.v (.int .i64 n3)))]) tabOk Try.func3 rfl rfl Try.ntmps3 rfl rfl rfl ?_
  refine AWp.seq ?_
  refine AWp.regionN (fun _ => false) rfl ?_
  refine pB rfl rfl rfl ?_
  refine AOps.done ?_
  refine AWp.seq ?_
  refine AWp.regionN (fun _ => false) rfl ?_
  refine pS rfl rfl rfl ?_
  obtain ⟨x4, hc5, h⟩ := h
  refine AOps.call hc5 rfl rfl rfl ⟨.inl rfl, trivial⟩ ?_
  refine pU rfl rfl rfl ?_
  refine pF rfl rfl rfl ?_
  refine pI rfl rfl rfl ?_
  refine pF rfl rfl rfl ?_
  refine pI rfl rfl rfl ?_
  refine AOps.done ?_
  refine AWp.seq ?_
  refine AWp.seq ?_
  refine AWp.regionN (fun _ => false) rfl ?_
  refine pS rfl rfl rfl ?_
  obtain ⟨x6, hc7, h⟩ := h
  refine AOps.call hc7 rfl rfl rfl ⟨.inl rfl, trivial⟩ ?_
  refine pB rfl rfl rfl ?_
  refine AOps.done ?_
  obtain ⟨J72, hj73, hk74⟩ := h
  refine AWp.cutK (I := fun p : Unit => mkSt [(1, .dat (.sl 83 1 (List.map (eSl 24 1 (eFlt .f64)) f2))), (2, .dat (.v (.int .i64 n3)))] []) (Inv := fun p : Unit => J72) ?_ (fun p hp => ?_)
  · have h := hj73
    refine AWp.cond rfl (fun e => ?_) (fun e => ?_)
    · replace h := h.1 e
      refine AWp.seq ?_
      refine AWp.regionN (fun _ => false) rfl ?_
      refine pI rfl rfl rfl ?_
      refine pB rfl rfl rfl ?_
      refine pB rfl rfl rfl ?_
      refine AOps.splitB 20 rfl (fun e => ?_) (fun e => ?_)
      · replace h := h.1 e
        refine AOps.off rfl rfl ?_
        refine AOps.off rfl rfl ?_
        refine pB rfl rfl rfl ?_
        refine AOps.done ?_
        refine AWp.condT rfl ?_
        refine AWp.seq ?_
        refine AWp.regionN (fun _ => false) rfl ?_
        refine pB rfl rfl rfl ?_
        refine AOps.done ?_
        refine AWp.ret ?_
        subst h
        exact ⟨_, rfl, rfl⟩
      · replace h := h.2 e
        refine pF rfl rfl rfl ?_
        refine pB rfl rfl rfl ?_
        refine pB rfl rfl rfl ?_
        refine AOps.done ?_
        refine AWp.cond rfl (fun e => ?_) (fun e => ?_)
        · replace h := h.1 e
          refine AWp.seq ?_
          refine AWp.regionN (fun _ => false) rfl ?_
          refine pB rfl rfl rfl ?_
          refine AOps.done ?_
          refine AWp.ret ?_
          subst h
          exact ⟨_, rfl, rfl⟩
        · replace h := h.2 e
          refine AWp.skip ?_
          exact ⟨(), h, (Sub.list (fun i => i) rfl rfl ⟨rfl, rfl, trivial⟩ trivial)⟩
    · replace h := h.2 e
      refine AWp.seq ?_
      refine AWp.regionN (fun _ => false) rfl ?_
      refine pI rfl rfl rfl ?_
      refine pB rfl rfl rfl ?_
      refine pB rfl rfl rfl ?_
      refine AOps.splitB 26 rfl (fun e => ?_) (fun e => ?_)
      · replace h := h.1 e
        refine AOps.off rfl rfl ?_
        refine AOps.off rfl rfl ?_
        refine AOps.off rfl rfl ?_
        refine AOps.off rfl rfl ?_
        refine pB rfl rfl rfl ?_
        refine AOps.done ?_
        refine AWp.condT rfl ?_
        refine AWp.seq ?_
        refine AWp.regionN (fun _ => false) rfl ?_
        refine pB rfl rfl rfl ?_
        refine AOps.done ?_
        refine AWp.ret ?_
        subst h
        exact ⟨_, rfl, rfl⟩
      · replace h := h.2 e
        refine pF rfl rfl rfl ?_
        refine pS rfl rfl rfl ?_
        obtain ⟨x15, hc16, h⟩ := h
        refine AOps.call hc16 rfl rfl rfl ⟨.inl rfl, trivial⟩ ?_
        refine pB rfl rfl rfl ?_
        refine pB rfl rfl rfl ?_
        refine AOps.done ?_
        refine AWp.cond rfl (fun e => ?_) (fun e => ?_)
        · replace h := h.1 e
          refine AWp.seq ?_
          refine AWp.regionN (fun _ => false) rfl ?_
          refine pB rfl rfl rfl ?_
          refine AOps.done ?_
          refine AWp.ret ?_
          subst h
          exact ⟨_, rfl, rfl⟩
        · replace h := h.2 e
          refine AWp.skip ?_
          exact ⟨(), h, (Sub.list (fun i => i) rfl rfl ⟨rfl, rfl, trivial⟩ trivial)⟩
  · have h := hk74 hp
    refine AWp.seq ?_
    refine AWp.regionN (fun _ => false) rfl ?_
    refine pI rfl rfl rfl ?_
    obtain ⟨x17, hc18, h⟩ := h
    refine AOps.call hc18 rfl rfl rfl ⟨.inl rfl, trivial⟩ ?_
    refine pS rfl rfl rfl ?_
    refine AOps.done ?_
    refine AWp.seq ?_
    refine AWp.seq ?_
    obtain ⟨J69, hj70, hk71⟩ := h
    refine AWp.cutK (I := fun p : Bool => mkSt [(1, .dat (.sl 83 1 (List.map (eSl 24 1 (eFlt .f64)) f2))), (2, .dat (.v (.int .i64 n3))), (9, .dat (.sl 34 1 (List.map (eSl 36 2 GIval.enc) x17))), (39, .dat (.v (.bool p)))] []) (Inv := fun p : Bool => J69 p) ?_ (fun p hp => ?_)
    · have h := hj70
      refine AWp.regionN (fun _ => false) rfl ?_
      refine pI rfl rfl rfl ?_
      refine pB rfl rfl rfl ?_
      refine pB rfl rfl rfl ?_
      refine AOps.splitB 36 rfl (fun e => ?_) (fun e => ?_)
      · replace h := h.1 e
        refine AOps.off rfl rfl ?_
        refine AOps.off rfl rfl ?_
        refine pB rfl rfl rfl ?_
        refine AOps.done ?_
        exact ⟨true, h, (Sub.list (fun i => i) rfl rfl ⟨rfl, rfl, rfl, rfl, trivial⟩ trivial)⟩
      · replace h := h.2 e
        refine pI rfl rfl rfl ?_
        refine pB rfl rfl rfl ?_
        refine pB rfl rfl rfl ?_
        refine AOps.done ?_
        exact ⟨(decide (n3 > (24 : Int))), h, (Sub.list (fun i => i) rfl rfl ⟨rfl, rfl, rfl, rfl, trivial⟩ trivial)⟩
    · have h := hk71 p hp
      revert h; clear hp; generalize p = x19; intro h
      refine AWp.cond rfl (fun e => ?_) (fun e => ?_)
      · replace h := h.1 e
        refine AWp.seq ?_
        refine AWp.regionN (fun _ => false) rfl ?_
        refine pS rfl rfl rfl ?_
        refine AOps.i (j := ((x17.length : Nat) : Int)) tabOk rfl rfl rfl (by first | (rw [List.length_map]; done) | rfl) ?_
        refine pB rfl rfl rfl ?_
        refine pB rfl rfl rfl ?_
        refine AOps.splitB 43 rfl (fun e => ?_) (fun e => ?_)
        · replace h := h.1 e
          refine pS rfl rfl rfl ?_
          obtain ⟨x43, hc44, h⟩ := h
          refine AOps.call hc44 rfl rfl rfl ⟨.inl rfl, trivial⟩ ?_
          refine pS rfl rfl rfl ?_
          obtain ⟨x45, hc46, h⟩ := h
          refine AOps.call hc46 rfl rfl rfl ⟨.inl rfl, trivial⟩ ?_
          obtain ⟨x47, hc48, h⟩ := h
          refine AOps.call hc48 rfl rfl rfl ⟨.inl rfl, .inl rfl, trivial⟩ ?_
          refine pB rfl rfl rfl ?_
          refine pB rfl rfl rfl ?_
          refine AOps.done ?_
          refine AWp.ret ?_
          subst h
          exact ⟨_, rfl, rfl⟩
        · replace h := h.2 e
          refine AOps.off rfl rfl ?_
          refine AOps.off rfl rfl ?_
          refine AOps.off rfl rfl ?_
          refine AOps.off rfl rfl ?_
          refine AOps.off rfl rfl ?_
          refine pB rfl rfl rfl ?_
          refine pB rfl rfl rfl ?_
          refine AOps.done ?_
          refine AWp.ret ?_
          subst h
          exact ⟨_, rfl, rfl⟩
      · replace h := h.2 e
        refine AWp.skip ?_
        refine AWp.seq ?_
        refine AWp.regionN (fun _ => false) rfl ?_
        refine pS rfl rfl rfl ?_
        refine pI rfl rfl rfl ?_
        obtain ⟨x59, hc60, h⟩ := h
        refine AOps.call hc60 rfl rfl rfl ⟨.inl rfl, trivial⟩ ?_
        obtain ⟨x61, hc62, h⟩ := h
        refine AOps.call hc62 rfl rfl rfl ⟨.inl rfl, .inl rfl, trivial⟩ ?_
        refine pB rfl rfl rfl ?_
        refine AOps.splitB 54 rfl (fun e => ?_) (fun e => ?_)
        · replace h := h.1 e
          refine pS rfl rfl rfl ?_
          obtain ⟨x63, hc64, h⟩ := h
          refine AOps.call hc64 rfl rfl rfl ⟨.inl rfl, trivial⟩ ?_
          refine pS rfl rfl rfl ?_
          obtain ⟨x65, hc66, h⟩ := h
          refine AOps.call hc66 rfl rfl rfl ⟨.inl rfl, trivial⟩ ?_
          obtain ⟨x67, hc68, h⟩ := h
          refine AOps.call hc68 rfl rfl rfl ⟨.inl rfl, .inl rfl, trivial⟩ ?_
          refine pB rfl rfl rfl ?_
          refine pB rfl rfl rfl ?_
          refine AOps.done ?_
          refine AWp.ret ?_
          subst h
          exact ⟨_, rfl, rfl⟩
        · replace h := h.2 e
          refine AOps.off rfl rfl ?_
          refine AOps.off rfl rfl ?_
          refine AOps.off rfl rfl ?_
          refine AOps.off rfl rfl ?_
          refine AOps.off rfl rfl ?_
          refine pB rfl rfl rfl ?_
          refine pB rfl rfl rfl ?_
          refine AOps.done ?_
          refine AWp.ret ?_
          subst h
          exact ⟨_, rfl, rfl⟩
end Go.Sim.Ytlglkgineclggaa
