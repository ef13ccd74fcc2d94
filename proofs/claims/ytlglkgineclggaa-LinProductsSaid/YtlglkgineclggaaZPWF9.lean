/- What is proved: functions of the program compute what plain statements tell. -/
import Derived.Test.YtlglkgineclggaaZPWE
import Derived.Test.YtlglkgineclggaaZPFnL
namespace Go.Sim.Ytlglkgineclggaa
open Go.RowKit Go.Proofs Go.Proofs.Try
set_option maxRecDepth 100000
def W_law04_LinProducts (x1 : List (List GIval)) (x2 : List (List GIval)) (x3 : List GIval) (Q : Bool → Prop) : Prop :=
  Call (Ev_law04_first x1) fun x4 =>
  Call (Ev_lin_Dot x3 x4) fun x6 =>
  Join1 (fun j19 =>
    Call (Ev_ref04_Vector x3) fun x20 =>
    Br (!x20) (j19 true) (
      Call (Ev_law04_first x1) fun x22 =>
      Call (Ev_ref04_Vector x22) fun x24 =>
      Br (!x24) (j19 true) (
        Call (Ev_law04_first x1) fun x27 =>
        j19 (((x3.length : Nat) : Int) != ((x27.length : Nat) : Int))))
  ) (fun (x18 : Bool) =>
    Join0 (fun j42 =>
      Br x18 (
        Br (x6.2 != (1 : Int)) (Q false) (
          j42)) (
        Br (x6.2 != (0 : Int)) (Q false) (
          Call (Ev_law04_first x1) fun x49 =>
          Call (Ev_ref04_Dot x3 x49) fun x51 =>
          Call (Ev_ref02_Same x6.1 x51) fun x53 =>
          Br (!x53) (Q false) (
            j42)))
    ) (
      Call (Ev_lin_Apply x1 x3) fun x55 =>
      Join1 (fun j67 =>
        Call (Ev_ref04_Matrix x1) fun x68 =>
        Br (!x68) (j67 true) (
          Call (Ev_ref04_Vector x3) fun x70 =>
          Br (!x70) (j67 true) (
            At x1 (0 : Int) fun x73 =>
            j67 (((x73.length : Nat) : Int) != ((x3.length : Nat) : Int))))
      ) (fun (x66 : Bool) =>
        Join0 (fun j87 =>
          Br x66 (
            Br (x55.2 != (1 : Int)) (Q false) (
              Br (((x55.1.length : Nat) : Int) != (0 : Int)) (Q false) (
                j87))) (
            Br (x55.2 != (0 : Int)) (Q false) (
              Call (Ev_ref04_Apply x1 x3) fun x94 =>
              Call (Ev_ref04_Same x55.1 x94) fun x96 =>
              Br (!x96) (Q false) (
                j87)))
        ) (
          Call (Ev_lin_Mul x1 x2) fun x98 =>
          Join1 (fun j110 =>
            Call (Ev_ref04_Matrix x1) fun x111 =>
            Br (!x111) (j110 true) (
              Call (Ev_ref04_Matrix x2) fun x113 =>
              Br (!x113) (j110 true) (
                At x1 (0 : Int) fun x116 =>
                j110 (((x116.length : Nat) : Int) != ((x2.length : Nat) : Int))))
          ) (fun (x109 : Bool) =>
            Br x109 (
              Br (x98.2 == (1 : Int)) (Q (((x98.1.length : Nat) : Int) == (0 : Int))) (
                Q false)) (
              Br (x98.2 == (0 : Int)) (
                Call (Ev_ref04_Mul x1 x2) fun x128 =>
                Call (Ev_ref04_SameAll x98.1 x128) fun x130 =>
                Q x130) (
                Q false)))))))
theorem walk_law04_LinProducts {x1 : List (List GIval)} {x2 : List (List GIval)} {x3 : List GIval} {r : Bool} (h : W_law04_LinProducts x1 x2 x3 (fun r' => r' = r)) : Ev_law04_LinProducts x1 x2 x3 r := by
  unfold W_law04_LinProducts at h
  refine AFn.intro' (L := [(0, .dat (.sl 34 1 (List.map (eSl 36 2 GIval.enc) x1))), (1, .dat (.sl 34 1 (List.map (eSl 36 2 GIval.enc) x2))), (2, .dat (.sl 36 2 (List.map GIval.enc x3)))]) tabOk Try.func4 rfl rfl Try.ntmps4 rfl rfl rfl ?_
  refine AWp.seq ?_
  refine AWp.regionN (fun _ => false) rfl ?_
  refine pB rfl rfl rfl ?_
  refine AOps.done ?_
  refine AWp.seq ?_
  refine AWp.regionN (fun o => writes o) rfl ?_
  refine pS rfl rfl rfl ?_
  refine pS rfl rfl rfl ?_
  obtain ⟨x4, hc5, h⟩ := h
  refine AOps.call hc5 rfl rfl rfl ⟨.inl rfl, trivial⟩ ?_
  obtain ⟨x6, hc7, h⟩ := h
  refine AOps.call hc7 rfl rfl rfl ⟨.inl rfl, .inl rfl, trivial⟩ ?_
  refine pU rfl rfl rfl ?_
  refine pT rfl rfl rfl ?_
  refine pI rfl rfl rfl ?_
  refine AOps.alloc tabOk rfl rfl rfl rfl rfl ?_
  refine AOps.store tabOk (v := .dat (.st _ _)) rfl rfl rfl rfl rfl rfl rfl rfl rfl rfl rfl rfl rfl ?_
  refine pI rfl rfl rfl ?_
  refine AOps.done ?_
  refine AWp.seq ?_
  refine AWp.seq ?_
  obtain ⟨J144, hj145, hk146⟩ := h
  refine AWp.cutK (I := fun p : Bool => mkSt [(0, .dat (.sl 34 1 (List.map (eSl 36 2 GIval.enc) x1))), (1, .dat (.sl 34 1 (List.map (eSl 36 2 GIval.enc) x2))), (2, .dat (.sl 36 2 (List.map GIval.enc x3))), (7, .pt 7 [] 0), (8, .dat (.v (.int .i64 x6.2))), (36, .dat (.v (.bool p)))] [(7, .box 36 2 (.dat (GIval.enc x6.1)))]) (Inv := fun p : Bool => J144 p) ?_ (fun p hp => ?_)
  · have h := hj145
    refine AWp.regionN (fun _ => false) rfl ?_
    refine pS rfl rfl rfl ?_
    obtain ⟨x20, hc21, h⟩ := h
    refine AOps.call hc21 rfl rfl rfl ⟨.inl rfl, trivial⟩ ?_
    refine pB rfl rfl rfl ?_
    refine pB rfl rfl rfl ?_
    refine AOps.splitB 23 rfl (fun e => ?_) (fun e => ?_)
    · replace h := h.1 e
      refine AOps.off rfl rfl ?_
      refine AOps.off rfl rfl ?_
      refine AOps.off rfl rfl ?_
      refine AOps.off rfl rfl ?_
      refine pB rfl rfl rfl ?_
      refine pB rfl rfl rfl ?_
      refine AOps.off rfl rfl ?_
      refine AOps.off rfl rfl ?_
      refine AOps.off rfl rfl ?_
      refine AOps.off rfl rfl ?_
      refine AOps.off rfl rfl ?_
      refine AOps.off rfl rfl ?_
      refine pB rfl rfl rfl ?_
      refine AOps.done ?_
      exact ⟨true, h, (Sub.list (fun i => i) rfl rfl ⟨rfl, rfl, rfl, rfl, rfl, rfl, trivial⟩ ⟨rfl, trivial⟩)⟩
    · replace h := h.2 e
      refine pS rfl rfl rfl ?_
      obtain ⟨x22, hc23, h⟩ := h
      refine AOps.call hc23 rfl rfl rfl ⟨.inl rfl, trivial⟩ ?_
      obtain ⟨x24, hc25, h⟩ := h
      refine AOps.call hc25 rfl rfl rfl ⟨.inl rfl, trivial⟩ ?_
      refine pB rfl rfl rfl ?_
      refine pB rfl rfl rfl ?_
      refine pB rfl rfl rfl ?_
      refine AOps.splitB 29 rfl (fun e => ?_) (fun e => ?_)
      · replace h := h.1 e
        refine AOps.off rfl rfl ?_
        refine AOps.off rfl rfl ?_
        refine AOps.off rfl rfl ?_
        refine AOps.off rfl rfl ?_
        refine AOps.off rfl rfl ?_
        refine AOps.off rfl rfl ?_
        refine pB rfl rfl rfl ?_
        refine AOps.done ?_
        exact ⟨true, h, (Sub.list (fun i => i) rfl rfl ⟨rfl, rfl, rfl, rfl, rfl, rfl, trivial⟩ ⟨rfl, trivial⟩)⟩
      · replace h := h.2 e
        refine pS rfl rfl rfl ?_
        refine AOps.i (j := ((x3.length : Nat) : Int)) tabOk rfl rfl rfl (by first | (rw [List.length_map]; done) | rfl) ?_
        refine pS rfl rfl rfl ?_
        obtain ⟨x27, hc28, h⟩ := h
        refine AOps.call hc28 rfl rfl rfl ⟨.inl rfl, trivial⟩ ?_
        refine AOps.i (j := ((x27.length : Nat) : Int)) tabOk rfl rfl rfl (by first | (rw [List.length_map]; done) | rfl) ?_
        refine pB rfl rfl rfl ?_
        refine pB rfl rfl rfl ?_
        refine AOps.done ?_
        exact ⟨(((x3.length : Nat) : Int) != ((x27.length : Nat) : Int)), h, (Sub.list (fun i => i) rfl rfl ⟨rfl, rfl, rfl, rfl, rfl, rfl, trivial⟩ ⟨rfl, trivial⟩)⟩
  · have h := hk146 p hp
    revert h; clear hp; generalize p = x18; intro h
    obtain ⟨J141, hj142, hk143⟩ := h
    refine AWp.cutK (I := fun p : Unit => mkSt [(0, .dat (.sl 34 1 (List.map (eSl 36 2 GIval.enc) x1))), (1, .dat (.sl 34 1 (List.map (eSl 36 2 GIval.enc) x2))), (2, .dat (.sl 36 2 (List.map GIval.enc x3)))] []) (Inv := fun p : Unit => J141) ?_ (fun p hp => ?_)
    · have h := hj142
      refine AWp.cond rfl (fun e => ?_) (fun e => ?_)
      · replace h := h.1 e
        refine AWp.seq ?_
        refine AWp.regionN (fun _ => false) rfl ?_
        refine pI rfl rfl rfl ?_
        refine pB rfl rfl rfl ?_
        refine AOps.done ?_
        refine AWp.cond rfl (fun e => ?_) (fun e => ?_)
        · replace h := h.1 e
          refine AWp.seq ?_
          refine AWp.regionN (fun _ => false) rfl ?_
          refine pB rfl rfl rfl ?_
          refine AOps.done ?_
          refine AWp.ret ?_
          subst h
          exact ⟨_, rfl, rfl⟩
        · replace h := h.2 e
          refine AWp.skip ?_
          exact ⟨(), h, (Sub.list (fun i => i) rfl rfl ⟨rfl, rfl, rfl, trivial⟩ trivial)⟩
      · replace h := h.2 e
        refine AWp.seq ?_
        refine AWp.regionD (fun _ => false) mixed (by decide +kernel) rfl ?_
        refine pI rfl rfl rfl ?_
        refine pB rfl rfl rfl ?_
        refine pB rfl rfl rfl ?_
        refine AOps.splitB 41 rfl (fun e => ?_) (fun e => ?_)
        · replace h := h.1 e
          refine AOps.off rfl rfl ?_
          refine AOps.off rfl rfl ?_
          refine AOps.off rfl rfl ?_
          refine AOps.off rfl rfl ?_
          refine AOps.off rfl rfl ?_
          refine AOps.off rfl rfl ?_
          refine AOps.off rfl rfl ?_
          refine pB rfl rfl rfl ?_
          refine AOps.done ?_
          refine AWp.condT rfl ?_
          refine AWp.seq ?_
          refine AWp.regionN (fun _ => false) rfl ?_
          refine pB rfl rfl rfl ?_
          refine AOps.done ?_
          refine AWp.ret ?_
          subst h
          exact ⟨_, rfl, rfl⟩
        · replace h := h.2 e
          refine pT rfl rfl rfl ?_
          refine pS rfl rfl rfl ?_
          refine pS rfl rfl rfl ?_
          obtain ⟨x49, hc50, h⟩ := h
          refine AOps.call hc50 rfl rfl rfl ⟨.inl rfl, trivial⟩ ?_
          obtain ⟨x51, hc52, h⟩ := h
          refine AOps.call hc52 rfl rfl rfl ⟨.inl rfl, .inl rfl, trivial⟩ ?_
          obtain ⟨x53, hc54, h⟩ := h
          refine AOps.call hc54 rfl rfl rfl ⟨.inl rfl, .inl rfl, trivial⟩ ?_
          refine pB rfl rfl rfl ?_
          refine pB rfl rfl rfl ?_
          refine AOps.done ?_
          refine AWp.cond rfl (fun e => ?_) (fun e => ?_)
          · replace h := h.1 e
            refine AWp.seq ?_
            refine AWp.regionN (fun _ => false) rfl ?_
            refine pB rfl rfl rfl ?_
            refine AOps.done ?_
            refine AWp.ret ?_
            subst h
            exact ⟨_, rfl, rfl⟩
          · replace h := h.2 e
            refine AWp.skip ?_
            exact ⟨(), h, (Sub.list (fun i => i) rfl rfl ⟨rfl, rfl, rfl, trivial⟩ trivial)⟩
    · have h := hk143 hp
      refine AWp.seq ?_
      refine AWp.regionN (fun _ => false) rfl ?_
      refine pS rfl rfl rfl ?_
      refine pS rfl rfl rfl ?_
      obtain ⟨x55, hc56, h⟩ := h
      refine AOps.call hc56 rfl rfl rfl ⟨.inl rfl, .inl rfl, trivial⟩ ?_
      refine pU rfl rfl rfl ?_
      refine pS rfl rfl rfl ?_
      refine pI rfl rfl rfl ?_
      refine pS rfl rfl rfl ?_
      refine pI rfl rfl rfl ?_
      refine AOps.done ?_
      refine AWp.seq ?_
      refine AWp.seq ?_
      obtain ⟨J138, hj139, hk140⟩ := h
      refine AWp.cutK (I := fun p : Bool => mkSt [(0, .dat (.sl 34 1 (List.map (eSl 36 2 GIval.enc) x1))), (1, .dat (.sl 34 1 (List.map (eSl 36 2 GIval.enc) x2))), (2, .dat (.sl 36 2 (List.map GIval.enc x3))), (9, .dat (.sl 36 2 (List.map GIval.enc x55.1))), (10, .dat (.v (.int .i64 x55.2))), (72, .dat (.v (.bool p)))] []) (Inv := fun p : Bool => J138 p) ?_ (fun p hp => ?_)
      · have h := hj139
        refine AWp.regionN (fun _ => false) rfl ?_
        refine pS rfl rfl rfl ?_
        obtain ⟨x68, hc69, h⟩ := h
        refine AOps.call hc69 rfl rfl rfl ⟨.inl rfl, trivial⟩ ?_
        refine pB rfl rfl rfl ?_
        refine pB rfl rfl rfl ?_
        refine AOps.splitB 59 rfl (fun e => ?_) (fun e => ?_)
        · replace h := h.1 e
          refine AOps.off rfl rfl ?_
          refine AOps.off rfl rfl ?_
          refine AOps.off rfl rfl ?_
          refine pB rfl rfl rfl ?_
          refine pB rfl rfl rfl ?_
          refine AOps.off rfl rfl ?_
          refine AOps.off rfl rfl ?_
          refine AOps.off rfl rfl ?_
          refine AOps.off rfl rfl ?_
          refine AOps.off rfl rfl ?_
          refine AOps.off rfl rfl ?_
          refine AOps.off rfl rfl ?_
          refine pB rfl rfl rfl ?_
          refine AOps.done ?_
          exact ⟨true, h, (Sub.list (fun i => i) rfl rfl ⟨rfl, rfl, rfl, rfl, rfl, rfl, trivial⟩ trivial)⟩
        · replace h := h.2 e
          refine pS rfl rfl rfl ?_
          obtain ⟨x70, hc71, h⟩ := h
          refine AOps.call hc71 rfl rfl rfl ⟨.inl rfl, trivial⟩ ?_
          refine pB rfl rfl rfl ?_
          refine pB rfl rfl rfl ?_
          refine pB rfl rfl rfl ?_
          refine AOps.splitB 64 rfl (fun e => ?_) (fun e => ?_)
          · replace h := h.1 e
            refine AOps.off rfl rfl ?_
            refine AOps.off rfl rfl ?_
            refine AOps.off rfl rfl ?_
            refine AOps.off rfl rfl ?_
            refine AOps.off rfl rfl ?_
            refine AOps.off rfl rfl ?_
            refine AOps.off rfl rfl ?_
            refine pB rfl rfl rfl ?_
            refine AOps.done ?_
            exact ⟨true, h, (Sub.list (fun i => i) rfl rfl ⟨rfl, rfl, rfl, rfl, rfl, rfl, trivial⟩ trivial)⟩
          · replace h := h.2 e
            refine pS rfl rfl rfl ?_
            obtain ⟨hi72, x73, hx74, h⟩ := h
            refine AOps.idx tabOk (z := .sl 36 2 (List.map GIval.enc x73)) rfl rfl rfl rfl rfl rfl rfl rfl hi72 (map_get hx74) ?_
            refine pS rfl rfl rfl ?_
            refine AOps.i (j := ((x73.length : Nat) : Int)) tabOk rfl rfl rfl (by first | (rw [List.length_map]; done) | rfl) ?_
            refine pS rfl rfl rfl ?_
            refine AOps.i (j := ((x3.length : Nat) : Int)) tabOk rfl rfl rfl (by first | (rw [List.length_map]; done) | rfl) ?_
            refine pB rfl rfl rfl ?_
            refine pB rfl rfl rfl ?_
            refine AOps.done ?_
            exact ⟨(((x73.length : Nat) : Int) != ((x3.length : Nat) : Int)), h, (Sub.list (fun i => i) rfl rfl ⟨rfl, rfl, rfl, rfl, rfl, rfl, trivial⟩ trivial)⟩
      · have h := hk140 p hp
        revert h; clear hp; generalize p = x66; intro h
        obtain ⟨J135, hj136, hk137⟩ := h
        refine AWp.cutK (I := fun p : Unit => mkSt [(0, .dat (.sl 34 1 (List.map (eSl 36 2 GIval.enc) x1))), (1, .dat (.sl 34 1 (List.map (eSl 36 2 GIval.enc) x2)))] []) (Inv := fun p : Unit => J135) ?_ (fun p hp => ?_)
        · have h := hj136
          refine AWp.cond rfl (fun e => ?_) (fun e => ?_)
          · replace h := h.1 e
            refine AWp.seq ?_
            refine AWp.regionN (fun _ => false) rfl ?_
            refine pI rfl rfl rfl ?_
            refine pB rfl rfl rfl ?_
            refine pB rfl rfl rfl ?_
            refine AOps.splitB 75 rfl (fun e => ?_) (fun e => ?_)
            · replace h := h.1 e
              refine AOps.off rfl rfl ?_
              refine AOps.off rfl rfl ?_
              refine AOps.off rfl rfl ?_
              refine pB rfl rfl rfl ?_
              refine AOps.done ?_
              refine AWp.condT rfl ?_
              refine AWp.seq ?_
              refine AWp.regionN (fun _ => false) rfl ?_
              refine pB rfl rfl rfl ?_
              refine AOps.done ?_
              refine AWp.ret ?_
              subst h
              exact ⟨_, rfl, rfl⟩
            · replace h := h.2 e
              refine pS rfl rfl rfl ?_
              refine AOps.i (j := ((x55.1.length : Nat) : Int)) tabOk rfl rfl rfl (by first | (rw [List.length_map]; done) | rfl) ?_
              refine pB rfl rfl rfl ?_
              refine pB rfl rfl rfl ?_
              refine AOps.done ?_
              refine AWp.cond rfl (fun e => ?_) (fun e => ?_)
              · replace h := h.1 e
                refine AWp.seq ?_
                refine AWp.regionN (fun _ => false) rfl ?_
                refine pB rfl rfl rfl ?_
                refine AOps.done ?_
                refine AWp.ret ?_
                subst h
                exact ⟨_, rfl, rfl⟩
              · replace h := h.2 e
                refine AWp.skip ?_
                exact ⟨(), h, (Sub.list (fun i => i) rfl rfl ⟨rfl, rfl, trivial⟩ trivial)⟩
          · replace h := h.2 e
            refine AWp.seq ?_
            refine AWp.regionN (fun _ => false) rfl ?_
            refine pI rfl rfl rfl ?_
            refine pB rfl rfl rfl ?_
            refine pB rfl rfl rfl ?_
            refine AOps.splitB 82 rfl (fun e => ?_) (fun e => ?_)
            · replace h := h.1 e
              refine AOps.off rfl rfl ?_
              refine AOps.off rfl rfl ?_
              refine AOps.off rfl rfl ?_
              refine AOps.off rfl rfl ?_
              refine AOps.off rfl rfl ?_
              refine AOps.off rfl rfl ?_
              refine pB rfl rfl rfl ?_
              refine AOps.done ?_
              refine AWp.condT rfl ?_
              refine AWp.seq ?_
              refine AWp.regionN (fun _ => false) rfl ?_
              refine pB rfl rfl rfl ?_
              refine AOps.done ?_
              refine AWp.ret ?_
              subst h
              exact ⟨_, rfl, rfl⟩
            · replace h := h.2 e
              refine pS rfl rfl rfl ?_
              refine pS rfl rfl rfl ?_
              refine pS rfl rfl rfl ?_
              obtain ⟨x94, hc95, h⟩ := h
              refine AOps.call hc95 rfl rfl rfl ⟨.inl rfl, .inl rfl, trivial⟩ ?_
              obtain ⟨x96, hc97, h⟩ := h
              refine AOps.call hc97 rfl rfl rfl ⟨.inl rfl, .inl rfl, trivial⟩ ?_
              refine pB rfl rfl rfl ?_
              refine pB rfl rfl rfl ?_
              refine AOps.done ?_
              refine AWp.cond rfl (fun e => ?_) (fun e => ?_)
              · replace h := h.1 e
                refine AWp.seq ?_
                refine AWp.regionN (fun _ => false) rfl ?_
                refine pB rfl rfl rfl ?_
                refine AOps.done ?_
                refine AWp.ret ?_
                subst h
                exact ⟨_, rfl, rfl⟩
              · replace h := h.2 e
                refine AWp.skip ?_
                exact ⟨(), h, (Sub.list (fun i => i) rfl rfl ⟨rfl, rfl, trivial⟩ trivial)⟩
        · have h := hk137 hp
          refine AWp.seq ?_
          refine AWp.regionN (fun _ => false) rfl ?_
          refine pS rfl rfl rfl ?_
          refine pS rfl rfl rfl ?_
          obtain ⟨x98, hc99, h⟩ := h
          refine AOps.call hc99 rfl rfl rfl ⟨.inl rfl, .inl rfl, trivial⟩ ?_
          refine pU rfl rfl rfl ?_
          refine pS rfl rfl rfl ?_
          refine pI rfl rfl rfl ?_
          refine pS rfl rfl rfl ?_
          refine pI rfl rfl rfl ?_
          refine AOps.done ?_
          refine AWp.seq ?_
          refine AWp.seq ?_
          obtain ⟨J132, hj133, hk134⟩ := h
          refine AWp.cutK (I := fun p : Bool => mkSt [(0, .dat (.sl 34 1 (List.map (eSl 36 2 GIval.enc) x1))), (1, .dat (.sl 34 1 (List.map (eSl 36 2 GIval.enc) x2))), (11, .dat (.sl 34 1 (List.map (eSl 36 2 GIval.enc) x98.1))), (12, .dat (.v (.int .i64 x98.2))), (112, .dat (.v (.bool p)))] []) (Inv := fun p : Bool => J132 p) ?_ (fun p hp => ?_)
          · have h := hj133
            refine AWp.regionN (fun _ => false) rfl ?_
            refine pS rfl rfl rfl ?_
            obtain ⟨x111, hc112, h⟩ := h
            refine AOps.call hc112 rfl rfl rfl ⟨.inl rfl, trivial⟩ ?_
            refine pB rfl rfl rfl ?_
            refine pB rfl rfl rfl ?_
            refine AOps.splitB 99 rfl (fun e => ?_) (fun e => ?_)
            · replace h := h.1 e
              refine AOps.off rfl rfl ?_
              refine AOps.off rfl rfl ?_
              refine AOps.off rfl rfl ?_
              refine pB rfl rfl rfl ?_
              refine pB rfl rfl rfl ?_
              refine AOps.off rfl rfl ?_
              refine AOps.off rfl rfl ?_
              refine AOps.off rfl rfl ?_
              refine AOps.off rfl rfl ?_
              refine AOps.off rfl rfl ?_
              refine AOps.off rfl rfl ?_
              refine AOps.off rfl rfl ?_
              refine pB rfl rfl rfl ?_
              refine AOps.done ?_
              exact ⟨true, h, (Sub.list (fun i => i) rfl rfl ⟨rfl, rfl, rfl, rfl, rfl, trivial⟩ trivial)⟩
            · replace h := h.2 e
              refine pS rfl rfl rfl ?_
              obtain ⟨x113, hc114, h⟩ := h
              refine AOps.call hc114 rfl rfl rfl ⟨.inl rfl, trivial⟩ ?_
              refine pB rfl rfl rfl ?_
              refine pB rfl rfl rfl ?_
              refine pB rfl rfl rfl ?_
              refine AOps.splitB 104 rfl (fun e => ?_) (fun e => ?_)
              · replace h := h.1 e
                refine AOps.off rfl rfl ?_
                refine AOps.off rfl rfl ?_
                refine AOps.off rfl rfl ?_
                refine AOps.off rfl rfl ?_
                refine AOps.off rfl rfl ?_
                refine AOps.off rfl rfl ?_
                refine AOps.off rfl rfl ?_
                refine pB rfl rfl rfl ?_
                refine AOps.done ?_
                exact ⟨true, h, (Sub.list (fun i => i) rfl rfl ⟨rfl, rfl, rfl, rfl, rfl, trivial⟩ trivial)⟩
              · replace h := h.2 e
                refine pS rfl rfl rfl ?_
                obtain ⟨hi115, x116, hx117, h⟩ := h
                refine AOps.idx tabOk (z := .sl 36 2 (List.map GIval.enc x116)) rfl rfl rfl rfl rfl rfl rfl rfl hi115 (map_get hx117) ?_
                refine pS rfl rfl rfl ?_
                refine AOps.i (j := ((x116.length : Nat) : Int)) tabOk rfl rfl rfl (by first | (rw [List.length_map]; done) | rfl) ?_
                refine pS rfl rfl rfl ?_
                refine AOps.i (j := ((x2.length : Nat) : Int)) tabOk rfl rfl rfl (by first | (rw [List.length_map]; done) | rfl) ?_
                refine pB rfl rfl rfl ?_
                refine pB rfl rfl rfl ?_
                refine AOps.done ?_
                exact ⟨(((x116.length : Nat) : Int) != ((x2.length : Nat) : Int)), h, (Sub.list (fun i => i) rfl rfl ⟨rfl, rfl, rfl, rfl, rfl, trivial⟩ trivial)⟩
          · have h := hk134 p hp
            revert h; clear hp; generalize p = x109; intro h
            refine AWp.cond rfl (fun e => ?_) (fun e => ?_)
            · replace h := h.1 e
              refine AWp.seq ?_
              refine AWp.regionN (fun _ => false) rfl ?_
              refine pI rfl rfl rfl ?_
              refine pB rfl rfl rfl ?_
              refine pB rfl rfl rfl ?_
              refine AOps.splitB 115 rfl (fun e => ?_) (fun e => ?_)
              · replace h := h.1 e
                refine pS rfl rfl rfl ?_
                refine AOps.i (j := ((x98.1.length : Nat) : Int)) tabOk rfl rfl rfl (by first | (rw [List.length_map]; done) | rfl) ?_
                refine pB rfl rfl rfl ?_
                refine pB rfl rfl rfl ?_
                refine pB rfl rfl rfl ?_
                refine AOps.done ?_
                refine AWp.ret ?_
                subst h
                exact ⟨_, rfl, rfl⟩
              · replace h := h.2 e
                refine AOps.off rfl rfl ?_
                refine AOps.off rfl rfl ?_
                refine AOps.off rfl rfl ?_
                refine pB rfl rfl rfl ?_
                refine pB rfl rfl rfl ?_
                refine AOps.done ?_
                refine AWp.ret ?_
                subst h
                exact ⟨_, rfl, rfl⟩
            · replace h := h.2 e
              refine AWp.skip ?_
              refine AWp.seq ?_
              refine AWp.regionN (fun _ => false) rfl ?_
              refine pI rfl rfl rfl ?_
              refine pB rfl rfl rfl ?_
              refine pB rfl rfl rfl ?_
              refine AOps.splitB 122 rfl (fun e => ?_) (fun e => ?_)
              · replace h := h.1 e
                refine pS rfl rfl rfl ?_
                refine pS rfl rfl rfl ?_
                refine pS rfl rfl rfl ?_
                obtain ⟨x128, hc129, h⟩ := h
                refine AOps.call hc129 rfl rfl rfl ⟨.inl rfl, .inl rfl, trivial⟩ ?_
                obtain ⟨x130, hc131, h⟩ := h
                refine AOps.call hc131 rfl rfl rfl ⟨.inl rfl, .inl rfl, trivial⟩ ?_
                refine pB rfl rfl rfl ?_
                refine pB rfl rfl rfl ?_
                refine AOps.done ?_
                refine AWp.ret ?_
                subst h
                exact ⟨_, rfl, rfl⟩
              · replace h := h.2 e
                refine AOps.off rfl rfl ?_
                refine AOps.off rfl rfl ?_
                refine AOps.off rfl rfl ?_
                refine AOps.off rfl rfl ?_
                refine AOps.off rfl rfl ?_
                refine pB rfl rfl rfl ?_
                refine pB rfl rfl rfl ?_
                refine AOps.done ?_
                refine AWp.ret ?_
                subst h
                exact ⟨_, rfl, rfl⟩
end Go.Sim.Ytlglkgineclggaa
