/- What is proved: functions of the program compute what plain statements tell. -/
import Derived.Test.YtlglkgineclggaaDoorZRTWE
namespace Go.Sim.YtlglkgineclggaaDoor
open Go.RowKit Go.Proofs Go.Proofs.Tryd
set_option maxRecDepth 100000
def W_ulp_Round (p1 : GParts) (dir2 : Int) (Q : Nat → Prop) : Prop :=
  Let (opMaxI p1.E (-4000 : Int)) fun x3 =>
  Let (opMinI x3 (4000 : Int)) fun x4 =>
  Call (Ev_ulp_value_round ({ Gulpvalue.zero with neg_ := p1.Neg, lo_ := p1.M, e_ := x4 }) dir2) fun x5 =>
  Q x5
theorem walk_ulp_Round {p1 : GParts} {dir2 : Int} {r : Nat} (h : W_ulp_Round p1 dir2 (fun r' => r' = r)) : Ev_ulp_Round p1 dir2 r := by
  unfold W_ulp_Round at h
  refine AFn.intro' (L := [(0, .dat (GParts.enc p1)), (1, .dat (.v (.int .i64 dir2)))]) tabOk Tryd.func22 rfl rfl Tryd.ntmps22 rfl rfl rfl ?_
  refine AWp.seq ?_
  refine AWp.regionN (fun _ => false) rfl ?_
  refine AOps.box (v := .dat (.st _ _)) rfl rfl rfl rfl rfl rfl ?_
  refine pF rfl rfl rfl ?_
  refine AOps.done ?_
  refine AWp.seq ?_
  refine AWp.regionN (fun _ => false) rfl ?_
  refine pP rfl rfl rfl ?_
  refine pB rfl rfl rfl ?_
  refine pP rfl rfl rfl ?_
  refine pI rfl rfl rfl ?_
  refine pP rfl rfl rfl ?_
  refine pI rfl rfl rfl ?_
  obtain ⟨x3, ex3, h⟩ := h.get
  refine AOps.i tabOk rfl rfl rfl ex3 ?_
  obtain ⟨x4, ex4, h⟩ := h.get
  refine AOps.i tabOk rfl rfl rfl ex4 ?_
  refine pT rfl rfl rfl ?_
  refine pI rfl rfl rfl ?_
  obtain ⟨x5, hc6, h⟩ := h
  refine AOps.call hc6 rfl rfl rfl ⟨.inl rfl, .inl rfl, trivial⟩ ?_
  refine pF rfl rfl rfl ?_
  refine AOps.done ?_
  refine AWp.ret ?_
  subst h
  exact ⟨_, rfl, rfl⟩
def W_ulp_value_round (x1 : Gulpvalue) (x2 : Int) (Q : Nat → Prop) : Prop :=
  Let (opMaxI x2 (-1 : Int)) fun x3 =>
  Let (opMinI x3 (1 : Int)) fun x4 =>
  Join1 (fun j6 =>
    Br (x1.hi_ == (0 : Int)) (
      Br (x1.lo_ == (0 : Int)) (j6 (!x1.more_)) (
        j6 false)) (
      j6 false)
  ) (fun (x5 : Bool) =>
    Br x5 (Q (0 : Nat)) (
      Call (Ev_ulp_value_len x1) fun x7 =>
      Let (IntKind.i64.wrap (x7 - (53 : Int))) fun x9 =>
      Let (IntKind.i64.wrap ((-1074 : Int) - x1.e_)) fun x10 =>
      Let (opMaxI x9 x10) fun x11 =>
      Join2 (fun j18 =>
        Br (decide (x11 > (0 : Int))) (
          Call (Ev_ulp_value_shifted x1 x11) fun x19 =>
          j18 x19.1 x19.2) (
          Let (IntKind.i64.wrap (0 - x11)) fun x21 =>
          Nn x21 <|
          Let (IntKind.u64.wrap (x1.lo_ * 2 ^ (min (Int.toNat x21) 64))) fun x22 =>
          Br x1.more_ (j18 x22 (1 : Int)) (
            j18 x22 (0 : Int)))
      ) (fun (x16 : Int) (x17 : Int) =>
        Join1 (fun j25 =>
          Br x1.neg_ (
            Let (IntKind.i64.wrap (0 - x4)) fun x26 =>
            j25 x26) (
            j25 x4)
        ) (fun (x24 : Int) =>
          Join1 (fun j30 =>
            Br (decide (x24 > (0 : Int))) (
              Br (decide (x17 > (0 : Int))) (j30 true) (
                Br (x24 == (0 : Int)) (
                  Br (x17 == (3 : Int)) (j30 true) (
                    Br (x17 == (2 : Int)) (
                      Let (bits .and .u64 x16 (1 : Int)) fun x31 =>
                      j30 (x31 == (1 : Int))) (
                      j30 false))) (
                  j30 false))) (
              Br (x24 == (0 : Int)) (
                Br (x17 == (3 : Int)) (j30 true) (
                  Br (x17 == (2 : Int)) (
                    Let (bits .and .u64 x16 (1 : Int)) fun x32 =>
                    j30 (x32 == (1 : Int))) (
                    j30 false))) (
                j30 false))
          ) (fun (x29 : Bool) =>
            Join1 (fun j35 =>
              Br x29 (
                Let (IntKind.u64.wrap (x16 + (1 : Int))) fun x36 =>
                j35 x36) (
                j35 x16)
            ) (fun (x34 : Int) =>
              Let (IntKind.i64.wrap (x1.e_ + x11)) fun x37 =>
              Call (Ev_ulp_value_made x1 x34 x37 x24) fun x38 =>
              Q x38))))))
theorem walk_ulp_value_round {x1 : Gulpvalue} {x2 : Int} {r : Nat} (h : W_ulp_value_round x1 x2 (fun r' => r' = r)) : Ev_ulp_value_round x1 x2 r := by
  unfold W_ulp_value_round at h
  refine AFn.intro' (L := [(0, .dat (Gulpvalue.enc x1)), (1, .dat (.v (.int .i64 x2)))]) tabOk Tryd.func49 rfl rfl Tryd.ntmps49 rfl rfl rfl ?_
  refine AWp.seq ?_
  refine AWp.regionN (fun _ => false) rfl ?_
  refine AOps.box (v := .dat (.st _ _)) rfl rfl rfl rfl rfl rfl ?_
  refine pF rfl rfl rfl ?_
  refine AOps.done ?_
  refine AWp.seq ?_
  refine AWp.regionN (fun _ => false) rfl ?_
  refine pI rfl rfl rfl ?_
  obtain ⟨x3, ex3, h⟩ := h.get
  refine AOps.i tabOk rfl rfl rfl ex3 ?_
  obtain ⟨x4, ex4, h⟩ := h.get
  refine AOps.i tabOk rfl rfl rfl ex4 ?_
  refine pI rfl rfl rfl ?_
  refine AOps.done ?_
  refine AWp.seq ?_
  refine AWp.seq ?_
  obtain ⟨J52, hj53, hk54⟩ := h
  refine AWp.cutK (I := fun p : Bool => mkSt [(1, .dat (.v (.int .i64 x4))), (2, .pt 2 [] 0), (23, .dat (.v (.bool p)))] [(2, .box 80 5 (.dat (Gulpvalue.enc x1)))]) (Inv := fun p : Bool => J52 p) ?_ (fun p hp => ?_)
  · have h := hj53
    refine AWp.regionN (fun _ => false) rfl ?_
    refine pP rfl rfl rfl ?_
    refine pI rfl rfl rfl ?_
    refine pB rfl rfl rfl ?_
    refine pB rfl rfl rfl ?_
    refine AOps.splitB 14 rfl (fun e => ?_) (fun e => ?_)
    · replace h := h.1 e
      refine pP rfl rfl rfl ?_
      refine pI rfl rfl rfl ?_
      refine pB rfl rfl rfl ?_
      refine pB rfl rfl rfl ?_
      refine pB rfl rfl rfl ?_
      refine AOps.splitB 19 rfl (fun e => ?_) (fun e => ?_)
      · replace h := h.1 e
        refine pP rfl rfl rfl ?_
        refine pB rfl rfl rfl ?_
        refine pB rfl rfl rfl ?_
        refine pB rfl rfl rfl ?_
        refine AOps.done ?_
        exact ⟨(!x1.more_), h, (Sub.list (fun i => i) rfl rfl ⟨rfl, rfl, rfl, trivial⟩ ⟨rfl, trivial⟩)⟩
      · replace h := h.2 e
        refine AOps.off rfl rfl ?_
        refine AOps.off rfl rfl ?_
        refine AOps.off rfl rfl ?_
        refine pB rfl rfl rfl ?_
        refine AOps.done ?_
        exact ⟨false, h, (Sub.list (fun i => i) rfl rfl ⟨rfl, rfl, rfl, trivial⟩ ⟨rfl, trivial⟩)⟩
    · replace h := h.2 e
      refine AOps.off rfl rfl ?_
      refine AOps.off rfl rfl ?_
      refine AOps.off rfl rfl ?_
      refine pB rfl rfl rfl ?_
      refine pB rfl rfl rfl ?_
      refine AOps.off rfl rfl ?_
      refine AOps.off rfl rfl ?_
      refine AOps.off rfl rfl ?_
      refine pB rfl rfl rfl ?_
      refine AOps.done ?_
      exact ⟨false, h, (Sub.list (fun i => i) rfl rfl ⟨rfl, rfl, rfl, trivial⟩ ⟨rfl, trivial⟩)⟩
  · have h := hk54 p hp
    revert h; clear hp; generalize p = x5; intro h
    refine AWp.cond rfl (fun e => ?_) (fun e => ?_)
    · replace h := h.1 e
      refine AWp.seq ?_
      refine AWp.regionN (fun _ => false) rfl ?_
      refine pF rfl rfl rfl ?_
      refine AOps.done ?_
      refine AWp.ret ?_
      subst h
      exact ⟨_, rfl, rfl⟩
    · replace h := h.2 e
      refine AWp.skip ?_
      refine AWp.seq ?_
      refine AWp.regionD (fun _ => false) mixed (by decide +kernel) rfl ?_
      refine pT rfl rfl rfl ?_
      obtain ⟨x7, hc8, h⟩ := h
      refine AOps.call hc8 rfl rfl rfl ⟨.inl rfl, trivial⟩ ?_
      obtain ⟨x9, ex9, h⟩ := h.get
      refine AOps.i tabOk rfl rfl rfl ex9 ?_
      refine pP rfl rfl rfl ?_
      refine pI rfl rfl rfl ?_
      obtain ⟨x10, ex10, h⟩ := h.get
      refine AOps.i tabOk rfl rfl rfl ex10 ?_
      obtain ⟨x11, ex11, h⟩ := h.get
      refine AOps.i tabOk rfl rfl rfl ex11 ?_
      refine pI rfl rfl rfl ?_
      refine AOps.done ?_
      refine AWp.seq ?_
      refine AWp.regionN (fun _ => false) rfl ?_
      refine pI rfl rfl rfl ?_
      refine AOps.done ?_
      refine AWp.seq ?_
      refine AWp.regionN (fun _ => false) rfl ?_
      refine pI rfl rfl rfl ?_
      refine AOps.done ?_
      refine AWp.seq ?_
      refine AWp.seq ?_
      refine AWp.regionN (fun _ => false) rfl ?_
      refine pI rfl rfl rfl ?_
      refine pB rfl rfl rfl ?_
      refine AOps.done ?_
      obtain ⟨J49, hj50, hk51⟩ := h
      refine AWp.cutK (I := fun p : Int × Int => mkSt [(1, .dat (.v (.int .i64 x4))), (2, .pt 2 [] 0), (5, .dat (.v (.int .i64 x11))), (6, .dat (.v (.int .u64 p.1))), (7, .dat (.v (.int .i64 p.2)))] [(2, .box 80 5 (.dat (Gulpvalue.enc x1)))]) (Inv := fun p : Int × Int => J49 p.1 p.2) ?_ (fun p hp => ?_)
      · have h := hj50
        refine AWp.cond rfl (fun e => ?_) (fun e => ?_)
        · replace h := h.1 e
          refine AWp.regionN (fun _ => false) rfl ?_
          refine pT rfl rfl rfl ?_
          refine pI rfl rfl rfl ?_
          obtain ⟨x19, hc20, h⟩ := h
          refine AOps.call hc20 rfl rfl rfl ⟨.inl rfl, .inl rfl, trivial⟩ ?_
          refine pU rfl rfl rfl ?_
          refine pI rfl rfl rfl ?_
          refine pI rfl rfl rfl ?_
          refine pI rfl rfl rfl ?_
          refine pI rfl rfl rfl ?_
          refine AOps.done ?_
          exact ⟨⟨x19.1, x19.2⟩, h, (Sub.list (fun i => i) rfl rfl ⟨rfl, rfl, rfl, rfl, rfl, trivial⟩ ⟨rfl, trivial⟩)⟩
        · replace h := h.2 e
          refine AWp.seq ?_
          refine AWp.regionN (fun _ => false) rfl ?_
          refine pP rfl rfl rfl ?_
          refine pI rfl rfl rfl ?_
          refine pI rfl rfl rfl ?_
          obtain ⟨x21, ex21, h⟩ := h.get
          refine AOps.i tabOk rfl rfl rfl ex21 ?_
          obtain ⟨hq, h⟩ := h
          obtain ⟨x22, ex22, h⟩ := h.get
          refine AOps.q rfl rfl rfl rfl rfl (rbin_shl hq) ex22 ?_
          refine pI rfl rfl rfl ?_
          refine AOps.done ?_
          refine AWp.seq ?_
          refine AWp.regionN (fun _ => false) rfl ?_
          refine pP rfl rfl rfl ?_
          refine pB rfl rfl rfl ?_
          refine AOps.done ?_
          refine AWp.cond rfl (fun e => ?_) (fun e => ?_)
          · replace h := h.1 e
            refine AWp.regionN (fun _ => false) rfl ?_
            refine pI rfl rfl rfl ?_
            refine AOps.done ?_
            exact ⟨⟨x22, (1 : Int)⟩, h, (Sub.list (fun i => i) rfl rfl ⟨rfl, rfl, rfl, rfl, rfl, trivial⟩ ⟨rfl, trivial⟩)⟩
          · replace h := h.2 e
            refine AWp.skip ?_
            exact ⟨⟨x22, (0 : Int)⟩, h, (Sub.list (fun i => i) rfl rfl ⟨rfl, rfl, rfl, rfl, rfl, trivial⟩ ⟨rfl, trivial⟩)⟩
      · obtain ⟨x16, x17⟩ := p
        have h := hk51 x16 x17 hp
        refine AWp.seq ?_
        refine AWp.seq ?_
        refine AWp.regionN (fun _ => false) rfl ?_
        refine pP rfl rfl rfl ?_
        refine pB rfl rfl rfl ?_
        refine AOps.done ?_
        obtain ⟨J46, hj47, hk48⟩ := h
        refine AWp.cutK (I := fun p : Int => mkSt [(1, .dat (.v (.int .i64 p))), (2, .pt 2 [] 0), (5, .dat (.v (.int .i64 x11))), (6, .dat (.v (.int .u64 x16))), (7, .dat (.v (.int .i64 x17)))] [(2, .box 80 5 (.dat (Gulpvalue.enc x1)))]) (Inv := fun p : Int => J46 p) ?_ (fun p hp => ?_)
        · have h := hj47
          refine AWp.cond rfl (fun e => ?_) (fun e => ?_)
          · replace h := h.1 e
            refine AWp.regionN (fun _ => false) rfl ?_
            refine pI rfl rfl rfl ?_
            obtain ⟨x26, ex26, h⟩ := h.get
            refine AOps.i tabOk rfl rfl rfl ex26 ?_
            refine pI rfl rfl rfl ?_
            refine AOps.done ?_
            exact ⟨x26, h, (Sub.list (fun i => i) rfl rfl ⟨rfl, rfl, rfl, rfl, rfl, trivial⟩ ⟨rfl, trivial⟩)⟩
          · replace h := h.2 e
            refine AWp.skip ?_
            exact ⟨x4, h, (Sub.list (fun i => i) rfl rfl ⟨rfl, rfl, rfl, rfl, rfl, trivial⟩ ⟨rfl, trivial⟩)⟩
        · have h := hk48 p hp
          revert h; clear hp; generalize p = x24; intro h
          refine AWp.seq ?_
          refine AWp.seq ?_
          obtain ⟨J43, hj44, hk45⟩ := h
          refine AWp.cutK (I := fun p : Bool => mkSt [(1, .dat (.v (.int .i64 x24))), (2, .pt 2 [] 0), (5, .dat (.v (.int .i64 x11))), (6, .dat (.v (.int .u64 x16))), (72, .dat (.v (.bool p)))] [(2, .box 80 5 (.dat (Gulpvalue.enc x1)))]) (Inv := fun p : Bool => J43 p) ?_ (fun p hp => ?_)
          · have h := hj44
            refine AWp.regionN (fun _ => false) rfl ?_
            refine pI rfl rfl rfl ?_
            refine pB rfl rfl rfl ?_
            refine pB rfl rfl rfl ?_
            refine AOps.splitB 52 rfl (fun e => ?_) (fun e => ?_)
            · replace h := h.1 e
              refine pI rfl rfl rfl ?_
              refine pB rfl rfl rfl ?_
              refine pB rfl rfl rfl ?_
              refine pB rfl rfl rfl ?_
              refine AOps.splitB 56 rfl (fun e => ?_) (fun e => ?_)
              · replace h := h.1 e
                refine AOps.off rfl rfl ?_
                refine AOps.off rfl rfl ?_
                refine AOps.off rfl rfl ?_
                refine AOps.off rfl rfl ?_
                refine AOps.off rfl rfl ?_
                refine AOps.off rfl rfl ?_
                refine AOps.off rfl rfl ?_
                refine AOps.off rfl rfl ?_
                refine AOps.off rfl rfl ?_
                refine AOps.off rfl rfl ?_
                refine AOps.off rfl rfl ?_
                refine AOps.off rfl rfl ?_
                refine AOps.off rfl rfl ?_
                refine AOps.off rfl rfl ?_
                refine AOps.off rfl rfl ?_
                refine pB rfl rfl rfl ?_
                refine AOps.done ?_
                exact ⟨true, h, (Sub.list (fun i => i) rfl rfl ⟨rfl, rfl, rfl, rfl, rfl, trivial⟩ ⟨rfl, trivial⟩)⟩
              · replace h := h.2 e
                refine pI rfl rfl rfl ?_
                refine pB rfl rfl rfl ?_
                refine pB rfl rfl rfl ?_
                refine AOps.splitB 59 rfl (fun e => ?_) (fun e => ?_)
                · replace h := h.1 e
                  refine pI rfl rfl rfl ?_
                  refine pB rfl rfl rfl ?_
                  refine pB rfl rfl rfl ?_
                  refine AOps.splitB 62 rfl (fun e => ?_) (fun e => ?_)
                  · replace h := h.1 e
                    refine AOps.off rfl rfl ?_
                    refine AOps.off rfl rfl ?_
                    refine AOps.off rfl rfl ?_
                    refine AOps.off rfl rfl ?_
                    refine AOps.off rfl rfl ?_
                    refine AOps.off rfl rfl ?_
                    refine AOps.off rfl rfl ?_
                    refine pB rfl rfl rfl ?_
                    refine pB rfl rfl rfl ?_
                    refine pB rfl rfl rfl ?_
                    refine AOps.done ?_
                    exact ⟨true, h, (Sub.list (fun i => i) rfl rfl ⟨rfl, rfl, rfl, rfl, rfl, trivial⟩ ⟨rfl, trivial⟩)⟩
                  · replace h := h.2 e
                    refine pI rfl rfl rfl ?_
                    refine pB rfl rfl rfl ?_
                    refine pB rfl rfl rfl ?_
                    refine AOps.splitB 65 rfl (fun e => ?_) (fun e => ?_)
                    · replace h := h.1 e
                      refine pI rfl rfl rfl ?_
                      obtain ⟨x31, ex31, h⟩ := h.get
                      refine AOps.i tabOk rfl rfl rfl ex31 ?_
                      refine pB rfl rfl rfl ?_
                      refine pB rfl rfl rfl ?_
                      refine pB rfl rfl rfl ?_
                      refine pB rfl rfl rfl ?_
                      refine pB rfl rfl rfl ?_
                      refine AOps.done ?_
                      exact ⟨(x31 == (1 : Int)), h, (Sub.list (fun i => i) rfl rfl ⟨rfl, rfl, rfl, rfl, rfl, trivial⟩ ⟨rfl, trivial⟩)⟩
                    · replace h := h.2 e
                      refine AOps.off rfl rfl ?_
                      refine AOps.off rfl rfl ?_
                      refine AOps.off rfl rfl ?_
                      refine pB rfl rfl rfl ?_
                      refine pB rfl rfl rfl ?_
                      refine pB rfl rfl rfl ?_
                      refine pB rfl rfl rfl ?_
                      refine AOps.done ?_
                      exact ⟨false, h, (Sub.list (fun i => i) rfl rfl ⟨rfl, rfl, rfl, rfl, rfl, trivial⟩ ⟨rfl, trivial⟩)⟩
                · replace h := h.2 e
                  refine AOps.off rfl rfl ?_
                  refine AOps.off rfl rfl ?_
                  refine AOps.off rfl rfl ?_
                  refine AOps.off rfl rfl ?_
                  refine AOps.off rfl rfl ?_
                  refine AOps.off rfl rfl ?_
                  refine AOps.off rfl rfl ?_
                  refine AOps.off rfl rfl ?_
                  refine AOps.off rfl rfl ?_
                  refine AOps.off rfl rfl ?_
                  refine AOps.off rfl rfl ?_
                  refine pB rfl rfl rfl ?_
                  refine pB rfl rfl rfl ?_
                  refine AOps.done ?_
                  exact ⟨false, h, (Sub.list (fun i => i) rfl rfl ⟨rfl, rfl, rfl, rfl, rfl, trivial⟩ ⟨rfl, trivial⟩)⟩
            · replace h := h.2 e
              refine AOps.off rfl rfl ?_
              refine AOps.off rfl rfl ?_
              refine pB rfl rfl rfl ?_
              refine pB rfl rfl rfl ?_
              refine pI rfl rfl rfl ?_
              refine pB rfl rfl rfl ?_
              refine pB rfl rfl rfl ?_
              refine AOps.splitB 59 rfl (fun e => ?_) (fun e => ?_)
              · replace h := h.1 e
                refine pI rfl rfl rfl ?_
                refine pB rfl rfl rfl ?_
                refine pB rfl rfl rfl ?_
                refine AOps.splitB 62 rfl (fun e => ?_) (fun e => ?_)
                · replace h := h.1 e
                  refine AOps.off rfl rfl ?_
                  refine AOps.off rfl rfl ?_
                  refine AOps.off rfl rfl ?_
                  refine AOps.off rfl rfl ?_
                  refine AOps.off rfl rfl ?_
                  refine AOps.off rfl rfl ?_
                  refine AOps.off rfl rfl ?_
                  refine pB rfl rfl rfl ?_
                  refine pB rfl rfl rfl ?_
                  refine pB rfl rfl rfl ?_
                  refine AOps.done ?_
                  exact ⟨true, h, (Sub.list (fun i => i) rfl rfl ⟨rfl, rfl, rfl, rfl, rfl, trivial⟩ ⟨rfl, trivial⟩)⟩
                · replace h := h.2 e
                  refine pI rfl rfl rfl ?_
                  refine pB rfl rfl rfl ?_
                  refine pB rfl rfl rfl ?_
                  refine AOps.splitB 65 rfl (fun e => ?_) (fun e => ?_)
                  · replace h := h.1 e
                    refine pI rfl rfl rfl ?_
                    obtain ⟨x32, ex32, h⟩ := h.get
                    refine AOps.i tabOk rfl rfl rfl ex32 ?_
                    refine pB rfl rfl rfl ?_
                    refine pB rfl rfl rfl ?_
                    refine pB rfl rfl rfl ?_
                    refine pB rfl rfl rfl ?_
                    refine pB rfl rfl rfl ?_
                    refine AOps.done ?_
                    exact ⟨(x32 == (1 : Int)), h, (Sub.list (fun i => i) rfl rfl ⟨rfl, rfl, rfl, rfl, rfl, trivial⟩ ⟨rfl, trivial⟩)⟩
                  · replace h := h.2 e
                    refine AOps.off rfl rfl ?_
                    refine AOps.off rfl rfl ?_
                    refine AOps.off rfl rfl ?_
                    refine pB rfl rfl rfl ?_
                    refine pB rfl rfl rfl ?_
                    refine pB rfl rfl rfl ?_
                    refine pB rfl rfl rfl ?_
                    refine AOps.done ?_
                    exact ⟨false, h, (Sub.list (fun i => i) rfl rfl ⟨rfl, rfl, rfl, rfl, rfl, trivial⟩ ⟨rfl, trivial⟩)⟩
              · replace h := h.2 e
                refine AOps.off rfl rfl ?_
                refine AOps.off rfl rfl ?_
                refine AOps.off rfl rfl ?_
                refine AOps.off rfl rfl ?_
                refine AOps.off rfl rfl ?_
                refine AOps.off rfl rfl ?_
                refine AOps.off rfl rfl ?_
                refine AOps.off rfl rfl ?_
                refine AOps.off rfl rfl ?_
                refine AOps.off rfl rfl ?_
                refine AOps.off rfl rfl ?_
                refine pB rfl rfl rfl ?_
                refine pB rfl rfl rfl ?_
                refine AOps.done ?_
                exact ⟨false, h, (Sub.list (fun i => i) rfl rfl ⟨rfl, rfl, rfl, rfl, rfl, trivial⟩ ⟨rfl, trivial⟩)⟩
          · have h := hk45 p hp
            revert h; clear hp; generalize p = x29; intro h
            obtain ⟨J40, hj41, hk42⟩ := h
            refine AWp.cutK (I := fun p : Int => mkSt [(1, .dat (.v (.int .i64 x24))), (2, .pt 2 [] 0), (5, .dat (.v (.int .i64 x11))), (6, .dat (.v (.int .u64 p)))] [(2, .box 80 5 (.dat (Gulpvalue.enc x1)))]) (Inv := fun p : Int => J40 p) ?_ (fun p hp => ?_)
            · have h := hj41
              refine AWp.cond rfl (fun e => ?_) (fun e => ?_)
              · replace h := h.1 e
                refine AWp.regionN (fun _ => false) rfl ?_
                refine pI rfl rfl rfl ?_
                obtain ⟨x36, ex36, h⟩ := h.get
                refine AOps.i tabOk rfl rfl rfl ex36 ?_
                refine pI rfl rfl rfl ?_
                refine AOps.done ?_
                exact ⟨x36, h, (Sub.list (fun i => i) rfl rfl ⟨rfl, rfl, rfl, rfl, trivial⟩ ⟨rfl, trivial⟩)⟩
              · replace h := h.2 e
                refine AWp.skip ?_
                exact ⟨x16, h, (Sub.list (fun i => i) rfl rfl ⟨rfl, rfl, rfl, rfl, trivial⟩ ⟨rfl, trivial⟩)⟩
            · have h := hk42 p hp
              revert h; clear hp; generalize p = x34; intro h
              refine AWp.seq ?_
              refine AWp.regionN (fun _ => false) rfl ?_
              refine pT rfl rfl rfl ?_
              refine pI rfl rfl rfl ?_
              refine pP rfl rfl rfl ?_
              refine pI rfl rfl rfl ?_
              refine pI rfl rfl rfl ?_
              obtain ⟨x37, ex37, h⟩ := h.get
              refine AOps.i tabOk rfl rfl rfl ex37 ?_
              refine pI rfl rfl rfl ?_
              obtain ⟨x38, hc39, h⟩ := h
              refine AOps.call hc39 rfl rfl rfl ⟨.inl rfl, .inl rfl, .inl rfl, .inl rfl, trivial⟩ ?_
              refine pF rfl rfl rfl ?_
              refine AOps.done ?_
              refine AWp.ret ?_
              subst h
              exact ⟨_, rfl, rfl⟩
def W_ulp_value_len (v1 : Gulpvalue) (Q : Int → Prop) : Prop :=
  Br (decide (v1.hi_ > (0 : Int))) (
    Call (Ev_math_bits_Len64 v1.hi_) fun x5 =>
    Let (IntKind.i64.wrap ((64 : Int) + x5)) fun x7 =>
    Q x7) (
    Call (Ev_math_bits_Len64 v1.lo_) fun x8 =>
    Q x8)
theorem walk_ulp_value_len {v1 : Gulpvalue} {r : Int} (h : W_ulp_value_len v1 (fun r' => r' = r)) : Ev_ulp_value_len v1 r := by
  unfold W_ulp_value_len at h
  refine AFn.intro' (L := [(0, .dat (Gulpvalue.enc v1))]) tabOk Tryd.func83 rfl rfl Tryd.ntmps83 rfl rfl rfl ?_
  refine AWp.seq ?_
  refine AWp.regionN (fun _ => false) rfl ?_
  refine AOps.box (v := .dat (.st _ _)) rfl rfl rfl rfl rfl rfl ?_
  refine pI rfl rfl rfl ?_
  refine AOps.done ?_
  refine AWp.seq ?_
  refine AWp.seq ?_
  refine AWp.regionN (fun _ => false) rfl ?_
  refine pP rfl rfl rfl ?_
  refine pI rfl rfl rfl ?_
  refine pB rfl rfl rfl ?_
  refine AOps.done ?_
  refine AWp.cond rfl (fun e => ?_) (fun e => ?_)
  · replace h := h.1 e
    refine AWp.seq ?_
    refine AWp.regionN (fun _ => false) rfl ?_
    refine pP rfl rfl rfl ?_
    refine pI rfl rfl rfl ?_
    obtain ⟨x5, hc6, h⟩ := h
    refine AOps.call hc6 rfl rfl rfl ⟨.inl rfl, trivial⟩ ?_
    obtain ⟨x7, ex7, h⟩ := h.get
    refine AOps.i tabOk rfl rfl rfl ex7 ?_
    refine pI rfl rfl rfl ?_
    refine AOps.done ?_
    refine AWp.ret ?_
    subst h
    exact ⟨_, rfl, rfl⟩
  · replace h := h.2 e
    refine AWp.skip ?_
    refine AWp.seq ?_
    refine AWp.regionN (fun _ => false) rfl ?_
    refine pP rfl rfl rfl ?_
    refine pI rfl rfl rfl ?_
    obtain ⟨x8, hc9, h⟩ := h
    refine AOps.call hc9 rfl rfl rfl ⟨.inl rfl, trivial⟩ ?_
    refine pI rfl rfl rfl ?_
    refine AOps.done ?_
    refine AWp.ret ?_
    subst h
    exact ⟨_, rfl, rfl⟩
def W_ulp_value_shifted (v1 : Gulpvalue) (n2 : Int) (Q : Int × Int → Prop) : Prop :=
  Br (decide (n2 > (128 : Int))) (Q ((0 : Int), (1 : Int))) (
    Call (Ev_ulp_value_right ({ Gulpvalue.zero with hi_ := v1.hi_, lo_ := v1.lo_ }) n2) fun x3 =>
    Let (IntKind.i64.wrap (n2 - (1 : Int))) fun x5 =>
    Call (Ev_ulp_value_right ({ Gulpvalue.zero with hi_ := v1.hi_, lo_ := v1.lo_ }) x5) fun x6 =>
    Let (bits .and .u64 x6 (1 : Int)) fun x8 =>
    Join1 (fun j13 =>
      Br v1.more_ (j13 true) (
        Br (decide (n2 ≥ (2 : Int))) (
          Let (IntKind.i64.wrap (n2 - (1 : Int))) fun x14 =>
          Call (Ev_ulp_value_even ({ Gulpvalue.zero with hi_ := v1.hi_, lo_ := v1.lo_ }) x14) fun x15 =>
          j13 (!x15)) (
          j13 false))
    ) (fun (rest12 : Bool) =>
      Join1 (fun j23 =>
        Br (x8 == (1 : Int)) (j23 rest12) (
          j23 false)
      ) (fun (x22 : Bool) =>
        Br x22 (Q (x3, (3 : Int))) (
          Br (x8 == (1 : Int)) (Q (x3, (2 : Int))) (
            Br rest12 (Q (x3, (1 : Int))) (
              Q (x3, (0 : Int))))))))
theorem walk_ulp_value_shifted {v1 : Gulpvalue} {n2 : Int} {r : Int × Int} (h : W_ulp_value_shifted v1 n2 (fun r' => r' = r)) : Ev_ulp_value_shifted v1 n2 r := by
  unfold W_ulp_value_shifted at h
  refine AFn.intro' (L := [(0, .dat (Gulpvalue.enc v1)), (1, .dat (.v (.int .i64 n2)))]) tabOk Tryd.func84 rfl rfl Tryd.ntmps84 rfl rfl rfl ?_
  refine AWp.seq ?_
  refine AWp.regionN (fun _ => false) rfl ?_
  refine AOps.box (v := .dat (.st _ _)) rfl rfl rfl rfl rfl rfl ?_
  refine pI rfl rfl rfl ?_
  refine pI rfl rfl rfl ?_
  refine AOps.done ?_
  refine AWp.seq ?_
  refine AWp.seq ?_
  refine AWp.regionN (fun _ => false) rfl ?_
  refine pI rfl rfl rfl ?_
  refine pB rfl rfl rfl ?_
  refine AOps.done ?_
  refine AWp.cond rfl (fun e => ?_) (fun e => ?_)
  · replace h := h.1 e
    refine AWp.seq ?_
    refine AWp.regionN (fun _ => false) rfl ?_
    refine pI rfl rfl rfl ?_
    refine pI rfl rfl rfl ?_
    refine AOps.done ?_
    refine AWp.ret ?_
    subst h
    exact ⟨_, rfl, rfl⟩
  · replace h := h.2 e
    refine AWp.skip ?_
    refine AWp.seq ?_
    refine AWp.regionN (fun o => writes o) rfl ?_
    refine pP rfl rfl rfl ?_
    refine pI rfl rfl rfl ?_
    refine pP rfl rfl rfl ?_
    refine pI rfl rfl rfl ?_
    refine pT rfl rfl rfl ?_
    refine AOps.alloc tabOk rfl rfl rfl rfl rfl ?_
    refine AOps.store tabOk (v := .dat (.st _ _)) rfl rfl rfl rfl rfl rfl rfl rfl rfl rfl rfl rfl rfl ?_
    refine AOps.done ?_
    refine AWp.seq ?_
    refine AWp.regionN (fun _ => false) rfl ?_
    refine pT rfl rfl rfl ?_
    refine pI rfl rfl rfl ?_
    obtain ⟨x3, hc4, h⟩ := h
    refine AOps.call hc4 rfl rfl rfl ⟨.inl rfl, .inl rfl, trivial⟩ ?_
    refine pI rfl rfl rfl ?_
    refine AOps.done ?_
    refine AWp.seq ?_
    refine AWp.regionN (fun _ => false) rfl ?_
    refine pT rfl rfl rfl ?_
    refine pI rfl rfl rfl ?_
    obtain ⟨x5, ex5, h⟩ := h.get
    refine AOps.i tabOk rfl rfl rfl ex5 ?_
    obtain ⟨x6, hc7, h⟩ := h
    refine AOps.call hc7 rfl rfl rfl ⟨.inl rfl, .inl rfl, trivial⟩ ?_
    obtain ⟨x8, ex8, h⟩ := h.get
    refine AOps.i tabOk rfl rfl rfl ex8 ?_
    refine pI rfl rfl rfl ?_
    refine AOps.done ?_
    refine AWp.seq ?_
    obtain ⟨J27, hj28, hk29⟩ := h
    refine AWp.cutK (I := fun p : Bool => mkSt [(7, .dat (.v (.int .u64 x3))), (8, .dat (.v (.int .u64 x8))), (9, .dat (.v (.bool p)))] []) (Inv := fun p : Bool => J27 p) ?_ (fun p hp => ?_)
    · have h := hj28
      refine AWp.regionN (fun _ => false) rfl ?_
      refine pP rfl rfl rfl ?_
      refine pB rfl rfl rfl ?_
      refine pB rfl rfl rfl ?_
      refine AOps.splitB 27 rfl (fun e => ?_) (fun e => ?_)
      · replace h := h.1 e
        refine AOps.off rfl rfl ?_
        refine AOps.off rfl rfl ?_
        refine AOps.off rfl rfl ?_
        refine AOps.off rfl rfl ?_
        refine AOps.off rfl rfl ?_
        refine AOps.off rfl rfl ?_
        refine AOps.off rfl rfl ?_
        refine AOps.off rfl rfl ?_
        refine AOps.off rfl rfl ?_
        refine pB rfl rfl rfl ?_
        refine pB rfl rfl rfl ?_
        refine AOps.done ?_
        exact ⟨true, h, (Sub.list (fun i => i) rfl rfl ⟨rfl, rfl, rfl, trivial⟩ trivial)⟩
      · replace h := h.2 e
        refine pI rfl rfl rfl ?_
        refine pB rfl rfl rfl ?_
        refine pB rfl rfl rfl ?_
        refine AOps.splitB 30 rfl (fun e => ?_) (fun e => ?_)
        · replace h := h.1 e
          refine pT rfl rfl rfl ?_
          refine pI rfl rfl rfl ?_
          obtain ⟨x14, ex14, h⟩ := h.get
          refine AOps.i tabOk rfl rfl rfl ex14 ?_
          obtain ⟨x15, hc16, h⟩ := h
          refine AOps.call hc16 rfl rfl rfl ⟨.inl rfl, .inl rfl, trivial⟩ ?_
          refine pB rfl rfl rfl ?_
          refine pB rfl rfl rfl ?_
          refine pB rfl rfl rfl ?_
          refine pB rfl rfl rfl ?_
          refine AOps.done ?_
          exact ⟨(!x15), h, (Sub.list (fun i => i) rfl rfl ⟨rfl, rfl, rfl, trivial⟩ trivial)⟩
        · replace h := h.2 e
          refine AOps.off rfl rfl ?_
          refine AOps.off rfl rfl ?_
          refine AOps.off rfl rfl ?_
          refine AOps.off rfl rfl ?_
          refine AOps.off rfl rfl ?_
          refine pB rfl rfl rfl ?_
          refine pB rfl rfl rfl ?_
          refine pB rfl rfl rfl ?_
          refine AOps.done ?_
          exact ⟨false, h, (Sub.list (fun i => i) rfl rfl ⟨rfl, rfl, rfl, trivial⟩ trivial)⟩
    · have h := hk29 p hp
      revert h; clear hp; generalize p = rest12; intro h
      refine AWp.seq ?_
      refine AWp.block ?_
      refine AWp.seq ?_
      obtain ⟨J24, hj25, hk26⟩ := h
      refine AWp.cutK (I := fun p : Bool => mkSt [(7, .dat (.v (.int .u64 x3))), (8, .dat (.v (.int .u64 x8))), (9, .dat (.v (.bool rest12))), (38, .dat (.v (.bool p)))] []) (Inv := fun p : Bool => J24 p) ?_ (fun p hp => ?_)
      · have h := hj25
        refine AWp.regionN (fun _ => false) rfl ?_
        refine pI rfl rfl rfl ?_
        refine pB rfl rfl rfl ?_
        refine pB rfl rfl rfl ?_
        refine AOps.splitB 41 rfl (fun e => ?_) (fun e => ?_)
        · replace h := h.1 e
          refine pB rfl rfl rfl ?_
          refine pB rfl rfl rfl ?_
          refine pB rfl rfl rfl ?_
          refine AOps.done ?_
          exact ⟨rest12, h, (Sub.list (fun i => i) rfl rfl ⟨rfl, rfl, rfl, rfl, trivial⟩ trivial)⟩
        · replace h := h.2 e
          refine AOps.off rfl rfl ?_
          refine pB rfl rfl rfl ?_
          refine pB rfl rfl rfl ?_
          refine AOps.done ?_
          exact ⟨false, h, (Sub.list (fun i => i) rfl rfl ⟨rfl, rfl, rfl, rfl, trivial⟩ trivial)⟩
      · have h := hk26 p hp
        revert h; clear hp; generalize p = x22; intro h
        refine AWp.cond rfl (fun e => ?_) (fun e => ?_)
        · replace h := h.1 e
          refine AWp.seq ?_
          refine AWp.regionN (fun _ => false) rfl ?_
          refine pI rfl rfl rfl ?_
          refine pI rfl rfl rfl ?_
          refine pI rfl rfl rfl ?_
          refine AOps.done ?_
          refine AWp.ret ?_
          subst h
          exact ⟨_, rfl, rfl⟩
        · replace h := h.2 e
          refine AWp.seq ?_
          refine AWp.regionN (fun _ => false) rfl ?_
          refine pI rfl rfl rfl ?_
          refine pB rfl rfl rfl ?_
          refine pB rfl rfl rfl ?_
          refine AOps.done ?_
          refine AWp.cond rfl (fun e => ?_) (fun e => ?_)
          · replace h := h.1 e
            refine AWp.seq ?_
            refine AWp.regionN (fun _ => false) rfl ?_
            refine pI rfl rfl rfl ?_
            refine pI rfl rfl rfl ?_
            refine pI rfl rfl rfl ?_
            refine AOps.done ?_
            refine AWp.ret ?_
            subst h
            exact ⟨_, rfl, rfl⟩
          · replace h := h.2 e
            refine AWp.seq ?_
            refine AWp.regionN (fun _ => false) rfl ?_
            refine pB rfl rfl rfl ?_
            refine pB rfl rfl rfl ?_
            refine AOps.done ?_
            refine AWp.cond rfl (fun e => ?_) (fun e => ?_)
            · replace h := h.1 e
              refine AWp.seq ?_
              refine AWp.regionN (fun _ => false) rfl ?_
              refine pI rfl rfl rfl ?_
              refine pI rfl rfl rfl ?_
              refine pI rfl rfl rfl ?_
              refine AOps.done ?_
              refine AWp.ret ?_
              subst h
              exact ⟨_, rfl, rfl⟩
            · replace h := h.2 e
              refine AWp.skip ?_
              refine AWp.seq ?_
              refine AWp.regionN (fun _ => false) rfl ?_
              refine pI rfl rfl rfl ?_
              refine pI rfl rfl rfl ?_
              refine pI rfl rfl rfl ?_
              refine AOps.done ?_
              refine AWp.ret ?_
              subst h
              exact ⟨_, rfl, rfl⟩
def W_ulp_value_made (v1 : Gulpvalue) (q2 : Int) (e3 : Int) (dir4 : Int) (Q : Nat → Prop) : Prop :=
  Br (q2 == (0 : Int)) (Q (0 : Nat)) (
    Call (Ev_math_bits_Len64 q2) fun x5 =>
    Let (IntKind.i64.wrap (x5 + e3)) fun x7 =>
    Join1 (fun j14 =>
      Br (decide (x7 ≤ (1024 : Int))) (
        Let (FloatKind.f64.nearest q2) fun x15 =>
        Call (Ev_math_Ldexp x15 e3) fun x16 =>
        j14 x16) (
        Br (decide (dir4 ≥ (0 : Int))) (
          Call (Ev_math_Inf (1 : Int)) fun x18 =>
          j14 x18) (
          j14 (9218868437227405311 : Nat)))
    ) (fun (x13 : Nat) =>
      Br v1.neg_ (
        Let (Op.negFloat .f64 x13) fun x21 =>
        Q x21) (
        Q x13)))
theorem walk_ulp_value_made {v1 : Gulpvalue} {q2 : Int} {e3 : Int} {dir4 : Int} {r : Nat} (h : W_ulp_value_made v1 q2 e3 dir4 (fun r' => r' = r)) : Ev_ulp_value_made v1 q2 e3 dir4 r := by
  unfold W_ulp_value_made at h
  refine AFn.intro' (L := [(0, .dat (Gulpvalue.enc v1)), (1, .dat (.v (.int .u64 q2))), (2, .dat (.v (.int .i64 e3))), (3, .dat (.v (.int .i64 dir4)))]) tabOk Tryd.func85 rfl rfl Tryd.ntmps85 rfl rfl rfl ?_
  refine AWp.seq ?_
  refine AWp.regionN (fun _ => false) rfl ?_
  refine AOps.box (v := .dat (.st _ _)) rfl rfl rfl rfl rfl rfl ?_
  refine pF rfl rfl rfl ?_
  refine AOps.done ?_
  refine AWp.seq ?_
  refine AWp.regionN (fun _ => false) rfl ?_
  refine pF rfl rfl rfl ?_
  refine AOps.done ?_
  refine AWp.seq ?_
  refine AWp.seq ?_
  refine AWp.regionN (fun _ => false) rfl ?_
  refine pI rfl rfl rfl ?_
  refine pB rfl rfl rfl ?_
  refine AOps.done ?_
  refine AWp.cond rfl (fun e => ?_) (fun e => ?_)
  · replace h := h.1 e
    refine AWp.seq ?_
    refine AWp.regionN (fun _ => false) rfl ?_
    refine pF rfl rfl rfl ?_
    refine AOps.done ?_
    refine AWp.ret ?_
    subst h
    exact ⟨_, rfl, rfl⟩
  · replace h := h.2 e
    refine AWp.skip ?_
    refine AWp.seq ?_
    refine AWp.seq ?_
    refine AWp.regionN (fun _ => false) rfl ?_
    refine pI rfl rfl rfl ?_
    obtain ⟨x5, hc6, h⟩ := h
    refine AOps.call hc6 rfl rfl rfl ⟨.inl rfl, trivial⟩ ?_
    refine pI rfl rfl rfl ?_
    obtain ⟨x7, ex7, h⟩ := h.get
    refine AOps.i tabOk rfl rfl rfl ex7 ?_
    refine pB rfl rfl rfl ?_
    refine AOps.done ?_
    obtain ⟨J22, hj23, hk24⟩ := h
    refine AWp.cutK (I := fun p : Nat => mkSt [(4, .pt 4 [] 0), (9, .dat (.v (.float .f64 p)))] [(4, .box 80 5 (.dat (Gulpvalue.enc v1)))]) (Inv := fun p : Nat => J22 p) ?_ (fun p hp => ?_)
    · have h := hj23
      refine AWp.cond rfl (fun e => ?_) (fun e => ?_)
      · replace h := h.1 e
        refine AWp.regionN (fun _ => false) rfl ?_
        refine pI rfl rfl rfl ?_
        obtain ⟨x15, ex15, h⟩ := h.get
        refine AOps.fl tabOk rfl rfl rfl ex15 ?_
        refine pI rfl rfl rfl ?_
        obtain ⟨x16, hc17, h⟩ := h
        refine AOps.call hc17 rfl rfl rfl ⟨.inl rfl, .inl rfl, trivial⟩ ?_
        refine pF rfl rfl rfl ?_
        refine AOps.done ?_
        exact ⟨x16, h, (Sub.list (fun i => i) rfl rfl ⟨rfl, rfl, trivial⟩ ⟨rfl, trivial⟩)⟩
      · replace h := h.2 e
        refine AWp.seq ?_
        refine AWp.regionN (fun _ => false) rfl ?_
        refine pI rfl rfl rfl ?_
        refine pB rfl rfl rfl ?_
        refine AOps.done ?_
        refine AWp.cond rfl (fun e => ?_) (fun e => ?_)
        · replace h := h.1 e
          refine AWp.regionN (fun _ => false) rfl ?_
          obtain ⟨x18, hc19, h⟩ := h
          refine AOps.call hc19 rfl rfl rfl ⟨.inl rfl, trivial⟩ ?_
          refine pF rfl rfl rfl ?_
          refine AOps.done ?_
          exact ⟨x18, h, (Sub.list (fun i => i) rfl rfl ⟨rfl, rfl, trivial⟩ ⟨rfl, trivial⟩)⟩
        · replace h := h.2 e
          refine AWp.skip ?_
          exact ⟨(9218868437227405311 : Nat), h, (Sub.list (fun i => i) rfl rfl ⟨rfl, rfl, trivial⟩ ⟨rfl, trivial⟩)⟩
    · have h := hk24 p hp
      revert h; clear hp; generalize p = x13; intro h
      refine AWp.seq ?_
      refine AWp.seq ?_
      refine AWp.regionN (fun _ => false) rfl ?_
      refine pP rfl rfl rfl ?_
      refine pB rfl rfl rfl ?_
      refine AOps.done ?_
      refine AWp.cond rfl (fun e => ?_) (fun e => ?_)
      · replace h := h.1 e
        refine AWp.seq ?_
        refine AWp.regionN (fun _ => false) rfl ?_
        refine pF rfl rfl rfl ?_
        obtain ⟨x21, ex21, h⟩ := h.get
        refine AOps.fl tabOk rfl rfl rfl ex21 ?_
        refine pF rfl rfl rfl ?_
        refine AOps.done ?_
        refine AWp.ret ?_
        subst h
        exact ⟨_, rfl, rfl⟩
      · replace h := h.2 e
        refine AWp.skip ?_
        refine AWp.seq ?_
        refine AWp.regionN (fun _ => false) rfl ?_
        refine pF rfl rfl rfl ?_
        refine pF rfl rfl rfl ?_
        refine AOps.done ?_
        refine AWp.ret ?_
        subst h
        exact ⟨_, rfl, rfl⟩
def W_ulp_value_right (v1 : Gulpvalue) (n2 : Int) (Q : Int → Prop) : Prop :=
  Br (decide (n2 ≥ (128 : Int))) (Q (0 : Int)) (
    Br (decide (n2 ≥ (64 : Int))) (
      Let (IntKind.i64.wrap (n2 - (64 : Int))) fun x5 =>
      Nn x5 <|
      Let (Int.fdiv v1.hi_ (2 ^ (min (Int.toNat x5) 64))) fun x6 =>
      Q x6) (
      Br (n2 == (0 : Int)) (Q v1.lo_) (
        Nn n2 <|
        Let (Int.fdiv v1.lo_ (2 ^ (min (Int.toNat n2) 64))) fun x7 =>
        Let (IntKind.i64.wrap ((64 : Int) - n2)) fun x8 =>
        Nn x8 <|
        Let (IntKind.u64.wrap (v1.hi_ * 2 ^ (min (Int.toNat x8) 64))) fun x9 =>
        Let (bits .or .u64 x7 x9) fun x10 =>
        Q x10)))
theorem walk_ulp_value_right {v1 : Gulpvalue} {n2 : Int} {r : Int} (h : W_ulp_value_right v1 n2 (fun r' => r' = r)) : Ev_ulp_value_right v1 n2 r := by
  unfold W_ulp_value_right at h
  refine AFn.intro' (L := [(0, .dat (Gulpvalue.enc v1)), (1, .dat (.v (.int .i64 n2)))]) tabOk Tryd.func110 rfl rfl Tryd.ntmps110 rfl rfl rfl ?_
  refine AWp.seq ?_
  refine AWp.regionN (fun _ => false) rfl ?_
  refine AOps.box (v := .dat (.st _ _)) rfl rfl rfl rfl rfl rfl ?_
  refine pI rfl rfl rfl ?_
  refine AOps.done ?_
  refine AWp.seq ?_
  refine AWp.block ?_
  refine AWp.seq ?_
  refine AWp.regionN (fun _ => false) rfl ?_
  refine pI rfl rfl rfl ?_
  refine pB rfl rfl rfl ?_
  refine pB rfl rfl rfl ?_
  refine AOps.done ?_
  refine AWp.cond rfl (fun e => ?_) (fun e => ?_)
  · replace h := h.1 e
    refine AWp.seq ?_
    refine AWp.regionN (fun _ => false) rfl ?_
    refine pI rfl rfl rfl ?_
    refine AOps.done ?_
    refine AWp.ret ?_
    subst h
    exact ⟨_, rfl, rfl⟩
  · replace h := h.2 e
    refine AWp.seq ?_
    refine AWp.regionN (fun _ => false) rfl ?_
    refine pI rfl rfl rfl ?_
    refine pB rfl rfl rfl ?_
    refine pB rfl rfl rfl ?_
    refine AOps.done ?_
    refine AWp.cond rfl (fun e => ?_) (fun e => ?_)
    · replace h := h.1 e
      refine AWp.seq ?_
      refine AWp.regionN (fun _ => false) rfl ?_
      refine pP rfl rfl rfl ?_
      refine pI rfl rfl rfl ?_
      refine pI rfl rfl rfl ?_
      obtain ⟨x5, ex5, h⟩ := h.get
      refine AOps.i tabOk rfl rfl rfl ex5 ?_
      obtain ⟨hq, h⟩ := h
      obtain ⟨x6, ex6, h⟩ := h.get
      refine AOps.q rfl rfl rfl rfl rfl (rbin_shr hq) ex6 ?_
      refine pI rfl rfl rfl ?_
      refine AOps.done ?_
      refine AWp.ret ?_
      subst h
      exact ⟨_, rfl, rfl⟩
    · replace h := h.2 e
      refine AWp.seq ?_
      refine AWp.regionN (fun _ => false) rfl ?_
      refine pI rfl rfl rfl ?_
      refine pB rfl rfl rfl ?_
      refine pB rfl rfl rfl ?_
      refine AOps.done ?_
      refine AWp.cond rfl (fun e => ?_) (fun e => ?_)
      · replace h := h.1 e
        refine AWp.seq ?_
        refine AWp.regionN (fun _ => false) rfl ?_
        refine pP rfl rfl rfl ?_
        refine pI rfl rfl rfl ?_
        refine pI rfl rfl rfl ?_
        refine AOps.done ?_
        refine AWp.ret ?_
        subst h
        exact ⟨_, rfl, rfl⟩
      · replace h := h.2 e
        refine AWp.skip ?_
        refine AWp.seq ?_
        refine AWp.regionD (fun _ => false) mixed (by decide +kernel) rfl ?_
        refine pP rfl rfl rfl ?_
        refine pI rfl rfl rfl ?_
        refine pI rfl rfl rfl ?_
        obtain ⟨hq, h⟩ := h
        obtain ⟨x7, ex7, h⟩ := h.get
        refine AOps.q rfl rfl rfl rfl rfl (rbin_shr hq) ex7 ?_
        refine pP rfl rfl rfl ?_
        refine pI rfl rfl rfl ?_
        refine pI rfl rfl rfl ?_
        obtain ⟨x8, ex8, h⟩ := h.get
        refine AOps.i tabOk rfl rfl rfl ex8 ?_
        obtain ⟨hq, h⟩ := h
        obtain ⟨x9, ex9, h⟩ := h.get
        refine AOps.q rfl rfl rfl rfl rfl (rbin_shl hq) ex9 ?_
        obtain ⟨x10, ex10, h⟩ := h.get
        refine AOps.i tabOk rfl rfl rfl ex10 ?_
        refine pI rfl rfl rfl ?_
        refine AOps.done ?_
        refine AWp.ret ?_
        subst h
        exact ⟨_, rfl, rfl⟩
def W_ulp_value_even (v1 : Gulpvalue) (n2 : Int) (Q : Bool → Prop) : Prop :=
  Br (decide (n2 ≥ (64 : Int))) (
    Br (v1.lo_ == (0 : Int)) (
      Br (n2 == (64 : Int)) (Q true) (
        Let (IntKind.i64.wrap ((128 : Int) - n2)) fun x9 =>
        Nn x9 <|
        Let (IntKind.u64.wrap (v1.hi_ * 2 ^ (min (Int.toNat x9) 64))) fun x10 =>
        Q (x10 == (0 : Int)))) (
      Q false)) (
    Let (IntKind.i64.wrap ((64 : Int) - n2)) fun x11 =>
    Nn x11 <|
    Let (IntKind.u64.wrap (v1.lo_ * 2 ^ (min (Int.toNat x11) 64))) fun x12 =>
    Q (x12 == (0 : Int)))
theorem walk_ulp_value_even {v1 : Gulpvalue} {n2 : Int} {r : Bool} (h : W_ulp_value_even v1 n2 (fun r' => r' = r)) : Ev_ulp_value_even v1 n2 r := by
  unfold W_ulp_value_even at h
  refine AFn.intro' (L := [(0, .dat (Gulpvalue.enc v1)), (1, .dat (.v (.int .i64 n2)))]) tabOk Tryd.func111 rfl rfl Tryd.ntmps111 rfl rfl rfl ?_
  refine AWp.seq ?_
  refine AWp.regionN (fun _ => false) rfl ?_
  refine AOps.box (v := .dat (.st _ _)) rfl rfl rfl rfl rfl rfl ?_
  refine pB rfl rfl rfl ?_
  refine AOps.done ?_
  refine AWp.seq ?_
  refine AWp.seq ?_
  refine AWp.regionN (fun _ => false) rfl ?_
  refine pI rfl rfl rfl ?_
  refine pB rfl rfl rfl ?_
  refine AOps.done ?_
  refine AWp.cond rfl (fun e => ?_) (fun e => ?_)
  · replace h := h.1 e
    refine AWp.seq ?_
    refine AWp.regionN (fun _ => false) rfl ?_
    refine pP rfl rfl rfl ?_
    refine pI rfl rfl rfl ?_
    refine pB rfl rfl rfl ?_
    refine pB rfl rfl rfl ?_
    refine AOps.splitB 10 rfl (fun e => ?_) (fun e => ?_)
    · replace h := h.1 e
      refine pI rfl rfl rfl ?_
      refine pB rfl rfl rfl ?_
      refine pB rfl rfl rfl ?_
      refine AOps.splitB 13 rfl (fun e => ?_) (fun e => ?_)
      · replace h := h.1 e
        refine AOps.off rfl rfl ?_
        refine AOps.off rfl rfl ?_
        refine AOps.off rfl rfl ?_
        refine AOps.off rfl rfl ?_
        refine AOps.off rfl rfl ?_
        refine AOps.off rfl rfl ?_
        refine pB rfl rfl rfl ?_
        refine pB rfl rfl rfl ?_
        refine pB rfl rfl rfl ?_
        refine AOps.done ?_
        refine AWp.ret ?_
        subst h
        exact ⟨_, rfl, rfl⟩
      · replace h := h.2 e
        refine pP rfl rfl rfl ?_
        refine pI rfl rfl rfl ?_
        refine pI rfl rfl rfl ?_
        obtain ⟨x9, ex9, h⟩ := h.get
        refine AOps.i tabOk rfl rfl rfl ex9 ?_
        obtain ⟨hq, h⟩ := h
        obtain ⟨x10, ex10, h⟩ := h.get
        refine AOps.q rfl rfl rfl rfl rfl (rbin_shl hq) ex10 ?_
        refine pB rfl rfl rfl ?_
        refine pB rfl rfl rfl ?_
        refine pB rfl rfl rfl ?_
        refine pB rfl rfl rfl ?_
        refine AOps.done ?_
        refine AWp.ret ?_
        subst h
        exact ⟨_, rfl, rfl⟩
    · replace h := h.2 e
      refine AOps.off rfl rfl ?_
      refine AOps.off rfl rfl ?_
      refine AOps.off rfl rfl ?_
      refine AOps.off rfl rfl ?_
      refine AOps.off rfl rfl ?_
      refine AOps.off rfl rfl ?_
      refine AOps.off rfl rfl ?_
      refine AOps.off rfl rfl ?_
      refine AOps.off rfl rfl ?_
      refine AOps.off rfl rfl ?_
      refine pB rfl rfl rfl ?_
      refine pB rfl rfl rfl ?_
      refine AOps.done ?_
      refine AWp.ret ?_
      subst h
      exact ⟨_, rfl, rfl⟩
  · replace h := h.2 e
    refine AWp.skip ?_
    refine AWp.seq ?_
    refine AWp.regionN (fun _ => false) rfl ?_
    refine pP rfl rfl rfl ?_
    refine pI rfl rfl rfl ?_
    refine pI rfl rfl rfl ?_
    obtain ⟨x11, ex11, h⟩ := h.get
    refine AOps.i tabOk rfl rfl rfl ex11 ?_
    obtain ⟨hq, h⟩ := h
    obtain ⟨x12, ex12, h⟩ := h.get
    refine AOps.q rfl rfl rfl rfl rfl (rbin_shl hq) ex12 ?_
    refine pB rfl rfl rfl ?_
    refine pB rfl rfl rfl ?_
    refine AOps.done ?_
    refine AWp.ret ?_
    subst h
    exact ⟨_, rfl, rfl⟩
def W_math_Ldexp (frac1 : Nat) (exp2 : Int) (Q : Nat → Prop) : Prop :=
  Call (Ev_math_ldexp frac1 exp2) fun x3 =>
  Q x3
theorem walk_math_Ldexp {frac1 : Nat} {exp2 : Int} {r : Nat} (h : W_math_Ldexp frac1 exp2 (fun r' => r' = r)) : Ev_math_Ldexp frac1 exp2 r := by
  unfold W_math_Ldexp at h
  refine AFn.intro' (L := [(0, .dat (.v (.float .f64 frac1))), (1, .dat (.v (.int .i64 exp2)))]) tabOk Tryd.func112 rfl rfl Tryd.ntmps112 rfl rfl rfl ?_
  refine AWp.seq ?_
  refine AWp.regionN (fun _ => false) rfl ?_
  refine pF rfl rfl rfl ?_
  refine AOps.done ?_
  refine AWp.seq ?_
  refine AWp.condF rfl ?_
  refine AWp.skip ?_
  refine AWp.seq ?_
  refine AWp.regionN (fun _ => false) rfl ?_
  refine pF rfl rfl rfl ?_
  refine pI rfl rfl rfl ?_
  obtain ⟨x3, hc4, h⟩ := h
  refine AOps.call hc4 rfl rfl rfl ⟨.inl rfl, .inl rfl, trivial⟩ ?_
  refine pF rfl rfl rfl ?_
  refine AOps.done ?_
  refine AWp.ret ?_
  subst h
  exact ⟨_, rfl, rfl⟩
def W_math_ldexp (frac1 : Nat) (exp2 : Int) (Q : Nat → Prop) : Prop :=
  Br (FloatKind.f64.format.order frac1 (0 : Nat) == some .eq) (Q frac1) (
    Call (Ev_math_IsInf frac1 (0 : Int)) fun x15 =>
    Br x15 (Q frac1) (
      Call (Ev_math_IsNaN frac1) fun x17 =>
      Br x17 (Q frac1) (
        Call (Ev_math_normalize frac1) fun x19 =>
        Let (IntKind.i64.wrap (exp2 + x19.2)) fun x21 =>
        Call (Ev_math_Float64bits x19.1) fun x22 =>
        Let (Int.fdiv x22 (2 ^ 52)) fun x24 =>
        Let (IntKind.i64.wrap x24) fun x25 =>
        Let (bits .and .i64 x25 (2047 : Int)) fun x26 =>
        Let (IntKind.i64.wrap (x26 - (1023 : Int))) fun x27 =>
        Let (IntKind.i64.wrap (x21 + x27)) fun x28 =>
        Br (decide (x28 < (-1075 : Int))) (
          Call (Ev_math_Copysign (0 : Nat) x19.1) fun x31 =>
          Q x31) (
          Br (decide (x28 > (1023 : Int))) (
            Br (FloatKind.f64.format.order x19.1 (0 : Nat) == some .lt) (
              Call (Ev_math_Inf (-1 : Int)) fun x41 =>
              Q x41) (
              Call (Ev_math_Inf (1 : Int)) fun x43 =>
              Q x43)) (
            Join2 (fun j48 =>
              Br (decide (x28 < (-1022 : Int))) (
                Let (IntKind.i64.wrap (x28 + (53 : Int))) fun x49 =>
                j48 x49 (4368491638549381120 : Nat)) (
                j48 x28 (4607182418800017408 : Nat))
            ) (fun (exp46 : Int) (m47 : Nat) =>
              Let (bits .andNot .u64 x22 (9218868437227405312 : Int)) fun x50 =>
              Let (IntKind.i64.wrap (exp46 + (1023 : Int))) fun x51 =>
              Let (IntKind.u64.wrap x51) fun x52 =>
              Let (IntKind.u64.wrap (x52 * 2 ^ 52)) fun x53 =>
              Let (bits .or .u64 x50 x53) fun x54 =>
              Call (Ev_math_Float64frombits x54) fun x55 =>
              FOp .mul m47 x55 fun x57 =>
              Q x57))))))
theorem walk_math_ldexp {frac1 : Nat} {exp2 : Int} {r : Nat} (h : W_math_ldexp frac1 exp2 (fun r' => r' = r)) : Ev_math_ldexp frac1 exp2 r := by
  unfold W_math_ldexp at h
  refine AFn.intro' (L := [(0, .dat (.v (.float .f64 frac1))), (1, .dat (.v (.int .i64 exp2)))]) tabOk Tryd.func124 rfl rfl Tryd.ntmps124 rfl rfl rfl ?_
  refine AWp.seq ?_
  refine AWp.regionN (fun _ => false) rfl ?_
  refine pF rfl rfl rfl ?_
  refine AOps.done ?_
  refine AWp.seq ?_
  refine AWp.block ?_
  refine AWp.seq ?_
  refine AWp.regionN (fun _ => false) rfl ?_
  refine pF rfl rfl rfl ?_
  refine pB rfl rfl rfl ?_
  refine pB rfl rfl rfl ?_
  refine AOps.done ?_
  refine AWp.cond rfl (fun e => ?_) (fun e => ?_)
  · replace h := h.1 e
    refine AWp.seq ?_
    refine AWp.regionN (fun _ => false) rfl ?_
    refine pF rfl rfl rfl ?_
    refine pF rfl rfl rfl ?_
    refine AOps.done ?_
    refine AWp.ret ?_
    subst h
    exact ⟨_, rfl, rfl⟩
  · replace h := h.2 e
    refine AWp.seq ?_
    refine AWp.regionN (fun _ => false) rfl ?_
    refine pF rfl rfl rfl ?_
    obtain ⟨x15, hc16, h⟩ := h
    refine AOps.call hc16 rfl rfl rfl ⟨.inl rfl, .inl rfl, trivial⟩ ?_
    refine pB rfl rfl rfl ?_
    refine AOps.splitB 15 rfl (fun e => ?_) (fun e => ?_)
    · replace h := h.1 e
      refine AOps.off rfl rfl ?_
      refine AOps.off rfl rfl ?_
      refine pB rfl rfl rfl ?_
      refine pB rfl rfl rfl ?_
      refine AOps.done ?_
      refine AWp.condT rfl ?_
      refine AWp.seq ?_
      refine AWp.regionN (fun _ => false) rfl ?_
      refine pF rfl rfl rfl ?_
      refine pF rfl rfl rfl ?_
      refine AOps.done ?_
      refine AWp.ret ?_
      subst h
      exact ⟨_, rfl, rfl⟩
    · replace h := h.2 e
      refine pF rfl rfl rfl ?_
      obtain ⟨x17, hc18, h⟩ := h
      refine AOps.call hc18 rfl rfl rfl ⟨.inl rfl, trivial⟩ ?_
      refine pB rfl rfl rfl ?_
      refine pB rfl rfl rfl ?_
      refine AOps.done ?_
      refine AWp.cond rfl (fun e => ?_) (fun e => ?_)
      · replace h := h.1 e
        refine AWp.seq ?_
        refine AWp.regionN (fun _ => false) rfl ?_
        refine pF rfl rfl rfl ?_
        refine pF rfl rfl rfl ?_
        refine AOps.done ?_
        refine AWp.ret ?_
        subst h
        exact ⟨_, rfl, rfl⟩
      · replace h := h.2 e
        refine AWp.skip ?_
        refine AWp.seq ?_
        refine AWp.regionN (fun _ => false) rfl ?_
        refine pF rfl rfl rfl ?_
        obtain ⟨x19, hc20, h⟩ := h
        refine AOps.call hc20 rfl rfl rfl ⟨.inl rfl, trivial⟩ ?_
        refine pU rfl rfl rfl ?_
        refine pF rfl rfl rfl ?_
        refine pI rfl rfl rfl ?_
        refine pF rfl rfl rfl ?_
        refine pI rfl rfl rfl ?_
        refine AOps.done ?_
        refine AWp.seq ?_
        refine AWp.regionN (fun _ => false) rfl ?_
        refine pI rfl rfl rfl ?_
        refine pI rfl rfl rfl ?_
        obtain ⟨x21, ex21, h⟩ := h.get
        refine AOps.i tabOk rfl rfl rfl ex21 ?_
        refine pI rfl rfl rfl ?_
        refine AOps.done ?_
        refine AWp.seq ?_
        refine AWp.regionN (fun _ => false) rfl ?_
        refine pF rfl rfl rfl ?_
        obtain ⟨x22, hc23, h⟩ := h
        refine AOps.extC hc23 rfl rfl rfl (.cons rfl .nil) ?_
        refine pI rfl rfl rfl ?_
        refine AOps.done ?_
        refine AWp.seq ?_
        refine AWp.regionN (fun _ => false) rfl ?_
        refine pI rfl rfl rfl ?_
        refine pI rfl rfl rfl ?_
        obtain ⟨x24, ex24, h⟩ := h.get
        refine AOps.q rfl rfl rfl rfl rfl (rbin_shr (by decide)) ex24 ?_
        obtain ⟨x25, ex25, h⟩ := h.get
        refine AOps.i tabOk rfl rfl rfl ex25 ?_
        obtain ⟨x26, ex26, h⟩ := h.get
        refine AOps.i tabOk rfl rfl rfl ex26 ?_
        obtain ⟨x27, ex27, h⟩ := h.get
        refine AOps.i tabOk rfl rfl rfl ex27 ?_
        obtain ⟨x28, ex28, h⟩ := h.get
        refine AOps.i tabOk rfl rfl rfl ex28 ?_
        refine pI rfl rfl rfl ?_
        refine AOps.done ?_
        refine AWp.seq ?_
        refine AWp.seq ?_
        refine AWp.regionN (fun _ => false) rfl ?_
        refine pI rfl rfl rfl ?_
        refine pB rfl rfl rfl ?_
        refine AOps.done ?_
        refine AWp.cond rfl (fun e => ?_) (fun e => ?_)
        · replace h := h.1 e
          refine AWp.seq ?_
          refine AWp.regionN (fun _ => false) rfl ?_
          refine pF rfl rfl rfl ?_
          obtain ⟨x31, hc32, h⟩ := h
          refine AOps.call hc32 rfl rfl rfl ⟨.inl rfl, .inl rfl, trivial⟩ ?_
          refine pF rfl rfl rfl ?_
          refine AOps.done ?_
          refine AWp.ret ?_
          subst h
          exact ⟨_, rfl, rfl⟩
        · replace h := h.2 e
          refine AWp.skip ?_
          refine AWp.seq ?_
          refine AWp.seq ?_
          refine AWp.regionN (fun _ => false) rfl ?_
          refine pI rfl rfl rfl ?_
          refine pB rfl rfl rfl ?_
          refine AOps.done ?_
          refine AWp.cond rfl (fun e => ?_) (fun e => ?_)
          · replace h := h.1 e
            refine AWp.seq ?_
            refine AWp.seq ?_
            refine AWp.regionN (fun _ => false) rfl ?_
            refine pF rfl rfl rfl ?_
            refine pB rfl rfl rfl ?_
            refine AOps.done ?_
            refine AWp.cond rfl (fun e => ?_) (fun e => ?_)
            · replace h := h.1 e
              refine AWp.seq ?_
              refine AWp.regionN (fun _ => false) rfl ?_
              obtain ⟨x41, hc42, h⟩ := h
              refine AOps.call hc42 rfl rfl rfl ⟨.inl rfl, trivial⟩ ?_
              refine pF rfl rfl rfl ?_
              refine AOps.done ?_
              refine AWp.ret ?_
              subst h
              exact ⟨_, rfl, rfl⟩
            · replace h := h.2 e
              refine AWp.skip ?_
              refine AWp.seq ?_
              refine AWp.regionN (fun _ => false) rfl ?_
              obtain ⟨x43, hc44, h⟩ := h
              refine AOps.call hc44 rfl rfl rfl ⟨.inl rfl, trivial⟩ ?_
              refine pF rfl rfl rfl ?_
              refine AOps.done ?_
              refine AWp.ret ?_
              subst h
              exact ⟨_, rfl, rfl⟩
          · replace h := h.2 e
            refine AWp.skip ?_
            refine AWp.seq ?_
            refine AWp.regionN (fun _ => false) rfl ?_
            refine pF rfl rfl rfl ?_
            refine AOps.done ?_
            refine AWp.seq ?_
            refine AWp.seq ?_
            refine AWp.regionN (fun _ => false) rfl ?_
            refine pI rfl rfl rfl ?_
            refine pB rfl rfl rfl ?_
            refine AOps.done ?_
            obtain ⟨J58, hj59, hk60⟩ := h
            refine AWp.cutK (I := fun p : Int × Nat => mkSt [(1, .dat (.v (.int .i64 p.1))), (6, .dat (.v (.int .u64 x22))), (7, .dat (.v (.float .f64 p.2)))] []) (Inv := fun p : Int × Nat => J58 p.1 p.2) ?_ (fun p hp => ?_)
            · have h := hj59
              refine AWp.cond rfl (fun e => ?_) (fun e => ?_)
              · replace h := h.1 e
                refine AWp.seq ?_
                refine AWp.regionN (fun _ => false) rfl ?_
                refine pI rfl rfl rfl ?_
                obtain ⟨x49, ex49, h⟩ := h.get
                refine AOps.i tabOk rfl rfl rfl ex49 ?_
                refine pI rfl rfl rfl ?_
                refine AOps.done ?_
                refine AWp.regionN (fun _ => false) rfl ?_
                refine pF rfl rfl rfl ?_
                refine AOps.done ?_
                exact ⟨⟨x49, (4368491638549381120 : Nat)⟩, h, (Sub.list (fun i => i) rfl rfl ⟨rfl, rfl, rfl, trivial⟩ trivial)⟩
              · replace h := h.2 e
                refine AWp.skip ?_
                exact ⟨⟨x28, (4607182418800017408 : Nat)⟩, h, (Sub.list (fun i => i) rfl rfl ⟨rfl, rfl, rfl, trivial⟩ trivial)⟩
            · obtain ⟨exp46, m47⟩ := p
              have h := hk60 exp46 m47 hp
              refine AWp.seq ?_
              refine AWp.regionN (fun _ => false) rfl ?_
              refine pI rfl rfl rfl ?_
              obtain ⟨x50, ex50, h⟩ := h.get
              refine AOps.i tabOk rfl rfl rfl ex50 ?_
              refine pI rfl rfl rfl ?_
              refine AOps.done ?_
              refine AWp.seq ?_
              refine AWp.regionN (fun _ => false) rfl ?_
              refine pI rfl rfl rfl ?_
              refine pI rfl rfl rfl ?_
              obtain ⟨x51, ex51, h⟩ := h.get
              refine AOps.i tabOk rfl rfl rfl ex51 ?_
              obtain ⟨x52, ex52, h⟩ := h.get
              refine AOps.i tabOk rfl rfl rfl ex52 ?_
              obtain ⟨x53, ex53, h⟩ := h.get
              refine AOps.q rfl rfl rfl rfl rfl (rbin_shl (by decide)) ex53 ?_
              obtain ⟨x54, ex54, h⟩ := h.get
              refine AOps.i tabOk rfl rfl rfl ex54 ?_
              refine pI rfl rfl rfl ?_
              refine AOps.done ?_
              refine AWp.seq ?_
              refine AWp.regionN (fun _ => false) rfl ?_
              refine pF rfl rfl rfl ?_
              refine pI rfl rfl rfl ?_
              obtain ⟨x55, hc56, h⟩ := h
              refine AOps.extC hc56 rfl rfl rfl (.cons rfl .nil) ?_
              obtain ⟨x57, hq, h⟩ := h
              refine AOps.v rfl rfl (Step.flt rfl rfl rfl hq) ?_
              refine pF rfl rfl rfl ?_
              refine AOps.done ?_
              refine AWp.ret ?_
              subst h
              exact ⟨_, rfl, rfl⟩
def W_math_normalize (x1 : Nat) (Q : Nat × Int → Prop) : Prop :=
  Call (Ev_math_Abs x1) fun x2 =>
  Br (FloatKind.f64.format.order x2 (4503599627370496 : Nat) == some .lt) (
    FOp .mul x1 (4841369599423283200 : Nat) fun x5 =>
    Q (x5, (-52 : Int))) (
    Q (x1, (0 : Int)))
theorem walk_math_normalize {x1 : Nat} {r : Nat × Int} (h : W_math_normalize x1 (fun r' => r' = r)) : Ev_math_normalize x1 r := by
  unfold W_math_normalize at h
  refine AFn.intro' (L := [(0, .dat (.v (.float .f64 x1)))]) tabOk Tryd.func131 rfl rfl Tryd.ntmps131 rfl rfl rfl ?_
  refine AWp.seq ?_
  refine AWp.regionN (fun _ => false) rfl ?_
  refine pF rfl rfl rfl ?_
  refine pI rfl rfl rfl ?_
  refine AOps.done ?_
  refine AWp.seq ?_
  refine AWp.seq ?_
  refine AWp.regionN (fun _ => false) rfl ?_
  refine pF rfl rfl rfl ?_
  obtain ⟨x2, hc3, h⟩ := h
  refine AOps.call hc3 rfl rfl rfl ⟨.inl rfl, trivial⟩ ?_
  refine pB rfl rfl rfl ?_
  refine AOps.done ?_
  refine AWp.cond rfl (fun e => ?_) (fun e => ?_)
  · replace h := h.1 e
    refine AWp.seq ?_
    refine AWp.regionN (fun _ => false) rfl ?_
    refine pF rfl rfl rfl ?_
    obtain ⟨x5, hq, h⟩ := h
    refine AOps.v rfl rfl (Step.flt rfl rfl rfl hq) ?_
    refine pF rfl rfl rfl ?_
    refine pI rfl rfl rfl ?_
    refine AOps.done ?_
    refine AWp.ret ?_
    subst h
    exact ⟨_, rfl, rfl⟩
  · replace h := h.2 e
    refine AWp.skip ?_
    refine AWp.seq ?_
    refine AWp.regionN (fun _ => false) rfl ?_
    refine pF rfl rfl rfl ?_
    refine pF rfl rfl rfl ?_
    refine pI rfl rfl rfl ?_
    refine AOps.done ?_
    refine AWp.ret ?_
    subst h
    exact ⟨_, rfl, rfl⟩
def W_math_Abs (x1 : Nat) (Q : Nat → Prop) : Prop :=
  Call (Ev_math_Float64bits x1) fun x2 =>
  Let (bits .andNot .u64 x2 (9223372036854775808 : Int)) fun x4 =>
  Call (Ev_math_Float64frombits x4) fun x5 =>
  Q x5
theorem walk_math_Abs {x1 : Nat} {r : Nat} (h : W_math_Abs x1 (fun r' => r' = r)) : Ev_math_Abs x1 r := by
  unfold W_math_Abs at h
  refine AFn.intro' (L := [(0, .dat (.v (.float .f64 x1)))]) tabOk Tryd.func134 rfl rfl Tryd.ntmps134 rfl rfl rfl ?_
  refine AWp.seq ?_
  refine AWp.regionN (fun _ => false) rfl ?_
  refine pF rfl rfl rfl ?_
  refine AOps.done ?_
  refine AWp.seq ?_
  refine AWp.regionN (fun _ => false) rfl ?_
  refine pF rfl rfl rfl ?_
  obtain ⟨x2, hc3, h⟩ := h
  refine AOps.extC hc3 rfl rfl rfl (.cons rfl .nil) ?_
  obtain ⟨x4, ex4, h⟩ := h.get
  refine AOps.i tabOk rfl rfl rfl ex4 ?_
  obtain ⟨x5, hc6, h⟩ := h
  refine AOps.extC hc6 rfl rfl rfl (.cons rfl .nil) ?_
  refine pF rfl rfl rfl ?_
  refine AOps.done ?_
  refine AWp.ret ?_
  subst h
  exact ⟨_, rfl, rfl⟩
def W_math_IsNaN (f1 : Nat) (Q : Bool → Prop) : Prop :=
  Q (FloatKind.f64.format.order f1 f1 != some .eq)
theorem walk_math_IsNaN {f1 : Nat} {r : Bool} (h : W_math_IsNaN f1 (fun r' => r' = r)) : Ev_math_IsNaN f1 r := by
  unfold W_math_IsNaN at h
  refine AFn.intro' (L := [(0, .dat (.v (.float .f64 f1)))]) tabOk Tryd.func130 rfl rfl Tryd.ntmps130 rfl rfl rfl ?_
  refine AWp.seq ?_
  refine AWp.regionN (fun _ => false) rfl ?_
  refine pB rfl rfl rfl ?_
  refine AOps.done ?_
  refine AWp.seq ?_
  refine AWp.regionN (fun _ => false) rfl ?_
  refine pF rfl rfl rfl ?_
  refine pF rfl rfl rfl ?_
  refine pB rfl rfl rfl ?_
  refine pB rfl rfl rfl ?_
  refine AOps.done ?_
  refine AWp.ret ?_
  subst h
  exact ⟨_, rfl, rfl⟩
def W_math_IsInf (f1 : Nat) (sign2 : Int) (Q : Bool → Prop) : Prop :=
  Br (sign2 == (0 : Int)) (
    Call (Ev_math_Abs f1) fun x6 =>
    Q (FloatKind.f64.format.order x6 (9218868437227405311 : Nat) == some .gt)) (
    Br (decide (sign2 < (0 : Int))) (
      Let (Op.negFloat .f64 f1) fun x9 =>
      Q (FloatKind.f64.format.order x9 (9218868437227405311 : Nat) == some .gt)) (
      Q (FloatKind.f64.format.order f1 (9218868437227405311 : Nat) == some .gt)))
theorem walk_math_IsInf {f1 : Nat} {sign2 : Int} {r : Bool} (h : W_math_IsInf f1 sign2 (fun r' => r' = r)) : Ev_math_IsInf f1 sign2 r := by
  unfold W_math_IsInf at h
  refine AFn.intro' (L := [(0, .dat (.v (.float .f64 f1))), (1, .dat (.v (.int .i64 sign2)))]) tabOk Tryd.func129 rfl rfl Tryd.ntmps129 rfl rfl rfl ?_
  refine AWp.seq ?_
  refine AWp.regionN (fun _ => false) rfl ?_
  refine pB rfl rfl rfl ?_
  refine AOps.done ?_
  refine AWp.seq ?_
  refine AWp.seq ?_
  refine AWp.regionN (fun _ => false) rfl ?_
  refine pI rfl rfl rfl ?_
  refine pB rfl rfl rfl ?_
  refine AOps.done ?_
  refine AWp.cond rfl (fun e => ?_) (fun e => ?_)
  · replace h := h.1 e
    refine AWp.regionN (fun _ => false) rfl ?_
    refine pF rfl rfl rfl ?_
    obtain ⟨x6, hc7, h⟩ := h
    refine AOps.call hc7 rfl rfl rfl ⟨.inl rfl, trivial⟩ ?_
    refine pF rfl rfl rfl ?_
    refine AOps.done ?_
    refine AWp.seq ?_
    refine AWp.regionN (fun _ => false) rfl ?_
    refine pF rfl rfl rfl ?_
    refine pB rfl rfl rfl ?_
    refine pB rfl rfl rfl ?_
    refine AOps.done ?_
    refine AWp.ret ?_
    subst h
    exact ⟨_, rfl, rfl⟩
  · replace h := h.2 e
    refine AWp.seq ?_
    refine AWp.regionN (fun _ => false) rfl ?_
    refine pI rfl rfl rfl ?_
    refine pB rfl rfl rfl ?_
    refine AOps.done ?_
    refine AWp.cond rfl (fun e => ?_) (fun e => ?_)
    · replace h := h.1 e
      refine AWp.regionN (fun _ => false) rfl ?_
      refine pF rfl rfl rfl ?_
      obtain ⟨x9, ex9, h⟩ := h.get
      refine AOps.fl tabOk rfl rfl rfl ex9 ?_
      refine pF rfl rfl rfl ?_
      refine AOps.done ?_
      refine AWp.seq ?_
      refine AWp.regionN (fun _ => false) rfl ?_
      refine pF rfl rfl rfl ?_
      refine pB rfl rfl rfl ?_
      refine pB rfl rfl rfl ?_
      refine AOps.done ?_
      refine AWp.ret ?_
      subst h
      exact ⟨_, rfl, rfl⟩
    · replace h := h.2 e
      refine AWp.skip ?_
      refine AWp.seq ?_
      refine AWp.regionN (fun _ => false) rfl ?_
      refine pF rfl rfl rfl ?_
      refine pB rfl rfl rfl ?_
      refine pB rfl rfl rfl ?_
      refine AOps.done ?_
      refine AWp.ret ?_
      subst h
      exact ⟨_, rfl, rfl⟩
def W_math_Inf (sign1 : Int) (Q : Nat → Prop) : Prop :=
  Join1 (fun j3 =>
    Br (decide (sign1 ≥ (0 : Int))) (j3 (9218868437227405312 : Int)) (
      j3 (18442240474082181120 : Int))
  ) (fun (v2 : Int) =>
    Call (Ev_math_Float64frombits v2) fun x4 =>
    Q x4)
theorem walk_math_Inf {sign1 : Int} {r : Nat} (h : W_math_Inf sign1 (fun r' => r' = r)) : Ev_math_Inf sign1 r := by
  unfold W_math_Inf at h
  refine AFn.intro' (L := [(0, .dat (.v (.int .i64 sign1)))]) tabOk Tryd.func46 rfl rfl Tryd.ntmps46 rfl rfl rfl ?_
  refine AWp.seq ?_
  refine AWp.regionN (fun _ => false) rfl ?_
  refine pF rfl rfl rfl ?_
  refine AOps.done ?_
  refine AWp.seq ?_
  refine AWp.regionN (fun _ => false) rfl ?_
  refine pI rfl rfl rfl ?_
  refine AOps.done ?_
  refine AWp.seq ?_
  refine AWp.seq ?_
  refine AWp.regionN (fun _ => false) rfl ?_
  refine pI rfl rfl rfl ?_
  refine pB rfl rfl rfl ?_
  refine AOps.done ?_
  obtain ⟨J6, hj7, hk8⟩ := h
  refine AWp.cutK (I := fun p : Int => mkSt [(3, .dat (.v (.int .u64 p)))] []) (Inv := fun p : Int => J6 p) ?_ (fun p hp => ?_)
  · have h := hj7
    refine AWp.cond rfl (fun e => ?_) (fun e => ?_)
    · replace h := h.1 e
      refine AWp.regionN (fun _ => false) rfl ?_
      refine pI rfl rfl rfl ?_
      refine AOps.done ?_
      exact ⟨(9218868437227405312 : Int), h, (Sub.list (fun i => i) rfl rfl ⟨rfl, trivial⟩ trivial)⟩
    · replace h := h.2 e
      refine AWp.regionN (fun _ => false) rfl ?_
      refine pI rfl rfl rfl ?_
      refine AOps.done ?_
      exact ⟨(18442240474082181120 : Int), h, (Sub.list (fun i => i) rfl rfl ⟨rfl, trivial⟩ trivial)⟩
  · have h := hk8 p hp
    revert h; clear hp; generalize p = v2; intro h
    refine AWp.seq ?_
    refine AWp.regionN (fun _ => false) rfl ?_
    refine pI rfl rfl rfl ?_
    obtain ⟨x4, hc5, h⟩ := h
    refine AOps.extC hc5 rfl rfl rfl (.cons rfl .nil) ?_
    refine pF rfl rfl rfl ?_
    refine AOps.done ?_
    refine AWp.ret ?_
    subst h
    exact ⟨_, rfl, rfl⟩
def W_math_Signbit (x1 : Nat) (Q : Bool → Prop) : Prop :=
  Call (Ev_math_Float64bits x1) fun x2 =>
  Let (IntKind.i64.wrap x2) fun x4 =>
  Q (decide (x4 < (0 : Int)))
theorem walk_math_Signbit {x1 : Nat} {r : Bool} (h : W_math_Signbit x1 (fun r' => r' = r)) : Ev_math_Signbit x1 r := by
  unfold W_math_Signbit at h
  refine AFn.intro' (L := [(0, .dat (.v (.float .f64 x1)))]) tabOk Tryd.func109 rfl rfl Tryd.ntmps109 rfl rfl rfl ?_
  refine AWp.seq ?_
  refine AWp.regionN (fun _ => false) rfl ?_
  refine pB rfl rfl rfl ?_
  refine AOps.done ?_
  refine AWp.seq ?_
  refine AWp.regionN (fun _ => false) rfl ?_
  refine pF rfl rfl rfl ?_
  obtain ⟨x2, hc3, h⟩ := h
  refine AOps.extC hc3 rfl rfl rfl (.cons rfl .nil) ?_
  obtain ⟨x4, ex4, h⟩ := h.get
  refine AOps.i tabOk rfl rfl rfl ex4 ?_
  refine pB rfl rfl rfl ?_
  refine pB rfl rfl rfl ?_
  refine AOps.done ?_
  refine AWp.ret ?_
  subst h
  exact ⟨_, rfl, rfl⟩
end Go.Sim.YtlglkgineclggaaDoor
