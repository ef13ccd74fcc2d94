/- What is proved: functions of the program compute what plain statements tell. -/
import Derived.Test.YtnnfiohdkobkdaaGreatDoorZPRWE

namespace Go.Sim.YtnnfiohdkobkdaaGreatDoor
open Go.RowKit Go.Proofs Go.Proofs.Tryz
set_option maxRecDepth 100000
def W_ref13_one (x1 : GTree) (Q : Bool → Prop) : Prop :=
  Call (Ev_ref13_spec x1.Kind) fun x2 =>
  Join1 (fun j15 =>
    Br (!x2.2) (j15 true) (
      Call (Ev_ref13_has x2.1.Has (78 : Int)) fun x16 =>
      Call (Ev_ref13_name x1.Name x16) fun x18 =>
      Br (!x18) (j15 true) (
        Call (Ev_ref13_has x2.1.Has (65 : Int)) fun x20 =>
        Call (Ev_ref13_name x1.Alias x20) fun x22 =>
        Br (!x22) (j15 true) (
          Br x1.Flag (
            Call (Ev_ref13_has x2.1.Has (70 : Int)) fun x24 =>
            j15 (!x24)) (
            j15 false))))
  ) (fun (x14 : Bool) =>
    Br x14 (Q false) (
      Br (decide (x1.N < x2.1.From)) (Q false) (
        Br (decide (x1.N > x2.1.To)) (Q false) (
          Br (decide (x1.M < (0 : Int))) (Q false) (
            Br (decide (x1.M > x2.1.M)) (Q false) (
              Call (Ev_ref13_kids x1.Kids x2.1.Kids) fun x28 =>
              Br (!x28) (Q false) (
                Br (x1.Kind == (1 : Int)) (
                  Call (Ev_ref13_Decimal x1.Num) fun x48 =>
                  Q x48) (
                  Br (x1.Kind == (24 : Int)) (
                    Call (Ev_ref11_Right x1.Num) fun x52 =>
                    Br x52 (
                      Br (decide (x1.Num.N ≥ (-64 : Int))) (
                        Br (decide (x1.Num.N ≤ (64 : Int))) (Q (decide (x1.Num.D ≤ (64 : Int)))) (
                          Q false)) (
                        Q false)) (
                      Q false)) (
                    Br (x1.Kind == (3 : Int)) (
                      Br (GRat.beq x1.Num GRat.zero) (
                        Br (((x1.Kids.length : Nat) : Int) == (0 : Int)) (Q true) (
                          At x1.Kids (0 : Int) fun x62 =>
                          Call (Ev_ref13_isIndex x62) fun x64 =>
                          Q x64)) (
                        Q false)) (
                      Q (GRat.beq x1.Num GRat.zero)))))))))))
theorem walk_ref13_one {x1 : GTree} {r : Bool} (h : W_ref13_one x1 (fun r' => r' = r)) : Ev_ref13_one x1 r := by
  unfold W_ref13_one at h
  refine AFn.intro' (L := [(0, .dat (GTree.out x1))]) tabOk Tryz.func40 rfl rfl Tryz.ntmps40 rfl rfl rfl ?_
  refine AWp.seq ?_
  refine AWp.regionN (fun _ => false) rfl ?_
  refine AOps.box (v := .dat (.st _ _)) rfl rfl rfl rfl rfl rfl ?_
  refine pB rfl rfl rfl ?_
  refine AOps.done ?_
  refine AWp.seq ?_
  refine AWp.regionN (fun o => writes o) rfl ?_
  refine pP rfl rfl rfl ?_
  refine pI rfl rfl rfl ?_
  obtain ⟨x2, hc3, h⟩ := h
  refine AOps.call hc3 rfl rfl rfl ⟨.inl rfl, trivial⟩ ?_
  refine pU rfl rfl rfl ?_
  refine pT rfl rfl rfl ?_
  refine pB rfl rfl rfl ?_
  refine AOps.alloc tabOk rfl rfl rfl rfl rfl ?_
  refine AOps.store tabOk (v := .dat (.st _ _)) rfl rfl rfl rfl rfl rfl rfl rfl rfl rfl rfl rfl rfl ?_
  refine pB rfl rfl rfl ?_
  refine AOps.done ?_
  refine AWp.seq ?_
  refine AWp.seq ?_
  obtain ⟨J66, hj67, hk68⟩ := h
  refine AWp.cutK (I := fun p : Bool => mkSt [(1, .pt 1 [] 0), (3, .pt 3 [] 0), (40, .dat (.v (.bool p)))] [(1, .box 26 9 (.dat (GTree.out x1))), (3, .box 98 5 (.dat (Gref13Spec.enc x2.1)))]) (Inv := fun p : Bool => J66 p) ?_ (fun p hp => ?_)
  · have h := hj67
    refine AWp.regionD (fun _ => false) mixed (by decide +kernel) rfl ?_
    refine pB rfl rfl rfl ?_
    refine pB rfl rfl rfl ?_
    refine pB rfl rfl rfl ?_
    refine AOps.splitB 13 rfl (fun e => ?_) (fun e => ?_)
    · replace h := h.1 e
      refine AOps.off rfl rfl ?_
      refine AOps.off rfl rfl ?_
      refine AOps.off rfl rfl ?_
      refine AOps.off rfl rfl ?_
      refine AOps.off rfl rfl ?_
      refine AOps.off rfl rfl ?_
      refine AOps.off rfl rfl ?_
      refine pB rfl rfl rfl ?_
      refine pB rfl rfl rfl ?_
      refine AOps.off rfl rfl ?_
      refine AOps.off rfl rfl ?_
      refine AOps.off rfl rfl ?_
      refine AOps.off rfl rfl ?_
      refine AOps.off rfl rfl ?_
      refine AOps.off rfl rfl ?_
      refine AOps.off rfl rfl ?_
      refine pB rfl rfl rfl ?_
      refine pB rfl rfl rfl ?_
      refine AOps.off rfl rfl ?_
      refine AOps.off rfl rfl ?_
      refine AOps.off rfl rfl ?_
      refine AOps.off rfl rfl ?_
      refine AOps.off rfl rfl ?_
      refine AOps.off rfl rfl ?_
      refine AOps.off rfl rfl ?_
      refine AOps.off rfl rfl ?_
      refine pB rfl rfl rfl ?_
      refine AOps.done ?_
      exact ⟨true, h, (Sub.list (fun i => i) rfl rfl ⟨rfl, rfl, rfl, trivial⟩ ⟨rfl, rfl, trivial⟩)⟩
    · replace h := h.2 e
      refine pP rfl rfl rfl ?_
      refine pG rfl rfl rfl ?_
      refine pP rfl rfl rfl ?_
      refine pG rfl rfl rfl ?_
      obtain ⟨x16, hc17, h⟩ := h
      refine AOps.call hc17 rfl rfl rfl ⟨.inl rfl, .inl rfl, trivial⟩ ?_
      obtain ⟨x18, hc19, h⟩ := h
      refine AOps.call hc19 rfl rfl rfl ⟨.inl rfl, .inl rfl, trivial⟩ ?_
      refine pB rfl rfl rfl ?_
      refine pB rfl rfl rfl ?_
      refine pB rfl rfl rfl ?_
      refine AOps.splitB 22 rfl (fun e => ?_) (fun e => ?_)
      · replace h := h.1 e
        refine AOps.off rfl rfl ?_
        refine AOps.off rfl rfl ?_
        refine AOps.off rfl rfl ?_
        refine AOps.off rfl rfl ?_
        refine AOps.off rfl rfl ?_
        refine AOps.off rfl rfl ?_
        refine AOps.off rfl rfl ?_
        refine pB rfl rfl rfl ?_
        refine pB rfl rfl rfl ?_
        refine AOps.off rfl rfl ?_
        refine AOps.off rfl rfl ?_
        refine AOps.off rfl rfl ?_
        refine AOps.off rfl rfl ?_
        refine AOps.off rfl rfl ?_
        refine AOps.off rfl rfl ?_
        refine AOps.off rfl rfl ?_
        refine AOps.off rfl rfl ?_
        refine pB rfl rfl rfl ?_
        refine AOps.done ?_
        exact ⟨true, h, (Sub.list (fun i => i) rfl rfl ⟨rfl, rfl, rfl, trivial⟩ ⟨rfl, rfl, trivial⟩)⟩
      · replace h := h.2 e
        refine pP rfl rfl rfl ?_
        refine pG rfl rfl rfl ?_
        refine pP rfl rfl rfl ?_
        refine pG rfl rfl rfl ?_
        obtain ⟨x20, hc21, h⟩ := h
        refine AOps.call hc21 rfl rfl rfl ⟨.inl rfl, .inl rfl, trivial⟩ ?_
        obtain ⟨x22, hc23, h⟩ := h
        refine AOps.call hc23 rfl rfl rfl ⟨.inl rfl, .inl rfl, trivial⟩ ?_
        refine pB rfl rfl rfl ?_
        refine pB rfl rfl rfl ?_
        refine pB rfl rfl rfl ?_
        refine AOps.splitB 31 rfl (fun e => ?_) (fun e => ?_)
        · replace h := h.1 e
          refine AOps.off rfl rfl ?_
          refine AOps.off rfl rfl ?_
          refine AOps.off rfl rfl ?_
          refine AOps.off rfl rfl ?_
          refine AOps.off rfl rfl ?_
          refine AOps.off rfl rfl ?_
          refine AOps.off rfl rfl ?_
          refine AOps.off rfl rfl ?_
          refine pB rfl rfl rfl ?_
          refine AOps.done ?_
          exact ⟨true, h, (Sub.list (fun i => i) rfl rfl ⟨rfl, rfl, rfl, trivial⟩ ⟨rfl, rfl, trivial⟩)⟩
        · replace h := h.2 e
          refine pP rfl rfl rfl ?_
          refine pB rfl rfl rfl ?_
          refine pB rfl rfl rfl ?_
          refine AOps.splitB 34 rfl (fun e => ?_) (fun e => ?_)
          · replace h := h.1 e
            refine pP rfl rfl rfl ?_
            refine pG rfl rfl rfl ?_
            obtain ⟨x24, hc25, h⟩ := h
            refine AOps.call hc25 rfl rfl rfl ⟨.inl rfl, .inl rfl, trivial⟩ ?_
            refine pB rfl rfl rfl ?_
            refine pB rfl rfl rfl ?_
            refine pB rfl rfl rfl ?_
            refine AOps.done ?_
            exact ⟨(!x24), h, (Sub.list (fun i => i) rfl rfl ⟨rfl, rfl, rfl, trivial⟩ ⟨rfl, rfl, trivial⟩)⟩
          · replace h := h.2 e
            refine AOps.off rfl rfl ?_
            refine AOps.off rfl rfl ?_
            refine AOps.off rfl rfl ?_
            refine AOps.off rfl rfl ?_
            refine pB rfl rfl rfl ?_
            refine pB rfl rfl rfl ?_
            refine AOps.done ?_
            exact ⟨false, h, (Sub.list (fun i => i) rfl rfl ⟨rfl, rfl, rfl, trivial⟩ ⟨rfl, rfl, trivial⟩)⟩
  · have h := hk68 p hp
    revert h; clear hp; generalize p = x14; intro h
    refine AWp.cond rfl (fun e => ?_) (fun e => ?_)
    · replace h := h.1 e
      refine AWp.seq ?_
      refine AWp.regionN (fun _ => false) rfl ?_
      refine pB rfl rfl rfl ?_
      refine AOps.done ?_
      refine AWp.ret ?_
      subst h
      exact ⟨_, rfl, rfl⟩
    · replace h := h.2 e
      refine AWp.skip ?_
      refine AWp.seq ?_
      refine AWp.seq ?_
      refine AWp.regionN (fun _ => false) rfl ?_
      refine pP rfl rfl rfl ?_
      refine pI rfl rfl rfl ?_
      refine pP rfl rfl rfl ?_
      refine pI rfl rfl rfl ?_
      refine pB rfl rfl rfl ?_
      refine pB rfl rfl rfl ?_
      refine AOps.splitB 46 rfl (fun e => ?_) (fun e => ?_)
      · replace h := h.1 e
        refine AOps.off rfl rfl ?_
        refine AOps.off rfl rfl ?_
        refine AOps.off rfl rfl ?_
        refine AOps.off rfl rfl ?_
        refine AOps.off rfl rfl ?_
        refine pB rfl rfl rfl ?_
        refine pB rfl rfl rfl ?_
        refine AOps.off rfl rfl ?_
        refine AOps.off rfl rfl ?_
        refine AOps.off rfl rfl ?_
        refine pB rfl rfl rfl ?_
        refine pB rfl rfl rfl ?_
        refine AOps.off rfl rfl ?_
        refine AOps.off rfl rfl ?_
        refine AOps.off rfl rfl ?_
        refine AOps.off rfl rfl ?_
        refine AOps.off rfl rfl ?_
        refine pB rfl rfl rfl ?_
        refine pB rfl rfl rfl ?_
        refine AOps.off rfl rfl ?_
        refine AOps.off rfl rfl ?_
        refine AOps.off rfl rfl ?_
        refine AOps.off rfl rfl ?_
        refine AOps.off rfl rfl ?_
        refine AOps.off rfl rfl ?_
        refine pB rfl rfl rfl ?_
        refine AOps.done ?_
        refine AWp.condT rfl ?_
        refine AWp.seq ?_
        refine AWp.regionN (fun _ => false) rfl ?_
        refine pB rfl rfl rfl ?_
        refine AOps.done ?_
        refine AWp.ret ?_
        subst h
        exact ⟨_, rfl, rfl⟩
      · replace h := h.2 e
        refine pP rfl rfl rfl ?_
        refine pI rfl rfl rfl ?_
        refine pP rfl rfl rfl ?_
        refine pI rfl rfl rfl ?_
        refine pB rfl rfl rfl ?_
        refine pB rfl rfl rfl ?_
        refine pB rfl rfl rfl ?_
        refine AOps.splitB 53 rfl (fun e => ?_) (fun e => ?_)
        · replace h := h.1 e
          refine AOps.off rfl rfl ?_
          refine AOps.off rfl rfl ?_
          refine AOps.off rfl rfl ?_
          refine pB rfl rfl rfl ?_
          refine pB rfl rfl rfl ?_
          refine AOps.off rfl rfl ?_
          refine AOps.off rfl rfl ?_
          refine AOps.off rfl rfl ?_
          refine AOps.off rfl rfl ?_
          refine AOps.off rfl rfl ?_
          refine pB rfl rfl rfl ?_
          refine pB rfl rfl rfl ?_
          refine AOps.off rfl rfl ?_
          refine AOps.off rfl rfl ?_
          refine AOps.off rfl rfl ?_
          refine AOps.off rfl rfl ?_
          refine AOps.off rfl rfl ?_
          refine AOps.off rfl rfl ?_
          refine pB rfl rfl rfl ?_
          refine AOps.done ?_
          refine AWp.condT rfl ?_
          refine AWp.seq ?_
          refine AWp.regionN (fun _ => false) rfl ?_
          refine pB rfl rfl rfl ?_
          refine AOps.done ?_
          refine AWp.ret ?_
          subst h
          exact ⟨_, rfl, rfl⟩
        · replace h := h.2 e
          refine pP rfl rfl rfl ?_
          refine pI rfl rfl rfl ?_
          refine pB rfl rfl rfl ?_
          refine pB rfl rfl rfl ?_
          refine pB rfl rfl rfl ?_
          refine AOps.splitB 58 rfl (fun e => ?_) (fun e => ?_)
          · replace h := h.1 e
            refine AOps.off rfl rfl ?_
            refine AOps.off rfl rfl ?_
            refine AOps.off rfl rfl ?_
            refine AOps.off rfl rfl ?_
            refine AOps.off rfl rfl ?_
            refine pB rfl rfl rfl ?_
            refine pB rfl rfl rfl ?_
            refine AOps.off rfl rfl ?_
            refine AOps.off rfl rfl ?_
            refine AOps.off rfl rfl ?_
            refine AOps.off rfl rfl ?_
            refine AOps.off rfl rfl ?_
            refine AOps.off rfl rfl ?_
            refine pB rfl rfl rfl ?_
            refine AOps.done ?_
            refine AWp.condT rfl ?_
            refine AWp.seq ?_
            refine AWp.regionN (fun _ => false) rfl ?_
            refine pB rfl rfl rfl ?_
            refine AOps.done ?_
            refine AWp.ret ?_
            subst h
            exact ⟨_, rfl, rfl⟩
          · replace h := h.2 e
            refine pP rfl rfl rfl ?_
            refine pI rfl rfl rfl ?_
            refine pP rfl rfl rfl ?_
            refine pI rfl rfl rfl ?_
            refine pB rfl rfl rfl ?_
            refine pB rfl rfl rfl ?_
            refine pB rfl rfl rfl ?_
            refine AOps.splitB 65 rfl (fun e => ?_) (fun e => ?_)
            · replace h := h.1 e
              refine AOps.off rfl rfl ?_
              refine AOps.off rfl rfl ?_
              refine AOps.off rfl rfl ?_
              refine AOps.off rfl rfl ?_
              refine AOps.off rfl rfl ?_
              refine AOps.off rfl rfl ?_
              refine pB rfl rfl rfl ?_
              refine AOps.done ?_
              refine AWp.condT rfl ?_
              refine AWp.seq ?_
              refine AWp.regionN (fun _ => false) rfl ?_
              refine pB rfl rfl rfl ?_
              refine AOps.done ?_
              refine AWp.ret ?_
              subst h
              exact ⟨_, rfl, rfl⟩
            · replace h := h.2 e
              refine pP rfl rfl rfl ?_
              refine pS rfl rfl rfl ?_
              refine pP rfl rfl rfl ?_
              refine pG rfl rfl rfl ?_
              obtain ⟨x28, hc29, h⟩ := h
              refine AOps.call hc29 rfl rfl rfl ⟨.inl rfl, .inl rfl, trivial⟩ ?_
              refine pB rfl rfl rfl ?_
              refine pB rfl rfl rfl ?_
              refine AOps.done ?_
              refine AWp.cond rfl (fun e => ?_) (fun e => ?_)
              · replace h := h.1 e
                refine AWp.seq ?_
                refine AWp.regionN (fun _ => false) rfl ?_
                refine pB rfl rfl rfl ?_
                refine AOps.done ?_
                refine AWp.ret ?_
                subst h
                exact ⟨_, rfl, rfl⟩
              · replace h := h.2 e
                refine AWp.skip ?_
                refine AWp.seq ?_
                refine AWp.seq ?_
                refine AWp.regionN (fun _ => false) rfl ?_
                refine pP rfl rfl rfl ?_
                refine pI rfl rfl rfl ?_
                refine AOps.done ?_
                refine AWp.block ?_
                refine AWp.seq ?_
                refine AWp.regionN (fun _ => false) rfl ?_
                refine pB rfl rfl rfl ?_
                refine pB rfl rfl rfl ?_
                refine AOps.done ?_
                refine AWp.cond rfl (fun e => ?_) (fun e => ?_)
                · replace h := h.1 e
                  refine AWp.seq ?_
                  refine AWp.regionN (fun _ => false) rfl ?_
                  refine pP rfl rfl rfl ?_
                  refine pT rfl rfl rfl ?_
                  obtain ⟨x48, hc49, h⟩ := h
                  refine AOps.call hc49 rfl rfl rfl ⟨.inl rfl, trivial⟩ ?_
                  refine pB rfl rfl rfl ?_
                  refine AOps.done ?_
                  refine AWp.ret ?_
                  subst h
                  exact ⟨_, rfl, rfl⟩
                · replace h := h.2 e
                  refine AWp.seq ?_
                  refine AWp.regionN (fun _ => false) rfl ?_
                  refine pB rfl rfl rfl ?_
                  refine pB rfl rfl rfl ?_
                  refine AOps.done ?_
                  refine AWp.cond rfl (fun e => ?_) (fun e => ?_)
                  · replace h := h.1 e
                    refine AWp.seq ?_
                    refine AWp.regionN (fun _ => false) rfl ?_
                    refine pP rfl rfl rfl ?_
                    refine pT rfl rfl rfl ?_
                    obtain ⟨x52, hc53, h⟩ := h
                    refine AOps.call hc53 rfl rfl rfl ⟨.inl rfl, trivial⟩ ?_
                    refine pB rfl rfl rfl ?_
                    refine AOps.splitB 85 rfl (fun e => ?_) (fun e => ?_)
                    · replace h := h.1 e
                      refine pP rfl rfl rfl ?_
                      refine pP rfl rfl rfl ?_
                      refine pI rfl rfl rfl ?_
                      refine pB rfl rfl rfl ?_
                      refine pB rfl rfl rfl ?_
                      refine pB rfl rfl rfl ?_
                      refine AOps.splitB 91 rfl (fun e => ?_) (fun e => ?_)
                      · replace h := h.1 e
                        refine pP rfl rfl rfl ?_
                        refine pP rfl rfl rfl ?_
                        refine pI rfl rfl rfl ?_
                        refine pB rfl rfl rfl ?_
                        refine pB rfl rfl rfl ?_
                        refine pB rfl rfl rfl ?_
                        refine AOps.splitB 97 rfl (fun e => ?_) (fun e => ?_)
                        · replace h := h.1 e
                          refine pP rfl rfl rfl ?_
                          refine pP rfl rfl rfl ?_
                          refine pI rfl rfl rfl ?_
                          refine pB rfl rfl rfl ?_
                          refine pB rfl rfl rfl ?_
                          refine pB rfl rfl rfl ?_
                          refine AOps.done ?_
                          refine AWp.ret ?_
                          subst h
                          exact ⟨_, rfl, rfl⟩
                        · replace h := h.2 e
                          refine AOps.off rfl rfl ?_
                          refine AOps.off rfl rfl ?_
                          refine AOps.off rfl rfl ?_
                          refine AOps.off rfl rfl ?_
                          refine pB rfl rfl rfl ?_
                          refine pB rfl rfl rfl ?_
                          refine AOps.done ?_
                          refine AWp.ret ?_
                          subst h
                          exact ⟨_, rfl, rfl⟩
                      · replace h := h.2 e
                        refine AOps.off rfl rfl ?_
                        refine AOps.off rfl rfl ?_
                        refine AOps.off rfl rfl ?_
                        refine AOps.off rfl rfl ?_
                        refine pB rfl rfl rfl ?_
                        refine pB rfl rfl rfl ?_
                        refine AOps.off rfl rfl ?_
                        refine AOps.off rfl rfl ?_
                        refine AOps.off rfl rfl ?_
                        refine AOps.off rfl rfl ?_
                        refine pB rfl rfl rfl ?_
                        refine pB rfl rfl rfl ?_
                        refine AOps.done ?_
                        refine AWp.ret ?_
                        subst h
                        exact ⟨_, rfl, rfl⟩
                    · replace h := h.2 e
                      refine AOps.off rfl rfl ?_
                      refine AOps.off rfl rfl ?_
                      refine AOps.off rfl rfl ?_
                      refine AOps.off rfl rfl ?_
                      refine pB rfl rfl rfl ?_
                      refine pB rfl rfl rfl ?_
                      refine AOps.off rfl rfl ?_
                      refine AOps.off rfl rfl ?_
                      refine AOps.off rfl rfl ?_
                      refine AOps.off rfl rfl ?_
                      refine pB rfl rfl rfl ?_
                      refine pB rfl rfl rfl ?_
                      refine AOps.off rfl rfl ?_
                      refine AOps.off rfl rfl ?_
                      refine AOps.off rfl rfl ?_
                      refine AOps.off rfl rfl ?_
                      refine pB rfl rfl rfl ?_
                      refine pB rfl rfl rfl ?_
                      refine AOps.done ?_
                      refine AWp.ret ?_
                      subst h
                      exact ⟨_, rfl, rfl⟩
                  · replace h := h.2 e
                    refine AWp.seq ?_
                    refine AWp.regionN (fun _ => false) rfl ?_
                    refine pB rfl rfl rfl ?_
                    refine pB rfl rfl rfl ?_
                    refine AOps.done ?_
                    refine AWp.cond rfl (fun e => ?_) (fun e => ?_)
                    · replace h := h.1 e
                      refine AWp.seq ?_
                      refine AWp.regionN (fun _ => false) rfl ?_
                      refine pP rfl rfl rfl ?_
                      refine pT rfl rfl rfl ?_
                      refine pT rfl rfl rfl ?_
                      refine AOps.eqs rfl rfl rfl rfl rfl rfl rfl (by decide +kernel) (GRat.eqok23 _ x1.Num GRat.zero) ?_
                      refine pB rfl rfl rfl ?_
                      refine AOps.splitB 109 rfl (fun e => ?_) (fun e => ?_)
                      · replace h := h.1 e
                        refine pP rfl rfl rfl ?_
                        refine pS rfl rfl rfl ?_
                        refine AOps.i (j := ((x1.Kids.length : Nat) : Int)) tabOk rfl rfl rfl (by first | (rw [List.length_map]; done) | rfl) ?_
                        refine pB rfl rfl rfl ?_
                        refine pB rfl rfl rfl ?_
                        refine AOps.splitB 114 rfl (fun e => ?_) (fun e => ?_)
                        · replace h := h.1 e
                          refine AOps.off rfl rfl ?_
                          refine AOps.off rfl rfl ?_
                          refine AOps.off rfl rfl ?_
                          refine AOps.off rfl rfl ?_
                          refine AOps.off rfl rfl ?_
                          refine pB rfl rfl rfl ?_
                          refine pB rfl rfl rfl ?_
                          refine pB rfl rfl rfl ?_
                          refine AOps.done ?_
                          refine AWp.ret ?_
                          subst h
                          exact ⟨_, rfl, rfl⟩
                        · replace h := h.2 e
                          refine pP rfl rfl rfl ?_
                          refine pS rfl rfl rfl ?_
                          obtain ⟨hi61, x62, hx63, h⟩ := h
                          refine AOps.idx tabOk (z := GTree.out x62) rfl rfl rfl rfl rfl rfl rfl rfl hi61 (GTree.get hx63) ?_
                          refine pT rfl rfl rfl ?_
                          obtain ⟨x64, hc65, h⟩ := h
                          refine AOps.call hc65 rfl rfl rfl ⟨.inl rfl, trivial⟩ ?_
                          refine pB rfl rfl rfl ?_
                          refine pB rfl rfl rfl ?_
                          refine pB rfl rfl rfl ?_
                          refine AOps.done ?_
                          refine AWp.ret ?_
                          subst h
                          exact ⟨_, rfl, rfl⟩
                      · replace h := h.2 e
                        refine AOps.off rfl rfl ?_
                        refine AOps.off rfl rfl ?_
                        refine AOps.off rfl rfl ?_
                        refine AOps.off rfl rfl ?_
                        refine AOps.off rfl rfl ?_
                        refine AOps.off rfl rfl ?_
                        refine AOps.off rfl rfl ?_
                        refine AOps.off rfl rfl ?_
                        refine AOps.off rfl rfl ?_
                        refine AOps.off rfl rfl ?_
                        refine AOps.off rfl rfl ?_
                        refine pB rfl rfl rfl ?_
                        refine pB rfl rfl rfl ?_
                        refine AOps.done ?_
                        refine AWp.ret ?_
                        subst h
                        exact ⟨_, rfl, rfl⟩
                    · replace h := h.2 e
                      refine AWp.skip ?_
                      refine AWp.seq ?_
                      refine AWp.regionN (fun _ => false) rfl ?_
                      refine pP rfl rfl rfl ?_
                      refine pT rfl rfl rfl ?_
                      refine pT rfl rfl rfl ?_
                      refine AOps.eqs rfl rfl rfl rfl rfl rfl rfl (by decide +kernel) (GRat.eqok23 _ x1.Num GRat.zero) ?_
                      refine pB rfl rfl rfl ?_
                      refine AOps.done ?_
                      refine AWp.ret ?_
                      subst h
                      exact ⟨_, rfl, rfl⟩
def W_ref13_spec (x1 : Int) (Q : Gref13Spec × Bool → Prop) : Prop :=
  Br (x1 == (30 : Int)) (Q ((Gref13Spec.mk (ByteArray.mk #[]) (0 : Int) (0 : Int) (0 : Int) (ByteArray.mk #[117, 42])), true)) (
    Br (x1 == (31 : Int)) (Q ((Gref13Spec.mk (ByteArray.mk #[78]) (0 : Int) (0 : Int) (0 : Int) (ByteArray.mk #[100, 63])), true)) (
      Br (x1 == (32 : Int)) (Q ((Gref13Spec.mk (ByteArray.mk #[78]) (1 : Int) (2 : Int) (0 : Int) (ByteArray.mk #[73, 42])), true)) (
        Br (x1 == (33 : Int)) (Q ((Gref13Spec.mk (ByteArray.mk #[78]) (0 : Int) (0 : Int) (0 : Int) (ByteArray.mk #[116, 69])), true)) (
          Br (x1 == (34 : Int)) (Q ((Gref13Spec.mk (ByteArray.mk #[78, 70]) (0 : Int) (1000000 : Int) (0 : Int) (ByteArray.mk #[116])), true)) (
            Br (x1 == (35 : Int)) (Q ((Gref13Spec.mk (ByteArray.mk #[78, 65]) (0 : Int) (1000000 : Int) (0 : Int) (ByteArray.mk #[109, 42])), true)) (
              Br (x1 == (36 : Int)) (Q ((Gref13Spec.mk (ByteArray.mk #[78]) (0 : Int) (0 : Int) (0 : Int) (ByteArray.mk #[69])), true)) (
                Br (x1 == (37 : Int)) (Q ((Gref13Spec.mk (ByteArray.mk #[]) (0 : Int) (0 : Int) (0 : Int) (ByteArray.mk #[83, 69, 69])), true)) (
                  Br (x1 == (38 : Int)) (Q ((Gref13Spec.mk (ByteArray.mk #[]) (0 : Int) (0 : Int) (0 : Int) (ByteArray.mk #[102, 102])), true)) (
                    Join1 (fun j18 =>
                      Br (x1 == (39 : Int)) (j18 (x1 == (39 : Int))) (
                        Br (x1 == (8 : Int)) (j18 (x1 == (8 : Int))) (
                          Br (x1 == (9 : Int)) (j18 (x1 == (9 : Int))) (
                            Br (x1 == (10 : Int)) (j18 (x1 == (10 : Int))) (
                              j18 (x1 == (11 : Int))))))
                    ) (fun (x17 : Bool) =>
                      Br x17 (Q ((Gref13Spec.mk (ByteArray.mk #[]) (0 : Int) (0 : Int) (0 : Int) (ByteArray.mk #[69, 69])), true)) (
                        Br (x1 == (40 : Int)) (Q ((Gref13Spec.mk (ByteArray.mk #[78]) (0 : Int) (1000000 : Int) (1000000 : Int) (ByteArray.mk #[114, 42])), true)) (
                          Br (x1 == (41 : Int)) (Q ((Gref13Spec.mk (ByteArray.mk #[]) (0 : Int) (0 : Int) (0 : Int) (ByteArray.mk #[100, 63])), true)) (
                            Br (x1 == (1 : Int)) (Q ((Gref13Spec.mk (ByteArray.mk #[82]) (0 : Int) (0 : Int) (0 : Int) (ByteArray.mk #[])), true)) (
                              Br (x1 == (2 : Int)) (Q ((Gref13Spec.mk (ByteArray.mk #[]) (0 : Int) (0 : Int) (0 : Int) (ByteArray.mk #[120, 43])), true)) (
                                Br (x1 == (3 : Int)) (Q ((Gref13Spec.mk (ByteArray.mk #[78]) (0 : Int) (0 : Int) (0 : Int) (ByteArray.mk #[69, 63])), true)) (
                                  Br (x1 == (4 : Int)) (Q ((Gref13Spec.mk (ByteArray.mk #[]) (0 : Int) (0 : Int) (0 : Int) (ByteArray.mk #[102])), true)) (
                                    Join1 (fun j20 =>
                                      Br (x1 == (5 : Int)) (j20 (x1 == (5 : Int))) (
                                        j20 (x1 == (20 : Int)))
                                    ) (fun (x19 : Bool) =>
                                      Br x19 (Q ((Gref13Spec.mk (ByteArray.mk #[]) (0 : Int) (0 : Int) (0 : Int) (ByteArray.mk #[])), true)) (
                                        Br (x1 == (6 : Int)) (Q ((Gref13Spec.mk (ByteArray.mk #[]) (9 : Int) (14 : Int) (0 : Int) (ByteArray.mk #[69])), true)) (
                                          Br (x1 == (7 : Int)) (Q ((Gref13Spec.mk (ByteArray.mk #[]) (0 : Int) (0 : Int) (0 : Int) (ByteArray.mk #[69])), true)) (
                                            Br (x1 == (12 : Int)) (Q ((Gref13Spec.mk (ByteArray.mk #[]) (-64 : Int) (64 : Int) (0 : Int) (ByteArray.mk #[69])), true)) (
                                              Br (x1 == (21 : Int)) (Q ((Gref13Spec.mk (ByteArray.mk #[78]) (0 : Int) (0 : Int) (0 : Int) (ByteArray.mk #[])), true)) (
                                                Join1 (fun j22 =>
                                                  Br (x1 == (22 : Int)) (j22 (x1 == (22 : Int))) (
                                                    j22 (x1 == (23 : Int)))
                                                ) (fun (x21 : Bool) =>
                                                  Br x21 (Q ((Gref13Spec.mk (ByteArray.mk #[]) (0 : Int) (0 : Int) (0 : Int) (ByteArray.mk #[100, 100])), true)) (
                                                    Br (x1 == (24 : Int)) (Q ((Gref13Spec.mk (ByteArray.mk #[82]) (0 : Int) (0 : Int) (0 : Int) (ByteArray.mk #[100])), true)) (
                                                      Q (Gref13Spec.zero, false)))))))))))))))))))))))))))
theorem walk_ref13_spec {x1 : Int} {r : Gref13Spec × Bool} (h : W_ref13_spec x1 (fun r' => r' = r)) : Ev_ref13_spec x1 r := by
  unfold W_ref13_spec at h
  refine AFn.intro' (L := [(0, .dat (.v (.int .i64 x1)))]) tabOk Tryz.func105 rfl rfl Tryz.ntmps105 rfl rfl rfl ?_
  refine AWp.seq ?_
  refine AWp.regionN (fun _ => false) rfl ?_
  refine AOps.alloc tabOk rfl rfl rfl rfl rfl ?_
  refine pB rfl rfl rfl ?_
  refine AOps.done ?_
  refine AWp.seq ?_
  refine AWp.regionN (fun _ => false) rfl ?_
  refine pI rfl rfl rfl ?_
  refine AOps.done ?_
  refine AWp.seq ?_
  refine AWp.seq ?_
  refine AWp.regionN (fun _ => false) rfl ?_
  refine pI rfl rfl rfl ?_
  refine AOps.done ?_
  refine AWp.block ?_
  refine AWp.seq ?_
  refine AWp.regionN (fun _ => false) rfl ?_
  refine pB rfl rfl rfl ?_
  refine pB rfl rfl rfl ?_
  refine AOps.done ?_
  refine AWp.cond rfl (fun e => ?_) (fun e => ?_)
  · replace h := h.1 e
    refine AWp.seq ?_
    refine AWp.regionN (fun o => writes o) rfl ?_
    refine pT rfl rfl rfl ?_
    refine AOps.store tabOk (v := .dat (.st _ _)) rfl rfl rfl rfl rfl rfl rfl rfl rfl rfl rfl rfl rfl ?_
    refine pB rfl rfl rfl ?_
    refine AOps.done ?_
    refine AWp.ret ?_
    subst h
    exact ⟨_, rfl, rfl⟩
  · replace h := h.2 e
    refine AWp.seq ?_
    refine AWp.regionN (fun _ => false) rfl ?_
    refine pB rfl rfl rfl ?_
    refine pB rfl rfl rfl ?_
    refine AOps.done ?_
    refine AWp.cond rfl (fun e => ?_) (fun e => ?_)
    · replace h := h.1 e
      refine AWp.seq ?_
      refine AWp.regionN (fun o => writes o) rfl ?_
      refine pT rfl rfl rfl ?_
      refine AOps.store tabOk (v := .dat (.st _ _)) rfl rfl rfl rfl rfl rfl rfl rfl rfl rfl rfl rfl rfl ?_
      refine pB rfl rfl rfl ?_
      refine AOps.done ?_
      refine AWp.ret ?_
      subst h
      exact ⟨_, rfl, rfl⟩
    · replace h := h.2 e
      refine AWp.seq ?_
      refine AWp.regionN (fun _ => false) rfl ?_
      refine pB rfl rfl rfl ?_
      refine pB rfl rfl rfl ?_
      refine AOps.done ?_
      refine AWp.cond rfl (fun e => ?_) (fun e => ?_)
      · replace h := h.1 e
        refine AWp.seq ?_
        refine AWp.regionN (fun o => writes o) rfl ?_
        refine pT rfl rfl rfl ?_
        refine AOps.store tabOk (v := .dat (.st _ _)) rfl rfl rfl rfl rfl rfl rfl rfl rfl rfl rfl rfl rfl ?_
        refine pB rfl rfl rfl ?_
        refine AOps.done ?_
        refine AWp.ret ?_
        subst h
        exact ⟨_, rfl, rfl⟩
      · replace h := h.2 e
        refine AWp.seq ?_
        refine AWp.regionN (fun _ => false) rfl ?_
        refine pB rfl rfl rfl ?_
        refine pB rfl rfl rfl ?_
        refine AOps.done ?_
        refine AWp.cond rfl (fun e => ?_) (fun e => ?_)
        · replace h := h.1 e
          refine AWp.seq ?_
          refine AWp.regionN (fun o => writes o) rfl ?_
          refine pT rfl rfl rfl ?_
          refine AOps.store tabOk (v := .dat (.st _ _)) rfl rfl rfl rfl rfl rfl rfl rfl rfl rfl rfl rfl rfl ?_
          refine pB rfl rfl rfl ?_
          refine AOps.done ?_
          refine AWp.ret ?_
          subst h
          exact ⟨_, rfl, rfl⟩
        · replace h := h.2 e
          refine AWp.seq ?_
          refine AWp.regionN (fun _ => false) rfl ?_
          refine pB rfl rfl rfl ?_
          refine pB rfl rfl rfl ?_
          refine AOps.done ?_
          refine AWp.cond rfl (fun e => ?_) (fun e => ?_)
          · replace h := h.1 e
            refine AWp.seq ?_
            refine AWp.regionN (fun o => writes o) rfl ?_
            refine pI rfl rfl rfl ?_
            refine pT rfl rfl rfl ?_
            refine AOps.store tabOk (v := .dat (.st _ _)) rfl rfl rfl rfl rfl rfl rfl rfl rfl rfl rfl rfl rfl ?_
            refine pB rfl rfl rfl ?_
            refine AOps.done ?_
            refine AWp.ret ?_
            subst h
            exact ⟨_, rfl, rfl⟩
          · replace h := h.2 e
            refine AWp.seq ?_
            refine AWp.regionN (fun _ => false) rfl ?_
            refine pB rfl rfl rfl ?_
            refine pB rfl rfl rfl ?_
            refine AOps.done ?_
            refine AWp.cond rfl (fun e => ?_) (fun e => ?_)
            · replace h := h.1 e
              refine AWp.seq ?_
              refine AWp.regionN (fun o => writes o) rfl ?_
              refine pI rfl rfl rfl ?_
              refine pT rfl rfl rfl ?_
              refine AOps.store tabOk (v := .dat (.st _ _)) rfl rfl rfl rfl rfl rfl rfl rfl rfl rfl rfl rfl rfl ?_
              refine pB rfl rfl rfl ?_
              refine AOps.done ?_
              refine AWp.ret ?_
              subst h
              exact ⟨_, rfl, rfl⟩
            · replace h := h.2 e
              refine AWp.seq ?_
              refine AWp.regionN (fun _ => false) rfl ?_
              refine pB rfl rfl rfl ?_
              refine pB rfl rfl rfl ?_
              refine AOps.done ?_
              refine AWp.cond rfl (fun e => ?_) (fun e => ?_)
              · replace h := h.1 e
                refine AWp.seq ?_
                refine AWp.regionN (fun o => writes o) rfl ?_
                refine pT rfl rfl rfl ?_
                refine AOps.store tabOk (v := .dat (.st _ _)) rfl rfl rfl rfl rfl rfl rfl rfl rfl rfl rfl rfl rfl ?_
                refine pB rfl rfl rfl ?_
                refine AOps.done ?_
                refine AWp.ret ?_
                subst h
                exact ⟨_, rfl, rfl⟩
              · replace h := h.2 e
                refine AWp.seq ?_
                refine AWp.regionN (fun _ => false) rfl ?_
                refine pB rfl rfl rfl ?_
                refine pB rfl rfl rfl ?_
                refine AOps.done ?_
                refine AWp.cond rfl (fun e => ?_) (fun e => ?_)
                · replace h := h.1 e
                  refine AWp.seq ?_
                  refine AWp.regionN (fun o => writes o) rfl ?_
                  refine pT rfl rfl rfl ?_
                  refine AOps.store tabOk (v := .dat (.st _ _)) rfl rfl rfl rfl rfl rfl rfl rfl rfl rfl rfl rfl rfl ?_
                  refine pB rfl rfl rfl ?_
                  refine AOps.done ?_
                  refine AWp.ret ?_
                  subst h
                  exact ⟨_, rfl, rfl⟩
                · replace h := h.2 e
                  refine AWp.seq ?_
                  refine AWp.regionN (fun _ => false) rfl ?_
                  refine pB rfl rfl rfl ?_
                  refine pB rfl rfl rfl ?_
                  refine AOps.done ?_
                  refine AWp.cond rfl (fun e => ?_) (fun e => ?_)
                  · replace h := h.1 e
                    refine AWp.seq ?_
                    refine AWp.regionN (fun o => writes o) rfl ?_
                    refine pT rfl rfl rfl ?_
                    refine AOps.store tabOk (v := .dat (.st _ _)) rfl rfl rfl rfl rfl rfl rfl rfl rfl rfl rfl rfl rfl ?_
                    refine pB rfl rfl rfl ?_
                    refine AOps.done ?_
                    refine AWp.ret ?_
                    subst h
                    exact ⟨_, rfl, rfl⟩
                  · replace h := h.2 e
                    refine AWp.seq ?_
                    refine AWp.seq ?_
                    refine AWp.regionN (fun _ => false) rfl ?_
                    refine pB rfl rfl rfl ?_
                    refine pB rfl rfl rfl ?_
                    refine AOps.done ?_
                    obtain ⟨J29, hj30, hk31⟩ := h
                    refine AWp.cutK (I := fun p : Bool => mkSt [(2, .pt 2 [] 0), (4, .dat (.v (.int .i64 (1000000 : Int)))), (5, .dat (.v (.int .i64 x1))), (35, .dat (.v (.bool p)))] [(2, .box 98 5 (.dat (Gref13Spec.enc Gref13Spec.zero)))]) (Inv := fun p : Bool => J29 p) ?_ (fun p hp => ?_)
                    · have h := hj30
                      refine AWp.cond rfl (fun e => ?_) (fun e => ?_)
                      · replace h := h.1 e
                        refine AWp.skip ?_
                        exact ⟨(x1 == (39 : Int)), h, (Sub.list (fun i => i) rfl rfl ⟨rfl, rfl, rfl, rfl, trivial⟩ ⟨rfl, trivial⟩)⟩
                      · replace h := h.2 e
                        refine AWp.seq ?_
                        refine AWp.regionN (fun _ => false) rfl ?_
                        refine pB rfl rfl rfl ?_
                        refine pB rfl rfl rfl ?_
                        refine AOps.done ?_
                        refine AWp.cond rfl (fun e => ?_) (fun e => ?_)
                        · replace h := h.1 e
                          refine AWp.skip ?_
                          exact ⟨(x1 == (8 : Int)), h, (Sub.list (fun i => i) rfl rfl ⟨rfl, rfl, rfl, rfl, trivial⟩ ⟨rfl, trivial⟩)⟩
                        · replace h := h.2 e
                          refine AWp.seq ?_
                          refine AWp.regionN (fun _ => false) rfl ?_
                          refine pB rfl rfl rfl ?_
                          refine pB rfl rfl rfl ?_
                          refine AOps.done ?_
                          refine AWp.cond rfl (fun e => ?_) (fun e => ?_)
                          · replace h := h.1 e
                            refine AWp.skip ?_
                            exact ⟨(x1 == (9 : Int)), h, (Sub.list (fun i => i) rfl rfl ⟨rfl, rfl, rfl, rfl, trivial⟩ ⟨rfl, trivial⟩)⟩
                          · replace h := h.2 e
                            refine AWp.seq ?_
                            refine AWp.regionN (fun _ => false) rfl ?_
                            refine pB rfl rfl rfl ?_
                            refine pB rfl rfl rfl ?_
                            refine AOps.done ?_
                            refine AWp.cond rfl (fun e => ?_) (fun e => ?_)
                            · replace h := h.1 e
                              refine AWp.skip ?_
                              exact ⟨(x1 == (10 : Int)), h, (Sub.list (fun i => i) rfl rfl ⟨rfl, rfl, rfl, rfl, trivial⟩ ⟨rfl, trivial⟩)⟩
                            · replace h := h.2 e
                              refine AWp.regionN (fun _ => false) rfl ?_
                              refine pB rfl rfl rfl ?_
                              refine pB rfl rfl rfl ?_
                              refine AOps.done ?_
                              exact ⟨(x1 == (11 : Int)), h, (Sub.list (fun i => i) rfl rfl ⟨rfl, rfl, rfl, rfl, trivial⟩ ⟨rfl, trivial⟩)⟩
                    · have h := hk31 p hp
                      revert h; clear hp; generalize p = x17; intro h
                      refine AWp.cond rfl (fun e => ?_) (fun e => ?_)
                      · replace h := h.1 e
                        refine AWp.seq ?_
                        refine AWp.regionN (fun o => writes o) rfl ?_
                        refine pT rfl rfl rfl ?_
                        refine AOps.store tabOk (v := .dat (.st _ _)) rfl rfl rfl rfl rfl rfl rfl rfl rfl rfl rfl rfl rfl ?_
                        refine pB rfl rfl rfl ?_
                        refine AOps.done ?_
                        refine AWp.ret ?_
                        subst h
                        exact ⟨_, rfl, rfl⟩
                      · replace h := h.2 e
                        refine AWp.seq ?_
                        refine AWp.regionN (fun _ => false) rfl ?_
                        refine pB rfl rfl rfl ?_
                        refine pB rfl rfl rfl ?_
                        refine AOps.done ?_
                        refine AWp.cond rfl (fun e => ?_) (fun e => ?_)
                        · replace h := h.1 e
                          refine AWp.seq ?_
                          refine AWp.regionN (fun o => writes o) rfl ?_
                          refine pI rfl rfl rfl ?_
                          refine pI rfl rfl rfl ?_
                          refine pT rfl rfl rfl ?_
                          refine AOps.store tabOk (v := .dat (.st _ _)) rfl rfl rfl rfl rfl rfl rfl rfl rfl rfl rfl rfl rfl ?_
                          refine pB rfl rfl rfl ?_
                          refine AOps.done ?_
                          refine AWp.ret ?_
                          subst h
                          exact ⟨_, rfl, rfl⟩
                        · replace h := h.2 e
                          refine AWp.seq ?_
                          refine AWp.regionN (fun _ => false) rfl ?_
                          refine pB rfl rfl rfl ?_
                          refine pB rfl rfl rfl ?_
                          refine AOps.done ?_
                          refine AWp.cond rfl (fun e => ?_) (fun e => ?_)
                          · replace h := h.1 e
                            refine AWp.seq ?_
                            refine AWp.regionN (fun o => writes o) rfl ?_
                            refine pT rfl rfl rfl ?_
                            refine AOps.store tabOk (v := .dat (.st _ _)) rfl rfl rfl rfl rfl rfl rfl rfl rfl rfl rfl rfl rfl ?_
                            refine pB rfl rfl rfl ?_
                            refine AOps.done ?_
                            refine AWp.ret ?_
                            subst h
                            exact ⟨_, rfl, rfl⟩
                          · replace h := h.2 e
                            refine AWp.seq ?_
                            refine AWp.regionN (fun _ => false) rfl ?_
                            refine pB rfl rfl rfl ?_
                            refine pB rfl rfl rfl ?_
                            refine AOps.done ?_
                            refine AWp.cond rfl (fun e => ?_) (fun e => ?_)
                            · replace h := h.1 e
                              refine AWp.seq ?_
                              refine AWp.regionN (fun o => writes o) rfl ?_
                              refine pT rfl rfl rfl ?_
                              refine AOps.store tabOk (v := .dat (.st _ _)) rfl rfl rfl rfl rfl rfl rfl rfl rfl rfl rfl rfl rfl ?_
                              refine pB rfl rfl rfl ?_
                              refine AOps.done ?_
                              refine AWp.ret ?_
                              subst h
                              exact ⟨_, rfl, rfl⟩
                            · replace h := h.2 e
                              refine AWp.seq ?_
                              refine AWp.regionN (fun _ => false) rfl ?_
                              refine pB rfl rfl rfl ?_
                              refine pB rfl rfl rfl ?_
                              refine AOps.done ?_
                              refine AWp.cond rfl (fun e => ?_) (fun e => ?_)
                              · replace h := h.1 e
                                refine AWp.seq ?_
                                refine AWp.regionN (fun o => writes o) rfl ?_
                                refine pT rfl rfl rfl ?_
                                refine AOps.store tabOk (v := .dat (.st _ _)) rfl rfl rfl rfl rfl rfl rfl rfl rfl rfl rfl rfl rfl ?_
                                refine pB rfl rfl rfl ?_
                                refine AOps.done ?_
                                refine AWp.ret ?_
                                subst h
                                exact ⟨_, rfl, rfl⟩
                              · replace h := h.2 e
                                refine AWp.seq ?_
                                refine AWp.regionN (fun _ => false) rfl ?_
                                refine pB rfl rfl rfl ?_
                                refine pB rfl rfl rfl ?_
                                refine AOps.done ?_
                                refine AWp.cond rfl (fun e => ?_) (fun e => ?_)
                                · replace h := h.1 e
                                  refine AWp.seq ?_
                                  refine AWp.regionN (fun o => writes o) rfl ?_
                                  refine pT rfl rfl rfl ?_
                                  refine AOps.store tabOk (v := .dat (.st _ _)) rfl rfl rfl rfl rfl rfl rfl rfl rfl rfl rfl rfl rfl ?_
                                  refine pB rfl rfl rfl ?_
                                  refine AOps.done ?_
                                  refine AWp.ret ?_
                                  subst h
                                  exact ⟨_, rfl, rfl⟩
                                · replace h := h.2 e
                                  refine AWp.seq ?_
                                  refine AWp.regionN (fun _ => false) rfl ?_
                                  refine pB rfl rfl rfl ?_
                                  refine pB rfl rfl rfl ?_
                                  refine AOps.done ?_
                                  refine AWp.cond rfl (fun e => ?_) (fun e => ?_)
                                  · replace h := h.1 e
                                    refine AWp.seq ?_
                                    refine AWp.regionN (fun o => writes o) rfl ?_
                                    refine pT rfl rfl rfl ?_
                                    refine AOps.store tabOk (v := .dat (.st _ _)) rfl rfl rfl rfl rfl rfl rfl rfl rfl rfl rfl rfl rfl ?_
                                    refine pB rfl rfl rfl ?_
                                    refine AOps.done ?_
                                    refine AWp.ret ?_
                                    subst h
                                    exact ⟨_, rfl, rfl⟩
                                  · replace h := h.2 e
                                    refine AWp.seq ?_
                                    refine AWp.seq ?_
                                    refine AWp.regionN (fun _ => false) rfl ?_
                                    refine pB rfl rfl rfl ?_
                                    refine pB rfl rfl rfl ?_
                                    refine AOps.done ?_
                                    obtain ⟨J26, hj27, hk28⟩ := h
                                    refine AWp.cutK (I := fun p : Bool => mkSt [(2, .pt 2 [] 0), (5, .dat (.v (.int .i64 x1))), (62, .dat (.v (.bool p)))] [(2, .box 98 5 (.dat (Gref13Spec.enc Gref13Spec.zero)))]) (Inv := fun p : Bool => J26 p) ?_ (fun p hp => ?_)
                                    · have h := hj27
                                      refine AWp.cond rfl (fun e => ?_) (fun e => ?_)
                                      · replace h := h.1 e
                                        refine AWp.skip ?_
                                        exact ⟨(x1 == (5 : Int)), h, (Sub.list (fun i => i) rfl rfl ⟨rfl, rfl, rfl, trivial⟩ ⟨rfl, trivial⟩)⟩
                                      · replace h := h.2 e
                                        refine AWp.regionN (fun _ => false) rfl ?_
                                        refine pB rfl rfl rfl ?_
                                        refine pB rfl rfl rfl ?_
                                        refine AOps.done ?_
                                        exact ⟨(x1 == (20 : Int)), h, (Sub.list (fun i => i) rfl rfl ⟨rfl, rfl, rfl, trivial⟩ ⟨rfl, trivial⟩)⟩
                                    · have h := hk28 p hp
                                      revert h; clear hp; generalize p = x19; intro h
                                      refine AWp.cond rfl (fun e => ?_) (fun e => ?_)
                                      · replace h := h.1 e
                                        refine AWp.seq ?_
                                        refine AWp.regionN (fun o => writes o) rfl ?_
                                        refine pT rfl rfl rfl ?_
                                        refine AOps.store tabOk (v := .dat (.st _ _)) rfl rfl rfl rfl rfl rfl rfl rfl rfl rfl rfl rfl rfl ?_
                                        refine pB rfl rfl rfl ?_
                                        refine AOps.done ?_
                                        refine AWp.ret ?_
                                        subst h
                                        exact ⟨_, rfl, rfl⟩
                                      · replace h := h.2 e
                                        refine AWp.seq ?_
                                        refine AWp.regionN (fun _ => false) rfl ?_
                                        refine pB rfl rfl rfl ?_
                                        refine pB rfl rfl rfl ?_
                                        refine AOps.done ?_
                                        refine AWp.cond rfl (fun e => ?_) (fun e => ?_)
                                        · replace h := h.1 e
                                          refine AWp.seq ?_
                                          refine AWp.regionN (fun o => writes o) rfl ?_
                                          refine pT rfl rfl rfl ?_
                                          refine AOps.store tabOk (v := .dat (.st _ _)) rfl rfl rfl rfl rfl rfl rfl rfl rfl rfl rfl rfl rfl ?_
                                          refine pB rfl rfl rfl ?_
                                          refine AOps.done ?_
                                          refine AWp.ret ?_
                                          subst h
                                          exact ⟨_, rfl, rfl⟩
                                        · replace h := h.2 e
                                          refine AWp.seq ?_
                                          refine AWp.regionN (fun _ => false) rfl ?_
                                          refine pB rfl rfl rfl ?_
                                          refine pB rfl rfl rfl ?_
                                          refine AOps.done ?_
                                          refine AWp.cond rfl (fun e => ?_) (fun e => ?_)
                                          · replace h := h.1 e
                                            refine AWp.seq ?_
                                            refine AWp.regionN (fun o => writes o) rfl ?_
                                            refine pT rfl rfl rfl ?_
                                            refine AOps.store tabOk (v := .dat (.st _ _)) rfl rfl rfl rfl rfl rfl rfl rfl rfl rfl rfl rfl rfl ?_
                                            refine pB rfl rfl rfl ?_
                                            refine AOps.done ?_
                                            refine AWp.ret ?_
                                            subst h
                                            exact ⟨_, rfl, rfl⟩
                                          · replace h := h.2 e
                                            refine AWp.seq ?_
                                            refine AWp.regionN (fun _ => false) rfl ?_
                                            refine pB rfl rfl rfl ?_
                                            refine pB rfl rfl rfl ?_
                                            refine AOps.done ?_
                                            refine AWp.cond rfl (fun e => ?_) (fun e => ?_)
                                            · replace h := h.1 e
                                              refine AWp.seq ?_
                                              refine AWp.regionN (fun o => writes o) rfl ?_
                                              refine pT rfl rfl rfl ?_
                                              refine AOps.store tabOk (v := .dat (.st _ _)) rfl rfl rfl rfl rfl rfl rfl rfl rfl rfl rfl rfl rfl ?_
                                              refine pB rfl rfl rfl ?_
                                              refine AOps.done ?_
                                              refine AWp.ret ?_
                                              subst h
                                              exact ⟨_, rfl, rfl⟩
                                            · replace h := h.2 e
                                              refine AWp.seq ?_
                                              refine AWp.regionN (fun _ => false) rfl ?_
                                              refine pB rfl rfl rfl ?_
                                              refine pB rfl rfl rfl ?_
                                              refine AOps.done ?_
                                              refine AWp.cond rfl (fun e => ?_) (fun e => ?_)
                                              · replace h := h.1 e
                                                refine AWp.seq ?_
                                                refine AWp.regionN (fun o => writes o) rfl ?_
                                                refine pT rfl rfl rfl ?_
                                                refine AOps.store tabOk (v := .dat (.st _ _)) rfl rfl rfl rfl rfl rfl rfl rfl rfl rfl rfl rfl rfl ?_
                                                refine pB rfl rfl rfl ?_
                                                refine AOps.done ?_
                                                refine AWp.ret ?_
                                                subst h
                                                exact ⟨_, rfl, rfl⟩
                                              · replace h := h.2 e
                                                refine AWp.seq ?_
                                                refine AWp.seq ?_
                                                refine AWp.regionN (fun _ => false) rfl ?_
                                                refine pB rfl rfl rfl ?_
                                                refine pB rfl rfl rfl ?_
                                                refine AOps.done ?_
                                                obtain ⟨J23, hj24, hk25⟩ := h
                                                refine AWp.cutK (I := fun p : Bool => mkSt [(2, .pt 2 [] 0), (5, .dat (.v (.int .i64 x1))), (78, .dat (.v (.bool p)))] [(2, .box 98 5 (.dat (Gref13Spec.enc Gref13Spec.zero)))]) (Inv := fun p : Bool => J23 p) ?_ (fun p hp => ?_)
                                                · have h := hj24
                                                  refine AWp.cond rfl (fun e => ?_) (fun e => ?_)
                                                  · replace h := h.1 e
                                                    refine AWp.skip ?_
                                                    exact ⟨(x1 == (22 : Int)), h, (Sub.list (fun i => i) rfl rfl ⟨rfl, rfl, rfl, trivial⟩ ⟨rfl, trivial⟩)⟩
                                                  · replace h := h.2 e
                                                    refine AWp.regionN (fun _ => false) rfl ?_
                                                    refine pB rfl rfl rfl ?_
                                                    refine pB rfl rfl rfl ?_
                                                    refine AOps.done ?_
                                                    exact ⟨(x1 == (23 : Int)), h, (Sub.list (fun i => i) rfl rfl ⟨rfl, rfl, rfl, trivial⟩ ⟨rfl, trivial⟩)⟩
                                                · have h := hk25 p hp
                                                  revert h; clear hp; generalize p = x21; intro h
                                                  refine AWp.cond rfl (fun e => ?_) (fun e => ?_)
                                                  · replace h := h.1 e
                                                    refine AWp.seq ?_
                                                    refine AWp.regionN (fun o => writes o) rfl ?_
                                                    refine pT rfl rfl rfl ?_
                                                    refine AOps.store tabOk (v := .dat (.st _ _)) rfl rfl rfl rfl rfl rfl rfl rfl rfl rfl rfl rfl rfl ?_
                                                    refine pB rfl rfl rfl ?_
                                                    refine AOps.done ?_
                                                    refine AWp.ret ?_
                                                    subst h
                                                    exact ⟨_, rfl, rfl⟩
                                                  · replace h := h.2 e
                                                    refine AWp.seq ?_
                                                    refine AWp.regionN (fun _ => false) rfl ?_
                                                    refine pB rfl rfl rfl ?_
                                                    refine pB rfl rfl rfl ?_
                                                    refine AOps.done ?_
                                                    refine AWp.cond rfl (fun e => ?_) (fun e => ?_)
                                                    · replace h := h.1 e
                                                      refine AWp.seq ?_
                                                      refine AWp.regionN (fun o => writes o) rfl ?_
                                                      refine pT rfl rfl rfl ?_
                                                      refine AOps.store tabOk (v := .dat (.st _ _)) rfl rfl rfl rfl rfl rfl rfl rfl rfl rfl rfl rfl rfl ?_
                                                      refine pB rfl rfl rfl ?_
                                                      refine AOps.done ?_
                                                      refine AWp.ret ?_
                                                      subst h
                                                      exact ⟨_, rfl, rfl⟩
                                                    · replace h := h.2 e
                                                      refine AWp.skip ?_
                                                      refine AWp.seq ?_
                                                      refine AWp.regionN (fun o => writes o) rfl ?_
                                                      refine pT rfl rfl rfl ?_
                                                      refine AOps.store tabOk (v := .dat (.st _ _)) rfl rfl rfl rfl rfl rfl rfl rfl rfl rfl rfl rfl rfl ?_
                                                      refine pB rfl rfl rfl ?_
                                                      refine AOps.done ?_
                                                      refine AWp.ret ?_
                                                      subst h
                                                      exact ⟨_, rfl, rfl⟩
def W_ref13_name (s1 : ByteArray) (must2 : Bool) (Q : Bool → Prop) : Prop :=
  Br must2 (
    Call (Ev_ref12_Name s1) fun x5 =>
    Q x5) (
    Q (s1.toList == (ByteArray.mk #[]).toList))
theorem walk_ref13_name {s1 : ByteArray} {must2 : Bool} {r : Bool} (h : W_ref13_name s1 must2 (fun r' => r' = r)) : Ev_ref13_name s1 must2 r := by
  unfold W_ref13_name at h
  refine AFn.intro' (L := [(0, .dat (.v (.string s1))), (1, .dat (.v (.bool must2)))]) tabOk Tryz.func106 rfl rfl Tryz.ntmps106 rfl rfl rfl ?_
  refine AWp.seq ?_
  refine AWp.regionN (fun _ => false) rfl ?_
  refine pB rfl rfl rfl ?_
  refine AOps.done ?_
  refine AWp.seq ?_
  refine AWp.seq ?_
  refine AWp.regionN (fun _ => false) rfl ?_
  refine pB rfl rfl rfl ?_
  refine AOps.done ?_
  refine AWp.cond rfl (fun e => ?_) (fun e => ?_)
  · replace h := h.1 e
    refine AWp.seq ?_
    refine AWp.regionN (fun _ => false) rfl ?_
    refine pG rfl rfl rfl ?_
    obtain ⟨x5, hc6, h⟩ := h
    refine AOps.call hc6 rfl rfl rfl ⟨.inl rfl, trivial⟩ ?_
    refine pB rfl rfl rfl ?_
    refine AOps.done ?_
    refine AWp.ret ?_
    subst h
    exact ⟨_, rfl, rfl⟩
  · replace h := h.2 e
    refine AWp.skip ?_
    refine AWp.seq ?_
    refine AWp.regionN (fun _ => false) rfl ?_
    refine pG rfl rfl rfl ?_
    refine pB rfl rfl rfl ?_
    refine pB rfl rfl rfl ?_
    refine AOps.done ?_
    refine AWp.ret ?_
    subst h
    exact ⟨_, rfl, rfl⟩
def W_ref13_has (s1 : ByteArray) (c2 : Int) (Q : Bool → Prop) : Prop :=
  Loop1 (0 : Int) (fun (i32 : Int) next33 =>
    Br (decide (i32 < ((s1.size : Nat) : Int))) (
      AtS s1 i32 fun x38 =>
      Br (x38 == c2) (Q true) (
        Let (IntKind.i64.wrap (i32 + (1 : Int))) fun x40 =>
        next33 x40)) (
      Q false))
theorem walk_ref13_has {s1 : ByteArray} {c2 : Int} {r : Bool} (h : W_ref13_has s1 c2 (fun r' => r' = r)) : Ev_ref13_has s1 c2 r := by
  unfold W_ref13_has at h
  refine AFn.intro' (L := [(0, .dat (.v (.string s1))), (1, .dat (.v (.int .u8 c2)))]) tabOk Tryz.func107 rfl rfl Tryz.ntmps107 rfl rfl rfl ?_
  refine AWp.seq ?_
  refine AWp.regionN (fun _ => false) rfl ?_
  refine pB rfl rfl rfl ?_
  refine AOps.done ?_
  refine AWp.seq ?_
  refine AWp.seq ?_
  refine AWp.regionN (fun _ => false) rfl ?_
  refine pI rfl rfl rfl ?_
  refine AOps.done ?_
  refine AWp.block ?_
  obtain ⟨I41, x42, hz43, hr44⟩ := h
  refine AWp.loop (I := fun p : Int => mkSt [(0, .dat (.v (.string s1))), (1, .dat (.v (.int .u8 c2))), (5, .dat (.v (.int .i64 p)))] []) (Inv := fun p => I41 p) (μ := fun p => x42 p) (x0 := (0 : Int)) hz43 (Sub.list (fun i => i) rfl rfl ⟨rfl, rfl, rfl, trivial⟩ trivial) (fun p hp => ?_)
  have h := hr44 p hp
  revert h; clear hp; generalize p = i32; intro h
  refine AWp.seq ?_
  refine AWp.seq ?_
  refine AWp.regionN (fun _ => false) rfl ?_
  refine pI rfl rfl rfl ?_
  refine pG rfl rfl rfl ?_
  refine pI rfl rfl rfl ?_
  refine pB rfl rfl rfl ?_
  refine AOps.done ?_
  refine AWp.cond rfl (fun e => ?_) (fun e => ?_)
  · replace h := h.1 e
    refine AWp.skip ?_
    refine AWp.seq ?_
    refine AWp.block ?_
    refine AWp.seq ?_
    refine AWp.regionN (fun _ => false) rfl ?_
    refine pG rfl rfl rfl ?_
    refine pI rfl rfl rfl ?_
    obtain ⟨hi37, x38, hx39, h⟩ := AtS.get h
    refine AOps.sidxE tabOk rfl rfl rfl rfl rfl rfl rfl hi37 hx39 ?_
    refine pI rfl rfl rfl ?_
    refine pB rfl rfl rfl ?_
    refine AOps.done ?_
    refine AWp.cond rfl (fun e => ?_) (fun e => ?_)
    · replace h := h.1 e
      refine AWp.seq ?_
      refine AWp.regionN (fun _ => false) rfl ?_
      refine pB rfl rfl rfl ?_
      refine AOps.done ?_
      refine AWp.ret ?_
      subst h
      exact ⟨_, rfl, rfl⟩
    · replace h := h.2 e
      refine AWp.skip ?_
      refine AWp.regionN (fun _ => false) rfl ?_
      refine pI rfl rfl rfl ?_
      obtain ⟨x40, ex40, h⟩ := h.get
      refine AOps.i tabOk rfl rfl rfl ex40 ?_
      refine pI rfl rfl rfl ?_
      refine AOps.done ?_
      exact ⟨x40, h.1, h.2, (Sub.list (fun i => i) rfl rfl ⟨rfl, rfl, rfl, trivial⟩ trivial)⟩
  · replace h := h.2 e
    refine AWp.exit ?_
    refine AWp.seq ?_
    refine AWp.regionN (fun _ => false) rfl ?_
    refine pB rfl rfl rfl ?_
    refine AOps.done ?_
    refine AWp.ret ?_
    subst h
    exact ⟨_, rfl, rfl⟩
def W_ref13_kids (x1 : List GTree) (x2 : ByteArray) (Q : Bool → Prop) : Prop :=
  Loop2 (0 : Int) (0 : Int) (fun (x887 : Int) (x888 : Int) next889 =>
    Br (decide (x888 < ((x2.size : Nat) : Int))) (
      AtS x2 x888 fun x1036 =>
      Join1 (fun j1052 =>
        Let (IntKind.i64.wrap (x888 + (1 : Int))) fun x1053 =>
        Br (decide (x1053 < ((x2.size : Nat) : Int))) (
          Let (IntKind.i64.wrap (x888 + (1 : Int))) fun x1054 =>
          AtS x2 x1054 fun x1056 =>
          Br (x1056 == (42 : Int)) (j1052 true) (
            Let (IntKind.i64.wrap (x888 + (1 : Int))) fun x1058 =>
            AtS x2 x1058 fun x1060 =>
            Br (x1060 == (63 : Int)) (j1052 true) (
              Let (IntKind.i64.wrap (x888 + (1 : Int))) fun x1062 =>
              AtS x2 x1062 fun x1064 =>
              j1052 (x1064 == (43 : Int))))) (
          j1052 false)
      ) (fun (x1051 : Bool) =>
        Join3 (fun j1081 =>
          Br x1051 (
            Let (IntKind.i64.wrap (x888 + (1 : Int))) fun x1082 =>
            AtS x2 x1082 fun x1084 =>
            Join1 (fun j1087 =>
              Br (x1084 != (43 : Int)) (j1087 (0 : Int)) (
                j1087 (1 : Int))
            ) (fun (x1086 : Int) =>
              AtS x2 x1082 fun x1089 =>
              Br (x1089 != (63 : Int)) (j1081 x1082 x1086 (1000000 : Int)) (
                j1081 x1082 x1086 (1 : Int)))) (
            j1081 x888 (1 : Int) (1 : Int))
        ) (fun (x1078 : Int) (x1079 : Int) (x1080 : Int) =>
          Join2 (fun j1133 =>
            Loop2 x887 (0 : Int) (fun (x1150 : Int) (x1151 : Int) next1152 =>
              Br (decide (x1151 < x1080)) (
                Br (decide (x1150 < ((x1.length : Nat) : Int))) (
                  At x1 x1150 fun x1161 =>
                  Call (Ev_ref13_fits x1161 x1036) fun x1163 =>
                  Br x1163 (
                    Let (IntKind.i64.wrap (x1150 + (1 : Int))) fun x1165 =>
                    Let (IntKind.i64.wrap (x1151 + (1 : Int))) fun x1166 =>
                    next1152 x1165 x1166) (
                    j1133 x1150 x1151)) (
                  j1133 x1150 x1151)) (
                j1133 x1150 x1151))
          ) (fun (x1131 : Int) (x1132 : Int) =>
            Br (decide (x1132 < x1079)) (Q false) (
              Let (IntKind.i64.wrap (x1078 + (1 : Int))) fun x1171 =>
              next889 x1131 x1171))))) (
      Q (x887 == ((x1.length : Nat) : Int))))
theorem walk_ref13_kids {x1 : List GTree} {x2 : ByteArray} {r : Bool} (h : W_ref13_kids x1 x2 (fun r' => r' = r)) : Ev_ref13_kids x1 x2 r := by
  unfold W_ref13_kids at h
  refine AFn.intro' (L := [(0, .dat (.sl 26 9 (List.map GTree.enc x1))), (1, .dat (.v (.string x2)))]) tabOk Tryz.func108 rfl rfl Tryz.ntmps108 rfl rfl rfl ?_
  refine AWp.seq ?_
  refine AWp.regionN (fun _ => false) rfl ?_
  refine pB rfl rfl rfl ?_
  refine AOps.done ?_
  refine AWp.seq ?_
  refine AWp.regionN (fun _ => false) rfl ?_
  refine pI rfl rfl rfl ?_
  refine AOps.done ?_
  refine AWp.seq ?_
  refine AWp.seq ?_
  refine AWp.regionN (fun _ => false) rfl ?_
  refine pI rfl rfl rfl ?_
  refine AOps.done ?_
  refine AWp.block ?_
  obtain ⟨I1182, x1183, hz1184, hr1185⟩ := h
  refine AWp.loop (I := fun p : Int × Int => mkSt [(0, .dat (.sl 26 9 (List.map GTree.enc x1))), (1, .dat (.v (.string x2))), (5, .dat (.v (.int .i64 p.1))), (6, .dat (.v (.int .i64 p.2)))] []) (Inv := fun p => I1182 p.1 p.2) (μ := fun p => x1183 p.1 p.2) (x0 := ⟨(0 : Int), (0 : Int)⟩) hz1184 (Sub.list (fun i => i) rfl rfl ⟨rfl, rfl, rfl, rfl, trivial⟩ trivial) (fun p hp => ?_)
  obtain ⟨x887, x888⟩ := p
  have h := hr1185 x887 x888 hp
  refine AWp.seq ?_
  refine AWp.seq ?_
  refine AWp.regionN (fun _ => false) rfl ?_
  refine pI rfl rfl rfl ?_
  refine pG rfl rfl rfl ?_
  refine pI rfl rfl rfl ?_
  refine pB rfl rfl rfl ?_
  refine AOps.done ?_
  refine AWp.cond rfl (fun e => ?_) (fun e => ?_)
  · replace h := h.1 e
    refine AWp.skip ?_
    refine AWp.seq ?_
    refine AWp.block ?_
    refine AWp.seq ?_
    refine AWp.regionN (fun _ => false) rfl ?_
    refine pG rfl rfl rfl ?_
    refine pI rfl rfl rfl ?_
    obtain ⟨hi1035, x1036, hx1037, h⟩ := AtS.get h
    refine AOps.sidxE tabOk rfl rfl rfl rfl rfl rfl rfl hi1035 hx1037 ?_
    refine pI rfl rfl rfl ?_
    refine AOps.done ?_
    refine AWp.seq ?_
    refine AWp.regionN (fun _ => false) rfl ?_
    refine pI rfl rfl rfl ?_
    refine AOps.done ?_
    refine AWp.seq ?_
    refine AWp.regionN (fun _ => false) rfl ?_
    refine pI rfl rfl rfl ?_
    refine AOps.done ?_
    refine AWp.seq ?_
    refine AWp.seq ?_
    obtain ⟨J1178, hj1179, hk1180⟩ := h
    refine AWp.cutK (I := fun p : Bool => mkSt [(0, .dat (.sl 26 9 (List.map GTree.enc x1))), (1, .dat (.v (.string x2))), (5, .dat (.v (.int .i64 x887))), (6, .dat (.v (.int .i64 x888))), (7, .dat (.v (.int .u8 x1036))), (8, .dat (.v (.int .i64 (1 : Int)))), (9, .dat (.v (.int .i64 (1 : Int)))), (45, .dat (.v (.bool p)))] []) (Inv := fun p : Bool => J1178 p) ?_ (fun p hp => ?_)
    · have h := hj1179
      refine AWp.regionN (fun _ => false) rfl ?_
      refine pI rfl rfl rfl ?_
      obtain ⟨x1053, ex1053, h⟩ := h.get
      refine AOps.i tabOk rfl rfl rfl ex1053 ?_
      refine pG rfl rfl rfl ?_
      refine pI rfl rfl rfl ?_
      refine pB rfl rfl rfl ?_
      refine pB rfl rfl rfl ?_
      refine AOps.splitB 25 rfl (fun e => ?_) (fun e => ?_)
      · replace h := h.1 e
        refine pG rfl rfl rfl ?_
        refine pI rfl rfl rfl ?_
        obtain ⟨x1054, ex1054, h⟩ := h.get
        refine AOps.i tabOk rfl rfl rfl ex1054 ?_
        obtain ⟨hi1055, x1056, hx1057, h⟩ := AtS.get h
        refine AOps.sidxE tabOk rfl rfl rfl rfl rfl rfl rfl hi1055 hx1057 ?_
        refine pB rfl rfl rfl ?_
        refine pB rfl rfl rfl ?_
        refine AOps.splitB 31 rfl (fun e => ?_) (fun e => ?_)
        · replace h := h.1 e
          refine AOps.off rfl rfl ?_
          refine AOps.off rfl rfl ?_
          refine AOps.off rfl rfl ?_
          refine AOps.off rfl rfl ?_
          refine AOps.off rfl rfl ?_
          refine pB rfl rfl rfl ?_
          refine pB rfl rfl rfl ?_
          refine AOps.off rfl rfl ?_
          refine AOps.off rfl rfl ?_
          refine AOps.off rfl rfl ?_
          refine AOps.off rfl rfl ?_
          refine AOps.off rfl rfl ?_
          refine pB rfl rfl rfl ?_
          refine pB rfl rfl rfl ?_
          refine AOps.done ?_
          exact ⟨true, h, (Sub.list (fun i => i) rfl rfl ⟨rfl, rfl, rfl, rfl, rfl, rfl, rfl, rfl, trivial⟩ trivial)⟩
        · replace h := h.2 e
          refine pG rfl rfl rfl ?_
          refine pI rfl rfl rfl ?_
          obtain ⟨x1058, ex1058, h⟩ := h.get
          refine AOps.i tabOk rfl rfl rfl ex1058 ?_
          obtain ⟨hi1059, x1060, hx1061, h⟩ := AtS.get h
          refine AOps.sidxE tabOk rfl rfl rfl rfl rfl rfl rfl hi1059 hx1061 ?_
          refine pB rfl rfl rfl ?_
          refine pB rfl rfl rfl ?_
          refine pB rfl rfl rfl ?_
          refine AOps.splitB 38 rfl (fun e => ?_) (fun e => ?_)
          · replace h := h.1 e
            refine AOps.off rfl rfl ?_
            refine AOps.off rfl rfl ?_
            refine AOps.off rfl rfl ?_
            refine AOps.off rfl rfl ?_
            refine AOps.off rfl rfl ?_
            refine pB rfl rfl rfl ?_
            refine pB rfl rfl rfl ?_
            refine AOps.done ?_
            exact ⟨true, h, (Sub.list (fun i => i) rfl rfl ⟨rfl, rfl, rfl, rfl, rfl, rfl, rfl, rfl, trivial⟩ trivial)⟩
          · replace h := h.2 e
            refine pG rfl rfl rfl ?_
            refine pI rfl rfl rfl ?_
            obtain ⟨x1062, ex1062, h⟩ := h.get
            refine AOps.i tabOk rfl rfl rfl ex1062 ?_
            obtain ⟨hi1063, x1064, hx1065, h⟩ := AtS.get h
            refine AOps.sidxE tabOk rfl rfl rfl rfl rfl rfl rfl hi1063 hx1065 ?_
            refine pB rfl rfl rfl ?_
            refine pB rfl rfl rfl ?_
            refine pB rfl rfl rfl ?_
            refine AOps.done ?_
            exact ⟨(x1064 == (43 : Int)), h, (Sub.list (fun i => i) rfl rfl ⟨rfl, rfl, rfl, rfl, rfl, rfl, rfl, rfl, trivial⟩ trivial)⟩
      · replace h := h.2 e
        refine AOps.off rfl rfl ?_
        refine AOps.off rfl rfl ?_
        refine AOps.off rfl rfl ?_
        refine AOps.off rfl rfl ?_
        refine AOps.off rfl rfl ?_
        refine AOps.off rfl rfl ?_
        refine AOps.off rfl rfl ?_
        refine AOps.off rfl rfl ?_
        refine AOps.off rfl rfl ?_
        refine AOps.off rfl rfl ?_
        refine AOps.off rfl rfl ?_
        refine AOps.off rfl rfl ?_
        refine AOps.off rfl rfl ?_
        refine AOps.off rfl rfl ?_
        refine AOps.off rfl rfl ?_
        refine AOps.off rfl rfl ?_
        refine AOps.off rfl rfl ?_
        refine AOps.off rfl rfl ?_
        refine AOps.off rfl rfl ?_
        refine pB rfl rfl rfl ?_
        refine AOps.done ?_
        exact ⟨false, h, (Sub.list (fun i => i) rfl rfl ⟨rfl, rfl, rfl, rfl, rfl, rfl, rfl, rfl, trivial⟩ trivial)⟩
    · have h := hk1180 p hp
      revert h; clear hp; generalize p = x1051; intro h
      obtain ⟨J1175, hj1176, hk1177⟩ := h
      refine AWp.cutK (I := fun p : Int × Int × Int => mkSt [(0, .dat (.sl 26 9 (List.map GTree.enc x1))), (1, .dat (.v (.string x2))), (5, .dat (.v (.int .i64 x887))), (6, .dat (.v (.int .i64 p.1))), (7, .dat (.v (.int .u8 x1036))), (8, .dat (.v (.int .i64 p.2.1))), (9, .dat (.v (.int .i64 p.2.2)))] []) (Inv := fun p : Int × Int × Int => J1175 p.1 p.2.1 p.2.2) ?_ (fun p hp => ?_)
      · have h := hj1176
        refine AWp.cond rfl (fun e => ?_) (fun e => ?_)
        · replace h := h.1 e
          refine AWp.seq ?_
          refine AWp.regionN (fun _ => false) rfl ?_
          refine pI rfl rfl rfl ?_
          obtain ⟨x1082, ex1082, h⟩ := h.get
          refine AOps.i tabOk rfl rfl rfl ex1082 ?_
          refine pI rfl rfl rfl ?_
          refine AOps.done ?_
          refine AWp.seq ?_
          refine AWp.seq ?_
          refine AWp.regionN (fun _ => false) rfl ?_
          refine pG rfl rfl rfl ?_
          refine pI rfl rfl rfl ?_
          obtain ⟨hi1083, x1084, hx1085, h⟩ := AtS.get h
          refine AOps.sidxE tabOk rfl rfl rfl rfl rfl rfl rfl hi1083 hx1085 ?_
          refine pB rfl rfl rfl ?_
          refine AOps.done ?_
          obtain ⟨J1091, hj1092, hk1093⟩ := h
          refine AWp.cutK (I := fun p : Int => mkSt [(0, .dat (.sl 26 9 (List.map GTree.enc x1))), (1, .dat (.v (.string x2))), (5, .dat (.v (.int .i64 x887))), (6, .dat (.v (.int .i64 x1082))), (7, .dat (.v (.int .u8 x1036))), (8, .dat (.v (.int .i64 p))), (9, .dat (.v (.int .i64 (1 : Int))))] []) (Inv := fun p : Int => J1091 p) ?_ (fun p hp => ?_)
          · have h := hj1092
            refine AWp.cond rfl (fun e => ?_) (fun e => ?_)
            · replace h := h.1 e
              refine AWp.regionN (fun _ => false) rfl ?_
              refine pI rfl rfl rfl ?_
              refine AOps.done ?_
              exact ⟨(0 : Int), h, (Sub.list (fun i => i) rfl rfl ⟨rfl, rfl, rfl, rfl, rfl, rfl, rfl, trivial⟩ trivial)⟩
            · replace h := h.2 e
              refine AWp.skip ?_
              exact ⟨(1 : Int), h, (Sub.list (fun i => i) rfl rfl ⟨rfl, rfl, rfl, rfl, rfl, rfl, rfl, trivial⟩ trivial)⟩
          · have h := hk1093 p hp
            revert h; clear hp; generalize p = x1086; intro h
            refine AWp.seq ?_
            refine AWp.regionN (fun _ => false) rfl ?_
            refine pG rfl rfl rfl ?_
            refine pI rfl rfl rfl ?_
            obtain ⟨hi1088, x1089, hx1090, h⟩ := AtS.get h
            refine AOps.sidxE tabOk rfl rfl rfl rfl rfl rfl rfl hi1088 hx1090 ?_
            refine pB rfl rfl rfl ?_
            refine AOps.done ?_
            refine AWp.cond rfl (fun e => ?_) (fun e => ?_)
            · replace h := h.1 e
              refine AWp.regionN (fun _ => false) rfl ?_
              refine pI rfl rfl rfl ?_
              refine AOps.done ?_
              exact ⟨⟨x1082, x1086, (1000000 : Int)⟩, h, (Sub.list (fun i => i) rfl rfl ⟨rfl, rfl, rfl, rfl, rfl, rfl, rfl, trivial⟩ trivial)⟩
            · replace h := h.2 e
              refine AWp.skip ?_
              exact ⟨⟨x1082, x1086, (1 : Int)⟩, h, (Sub.list (fun i => i) rfl rfl ⟨rfl, rfl, rfl, rfl, rfl, rfl, rfl, trivial⟩ trivial)⟩
        · replace h := h.2 e
          refine AWp.skip ?_
          exact ⟨⟨x888, (1 : Int), (1 : Int)⟩, h, (Sub.list (fun i => i) rfl rfl ⟨rfl, rfl, rfl, rfl, rfl, rfl, rfl, trivial⟩ trivial)⟩
      · obtain ⟨x1078, x1079, x1080⟩ := p
        have h := hk1177 x1078 x1079 x1080 hp
        refine AWp.seq ?_
        refine AWp.regionN (fun _ => false) rfl ?_
        refine pI rfl rfl rfl ?_
        refine AOps.done ?_
        refine AWp.seq ?_
        obtain ⟨J1172, hj1173, hk1174⟩ := h
        refine AWp.cutK (I := fun p : Int × Int => mkSt [(0, .dat (.sl 26 9 (List.map GTree.enc x1))), (1, .dat (.v (.string x2))), (5, .dat (.v (.int .i64 p.1))), (6, .dat (.v (.int .i64 x1078))), (8, .dat (.v (.int .i64 x1079))), (10, .dat (.v (.int .i64 p.2)))] []) (Inv := fun p : Int × Int => J1172 p.1 p.2) ?_ (fun p hp => ?_)
        · have h := hj1173
          refine AWp.block ?_
          obtain ⟨I1167, x1168, hz1169, hr1170⟩ := h
          refine AWp.loop (I := fun p : Int × Int => mkSt [(0, .dat (.sl 26 9 (List.map GTree.enc x1))), (1, .dat (.v (.string x2))), (5, .dat (.v (.int .i64 p.1))), (6, .dat (.v (.int .i64 x1078))), (7, .dat (.v (.int .u8 x1036))), (8, .dat (.v (.int .i64 x1079))), (9, .dat (.v (.int .i64 x1080))), (10, .dat (.v (.int .i64 p.2)))] []) (Inv := fun p => I1167 p.1 p.2) (μ := fun p => x1168 p.1 p.2) (x0 := ⟨x887, (0 : Int)⟩) hz1169 (Sub.list (fun i => i) rfl rfl ⟨rfl, rfl, rfl, rfl, rfl, rfl, rfl, rfl, trivial⟩ trivial) (fun p hp => ?_)
          obtain ⟨x1150, x1151⟩ := p
          have h := hr1170 x1150 x1151 hp
          refine AWp.seq ?_
          refine AWp.seq ?_
          refine AWp.regionN (fun _ => false) rfl ?_
          refine pI rfl rfl rfl ?_
          refine pI rfl rfl rfl ?_
          refine pB rfl rfl rfl ?_
          refine pB rfl rfl rfl ?_
          refine AOps.splitB 59 rfl (fun e => ?_) (fun e => ?_)
          · replace h := h.1 e
            refine pI rfl rfl rfl ?_
            refine pS rfl rfl rfl ?_
            refine AOps.i (j := ((x1.length : Nat) : Int)) tabOk rfl rfl rfl (by first | (rw [List.length_map]; done) | rfl) ?_
            refine pB rfl rfl rfl ?_
            refine pB rfl rfl rfl ?_
            refine pB rfl rfl rfl ?_
            refine AOps.splitB 65 rfl (fun e => ?_) (fun e => ?_)
            · replace h := h.1 e
              refine pS rfl rfl rfl ?_
              refine pI rfl rfl rfl ?_
              obtain ⟨hi1160, x1161, hx1162, h⟩ := h
              refine AOps.idx tabOk (z := GTree.out x1161) rfl rfl rfl rfl rfl rfl rfl rfl hi1160 (GTree.get hx1162) ?_
              refine pT rfl rfl rfl ?_
              refine pI rfl rfl rfl ?_
              obtain ⟨x1163, hc1164, h⟩ := h
              refine AOps.call hc1164 rfl rfl rfl ⟨.inl rfl, .inl rfl, trivial⟩ ?_
              refine pB rfl rfl rfl ?_
              refine AOps.done ?_
              refine AWp.cond rfl (fun e => ?_) (fun e => ?_)
              · replace h := h.1 e
                refine AWp.skip ?_
                refine AWp.block ?_
                refine AWp.seq ?_
                refine AWp.regionN (fun _ => false) rfl ?_
                refine pI rfl rfl rfl ?_
                obtain ⟨x1165, ex1165, h⟩ := h.get
                refine AOps.i tabOk rfl rfl rfl ex1165 ?_
                refine pI rfl rfl rfl ?_
                refine AOps.done ?_
                refine AWp.regionN (fun _ => false) rfl ?_
                refine pI rfl rfl rfl ?_
                obtain ⟨x1166, ex1166, h⟩ := h.get
                refine AOps.i tabOk rfl rfl rfl ex1166 ?_
                refine pI rfl rfl rfl ?_
                refine AOps.done ?_
                exact ⟨⟨x1165, x1166⟩, h.1, h.2, (Sub.list (fun i => i) rfl rfl ⟨rfl, rfl, rfl, rfl, rfl, rfl, rfl, rfl, trivial⟩ trivial)⟩
              · replace h := h.2 e
                refine AWp.exit ?_
                exact ⟨⟨x1150, x1151⟩, h, (Sub.list (fun i => i) rfl rfl ⟨rfl, rfl, rfl, rfl, rfl, rfl, trivial⟩ trivial)⟩
            · replace h := h.2 e
              refine AOps.off rfl rfl ?_
              refine AOps.off rfl rfl ?_
              refine AOps.off rfl rfl ?_
              refine AOps.off rfl rfl ?_
              refine AOps.off rfl rfl ?_
              refine AOps.off rfl rfl ?_
              refine pB rfl rfl rfl ?_
              refine AOps.done ?_
              refine AWp.condF rfl ?_
              refine AWp.exit ?_
              exact ⟨⟨x1150, x1151⟩, h, (Sub.list (fun i => i) rfl rfl ⟨rfl, rfl, rfl, rfl, rfl, rfl, trivial⟩ trivial)⟩
          · replace h := h.2 e
            refine AOps.off rfl rfl ?_
            refine AOps.off rfl rfl ?_
            refine AOps.off rfl rfl ?_
            refine AOps.off rfl rfl ?_
            refine pB rfl rfl rfl ?_
            refine pB rfl rfl rfl ?_
            refine AOps.off rfl rfl ?_
            refine AOps.off rfl rfl ?_
            refine AOps.off rfl rfl ?_
            refine AOps.off rfl rfl ?_
            refine AOps.off rfl rfl ?_
            refine AOps.off rfl rfl ?_
            refine pB rfl rfl rfl ?_
            refine AOps.done ?_
            refine AWp.condF rfl ?_
            refine AWp.exit ?_
            exact ⟨⟨x1150, x1151⟩, h, (Sub.list (fun i => i) rfl rfl ⟨rfl, rfl, rfl, rfl, rfl, rfl, trivial⟩ trivial)⟩
        · obtain ⟨x1131, x1132⟩ := p
          have h := hk1174 x1131 x1132 hp
          refine AWp.seq ?_
          refine AWp.regionN (fun _ => false) rfl ?_
          refine pI rfl rfl rfl ?_
          refine pI rfl rfl rfl ?_
          refine pB rfl rfl rfl ?_
          refine AOps.done ?_
          refine AWp.cond rfl (fun e => ?_) (fun e => ?_)
          · replace h := h.1 e
            refine AWp.seq ?_
            refine AWp.regionN (fun _ => false) rfl ?_
            refine pB rfl rfl rfl ?_
            refine AOps.done ?_
            refine AWp.ret ?_
            subst h
            exact ⟨_, rfl, rfl⟩
          · replace h := h.2 e
            refine AWp.skip ?_
            refine AWp.regionN (fun _ => false) rfl ?_
            refine pI rfl rfl rfl ?_
            obtain ⟨x1171, ex1171, h⟩ := h.get
            refine AOps.i tabOk rfl rfl rfl ex1171 ?_
            refine pI rfl rfl rfl ?_
            refine AOps.done ?_
            exact ⟨⟨x1131, x1171⟩, h.1, h.2, (Sub.list (fun i => i) rfl rfl ⟨rfl, rfl, rfl, rfl, trivial⟩ trivial)⟩
  · replace h := h.2 e
    refine AWp.exit ?_
    refine AWp.seq ?_
    refine AWp.regionN (fun _ => false) rfl ?_
    refine pI rfl rfl rfl ?_
    refine pS rfl rfl rfl ?_
    refine AOps.i (j := ((x1.length : Nat) : Int)) tabOk rfl rfl rfl (by first | (rw [List.length_map]; done) | rfl) ?_
    refine pB rfl rfl rfl ?_
    refine pB rfl rfl rfl ?_
    refine AOps.done ?_
    refine AWp.ret ?_
    subst h
    exact ⟨_, rfl, rfl⟩
def W_ref13_Decimal (a1 : GRat) (Q : Bool → Prop) : Prop :=
  Call (Ev_ref11_Right a1) fun x5 =>
  Br x5 (
    Br (decide (a1.N ≥ (0 : Int))) (
      Nz a1.D <|
      Let (Int.tmod (1000000000000000000 : Int) a1.D) fun x7 =>
      Q (x7 == (0 : Int))) (
      Q false)) (
    Q false)
theorem walk_ref13_Decimal {a1 : GRat} {r : Bool} (h : W_ref13_Decimal a1 (fun r' => r' = r)) : Ev_ref13_Decimal a1 r := by
  unfold W_ref13_Decimal at h
  refine AFn.intro' (L := [(0, .dat (GRat.enc a1))]) tabOk Tryz.func109 rfl rfl Tryz.ntmps109 rfl rfl rfl ?_
  refine AWp.seq ?_
  refine AWp.regionN (fun _ => false) rfl ?_
  refine AOps.box (v := .dat (.st _ _)) rfl rfl rfl rfl rfl rfl ?_
  refine pB rfl rfl rfl ?_
  refine AOps.done ?_
  refine AWp.seq ?_
  refine AWp.regionN (fun _ => false) rfl ?_
  refine pT rfl rfl rfl ?_
  obtain ⟨x5, hc6, h⟩ := h
  refine AOps.call hc6 rfl rfl rfl ⟨.inl rfl, trivial⟩ ?_
  refine pB rfl rfl rfl ?_
  refine AOps.splitB 5 rfl (fun e => ?_) (fun e => ?_)
  · replace h := h.1 e
    refine pP rfl rfl rfl ?_
    refine pI rfl rfl rfl ?_
    refine pB rfl rfl rfl ?_
    refine pB rfl rfl rfl ?_
    refine pB rfl rfl rfl ?_
    refine AOps.splitB 10 rfl (fun e => ?_) (fun e => ?_)
    · replace h := h.1 e
      refine pP rfl rfl rfl ?_
      refine pI rfl rfl rfl ?_
      obtain ⟨hq, h⟩ := h
      obtain ⟨x7, ex7, h⟩ := h.get
      refine AOps.q rfl rfl rfl rfl rfl (rbin_rem hq) ex7 ?_
      refine pB rfl rfl rfl ?_
      refine pB rfl rfl rfl ?_
      refine pB rfl rfl rfl ?_
      refine AOps.done ?_
      refine AWp.ret ?_
      subst h
      exact ⟨_, rfl, rfl⟩
    · replace h := h.2 e
      refine AOps.off rfl rfl ?_
      refine AOps.off rfl rfl ?_
      refine AOps.off rfl rfl ?_
      refine AOps.off rfl rfl ?_
      refine pB rfl rfl rfl ?_
      refine pB rfl rfl rfl ?_
      refine AOps.done ?_
      refine AWp.ret ?_
      subst h
      exact ⟨_, rfl, rfl⟩
  · replace h := h.2 e
    refine AOps.off rfl rfl ?_
    refine AOps.off rfl rfl ?_
    refine AOps.off rfl rfl ?_
    refine pB rfl rfl rfl ?_
    refine pB rfl rfl rfl ?_
    refine AOps.off rfl rfl ?_
    refine AOps.off rfl rfl ?_
    refine AOps.off rfl rfl ?_
    refine AOps.off rfl rfl ?_
    refine pB rfl rfl rfl ?_
    refine pB rfl rfl rfl ?_
    refine AOps.done ?_
    refine AWp.ret ?_
    subst h
    exact ⟨_, rfl, rfl⟩
def W_ref13_isIndex (x1 : GTree) (Q : Bool → Prop) : Prop :=
  Br (x1.Kind == (1 : Int)) (
    Br (x1.Num.D == (1 : Int)) (Q (decide (x1.Num.N ≤ (1000000 : Int)))) (
      Q false)) (
    Join1 (fun j3 =>
      Br (x1.Kind == (8 : Int)) (j3 true) (
        j3 (x1.Kind == (9 : Int)))
    ) (fun (x2 : Bool) =>
      Br x2 (
        Br (((x1.Kids.length : Nat) : Int) == (2 : Int)) (
          At x1.Kids (0 : Int) fun x57 =>
          Br (x57.Kind == (2 : Int)) (
            At x1.Kids (0 : Int) fun x60 =>
            Call (Ev_ref13_isIndex x60) fun x62 =>
            Br x62 (
              At x1.Kids (1 : Int) fun x65 =>
              Br (x65.Kind == (1 : Int)) (
                At x1.Kids (1 : Int) fun x68 =>
                Call (Ev_ref13_isIndex x68) fun x70 =>
                Q x70) (
                Q false)) (
              Q false)) (
            Q false)) (
          Q false)) (
        Br (x1.Kind == (2 : Int)) (
          Br (((x1.Kids.length : Nat) : Int) == (1 : Int)) (
            At x1.Kids (0 : Int) fun x79 =>
            Q (((x79.Kids.length : Nat) : Int) == (0 : Int))) (
            Q false)) (
          Q false))))
theorem walk_ref13_isIndex {x1 : GTree} {r : Bool} (h : W_ref13_isIndex x1 (fun r' => r' = r)) : Ev_ref13_isIndex x1 r := by
  unfold W_ref13_isIndex at h
  refine AFn.intro' (L := [(0, .dat (GTree.out x1))]) tabOk Tryz.func111 rfl rfl Tryz.ntmps111 rfl rfl rfl ?_
  refine AWp.seq ?_
  refine AWp.regionN (fun _ => false) rfl ?_
  refine AOps.box (v := .dat (.st _ _)) rfl rfl rfl rfl rfl rfl ?_
  refine pB rfl rfl rfl ?_
  refine AOps.done ?_
  refine AWp.seq ?_
  refine AWp.seq ?_
  refine AWp.regionN (fun _ => false) rfl ?_
  refine pP rfl rfl rfl ?_
  refine pI rfl rfl rfl ?_
  refine pB rfl rfl rfl ?_
  refine AOps.done ?_
  refine AWp.cond rfl (fun e => ?_) (fun e => ?_)
  · replace h := h.1 e
    refine AWp.seq ?_
    refine AWp.regionN (fun _ => false) rfl ?_
    refine pP rfl rfl rfl ?_
    refine pP rfl rfl rfl ?_
    refine pI rfl rfl rfl ?_
    refine pB rfl rfl rfl ?_
    refine pB rfl rfl rfl ?_
    refine AOps.splitB 10 rfl (fun e => ?_) (fun e => ?_)
    · replace h := h.1 e
      refine pP rfl rfl rfl ?_
      refine pP rfl rfl rfl ?_
      refine pI rfl rfl rfl ?_
      refine pB rfl rfl rfl ?_
      refine pB rfl rfl rfl ?_
      refine pB rfl rfl rfl ?_
      refine AOps.done ?_
      refine AWp.ret ?_
      subst h
      exact ⟨_, rfl, rfl⟩
    · replace h := h.2 e
      refine AOps.off rfl rfl ?_
      refine AOps.off rfl rfl ?_
      refine AOps.off rfl rfl ?_
      refine AOps.off rfl rfl ?_
      refine pB rfl rfl rfl ?_
      refine pB rfl rfl rfl ?_
      refine AOps.done ?_
      refine AWp.ret ?_
      subst h
      exact ⟨_, rfl, rfl⟩
  · replace h := h.2 e
    refine AWp.skip ?_
    refine AWp.seq ?_
    refine AWp.seq ?_
    obtain ⟨J82, hj83, hk84⟩ := h
    refine AWp.cutK (I := fun p : Bool => mkSt [(1, .pt 1 [] 0), (23, .dat (.v (.bool p)))] [(1, .box 26 9 (.dat (GTree.out x1)))]) (Inv := fun p : Bool => J82 p) ?_ (fun p hp => ?_)
    · have h := hj83
      refine AWp.regionN (fun _ => false) rfl ?_
      refine pP rfl rfl rfl ?_
      refine pI rfl rfl rfl ?_
      refine pB rfl rfl rfl ?_
      refine pB rfl rfl rfl ?_
      refine AOps.splitB 19 rfl (fun e => ?_) (fun e => ?_)
      · replace h := h.1 e
        refine AOps.off rfl rfl ?_
        refine AOps.off rfl rfl ?_
        refine AOps.off rfl rfl ?_
        refine pB rfl rfl rfl ?_
        refine AOps.done ?_
        exact ⟨true, h, (Sub.list (fun i => i) rfl rfl ⟨rfl, rfl, trivial⟩ ⟨rfl, trivial⟩)⟩
      · replace h := h.2 e
        refine pP rfl rfl rfl ?_
        refine pI rfl rfl rfl ?_
        refine pB rfl rfl rfl ?_
        refine pB rfl rfl rfl ?_
        refine AOps.done ?_
        exact ⟨(x1.Kind == (9 : Int)), h, (Sub.list (fun i => i) rfl rfl ⟨rfl, rfl, trivial⟩ ⟨rfl, trivial⟩)⟩
    · have h := hk84 p hp
      revert h; clear hp; generalize p = x2; intro h
      refine AWp.cond rfl (fun e => ?_) (fun e => ?_)
      · replace h := h.1 e
        refine AWp.seq ?_
        refine AWp.regionN (fun _ => false) rfl ?_
        refine pP rfl rfl rfl ?_
        refine pS rfl rfl rfl ?_
        refine AOps.i (j := ((x1.Kids.length : Nat) : Int)) tabOk rfl rfl rfl (by first | (rw [List.length_map]; done) | rfl) ?_
        refine pB rfl rfl rfl ?_
        refine pB rfl rfl rfl ?_
        refine AOps.splitB 28 rfl (fun e => ?_) (fun e => ?_)
        · replace h := h.1 e
          refine pP rfl rfl rfl ?_
          refine pS rfl rfl rfl ?_
          obtain ⟨hi56, x57, hx58, h⟩ := h
          refine AOps.idx tabOk (z := GTree.out x57) rfl rfl rfl rfl rfl rfl rfl rfl hi56 (GTree.get hx58) ?_
          refine pX rfl rfl rfl ?_
          refine pI rfl rfl rfl ?_
          refine pB rfl rfl rfl ?_
          refine pB rfl rfl rfl ?_
          refine pB rfl rfl rfl ?_
          refine AOps.splitB 36 rfl (fun e => ?_) (fun e => ?_)
          · replace h := h.1 e
            refine pP rfl rfl rfl ?_
            refine pS rfl rfl rfl ?_
            obtain ⟨hi59, x60, hx61, h⟩ := h
            refine AOps.idx tabOk (z := GTree.out x60) rfl rfl rfl rfl rfl rfl rfl rfl hi59 (GTree.get hx61) ?_
            refine pT rfl rfl rfl ?_
            obtain ⟨x62, hc63, h⟩ := h
            refine AOps.call hc63 rfl rfl rfl ⟨.inl rfl, trivial⟩ ?_
            refine pB rfl rfl rfl ?_
            refine pB rfl rfl rfl ?_
            refine AOps.splitB 43 rfl (fun e => ?_) (fun e => ?_)
            · replace h := h.1 e
              refine pP rfl rfl rfl ?_
              refine pS rfl rfl rfl ?_
              obtain ⟨hi64, x65, hx66, h⟩ := h
              refine AOps.idx tabOk (z := GTree.out x65) rfl rfl rfl rfl rfl rfl rfl rfl hi64 (GTree.get hx66) ?_
              refine pX rfl rfl rfl ?_
              refine pI rfl rfl rfl ?_
              refine pB rfl rfl rfl ?_
              refine pB rfl rfl rfl ?_
              refine pB rfl rfl rfl ?_
              refine AOps.splitB 51 rfl (fun e => ?_) (fun e => ?_)
              · replace h := h.1 e
                refine pP rfl rfl rfl ?_
                refine pS rfl rfl rfl ?_
                obtain ⟨hi67, x68, hx69, h⟩ := h
                refine AOps.idx tabOk (z := GTree.out x68) rfl rfl rfl rfl rfl rfl rfl rfl hi67 (GTree.get hx69) ?_
                refine pT rfl rfl rfl ?_
                obtain ⟨x70, hc71, h⟩ := h
                refine AOps.call hc71 rfl rfl rfl ⟨.inl rfl, trivial⟩ ?_
                refine pB rfl rfl rfl ?_
                refine pB rfl rfl rfl ?_
                refine AOps.done ?_
                refine AWp.ret ?_
                subst h
                exact ⟨_, rfl, rfl⟩
              · replace h := h.2 e
                refine AOps.off rfl rfl ?_
                refine AOps.off rfl rfl ?_
                refine AOps.off rfl rfl ?_
                refine AOps.off rfl rfl ?_
                refine AOps.off rfl rfl ?_
                refine pB rfl rfl rfl ?_
                refine pB rfl rfl rfl ?_
                refine AOps.done ?_
                refine AWp.ret ?_
                subst h
                exact ⟨_, rfl, rfl⟩
            · replace h := h.2 e
              refine AOps.off rfl rfl ?_
              refine AOps.off rfl rfl ?_
              refine AOps.off rfl rfl ?_
              refine AOps.off rfl rfl ?_
              refine AOps.off rfl rfl ?_
              refine AOps.off rfl rfl ?_
              refine pB rfl rfl rfl ?_
              refine pB rfl rfl rfl ?_
              refine AOps.off rfl rfl ?_
              refine AOps.off rfl rfl ?_
              refine AOps.off rfl rfl ?_
              refine AOps.off rfl rfl ?_
              refine AOps.off rfl rfl ?_
              refine pB rfl rfl rfl ?_
              refine pB rfl rfl rfl ?_
              refine AOps.done ?_
              refine AWp.ret ?_
              subst h
              exact ⟨_, rfl, rfl⟩
          · replace h := h.2 e
            refine AOps.off rfl rfl ?_
            refine AOps.off rfl rfl ?_
            refine AOps.off rfl rfl ?_
            refine AOps.off rfl rfl ?_
            refine AOps.off rfl rfl ?_
            refine pB rfl rfl rfl ?_
            refine pB rfl rfl rfl ?_
            refine AOps.off rfl rfl ?_
            refine AOps.off rfl rfl ?_
            refine AOps.off rfl rfl ?_
            refine AOps.off rfl rfl ?_
            refine AOps.off rfl rfl ?_
            refine AOps.off rfl rfl ?_
            refine pB rfl rfl rfl ?_
            refine pB rfl rfl rfl ?_
            refine AOps.off rfl rfl ?_
            refine AOps.off rfl rfl ?_
            refine AOps.off rfl rfl ?_
            refine AOps.off rfl rfl ?_
            refine AOps.off rfl rfl ?_
            refine pB rfl rfl rfl ?_
            refine pB rfl rfl rfl ?_
            refine AOps.done ?_
            refine AWp.ret ?_
            subst h
            exact ⟨_, rfl, rfl⟩
        · replace h := h.2 e
          refine AOps.off rfl rfl ?_
          refine AOps.off rfl rfl ?_
          refine AOps.off rfl rfl ?_
          refine AOps.off rfl rfl ?_
          refine AOps.off rfl rfl ?_
          refine AOps.off rfl rfl ?_
          refine pB rfl rfl rfl ?_
          refine pB rfl rfl rfl ?_
          refine AOps.off rfl rfl ?_
          refine AOps.off rfl rfl ?_
          refine AOps.off rfl rfl ?_
          refine AOps.off rfl rfl ?_
          refine AOps.off rfl rfl ?_
          refine pB rfl rfl rfl ?_
          refine pB rfl rfl rfl ?_
          refine AOps.off rfl rfl ?_
          refine AOps.off rfl rfl ?_
          refine AOps.off rfl rfl ?_
          refine AOps.off rfl rfl ?_
          refine AOps.off rfl rfl ?_
          refine AOps.off rfl rfl ?_
          refine pB rfl rfl rfl ?_
          refine pB rfl rfl rfl ?_
          refine AOps.off rfl rfl ?_
          refine AOps.off rfl rfl ?_
          refine AOps.off rfl rfl ?_
          refine AOps.off rfl rfl ?_
          refine AOps.off rfl rfl ?_
          refine pB rfl rfl rfl ?_
          refine pB rfl rfl rfl ?_
          refine AOps.done ?_
          refine AWp.ret ?_
          subst h
          exact ⟨_, rfl, rfl⟩
      · replace h := h.2 e
        refine AWp.skip ?_
        refine AWp.seq ?_
        refine AWp.regionN (fun _ => false) rfl ?_
        refine pP rfl rfl rfl ?_
        refine pI rfl rfl rfl ?_
        refine pB rfl rfl rfl ?_
        refine pB rfl rfl rfl ?_
        refine AOps.splitB 61 rfl (fun e => ?_) (fun e => ?_)
        · replace h := h.1 e
          refine pP rfl rfl rfl ?_
          refine pS rfl rfl rfl ?_
          refine AOps.i (j := ((x1.Kids.length : Nat) : Int)) tabOk rfl rfl rfl (by first | (rw [List.length_map]; done) | rfl) ?_
          refine pB rfl rfl rfl ?_
          refine pB rfl rfl rfl ?_
          refine pB rfl rfl rfl ?_
          refine AOps.splitB 67 rfl (fun e => ?_) (fun e => ?_)
          · replace h := h.1 e
            refine pP rfl rfl rfl ?_
            refine pS rfl rfl rfl ?_
            obtain ⟨hi78, x79, hx80, h⟩ := h
            refine AOps.idx tabOk (z := GTree.out x79) rfl rfl rfl rfl rfl rfl rfl rfl hi78 (GTree.get hx80) ?_
            refine pX rfl rfl rfl ?_
            refine pS rfl rfl rfl ?_
            refine AOps.i (j := ((x79.Kids.length : Nat) : Int)) tabOk rfl rfl rfl (by first | (rw [List.length_map]; done) | rfl) ?_
            refine pB rfl rfl rfl ?_
            refine pB rfl rfl rfl ?_
            refine pB rfl rfl rfl ?_
            refine AOps.done ?_
            refine AWp.ret ?_
            subst h
            exact ⟨_, rfl, rfl⟩
          · replace h := h.2 e
            refine AOps.off rfl rfl ?_
            refine AOps.off rfl rfl ?_
            refine AOps.off rfl rfl ?_
            refine AOps.off rfl rfl ?_
            refine AOps.off rfl rfl ?_
            refine AOps.off rfl rfl ?_
            refine AOps.off rfl rfl ?_
            refine pB rfl rfl rfl ?_
            refine pB rfl rfl rfl ?_
            refine AOps.done ?_
            refine AWp.ret ?_
            subst h
            exact ⟨_, rfl, rfl⟩
        · replace h := h.2 e
          refine AOps.off rfl rfl ?_
          refine AOps.off rfl rfl ?_
          refine AOps.off rfl rfl ?_
          refine AOps.off rfl rfl ?_
          refine pB rfl rfl rfl ?_
          refine pB rfl rfl rfl ?_
          refine AOps.off rfl rfl ?_
          refine AOps.off rfl rfl ?_
          refine AOps.off rfl rfl ?_
          refine AOps.off rfl rfl ?_
          refine AOps.off rfl rfl ?_
          refine AOps.off rfl rfl ?_
          refine AOps.off rfl rfl ?_
          refine pB rfl rfl rfl ?_
          refine pB rfl rfl rfl ?_
          refine AOps.done ?_
          refine AWp.ret ?_
          subst h
          exact ⟨_, rfl, rfl⟩
def W_ref12_Name (s1 : ByteArray) (Q : Bool → Prop) : Prop :=
  Br (s1.toList == (ByteArray.mk #[]).toList) (Q false) (
    Br (decide (((s1.size : Nat) : Int) > (24 : Int))) (Q false) (
      AtS s1 (0 : Int) fun x10 =>
      Call (Ev_ref12_Letter x10) fun x12 =>
      Br (!x12) (Q false) (
        Call (Ev_ref12_Word s1) fun x14 =>
        Br x14 (Q false) (
          Loop1 (0 : Int) (fun (i195 : Int) next196 =>
            Br (decide (i195 < ((s1.size : Nat) : Int))) (
              Join0 (fun j223 =>
                AtS s1 i195 fun x238 =>
                Call (Ev_ref12_Letter x238) fun x240 =>
                Br (!x240) (
                  AtS s1 i195 fun x243 =>
                  Call (Ev_ref12_Digit x243) fun x245 =>
                  Br (!x245) (
                    AtS s1 i195 fun x248 =>
                    Br (x248 != (95 : Int)) (Q false) (
                      j223)) (
                    j223)) (
                  j223)
              ) (
                Let (IntKind.i64.wrap (i195 + (1 : Int))) fun x250 =>
                next196 x250)) (
              Q true))))))
theorem walk_ref12_Name {s1 : ByteArray} {r : Bool} (h : W_ref12_Name s1 (fun r' => r' = r)) : Ev_ref12_Name s1 r := by
  unfold W_ref12_Name at h
  refine AFn.intro' (L := [(0, .dat (.v (.string s1)))]) tabOk Tryz.func153 rfl rfl Tryz.ntmps153 rfl rfl rfl ?_
  refine AWp.seq ?_
  refine AWp.regionN (fun _ => false) rfl ?_
  refine pB rfl rfl rfl ?_
  refine AOps.done ?_
  refine AWp.seq ?_
  refine AWp.seq ?_
  refine AWp.regionN (fun _ => false) rfl ?_
  refine pG rfl rfl rfl ?_
  refine pB rfl rfl rfl ?_
  refine pB rfl rfl rfl ?_
  refine AOps.splitB 6 rfl (fun e => ?_) (fun e => ?_)
  · replace h := h.1 e
    refine AOps.off rfl rfl ?_
    refine AOps.off rfl rfl ?_
    refine AOps.off rfl rfl ?_
    refine pB rfl rfl rfl ?_
    refine pB rfl rfl rfl ?_
    refine AOps.off rfl rfl ?_
    refine AOps.off rfl rfl ?_
    refine AOps.off rfl rfl ?_
    refine AOps.off rfl rfl ?_
    refine pB rfl rfl rfl ?_
    refine pB rfl rfl rfl ?_
    refine AOps.off rfl rfl ?_
    refine AOps.off rfl rfl ?_
    refine pB rfl rfl rfl ?_
    refine AOps.done ?_
    refine AWp.condT rfl ?_
    refine AWp.seq ?_
    refine AWp.regionN (fun _ => false) rfl ?_
    refine pB rfl rfl rfl ?_
    refine AOps.done ?_
    refine AWp.ret ?_
    subst h
    exact ⟨_, rfl, rfl⟩
  · replace h := h.2 e
    refine pG rfl rfl rfl ?_
    refine pI rfl rfl rfl ?_
    refine pB rfl rfl rfl ?_
    refine pB rfl rfl rfl ?_
    refine pB rfl rfl rfl ?_
    refine AOps.splitB 11 rfl (fun e => ?_) (fun e => ?_)
    · replace h := h.1 e
      refine AOps.off rfl rfl ?_
      refine AOps.off rfl rfl ?_
      refine AOps.off rfl rfl ?_
      refine AOps.off rfl rfl ?_
      refine pB rfl rfl rfl ?_
      refine pB rfl rfl rfl ?_
      refine AOps.off rfl rfl ?_
      refine AOps.off rfl rfl ?_
      refine pB rfl rfl rfl ?_
      refine AOps.done ?_
      refine AWp.condT rfl ?_
      refine AWp.seq ?_
      refine AWp.regionN (fun _ => false) rfl ?_
      refine pB rfl rfl rfl ?_
      refine AOps.done ?_
      refine AWp.ret ?_
      subst h
      exact ⟨_, rfl, rfl⟩
    · replace h := h.2 e
      refine pG rfl rfl rfl ?_
      obtain ⟨hi9, x10, hx11, h⟩ := AtS.get h
      refine AOps.sidxE tabOk rfl rfl rfl rfl rfl rfl rfl hi9 hx11 ?_
      obtain ⟨x12, hc13, h⟩ := h
      refine AOps.call hc13 rfl rfl rfl ⟨.inl rfl, trivial⟩ ?_
      refine pB rfl rfl rfl ?_
      refine pB rfl rfl rfl ?_
      refine pB rfl rfl rfl ?_
      refine AOps.splitB 17 rfl (fun e => ?_) (fun e => ?_)
      · replace h := h.1 e
        refine AOps.off rfl rfl ?_
        refine AOps.off rfl rfl ?_
        refine pB rfl rfl rfl ?_
        refine AOps.done ?_
        refine AWp.condT rfl ?_
        refine AWp.seq ?_
        refine AWp.regionN (fun _ => false) rfl ?_
        refine pB rfl rfl rfl ?_
        refine AOps.done ?_
        refine AWp.ret ?_
        subst h
        exact ⟨_, rfl, rfl⟩
      · replace h := h.2 e
        refine pG rfl rfl rfl ?_
        obtain ⟨x14, hc15, h⟩ := h
        refine AOps.call hc15 rfl rfl rfl ⟨.inl rfl, trivial⟩ ?_
        refine pB rfl rfl rfl ?_
        refine AOps.done ?_
        refine AWp.cond rfl (fun e => ?_) (fun e => ?_)
        · replace h := h.1 e
          refine AWp.seq ?_
          refine AWp.regionN (fun _ => false) rfl ?_
          refine pB rfl rfl rfl ?_
          refine AOps.done ?_
          refine AWp.ret ?_
          subst h
          exact ⟨_, rfl, rfl⟩
        · replace h := h.2 e
          refine AWp.skip ?_
          refine AWp.seq ?_
          refine AWp.seq ?_
          refine AWp.regionN (fun _ => false) rfl ?_
          refine pI rfl rfl rfl ?_
          refine AOps.done ?_
          refine AWp.block ?_
          obtain ⟨I254, x255, hz256, hr257⟩ := h
          refine AWp.loop (I := fun p : Int => mkSt [(0, .dat (.v (.string s1))), (3, .dat (.v (.int .i64 p)))] []) (Inv := fun p => I254 p) (μ := fun p => x255 p) (x0 := (0 : Int)) hz256 (Sub.list (fun i => i) rfl rfl ⟨rfl, rfl, trivial⟩ trivial) (fun p hp => ?_)
          have h := hr257 p hp
          revert h; clear hp; generalize p = i195; intro h
          refine AWp.seq ?_
          refine AWp.seq ?_
          refine AWp.regionN (fun _ => false) rfl ?_
          refine pI rfl rfl rfl ?_
          refine pG rfl rfl rfl ?_
          refine pI rfl rfl rfl ?_
          refine pB rfl rfl rfl ?_
          refine AOps.done ?_
          refine AWp.cond rfl (fun e => ?_) (fun e => ?_)
          · replace h := h.1 e
            refine AWp.skip ?_
            refine AWp.seq ?_
            obtain ⟨J251, hj252, hk253⟩ := h
            refine AWp.cutK (I := fun p : Unit => mkSt [(0, .dat (.v (.string s1))), (3, .dat (.v (.int .i64 i195)))] []) (Inv := fun p : Unit => J251) ?_ (fun p hp => ?_)
            · have h := hj252
              refine AWp.block ?_
              refine AWp.seq ?_
              refine AWp.regionN (fun _ => false) rfl ?_
              refine pG rfl rfl rfl ?_
              refine pI rfl rfl rfl ?_
              obtain ⟨hi237, x238, hx239, h⟩ := AtS.get h
              refine AOps.sidxE tabOk rfl rfl rfl rfl rfl rfl rfl hi237 hx239 ?_
              obtain ⟨x240, hc241, h⟩ := h
              refine AOps.call hc241 rfl rfl rfl ⟨.inl rfl, trivial⟩ ?_
              refine pB rfl rfl rfl ?_
              refine pB rfl rfl rfl ?_
              refine AOps.splitB 32 rfl (fun e => ?_) (fun e => ?_)
              · replace h := h.1 e
                refine pG rfl rfl rfl ?_
                refine pI rfl rfl rfl ?_
                obtain ⟨hi242, x243, hx244, h⟩ := AtS.get h
                refine AOps.sidxE tabOk rfl rfl rfl rfl rfl rfl rfl hi242 hx244 ?_
                obtain ⟨x245, hc246, h⟩ := h
                refine AOps.call hc246 rfl rfl rfl ⟨.inl rfl, trivial⟩ ?_
                refine pB rfl rfl rfl ?_
                refine pB rfl rfl rfl ?_
                refine pB rfl rfl rfl ?_
                refine AOps.splitB 39 rfl (fun e => ?_) (fun e => ?_)
                · replace h := h.1 e
                  refine pG rfl rfl rfl ?_
                  refine pI rfl rfl rfl ?_
                  obtain ⟨hi247, x248, hx249, h⟩ := AtS.get h
                  refine AOps.sidxE tabOk rfl rfl rfl rfl rfl rfl rfl hi247 hx249 ?_
                  refine pB rfl rfl rfl ?_
                  refine pB rfl rfl rfl ?_
                  refine AOps.done ?_
                  refine AWp.cond rfl (fun e => ?_) (fun e => ?_)
                  · replace h := h.1 e
                    refine AWp.seq ?_
                    refine AWp.regionN (fun _ => false) rfl ?_
                    refine pB rfl rfl rfl ?_
                    refine AOps.done ?_
                    refine AWp.ret ?_
                    subst h
                    exact ⟨_, rfl, rfl⟩
                  · replace h := h.2 e
                    refine AWp.skip ?_
                    exact ⟨(), h, (Sub.list (fun i => i) rfl rfl ⟨rfl, rfl, trivial⟩ trivial)⟩
                · replace h := h.2 e
                  refine AOps.off rfl rfl ?_
                  refine AOps.off rfl rfl ?_
                  refine AOps.off rfl rfl ?_
                  refine AOps.off rfl rfl ?_
                  refine pB rfl rfl rfl ?_
                  refine AOps.done ?_
                  refine AWp.condF rfl ?_
                  refine AWp.skip ?_
                  exact ⟨(), h, (Sub.list (fun i => i) rfl rfl ⟨rfl, rfl, trivial⟩ trivial)⟩
              · replace h := h.2 e
                refine AOps.off rfl rfl ?_
                refine AOps.off rfl rfl ?_
                refine AOps.off rfl rfl ?_
                refine AOps.off rfl rfl ?_
                refine AOps.off rfl rfl ?_
                refine pB rfl rfl rfl ?_
                refine pB rfl rfl rfl ?_
                refine AOps.off rfl rfl ?_
                refine AOps.off rfl rfl ?_
                refine AOps.off rfl rfl ?_
                refine AOps.off rfl rfl ?_
                refine pB rfl rfl rfl ?_
                refine AOps.done ?_
                refine AWp.condF rfl ?_
                refine AWp.skip ?_
                exact ⟨(), h, (Sub.list (fun i => i) rfl rfl ⟨rfl, rfl, trivial⟩ trivial)⟩
            · have h := hk253 hp
              refine AWp.regionN (fun _ => false) rfl ?_
              refine pI rfl rfl rfl ?_
              obtain ⟨x250, ex250, h⟩ := h.get
              refine AOps.i tabOk rfl rfl rfl ex250 ?_
              refine pI rfl rfl rfl ?_
              refine AOps.done ?_
              exact ⟨x250, h.1, h.2, (Sub.list (fun i => i) rfl rfl ⟨rfl, rfl, trivial⟩ trivial)⟩
          · replace h := h.2 e
            refine AWp.exit ?_
            refine AWp.seq ?_
            refine AWp.regionN (fun _ => false) rfl ?_
            refine pB rfl rfl rfl ?_
            refine AOps.done ?_
            refine AWp.ret ?_
            subst h
            exact ⟨_, rfl, rfl⟩
def W_ref13_fits (t1 : GTree) (c2 : Int) (Q : Bool → Prop) : Prop :=
  Call (Ev_ref13_letter t1) fun x3 =>
  Br (c2 == (69 : Int)) (
    Br (x3 == (101 : Int)) (Q true) (
      Br (x3 == (102 : Int)) (Q true) (
        Q (x3 == (118 : Int))))) (
    Br (c2 == (83 : Int)) (
      Br (x3 == (102 : Int)) (Q true) (
        Q (x3 == (118 : Int)))) (
      Br (c2 == (73 : Int)) (
        Br (x3 == (105 : Int)) (Q true) (
          Q (x3 == (114 : Int)))) (
        Q (x3 == c2))))
theorem walk_ref13_fits {t1 : GTree} {c2 : Int} {r : Bool} (h : W_ref13_fits t1 c2 (fun r' => r' = r)) : Ev_ref13_fits t1 c2 r := by
  unfold W_ref13_fits at h
  refine AFn.intro' (L := [(0, .dat (GTree.out t1)), (1, .dat (.v (.int .u8 c2)))]) tabOk Tryz.func154 rfl rfl Tryz.ntmps154 rfl rfl rfl ?_
  refine AWp.seq ?_
  refine AWp.regionN (fun _ => false) rfl ?_
  refine AOps.box (v := .dat (.st _ _)) rfl rfl rfl rfl rfl rfl ?_
  refine pB rfl rfl rfl ?_
  refine AOps.done ?_
  refine AWp.seq ?_
  refine AWp.regionN (fun _ => false) rfl ?_
  refine pT rfl rfl rfl ?_
  obtain ⟨x3, hc4, h⟩ := h
  refine AOps.call hc4 rfl rfl rfl ⟨.inl rfl, trivial⟩ ?_
  refine pI rfl rfl rfl ?_
  refine AOps.done ?_
  refine AWp.seq ?_
  refine AWp.seq ?_
  refine AWp.regionN (fun _ => false) rfl ?_
  refine pI rfl rfl rfl ?_
  refine AOps.done ?_
  refine AWp.block ?_
  refine AWp.seq ?_
  refine AWp.regionN (fun _ => false) rfl ?_
  refine pB rfl rfl rfl ?_
  refine pB rfl rfl rfl ?_
  refine AOps.done ?_
  refine AWp.cond rfl (fun e => ?_) (fun e => ?_)
  · replace h := h.1 e
    refine AWp.seq ?_
    refine AWp.regionN (fun _ => false) rfl ?_
    refine pI rfl rfl rfl ?_
    refine pB rfl rfl rfl ?_
    refine pB rfl rfl rfl ?_
    refine AOps.splitB 13 rfl (fun e => ?_) (fun e => ?_)
    · replace h := h.1 e
      refine AOps.off rfl rfl ?_
      refine AOps.off rfl rfl ?_
      refine pB rfl rfl rfl ?_
      refine pB rfl rfl rfl ?_
      refine AOps.off rfl rfl ?_
      refine AOps.off rfl rfl ?_
      refine pB rfl rfl rfl ?_
      refine pB rfl rfl rfl ?_
      refine AOps.done ?_
      refine AWp.ret ?_
      subst h
      exact ⟨_, rfl, rfl⟩
    · replace h := h.2 e
      refine pI rfl rfl rfl ?_
      refine pB rfl rfl rfl ?_
      refine pB rfl rfl rfl ?_
      refine pB rfl rfl rfl ?_
      refine AOps.splitB 17 rfl (fun e => ?_) (fun e => ?_)
      · replace h := h.1 e
        refine AOps.off rfl rfl ?_
        refine AOps.off rfl rfl ?_
        refine pB rfl rfl rfl ?_
        refine pB rfl rfl rfl ?_
        refine AOps.done ?_
        refine AWp.ret ?_
        subst h
        exact ⟨_, rfl, rfl⟩
      · replace h := h.2 e
        refine pI rfl rfl rfl ?_
        refine pB rfl rfl rfl ?_
        refine pB rfl rfl rfl ?_
        refine pB rfl rfl rfl ?_
        refine AOps.done ?_
        refine AWp.ret ?_
        subst h
        exact ⟨_, rfl, rfl⟩
  · replace h := h.2 e
    refine AWp.seq ?_
    refine AWp.regionN (fun _ => false) rfl ?_
    refine pB rfl rfl rfl ?_
    refine pB rfl rfl rfl ?_
    refine AOps.done ?_
    refine AWp.cond rfl (fun e => ?_) (fun e => ?_)
    · replace h := h.1 e
      refine AWp.seq ?_
      refine AWp.regionN (fun _ => false) rfl ?_
      refine pI rfl rfl rfl ?_
      refine pB rfl rfl rfl ?_
      refine pB rfl rfl rfl ?_
      refine AOps.splitB 25 rfl (fun e => ?_) (fun e => ?_)
      · replace h := h.1 e
        refine AOps.off rfl rfl ?_
        refine AOps.off rfl rfl ?_
        refine pB rfl rfl rfl ?_
        refine pB rfl rfl rfl ?_
        refine AOps.done ?_
        refine AWp.ret ?_
        subst h
        exact ⟨_, rfl, rfl⟩
      · replace h := h.2 e
        refine pI rfl rfl rfl ?_
        refine pB rfl rfl rfl ?_
        refine pB rfl rfl rfl ?_
        refine pB rfl rfl rfl ?_
        refine AOps.done ?_
        refine AWp.ret ?_
        subst h
        exact ⟨_, rfl, rfl⟩
    · replace h := h.2 e
      refine AWp.seq ?_
      refine AWp.regionN (fun _ => false) rfl ?_
      refine pB rfl rfl rfl ?_
      refine pB rfl rfl rfl ?_
      refine AOps.done ?_
      refine AWp.cond rfl (fun e => ?_) (fun e => ?_)
      · replace h := h.1 e
        refine AWp.seq ?_
        refine AWp.regionN (fun _ => false) rfl ?_
        refine pI rfl rfl rfl ?_
        refine pB rfl rfl rfl ?_
        refine pB rfl rfl rfl ?_
        refine AOps.splitB 33 rfl (fun e => ?_) (fun e => ?_)
        · replace h := h.1 e
          refine AOps.off rfl rfl ?_
          refine AOps.off rfl rfl ?_
          refine pB rfl rfl rfl ?_
          refine pB rfl rfl rfl ?_
          refine AOps.done ?_
          refine AWp.ret ?_
          subst h
          exact ⟨_, rfl, rfl⟩
        · replace h := h.2 e
          refine pI rfl rfl rfl ?_
          refine pB rfl rfl rfl ?_
          refine pB rfl rfl rfl ?_
          refine pB rfl rfl rfl ?_
          refine AOps.done ?_
          refine AWp.ret ?_
          subst h
          exact ⟨_, rfl, rfl⟩
      · replace h := h.2 e
        refine AWp.skip ?_
        refine AWp.seq ?_
        refine AWp.regionN (fun _ => false) rfl ?_
        refine pI rfl rfl rfl ?_
        refine pI rfl rfl rfl ?_
        refine pB rfl rfl rfl ?_
        refine pB rfl rfl rfl ?_
        refine AOps.done ?_
        refine AWp.ret ?_
        subst h
        exact ⟨_, rfl, rfl⟩
def W_ref13_letter (t1 : GTree) (Q : Int → Prop) : Prop :=
  Br (t1.Kind == (3 : Int)) (Q (120 : Int)) (
    Br (t1.Kind == (2 : Int)) (Q (102 : Int)) (
      Br (t1.Kind == (4 : Int)) (Q (118 : Int)) (
        Join1 (fun j3 =>
          Br (decide (t1.Kind ≥ (1 : Int))) (j3 (decide (t1.Kind ≤ (12 : Int)))) (
            j3 false)
        ) (fun (x2 : Bool) =>
          Br x2 (Q (101 : Int)) (
            Join1 (fun j5 =>
              Br (decide (t1.Kind ≥ (20 : Int))) (j5 (decide (t1.Kind ≤ (24 : Int)))) (
                j5 false)
            ) (fun (x4 : Bool) =>
              Br x4 (Q (100 : Int)) (
                Br (t1.Kind == (31 : Int)) (Q (117 : Int)) (
                  Br (t1.Kind == (32 : Int)) (Q (117 : Int)) (
                    Join1 (fun j7 =>
                      Br (decide (t1.Kind ≥ (33 : Int))) (
                        Br (decide (t1.Kind ≤ (35 : Int))) (j7 true) (
                          j7 (t1.Kind == (37 : Int)))) (
                        j7 (t1.Kind == (37 : Int)))
                    ) (fun (x6 : Bool) =>
                      Br x6 (Q (105 : Int)) (
                        Br (t1.Kind == (36 : Int)) (Q (109 : Int)) (
                          Br (decide (t1.Kind ≥ (38 : Int))) (
                            Br (decide (t1.Kind ≤ (40 : Int))) (Q (114 : Int)) (
                              Br (t1.Kind == (41 : Int)) (Q (116 : Int)) (
                                Q (45 : Int)))) (
                            Br (t1.Kind == (41 : Int)) (Q (116 : Int)) (
                              Q (45 : Int)))))))))))))))
theorem walk_ref13_letter {t1 : GTree} {r : Int} (h : W_ref13_letter t1 (fun r' => r' = r)) : Ev_ref13_letter t1 r := by
  unfold W_ref13_letter at h
  refine AFn.intro' (L := [(0, .dat (GTree.out t1))]) tabOk Tryz.func202 rfl rfl Tryz.ntmps202 rfl rfl rfl ?_
  refine AWp.seq ?_
  refine AWp.regionN (fun _ => false) rfl ?_
  refine AOps.box (v := .dat (.st _ _)) rfl rfl rfl rfl rfl rfl ?_
  refine pI rfl rfl rfl ?_
  refine AOps.done ?_
  refine AWp.seq ?_
  refine AWp.regionN (fun _ => false) rfl ?_
  refine pP rfl rfl rfl ?_
  refine pI rfl rfl rfl ?_
  refine pI rfl rfl rfl ?_
  refine AOps.done ?_
  refine AWp.seq ?_
  refine AWp.seq ?_
  refine AWp.regionN (fun _ => false) rfl ?_
  refine pI rfl rfl rfl ?_
  refine pB rfl rfl rfl ?_
  refine AOps.done ?_
  refine AWp.cond rfl (fun e => ?_) (fun e => ?_)
  · replace h := h.1 e
    refine AWp.seq ?_
    refine AWp.regionN (fun _ => false) rfl ?_
    refine pI rfl rfl rfl ?_
    refine AOps.done ?_
    refine AWp.ret ?_
    subst h
    exact ⟨_, rfl, rfl⟩
  · replace h := h.2 e
    refine AWp.skip ?_
    refine AWp.seq ?_
    refine AWp.seq ?_
    refine AWp.regionN (fun _ => false) rfl ?_
    refine pI rfl rfl rfl ?_
    refine pB rfl rfl rfl ?_
    refine AOps.done ?_
    refine AWp.cond rfl (fun e => ?_) (fun e => ?_)
    · replace h := h.1 e
      refine AWp.seq ?_
      refine AWp.regionN (fun _ => false) rfl ?_
      refine pI rfl rfl rfl ?_
      refine AOps.done ?_
      refine AWp.ret ?_
      subst h
      exact ⟨_, rfl, rfl⟩
    · replace h := h.2 e
      refine AWp.skip ?_
      refine AWp.seq ?_
      refine AWp.seq ?_
      refine AWp.regionN (fun _ => false) rfl ?_
      refine pI rfl rfl rfl ?_
      refine pB rfl rfl rfl ?_
      refine AOps.done ?_
      refine AWp.cond rfl (fun e => ?_) (fun e => ?_)
      · replace h := h.1 e
        refine AWp.seq ?_
        refine AWp.regionN (fun _ => false) rfl ?_
        refine pI rfl rfl rfl ?_
        refine AOps.done ?_
        refine AWp.ret ?_
        subst h
        exact ⟨_, rfl, rfl⟩
      · replace h := h.2 e
        refine AWp.skip ?_
        refine AWp.seq ?_
        refine AWp.seq ?_
        obtain ⟨J14, hj15, hk16⟩ := h
        refine AWp.cutK (I := fun p : Bool => mkSt [(3, .dat (.v (.int .i64 t1.Kind))), (17, .dat (.v (.bool p)))] []) (Inv := fun p : Bool => J14 p) ?_ (fun p hp => ?_)
        · have h := hj15
          refine AWp.regionN (fun _ => false) rfl ?_
          refine pI rfl rfl rfl ?_
          refine pB rfl rfl rfl ?_
          refine pB rfl rfl rfl ?_
          refine AOps.splitB 14 rfl (fun e => ?_) (fun e => ?_)
          · replace h := h.1 e
            refine pI rfl rfl rfl ?_
            refine pB rfl rfl rfl ?_
            refine pB rfl rfl rfl ?_
            refine AOps.done ?_
            exact ⟨(decide (t1.Kind ≤ (12 : Int))), h, (Sub.list (fun i => i) rfl rfl ⟨rfl, rfl, trivial⟩ trivial)⟩
          · replace h := h.2 e
            refine AOps.off rfl rfl ?_
            refine AOps.off rfl rfl ?_
            refine pB rfl rfl rfl ?_
            refine AOps.done ?_
            exact ⟨false, h, (Sub.list (fun i => i) rfl rfl ⟨rfl, rfl, trivial⟩ trivial)⟩
        · have h := hk16 p hp
          revert h; clear hp; generalize p = x2; intro h
          refine AWp.cond rfl (fun e => ?_) (fun e => ?_)
          · replace h := h.1 e
            refine AWp.seq ?_
            refine AWp.regionN (fun _ => false) rfl ?_
            refine pI rfl rfl rfl ?_
            refine AOps.done ?_
            refine AWp.ret ?_
            subst h
            exact ⟨_, rfl, rfl⟩
          · replace h := h.2 e
            refine AWp.skip ?_
            refine AWp.seq ?_
            refine AWp.seq ?_
            obtain ⟨J11, hj12, hk13⟩ := h
            refine AWp.cutK (I := fun p : Bool => mkSt [(3, .dat (.v (.int .i64 t1.Kind))), (23, .dat (.v (.bool p)))] []) (Inv := fun p : Bool => J11 p) ?_ (fun p hp => ?_)
            · have h := hj12
              refine AWp.regionN (fun _ => false) rfl ?_
              refine pI rfl rfl rfl ?_
              refine pB rfl rfl rfl ?_
              refine pB rfl rfl rfl ?_
              refine AOps.splitB 20 rfl (fun e => ?_) (fun e => ?_)
              · replace h := h.1 e
                refine pI rfl rfl rfl ?_
                refine pB rfl rfl rfl ?_
                refine pB rfl rfl rfl ?_
                refine AOps.done ?_
                exact ⟨(decide (t1.Kind ≤ (24 : Int))), h, (Sub.list (fun i => i) rfl rfl ⟨rfl, rfl, trivial⟩ trivial)⟩
              · replace h := h.2 e
                refine AOps.off rfl rfl ?_
                refine AOps.off rfl rfl ?_
                refine pB rfl rfl rfl ?_
                refine AOps.done ?_
                exact ⟨false, h, (Sub.list (fun i => i) rfl rfl ⟨rfl, rfl, trivial⟩ trivial)⟩
            · have h := hk13 p hp
              revert h; clear hp; generalize p = x4; intro h
              refine AWp.cond rfl (fun e => ?_) (fun e => ?_)
              · replace h := h.1 e
                refine AWp.seq ?_
                refine AWp.regionN (fun _ => false) rfl ?_
                refine pI rfl rfl rfl ?_
                refine AOps.done ?_
                refine AWp.ret ?_
                subst h
                exact ⟨_, rfl, rfl⟩
              · replace h := h.2 e
                refine AWp.skip ?_
                refine AWp.seq ?_
                refine AWp.seq ?_
                refine AWp.regionN (fun _ => false) rfl ?_
                refine pI rfl rfl rfl ?_
                refine pB rfl rfl rfl ?_
                refine pB rfl rfl rfl ?_
                refine AOps.splitB 26 rfl (fun e => ?_) (fun e => ?_)
                · replace h := h.1 e
                  refine AOps.off rfl rfl ?_
                  refine AOps.off rfl rfl ?_
                  refine pB rfl rfl rfl ?_
                  refine AOps.done ?_
                  refine AWp.condT rfl ?_
                  refine AWp.seq ?_
                  refine AWp.regionN (fun _ => false) rfl ?_
                  refine pI rfl rfl rfl ?_
                  refine AOps.done ?_
                  refine AWp.ret ?_
                  subst h
                  exact ⟨_, rfl, rfl⟩
                · replace h := h.2 e
                  refine pI rfl rfl rfl ?_
                  refine pB rfl rfl rfl ?_
                  refine pB rfl rfl rfl ?_
                  refine AOps.done ?_
                  refine AWp.cond rfl (fun e => ?_) (fun e => ?_)
                  · replace h := h.1 e
                    refine AWp.seq ?_
                    refine AWp.regionN (fun _ => false) rfl ?_
                    refine pI rfl rfl rfl ?_
                    refine AOps.done ?_
                    refine AWp.ret ?_
                    subst h
                    exact ⟨_, rfl, rfl⟩
                  · replace h := h.2 e
                    refine AWp.skip ?_
                    refine AWp.seq ?_
                    refine AWp.seq ?_
                    obtain ⟨J8, hj9, hk10⟩ := h
                    refine AWp.cutK (I := fun p : Bool => mkSt [(3, .dat (.v (.int .i64 t1.Kind))), (39, .dat (.v (.bool p)))] []) (Inv := fun p : Bool => J8 p) ?_ (fun p hp => ?_)
                    · have h := hj9
                      refine AWp.regionN (fun _ => false) rfl ?_
                      refine pI rfl rfl rfl ?_
                      refine pB rfl rfl rfl ?_
                      refine pB rfl rfl rfl ?_
                      refine AOps.splitB 32 rfl (fun e => ?_) (fun e => ?_)
                      · replace h := h.1 e
                        refine pI rfl rfl rfl ?_
                        refine pB rfl rfl rfl ?_
                        refine pB rfl rfl rfl ?_
                        refine pB rfl rfl rfl ?_
                        refine AOps.splitB 36 rfl (fun e => ?_) (fun e => ?_)
                        · replace h := h.1 e
                          refine AOps.off rfl rfl ?_
                          refine AOps.off rfl rfl ?_
                          refine pB rfl rfl rfl ?_
                          refine AOps.done ?_
                          exact ⟨true, h, (Sub.list (fun i => i) rfl rfl ⟨rfl, rfl, trivial⟩ trivial)⟩
                        · replace h := h.2 e
                          refine pI rfl rfl rfl ?_
                          refine pB rfl rfl rfl ?_
                          refine pB rfl rfl rfl ?_
                          refine AOps.done ?_
                          exact ⟨(t1.Kind == (37 : Int)), h, (Sub.list (fun i => i) rfl rfl ⟨rfl, rfl, trivial⟩ trivial)⟩
                      · replace h := h.2 e
                        refine AOps.off rfl rfl ?_
                        refine AOps.off rfl rfl ?_
                        refine pB rfl rfl rfl ?_
                        refine pB rfl rfl rfl ?_
                        refine pI rfl rfl rfl ?_
                        refine pB rfl rfl rfl ?_
                        refine pB rfl rfl rfl ?_
                        refine AOps.done ?_
                        exact ⟨(t1.Kind == (37 : Int)), h, (Sub.list (fun i => i) rfl rfl ⟨rfl, rfl, trivial⟩ trivial)⟩
                    · have h := hk10 p hp
                      revert h; clear hp; generalize p = x6; intro h
                      refine AWp.cond rfl (fun e => ?_) (fun e => ?_)
                      · replace h := h.1 e
                        refine AWp.seq ?_
                        refine AWp.regionN (fun _ => false) rfl ?_
                        refine pI rfl rfl rfl ?_
                        refine AOps.done ?_
                        refine AWp.ret ?_
                        subst h
                        exact ⟨_, rfl, rfl⟩
                      · replace h := h.2 e
                        refine AWp.skip ?_
                        refine AWp.seq ?_
                        refine AWp.seq ?_
                        refine AWp.regionN (fun _ => false) rfl ?_
                        refine pI rfl rfl rfl ?_
                        refine pB rfl rfl rfl ?_
                        refine AOps.done ?_
                        refine AWp.cond rfl (fun e => ?_) (fun e => ?_)
                        · replace h := h.1 e
                          refine AWp.seq ?_
                          refine AWp.regionN (fun _ => false) rfl ?_
                          refine pI rfl rfl rfl ?_
                          refine AOps.done ?_
                          refine AWp.ret ?_
                          subst h
                          exact ⟨_, rfl, rfl⟩
                        · replace h := h.2 e
                          refine AWp.skip ?_
                          refine AWp.seq ?_
                          refine AWp.seq ?_
                          refine AWp.regionN (fun _ => false) rfl ?_
                          refine pI rfl rfl rfl ?_
                          refine pB rfl rfl rfl ?_
                          refine pB rfl rfl rfl ?_
                          refine AOps.splitB 44 rfl (fun e => ?_) (fun e => ?_)
                          · replace h := h.1 e
                            refine pI rfl rfl rfl ?_
                            refine pB rfl rfl rfl ?_
                            refine pB rfl rfl rfl ?_
                            refine AOps.done ?_
                            refine AWp.cond rfl (fun e => ?_) (fun e => ?_)
                            · replace h := h.1 e
                              refine AWp.seq ?_
                              refine AWp.regionN (fun _ => false) rfl ?_
                              refine pI rfl rfl rfl ?_
                              refine AOps.done ?_
                              refine AWp.ret ?_
                              subst h
                              exact ⟨_, rfl, rfl⟩
                            · replace h := h.2 e
                              refine AWp.skip ?_
                              refine AWp.seq ?_
                              refine AWp.seq ?_
                              refine AWp.regionN (fun _ => false) rfl ?_
                              refine pI rfl rfl rfl ?_
                              refine pB rfl rfl rfl ?_
                              refine AOps.done ?_
                              refine AWp.cond rfl (fun e => ?_) (fun e => ?_)
                              · replace h := h.1 e
                                refine AWp.seq ?_
                                refine AWp.regionN (fun _ => false) rfl ?_
                                refine pI rfl rfl rfl ?_
                                refine AOps.done ?_
                                refine AWp.ret ?_
                                subst h
                                exact ⟨_, rfl, rfl⟩
                              · replace h := h.2 e
                                refine AWp.skip ?_
                                refine AWp.seq ?_
                                refine AWp.regionN (fun _ => false) rfl ?_
                                refine pI rfl rfl rfl ?_
                                refine AOps.done ?_
                                refine AWp.ret ?_
                                subst h
                                exact ⟨_, rfl, rfl⟩
                          · replace h := h.2 e
                            refine AOps.off rfl rfl ?_
                            refine AOps.off rfl rfl ?_
                            refine pB rfl rfl rfl ?_
                            refine AOps.done ?_
                            refine AWp.condF rfl ?_
                            refine AWp.skip ?_
                            refine AWp.seq ?_
                            refine AWp.seq ?_
                            refine AWp.regionN (fun _ => false) rfl ?_
                            refine pI rfl rfl rfl ?_
                            refine pB rfl rfl rfl ?_
                            refine AOps.done ?_
                            refine AWp.cond rfl (fun e => ?_) (fun e => ?_)
                            · replace h := h.1 e
                              refine AWp.seq ?_
                              refine AWp.regionN (fun _ => false) rfl ?_
                              refine pI rfl rfl rfl ?_
                              refine AOps.done ?_
                              refine AWp.ret ?_
                              subst h
                              exact ⟨_, rfl, rfl⟩
                            · replace h := h.2 e
                              refine AWp.skip ?_
                              refine AWp.seq ?_
                              refine AWp.regionN (fun _ => false) rfl ?_
                              refine pI rfl rfl rfl ?_
                              refine AOps.done ?_
                              refine AWp.ret ?_
                              subst h
                              exact ⟨_, rfl, rfl⟩
def W_ref12_Word (s1 : ByteArray) (Q : Bool → Prop) : Prop :=
  Loop1 (0 : Int) (fun (i31 : Int) next32 =>
    Br (decide (i31 < ((s1.size : Nat) : Int))) (
      AtS s1 i31 fun x37 =>
      Br (x37 == (32 : Int)) (Q false) (
        Let (IntKind.i64.wrap (i31 + (1 : Int))) fun x39 =>
        next32 x39)) (
      Cat (ByteArray.mk #[32]) s1 fun x40 =>
      Cat x40 (ByteArray.mk #[32]) fun x41 =>
      Loop1 (0 : Int) (fun (i92 : Int) next93 =>
        Let (IntKind.i64.wrap (i92 + ((x41.size : Nat) : Int))) fun x94 =>
        Br (decide (x94 ≤ (105 : Int))) (
          Join0 (fun j99 =>
            Br (!(s1.toList == (ByteArray.mk #[]).toList)) (
              Let (IntKind.i64.wrap (i92 + ((x41.size : Nat) : Int))) fun x102 =>
              SlS (ByteArray.mk #[32, 97, 116, 97, 110, 32, 99, 111, 110, 110, 101, 99, 116, 32, 99, 111, 110, 110, 101, 99, 116, 111, 114, 32, 99, 111, 115, 32, 100, 101, 114, 32, 100, 111, 32, 101, 110, 100, 32, 101, 120, 112, 32, 102, 108, 111, 119, 32, 102, 111, 114, 32, 105, 110, 32, 108, 111, 103, 32, 109, 111, 100, 101, 108, 32, 112, 97, 114, 97, 109, 32, 112, 97, 114, 116, 32, 115, 105, 110, 32, 115, 113, 114, 116, 32, 115, 116, 97, 114, 116, 32, 116, 105, 109, 101, 32, 117, 110, 105, 116, 32, 118, 97, 114, 32]) i92 x102 fun x103 =>
              Br (x103.toList == x41.toList) (Q true) (
                j99)) (
              j99)
          ) (
            Let (IntKind.i64.wrap (i92 + (1 : Int))) fun x104 =>
            next93 x104)) (
          Q false))))
theorem walk_ref12_Word {s1 : ByteArray} {r : Bool} (h : W_ref12_Word s1 (fun r' => r' = r)) : Ev_ref12_Word s1 r := by
  unfold W_ref12_Word at h
  refine AFn.intro' (L := [(0, .dat (.v (.string s1)))]) tabOk Tryz.func51 rfl rfl Tryz.ntmps51 rfl rfl rfl ?_
  refine AWp.seq ?_
  refine AWp.regionN (fun _ => false) rfl ?_
  refine pB rfl rfl rfl ?_
  refine AOps.done ?_
  refine AWp.seq ?_
  refine AWp.seq ?_
  refine AWp.regionN (fun _ => false) rfl ?_
  refine pI rfl rfl rfl ?_
  refine AOps.done ?_
  refine AWp.block ?_
  obtain ⟨I112, x113, hz114, hr115⟩ := h
  refine AWp.loop (I := fun p : Int => mkSt [(0, .dat (.v (.string s1))), (3, .dat (.v (.int .i64 p)))] []) (Inv := fun p => I112 p) (μ := fun p => x113 p) (x0 := (0 : Int)) hz114 (Sub.list (fun i => i) rfl rfl ⟨rfl, rfl, trivial⟩ trivial) (fun p hp => ?_)
  have h := hr115 p hp
  revert h; clear hp; generalize p = i31; intro h
  refine AWp.seq ?_
  refine AWp.seq ?_
  refine AWp.regionN (fun _ => false) rfl ?_
  refine pI rfl rfl rfl ?_
  refine pG rfl rfl rfl ?_
  refine pI rfl rfl rfl ?_
  refine pB rfl rfl rfl ?_
  refine AOps.done ?_
  refine AWp.cond rfl (fun e => ?_) (fun e => ?_)
  · replace h := h.1 e
    refine AWp.skip ?_
    refine AWp.seq ?_
    refine AWp.block ?_
    refine AWp.seq ?_
    refine AWp.regionN (fun _ => false) rfl ?_
    refine pG rfl rfl rfl ?_
    refine pI rfl rfl rfl ?_
    obtain ⟨hi36, x37, hx38, h⟩ := AtS.get h
    refine AOps.sidxE tabOk rfl rfl rfl rfl rfl rfl rfl hi36 hx38 ?_
    refine pB rfl rfl rfl ?_
    refine AOps.done ?_
    refine AWp.cond rfl (fun e => ?_) (fun e => ?_)
    · replace h := h.1 e
      refine AWp.seq ?_
      refine AWp.regionN (fun _ => false) rfl ?_
      refine pB rfl rfl rfl ?_
      refine AOps.done ?_
      refine AWp.ret ?_
      subst h
      exact ⟨_, rfl, rfl⟩
    · replace h := h.2 e
      refine AWp.skip ?_
      refine AWp.regionN (fun _ => false) rfl ?_
      refine pI rfl rfl rfl ?_
      obtain ⟨x39, ex39, h⟩ := h.get
      refine AOps.i tabOk rfl rfl rfl ex39 ?_
      refine pI rfl rfl rfl ?_
      refine AOps.done ?_
      exact ⟨x39, h.1, h.2, (Sub.list (fun i => i) rfl rfl ⟨rfl, rfl, trivial⟩ trivial)⟩
  · replace h := h.2 e
    refine AWp.exit ?_
    refine AWp.seq ?_
    refine AWp.regionN (fun _ => false) rfl ?_
    refine pG rfl rfl rfl ?_
    obtain ⟨hq, x40, ex40, h⟩ := h.get
    refine AOps.catE rfl rfl rfl rfl rfl hq ex40 ?_
    obtain ⟨hq, x41, ex41, h⟩ := h.get
    refine AOps.catE rfl rfl rfl rfl rfl hq ex41 ?_
    refine pG rfl rfl rfl ?_
    refine AOps.done ?_
    refine AWp.seq ?_
    refine AWp.seq ?_
    refine AWp.regionN (fun _ => false) rfl ?_
    refine pI rfl rfl rfl ?_
    refine AOps.done ?_
    refine AWp.block ?_
    obtain ⟨I108, x109, hz110, hr111⟩ := h
    refine AWp.loop (I := fun p : Int => mkSt [(0, .dat (.v (.string s1))), (4, .dat (.v (.string x41))), (5, .dat (.v (.int .i64 p)))] []) (Inv := fun p => I108 p) (μ := fun p => x109 p) (x0 := (0 : Int)) hz110 (Sub.list (fun i => i) rfl rfl ⟨rfl, rfl, rfl, trivial⟩ trivial) (fun p hp => ?_)
    have h := hr111 p hp
    revert h; clear hp; generalize p = i92; intro h
    refine AWp.seq ?_
    refine AWp.seq ?_
    refine AWp.regionN (fun _ => false) rfl ?_
    refine pI rfl rfl rfl ?_
    refine pG rfl rfl rfl ?_
    refine pI rfl rfl rfl ?_
    obtain ⟨x94, ex94, h⟩ := h.get
    refine AOps.i tabOk rfl rfl rfl ex94 ?_
    refine pB rfl rfl rfl ?_
    refine AOps.done ?_
    refine AWp.cond rfl (fun e => ?_) (fun e => ?_)
    · replace h := h.1 e
      refine AWp.skip ?_
      refine AWp.seq ?_
      obtain ⟨J105, hj106, hk107⟩ := h
      refine AWp.cutK (I := fun p : Unit => mkSt [(0, .dat (.v (.string s1))), (4, .dat (.v (.string x41))), (5, .dat (.v (.int .i64 i92)))] []) (Inv := fun p : Unit => J105) ?_ (fun p hp => ?_)
      · have h := hj106
        refine AWp.block ?_
        refine AWp.seq ?_
        refine AWp.regionN (fun _ => false) rfl ?_
        refine pG rfl rfl rfl ?_
        refine pB rfl rfl rfl ?_
        refine pB rfl rfl rfl ?_
        refine AOps.splitB 28 rfl (fun e => ?_) (fun e => ?_)
        · replace h := h.1 e
          refine pI rfl rfl rfl ?_
          refine pI rfl rfl rfl ?_
          refine pG rfl rfl rfl ?_
          refine pI rfl rfl rfl ?_
          obtain ⟨x102, ex102, h⟩ := h.get
          refine AOps.i tabOk rfl rfl rfl ex102 ?_
          obtain ⟨h1, h2, h3, x103, ex103, h⟩ := h.get
          refine AOps.sls tabOk rfl rfl rfl rfl rfl rfl rfl rfl h1 h2 h3 ex103 ?_
          refine pG rfl rfl rfl ?_
          refine pB rfl rfl rfl ?_
          refine pB rfl rfl rfl ?_
          refine AOps.done ?_
          refine AWp.cond rfl (fun e => ?_) (fun e => ?_)
          · replace h := h.1 e
            refine AWp.seq ?_
            refine AWp.regionN (fun _ => false) rfl ?_
            refine pB rfl rfl rfl ?_
            refine AOps.done ?_
            refine AWp.ret ?_
            subst h
            exact ⟨_, rfl, rfl⟩
          · replace h := h.2 e
            refine AWp.skip ?_
            exact ⟨(), h, (Sub.list (fun i => i) rfl rfl ⟨rfl, rfl, rfl, trivial⟩ trivial)⟩
        · replace h := h.2 e
          refine AOps.off rfl rfl ?_
          refine AOps.off rfl rfl ?_
          refine AOps.off rfl rfl ?_
          refine AOps.off rfl rfl ?_
          refine AOps.off rfl rfl ?_
          refine AOps.off rfl rfl ?_
          refine AOps.off rfl rfl ?_
          refine AOps.off rfl rfl ?_
          refine pB rfl rfl rfl ?_
          refine AOps.done ?_
          refine AWp.condF rfl ?_
          refine AWp.skip ?_
          exact ⟨(), h, (Sub.list (fun i => i) rfl rfl ⟨rfl, rfl, rfl, trivial⟩ trivial)⟩
      · have h := hk107 hp
        refine AWp.regionN (fun _ => false) rfl ?_
        refine pI rfl rfl rfl ?_
        obtain ⟨x104, ex104, h⟩ := h.get
        refine AOps.i tabOk rfl rfl rfl ex104 ?_
        refine pI rfl rfl rfl ?_
        refine AOps.done ?_
        exact ⟨x104, h.1, h.2, (Sub.list (fun i => i) rfl rfl ⟨rfl, rfl, rfl, trivial⟩ trivial)⟩
    · replace h := h.2 e
      refine AWp.exit ?_
      refine AWp.seq ?_
      refine AWp.regionN (fun _ => false) rfl ?_
      refine pB rfl rfl rfl ?_
      refine AOps.done ?_
      refine AWp.ret ?_
      subst h
      exact ⟨_, rfl, rfl⟩
def W_ref12_Letter (c1 : Int) (Q : Bool → Prop) : Prop :=
  Br (decide (c1 ≥ (97 : Int))) (
    Br (decide (c1 ≤ (122 : Int))) (Q true) (
      Br (decide (c1 ≥ (65 : Int))) (Q (decide (c1 ≤ (90 : Int)))) (
        Q false))) (
    Br (decide (c1 ≥ (65 : Int))) (Q (decide (c1 ≤ (90 : Int)))) (
      Q false))
theorem walk_ref12_Letter {c1 : Int} {r : Bool} (h : W_ref12_Letter c1 (fun r' => r' = r)) : Ev_ref12_Letter c1 r := by
  unfold W_ref12_Letter at h
  refine AFn.intro' (L := [(0, .dat (.v (.int .u8 c1)))]) tabOk Tryz.func49 rfl rfl Tryz.ntmps49 rfl rfl rfl ?_
  refine AWp.seq ?_
  refine AWp.regionN (fun _ => false) rfl ?_
  refine pB rfl rfl rfl ?_
  refine AOps.done ?_
  refine AWp.seq ?_
  refine AWp.regionN (fun _ => false) rfl ?_
  refine pI rfl rfl rfl ?_
  refine pB rfl rfl rfl ?_
  refine pB rfl rfl rfl ?_
  refine AOps.splitB 5 rfl (fun e => ?_) (fun e => ?_)
  · replace h := h.1 e
    refine pI rfl rfl rfl ?_
    refine pB rfl rfl rfl ?_
    refine pB rfl rfl rfl ?_
    refine pB rfl rfl rfl ?_
    refine AOps.splitB 9 rfl (fun e => ?_) (fun e => ?_)
    · replace h := h.1 e
      refine AOps.off rfl rfl ?_
      refine AOps.off rfl rfl ?_
      refine AOps.off rfl rfl ?_
      refine AOps.off rfl rfl ?_
      refine AOps.off rfl rfl ?_
      refine AOps.off rfl rfl ?_
      refine pB rfl rfl rfl ?_
      refine pB rfl rfl rfl ?_
      refine AOps.done ?_
      refine AWp.ret ?_
      subst h
      exact ⟨_, rfl, rfl⟩
    · replace h := h.2 e
      refine pI rfl rfl rfl ?_
      refine pB rfl rfl rfl ?_
      refine pB rfl rfl rfl ?_
      refine AOps.splitB 12 rfl (fun e => ?_) (fun e => ?_)
      · replace h := h.1 e
        refine pI rfl rfl rfl ?_
        refine pB rfl rfl rfl ?_
        refine pB rfl rfl rfl ?_
        refine pB rfl rfl rfl ?_
        refine pB rfl rfl rfl ?_
        refine AOps.done ?_
        refine AWp.ret ?_
        subst h
        exact ⟨_, rfl, rfl⟩
      · replace h := h.2 e
        refine AOps.off rfl rfl ?_
        refine AOps.off rfl rfl ?_
        refine pB rfl rfl rfl ?_
        refine pB rfl rfl rfl ?_
        refine pB rfl rfl rfl ?_
        refine AOps.done ?_
        refine AWp.ret ?_
        subst h
        exact ⟨_, rfl, rfl⟩
  · replace h := h.2 e
    refine AOps.off rfl rfl ?_
    refine AOps.off rfl rfl ?_
    refine pB rfl rfl rfl ?_
    refine pB rfl rfl rfl ?_
    refine pI rfl rfl rfl ?_
    refine pB rfl rfl rfl ?_
    refine pB rfl rfl rfl ?_
    refine AOps.splitB 12 rfl (fun e => ?_) (fun e => ?_)
    · replace h := h.1 e
      refine pI rfl rfl rfl ?_
      refine pB rfl rfl rfl ?_
      refine pB rfl rfl rfl ?_
      refine pB rfl rfl rfl ?_
      refine pB rfl rfl rfl ?_
      refine AOps.done ?_
      refine AWp.ret ?_
      subst h
      exact ⟨_, rfl, rfl⟩
    · replace h := h.2 e
      refine AOps.off rfl rfl ?_
      refine AOps.off rfl rfl ?_
      refine pB rfl rfl rfl ?_
      refine pB rfl rfl rfl ?_
      refine pB rfl rfl rfl ?_
      refine AOps.done ?_
      refine AWp.ret ?_
      subst h
      exact ⟨_, rfl, rfl⟩
def W_ref12_Digit (c1 : Int) (Q : Bool → Prop) : Prop :=
  Br (decide (c1 ≥ (48 : Int))) (Q (decide (c1 ≤ (57 : Int)))) (
    Q false)
theorem walk_ref12_Digit {c1 : Int} {r : Bool} (h : W_ref12_Digit c1 (fun r' => r' = r)) : Ev_ref12_Digit c1 r := by
  unfold W_ref12_Digit at h
  refine AFn.intro' (L := [(0, .dat (.v (.int .u8 c1)))]) tabOk Tryz.func50 rfl rfl Tryz.ntmps50 rfl rfl rfl ?_
  refine AWp.seq ?_
  refine AWp.regionN (fun _ => false) rfl ?_
  refine pB rfl rfl rfl ?_
  refine AOps.done ?_
  refine AWp.seq ?_
  refine AWp.regionN (fun _ => false) rfl ?_
  refine pI rfl rfl rfl ?_
  refine pB rfl rfl rfl ?_
  refine pB rfl rfl rfl ?_
  refine AOps.splitB 5 rfl (fun e => ?_) (fun e => ?_)
  · replace h := h.1 e
    refine pI rfl rfl rfl ?_
    refine pB rfl rfl rfl ?_
    refine pB rfl rfl rfl ?_
    refine pB rfl rfl rfl ?_
    refine AOps.done ?_
    refine AWp.ret ?_
    subst h
    exact ⟨_, rfl, rfl⟩
  · replace h := h.2 e
    refine AOps.off rfl rfl ?_
    refine AOps.off rfl rfl ?_
    refine pB rfl rfl rfl ?_
    refine pB rfl rfl rfl ?_
    refine AOps.done ?_
    refine AWp.ret ?_
    subst h
    exact ⟨_, rfl, rfl⟩
end Go.Sim.YtnnfiohdkobkdaaGreatDoor
