/- What is proved: functions of the program compute what plain statements tell. -/
import Derived.Test.YtnhflokfcnfegaaWE
namespace Go.Sim.Ytnhflokfcnfegaa
open Go.RowKit Go.Proofs Go.Proofs.Try

def W_law11_RatCounts (x1 : GRat) (x2 : GRat) (Q : Bool → Prop) : Prop :=
  Call (Ev_rat_Add x1 x2) fun x3 =>
  Call (Ev_ref11_Add x1 x2) fun x5 =>
  Call (Ev_rat_Sub x1 x2) fun x7 =>
  Call (Ev_ref11_Sub x1 x2) fun x9 =>
  Br (!(GRat.beq x3.1 x5.1)) (Q false) (
    Br (x3.2 != x5.2) (Q false) (
      Br (!(GRat.beq x7.1 x9.1)) (Q false) (
        Br (x7.2 != x9.2) (Q false) (
          Call (Ev_rat_Mul x1 x2) fun x11 =>
          Call (Ev_ref11_Mul x1 x2) fun x13 =>
          Call (Ev_rat_Div x1 x2) fun x15 =>
          Call (Ev_ref11_Div x1 x2) fun x17 =>
          Br (GRat.beq x11.1 x13.1) (
            Br (x11.2 == x13.2) (
              Br (GRat.beq x15.1 x17.1) (Q (x15.2 == x17.2)) (
                Q false)) (
              Q false)) (
            Q false)))))

theorem walk_law11_RatCounts {x1 : GRat} {x2 : GRat} {r : Bool} (h : W_law11_RatCounts x1 x2 (fun r' => r' = r)) : Ev_law11_RatCounts x1 x2 r := by
  unfold W_law11_RatCounts at h
  refine AFn.intro' (L := [(0, .dat (GRat.enc x1)), (1, .dat (GRat.enc x2))]) tabOk Try.func7 rfl rfl Try.ntmps7 rfl rfl rfl ?_
  refine AWp.seq ?_
  refine AWp.regionN (fun _ => false) rfl ?_
  refine AOps.box (v := .dat (.st _ _)) rfl rfl rfl rfl rfl rfl ?_
  refine AOps.box (v := .dat (.st _ _)) rfl rfl rfl rfl rfl rfl ?_
  refine pB rfl rfl rfl ?_
  refine AOps.done ?_
  refine AWp.seq ?_
  refine AWp.regionN (fun o => writes o) rfl ?_
  refine pT rfl rfl rfl ?_
  refine pT rfl rfl rfl ?_
  obtain ⟨x3, hc4, h⟩ := h
  refine AOps.call hc4 rfl rfl rfl ⟨.inl rfl, .inl rfl, trivial⟩ ?_
  refine pU rfl rfl rfl ?_
  refine pT rfl rfl rfl ?_
  refine pI rfl rfl rfl ?_
  refine AOps.alloc tabOk rfl rfl rfl rfl rfl ?_
  refine AOps.store tabOk (v := .dat (.st _ _)) rfl rfl rfl rfl rfl rfl rfl rfl rfl rfl rfl rfl rfl ?_
  refine pI rfl rfl rfl ?_
  refine AOps.done ?_
  refine AWp.seq ?_
  refine AWp.regionN (fun o => writes o) rfl ?_
  refine pT rfl rfl rfl ?_
  refine pT rfl rfl rfl ?_
  obtain ⟨x5, hc6, h⟩ := h
  refine AOps.call hc6 rfl rfl rfl ⟨.inl rfl, .inl rfl, trivial⟩ ?_
  refine pU rfl rfl rfl ?_
  refine pT rfl rfl rfl ?_
  refine pI rfl rfl rfl ?_
  refine AOps.alloc tabOk rfl rfl rfl rfl rfl ?_
  refine AOps.store tabOk (v := .dat (.st _ _)) rfl rfl rfl rfl rfl rfl rfl rfl rfl rfl rfl rfl rfl ?_
  refine pI rfl rfl rfl ?_
  refine AOps.done ?_
  refine AWp.seq ?_
  refine AWp.regionN (fun o => writes o) rfl ?_
  refine pT rfl rfl rfl ?_
  refine pT rfl rfl rfl ?_
  obtain ⟨x7, hc8, h⟩ := h
  refine AOps.call hc8 rfl rfl rfl ⟨.inl rfl, .inl rfl, trivial⟩ ?_
  refine pU rfl rfl rfl ?_
  refine pT rfl rfl rfl ?_
  refine pI rfl rfl rfl ?_
  refine AOps.alloc tabOk rfl rfl rfl rfl rfl ?_
  refine AOps.store tabOk (v := .dat (.st _ _)) rfl rfl rfl rfl rfl rfl rfl rfl rfl rfl rfl rfl rfl ?_
  refine pI rfl rfl rfl ?_
  refine AOps.done ?_
  refine AWp.seq ?_
  refine AWp.regionN (fun o => writes o) rfl ?_
  refine pT rfl rfl rfl ?_
  refine pT rfl rfl rfl ?_
  obtain ⟨x9, hc10, h⟩ := h
  refine AOps.call hc10 rfl rfl rfl ⟨.inl rfl, .inl rfl, trivial⟩ ?_
  refine pU rfl rfl rfl ?_
  refine pT rfl rfl rfl ?_
  refine pI rfl rfl rfl ?_
  refine AOps.alloc tabOk rfl rfl rfl rfl rfl ?_
  refine AOps.store tabOk (v := .dat (.st _ _)) rfl rfl rfl rfl rfl rfl rfl rfl rfl rfl rfl rfl rfl ?_
  refine pI rfl rfl rfl ?_
  refine AOps.done ?_
  refine AWp.seq ?_
  refine AWp.seq ?_
  refine AWp.regionN (fun _ => false) rfl ?_
  refine pT rfl rfl rfl ?_
  refine pT rfl rfl rfl ?_
  refine AOps.nes rfl rfl rfl rfl rfl rfl rfl (by decide +kernel) (GRat.eqok23 _ x3.1 x5.1) ?_
  refine pB rfl rfl rfl ?_
  refine AOps.splitB 40 rfl (fun e => ?_) (fun e => ?_)
  · replace h := h.1 e
    refine AOps.off rfl rfl ?_
    refine AOps.off rfl rfl ?_
    refine AOps.off rfl rfl ?_
    refine pB rfl rfl rfl ?_
    refine pB rfl rfl rfl ?_
    refine AOps.off rfl rfl ?_
    refine AOps.off rfl rfl ?_
    refine AOps.off rfl rfl ?_
    refine pB rfl rfl rfl ?_
    refine pB rfl rfl rfl ?_
    refine AOps.off rfl rfl ?_
    refine AOps.off rfl rfl ?_
    refine AOps.off rfl rfl ?_
    refine pB rfl rfl rfl ?_
    refine AOps.done ?_
    refine AWp.condT rfl ?_
    refine AWp.seq ?_
    refine AWp.regionN (fun _ => false) rfl ?_
    refine pB rfl rfl rfl ?_
    refine AOps.done ?_
    refine AWp.ret ?_
    subst h
    exact ⟨_, rfl, rfl⟩
  · replace h := h.2 e
    refine pI rfl rfl rfl ?_
    refine pI rfl rfl rfl ?_
    refine pB rfl rfl rfl ?_
    refine pB rfl rfl rfl ?_
    refine pB rfl rfl rfl ?_
    refine AOps.splitB 45 rfl (fun e => ?_) (fun e => ?_)
    · replace h := h.1 e
      refine AOps.off rfl rfl ?_
      refine AOps.off rfl rfl ?_
      refine AOps.off rfl rfl ?_
      refine pB rfl rfl rfl ?_
      refine pB rfl rfl rfl ?_
      refine AOps.off rfl rfl ?_
      refine AOps.off rfl rfl ?_
      refine AOps.off rfl rfl ?_
      refine pB rfl rfl rfl ?_
      refine AOps.done ?_
      refine AWp.condT rfl ?_
      refine AWp.seq ?_
      refine AWp.regionN (fun _ => false) rfl ?_
      refine pB rfl rfl rfl ?_
      refine AOps.done ?_
      refine AWp.ret ?_
      subst h
      exact ⟨_, rfl, rfl⟩
    · replace h := h.2 e
      refine pT rfl rfl rfl ?_
      refine pT rfl rfl rfl ?_
      refine AOps.nes rfl rfl rfl rfl rfl rfl rfl (by decide +kernel) (GRat.eqok23 _ x7.1 x9.1) ?_
      refine pB rfl rfl rfl ?_
      refine pB rfl rfl rfl ?_
      refine AOps.splitB 50 rfl (fun e => ?_) (fun e => ?_)
      · replace h := h.1 e
        refine AOps.off rfl rfl ?_
        refine AOps.off rfl rfl ?_
        refine AOps.off rfl rfl ?_
        refine pB rfl rfl rfl ?_
        refine AOps.done ?_
        refine AWp.condT rfl ?_
        refine AWp.seq ?_
        refine AWp.regionN (fun _ => false) rfl ?_
        refine pB rfl rfl rfl ?_
        refine AOps.done ?_
        refine AWp.ret ?_
        subst h
        exact ⟨_, rfl, rfl⟩
      · replace h := h.2 e
        refine pI rfl rfl rfl ?_
        refine pI rfl rfl rfl ?_
        refine pB rfl rfl rfl ?_
        refine pB rfl rfl rfl ?_
        refine AOps.done ?_
        refine AWp.cond rfl (fun e => ?_) (fun e => ?_)
        · replace h := h.1 e
          refine AWp.seq ?_
          refine AWp.regionN (fun _ => false) rfl ?_
          refine pB rfl rfl rfl ?_
          refine AOps.done ?_
          refine AWp.ret ?_
          subst h
          exact ⟨_, rfl, rfl⟩
        · replace h := h.2 e
          refine AWp.skip ?_
          refine AWp.seq ?_
          refine AWp.regionN (fun o => writes o) rfl ?_
          refine pT rfl rfl rfl ?_
          refine pT rfl rfl rfl ?_
          obtain ⟨x11, hc12, h⟩ := h
          refine AOps.call hc12 rfl rfl rfl ⟨.inl rfl, .inl rfl, trivial⟩ ?_
          refine pU rfl rfl rfl ?_
          refine pT rfl rfl rfl ?_
          refine pI rfl rfl rfl ?_
          refine AOps.store tabOk (v := .dat (.st _ _)) rfl rfl rfl rfl rfl rfl rfl rfl rfl rfl rfl rfl rfl ?_
          refine pI rfl rfl rfl ?_
          refine AOps.done ?_
          refine AWp.seq ?_
          refine AWp.regionN (fun o => writes o) rfl ?_
          refine pT rfl rfl rfl ?_
          refine pT rfl rfl rfl ?_
          obtain ⟨x13, hc14, h⟩ := h
          refine AOps.call hc14 rfl rfl rfl ⟨.inl rfl, .inl rfl, trivial⟩ ?_
          refine pU rfl rfl rfl ?_
          refine pT rfl rfl rfl ?_
          refine pI rfl rfl rfl ?_
          refine AOps.store tabOk (v := .dat (.st _ _)) rfl rfl rfl rfl rfl rfl rfl rfl rfl rfl rfl rfl rfl ?_
          refine pI rfl rfl rfl ?_
          refine AOps.done ?_
          refine AWp.seq ?_
          refine AWp.regionN (fun o => writes o) rfl ?_
          refine pT rfl rfl rfl ?_
          refine pT rfl rfl rfl ?_
          obtain ⟨x15, hc16, h⟩ := h
          refine AOps.call hc16 rfl rfl rfl ⟨.inl rfl, .inl rfl, trivial⟩ ?_
          refine pU rfl rfl rfl ?_
          refine pT rfl rfl rfl ?_
          refine pI rfl rfl rfl ?_
          refine AOps.store tabOk (v := .dat (.st _ _)) rfl rfl rfl rfl rfl rfl rfl rfl rfl rfl rfl rfl rfl ?_
          refine pI rfl rfl rfl ?_
          refine AOps.done ?_
          refine AWp.seq ?_
          refine AWp.regionN (fun o => writes o) rfl ?_
          refine pT rfl rfl rfl ?_
          refine pT rfl rfl rfl ?_
          obtain ⟨x17, hc18, h⟩ := h
          refine AOps.call hc18 rfl rfl rfl ⟨.inl rfl, .inl rfl, trivial⟩ ?_
          refine pU rfl rfl rfl ?_
          refine pT rfl rfl rfl ?_
          refine pI rfl rfl rfl ?_
          refine AOps.store tabOk (v := .dat (.st _ _)) rfl rfl rfl rfl rfl rfl rfl rfl rfl rfl rfl rfl rfl ?_
          refine pI rfl rfl rfl ?_
          refine AOps.done ?_
          refine AWp.seq ?_
          refine AWp.regionN (fun _ => false) rfl ?_
          refine pT rfl rfl rfl ?_
          refine pT rfl rfl rfl ?_
          refine AOps.eqs rfl rfl rfl rfl rfl rfl rfl (by decide +kernel) (GRat.eqok23 _ x11.1 x13.1) ?_
          refine pB rfl rfl rfl ?_
          refine AOps.splitB 82 rfl (fun e => ?_) (fun e => ?_)
          · replace h := h.1 e
            refine pI rfl rfl rfl ?_
            refine pI rfl rfl rfl ?_
            refine pB rfl rfl rfl ?_
            refine pB rfl rfl rfl ?_
            refine pB rfl rfl rfl ?_
            refine AOps.splitB 87 rfl (fun e => ?_) (fun e => ?_)
            · replace h := h.1 e
              refine pT rfl rfl rfl ?_
              refine pT rfl rfl rfl ?_
              refine AOps.eqs rfl rfl rfl rfl rfl rfl rfl (by decide +kernel) (GRat.eqok23 _ x15.1 x17.1) ?_
              refine pB rfl rfl rfl ?_
              refine pB rfl rfl rfl ?_
              refine AOps.splitB 92 rfl (fun e => ?_) (fun e => ?_)
              · replace h := h.1 e
                refine pI rfl rfl rfl ?_
                refine pI rfl rfl rfl ?_
                refine pB rfl rfl rfl ?_
                refine pB rfl rfl rfl ?_
                refine pB rfl rfl rfl ?_
                refine AOps.done ?_
                refine AWp.ret ?_
                subst h
                exact ⟨_, rfl, rfl⟩
              · replace h := h.2 e
                refine AOps.off rfl rfl ?_
                refine AOps.off rfl rfl ?_
                refine AOps.off rfl rfl ?_
                refine pB rfl rfl rfl ?_
                refine pB rfl rfl rfl ?_
                refine AOps.done ?_
                refine AWp.ret ?_
                subst h
                exact ⟨_, rfl, rfl⟩
            · replace h := h.2 e
              refine AOps.off rfl rfl ?_
              refine AOps.off rfl rfl ?_
              refine AOps.off rfl rfl ?_
              refine pB rfl rfl rfl ?_
              refine pB rfl rfl rfl ?_
              refine AOps.off rfl rfl ?_
              refine AOps.off rfl rfl ?_
              refine AOps.off rfl rfl ?_
              refine pB rfl rfl rfl ?_
              refine pB rfl rfl rfl ?_
              refine AOps.done ?_
              refine AWp.ret ?_
              subst h
              exact ⟨_, rfl, rfl⟩
          · replace h := h.2 e
            refine AOps.off rfl rfl ?_
            refine AOps.off rfl rfl ?_
            refine AOps.off rfl rfl ?_
            refine pB rfl rfl rfl ?_
            refine pB rfl rfl rfl ?_
            refine AOps.off rfl rfl ?_
            refine AOps.off rfl rfl ?_
            refine AOps.off rfl rfl ?_
            refine pB rfl rfl rfl ?_
            refine pB rfl rfl rfl ?_
            refine AOps.off rfl rfl ?_
            refine AOps.off rfl rfl ?_
            refine AOps.off rfl rfl ?_
            refine pB rfl rfl rfl ?_
            refine pB rfl rfl rfl ?_
            refine AOps.done ?_
            refine AWp.ret ?_
            subst h
            exact ⟨_, rfl, rfl⟩

def W_law11_RatOrder (x1 : GRat) (x2 : GRat) (x3 : GRat) (Q : Bool → Prop) : Prop :=
  Call (Ev_ref11_Right x1) fun x10 =>
  Br (!x10) (Q true) (
    Call (Ev_ref11_Right x2) fun x12 =>
    Br (!x12) (Q true) (
      Call (Ev_ref11_Right x3) fun x14 =>
      Br (!x14) (Q true) (
        Call (Ev_rat_Cmp x1 x2) fun x16 =>
        Call (Ev_rat_Cmp x2 x3) fun x18 =>
        Call (Ev_rat_Cmp x1 x3) fun x20 =>
        Join1 (fun j26 =>
          Call (Ev_rat_Cmp x2 x1) fun x27 =>
          Let (IntKind.i64.wrap (0 - x16)) fun x29 =>
          Br (x27 != x29) (j26 true) (
            Br ((x16 == (0 : Int)) != (GRat.beq x1 x2)) (j26 true) (
              Br (decide (x16 ≤ (0 : Int))) (
                Br (decide (x18 ≤ (0 : Int))) (
                  Br (decide (x20 > (0 : Int))) (j26 true) (
                    Br (decide (x16 < (0 : Int))) (
                      Br (decide (x18 ≤ (0 : Int))) (j26 (decide (x20 ≥ (0 : Int)))) (
                        j26 false)) (
                      j26 false))) (
                  Br (decide (x16 < (0 : Int))) (
                    Br (decide (x18 ≤ (0 : Int))) (j26 (decide (x20 ≥ (0 : Int)))) (
                      j26 false)) (
                    j26 false))) (
                Br (decide (x16 < (0 : Int))) (
                  Br (decide (x18 ≤ (0 : Int))) (j26 (decide (x20 ≥ (0 : Int)))) (
                    j26 false)) (
                  j26 false))))
        ) (fun (x25 : Bool) =>
          Br x25 (Q false) (
            Call (Ev_rat_Add x1 x3) fun x30 =>
            Call (Ev_rat_Add x2 x3) fun x32 =>
            Br (x30.2 != (0 : Int)) (Q true) (
              Br (x32.2 != (0 : Int)) (Q true) (
                Call (Ev_rat_Cmp x30.1 x32.1) fun x36 =>
                Q (x36 == x16))))))))

theorem walk_law11_RatOrder {x1 : GRat} {x2 : GRat} {x3 : GRat} {r : Bool} (h : W_law11_RatOrder x1 x2 x3 (fun r' => r' = r)) : Ev_law11_RatOrder x1 x2 x3 r := by
  unfold W_law11_RatOrder at h
  refine AFn.intro' (L := [(0, .dat (GRat.enc x1)), (1, .dat (GRat.enc x2)), (2, .dat (GRat.enc x3))]) tabOk Try.func6 rfl rfl Try.ntmps6 rfl rfl rfl ?_
  refine AWp.seq ?_
  refine AWp.regionN (fun _ => false) rfl ?_
  refine AOps.box (v := .dat (.st _ _)) rfl rfl rfl rfl rfl rfl ?_
  refine AOps.box (v := .dat (.st _ _)) rfl rfl rfl rfl rfl rfl ?_
  refine AOps.box (v := .dat (.st _ _)) rfl rfl rfl rfl rfl rfl ?_
  refine pB rfl rfl rfl ?_
  refine AOps.done ?_
  refine AWp.seq ?_
  refine AWp.seq ?_
  refine AWp.regionN (fun _ => false) rfl ?_
  refine pT rfl rfl rfl ?_
  obtain ⟨x10, hc11, h⟩ := h
  refine AOps.call hc11 rfl rfl rfl ⟨.inl rfl, trivial⟩ ?_
  refine pB rfl rfl rfl ?_
  refine pB rfl rfl rfl ?_
  refine AOps.splitB 17 rfl (fun e => ?_) (fun e => ?_)
  · replace h := h.1 e
    refine AOps.off rfl rfl ?_
    refine AOps.off rfl rfl ?_
    refine AOps.off rfl rfl ?_
    refine pB rfl rfl rfl ?_
    refine pB rfl rfl rfl ?_
    refine AOps.off rfl rfl ?_
    refine AOps.off rfl rfl ?_
    refine AOps.off rfl rfl ?_
    refine pB rfl rfl rfl ?_
    refine AOps.done ?_
    refine AWp.condT rfl ?_
    refine AWp.seq ?_
    refine AWp.regionN (fun _ => false) rfl ?_
    refine pB rfl rfl rfl ?_
    refine AOps.done ?_
    refine AWp.ret ?_
    subst h
    exact ⟨_, rfl, rfl⟩
  · replace h := h.2 e
    refine pT rfl rfl rfl ?_
    obtain ⟨x12, hc13, h⟩ := h
    refine AOps.call hc13 rfl rfl rfl ⟨.inl rfl, trivial⟩ ?_
    refine pB rfl rfl rfl ?_
    refine pB rfl rfl rfl ?_
    refine pB rfl rfl rfl ?_
    refine AOps.splitB 22 rfl (fun e => ?_) (fun e => ?_)
    · replace h := h.1 e
      refine AOps.off rfl rfl ?_
      refine AOps.off rfl rfl ?_
      refine AOps.off rfl rfl ?_
      refine pB rfl rfl rfl ?_
      refine AOps.done ?_
      refine AWp.condT rfl ?_
      refine AWp.seq ?_
      refine AWp.regionN (fun _ => false) rfl ?_
      refine pB rfl rfl rfl ?_
      refine AOps.done ?_
      refine AWp.ret ?_
      subst h
      exact ⟨_, rfl, rfl⟩
    · replace h := h.2 e
      refine pT rfl rfl rfl ?_
      obtain ⟨x14, hc15, h⟩ := h
      refine AOps.call hc15 rfl rfl rfl ⟨.inl rfl, trivial⟩ ?_
      refine pB rfl rfl rfl ?_
      refine pB rfl rfl rfl ?_
      refine AOps.done ?_
      refine AWp.cond rfl (fun e => ?_) (fun e => ?_)
      · replace h := h.1 e
        refine AWp.seq ?_
        refine AWp.regionN (fun _ => false) rfl ?_
        refine pB rfl rfl rfl ?_
        refine AOps.done ?_
        refine AWp.ret ?_
        subst h
        exact ⟨_, rfl, rfl⟩
      · replace h := h.2 e
        refine AWp.skip ?_
        refine AWp.seq ?_
        refine AWp.regionD (fun _ => false) mixed (by decide +kernel) rfl ?_
        refine pT rfl rfl rfl ?_
        refine pT rfl rfl rfl ?_
        obtain ⟨x16, hc17, h⟩ := h
        refine AOps.call hc17 rfl rfl rfl ⟨.inl rfl, .inl rfl, trivial⟩ ?_
        refine pT rfl rfl rfl ?_
        refine pT rfl rfl rfl ?_
        obtain ⟨x18, hc19, h⟩ := h
        refine AOps.call hc19 rfl rfl rfl ⟨.inl rfl, .inl rfl, trivial⟩ ?_
        refine pT rfl rfl rfl ?_
        refine pT rfl rfl rfl ?_
        obtain ⟨x20, hc21, h⟩ := h
        refine AOps.call hc21 rfl rfl rfl ⟨.inl rfl, .inl rfl, trivial⟩ ?_
        refine pI rfl rfl rfl ?_
        refine pI rfl rfl rfl ?_
        refine pI rfl rfl rfl ?_
        refine AOps.done ?_
        refine AWp.seq ?_
        refine AWp.seq ?_
        obtain ⟨J38, hj39, hk40⟩ := h
        refine AWp.cutK (I := fun p : Bool => mkSt [(3, .pt 3 [] 0), (4, .pt 4 [] 0), (5, .pt 5 [] 0), (7, .dat (.v (.int .i64 x16))), (73, .dat (.v (.bool p)))] [(3, .box 23 2 (.dat (GRat.enc x1))), (4, .box 23 2 (.dat (GRat.enc x2))), (5, .box 23 2 (.dat (GRat.enc x3)))]) (Inv := fun p : Bool => J38 p) ?_ (fun p hp => ?_)
        · have h := hj39
          refine AWp.regionN (fun _ => false) rfl ?_
          refine pT rfl rfl rfl ?_
          refine pT rfl rfl rfl ?_
          obtain ⟨x27, hc28, h⟩ := h
          refine AOps.call hc28 rfl rfl rfl ⟨.inl rfl, .inl rfl, trivial⟩ ?_
          refine pI rfl rfl rfl ?_
          obtain ⟨x29, ex29, h⟩ := h.get
          refine AOps.i tabOk rfl rfl rfl ex29 ?_
          refine pB rfl rfl rfl ?_
          refine pB rfl rfl rfl ?_
          refine AOps.splitB 42 rfl (fun e => ?_) (fun e => ?_)
          · replace h := h.1 e
            refine AOps.off rfl rfl ?_
            refine AOps.off rfl rfl ?_
            refine AOps.off rfl rfl ?_
            refine AOps.off rfl rfl ?_
            refine AOps.off rfl rfl ?_
            refine AOps.off rfl rfl ?_
            refine pB rfl rfl rfl ?_
            refine pB rfl rfl rfl ?_
            refine AOps.off rfl rfl ?_
            refine AOps.off rfl rfl ?_
            refine AOps.off rfl rfl ?_
            refine AOps.off rfl rfl ?_
            refine AOps.off rfl rfl ?_
            refine AOps.off rfl rfl ?_
            refine AOps.off rfl rfl ?_
            refine AOps.off rfl rfl ?_
            refine AOps.off rfl rfl ?_
            refine AOps.off rfl rfl ?_
            refine pB rfl rfl rfl ?_
            refine pB rfl rfl rfl ?_
            refine AOps.off rfl rfl ?_
            refine AOps.off rfl rfl ?_
            refine AOps.off rfl rfl ?_
            refine AOps.off rfl rfl ?_
            refine AOps.off rfl rfl ?_
            refine AOps.off rfl rfl ?_
            refine AOps.off rfl rfl ?_
            refine AOps.off rfl rfl ?_
            refine AOps.off rfl rfl ?_
            refine AOps.off rfl rfl ?_
            refine pB rfl rfl rfl ?_
            refine AOps.done ?_
            exact ⟨true, h, (Sub.list (fun i => i) rfl rfl ⟨rfl, rfl, rfl, rfl, rfl, trivial⟩ ⟨rfl, rfl, rfl, trivial⟩)⟩
          · replace h := h.2 e
            refine pI rfl rfl rfl ?_
            refine pB rfl rfl rfl ?_
            refine pT rfl rfl rfl ?_
            refine pT rfl rfl rfl ?_
            refine AOps.eqs rfl rfl rfl rfl rfl rfl rfl (by decide +kernel) (GRat.eqok23 _ x1 x2) ?_
            refine pB rfl rfl rfl ?_
            refine pB rfl rfl rfl ?_
            refine pB rfl rfl rfl ?_
            refine AOps.splitB 50 rfl (fun e => ?_) (fun e => ?_)
            · replace h := h.1 e
              refine AOps.off rfl rfl ?_
              refine AOps.off rfl rfl ?_
              refine AOps.off rfl rfl ?_
              refine AOps.off rfl rfl ?_
              refine AOps.off rfl rfl ?_
              refine AOps.off rfl rfl ?_
              refine AOps.off rfl rfl ?_
              refine AOps.off rfl rfl ?_
              refine AOps.off rfl rfl ?_
              refine AOps.off rfl rfl ?_
              refine pB rfl rfl rfl ?_
              refine pB rfl rfl rfl ?_
              refine AOps.off rfl rfl ?_
              refine AOps.off rfl rfl ?_
              refine AOps.off rfl rfl ?_
              refine AOps.off rfl rfl ?_
              refine AOps.off rfl rfl ?_
              refine AOps.off rfl rfl ?_
              refine AOps.off rfl rfl ?_
              refine AOps.off rfl rfl ?_
              refine AOps.off rfl rfl ?_
              refine AOps.off rfl rfl ?_
              refine pB rfl rfl rfl ?_
              refine AOps.done ?_
              exact ⟨true, h, (Sub.list (fun i => i) rfl rfl ⟨rfl, rfl, rfl, rfl, rfl, trivial⟩ ⟨rfl, rfl, rfl, trivial⟩)⟩
            · replace h := h.2 e
              refine pI rfl rfl rfl ?_
              refine pB rfl rfl rfl ?_
              refine pB rfl rfl rfl ?_
              refine AOps.splitB 53 rfl (fun e => ?_) (fun e => ?_)
              · replace h := h.1 e
                refine pI rfl rfl rfl ?_
                refine pB rfl rfl rfl ?_
                refine pB rfl rfl rfl ?_
                refine pB rfl rfl rfl ?_
                refine AOps.splitB 57 rfl (fun e => ?_) (fun e => ?_)
                · replace h := h.1 e
                  refine pI rfl rfl rfl ?_
                  refine pB rfl rfl rfl ?_
                  refine pB rfl rfl rfl ?_
                  refine pB rfl rfl rfl ?_
                  refine pB rfl rfl rfl ?_
                  refine AOps.splitB 62 rfl (fun e => ?_) (fun e => ?_)
                  · replace h := h.1 e
                    refine AOps.off rfl rfl ?_
                    refine AOps.off rfl rfl ?_
                    refine AOps.off rfl rfl ?_
                    refine AOps.off rfl rfl ?_
                    refine AOps.off rfl rfl ?_
                    refine AOps.off rfl rfl ?_
                    refine AOps.off rfl rfl ?_
                    refine AOps.off rfl rfl ?_
                    refine AOps.off rfl rfl ?_
                    refine AOps.off rfl rfl ?_
                    refine pB rfl rfl rfl ?_
                    refine AOps.done ?_
                    exact ⟨true, h, (Sub.list (fun i => i) rfl rfl ⟨rfl, rfl, rfl, rfl, rfl, trivial⟩ ⟨rfl, rfl, rfl, trivial⟩)⟩
                  · replace h := h.2 e
                    refine pI rfl rfl rfl ?_
                    refine pB rfl rfl rfl ?_
                    refine pB rfl rfl rfl ?_
                    refine AOps.splitB 65 rfl (fun e => ?_) (fun e => ?_)
                    · replace h := h.1 e
                      refine pI rfl rfl rfl ?_
                      refine pB rfl rfl rfl ?_
                      refine pB rfl rfl rfl ?_
                      refine pB rfl rfl rfl ?_
                      refine AOps.splitB 69 rfl (fun e => ?_) (fun e => ?_)
                      · replace h := h.1 e
                        refine pI rfl rfl rfl ?_
                        refine pB rfl rfl rfl ?_
                        refine pB rfl rfl rfl ?_
                        refine pB rfl rfl rfl ?_
                        refine AOps.done ?_
                        exact ⟨(decide (x20 ≥ (0 : Int))), h, (Sub.list (fun i => i) rfl rfl ⟨rfl, rfl, rfl, rfl, rfl, trivial⟩ ⟨rfl, rfl, rfl, trivial⟩)⟩
                      · replace h := h.2 e
                        refine AOps.off rfl rfl ?_
                        refine AOps.off rfl rfl ?_
                        refine pB rfl rfl rfl ?_
                        refine pB rfl rfl rfl ?_
                        refine AOps.done ?_
                        exact ⟨false, h, (Sub.list (fun i => i) rfl rfl ⟨rfl, rfl, rfl, rfl, rfl, trivial⟩ ⟨rfl, rfl, rfl, trivial⟩)⟩
                    · replace h := h.2 e
                      refine AOps.off rfl rfl ?_
                      refine AOps.off rfl rfl ?_
                      refine pB rfl rfl rfl ?_
                      refine pB rfl rfl rfl ?_
                      refine AOps.off rfl rfl ?_
                      refine AOps.off rfl rfl ?_
                      refine pB rfl rfl rfl ?_
                      refine pB rfl rfl rfl ?_
                      refine AOps.done ?_
                      exact ⟨false, h, (Sub.list (fun i => i) rfl rfl ⟨rfl, rfl, rfl, rfl, rfl, trivial⟩ ⟨rfl, rfl, rfl, trivial⟩)⟩
                · replace h := h.2 e
                  refine AOps.off rfl rfl ?_
                  refine AOps.off rfl rfl ?_
                  refine pB rfl rfl rfl ?_
                  refine pB rfl rfl rfl ?_
                  refine pB rfl rfl rfl ?_
                  refine pI rfl rfl rfl ?_
                  refine pB rfl rfl rfl ?_
                  refine pB rfl rfl rfl ?_
                  refine AOps.splitB 65 rfl (fun e => ?_) (fun e => ?_)
                  · replace h := h.1 e
                    refine pI rfl rfl rfl ?_
                    refine pB rfl rfl rfl ?_
                    refine pB rfl rfl rfl ?_
                    refine pB rfl rfl rfl ?_
                    refine AOps.splitB 69 rfl (fun e => ?_) (fun e => ?_)
                    · replace h := h.1 e
                      refine pI rfl rfl rfl ?_
                      refine pB rfl rfl rfl ?_
                      refine pB rfl rfl rfl ?_
                      refine pB rfl rfl rfl ?_
                      refine AOps.done ?_
                      exact ⟨(decide (x20 ≥ (0 : Int))), h, (Sub.list (fun i => i) rfl rfl ⟨rfl, rfl, rfl, rfl, rfl, trivial⟩ ⟨rfl, rfl, rfl, trivial⟩)⟩
                    · replace h := h.2 e
                      refine AOps.off rfl rfl ?_
                      refine AOps.off rfl rfl ?_
                      refine pB rfl rfl rfl ?_
                      refine pB rfl rfl rfl ?_
                      refine AOps.done ?_
                      exact ⟨false, h, (Sub.list (fun i => i) rfl rfl ⟨rfl, rfl, rfl, rfl, rfl, trivial⟩ ⟨rfl, rfl, rfl, trivial⟩)⟩
                  · replace h := h.2 e
                    refine AOps.off rfl rfl ?_
                    refine AOps.off rfl rfl ?_
                    refine pB rfl rfl rfl ?_
                    refine pB rfl rfl rfl ?_
                    refine AOps.off rfl rfl ?_
                    refine AOps.off rfl rfl ?_
                    refine pB rfl rfl rfl ?_
                    refine pB rfl rfl rfl ?_
                    refine AOps.done ?_
                    exact ⟨false, h, (Sub.list (fun i => i) rfl rfl ⟨rfl, rfl, rfl, rfl, rfl, trivial⟩ ⟨rfl, rfl, rfl, trivial⟩)⟩
              · replace h := h.2 e
                refine AOps.off rfl rfl ?_
                refine AOps.off rfl rfl ?_
                refine pB rfl rfl rfl ?_
                refine pB rfl rfl rfl ?_
                refine AOps.off rfl rfl ?_
                refine AOps.off rfl rfl ?_
                refine pB rfl rfl rfl ?_
                refine pB rfl rfl rfl ?_
                refine pB rfl rfl rfl ?_
                refine pI rfl rfl rfl ?_
                refine pB rfl rfl rfl ?_
                refine pB rfl rfl rfl ?_
                refine AOps.splitB 65 rfl (fun e => ?_) (fun e => ?_)
                · replace h := h.1 e
                  refine pI rfl rfl rfl ?_
                  refine pB rfl rfl rfl ?_
                  refine pB rfl rfl rfl ?_
                  refine pB rfl rfl rfl ?_
                  refine AOps.splitB 69 rfl (fun e => ?_) (fun e => ?_)
                  · replace h := h.1 e
                    refine pI rfl rfl rfl ?_
                    refine pB rfl rfl rfl ?_
                    refine pB rfl rfl rfl ?_
                    refine pB rfl rfl rfl ?_
                    refine AOps.done ?_
                    exact ⟨(decide (x20 ≥ (0 : Int))), h, (Sub.list (fun i => i) rfl rfl ⟨rfl, rfl, rfl, rfl, rfl, trivial⟩ ⟨rfl, rfl, rfl, trivial⟩)⟩
                  · replace h := h.2 e
                    refine AOps.off rfl rfl ?_
                    refine AOps.off rfl rfl ?_
                    refine pB rfl rfl rfl ?_
                    refine pB rfl rfl rfl ?_
                    refine AOps.done ?_
                    exact ⟨false, h, (Sub.list (fun i => i) rfl rfl ⟨rfl, rfl, rfl, rfl, rfl, trivial⟩ ⟨rfl, rfl, rfl, trivial⟩)⟩
                · replace h := h.2 e
                  refine AOps.off rfl rfl ?_
                  refine AOps.off rfl rfl ?_
                  refine pB rfl rfl rfl ?_
                  refine pB rfl rfl rfl ?_
                  refine AOps.off rfl rfl ?_
                  refine AOps.off rfl rfl ?_
                  refine pB rfl rfl rfl ?_
                  refine pB rfl rfl rfl ?_
                  refine AOps.done ?_
                  exact ⟨false, h, (Sub.list (fun i => i) rfl rfl ⟨rfl, rfl, rfl, rfl, rfl, trivial⟩ ⟨rfl, rfl, rfl, trivial⟩)⟩
        · have h := hk40 p hp
          revert h; clear hp; generalize p = x25; intro h
          refine AWp.cond rfl (fun e => ?_) (fun e => ?_)
          · replace h := h.1 e
            refine AWp.seq ?_
            refine AWp.regionN (fun _ => false) rfl ?_
            refine pB rfl rfl rfl ?_
            refine AOps.done ?_
            refine AWp.ret ?_
            subst h
            exact ⟨_, rfl, rfl⟩
          · replace h := h.2 e
            refine AWp.skip ?_
            refine AWp.seq ?_
            refine AWp.regionN (fun o => writes o) rfl ?_
            refine pT rfl rfl rfl ?_
            refine pT rfl rfl rfl ?_
            obtain ⟨x30, hc31, h⟩ := h
            refine AOps.call hc31 rfl rfl rfl ⟨.inl rfl, .inl rfl, trivial⟩ ?_
            refine pU rfl rfl rfl ?_
            refine pT rfl rfl rfl ?_
            refine pI rfl rfl rfl ?_
            refine AOps.alloc tabOk rfl rfl rfl rfl rfl ?_
            refine AOps.store tabOk (v := .dat (.st _ _)) rfl rfl rfl rfl rfl rfl rfl rfl rfl rfl rfl rfl rfl ?_
            refine pI rfl rfl rfl ?_
            refine AOps.done ?_
            refine AWp.seq ?_
            refine AWp.regionN (fun o => writes o) rfl ?_
            refine pT rfl rfl rfl ?_
            refine pT rfl rfl rfl ?_
            obtain ⟨x32, hc33, h⟩ := h
            refine AOps.call hc33 rfl rfl rfl ⟨.inl rfl, .inl rfl, trivial⟩ ?_
            refine pU rfl rfl rfl ?_
            refine pT rfl rfl rfl ?_
            refine pI rfl rfl rfl ?_
            refine AOps.alloc tabOk rfl rfl rfl rfl rfl ?_
            refine AOps.store tabOk (v := .dat (.st _ _)) rfl rfl rfl rfl rfl rfl rfl rfl rfl rfl rfl rfl rfl ?_
            refine pI rfl rfl rfl ?_
            refine AOps.done ?_
            refine AWp.seq ?_
            refine AWp.regionN (fun _ => false) rfl ?_
            refine pI rfl rfl rfl ?_
            refine pB rfl rfl rfl ?_
            refine pB rfl rfl rfl ?_
            refine AOps.splitB 88 rfl (fun e => ?_) (fun e => ?_)
            · replace h := h.1 e
              refine AOps.off rfl rfl ?_
              refine AOps.off rfl rfl ?_
              refine pB rfl rfl rfl ?_
              refine pB rfl rfl rfl ?_
              refine AOps.off rfl rfl ?_
              refine AOps.off rfl rfl ?_
              refine AOps.off rfl rfl ?_
              refine AOps.off rfl rfl ?_
              refine AOps.off rfl rfl ?_
              refine pB rfl rfl rfl ?_
              refine pB rfl rfl rfl ?_
              refine AOps.done ?_
              refine AWp.ret ?_
              subst h
              exact ⟨_, rfl, rfl⟩
            · replace h := h.2 e
              refine pI rfl rfl rfl ?_
              refine pB rfl rfl rfl ?_
              refine pB rfl rfl rfl ?_
              refine pB rfl rfl rfl ?_
              refine AOps.splitB 92 rfl (fun e => ?_) (fun e => ?_)
              · replace h := h.1 e
                refine AOps.off rfl rfl ?_
                refine AOps.off rfl rfl ?_
                refine AOps.off rfl rfl ?_
                refine AOps.off rfl rfl ?_
                refine AOps.off rfl rfl ?_
                refine pB rfl rfl rfl ?_
                refine pB rfl rfl rfl ?_
                refine AOps.done ?_
                refine AWp.ret ?_
                subst h
                exact ⟨_, rfl, rfl⟩
              · replace h := h.2 e
                refine pT rfl rfl rfl ?_
                refine pT rfl rfl rfl ?_
                obtain ⟨x36, hc37, h⟩ := h
                refine AOps.call hc37 rfl rfl rfl ⟨.inl rfl, .inl rfl, trivial⟩ ?_
                refine pI rfl rfl rfl ?_
                refine pB rfl rfl rfl ?_
                refine pB rfl rfl rfl ?_
                refine pB rfl rfl rfl ?_
                refine AOps.done ?_
                refine AWp.ret ?_
                subst h
                exact ⟨_, rfl, rfl⟩

end Go.Sim.Ytnhflokfcnfegaa
