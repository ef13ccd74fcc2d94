/- What is proved: functions of the program compute what plain statements tell. -/
import Derived.Test.YtlglkgineclggaaWE
namespace Go.Sim.Ytlglkgineclggaa
open Go.RowKit Go.Proofs Go.Proofs.Try
set_option maxRecDepth 100000

def W_law11_RatBack (x1 : GRat) (x2 : GRat) (Q : Bool → Prop) : Prop :=
  Call (Ev_ref11_Right x1) fun x7 =>
  Br (!x7) (Q true) (
    Call (Ev_ref11_Right x2) fun x9 =>
    Br (!x9) (Q true) (
      Call (Ev_rat_Add x1 x2) fun x11 =>
      Join0 (fun j35 =>
        Br (x11.2 == (0 : Int)) (
          Call (Ev_rat_Sub x11.1 x2) fun x36 =>
          Br (x36.2 != (0 : Int)) (Q false) (
            Br (!(GRat.beq x36.1 x1)) (Q false) (
              Call (Ev_rat_Hold x11.1) fun x48 =>
              Call (Ev_rat_Hold x1) fun x50 =>
              Call (Ev_rat_Hold x2) fun x52 =>
              Call (Ev_ival_Add x50 x52) fun x54 =>
              Call (Ev_ival_Inside x48 x54) fun x56 =>
              Br (!x56) (Q false) (
                j35)))) (
          j35)
      ) (
        Call (Ev_rat_Mul x1 x2) fun x58 =>
        Join0 (fun j72 =>
          Br (x58.2 == (0 : Int)) (
            Call (Ev_rat_Hold x58.1) fun x73 =>
            Call (Ev_rat_Hold x1) fun x75 =>
            Call (Ev_rat_Hold x2) fun x77 =>
            Call (Ev_ival_Mul x75 x77) fun x79 =>
            Call (Ev_ival_Inside x73 x79) fun x81 =>
            Br (!x81) (Q false) (
              Call (Ev_rat_Div x58.1 x2) fun x83 =>
              Br (x2.N != (0 : Int)) (
                Br (x83.2 != (0 : Int)) (Q false) (
                  Br (!(GRat.beq x83.1 x1)) (Q false) (
                    j72))) (
                j72))) (
            j72)
        ) (
          Br (x58.2 == (0 : Int)) (Q true) (
            Q (x58.2 == (3 : Int)))))))

theorem walk_law11_RatBack {x1 : GRat} {x2 : GRat} {r : Bool} (h : W_law11_RatBack x1 x2 (fun r' => r' = r)) : Ev_law11_RatBack x1 x2 r := by
  unfold W_law11_RatBack at h
  refine AFn.intro' (L := [(0, .dat (GRat.enc x1)), (1, .dat (GRat.enc x2))]) tabOk Try.func8 rfl rfl Try.ntmps8 rfl rfl rfl ?_
  refine AWp.seq ?_
  refine AWp.regionN (fun _ => false) rfl ?_
  refine AOps.box (v := .dat (.st _ _)) rfl rfl rfl rfl rfl rfl ?_
  refine AOps.box (v := .dat (.st _ _)) rfl rfl rfl rfl rfl rfl ?_
  refine pB rfl rfl rfl ?_
  refine AOps.done ?_
  refine AWp.seq ?_
  refine AWp.seq ?_
  refine AWp.regionN (fun _ => false) rfl ?_
  refine pT rfl rfl rfl ?_
  obtain ⟨x7, hc8, h⟩ := h
  refine AOps.call hc8 rfl rfl rfl ⟨.inl rfl, trivial⟩ ?_
  refine pB rfl rfl rfl ?_
  refine pB rfl rfl rfl ?_
  refine AOps.splitB 14 rfl (fun e => ?_) (fun e => ?_)
  · replace h := h.1 e
    refine AOps.off rfl rfl ?_
    refine AOps.off rfl rfl ?_
    refine AOps.off rfl rfl ?_
    refine pB rfl rfl rfl ?_
    refine AOps.done ?_
    refine AWp.condT rfl ?_
    refine AWp.seq ?_
    refine AWp.regionN (fun _ => false) rfl ?_
    refine pB rfl rfl rfl ?_
    refine AOps.done ?_
    refine AWp.ret ?_
    subst h
    exact ⟨_, rfl, rfl⟩
  · replace h := h.2 e
    refine pT rfl rfl rfl ?_
    obtain ⟨x9, hc10, h⟩ := h
    refine AOps.call hc10 rfl rfl rfl ⟨.inl rfl, trivial⟩ ?_
    refine pB rfl rfl rfl ?_
    refine pB rfl rfl rfl ?_
    refine AOps.done ?_
    refine AWp.cond rfl (fun e => ?_) (fun e => ?_)
    · replace h := h.1 e
      refine AWp.seq ?_
      refine AWp.regionN (fun _ => false) rfl ?_
      refine pB rfl rfl rfl ?_
      refine AOps.done ?_
      refine AWp.ret ?_
      subst h
      exact ⟨_, rfl, rfl⟩
    · replace h := h.2 e
      refine AWp.skip ?_
      refine AWp.seq ?_
      refine AWp.regionN (fun o => writes o) rfl ?_
      refine pT rfl rfl rfl ?_
      refine pT rfl rfl rfl ?_
      obtain ⟨x11, hc12, h⟩ := h
      refine AOps.call hc12 rfl rfl rfl ⟨.inl rfl, .inl rfl, trivial⟩ ?_
      refine pU rfl rfl rfl ?_
      refine pT rfl rfl rfl ?_
      refine pI rfl rfl rfl ?_
      refine AOps.alloc tabOk rfl rfl rfl rfl rfl ?_
      refine AOps.store tabOk (v := .dat (.st _ _)) rfl rfl rfl rfl rfl rfl rfl rfl rfl rfl rfl rfl rfl ?_
      refine pI rfl rfl rfl ?_
      refine AOps.done ?_
      refine AWp.seq ?_
      refine AWp.seq ?_
      refine AWp.regionN (fun _ => false) rfl ?_
      refine pI rfl rfl rfl ?_
      refine pB rfl rfl rfl ?_
      refine AOps.done ?_
      obtain ⟨J88, hj89, hk90⟩ := h
      refine AWp.cutK (I := fun p : Unit => mkSt [(2, .pt 2 [] 0), (3, .pt 3 [] 0), (5, .pt 5 [] 0)] [(2, .box 56 2 (.dat (GRat.enc x1))), (3, .box 56 2 (.dat (GRat.enc x2))), (5, .box 56 2 (.dat (GRat.enc x11.1)))]) (Inv := fun p : Unit => J88) ?_ (fun p hp => ?_)
      · have h := hj89
        refine AWp.cond rfl (fun e => ?_) (fun e => ?_)
        · replace h := h.1 e
          refine AWp.seq ?_
          refine AWp.regionN (fun o => writes o) rfl ?_
          refine pT rfl rfl rfl ?_
          refine pT rfl rfl rfl ?_
          obtain ⟨x36, hc37, h⟩ := h
          refine AOps.call hc37 rfl rfl rfl ⟨.inl rfl, .inl rfl, trivial⟩ ?_
          refine pU rfl rfl rfl ?_
          refine pT rfl rfl rfl ?_
          refine pI rfl rfl rfl ?_
          refine AOps.alloc tabOk rfl rfl rfl rfl rfl ?_
          refine AOps.store tabOk (v := .dat (.st _ _)) rfl rfl rfl rfl rfl rfl rfl rfl rfl rfl rfl rfl rfl ?_
          refine pI rfl rfl rfl ?_
          refine AOps.done ?_
          refine AWp.seq ?_
          refine AWp.regionD (fun _ => false) mixed (by decide +kernel) rfl ?_
          refine pI rfl rfl rfl ?_
          refine pB rfl rfl rfl ?_
          refine pB rfl rfl rfl ?_
          refine AOps.splitB 35 rfl (fun e => ?_) (fun e => ?_)
          · replace h := h.1 e
            refine AOps.off rfl rfl ?_
            refine AOps.off rfl rfl ?_
            refine AOps.off rfl rfl ?_
            refine pB rfl rfl rfl ?_
            refine pB rfl rfl rfl ?_
            refine AOps.off rfl rfl ?_
            refine AOps.off rfl rfl ?_
            refine AOps.off rfl rfl ?_
            refine AOps.off rfl rfl ?_
            refine AOps.off rfl rfl ?_
            refine AOps.off rfl rfl ?_
            refine AOps.off rfl rfl ?_
            refine AOps.off rfl rfl ?_
            refine AOps.off rfl rfl ?_
            refine pB rfl rfl rfl ?_
            refine AOps.done ?_
            refine AWp.condT rfl ?_
            refine AWp.seq ?_
            refine AWp.regionN (fun _ => false) rfl ?_
            refine pB rfl rfl rfl ?_
            refine AOps.done ?_
            refine AWp.ret ?_
            subst h
            exact ⟨_, rfl, rfl⟩
          · replace h := h.2 e
            refine pT rfl rfl rfl ?_
            refine pT rfl rfl rfl ?_
            refine AOps.nes rfl rfl rfl rfl rfl rfl rfl (by decide +kernel) (GRat.eqok56 _ x36.1 x1) ?_
            refine pB rfl rfl rfl ?_
            refine pB rfl rfl rfl ?_
            refine AOps.splitB 40 rfl (fun e => ?_) (fun e => ?_)
            · replace h := h.1 e
              refine AOps.off rfl rfl ?_
              refine AOps.off rfl rfl ?_
              refine AOps.off rfl rfl ?_
              refine AOps.off rfl rfl ?_
              refine AOps.off rfl rfl ?_
              refine AOps.off rfl rfl ?_
              refine AOps.off rfl rfl ?_
              refine AOps.off rfl rfl ?_
              refine AOps.off rfl rfl ?_
              refine pB rfl rfl rfl ?_
              refine AOps.done ?_
              refine AWp.condT rfl ?_
              refine AWp.seq ?_
              refine AWp.regionN (fun _ => false) rfl ?_
              refine pB rfl rfl rfl ?_
              refine AOps.done ?_
              refine AWp.ret ?_
              subst h
              exact ⟨_, rfl, rfl⟩
            · replace h := h.2 e
              refine pT rfl rfl rfl ?_
              obtain ⟨x48, hc49, h⟩ := h
              refine AOps.call hc49 rfl rfl rfl ⟨.inl rfl, trivial⟩ ?_
              refine pT rfl rfl rfl ?_
              obtain ⟨x50, hc51, h⟩ := h
              refine AOps.call hc51 rfl rfl rfl ⟨.inl rfl, trivial⟩ ?_
              refine pT rfl rfl rfl ?_
              obtain ⟨x52, hc53, h⟩ := h
              refine AOps.call hc53 rfl rfl rfl ⟨.inl rfl, trivial⟩ ?_
              obtain ⟨x54, hc55, h⟩ := h
              refine AOps.call hc55 rfl rfl rfl ⟨.inl rfl, .inl rfl, trivial⟩ ?_
              obtain ⟨x56, hc57, h⟩ := h
              refine AOps.call hc57 rfl rfl rfl ⟨.inl rfl, .inl rfl, trivial⟩ ?_
              refine pB rfl rfl rfl ?_
              refine pB rfl rfl rfl ?_
              refine AOps.done ?_
              refine AWp.cond rfl (fun e => ?_) (fun e => ?_)
              · replace h := h.1 e
                refine AWp.seq ?_
                refine AWp.regionN (fun _ => false) rfl ?_
                refine pB rfl rfl rfl ?_
                refine AOps.done ?_
                refine AWp.ret ?_
                subst h
                exact ⟨_, rfl, rfl⟩
              · replace h := h.2 e
                refine AWp.skip ?_
                exact ⟨(), h, (Sub.list (fun i => i) rfl rfl ⟨rfl, rfl, rfl, trivial⟩ ⟨rfl, rfl, rfl, trivial⟩)⟩
        · replace h := h.2 e
          refine AWp.skip ?_
          exact ⟨(), h, (Sub.list (fun i => i) rfl rfl ⟨rfl, rfl, rfl, trivial⟩ ⟨rfl, rfl, rfl, trivial⟩)⟩
      · have h := hk90 hp
        refine AWp.seq ?_
        refine AWp.regionN (fun o => writes o) rfl ?_
        refine pT rfl rfl rfl ?_
        refine pT rfl rfl rfl ?_
        obtain ⟨x58, hc59, h⟩ := h
        refine AOps.call hc59 rfl rfl rfl ⟨.inl rfl, .inl rfl, trivial⟩ ?_
        refine pU rfl rfl rfl ?_
        refine pT rfl rfl rfl ?_
        refine pI rfl rfl rfl ?_
        refine AOps.store tabOk (v := .dat (.st _ _)) rfl rfl rfl rfl rfl rfl rfl rfl rfl rfl rfl rfl rfl ?_
        refine pI rfl rfl rfl ?_
        refine AOps.done ?_
        refine AWp.seq ?_
        refine AWp.seq ?_
        refine AWp.regionN (fun _ => false) rfl ?_
        refine pI rfl rfl rfl ?_
        refine pB rfl rfl rfl ?_
        refine AOps.done ?_
        obtain ⟨J85, hj86, hk87⟩ := h
        refine AWp.cutK (I := fun p : Unit => mkSt [(6, .dat (.v (.int .i64 x58.2)))] []) (Inv := fun p : Unit => J85) ?_ (fun p hp => ?_)
        · have h := hj86
          refine AWp.cond rfl (fun e => ?_) (fun e => ?_)
          · replace h := h.1 e
            refine AWp.seq ?_
            refine AWp.seq ?_
            refine AWp.regionD (fun _ => false) mixed (by decide +kernel) rfl ?_
            refine pT rfl rfl rfl ?_
            obtain ⟨x73, hc74, h⟩ := h
            refine AOps.call hc74 rfl rfl rfl ⟨.inl rfl, trivial⟩ ?_
            refine pT rfl rfl rfl ?_
            obtain ⟨x75, hc76, h⟩ := h
            refine AOps.call hc76 rfl rfl rfl ⟨.inl rfl, trivial⟩ ?_
            refine pT rfl rfl rfl ?_
            obtain ⟨x77, hc78, h⟩ := h
            refine AOps.call hc78 rfl rfl rfl ⟨.inl rfl, trivial⟩ ?_
            obtain ⟨x79, hc80, h⟩ := h
            refine AOps.call hc80 rfl rfl rfl ⟨.inl rfl, .inl rfl, trivial⟩ ?_
            obtain ⟨x81, hc82, h⟩ := h
            refine AOps.call hc82 rfl rfl rfl ⟨.inl rfl, .inl rfl, trivial⟩ ?_
            refine pB rfl rfl rfl ?_
            refine AOps.done ?_
            refine AWp.cond rfl (fun e => ?_) (fun e => ?_)
            · replace h := h.1 e
              refine AWp.seq ?_
              refine AWp.regionN (fun _ => false) rfl ?_
              refine pB rfl rfl rfl ?_
              refine AOps.done ?_
              refine AWp.ret ?_
              subst h
              exact ⟨_, rfl, rfl⟩
            · replace h := h.2 e
              refine AWp.skip ?_
              refine AWp.seq ?_
              refine AWp.regionN (fun o => writes o) rfl ?_
              refine pT rfl rfl rfl ?_
              refine pT rfl rfl rfl ?_
              obtain ⟨x83, hc84, h⟩ := h
              refine AOps.call hc84 rfl rfl rfl ⟨.inl rfl, .inl rfl, trivial⟩ ?_
              refine pU rfl rfl rfl ?_
              refine pT rfl rfl rfl ?_
              refine pI rfl rfl rfl ?_
              refine AOps.alloc tabOk rfl rfl rfl rfl rfl ?_
              refine AOps.store tabOk (v := .dat (.st _ _)) rfl rfl rfl rfl rfl rfl rfl rfl rfl rfl rfl rfl rfl ?_
              refine pI rfl rfl rfl ?_
              refine AOps.done ?_
              refine AWp.seq ?_
              refine AWp.regionN (fun _ => false) rfl ?_
              refine pP rfl rfl rfl ?_
              refine pI rfl rfl rfl ?_
              refine pB rfl rfl rfl ?_
              refine pB rfl rfl rfl ?_
              refine AOps.splitB 77 rfl (fun e => ?_) (fun e => ?_)
              · replace h := h.1 e
                refine pI rfl rfl rfl ?_
                refine pB rfl rfl rfl ?_
                refine pB rfl rfl rfl ?_
                refine AOps.splitB 80 rfl (fun e => ?_) (fun e => ?_)
                · replace h := h.1 e
                  refine AOps.off rfl rfl ?_
                  refine AOps.off rfl rfl ?_
                  refine AOps.off rfl rfl ?_
                  refine pB rfl rfl rfl ?_
                  refine pB rfl rfl rfl ?_
                  refine AOps.done ?_
                  refine AWp.condT rfl ?_
                  refine AWp.seq ?_
                  refine AWp.regionN (fun _ => false) rfl ?_
                  refine pB rfl rfl rfl ?_
                  refine AOps.done ?_
                  refine AWp.ret ?_
                  subst h
                  exact ⟨_, rfl, rfl⟩
                · replace h := h.2 e
                  refine pT rfl rfl rfl ?_
                  refine pT rfl rfl rfl ?_
                  refine AOps.nes rfl rfl rfl rfl rfl rfl rfl (by decide +kernel) (GRat.eqok56 _ x83.1 x1) ?_
                  refine pB rfl rfl rfl ?_
                  refine pB rfl rfl rfl ?_
                  refine AOps.done ?_
                  refine AWp.cond rfl (fun e => ?_) (fun e => ?_)
                  · replace h := h.1 e
                    refine AWp.seq ?_
                    refine AWp.regionN (fun _ => false) rfl ?_
                    refine pB rfl rfl rfl ?_
                    refine AOps.done ?_
                    refine AWp.ret ?_
                    subst h
                    exact ⟨_, rfl, rfl⟩
                  · replace h := h.2 e
                    refine AWp.skip ?_
                    exact ⟨(), h, (Sub.list (fun i => i) rfl rfl ⟨rfl, trivial⟩ trivial)⟩
              · replace h := h.2 e
                refine AOps.off rfl rfl ?_
                refine AOps.off rfl rfl ?_
                refine AOps.off rfl rfl ?_
                refine AOps.off rfl rfl ?_
                refine AOps.off rfl rfl ?_
                refine AOps.off rfl rfl ?_
                refine AOps.off rfl rfl ?_
                refine pB rfl rfl rfl ?_
                refine AOps.done ?_
                refine AWp.condF rfl ?_
                refine AWp.skip ?_
                exact ⟨(), h, (Sub.list (fun i => i) rfl rfl ⟨rfl, trivial⟩ trivial)⟩
          · replace h := h.2 e
            refine AWp.skip ?_
            exact ⟨(), h, (Sub.list (fun i => i) rfl rfl ⟨rfl, trivial⟩ trivial)⟩
        · have h := hk87 hp
          refine AWp.seq ?_
          refine AWp.regionN (fun _ => false) rfl ?_
          refine pI rfl rfl rfl ?_
          refine pB rfl rfl rfl ?_
          refine pB rfl rfl rfl ?_
          refine AOps.splitB 88 rfl (fun e => ?_) (fun e => ?_)
          · replace h := h.1 e
            refine AOps.off rfl rfl ?_
            refine AOps.off rfl rfl ?_
            refine pB rfl rfl rfl ?_
            refine pB rfl rfl rfl ?_
            refine AOps.done ?_
            refine AWp.ret ?_
            subst h
            exact ⟨_, rfl, rfl⟩
          · replace h := h.2 e
            refine pI rfl rfl rfl ?_
            refine pB rfl rfl rfl ?_
            refine pB rfl rfl rfl ?_
            refine pB rfl rfl rfl ?_
            refine AOps.done ?_
            refine AWp.ret ?_
            subst h
            exact ⟨_, rfl, rfl⟩

end Go.Sim.Ytlglkgineclggaa
