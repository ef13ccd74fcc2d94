/- What is proved: functions of the program compute what plain statements tell. -/
import Derived.Test.YtlglkgineclggaaWE
namespace Go.Sim.Ytlglkgineclggaa
open Go.RowKit Go.Proofs Go.Proofs.Try
set_option maxRecDepth 100000

def W_rat_Add (x1 : GRat) (x2 : GRat) (Q : GRat × Int → Prop) : Prop :=
  Call (Ev_rat_Right x1) fun x7 =>
  Br (!x7) (Q (GRat.zero, (1 : Int))) (
    Call (Ev_rat_Right x2) fun x9 =>
    Br (!x9) (Q (GRat.zero, (1 : Int))) (
      Let (IntKind.u64.wrap x1.D) fun x11 =>
      Let (IntKind.u64.wrap x2.D) fun x12 =>
      Call (Ev_rat_gcd x11 x12) fun x13 =>
      Let (IntKind.u64.wrap x1.D) fun x15 =>
      Nz x13 <|
      Let (IntKind.u64.wrap (Int.tdiv x15 x13)) fun x16 =>
      Let (IntKind.u64.wrap x2.D) fun x17 =>
      Nz x13 <|
      Let (IntKind.u64.wrap (Int.tdiv x17 x13)) fun x18 =>
      Call (Ev_rat_size x1.N) fun x19 =>
      Call (Ev_math_bits_Mul64 x19 x18) fun x21 =>
      Call (Ev_rat_size x2.N) fun x23 =>
      Call (Ev_math_bits_Mul64 x23 x16) fun x25 =>
      Join3 (fun j47 =>
        Br ((decide (x1.N < (0 : Int))) == (decide (x2.N < (0 : Int)))) (
          Call (Ev_math_bits_Add64 x21.2 x25.2 (0 : Int)) fun x48 =>
          Let (IntKind.u64.wrap (x25.1 + x48.2)) fun x50 =>
          Let (IntKind.u64.wrap (x21.1 + x50)) fun x51 =>
          j47 x51 x48.1 (decide (x1.N < (0 : Int)))) (
          Join1 (fun j53 =>
            Br (decide (x21.1 > x25.1)) (j53 true) (
              Br (x21.1 == x25.1) (j53 (decide (x21.2 ≥ x25.2))) (
                j53 false))
          ) (fun (x52 : Bool) =>
            Br x52 (
              Call (Ev_math_bits_Sub64 x21.2 x25.2 (0 : Int)) fun x54 =>
              Let (IntKind.u64.wrap (x25.1 + x54.2)) fun x56 =>
              Let (IntKind.u64.wrap (x21.1 - x56)) fun x57 =>
              j47 x57 x54.1 (decide (x1.N < (0 : Int)))) (
              Call (Ev_math_bits_Sub64 x25.2 x21.2 (0 : Int)) fun x58 =>
              Let (IntKind.u64.wrap (x25.1 - x21.1)) fun x60 =>
              Let (IntKind.u64.wrap (x60 - x58.2)) fun x61 =>
              j47 x61 x58.1 (decide (x2.N < (0 : Int))))))
      ) (fun (x44 : Int) (x45 : Int) (x46 : Bool) =>
        Call (Ev_math_bits_Rem64 x44 x45 x13) fun x65 =>
        Call (Ev_rat_gcd x65 x13) fun x67 =>
        Br (x67 == (0 : Int)) (Q (GRat.zero, (3 : Int))) (
          Br (decide (x44 ≥ x67)) (Q (GRat.zero, (3 : Int))) (
            Call (Ev_math_bits_Div64 x44 x45 x67) fun x69 =>
            Br (x69.1 == (0 : Int)) (Q (({ GRat.zero with D := (1 : Int) }), (0 : Int))) (
              Nz x67 <|
              Let (IntKind.u64.wrap (Int.tdiv x13 x67)) fun x71 =>
              Let (IntKind.u64.wrap (x16 * x71)) fun x72 =>
              Call (Ev_math_bits_Mul64 x72 x18) fun x73 =>
              Br (decide (x73.1 > (0 : Int))) (Q (GRat.zero, (3 : Int))) (
                Call (Ev_rat_made x46 x69.1 x73.2) fun x75 =>
                Q (x75.1, x75.2))))))))

theorem walk_rat_Add {x1 : GRat} {x2 : GRat} {r : GRat × Int} (h : W_rat_Add x1 x2 (fun r' => r' = r)) : Ev_rat_Add x1 x2 r := by
  unfold W_rat_Add at h
  refine AFn.intro' (L := [(0, .dat (GRat.enc x1)), (1, .dat (GRat.enc x2))]) tabOk Try.func41 rfl rfl Try.ntmps41 rfl rfl rfl ?_
  refine AWp.seq ?_
  refine AWp.regionN (fun _ => false) rfl ?_
  refine AOps.box (v := .dat (.st _ _)) rfl rfl rfl rfl rfl rfl ?_
  refine AOps.box (v := .dat (.st _ _)) rfl rfl rfl rfl rfl rfl ?_
  refine AOps.alloc tabOk rfl rfl rfl rfl rfl ?_
  refine pI rfl rfl rfl ?_
  refine AOps.done ?_
  refine AWp.seq ?_
  refine AWp.seq ?_
  refine AWp.regionN (fun _ => false) rfl ?_
  refine pT rfl rfl rfl ?_
  obtain ⟨x7, hc8, h⟩ := h
  refine AOps.call hc8 rfl rfl rfl ⟨.inl rfl, trivial⟩ ?_
  refine pB rfl rfl rfl ?_
  refine pB rfl rfl rfl ?_
  refine AOps.splitB 23 rfl (fun e => ?_) (fun e => ?_)
  · replace h := h.1 e
    refine AOps.off rfl rfl ?_
    refine AOps.off rfl rfl ?_
    refine AOps.off rfl rfl ?_
    refine pB rfl rfl rfl ?_
    refine AOps.done ?_
    refine AWp.condT rfl ?_
    refine AWp.seq ?_
    refine AWp.regionN (fun o => writes o) rfl ?_
    refine pT rfl rfl rfl ?_
    refine AOps.store tabOk (v := .dat (.st _ _)) rfl rfl rfl rfl rfl rfl rfl rfl rfl rfl rfl rfl rfl ?_
    refine pI rfl rfl rfl ?_
    refine AOps.done ?_
    refine AWp.ret ?_
    subst h
    exact ⟨_, rfl, rfl⟩
  · replace h := h.2 e
    refine pT rfl rfl rfl ?_
    obtain ⟨x9, hc10, h⟩ := h
    refine AOps.call hc10 rfl rfl rfl ⟨.inl rfl, trivial⟩ ?_
    refine pB rfl rfl rfl ?_
    refine pB rfl rfl rfl ?_
    refine AOps.done ?_
    refine AWp.cond rfl (fun e => ?_) (fun e => ?_)
    · replace h := h.1 e
      refine AWp.seq ?_
      refine AWp.regionN (fun o => writes o) rfl ?_
      refine pT rfl rfl rfl ?_
      refine AOps.store tabOk (v := .dat (.st _ _)) rfl rfl rfl rfl rfl rfl rfl rfl rfl rfl rfl rfl rfl ?_
      refine pI rfl rfl rfl ?_
      refine AOps.done ?_
      refine AWp.ret ?_
      subst h
      exact ⟨_, rfl, rfl⟩
    · replace h := h.2 e
      refine AWp.skip ?_
      refine AWp.seq ?_
      refine AWp.regionN (fun _ => false) rfl ?_
      refine pP rfl rfl rfl ?_
      refine pI rfl rfl rfl ?_
      obtain ⟨x11, ex11, h⟩ := h.get
      refine AOps.i tabOk rfl rfl rfl ex11 ?_
      refine pP rfl rfl rfl ?_
      refine pI rfl rfl rfl ?_
      obtain ⟨x12, ex12, h⟩ := h.get
      refine AOps.i tabOk rfl rfl rfl ex12 ?_
      obtain ⟨x13, hc14, h⟩ := h
      refine AOps.call hc14 rfl rfl rfl ⟨.inl rfl, .inl rfl, trivial⟩ ?_
      refine pI rfl rfl rfl ?_
      refine AOps.done ?_
      refine AWp.seq ?_
      refine AWp.regionD (fun _ => false) mixed (by decide +kernel) rfl ?_
      refine pP rfl rfl rfl ?_
      refine pI rfl rfl rfl ?_
      obtain ⟨x15, ex15, h⟩ := h.get
      refine AOps.i tabOk rfl rfl rfl ex15 ?_
      refine pI rfl rfl rfl ?_
      obtain ⟨hq, h⟩ := h
      obtain ⟨x16, ex16, h⟩ := h.get
      refine AOps.q rfl rfl rfl rfl rfl (rbin_quo hq) ex16 ?_
      refine pP rfl rfl rfl ?_
      refine pI rfl rfl rfl ?_
      obtain ⟨x17, ex17, h⟩ := h.get
      refine AOps.i tabOk rfl rfl rfl ex17 ?_
      refine pI rfl rfl rfl ?_
      obtain ⟨hq, h⟩ := h
      obtain ⟨x18, ex18, h⟩ := h.get
      refine AOps.q rfl rfl rfl rfl rfl (rbin_quo hq) ex18 ?_
      refine pI rfl rfl rfl ?_
      refine pI rfl rfl rfl ?_
      refine AOps.done ?_
      refine AWp.seq ?_
      refine AWp.regionN (fun _ => false) rfl ?_
      refine pP rfl rfl rfl ?_
      refine pI rfl rfl rfl ?_
      obtain ⟨x19, hc20, h⟩ := h
      refine AOps.call hc20 rfl rfl rfl ⟨.inl rfl, trivial⟩ ?_
      refine pI rfl rfl rfl ?_
      obtain ⟨x21, hc22, h⟩ := h
      refine AOps.call hc22 rfl rfl rfl ⟨.inl rfl, .inl rfl, trivial⟩ ?_
      refine pU rfl rfl rfl ?_
      refine pI rfl rfl rfl ?_
      refine pI rfl rfl rfl ?_
      refine pI rfl rfl rfl ?_
      refine pI rfl rfl rfl ?_
      refine AOps.done ?_
      refine AWp.seq ?_
      refine AWp.regionN (fun _ => false) rfl ?_
      refine pP rfl rfl rfl ?_
      refine pI rfl rfl rfl ?_
      obtain ⟨x23, hc24, h⟩ := h
      refine AOps.call hc24 rfl rfl rfl ⟨.inl rfl, trivial⟩ ?_
      refine pI rfl rfl rfl ?_
      obtain ⟨x25, hc26, h⟩ := h
      refine AOps.call hc26 rfl rfl rfl ⟨.inl rfl, .inl rfl, trivial⟩ ?_
      refine pU rfl rfl rfl ?_
      refine pI rfl rfl rfl ?_
      refine pI rfl rfl rfl ?_
      refine pI rfl rfl rfl ?_
      refine pI rfl rfl rfl ?_
      refine AOps.done ?_
      refine AWp.seq ?_
      refine AWp.regionN (fun _ => false) rfl ?_
      refine pP rfl rfl rfl ?_
      refine pI rfl rfl rfl ?_
      refine pB rfl rfl rfl ?_
      refine pB rfl rfl rfl ?_
      refine AOps.done ?_
      refine AWp.seq ?_
      refine AWp.regionN (fun _ => false) rfl ?_
      refine pI rfl rfl rfl ?_
      refine AOps.done ?_
      refine AWp.seq ?_
      obtain ⟨J77, hj78, hk79⟩ := h
      refine AWp.cutK (I := fun p : Int × Int × Bool => mkSt [(4, .pt 4 [] 0), (6, .dat (.v (.int .u64 x13))), (7, .dat (.v (.int .u64 x16))), (8, .dat (.v (.int .u64 x18))), (9, .dat (.v (.int .u64 p.1))), (10, .dat (.v (.int .u64 p.2.1))), (13, .dat (.v (.bool p.2.2)))] [(4, .box 56 2 (.dat (GRat.enc GRat.zero)))]) (Inv := fun p : Int × Int × Bool => J77 p.1 p.2.1 p.2.2) ?_ (fun p hp => ?_)
      · have h := hj78
        refine AWp.block ?_
        refine AWp.seq ?_
        refine AWp.regionN (fun _ => false) rfl ?_
        refine pP rfl rfl rfl ?_
        refine pI rfl rfl rfl ?_
        refine pB rfl rfl rfl ?_
        refine pP rfl rfl rfl ?_
        refine pI rfl rfl rfl ?_
        refine pB rfl rfl rfl ?_
        refine pB rfl rfl rfl ?_
        refine pB rfl rfl rfl ?_
        refine AOps.done ?_
        refine AWp.cond rfl (fun e => ?_) (fun e => ?_)
        · replace h := h.1 e
          refine AWp.seq ?_
          refine AWp.regionN (fun _ => false) rfl ?_
          refine pI rfl rfl rfl ?_
          refine pI rfl rfl rfl ?_
          obtain ⟨x48, hc49, h⟩ := h
          refine AOps.extC hc49 rfl rfl rfl (.cons rfl (.cons rfl (.cons rfl .nil))) ?_
          refine pU rfl rfl rfl ?_
          refine pI rfl rfl rfl ?_
          refine pI rfl rfl rfl ?_
          refine pI rfl rfl rfl ?_
          refine pI rfl rfl rfl ?_
          refine AOps.done ?_
          refine AWp.regionN (fun _ => false) rfl ?_
          refine pI rfl rfl rfl ?_
          refine pI rfl rfl rfl ?_
          refine pI rfl rfl rfl ?_
          obtain ⟨x50, ex50, h⟩ := h.get
          refine AOps.i tabOk rfl rfl rfl ex50 ?_
          obtain ⟨x51, ex51, h⟩ := h.get
          refine AOps.i tabOk rfl rfl rfl ex51 ?_
          refine pI rfl rfl rfl ?_
          refine AOps.done ?_
          exact ⟨⟨x51, x48.1, (decide (x1.N < (0 : Int)))⟩, h, (Sub.list (fun i => i) rfl rfl ⟨rfl, rfl, rfl, rfl, rfl, rfl, rfl, trivial⟩ ⟨rfl, trivial⟩)⟩
        · replace h := h.2 e
          refine AWp.seq ?_
          obtain ⟨J62, hj63, hk64⟩ := h
          refine AWp.cutK (I := fun p : Bool => mkSt [(3, .pt 3 [] 0), (4, .pt 4 [] 0), (6, .dat (.v (.int .u64 x13))), (7, .dat (.v (.int .u64 x16))), (8, .dat (.v (.int .u64 x18))), (9, .dat (.v (.int .u64 x21.1))), (10, .dat (.v (.int .u64 x21.2))), (11, .dat (.v (.int .u64 x25.1))), (12, .dat (.v (.int .u64 x25.2))), (13, .dat (.v (.bool (decide (x1.N < (0 : Int)))))), (98, .dat (.v (.bool p)))] [(3, .box 56 2 (.dat (GRat.enc x2))), (4, .box 56 2 (.dat (GRat.enc GRat.zero)))]) (Inv := fun p : Bool => J62 p) ?_ (fun p hp => ?_)
          · have h := hj63
            refine AWp.regionN (fun _ => false) rfl ?_
            refine pI rfl rfl rfl ?_
            refine pI rfl rfl rfl ?_
            refine pB rfl rfl rfl ?_
            refine pB rfl rfl rfl ?_
            refine AOps.splitB 102 rfl (fun e => ?_) (fun e => ?_)
            · replace h := h.1 e
              refine AOps.off rfl rfl ?_
              refine AOps.off rfl rfl ?_
              refine AOps.off rfl rfl ?_
              refine AOps.off rfl rfl ?_
              refine AOps.off rfl rfl ?_
              refine AOps.off rfl rfl ?_
              refine AOps.off rfl rfl ?_
              refine AOps.off rfl rfl ?_
              refine pB rfl rfl rfl ?_
              refine pB rfl rfl rfl ?_
              refine AOps.done ?_
              exact ⟨true, h, (Sub.list (fun i => i) rfl rfl ⟨rfl, rfl, rfl, rfl, rfl, rfl, rfl, rfl, rfl, rfl, rfl, trivial⟩ ⟨rfl, rfl, trivial⟩)⟩
            · replace h := h.2 e
              refine pI rfl rfl rfl ?_
              refine pI rfl rfl rfl ?_
              refine pB rfl rfl rfl ?_
              refine pB rfl rfl rfl ?_
              refine AOps.splitB 106 rfl (fun e => ?_) (fun e => ?_)
              · replace h := h.1 e
                refine pI rfl rfl rfl ?_
                refine pI rfl rfl rfl ?_
                refine pB rfl rfl rfl ?_
                refine pB rfl rfl rfl ?_
                refine pB rfl rfl rfl ?_
                refine pB rfl rfl rfl ?_
                refine AOps.done ?_
                exact ⟨(decide (x21.2 ≥ x25.2)), h, (Sub.list (fun i => i) rfl rfl ⟨rfl, rfl, rfl, rfl, rfl, rfl, rfl, rfl, rfl, rfl, rfl, trivial⟩ ⟨rfl, rfl, trivial⟩)⟩
              · replace h := h.2 e
                refine AOps.off rfl rfl ?_
                refine AOps.off rfl rfl ?_
                refine AOps.off rfl rfl ?_
                refine pB rfl rfl rfl ?_
                refine pB rfl rfl rfl ?_
                refine pB rfl rfl rfl ?_
                refine AOps.done ?_
                exact ⟨false, h, (Sub.list (fun i => i) rfl rfl ⟨rfl, rfl, rfl, rfl, rfl, rfl, rfl, rfl, rfl, rfl, rfl, trivial⟩ ⟨rfl, rfl, trivial⟩)⟩
          · have h := hk64 p hp
            revert h; clear hp; generalize p = x52; intro h
            refine AWp.cond rfl (fun e => ?_) (fun e => ?_)
            · replace h := h.1 e
              refine AWp.seq ?_
              refine AWp.regionN (fun _ => false) rfl ?_
              refine pI rfl rfl rfl ?_
              refine pI rfl rfl rfl ?_
              obtain ⟨x54, hc55, h⟩ := h
              refine AOps.extC hc55 rfl rfl rfl (.cons rfl (.cons rfl (.cons rfl .nil))) ?_
              refine pU rfl rfl rfl ?_
              refine pI rfl rfl rfl ?_
              refine pI rfl rfl rfl ?_
              refine pI rfl rfl rfl ?_
              refine pI rfl rfl rfl ?_
              refine AOps.done ?_
              refine AWp.regionN (fun _ => false) rfl ?_
              refine pI rfl rfl rfl ?_
              refine pI rfl rfl rfl ?_
              refine pI rfl rfl rfl ?_
              obtain ⟨x56, ex56, h⟩ := h.get
              refine AOps.i tabOk rfl rfl rfl ex56 ?_
              obtain ⟨x57, ex57, h⟩ := h.get
              refine AOps.i tabOk rfl rfl rfl ex57 ?_
              refine pI rfl rfl rfl ?_
              refine AOps.done ?_
              exact ⟨⟨x57, x54.1, (decide (x1.N < (0 : Int)))⟩, h, (Sub.list (fun i => i) rfl rfl ⟨rfl, rfl, rfl, rfl, rfl, rfl, rfl, trivial⟩ ⟨rfl, trivial⟩)⟩
            · replace h := h.2 e
              refine AWp.seq ?_
              refine AWp.regionN (fun _ => false) rfl ?_
              refine pP rfl rfl rfl ?_
              refine pI rfl rfl rfl ?_
              refine pB rfl rfl rfl ?_
              refine pB rfl rfl rfl ?_
              refine AOps.done ?_
              refine AWp.seq ?_
              refine AWp.regionN (fun _ => false) rfl ?_
              refine pI rfl rfl rfl ?_
              refine pI rfl rfl rfl ?_
              obtain ⟨x58, hc59, h⟩ := h
              refine AOps.extC hc59 rfl rfl rfl (.cons rfl (.cons rfl (.cons rfl .nil))) ?_
              refine pU rfl rfl rfl ?_
              refine pI rfl rfl rfl ?_
              refine pI rfl rfl rfl ?_
              refine pI rfl rfl rfl ?_
              refine pI rfl rfl rfl ?_
              refine AOps.done ?_
              refine AWp.regionN (fun _ => false) rfl ?_
              refine pI rfl rfl rfl ?_
              refine pI rfl rfl rfl ?_
              obtain ⟨x60, ex60, h⟩ := h.get
              refine AOps.i tabOk rfl rfl rfl ex60 ?_
              refine pI rfl rfl rfl ?_
              obtain ⟨x61, ex61, h⟩ := h.get
              refine AOps.i tabOk rfl rfl rfl ex61 ?_
              refine pI rfl rfl rfl ?_
              refine AOps.done ?_
              exact ⟨⟨x61, x58.1, (decide (x2.N < (0 : Int)))⟩, h, (Sub.list (fun i => i) rfl rfl ⟨rfl, rfl, rfl, rfl, rfl, rfl, rfl, trivial⟩ ⟨rfl, trivial⟩)⟩
      · obtain ⟨x44, x45, x46⟩ := p
        have h := hk79 x44 x45 x46 hp
        refine AWp.seq ?_
        refine AWp.regionN (fun _ => false) rfl ?_
        refine pI rfl rfl rfl ?_
        refine pI rfl rfl rfl ?_
        refine pI rfl rfl rfl ?_
        obtain ⟨x65, hc66, h⟩ := h
        refine AOps.call hc66 rfl rfl rfl ⟨.inl rfl, .inl rfl, .inl rfl, trivial⟩ ?_
        refine pI rfl rfl rfl ?_
        obtain ⟨x67, hc68, h⟩ := h
        refine AOps.call hc68 rfl rfl rfl ⟨.inl rfl, .inl rfl, trivial⟩ ?_
        refine pI rfl rfl rfl ?_
        refine AOps.done ?_
        refine AWp.seq ?_
        refine AWp.seq ?_
        refine AWp.regionN (fun _ => false) rfl ?_
        refine pI rfl rfl rfl ?_
        refine pB rfl rfl rfl ?_
        refine pB rfl rfl rfl ?_
        refine AOps.splitB 131 rfl (fun e => ?_) (fun e => ?_)
        · replace h := h.1 e
          refine AOps.off rfl rfl ?_
          refine AOps.off rfl rfl ?_
          refine AOps.off rfl rfl ?_
          refine pB rfl rfl rfl ?_
          refine AOps.done ?_
          refine AWp.condT rfl ?_
          refine AWp.seq ?_
          refine AWp.regionN (fun o => writes o) rfl ?_
          refine pT rfl rfl rfl ?_
          refine AOps.store tabOk (v := .dat (.st _ _)) rfl rfl rfl rfl rfl rfl rfl rfl rfl rfl rfl rfl rfl ?_
          refine pI rfl rfl rfl ?_
          refine AOps.done ?_
          refine AWp.ret ?_
          subst h
          exact ⟨_, rfl, rfl⟩
        · replace h := h.2 e
          refine pI rfl rfl rfl ?_
          refine pI rfl rfl rfl ?_
          refine pB rfl rfl rfl ?_
          refine pB rfl rfl rfl ?_
          refine AOps.done ?_
          refine AWp.cond rfl (fun e => ?_) (fun e => ?_)
          · replace h := h.1 e
            refine AWp.seq ?_
            refine AWp.regionN (fun o => writes o) rfl ?_
            refine pT rfl rfl rfl ?_
            refine AOps.store tabOk (v := .dat (.st _ _)) rfl rfl rfl rfl rfl rfl rfl rfl rfl rfl rfl rfl rfl ?_
            refine pI rfl rfl rfl ?_
            refine AOps.done ?_
            refine AWp.ret ?_
            subst h
            exact ⟨_, rfl, rfl⟩
          · replace h := h.2 e
            refine AWp.skip ?_
            refine AWp.seq ?_
            refine AWp.regionN (fun _ => false) rfl ?_
            refine pI rfl rfl rfl ?_
            refine pI rfl rfl rfl ?_
            refine pI rfl rfl rfl ?_
            obtain ⟨x69, hc70, h⟩ := h
            refine AOps.call hc70 rfl rfl rfl ⟨.inl rfl, .inl rfl, .inl rfl, trivial⟩ ?_
            refine pU rfl rfl rfl ?_
            refine pI rfl rfl rfl ?_
            refine pI rfl rfl rfl ?_
            refine pI rfl rfl rfl ?_
            refine pI rfl rfl rfl ?_
            refine AOps.done ?_
            refine AWp.seq ?_
            refine AWp.seq ?_
            refine AWp.regionN (fun _ => false) rfl ?_
            refine pI rfl rfl rfl ?_
            refine pB rfl rfl rfl ?_
            refine AOps.done ?_
            refine AWp.cond rfl (fun e => ?_) (fun e => ?_)
            · replace h := h.1 e
              refine AWp.seq ?_
              refine AWp.regionN (fun o => writes o) rfl ?_
              refine pT rfl rfl rfl ?_
              refine AOps.store tabOk (v := .dat (.st _ _)) rfl rfl rfl rfl rfl rfl rfl rfl rfl rfl rfl rfl rfl ?_
              refine pI rfl rfl rfl ?_
              refine AOps.done ?_
              refine AWp.ret ?_
              subst h
              exact ⟨_, rfl, rfl⟩
            · replace h := h.2 e
              refine AWp.skip ?_
              refine AWp.seq ?_
              refine AWp.regionN (fun _ => false) rfl ?_
              refine pI rfl rfl rfl ?_
              refine pI rfl rfl rfl ?_
              refine pI rfl rfl rfl ?_
              obtain ⟨hq, h⟩ := h
              obtain ⟨x71, ex71, h⟩ := h.get
              refine AOps.q rfl rfl rfl rfl rfl (rbin_quo hq) ex71 ?_
              obtain ⟨x72, ex72, h⟩ := h.get
              refine AOps.i tabOk rfl rfl rfl ex72 ?_
              refine pI rfl rfl rfl ?_
              obtain ⟨x73, hc74, h⟩ := h
              refine AOps.call hc74 rfl rfl rfl ⟨.inl rfl, .inl rfl, trivial⟩ ?_
              refine pU rfl rfl rfl ?_
              refine pI rfl rfl rfl ?_
              refine pI rfl rfl rfl ?_
              refine pI rfl rfl rfl ?_
              refine pI rfl rfl rfl ?_
              refine AOps.done ?_
              refine AWp.seq ?_
              refine AWp.seq ?_
              refine AWp.regionN (fun _ => false) rfl ?_
              refine pI rfl rfl rfl ?_
              refine pB rfl rfl rfl ?_
              refine AOps.done ?_
              refine AWp.cond rfl (fun e => ?_) (fun e => ?_)
              · replace h := h.1 e
                refine AWp.seq ?_
                refine AWp.regionN (fun o => writes o) rfl ?_
                refine pT rfl rfl rfl ?_
                refine AOps.store tabOk (v := .dat (.st _ _)) rfl rfl rfl rfl rfl rfl rfl rfl rfl rfl rfl rfl rfl ?_
                refine pI rfl rfl rfl ?_
                refine AOps.done ?_
                refine AWp.ret ?_
                subst h
                exact ⟨_, rfl, rfl⟩
              · replace h := h.2 e
                refine AWp.skip ?_
                refine AWp.seq ?_
                refine AWp.regionN (fun o => writes o) rfl ?_
                refine pB rfl rfl rfl ?_
                refine pI rfl rfl rfl ?_
                refine pI rfl rfl rfl ?_
                obtain ⟨x75, hc76, h⟩ := h
                refine AOps.call hc76 rfl rfl rfl ⟨.inl rfl, .inl rfl, .inl rfl, trivial⟩ ?_
                refine pT rfl rfl rfl ?_
                refine pI rfl rfl rfl ?_
                refine AOps.store tabOk (v := .dat (.st _ _)) rfl rfl rfl rfl rfl rfl rfl rfl rfl rfl rfl rfl rfl ?_
                refine pI rfl rfl rfl ?_
                refine AOps.done ?_
                refine AWp.ret ?_
                subst h
                exact ⟨_, rfl, rfl⟩

def W_rat_Sub (a1 : GRat) (b2 : GRat) (Q : GRat × Int → Prop) : Prop :=
  Call (Ev_rat_Right b2) fun x3 =>
  Br (!x3) (Q (GRat.zero, (1 : Int))) (
    Let (IntKind.i64.wrap (0 - b2.N)) fun x5 =>
    Call (Ev_rat_Add a1 (GRat.mk x5 b2.D)) fun x6 =>
    Q (x6.1, x6.2))

theorem walk_rat_Sub {a1 : GRat} {b2 : GRat} {r : GRat × Int} (h : W_rat_Sub a1 b2 (fun r' => r' = r)) : Ev_rat_Sub a1 b2 r := by
  unfold W_rat_Sub at h
  refine AFn.intro' (L := [(0, .dat (GRat.enc a1)), (1, .dat (GRat.enc b2))]) tabOk Try.func42 rfl rfl Try.ntmps42 rfl rfl rfl ?_
  refine AWp.seq ?_
  refine AWp.regionN (fun _ => false) rfl ?_
  refine AOps.box (v := .dat (.st _ _)) rfl rfl rfl rfl rfl rfl ?_
  refine AOps.box (v := .dat (.st _ _)) rfl rfl rfl rfl rfl rfl ?_
  refine AOps.alloc tabOk rfl rfl rfl rfl rfl ?_
  refine pI rfl rfl rfl ?_
  refine AOps.done ?_
  refine AWp.seq ?_
  refine AWp.seq ?_
  refine AWp.regionN (fun _ => false) rfl ?_
  refine pT rfl rfl rfl ?_
  obtain ⟨x3, hc4, h⟩ := h
  refine AOps.call hc4 rfl rfl rfl ⟨.inl rfl, trivial⟩ ?_
  refine pB rfl rfl rfl ?_
  refine AOps.done ?_
  refine AWp.cond rfl (fun e => ?_) (fun e => ?_)
  · replace h := h.1 e
    refine AWp.seq ?_
    refine AWp.regionN (fun o => writes o) rfl ?_
    refine pT rfl rfl rfl ?_
    refine AOps.store tabOk (v := .dat (.st _ _)) rfl rfl rfl rfl rfl rfl rfl rfl rfl rfl rfl rfl rfl ?_
    refine pI rfl rfl rfl ?_
    refine AOps.done ?_
    refine AWp.ret ?_
    subst h
    exact ⟨_, rfl, rfl⟩
  · replace h := h.2 e
    refine AWp.skip ?_
    refine AWp.seq ?_
    refine AWp.regionN (fun o => writes o) rfl ?_
    refine pT rfl rfl rfl ?_
    refine pP rfl rfl rfl ?_
    refine pI rfl rfl rfl ?_
    obtain ⟨x5, ex5, h⟩ := h.get
    refine AOps.i tabOk rfl rfl rfl ex5 ?_
    refine pP rfl rfl rfl ?_
    refine pI rfl rfl rfl ?_
    refine pT rfl rfl rfl ?_
    obtain ⟨x6, hc7, h⟩ := h
    refine AOps.call hc7 rfl rfl rfl ⟨.inl rfl, .inl rfl, trivial⟩ ?_
    refine pT rfl rfl rfl ?_
    refine pI rfl rfl rfl ?_
    refine AOps.store tabOk (v := .dat (.st _ _)) rfl rfl rfl rfl rfl rfl rfl rfl rfl rfl rfl rfl rfl ?_
    refine pI rfl rfl rfl ?_
    refine AOps.done ?_
    refine AWp.ret ?_
    subst h
    exact ⟨_, rfl, rfl⟩

def W_rat_Hold (x1 : GRat) (Q : GIval → Prop) : Prop :=
  Call (Ev_rat_Right x1) fun x2 =>
  Br (!x2) (
    Call (Ev_ival_Empty) fun x6 =>
    Q x6) (
    Br (x1.N == (0 : Int)) (Q GIval.zero) (
      Call (Ev_rat_size x1.N) fun x8 =>
      Let (IntKind.u64.wrap x1.D) fun x10 =>
      Call (Ev_math_bits_LeadingZeros64 x8) fun x11 =>
      Call (Ev_math_bits_LeadingZeros64 x10) fun x13 =>
      Nn x11 <|
      Let (IntKind.u64.wrap (x8 * 2 ^ (min (Int.toNat x11) 64))) fun x15 =>
      Nn x13 <|
      Let (IntKind.u64.wrap (x10 * 2 ^ (min (Int.toNat x13) 64))) fun x16 =>
      Let (Int.fdiv x15 (2 ^ 2)) fun x17 =>
      Let (IntKind.u64.wrap (x15 * 2 ^ 62)) fun x18 =>
      Call (Ev_math_bits_Div64 x17 x18 x16) fun x19 =>
      Let (IntKind.u64.wrap (x19.1 * 2 ^ 1)) fun x21 =>
      Join1 (fun j24 =>
        Br (decide (x19.2 > (0 : Int))) (
          Let (bits .or .u64 x21 (1 : Int)) fun x25 =>
          j24 x25) (
          j24 x21)
      ) (fun (x23 : Int) =>
        Let (IntKind.i64.wrap (x13 - x11)) fun x26 =>
        Let (IntKind.i64.wrap (x26 - (63 : Int))) fun x27 =>
        Call (Ev_ulp_Round (GParts.mk (decide (x1.N < (0 : Int))) x23 x27) (-1 : Int)) fun x28 =>
        Call (Ev_ulp_Round (GParts.mk (decide (x1.N < (0 : Int))) x23 x27) (1 : Int)) fun x30 =>
        Call (Ev_ival_Make x28 x30) fun x32 =>
        Q x32)))

theorem walk_rat_Hold {x1 : GRat} {r : GIval} (h : W_rat_Hold x1 (fun r' => r' = r)) : Ev_rat_Hold x1 r := by
  unfold W_rat_Hold at h
  refine AFn.intro' (L := [(0, .dat (GRat.enc x1))]) tabOk Try.func44 rfl rfl Try.ntmps44 rfl rfl rfl ?_
  refine AWp.seq ?_
  refine AWp.regionN (fun _ => false) rfl ?_
  refine AOps.box (v := .dat (.st _ _)) rfl rfl rfl rfl rfl rfl ?_
  refine AOps.alloc tabOk rfl rfl rfl rfl rfl ?_
  refine AOps.done ?_
  refine AWp.seq ?_
  refine AWp.seq ?_
  refine AWp.regionN (fun _ => false) rfl ?_
  refine pT rfl rfl rfl ?_
  obtain ⟨x2, hc3, h⟩ := h
  refine AOps.call hc3 rfl rfl rfl ⟨.inl rfl, trivial⟩ ?_
  refine pB rfl rfl rfl ?_
  refine AOps.done ?_
  refine AWp.cond rfl (fun e => ?_) (fun e => ?_)
  · replace h := h.1 e
    refine AWp.seq ?_
    refine AWp.regionN (fun o => writes o) rfl ?_
    obtain ⟨x6, hc7, h⟩ := h
    refine AOps.call hc7 rfl rfl rfl trivial ?_
    refine AOps.store tabOk (v := .dat (.st _ _)) rfl rfl rfl rfl rfl rfl rfl rfl rfl rfl rfl rfl rfl ?_
    refine AOps.done ?_
    refine AWp.ret ?_
    subst h
    exact ⟨_, rfl, rfl⟩
  · replace h := h.2 e
    refine AWp.skip ?_
    refine AWp.seq ?_
    refine AWp.seq ?_
    refine AWp.regionN (fun _ => false) rfl ?_
    refine pP rfl rfl rfl ?_
    refine pI rfl rfl rfl ?_
    refine pB rfl rfl rfl ?_
    refine AOps.done ?_
    refine AWp.cond rfl (fun e => ?_) (fun e => ?_)
    · replace h := h.1 e
      refine AWp.seq ?_
      refine AWp.regionN (fun o => writes o) rfl ?_
      refine pT rfl rfl rfl ?_
      refine AOps.store tabOk (v := .dat (.st _ _)) rfl rfl rfl rfl rfl rfl rfl rfl rfl rfl rfl rfl rfl ?_
      refine AOps.done ?_
      refine AWp.ret ?_
      subst h
      exact ⟨_, rfl, rfl⟩
    · replace h := h.2 e
      refine AWp.skip ?_
      refine AWp.seq ?_
      refine AWp.regionD (fun _ => false) mixed (by decide +kernel) rfl ?_
      refine pP rfl rfl rfl ?_
      refine pI rfl rfl rfl ?_
      obtain ⟨x8, hc9, h⟩ := h
      refine AOps.call hc9 rfl rfl rfl ⟨.inl rfl, trivial⟩ ?_
      refine pP rfl rfl rfl ?_
      refine pI rfl rfl rfl ?_
      obtain ⟨x10, ex10, h⟩ := h.get
      refine AOps.i tabOk rfl rfl rfl ex10 ?_
      refine pI rfl rfl rfl ?_
      refine pI rfl rfl rfl ?_
      refine AOps.done ?_
      refine AWp.seq ?_
      refine AWp.regionN (fun _ => false) rfl ?_
      refine pI rfl rfl rfl ?_
      obtain ⟨x11, hc12, h⟩ := h
      refine AOps.call hc12 rfl rfl rfl ⟨.inl rfl, trivial⟩ ?_
      refine pI rfl rfl rfl ?_
      obtain ⟨x13, hc14, h⟩ := h
      refine AOps.call hc14 rfl rfl rfl ⟨.inl rfl, trivial⟩ ?_
      refine pI rfl rfl rfl ?_
      refine pI rfl rfl rfl ?_
      refine AOps.done ?_
      refine AWp.seq ?_
      refine AWp.regionD (fun _ => false) mixed (by decide +kernel) rfl ?_
      refine pI rfl rfl rfl ?_
      refine pI rfl rfl rfl ?_
      obtain ⟨hq, h⟩ := h
      obtain ⟨x15, ex15, h⟩ := h.get
      refine AOps.q rfl rfl rfl rfl rfl (rbin_shl hq) ex15 ?_
      refine pI rfl rfl rfl ?_
      refine pI rfl rfl rfl ?_
      obtain ⟨hq, h⟩ := h
      obtain ⟨x16, ex16, h⟩ := h.get
      refine AOps.q rfl rfl rfl rfl rfl (rbin_shl hq) ex16 ?_
      refine pI rfl rfl rfl ?_
      refine pI rfl rfl rfl ?_
      refine AOps.done ?_
      refine AWp.seq ?_
      refine AWp.regionN (fun _ => false) rfl ?_
      refine pI rfl rfl rfl ?_
      obtain ⟨x17, ex17, h⟩ := h.get
      refine AOps.q rfl rfl rfl rfl rfl (rbin_shr (by decide)) ex17 ?_
      refine pI rfl rfl rfl ?_
      obtain ⟨x18, ex18, h⟩ := h.get
      refine AOps.q rfl rfl rfl rfl rfl (rbin_shl (by decide)) ex18 ?_
      refine pI rfl rfl rfl ?_
      obtain ⟨x19, hc20, h⟩ := h
      refine AOps.call hc20 rfl rfl rfl ⟨.inl rfl, .inl rfl, .inl rfl, trivial⟩ ?_
      refine pU rfl rfl rfl ?_
      refine pI rfl rfl rfl ?_
      refine pI rfl rfl rfl ?_
      refine pI rfl rfl rfl ?_
      refine pI rfl rfl rfl ?_
      refine AOps.done ?_
      refine AWp.seq ?_
      refine AWp.regionN (fun _ => false) rfl ?_
      refine pI rfl rfl rfl ?_
      obtain ⟨x21, ex21, h⟩ := h.get
      refine AOps.q rfl rfl rfl rfl rfl (rbin_shl (by decide)) ex21 ?_
      refine pI rfl rfl rfl ?_
      refine AOps.done ?_
      refine AWp.seq ?_
      refine AWp.seq ?_
      refine AWp.regionN (fun _ => false) rfl ?_
      refine pI rfl rfl rfl ?_
      refine pB rfl rfl rfl ?_
      refine AOps.done ?_
      obtain ⟨J34, hj35, hk36⟩ := h
      refine AWp.cutK (I := fun p : Int => mkSt [(1, .pt 1 [] 0), (2, .pt 2 [] 0), (5, .dat (.v (.int .i64 x11))), (6, .dat (.v (.int .i64 x13))), (11, .dat (.v (.int .u64 p)))] [(1, .box 56 2 (.dat (GRat.enc x1))), (2, .box 36 2 (.dat (GIval.enc GIval.zero)))]) (Inv := fun p : Int => J34 p) ?_ (fun p hp => ?_)
      · have h := hj35
        refine AWp.cond rfl (fun e => ?_) (fun e => ?_)
        · replace h := h.1 e
          refine AWp.regionN (fun _ => false) rfl ?_
          refine pI rfl rfl rfl ?_
          obtain ⟨x25, ex25, h⟩ := h.get
          refine AOps.i tabOk rfl rfl rfl ex25 ?_
          refine pI rfl rfl rfl ?_
          refine AOps.done ?_
          exact ⟨x25, h, (Sub.list (fun i => i) rfl rfl ⟨rfl, rfl, rfl, rfl, rfl, trivial⟩ ⟨rfl, rfl, trivial⟩)⟩
        · replace h := h.2 e
          refine AWp.skip ?_
          exact ⟨x21, h, (Sub.list (fun i => i) rfl rfl ⟨rfl, rfl, rfl, rfl, rfl, trivial⟩ ⟨rfl, rfl, trivial⟩)⟩
      · have h := hk36 p hp
        revert h; clear hp; generalize p = x23; intro h
        refine AWp.seq ?_
        refine AWp.regionN (fun o => writes o) rfl ?_
        refine pP rfl rfl rfl ?_
        refine pI rfl rfl rfl ?_
        refine pB rfl rfl rfl ?_
        refine pI rfl rfl rfl ?_
        refine pI rfl rfl rfl ?_
        refine pI rfl rfl rfl ?_
        obtain ⟨x26, ex26, h⟩ := h.get
        refine AOps.i tabOk rfl rfl rfl ex26 ?_
        obtain ⟨x27, ex27, h⟩ := h.get
        refine AOps.i tabOk rfl rfl rfl ex27 ?_
        refine pT rfl rfl rfl ?_
        refine AOps.alloc tabOk rfl rfl rfl rfl rfl ?_
        refine AOps.store tabOk (v := .dat (.st _ _)) rfl rfl rfl rfl rfl rfl rfl rfl rfl rfl rfl rfl rfl ?_
        refine AOps.done ?_
        refine AWp.seq ?_
        refine AWp.regionD (fun o => writes o) mixed (by decide +kernel) rfl ?_
        refine pT rfl rfl rfl ?_
        obtain ⟨x28, hc29, h⟩ := h
        refine AOps.call hc29 rfl rfl rfl ⟨.inl rfl, .inl rfl, trivial⟩ ?_
        refine pT rfl rfl rfl ?_
        obtain ⟨x30, hc31, h⟩ := h
        refine AOps.call hc31 rfl rfl rfl ⟨.inl rfl, .inl rfl, trivial⟩ ?_
        obtain ⟨x32, hc33, h⟩ := h
        refine AOps.call hc33 rfl rfl rfl ⟨.inl rfl, .inl rfl, trivial⟩ ?_
        refine AOps.store tabOk (v := .dat (.st _ _)) rfl rfl rfl rfl rfl rfl rfl rfl rfl rfl rfl rfl rfl ?_
        refine AOps.done ?_
        refine AWp.ret ?_
        subst h
        exact ⟨_, rfl, rfl⟩

def W_rat_Mul (x1 : GRat) (x2 : GRat) (Q : GRat × Int → Prop) : Prop :=
  Call (Ev_rat_Right x1) fun x7 =>
  Br (!x7) (Q (GRat.zero, (1 : Int))) (
    Call (Ev_rat_Right x2) fun x9 =>
    Br (!x9) (Q (GRat.zero, (1 : Int))) (
      Call (Ev_rat_size x1.N) fun x11 =>
      Let (IntKind.u64.wrap x2.D) fun x13 =>
      Call (Ev_rat_gcd x11 x13) fun x14 =>
      Call (Ev_rat_size x2.N) fun x16 =>
      Let (IntKind.u64.wrap x1.D) fun x18 =>
      Call (Ev_rat_gcd x16 x18) fun x19 =>
      Call (Ev_rat_size x1.N) fun x21 =>
      Nz x14 <|
      Let (IntKind.u64.wrap (Int.tdiv x21 x14)) fun x23 =>
      Call (Ev_rat_size x2.N) fun x24 =>
      Nz x19 <|
      Let (IntKind.u64.wrap (Int.tdiv x24 x19)) fun x26 =>
      Call (Ev_math_bits_Mul64 x23 x26) fun x27 =>
      Let (IntKind.u64.wrap x1.D) fun x29 =>
      Nz x19 <|
      Let (IntKind.u64.wrap (Int.tdiv x29 x19)) fun x30 =>
      Let (IntKind.u64.wrap x2.D) fun x31 =>
      Nz x14 <|
      Let (IntKind.u64.wrap (Int.tdiv x31 x14)) fun x32 =>
      Call (Ev_math_bits_Mul64 x30 x32) fun x33 =>
      Br (decide (x27.1 > (0 : Int))) (Q (GRat.zero, (3 : Int))) (
        Br (decide (x33.1 > (0 : Int))) (Q (GRat.zero, (3 : Int))) (
          Call (Ev_rat_made ((decide (x1.N < (0 : Int))) != (decide (x2.N < (0 : Int)))) x27.2 x33.2) fun x35 =>
          Q (x35.1, x35.2)))))

theorem walk_rat_Mul {x1 : GRat} {x2 : GRat} {r : GRat × Int} (h : W_rat_Mul x1 x2 (fun r' => r' = r)) : Ev_rat_Mul x1 x2 r := by
  unfold W_rat_Mul at h
  refine AFn.intro' (L := [(0, .dat (GRat.enc x1)), (1, .dat (GRat.enc x2))]) tabOk Try.func46 rfl rfl Try.ntmps46 rfl rfl rfl ?_
  refine AWp.seq ?_
  refine AWp.regionN (fun _ => false) rfl ?_
  refine AOps.box (v := .dat (.st _ _)) rfl rfl rfl rfl rfl rfl ?_
  refine AOps.box (v := .dat (.st _ _)) rfl rfl rfl rfl rfl rfl ?_
  refine AOps.alloc tabOk rfl rfl rfl rfl rfl ?_
  refine pI rfl rfl rfl ?_
  refine AOps.done ?_
  refine AWp.seq ?_
  refine AWp.seq ?_
  refine AWp.regionN (fun _ => false) rfl ?_
  refine pT rfl rfl rfl ?_
  obtain ⟨x7, hc8, h⟩ := h
  refine AOps.call hc8 rfl rfl rfl ⟨.inl rfl, trivial⟩ ?_
  refine pB rfl rfl rfl ?_
  refine pB rfl rfl rfl ?_
  refine AOps.splitB 15 rfl (fun e => ?_) (fun e => ?_)
  · replace h := h.1 e
    refine AOps.off rfl rfl ?_
    refine AOps.off rfl rfl ?_
    refine AOps.off rfl rfl ?_
    refine pB rfl rfl rfl ?_
    refine AOps.done ?_
    refine AWp.condT rfl ?_
    refine AWp.seq ?_
    refine AWp.regionN (fun o => writes o) rfl ?_
    refine pT rfl rfl rfl ?_
    refine AOps.store tabOk (v := .dat (.st _ _)) rfl rfl rfl rfl rfl rfl rfl rfl rfl rfl rfl rfl rfl ?_
    refine pI rfl rfl rfl ?_
    refine AOps.done ?_
    refine AWp.ret ?_
    subst h
    exact ⟨_, rfl, rfl⟩
  · replace h := h.2 e
    refine pT rfl rfl rfl ?_
    obtain ⟨x9, hc10, h⟩ := h
    refine AOps.call hc10 rfl rfl rfl ⟨.inl rfl, trivial⟩ ?_
    refine pB rfl rfl rfl ?_
    refine pB rfl rfl rfl ?_
    refine AOps.done ?_
    refine AWp.cond rfl (fun e => ?_) (fun e => ?_)
    · replace h := h.1 e
      refine AWp.seq ?_
      refine AWp.regionN (fun o => writes o) rfl ?_
      refine pT rfl rfl rfl ?_
      refine AOps.store tabOk (v := .dat (.st _ _)) rfl rfl rfl rfl rfl rfl rfl rfl rfl rfl rfl rfl rfl ?_
      refine pI rfl rfl rfl ?_
      refine AOps.done ?_
      refine AWp.ret ?_
      subst h
      exact ⟨_, rfl, rfl⟩
    · replace h := h.2 e
      refine AWp.skip ?_
      refine AWp.seq ?_
      refine AWp.regionD (fun _ => false) mixed (by decide +kernel) rfl ?_
      refine pP rfl rfl rfl ?_
      refine pI rfl rfl rfl ?_
      obtain ⟨x11, hc12, h⟩ := h
      refine AOps.call hc12 rfl rfl rfl ⟨.inl rfl, trivial⟩ ?_
      refine pP rfl rfl rfl ?_
      refine pI rfl rfl rfl ?_
      obtain ⟨x13, ex13, h⟩ := h.get
      refine AOps.i tabOk rfl rfl rfl ex13 ?_
      obtain ⟨x14, hc15, h⟩ := h
      refine AOps.call hc15 rfl rfl rfl ⟨.inl rfl, .inl rfl, trivial⟩ ?_
      refine pP rfl rfl rfl ?_
      refine pI rfl rfl rfl ?_
      obtain ⟨x16, hc17, h⟩ := h
      refine AOps.call hc17 rfl rfl rfl ⟨.inl rfl, trivial⟩ ?_
      refine pP rfl rfl rfl ?_
      refine pI rfl rfl rfl ?_
      obtain ⟨x18, ex18, h⟩ := h.get
      refine AOps.i tabOk rfl rfl rfl ex18 ?_
      obtain ⟨x19, hc20, h⟩ := h
      refine AOps.call hc20 rfl rfl rfl ⟨.inl rfl, .inl rfl, trivial⟩ ?_
      refine pI rfl rfl rfl ?_
      refine pI rfl rfl rfl ?_
      refine AOps.done ?_
      refine AWp.seq ?_
      refine AWp.regionD (fun _ => false) mixed (by decide +kernel) rfl ?_
      refine pP rfl rfl rfl ?_
      refine pI rfl rfl rfl ?_
      obtain ⟨x21, hc22, h⟩ := h
      refine AOps.call hc22 rfl rfl rfl ⟨.inl rfl, trivial⟩ ?_
      refine pI rfl rfl rfl ?_
      obtain ⟨hq, h⟩ := h
      obtain ⟨x23, ex23, h⟩ := h.get
      refine AOps.q rfl rfl rfl rfl rfl (rbin_quo hq) ex23 ?_
      refine pP rfl rfl rfl ?_
      refine pI rfl rfl rfl ?_
      obtain ⟨x24, hc25, h⟩ := h
      refine AOps.call hc25 rfl rfl rfl ⟨.inl rfl, trivial⟩ ?_
      refine pI rfl rfl rfl ?_
      obtain ⟨hq, h⟩ := h
      obtain ⟨x26, ex26, h⟩ := h.get
      refine AOps.q rfl rfl rfl rfl rfl (rbin_quo hq) ex26 ?_
      obtain ⟨x27, hc28, h⟩ := h
      refine AOps.call hc28 rfl rfl rfl ⟨.inl rfl, .inl rfl, trivial⟩ ?_
      refine pU rfl rfl rfl ?_
      refine pI rfl rfl rfl ?_
      refine pI rfl rfl rfl ?_
      refine pI rfl rfl rfl ?_
      refine pI rfl rfl rfl ?_
      refine AOps.done ?_
      refine AWp.seq ?_
      refine AWp.regionD (fun _ => false) mixed (by decide +kernel) rfl ?_
      refine pP rfl rfl rfl ?_
      refine pI rfl rfl rfl ?_
      obtain ⟨x29, ex29, h⟩ := h.get
      refine AOps.i tabOk rfl rfl rfl ex29 ?_
      refine pI rfl rfl rfl ?_
      obtain ⟨hq, h⟩ := h
      obtain ⟨x30, ex30, h⟩ := h.get
      refine AOps.q rfl rfl rfl rfl rfl (rbin_quo hq) ex30 ?_
      refine pP rfl rfl rfl ?_
      refine pI rfl rfl rfl ?_
      obtain ⟨x31, ex31, h⟩ := h.get
      refine AOps.i tabOk rfl rfl rfl ex31 ?_
      refine pI rfl rfl rfl ?_
      obtain ⟨hq, h⟩ := h
      obtain ⟨x32, ex32, h⟩ := h.get
      refine AOps.q rfl rfl rfl rfl rfl (rbin_quo hq) ex32 ?_
      obtain ⟨x33, hc34, h⟩ := h
      refine AOps.call hc34 rfl rfl rfl ⟨.inl rfl, .inl rfl, trivial⟩ ?_
      refine pU rfl rfl rfl ?_
      refine pI rfl rfl rfl ?_
      refine pI rfl rfl rfl ?_
      refine pI rfl rfl rfl ?_
      refine pI rfl rfl rfl ?_
      refine AOps.done ?_
      refine AWp.seq ?_
      refine AWp.seq ?_
      refine AWp.regionN (fun _ => false) rfl ?_
      refine pI rfl rfl rfl ?_
      refine pB rfl rfl rfl ?_
      refine pB rfl rfl rfl ?_
      refine AOps.splitB 65 rfl (fun e => ?_) (fun e => ?_)
      · replace h := h.1 e
        refine AOps.off rfl rfl ?_
        refine AOps.off rfl rfl ?_
        refine pB rfl rfl rfl ?_
        refine AOps.done ?_
        refine AWp.condT rfl ?_
        refine AWp.seq ?_
        refine AWp.regionN (fun o => writes o) rfl ?_
        refine pT rfl rfl rfl ?_
        refine AOps.store tabOk (v := .dat (.st _ _)) rfl rfl rfl rfl rfl rfl rfl rfl rfl rfl rfl rfl rfl ?_
        refine pI rfl rfl rfl ?_
        refine AOps.done ?_
        refine AWp.ret ?_
        subst h
        exact ⟨_, rfl, rfl⟩
      · replace h := h.2 e
        refine pI rfl rfl rfl ?_
        refine pB rfl rfl rfl ?_
        refine pB rfl rfl rfl ?_
        refine AOps.done ?_
        refine AWp.cond rfl (fun e => ?_) (fun e => ?_)
        · replace h := h.1 e
          refine AWp.seq ?_
          refine AWp.regionN (fun o => writes o) rfl ?_
          refine pT rfl rfl rfl ?_
          refine AOps.store tabOk (v := .dat (.st _ _)) rfl rfl rfl rfl rfl rfl rfl rfl rfl rfl rfl rfl rfl ?_
          refine pI rfl rfl rfl ?_
          refine AOps.done ?_
          refine AWp.ret ?_
          subst h
          exact ⟨_, rfl, rfl⟩
        · replace h := h.2 e
          refine AWp.skip ?_
          refine AWp.seq ?_
          refine AWp.regionN (fun o => writes o) rfl ?_
          refine pP rfl rfl rfl ?_
          refine pI rfl rfl rfl ?_
          refine pB rfl rfl rfl ?_
          refine pP rfl rfl rfl ?_
          refine pI rfl rfl rfl ?_
          refine pB rfl rfl rfl ?_
          refine pB rfl rfl rfl ?_
          refine pI rfl rfl rfl ?_
          refine pI rfl rfl rfl ?_
          obtain ⟨x35, hc36, h⟩ := h
          refine AOps.call hc36 rfl rfl rfl ⟨.inl rfl, .inl rfl, .inl rfl, trivial⟩ ?_
          refine pT rfl rfl rfl ?_
          refine pI rfl rfl rfl ?_
          refine AOps.store tabOk (v := .dat (.st _ _)) rfl rfl rfl rfl rfl rfl rfl rfl rfl rfl rfl rfl rfl ?_
          refine pI rfl rfl rfl ?_
          refine AOps.done ?_
          refine AWp.ret ?_
          subst h
          exact ⟨_, rfl, rfl⟩

def W_rat_Div (a1 : GRat) (b2 : GRat) (Q : GRat × Int → Prop) : Prop :=
  Call (Ev_rat_Right a1) fun x19 =>
  Br (!x19) (Q (GRat.zero, (1 : Int))) (
    Call (Ev_rat_Right b2) fun x21 =>
    Br (!x21) (Q (GRat.zero, (1 : Int))) (
      Br (b2.N == (0 : Int)) (Q (GRat.zero, (6 : Int))) (
        Br (decide (b2.N < (0 : Int))) (
          Let (IntKind.i64.wrap (0 - b2.D)) fun x23 =>
          Let (IntKind.i64.wrap (0 - b2.N)) fun x24 =>
          Call (Ev_rat_Mul a1 (GRat.mk x23 x24)) fun x25 =>
          Q (x25.1, x25.2)) (
          Call (Ev_rat_Mul a1 (GRat.mk b2.D b2.N)) fun x27 =>
          Q (x27.1, x27.2)))))

theorem walk_rat_Div {a1 : GRat} {b2 : GRat} {r : GRat × Int} (h : W_rat_Div a1 b2 (fun r' => r' = r)) : Ev_rat_Div a1 b2 r := by
  unfold W_rat_Div at h
  refine AFn.intro' (L := [(0, .dat (GRat.enc a1)), (1, .dat (GRat.enc b2))]) tabOk Try.func48 rfl rfl Try.ntmps48 rfl rfl rfl ?_
  refine AWp.seq ?_
  refine AWp.regionN (fun _ => false) rfl ?_
  refine AOps.box (v := .dat (.st _ _)) rfl rfl rfl rfl rfl rfl ?_
  refine AOps.box (v := .dat (.st _ _)) rfl rfl rfl rfl rfl rfl ?_
  refine AOps.alloc tabOk rfl rfl rfl rfl rfl ?_
  refine pI rfl rfl rfl ?_
  refine AOps.done ?_
  refine AWp.seq ?_
  refine AWp.block ?_
  refine AWp.seq ?_
  refine AWp.regionN (fun _ => false) rfl ?_
  refine pT rfl rfl rfl ?_
  obtain ⟨x19, hc20, h⟩ := h
  refine AOps.call hc20 rfl rfl rfl ⟨.inl rfl, trivial⟩ ?_
  refine pB rfl rfl rfl ?_
  refine pB rfl rfl rfl ?_
  refine AOps.splitB 10 rfl (fun e => ?_) (fun e => ?_)
  · replace h := h.1 e
    refine AOps.off rfl rfl ?_
    refine AOps.off rfl rfl ?_
    refine AOps.off rfl rfl ?_
    refine pB rfl rfl rfl ?_
    refine pB rfl rfl rfl ?_
    refine AOps.done ?_
    refine AWp.condT rfl ?_
    refine AWp.seq ?_
    refine AWp.regionN (fun o => writes o) rfl ?_
    refine pT rfl rfl rfl ?_
    refine AOps.store tabOk (v := .dat (.st _ _)) rfl rfl rfl rfl rfl rfl rfl rfl rfl rfl rfl rfl rfl ?_
    refine pI rfl rfl rfl ?_
    refine AOps.done ?_
    refine AWp.ret ?_
    subst h
    exact ⟨_, rfl, rfl⟩
  · replace h := h.2 e
    refine pT rfl rfl rfl ?_
    obtain ⟨x21, hc22, h⟩ := h
    refine AOps.call hc22 rfl rfl rfl ⟨.inl rfl, trivial⟩ ?_
    refine pB rfl rfl rfl ?_
    refine pB rfl rfl rfl ?_
    refine pB rfl rfl rfl ?_
    refine AOps.done ?_
    refine AWp.cond rfl (fun e => ?_) (fun e => ?_)
    · replace h := h.1 e
      refine AWp.seq ?_
      refine AWp.regionN (fun o => writes o) rfl ?_
      refine pT rfl rfl rfl ?_
      refine AOps.store tabOk (v := .dat (.st _ _)) rfl rfl rfl rfl rfl rfl rfl rfl rfl rfl rfl rfl rfl ?_
      refine pI rfl rfl rfl ?_
      refine AOps.done ?_
      refine AWp.ret ?_
      subst h
      exact ⟨_, rfl, rfl⟩
    · replace h := h.2 e
      refine AWp.seq ?_
      refine AWp.regionN (fun _ => false) rfl ?_
      refine pP rfl rfl rfl ?_
      refine pI rfl rfl rfl ?_
      refine pB rfl rfl rfl ?_
      refine pB rfl rfl rfl ?_
      refine AOps.done ?_
      refine AWp.cond rfl (fun e => ?_) (fun e => ?_)
      · replace h := h.1 e
        refine AWp.seq ?_
        refine AWp.regionN (fun o => writes o) rfl ?_
        refine pT rfl rfl rfl ?_
        refine AOps.store tabOk (v := .dat (.st _ _)) rfl rfl rfl rfl rfl rfl rfl rfl rfl rfl rfl rfl rfl ?_
        refine pI rfl rfl rfl ?_
        refine AOps.done ?_
        refine AWp.ret ?_
        subst h
        exact ⟨_, rfl, rfl⟩
      · replace h := h.2 e
        refine AWp.seq ?_
        refine AWp.regionN (fun _ => false) rfl ?_
        refine pP rfl rfl rfl ?_
        refine pI rfl rfl rfl ?_
        refine pB rfl rfl rfl ?_
        refine pB rfl rfl rfl ?_
        refine AOps.done ?_
        refine AWp.cond rfl (fun e => ?_) (fun e => ?_)
        · replace h := h.1 e
          refine AWp.seq ?_
          refine AWp.regionN (fun o => writes o) rfl ?_
          refine pT rfl rfl rfl ?_
          refine pP rfl rfl rfl ?_
          refine pI rfl rfl rfl ?_
          obtain ⟨x23, ex23, h⟩ := h.get
          refine AOps.i tabOk rfl rfl rfl ex23 ?_
          refine pP rfl rfl rfl ?_
          refine pI rfl rfl rfl ?_
          obtain ⟨x24, ex24, h⟩ := h.get
          refine AOps.i tabOk rfl rfl rfl ex24 ?_
          refine pT rfl rfl rfl ?_
          obtain ⟨x25, hc26, h⟩ := h
          refine AOps.call hc26 rfl rfl rfl ⟨.inl rfl, .inl rfl, trivial⟩ ?_
          refine pT rfl rfl rfl ?_
          refine pI rfl rfl rfl ?_
          refine AOps.store tabOk (v := .dat (.st _ _)) rfl rfl rfl rfl rfl rfl rfl rfl rfl rfl rfl rfl rfl ?_
          refine pI rfl rfl rfl ?_
          refine AOps.done ?_
          refine AWp.ret ?_
          subst h
          exact ⟨_, rfl, rfl⟩
        · replace h := h.2 e
          refine AWp.skip ?_
          refine AWp.seq ?_
          refine AWp.regionN (fun o => writes o) rfl ?_
          refine pT rfl rfl rfl ?_
          refine pP rfl rfl rfl ?_
          refine pI rfl rfl rfl ?_
          refine pP rfl rfl rfl ?_
          refine pI rfl rfl rfl ?_
          refine pT rfl rfl rfl ?_
          obtain ⟨x27, hc28, h⟩ := h
          refine AOps.call hc28 rfl rfl rfl ⟨.inl rfl, .inl rfl, trivial⟩ ?_
          refine pT rfl rfl rfl ?_
          refine pI rfl rfl rfl ?_
          refine AOps.store tabOk (v := .dat (.st _ _)) rfl rfl rfl rfl rfl rfl rfl rfl rfl rfl rfl rfl rfl ?_
          refine pI rfl rfl rfl ?_
          refine AOps.done ?_
          refine AWp.ret ?_
          subst h
          exact ⟨_, rfl, rfl⟩

def W_rat_Right (a1 : GRat) (Q : Bool → Prop) : Prop :=
  Br (decide (a1.D ≥ (1 : Int))) (
    Br (decide (a1.N > (-9223372036854775808 : Int))) (
      Call (Ev_rat_size a1.N) fun x8 =>
      Call (Ev_rat_size a1.D) fun x10 =>
      Call (Ev_rat_gcd x8 x10) fun x12 =>
      Q (x12 == (1 : Int))) (
      Q false)) (
    Q false)

theorem walk_rat_Right {a1 : GRat} {r : Bool} (h : W_rat_Right a1 (fun r' => r' = r)) : Ev_rat_Right a1 r := by
  unfold W_rat_Right at h
  refine AFn.intro' (L := [(0, .dat (GRat.enc a1))]) tabOk Try.func81 rfl rfl Try.ntmps81 rfl rfl rfl ?_
  refine AWp.seq ?_
  refine AWp.regionN (fun _ => false) rfl ?_
  refine AOps.box (v := .dat (.st _ _)) rfl rfl rfl rfl rfl rfl ?_
  refine pB rfl rfl rfl ?_
  refine AOps.done ?_
  refine AWp.seq ?_
  refine AWp.regionD (fun _ => false) mixed (by decide +kernel) rfl ?_
  refine pP rfl rfl rfl ?_
  refine pI rfl rfl rfl ?_
  refine pB rfl rfl rfl ?_
  refine pB rfl rfl rfl ?_
  refine AOps.splitB 6 rfl (fun e => ?_) (fun e => ?_)
  · replace h := h.1 e
    refine pP rfl rfl rfl ?_
    refine pI rfl rfl rfl ?_
    refine pB rfl rfl rfl ?_
    refine pB rfl rfl rfl ?_
    refine pB rfl rfl rfl ?_
    refine AOps.splitB 11 rfl (fun e => ?_) (fun e => ?_)
    · replace h := h.1 e
      refine pP rfl rfl rfl ?_
      refine pI rfl rfl rfl ?_
      obtain ⟨x8, hc9, h⟩ := h
      refine AOps.call hc9 rfl rfl rfl ⟨.inl rfl, trivial⟩ ?_
      refine pP rfl rfl rfl ?_
      refine pI rfl rfl rfl ?_
      obtain ⟨x10, hc11, h⟩ := h
      refine AOps.call hc11 rfl rfl rfl ⟨.inl rfl, trivial⟩ ?_
      obtain ⟨x12, hc13, h⟩ := h
      refine AOps.call hc13 rfl rfl rfl ⟨.inl rfl, .inl rfl, trivial⟩ ?_
      refine pB rfl rfl rfl ?_
      refine pB rfl rfl rfl ?_
      refine pB rfl rfl rfl ?_
      refine AOps.done ?_
      refine AWp.ret ?_
      subst h
      exact ⟨_, rfl, rfl⟩
    · replace h := h.2 e
      refine AOps.off rfl rfl ?_
      refine AOps.off rfl rfl ?_
      refine AOps.off rfl rfl ?_
      refine AOps.off rfl rfl ?_
      refine AOps.off rfl rfl ?_
      refine AOps.off rfl rfl ?_
      refine AOps.off rfl rfl ?_
      refine AOps.off rfl rfl ?_
      refine pB rfl rfl rfl ?_
      refine pB rfl rfl rfl ?_
      refine AOps.done ?_
      refine AWp.ret ?_
      subst h
      exact ⟨_, rfl, rfl⟩
  · replace h := h.2 e
    refine AOps.off rfl rfl ?_
    refine AOps.off rfl rfl ?_
    refine AOps.off rfl rfl ?_
    refine pB rfl rfl rfl ?_
    refine pB rfl rfl rfl ?_
    refine AOps.off rfl rfl ?_
    refine AOps.off rfl rfl ?_
    refine AOps.off rfl rfl ?_
    refine AOps.off rfl rfl ?_
    refine AOps.off rfl rfl ?_
    refine AOps.off rfl rfl ?_
    refine AOps.off rfl rfl ?_
    refine AOps.off rfl rfl ?_
    refine pB rfl rfl rfl ?_
    refine pB rfl rfl rfl ?_
    refine AOps.done ?_
    refine AWp.ret ?_
    subst h
    exact ⟨_, rfl, rfl⟩

def W_rat_gcd (a1 : Int) (b2 : Int) (Q : Int → Prop) : Prop :=
  Loop2 a1 b2 (fun (a17 : Int) (b18 : Int) next19 =>
    Br (decide (b18 > (0 : Int))) (
      Nz b18 <|
      Let (Int.tmod a17 b18) fun x20 =>
      next19 b18 x20) (
      Q a17))

theorem walk_rat_gcd {a1 : Int} {b2 : Int} {r : Int} (h : W_rat_gcd a1 b2 (fun r' => r' = r)) : Ev_rat_gcd a1 b2 r := by
  unfold W_rat_gcd at h
  refine AFn.intro' (L := [(0, .dat (.v (.int .u64 a1))), (1, .dat (.v (.int .u64 b2)))]) tabOk Try.func86 rfl rfl Try.ntmps86 rfl rfl rfl ?_
  refine AWp.seq ?_
  refine AWp.regionN (fun _ => false) rfl ?_
  refine pI rfl rfl rfl ?_
  refine AOps.done ?_
  refine AWp.seq ?_
  refine AWp.block ?_
  obtain ⟨I21, x22, hz23, hr24⟩ := h
  refine AWp.loop (I := fun p : Int × Int => mkSt [(0, .dat (.v (.int .u64 p.1))), (1, .dat (.v (.int .u64 p.2)))] []) (Inv := fun p => I21 p.1 p.2) (μ := fun p => x22 p.1 p.2) (x0 := ⟨a1, b2⟩) hz23 (Sub.list (fun i => i) rfl rfl ⟨rfl, rfl, trivial⟩ trivial) (fun p hp => ?_)
  obtain ⟨a17, b18⟩ := p
  have h := hr24 a17 b18 hp
  refine AWp.seq ?_
  refine AWp.seq ?_
  refine AWp.regionN (fun _ => false) rfl ?_
  refine pI rfl rfl rfl ?_
  refine pB rfl rfl rfl ?_
  refine AOps.done ?_
  refine AWp.cond rfl (fun e => ?_) (fun e => ?_)
  · replace h := h.1 e
    refine AWp.skip ?_
    refine AWp.block ?_
    refine AWp.regionD (fun _ => false) mixed (by decide +kernel) rfl ?_
    refine pI rfl rfl rfl ?_
    refine pI rfl rfl rfl ?_
    refine pI rfl rfl rfl ?_
    obtain ⟨hq, h⟩ := h
    obtain ⟨x20, ex20, h⟩ := h.get
    refine AOps.q rfl rfl rfl rfl rfl (rbin_rem hq) ex20 ?_
    refine pI rfl rfl rfl ?_
    refine pI rfl rfl rfl ?_
    refine AOps.done ?_
    exact ⟨⟨b18, x20⟩, h.1, h.2, (Sub.list (fun i => i) rfl rfl ⟨rfl, rfl, trivial⟩ trivial)⟩
  · replace h := h.2 e
    refine AWp.exit ?_
    refine AWp.seq ?_
    refine AWp.regionN (fun _ => false) rfl ?_
    refine pI rfl rfl rfl ?_
    refine pI rfl rfl rfl ?_
    refine AOps.done ?_
    refine AWp.ret ?_
    subst h
    exact ⟨_, rfl, rfl⟩

def W_rat_size (n1 : Int) (Q : Int → Prop) : Prop :=
  Br (decide (n1 < (0 : Int))) (
    Let (IntKind.u64.wrap n1) fun x4 =>
    Let (IntKind.u64.wrap ((0 : Int) - x4)) fun x5 =>
    Q x5) (
    Let (IntKind.u64.wrap n1) fun x6 =>
    Q x6)

theorem walk_rat_size {n1 : Int} {r : Int} (h : W_rat_size n1 (fun r' => r' = r)) : Ev_rat_size n1 r := by
  unfold W_rat_size at h
  refine AFn.intro' (L := [(0, .dat (.v (.int .i64 n1)))]) tabOk Try.func88 rfl rfl Try.ntmps88 rfl rfl rfl ?_
  refine AWp.seq ?_
  refine AWp.regionN (fun _ => false) rfl ?_
  refine pI rfl rfl rfl ?_
  refine AOps.done ?_
  refine AWp.seq ?_
  refine AWp.seq ?_
  refine AWp.regionN (fun _ => false) rfl ?_
  refine pI rfl rfl rfl ?_
  refine pB rfl rfl rfl ?_
  refine AOps.done ?_
  refine AWp.cond rfl (fun e => ?_) (fun e => ?_)
  · replace h := h.1 e
    refine AWp.seq ?_
    refine AWp.regionN (fun _ => false) rfl ?_
    refine pI rfl rfl rfl ?_
    obtain ⟨x4, ex4, h⟩ := h.get
    refine AOps.i tabOk rfl rfl rfl ex4 ?_
    obtain ⟨x5, ex5, h⟩ := h.get
    refine AOps.i tabOk rfl rfl rfl ex5 ?_
    refine pI rfl rfl rfl ?_
    refine AOps.done ?_
    refine AWp.ret ?_
    subst h
    exact ⟨_, rfl, rfl⟩
  · replace h := h.2 e
    refine AWp.skip ?_
    refine AWp.seq ?_
    refine AWp.regionN (fun _ => false) rfl ?_
    refine pI rfl rfl rfl ?_
    obtain ⟨x6, ex6, h⟩ := h.get
    refine AOps.i tabOk rfl rfl rfl ex6 ?_
    refine pI rfl rfl rfl ?_
    refine AOps.done ?_
    refine AWp.ret ?_
    subst h
    exact ⟨_, rfl, rfl⟩

def W_rat_made (neg1 : Bool) (n2 : Int) (d3 : Int) (Q : GRat × Int → Prop) : Prop :=
  Call (Ev_rat_gcd n2 d3) fun x4 =>
  Nz x4 <|
  Let (IntKind.u64.wrap (Int.tdiv n2 x4)) fun x6 =>
  Nz x4 <|
  Let (IntKind.u64.wrap (Int.tdiv d3 x4)) fun x7 =>
  Br (decide (x6 > (9223372036854775807 : Int))) (Q (GRat.zero, (3 : Int))) (
    Br (decide (x7 > (9223372036854775807 : Int))) (Q (GRat.zero, (3 : Int))) (
      Br neg1 (
        Let (IntKind.i64.wrap x6) fun x11 =>
        Let (IntKind.i64.wrap (0 - x11)) fun x12 =>
        Let (IntKind.i64.wrap x7) fun x13 =>
        Q ((GRat.mk x12 x13), (0 : Int))) (
        Let (IntKind.i64.wrap x6) fun x14 =>
        Let (IntKind.i64.wrap x7) fun x15 =>
        Q ((GRat.mk x14 x15), (0 : Int)))))

theorem walk_rat_made {neg1 : Bool} {n2 : Int} {d3 : Int} {r : GRat × Int} (h : W_rat_made neg1 n2 d3 (fun r' => r' = r)) : Ev_rat_made neg1 n2 d3 r := by
  unfold W_rat_made at h
  refine AFn.intro' (L := [(0, .dat (.v (.bool neg1))), (1, .dat (.v (.int .u64 n2))), (2, .dat (.v (.int .u64 d3)))]) tabOk Try.func93 rfl rfl Try.ntmps93 rfl rfl rfl ?_
  refine AWp.seq ?_
  refine AWp.regionN (fun _ => false) rfl ?_
  refine AOps.alloc tabOk rfl rfl rfl rfl rfl ?_
  refine pI rfl rfl rfl ?_
  refine AOps.done ?_
  refine AWp.seq ?_
  refine AWp.regionN (fun _ => false) rfl ?_
  refine pI rfl rfl rfl ?_
  refine pI rfl rfl rfl ?_
  obtain ⟨x4, hc5, h⟩ := h
  refine AOps.call hc5 rfl rfl rfl ⟨.inl rfl, .inl rfl, trivial⟩ ?_
  refine pI rfl rfl rfl ?_
  refine AOps.done ?_
  refine AWp.seq ?_
  refine AWp.regionD (fun _ => false) mixed (by decide +kernel) rfl ?_
  refine pI rfl rfl rfl ?_
  refine pI rfl rfl rfl ?_
  obtain ⟨hq, h⟩ := h
  obtain ⟨x6, ex6, h⟩ := h.get
  refine AOps.q rfl rfl rfl rfl rfl (rbin_quo hq) ex6 ?_
  refine pI rfl rfl rfl ?_
  refine pI rfl rfl rfl ?_
  obtain ⟨hq, h⟩ := h
  obtain ⟨x7, ex7, h⟩ := h.get
  refine AOps.q rfl rfl rfl rfl rfl (rbin_quo hq) ex7 ?_
  refine pI rfl rfl rfl ?_
  refine pI rfl rfl rfl ?_
  refine AOps.done ?_
  refine AWp.seq ?_
  refine AWp.seq ?_
  refine AWp.regionN (fun _ => false) rfl ?_
  refine pI rfl rfl rfl ?_
  refine pB rfl rfl rfl ?_
  refine pB rfl rfl rfl ?_
  refine AOps.splitB 20 rfl (fun e => ?_) (fun e => ?_)
  · replace h := h.1 e
    refine AOps.off rfl rfl ?_
    refine AOps.off rfl rfl ?_
    refine pB rfl rfl rfl ?_
    refine AOps.done ?_
    refine AWp.condT rfl ?_
    refine AWp.seq ?_
    refine AWp.regionN (fun o => writes o) rfl ?_
    refine pT rfl rfl rfl ?_
    refine AOps.store tabOk (v := .dat (.st _ _)) rfl rfl rfl rfl rfl rfl rfl rfl rfl rfl rfl rfl rfl ?_
    refine pI rfl rfl rfl ?_
    refine AOps.done ?_
    refine AWp.ret ?_
    subst h
    exact ⟨_, rfl, rfl⟩
  · replace h := h.2 e
    refine pI rfl rfl rfl ?_
    refine pB rfl rfl rfl ?_
    refine pB rfl rfl rfl ?_
    refine AOps.done ?_
    refine AWp.cond rfl (fun e => ?_) (fun e => ?_)
    · replace h := h.1 e
      refine AWp.seq ?_
      refine AWp.regionN (fun o => writes o) rfl ?_
      refine pT rfl rfl rfl ?_
      refine AOps.store tabOk (v := .dat (.st _ _)) rfl rfl rfl rfl rfl rfl rfl rfl rfl rfl rfl rfl rfl ?_
      refine pI rfl rfl rfl ?_
      refine AOps.done ?_
      refine AWp.ret ?_
      subst h
      exact ⟨_, rfl, rfl⟩
    · replace h := h.2 e
      refine AWp.skip ?_
      refine AWp.seq ?_
      refine AWp.seq ?_
      refine AWp.regionN (fun _ => false) rfl ?_
      refine pB rfl rfl rfl ?_
      refine AOps.done ?_
      refine AWp.cond rfl (fun e => ?_) (fun e => ?_)
      · replace h := h.1 e
        refine AWp.seq ?_
        refine AWp.regionN (fun o => writes o) rfl ?_
        refine pI rfl rfl rfl ?_
        obtain ⟨x11, ex11, h⟩ := h.get
        refine AOps.i tabOk rfl rfl rfl ex11 ?_
        obtain ⟨x12, ex12, h⟩ := h.get
        refine AOps.i tabOk rfl rfl rfl ex12 ?_
        refine pI rfl rfl rfl ?_
        obtain ⟨x13, ex13, h⟩ := h.get
        refine AOps.i tabOk rfl rfl rfl ex13 ?_
        refine pT rfl rfl rfl ?_
        refine AOps.store tabOk (v := .dat (.st _ _)) rfl rfl rfl rfl rfl rfl rfl rfl rfl rfl rfl rfl rfl ?_
        refine pI rfl rfl rfl ?_
        refine AOps.done ?_
        refine AWp.ret ?_
        subst h
        exact ⟨_, rfl, rfl⟩
      · replace h := h.2 e
        refine AWp.skip ?_
        refine AWp.seq ?_
        refine AWp.regionN (fun o => writes o) rfl ?_
        refine pI rfl rfl rfl ?_
        obtain ⟨x14, ex14, h⟩ := h.get
        refine AOps.i tabOk rfl rfl rfl ex14 ?_
        refine pI rfl rfl rfl ?_
        obtain ⟨x15, ex15, h⟩ := h.get
        refine AOps.i tabOk rfl rfl rfl ex15 ?_
        refine pT rfl rfl rfl ?_
        refine AOps.store tabOk (v := .dat (.st _ _)) rfl rfl rfl rfl rfl rfl rfl rfl rfl rfl rfl rfl rfl ?_
        refine pI rfl rfl rfl ?_
        refine AOps.done ?_
        refine AWp.ret ?_
        subst h
        exact ⟨_, rfl, rfl⟩

def W_math_bits_Mul64 (x1 : Int) (y2 : Int) (Q : Int × Int → Prop) : Prop :=
  Let (bits .and .u64 x1 (4294967295 : Int)) fun x3 =>
  Let (Int.fdiv x1 (2 ^ 32)) fun x4 =>
  Let (bits .and .u64 y2 (4294967295 : Int)) fun x5 =>
  Let (Int.fdiv y2 (2 ^ 32)) fun x6 =>
  Let (IntKind.u64.wrap (x3 * x5)) fun x7 =>
  Let (IntKind.u64.wrap (x4 * x5)) fun x8 =>
  Let (Int.fdiv x7 (2 ^ 32)) fun x9 =>
  Let (IntKind.u64.wrap (x8 + x9)) fun x10 =>
  Let (bits .and .u64 x10 (4294967295 : Int)) fun x11 =>
  Let (Int.fdiv x10 (2 ^ 32)) fun x12 =>
  Let (IntKind.u64.wrap (x3 * x6)) fun x13 =>
  Let (IntKind.u64.wrap (x11 + x13)) fun x14 =>
  Let (IntKind.u64.wrap (x4 * x6)) fun x15 =>
  Let (IntKind.u64.wrap (x15 + x12)) fun x16 =>
  Let (Int.fdiv x14 (2 ^ 32)) fun x17 =>
  Let (IntKind.u64.wrap (x16 + x17)) fun x18 =>
  Let (IntKind.u64.wrap (x1 * y2)) fun x19 =>
  Q (x18, x19)

theorem walk_math_bits_Mul64 {x1 : Int} {y2 : Int} {r : Int × Int} (h : W_math_bits_Mul64 x1 y2 (fun r' => r' = r)) : Ev_math_bits_Mul64 x1 y2 r := by
  unfold W_math_bits_Mul64 at h
  refine AFn.intro' (L := [(0, .dat (.v (.int .u64 x1))), (1, .dat (.v (.int .u64 y2)))]) tabOk Try.func87 rfl rfl Try.ntmps87 rfl rfl rfl ?_
  refine AWp.seq ?_
  refine AWp.regionN (fun _ => false) rfl ?_
  refine pI rfl rfl rfl ?_
  refine pI rfl rfl rfl ?_
  refine AOps.done ?_
  refine AWp.seq ?_
  refine AWp.regionN (fun _ => false) rfl ?_
  refine pI rfl rfl rfl ?_
  obtain ⟨x3, ex3, h⟩ := h.get
  refine AOps.i tabOk rfl rfl rfl ex3 ?_
  refine pI rfl rfl rfl ?_
  refine AOps.done ?_
  refine AWp.seq ?_
  refine AWp.regionN (fun _ => false) rfl ?_
  refine pI rfl rfl rfl ?_
  obtain ⟨x4, ex4, h⟩ := h.get
  refine AOps.q rfl rfl rfl rfl rfl (rbin_shr (by decide)) ex4 ?_
  refine pI rfl rfl rfl ?_
  refine AOps.done ?_
  refine AWp.seq ?_
  refine AWp.regionN (fun _ => false) rfl ?_
  refine pI rfl rfl rfl ?_
  obtain ⟨x5, ex5, h⟩ := h.get
  refine AOps.i tabOk rfl rfl rfl ex5 ?_
  refine pI rfl rfl rfl ?_
  refine AOps.done ?_
  refine AWp.seq ?_
  refine AWp.regionN (fun _ => false) rfl ?_
  refine pI rfl rfl rfl ?_
  obtain ⟨x6, ex6, h⟩ := h.get
  refine AOps.q rfl rfl rfl rfl rfl (rbin_shr (by decide)) ex6 ?_
  refine pI rfl rfl rfl ?_
  refine AOps.done ?_
  refine AWp.seq ?_
  refine AWp.regionN (fun _ => false) rfl ?_
  refine pI rfl rfl rfl ?_
  refine pI rfl rfl rfl ?_
  obtain ⟨x7, ex7, h⟩ := h.get
  refine AOps.i tabOk rfl rfl rfl ex7 ?_
  refine pI rfl rfl rfl ?_
  refine AOps.done ?_
  refine AWp.seq ?_
  refine AWp.regionN (fun _ => false) rfl ?_
  refine pI rfl rfl rfl ?_
  refine pI rfl rfl rfl ?_
  obtain ⟨x8, ex8, h⟩ := h.get
  refine AOps.i tabOk rfl rfl rfl ex8 ?_
  refine pI rfl rfl rfl ?_
  obtain ⟨x9, ex9, h⟩ := h.get
  refine AOps.q rfl rfl rfl rfl rfl (rbin_shr (by decide)) ex9 ?_
  obtain ⟨x10, ex10, h⟩ := h.get
  refine AOps.i tabOk rfl rfl rfl ex10 ?_
  refine pI rfl rfl rfl ?_
  refine AOps.done ?_
  refine AWp.seq ?_
  refine AWp.regionN (fun _ => false) rfl ?_
  refine pI rfl rfl rfl ?_
  obtain ⟨x11, ex11, h⟩ := h.get
  refine AOps.i tabOk rfl rfl rfl ex11 ?_
  refine pI rfl rfl rfl ?_
  refine AOps.done ?_
  refine AWp.seq ?_
  refine AWp.regionN (fun _ => false) rfl ?_
  refine pI rfl rfl rfl ?_
  obtain ⟨x12, ex12, h⟩ := h.get
  refine AOps.q rfl rfl rfl rfl rfl (rbin_shr (by decide)) ex12 ?_
  refine pI rfl rfl rfl ?_
  refine AOps.done ?_
  refine AWp.seq ?_
  refine AWp.regionN (fun _ => false) rfl ?_
  refine pI rfl rfl rfl ?_
  refine pI rfl rfl rfl ?_
  refine pI rfl rfl rfl ?_
  obtain ⟨x13, ex13, h⟩ := h.get
  refine AOps.i tabOk rfl rfl rfl ex13 ?_
  obtain ⟨x14, ex14, h⟩ := h.get
  refine AOps.i tabOk rfl rfl rfl ex14 ?_
  refine pI rfl rfl rfl ?_
  refine AOps.done ?_
  refine AWp.seq ?_
  refine AWp.regionN (fun _ => false) rfl ?_
  refine pI rfl rfl rfl ?_
  refine pI rfl rfl rfl ?_
  obtain ⟨x15, ex15, h⟩ := h.get
  refine AOps.i tabOk rfl rfl rfl ex15 ?_
  refine pI rfl rfl rfl ?_
  obtain ⟨x16, ex16, h⟩ := h.get
  refine AOps.i tabOk rfl rfl rfl ex16 ?_
  refine pI rfl rfl rfl ?_
  obtain ⟨x17, ex17, h⟩ := h.get
  refine AOps.q rfl rfl rfl rfl rfl (rbin_shr (by decide)) ex17 ?_
  obtain ⟨x18, ex18, h⟩ := h.get
  refine AOps.i tabOk rfl rfl rfl ex18 ?_
  refine pI rfl rfl rfl ?_
  refine AOps.done ?_
  refine AWp.seq ?_
  refine AWp.regionN (fun _ => false) rfl ?_
  refine pI rfl rfl rfl ?_
  refine pI rfl rfl rfl ?_
  obtain ⟨x19, ex19, h⟩ := h.get
  refine AOps.i tabOk rfl rfl rfl ex19 ?_
  refine pI rfl rfl rfl ?_
  refine AOps.done ?_
  refine AWp.ret ?_
  subst h
  exact ⟨_, rfl, rfl⟩

end Go.Sim.Ytlglkgineclggaa
