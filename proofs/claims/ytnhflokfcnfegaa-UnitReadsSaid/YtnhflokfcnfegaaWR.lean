/- What is proved: functions of the program compute what plain statements tell. -/
import Derived.Test.YtnhflokfcnfegaaWE
namespace Go.Sim.Ytnhflokfcnfegaa
open Go.RowKit Go.Proofs Go.Proofs.Try

def W_rat_Add (x1 : GRat) (x2 : GRat) (Q : GRat × Int → Prop) : Prop :=
  Call (Ev_rat_Right x1) fun x7 =>
  Br (!x7) (Q (GRat.zero, (1 : Int))) (
    Call (Ev_rat_Right x2) fun x9 =>
    Br (!x9) (Q (GRat.zero, (1 : Int))) (
      Let (IntKind.u64.wrap x1.D) fun x11 =>
      Let (IntKind.u64.wrap x2.D) fun x12 =>
      Call (Ev_rat_gcd x11 x12) fun x13 =>
      Let (IntKind.u64.wrap x1.D) fun x15 =>
      Nz x13 <|
      Let (IntKind.u64.wrap (Int.tdiv x15 x13)) fun x16 =>
      Let (IntKind.u64.wrap x2.D) fun x17 =>
      Nz x13 <|
      Let (IntKind.u64.wrap (Int.tdiv x17 x13)) fun x18 =>
      Call (Ev_rat_size x1.N) fun x19 =>
      Call (Ev_math_bits_Mul64 x19 x18) fun x21 =>
      Call (Ev_rat_size x2.N) fun x23 =>
      Call (Ev_math_bits_Mul64 x23 x16) fun x25 =>
      Join3 (fun j47 =>
        Br ((decide (x1.N < (0 : Int))) == (decide (x2.N < (0 : Int)))) (
          Call (Ev_math_bits_Add64 x21.2 x25.2 (0 : Int)) fun x48 =>
          Let (IntKind.u64.wrap (x25.1 + x48.2)) fun x50 =>
          Let (IntKind.u64.wrap (x21.1 + x50)) fun x51 =>
          j47 x51 x48.1 (decide (x1.N < (0 : Int)))) (
          Join1 (fun j53 =>
            Br (decide (x21.1 > x25.1)) (j53 true) (
              Br (x21.1 == x25.1) (j53 (decide (x21.2 ≥ x25.2))) (
                j53 false))
          ) (fun (x52 : Bool) =>
            Br x52 (
              Call (Ev_math_bits_Sub64 x21.2 x25.2 (0 : Int)) fun x54 =>
              Let (IntKind.u64.wrap (x25.1 + x54.2)) fun x56 =>
              Let (IntKind.u64.wrap (x21.1 - x56)) fun x57 =>
              j47 x57 x54.1 (decide (x1.N < (0 : Int)))) (
              Call (Ev_math_bits_Sub64 x25.2 x21.2 (0 : Int)) fun x58 =>
              Let (IntKind.u64.wrap (x25.1 - x21.1)) fun x60 =>
              Let (IntKind.u64.wrap (x60 - x58.2)) fun x61 =>
              j47 x61 x58.1 (decide (x2.N < (0 : Int))))))
      ) (fun (x44 : Int) (x45 : Int) (x46 : Bool) =>
        Call (Ev_math_bits_Rem64 x44 x45 x13) fun x65 =>
        Call (Ev_rat_gcd x65 x13) fun x67 =>
        Br (x67 == (0 : Int)) (Q (GRat.zero, (3 : Int))) (
          Br (decide (x44 ≥ x67)) (Q (GRat.zero, (3 : Int))) (
            Call (Ev_math_bits_Div64 x44 x45 x67) fun x69 =>
            Br (x69.1 == (0 : Int)) (Q (({ GRat.zero with D := (1 : Int) }), (0 : Int))) (
              Nz x67 <|
              Let (IntKind.u64.wrap (Int.tdiv x13 x67)) fun x71 =>
              Let (IntKind.u64.wrap (x16 * x71)) fun x72 =>
              Call (Ev_math_bits_Mul64 x72 x18) fun x73 =>
              Br (decide (x73.1 > (0 : Int))) (Q (GRat.zero, (3 : Int))) (
                Call (Ev_rat_made x46 x69.1 x73.2) fun x75 =>
                Q (x75.1, x75.2))))))))

theorem walk_rat_Add {x1 : GRat} {x2 : GRat} {r : GRat × Int} (h : W_rat_Add x1 x2 (fun r' => r' = r)) : Ev_rat_Add x1 x2 r := by
  unfold W_rat_Add at h
  refine AFn.intro' (L := [(0, .dat (GRat.enc x1)), (1, .dat (GRat.enc x2))]) tabOk Try.func22 rfl rfl Try.ntmps22 rfl rfl rfl ?_
  refine AWp.seq ?_
  refine AWp.regionN (fun _ => false) rfl ?_
  refine AOps.box (v := .dat (.st _ _)) rfl rfl rfl rfl rfl rfl ?_
  refine AOps.box (v := .dat (.st _ _)) rfl rfl rfl rfl rfl rfl ?_
  refine AOps.alloc tabOk rfl rfl rfl rfl rfl ?_
  refine pI rfl rfl rfl ?_
  refine AOps.done ?_
  refine AWp.seq ?_
  refine AWp.seq ?_
  refine AWp.regionN (fun _ => false) rfl ?_
  refine pT rfl rfl rfl ?_
  obtain ⟨x7, hc8, h⟩ := h
  refine AOps.call hc8 rfl rfl rfl ⟨.inl rfl, trivial⟩ ?_
  refine pB rfl rfl rfl ?_
  refine pB rfl rfl rfl ?_
  refine AOps.splitB 23 rfl (fun e => ?_) (fun e => ?_)
  · replace h := h.1 e
    refine AOps.off rfl rfl ?_
    refine AOps.off rfl rfl ?_
    refine AOps.off rfl rfl ?_
    refine pB rfl rfl rfl ?_
    refine AOps.done ?_
    refine AWp.condT rfl ?_
    refine AWp.seq ?_
    refine AWp.regionN (fun o => writes o) rfl ?_
    refine pT rfl rfl rfl ?_
    refine AOps.store tabOk (v := .dat (.st _ _)) rfl rfl rfl rfl rfl rfl rfl rfl rfl rfl rfl rfl rfl ?_
    refine pI rfl rfl rfl ?_
    refine AOps.done ?_
    refine AWp.ret ?_
    subst h
    exact ⟨_, rfl, rfl⟩
  · replace h := h.2 e
    refine pT rfl rfl rfl ?_
    obtain ⟨x9, hc10, h⟩ := h
    refine AOps.call hc10 rfl rfl rfl ⟨.inl rfl, trivial⟩ ?_
    refine pB rfl rfl rfl ?_
    refine pB rfl rfl rfl ?_
    refine AOps.done ?_
    refine AWp.cond rfl (fun e => ?_) (fun e => ?_)
    · replace h := h.1 e
      refine AWp.seq ?_
      refine AWp.regionN (fun o => writes o) rfl ?_
      refine pT rfl rfl rfl ?_
      refine AOps.store tabOk (v := .dat (.st _ _)) rfl rfl rfl rfl rfl rfl rfl rfl rfl rfl rfl rfl rfl ?_
      refine pI rfl rfl rfl ?_
      refine AOps.done ?_
      refine AWp.ret ?_
      subst h
      exact ⟨_, rfl, rfl⟩
    · replace h := h.2 e
      refine AWp.skip ?_
      refine AWp.seq ?_
      refine AWp.regionN (fun _ => false) rfl ?_
      refine pP rfl rfl rfl ?_
      refine pI rfl rfl rfl ?_
      obtain ⟨x11, ex11, h⟩ := h.get
      refine AOps.i tabOk rfl rfl rfl ex11 ?_
      refine pP rfl rfl rfl ?_
      refine pI rfl rfl rfl ?_
      obtain ⟨x12, ex12, h⟩ := h.get
      refine AOps.i tabOk rfl rfl rfl ex12 ?_
      obtain ⟨x13, hc14, h⟩ := h
      refine AOps.call hc14 rfl rfl rfl ⟨.inl rfl, .inl rfl, trivial⟩ ?_
      refine pI rfl rfl rfl ?_
      refine AOps.done ?_
      refine AWp.seq ?_
      refine AWp.regionD (fun _ => false) mixed (by decide +kernel) rfl ?_
      refine pP rfl rfl rfl ?_
      refine pI rfl rfl rfl ?_
      obtain ⟨x15, ex15, h⟩ := h.get
      refine AOps.i tabOk rfl rfl rfl ex15 ?_
      refine pI rfl rfl rfl ?_
      obtain ⟨hq, h⟩ := h
      obtain ⟨x16, ex16, h⟩ := h.get
      refine AOps.q rfl rfl rfl rfl rfl (rbin_quo hq) ex16 ?_
      refine pP rfl rfl rfl ?_
      refine pI rfl rfl rfl ?_
      obtain ⟨x17, ex17, h⟩ := h.get
      refine AOps.i tabOk rfl rfl rfl ex17 ?_
      refine pI rfl rfl rfl ?_
      obtain ⟨hq, h⟩ := h
      obtain ⟨x18, ex18, h⟩ := h.get
      refine AOps.q rfl rfl rfl rfl rfl (rbin_quo hq) ex18 ?_
      refine pI rfl rfl rfl ?_
      refine pI rfl rfl rfl ?_
      refine AOps.done ?_
      refine AWp.seq ?_
      refine AWp.regionN (fun _ => false) rfl ?_
      refine pP rfl rfl rfl ?_
      refine pI rfl rfl rfl ?_
      obtain ⟨x19, hc20, h⟩ := h
      refine AOps.call hc20 rfl rfl rfl ⟨.inl rfl, trivial⟩ ?_
      refine pI rfl rfl rfl ?_
      obtain ⟨x21, hc22, h⟩ := h
      refine AOps.call hc22 rfl rfl rfl ⟨.inl rfl, .inl rfl, trivial⟩ ?_
      refine pU rfl rfl rfl ?_
      refine pI rfl rfl rfl ?_
      refine pI rfl rfl rfl ?_
      refine pI rfl rfl rfl ?_
      refine pI rfl rfl rfl ?_
      refine AOps.done ?_
      refine AWp.seq ?_
      refine AWp.regionN (fun _ => false) rfl ?_
      refine pP rfl rfl rfl ?_
      refine pI rfl rfl rfl ?_
      obtain ⟨x23, hc24, h⟩ := h
      refine AOps.call hc24 rfl rfl rfl ⟨.inl rfl, trivial⟩ ?_
      refine pI rfl rfl rfl ?_
      obtain ⟨x25, hc26, h⟩ := h
      refine AOps.call hc26 rfl rfl rfl ⟨.inl rfl, .inl rfl, trivial⟩ ?_
      refine pU rfl rfl rfl ?_
      refine pI rfl rfl rfl ?_
      refine pI rfl rfl rfl ?_
      refine pI rfl rfl rfl ?_
      refine pI rfl rfl rfl ?_
      refine AOps.done ?_
      refine AWp.seq ?_
      refine AWp.regionN (fun _ => false) rfl ?_
      refine pP rfl rfl rfl ?_
      refine pI rfl rfl rfl ?_
      refine pB rfl rfl rfl ?_
      refine pB rfl rfl rfl ?_
      refine AOps.done ?_
      refine AWp.seq ?_
      refine AWp.regionN (fun _ => false) rfl ?_
      refine pI rfl rfl rfl ?_
      refine AOps.done ?_
      refine AWp.seq ?_
      obtain ⟨J77, hj78, hk79⟩ := h
      refine AWp.cutK (I := fun p : Int × Int × Bool => mkSt [(4, .pt 4 [] 0), (6, .dat (.v (.int .u64 x13))), (7, .dat (.v (.int .u64 x16))), (8, .dat (.v (.int .u64 x18))), (9, .dat (.v (.int .u64 p.1))), (10, .dat (.v (.int .u64 p.2.1))), (13, .dat (.v (.bool p.2.2)))] [(4, .box 23 2 (.dat (GRat.enc GRat.zero)))]) (Inv := fun p : Int × Int × Bool => J77 p.1 p.2.1 p.2.2) ?_ (fun p hp => ?_)
      · have h := hj78
        refine AWp.block ?_
        refine AWp.seq ?_
        refine AWp.regionN (fun _ => false) rfl ?_
        refine pP rfl rfl rfl ?_
        refine pI rfl rfl rfl ?_
        refine pB rfl rfl rfl ?_
        refine pP rfl rfl rfl ?_
        refine pI rfl rfl rfl ?_
        refine pB rfl rfl rfl ?_
        refine pB rfl rfl rfl ?_
        refine pB rfl rfl rfl ?_
        refine AOps.done ?_
        refine AWp.cond rfl (fun e => ?_) (fun e => ?_)
        · replace h := h.1 e
          refine AWp.seq ?_
          refine AWp.regionN (fun _ => false) rfl ?_
          refine pI rfl rfl rfl ?_
          refine pI rfl rfl rfl ?_
          obtain ⟨x48, hc49, h⟩ := h
          refine AOps.extC hc49 rfl rfl rfl (.cons rfl (.cons rfl (.cons rfl .nil))) ?_
          refine pU rfl rfl rfl ?_
          refine pI rfl rfl rfl ?_
          refine pI rfl rfl rfl ?_
          refine pI rfl rfl rfl ?_
          refine pI rfl rfl rfl ?_
          refine AOps.done ?_
          refine AWp.regionN (fun _ => false) rfl ?_
          refine pI rfl rfl rfl ?_
          refine pI rfl rfl rfl ?_
          refine pI rfl rfl rfl ?_
          obtain ⟨x50, ex50, h⟩ := h.get
          refine AOps.i tabOk rfl rfl rfl ex50 ?_
          obtain ⟨x51, ex51, h⟩ := h.get
          refine AOps.i tabOk rfl rfl rfl ex51 ?_
          refine pI rfl rfl rfl ?_
          refine AOps.done ?_
          exact ⟨⟨x51, x48.1, (decide (x1.N < (0 : Int)))⟩, h, (Sub.list (fun i => i) rfl rfl ⟨rfl, rfl, rfl, rfl, rfl, rfl, rfl, trivial⟩ ⟨rfl, trivial⟩)⟩
        · replace h := h.2 e
          refine AWp.seq ?_
          obtain ⟨J62, hj63, hk64⟩ := h
          refine AWp.cutK (I := fun p : Bool => mkSt [(3, .pt 3 [] 0), (4, .pt 4 [] 0), (6, .dat (.v (.int .u64 x13))), (7, .dat (.v (.int .u64 x16))), (8, .dat (.v (.int .u64 x18))), (9, .dat (.v (.int .u64 x21.1))), (10, .dat (.v (.int .u64 x21.2))), (11, .dat (.v (.int .u64 x25.1))), (12, .dat (.v (.int .u64 x25.2))), (13, .dat (.v (.bool (decide (x1.N < (0 : Int)))))), (98, .dat (.v (.bool p)))] [(3, .box 23 2 (.dat (GRat.enc x2))), (4, .box 23 2 (.dat (GRat.enc GRat.zero)))]) (Inv := fun p : Bool => J62 p) ?_ (fun p hp => ?_)
          · have h := hj63
            refine AWp.regionN (fun _ => false) rfl ?_
            refine pI rfl rfl rfl ?_
            refine pI rfl rfl rfl ?_
            refine pB rfl rfl rfl ?_
            refine pB rfl rfl rfl ?_
            refine AOps.splitB 102 rfl (fun e => ?_) (fun e => ?_)
            · replace h := h.1 e
              refine AOps.off rfl rfl ?_
              refine AOps.off rfl rfl ?_
              refine AOps.off rfl rfl ?_
              refine AOps.off rfl rfl ?_
              refine AOps.off rfl rfl ?_
              refine AOps.off rfl rfl ?_
              refine AOps.off rfl rfl ?_
              refine AOps.off rfl rfl ?_
              refine pB rfl rfl rfl ?_
              refine pB rfl rfl rfl ?_
              refine AOps.done ?_
              exact ⟨true, h, (Sub.list (fun i => i) rfl rfl ⟨rfl, rfl, rfl, rfl, rfl, rfl, rfl, rfl, rfl, rfl, rfl, trivial⟩ ⟨rfl, rfl, trivial⟩)⟩
            · replace h := h.2 e
              refine pI rfl rfl rfl ?_
              refine pI rfl rfl rfl ?_
              refine pB rfl rfl rfl ?_
              refine pB rfl rfl rfl ?_
              refine AOps.splitB 106 rfl (fun e => ?_) (fun e => ?_)
              · replace h := h.1 e
                refine pI rfl rfl rfl ?_
                refine pI rfl rfl rfl ?_
                refine pB rfl rfl rfl ?_
                refine pB rfl rfl rfl ?_
                refine pB rfl rfl rfl ?_
                refine pB rfl rfl rfl ?_
                refine AOps.done ?_
                exact ⟨(decide (x21.2 ≥ x25.2)), h, (Sub.list (fun i => i) rfl rfl ⟨rfl, rfl, rfl, rfl, rfl, rfl, rfl, rfl, rfl, rfl, rfl, trivial⟩ ⟨rfl, rfl, trivial⟩)⟩
              · replace h := h.2 e
                refine AOps.off rfl rfl ?_
                refine AOps.off rfl rfl ?_
                refine AOps.off rfl rfl ?_
                refine pB rfl rfl rfl ?_
                refine pB rfl rfl rfl ?_
                refine pB rfl rfl rfl ?_
                refine AOps.done ?_
                exact ⟨false, h, (Sub.list (fun i => i) rfl rfl ⟨rfl, rfl, rfl, rfl, rfl, rfl, rfl, rfl, rfl, rfl, rfl, trivial⟩ ⟨rfl, rfl, trivial⟩)⟩
          · have h := hk64 p hp
            revert h; clear hp; generalize p = x52; intro h
            refine AWp.cond rfl (fun e => ?_) (fun e => ?_)
            · replace h := h.1 e
              refine AWp.seq ?_
              refine AWp.regionN (fun _ => false) rfl ?_
              refine pI rfl rfl rfl ?_
              refine pI rfl rfl rfl ?_
              obtain ⟨x54, hc55, h⟩ := h
              refine AOps.extC hc55 rfl rfl rfl (.cons rfl (.cons rfl (.cons rfl .nil))) ?_
              refine pU rfl rfl rfl ?_
              refine pI rfl rfl rfl ?_
              refine pI rfl rfl rfl ?_
              refine pI rfl rfl rfl ?_
              refine pI rfl rfl rfl ?_
              refine AOps.done ?_
              refine AWp.regionN (fun _ => false) rfl ?_
              refine pI rfl rfl rfl ?_
              refine pI rfl rfl rfl ?_
              refine pI rfl rfl rfl ?_
              obtain ⟨x56, ex56, h⟩ := h.get
              refine AOps.i tabOk rfl rfl rfl ex56 ?_
              obtain ⟨x57, ex57, h⟩ := h.get
              refine AOps.i tabOk rfl rfl rfl ex57 ?_
              refine pI rfl rfl rfl ?_
              refine AOps.done ?_
              exact ⟨⟨x57, x54.1, (decide (x1.N < (0 : Int)))⟩, h, (Sub.list (fun i => i) rfl rfl ⟨rfl, rfl, rfl, rfl, rfl, rfl, rfl, trivial⟩ ⟨rfl, trivial⟩)⟩
            · replace h := h.2 e
              refine AWp.seq ?_
              refine AWp.regionN (fun _ => false) rfl ?_
              refine pP rfl rfl rfl ?_
              refine pI rfl rfl rfl ?_
              refine pB rfl rfl rfl ?_
              refine pB rfl rfl rfl ?_
              refine AOps.done ?_
              refine AWp.seq ?_
              refine AWp.regionN (fun _ => false) rfl ?_
              refine pI rfl rfl rfl ?_
              refine pI rfl rfl rfl ?_
              obtain ⟨x58, hc59, h⟩ := h
              refine AOps.extC hc59 rfl rfl rfl (.cons rfl (.cons rfl (.cons rfl .nil))) ?_
              refine pU rfl rfl rfl ?_
              refine pI rfl rfl rfl ?_
              refine pI rfl rfl rfl ?_
              refine pI rfl rfl rfl ?_
              refine pI rfl rfl rfl ?_
              refine AOps.done ?_
              refine AWp.regionN (fun _ => false) rfl ?_
              refine pI rfl rfl rfl ?_
              refine pI rfl rfl rfl ?_
              obtain ⟨x60, ex60, h⟩ := h.get
              refine AOps.i tabOk rfl rfl rfl ex60 ?_
              refine pI rfl rfl rfl ?_
              obtain ⟨x61, ex61, h⟩ := h.get
              refine AOps.i tabOk rfl rfl rfl ex61 ?_
              refine pI rfl rfl rfl ?_
              refine AOps.done ?_
              exact ⟨⟨x61, x58.1, (decide (x2.N < (0 : Int)))⟩, h, (Sub.list (fun i => i) rfl rfl ⟨rfl, rfl, rfl, rfl, rfl, rfl, rfl, trivial⟩ ⟨rfl, trivial⟩)⟩
      · obtain ⟨x44, x45, x46⟩ := p
        have h := hk79 x44 x45 x46 hp
        refine AWp.seq ?_
        refine AWp.regionN (fun _ => false) rfl ?_
        refine pI rfl rfl rfl ?_
        refine pI rfl rfl rfl ?_
        refine pI rfl rfl rfl ?_
        obtain ⟨x65, hc66, h⟩ := h
        refine AOps.call hc66 rfl rfl rfl ⟨.inl rfl, .inl rfl, .inl rfl, trivial⟩ ?_
        refine pI rfl rfl rfl ?_
        obtain ⟨x67, hc68, h⟩ := h
        refine AOps.call hc68 rfl rfl rfl ⟨.inl rfl, .inl rfl, trivial⟩ ?_
        refine pI rfl rfl rfl ?_
        refine AOps.done ?_
        refine AWp.seq ?_
        refine AWp.seq ?_
        refine AWp.regionN (fun _ => false) rfl ?_
        refine pI rfl rfl rfl ?_
        refine pB rfl rfl rfl ?_
        refine pB rfl rfl rfl ?_
        refine AOps.splitB 131 rfl (fun e => ?_) (fun e => ?_)
        · replace h := h.1 e
          refine AOps.off rfl rfl ?_
          refine AOps.off rfl rfl ?_
          refine AOps.off rfl rfl ?_
          refine pB rfl rfl rfl ?_
          refine AOps.done ?_
          refine AWp.condT rfl ?_
          refine AWp.seq ?_
          refine AWp.regionN (fun o => writes o) rfl ?_
          refine pT rfl rfl rfl ?_
          refine AOps.store tabOk (v := .dat (.st _ _)) rfl rfl rfl rfl rfl rfl rfl rfl rfl rfl rfl rfl rfl ?_
          refine pI rfl rfl rfl ?_
          refine AOps.done ?_
          refine AWp.ret ?_
          subst h
          exact ⟨_, rfl, rfl⟩
        · replace h := h.2 e
          refine pI rfl rfl rfl ?_
          refine pI rfl rfl rfl ?_
          refine pB rfl rfl rfl ?_
          refine pB rfl rfl rfl ?_
          refine AOps.done ?_
          refine AWp.cond rfl (fun e => ?_) (fun e => ?_)
          · replace h := h.1 e
            refine AWp.seq ?_
            refine AWp.regionN (fun o => writes o) rfl ?_
            refine pT rfl rfl rfl ?_
            refine AOps.store tabOk (v := .dat (.st _ _)) rfl rfl rfl rfl rfl rfl rfl rfl rfl rfl rfl rfl rfl ?_
            refine pI rfl rfl rfl ?_
            refine AOps.done ?_
            refine AWp.ret ?_
            subst h
            exact ⟨_, rfl, rfl⟩
          · replace h := h.2 e
            refine AWp.skip ?_
            refine AWp.seq ?_
            refine AWp.regionN (fun _ => false) rfl ?_
            refine pI rfl rfl rfl ?_
            refine pI rfl rfl rfl ?_
            refine pI rfl rfl rfl ?_
            obtain ⟨x69, hc70, h⟩ := h
            refine AOps.call hc70 rfl rfl rfl ⟨.inl rfl, .inl rfl, .inl rfl, trivial⟩ ?_
            refine pU rfl rfl rfl ?_
            refine pI rfl rfl rfl ?_
            refine pI rfl rfl rfl ?_
            refine pI rfl rfl rfl ?_
            refine pI rfl rfl rfl ?_
            refine AOps.done ?_
            refine AWp.seq ?_
            refine AWp.seq ?_
            refine AWp.regionN (fun _ => false) rfl ?_
            refine pI rfl rfl rfl ?_
            refine pB rfl rfl rfl ?_
            refine AOps.done ?_
            refine AWp.cond rfl (fun e => ?_) (fun e => ?_)
            · replace h := h.1 e
              refine AWp.seq ?_
              refine AWp.regionN (fun o => writes o) rfl ?_
              refine pT rfl rfl rfl ?_
              refine AOps.store tabOk (v := .dat (.st _ _)) rfl rfl rfl rfl rfl rfl rfl rfl rfl rfl rfl rfl rfl ?_
              refine pI rfl rfl rfl ?_
              refine AOps.done ?_
              refine AWp.ret ?_
              subst h
              exact ⟨_, rfl, rfl⟩
            · replace h := h.2 e
              refine AWp.skip ?_
              refine AWp.seq ?_
              refine AWp.regionN (fun _ => false) rfl ?_
              refine pI rfl rfl rfl ?_
              refine pI rfl rfl rfl ?_
              refine pI rfl rfl rfl ?_
              obtain ⟨hq, h⟩ := h
              obtain ⟨x71, ex71, h⟩ := h.get
              refine AOps.q rfl rfl rfl rfl rfl (rbin_quo hq) ex71 ?_
              obtain ⟨x72, ex72, h⟩ := h.get
              refine AOps.i tabOk rfl rfl rfl ex72 ?_
              refine pI rfl rfl rfl ?_
              obtain ⟨x73, hc74, h⟩ := h
              refine AOps.call hc74 rfl rfl rfl ⟨.inl rfl, .inl rfl, trivial⟩ ?_
              refine pU rfl rfl rfl ?_
              refine pI rfl rfl rfl ?_
              refine pI rfl rfl rfl ?_
              refine pI rfl rfl rfl ?_
              refine pI rfl rfl rfl ?_
              refine AOps.done ?_
              refine AWp.seq ?_
              refine AWp.seq ?_
              refine AWp.regionN (fun _ => false) rfl ?_
              refine pI rfl rfl rfl ?_
              refine pB rfl rfl rfl ?_
              refine AOps.done ?_
              refine AWp.cond rfl (fun e => ?_) (fun e => ?_)
              · replace h := h.1 e
                refine AWp.seq ?_
                refine AWp.regionN (fun o => writes o) rfl ?_
                refine pT rfl rfl rfl ?_
                refine AOps.store tabOk (v := .dat (.st _ _)) rfl rfl rfl rfl rfl rfl rfl rfl rfl rfl rfl rfl rfl ?_
                refine pI rfl rfl rfl ?_
                refine AOps.done ?_
                refine AWp.ret ?_
                subst h
                exact ⟨_, rfl, rfl⟩
              · replace h := h.2 e
                refine AWp.skip ?_
                refine AWp.seq ?_
                refine AWp.regionN (fun o => writes o) rfl ?_
                refine pB rfl rfl rfl ?_
                refine pI rfl rfl rfl ?_
                refine pI rfl rfl rfl ?_
                obtain ⟨x75, hc76, h⟩ := h
                refine AOps.call hc76 rfl rfl rfl ⟨.inl rfl, .inl rfl, .inl rfl, trivial⟩ ?_
                refine pT rfl rfl rfl ?_
                refine pI rfl rfl rfl ?_
                refine AOps.store tabOk (v := .dat (.st _ _)) rfl rfl rfl rfl rfl rfl rfl rfl rfl rfl rfl rfl rfl ?_
                refine pI rfl rfl rfl ?_
                refine AOps.done ?_
                refine AWp.ret ?_
                subst h
                exact ⟨_, rfl, rfl⟩

def W_rat_Sub (a1 : GRat) (b2 : GRat) (Q : GRat × Int → Prop) : Prop :=
  Call (Ev_rat_Right b2) fun x3 =>
  Br (!x3) (Q (GRat.zero, (1 : Int))) (
    Let (IntKind.i64.wrap (0 - b2.N)) fun x5 =>
    Call (Ev_rat_Add a1 (GRat.mk x5 b2.D)) fun x6 =>
    Q (x6.1, x6.2))

theorem walk_rat_Sub {a1 : GRat} {b2 : GRat} {r : GRat × Int} (h : W_rat_Sub a1 b2 (fun r' => r' = r)) : Ev_rat_Sub a1 b2 r := by
  unfold W_rat_Sub at h
  refine AFn.intro' (L := [(0, .dat (GRat.enc a1)), (1, .dat (GRat.enc b2))]) tabOk Try.func24 rfl rfl Try.ntmps24 rfl rfl rfl ?_
  refine AWp.seq ?_
  refine AWp.regionN (fun _ => false) rfl ?_
  refine AOps.box (v := .dat (.st _ _)) rfl rfl rfl rfl rfl rfl ?_
  refine AOps.box (v := .dat (.st _ _)) rfl rfl rfl rfl rfl rfl ?_
  refine AOps.alloc tabOk rfl rfl rfl rfl rfl ?_
  refine pI rfl rfl rfl ?_
  refine AOps.done ?_
  refine AWp.seq ?_
  refine AWp.seq ?_
  refine AWp.regionN (fun _ => false) rfl ?_
  refine pT rfl rfl rfl ?_
  obtain ⟨x3, hc4, h⟩ := h
  refine AOps.call hc4 rfl rfl rfl ⟨.inl rfl, trivial⟩ ?_
  refine pB rfl rfl rfl ?_
  refine AOps.done ?_
  refine AWp.cond rfl (fun e => ?_) (fun e => ?_)
  · replace h := h.1 e
    refine AWp.seq ?_
    refine AWp.regionN (fun o => writes o) rfl ?_
    refine pT rfl rfl rfl ?_
    refine AOps.store tabOk (v := .dat (.st _ _)) rfl rfl rfl rfl rfl rfl rfl rfl rfl rfl rfl rfl rfl ?_
    refine pI rfl rfl rfl ?_
    refine AOps.done ?_
    refine AWp.ret ?_
    subst h
    exact ⟨_, rfl, rfl⟩
  · replace h := h.2 e
    refine AWp.skip ?_
    refine AWp.seq ?_
    refine AWp.regionN (fun o => writes o) rfl ?_
    refine pT rfl rfl rfl ?_
    refine pP rfl rfl rfl ?_
    refine pI rfl rfl rfl ?_
    obtain ⟨x5, ex5, h⟩ := h.get
    refine AOps.i tabOk rfl rfl rfl ex5 ?_
    refine pP rfl rfl rfl ?_
    refine pI rfl rfl rfl ?_
    refine pT rfl rfl rfl ?_
    obtain ⟨x6, hc7, h⟩ := h
    refine AOps.call hc7 rfl rfl rfl ⟨.inl rfl, .inl rfl, trivial⟩ ?_
    refine pT rfl rfl rfl ?_
    refine pI rfl rfl rfl ?_
    refine AOps.store tabOk (v := .dat (.st _ _)) rfl rfl rfl rfl rfl rfl rfl rfl rfl rfl rfl rfl rfl ?_
    refine pI rfl rfl rfl ?_
    refine AOps.done ?_
    refine AWp.ret ?_
    subst h
    exact ⟨_, rfl, rfl⟩

end Go.Sim.Ytnhflokfcnfegaa
