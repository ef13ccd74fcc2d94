/- What is proved: functions of the program compute what plain statements tell. -/
import Derived.Test.YtlglkgineclggaaDoorZRTWE
namespace Go.Sim.YtlglkgineclggaaDoor
open Go.RowKit Go.Proofs Go.Proofs.Tryd
set_option maxRecDepth 100000
def W_math_bits_Div64 (x1 : Int) (x2 : Int) (x3 : Int) (Q : Int × Int → Prop) : Prop :=
  Br (x3 == (0 : Int)) (False) (
    Br (decide (x3 ≤ x1)) (False) (
      Br (x1 == (0 : Int)) (
        Nz x3 <|
        Let (IntKind.u64.wrap (Int.tdiv x2 x3)) fun x6 =>
        Nz x3 <|
        Let (Int.tmod x2 x3) fun x7 =>
        Q (x6, x7)) (
        Call (Ev_math_bits_LeadingZeros64 x3) fun x8 =>
        Let (IntKind.u64.wrap x8) fun x10 =>
        Nn x10 <|
        Let (IntKind.u64.wrap (x3 * 2 ^ (min (Int.toNat x10) 64))) fun x11 =>
        Let (Int.fdiv x11 (2 ^ 32)) fun x12 =>
        Let (bits .and .u64 x11 (4294967295 : Int)) fun x13 =>
        Nn x10 <|
        Let (IntKind.u64.wrap (x1 * 2 ^ (min (Int.toNat x10) 64))) fun x14 =>
        Let (IntKind.u64.wrap ((64 : Int) - x10)) fun x15 =>
        Nn x15 <|
        Let (Int.fdiv x2 (2 ^ (min (Int.toNat x15) 64))) fun x16 =>
        Let (bits .or .u64 x14 x16) fun x17 =>
        Nn x10 <|
        Let (IntKind.u64.wrap (x2 * 2 ^ (min (Int.toNat x10) 64))) fun x18 =>
        Let (Int.fdiv x18 (2 ^ 32)) fun x19 =>
        Let (bits .and .u64 x18 (4294967295 : Int)) fun x20 =>
        Nz x12 <|
        Let (IntKind.u64.wrap (Int.tdiv x17 x12)) fun x21 =>
        Let (IntKind.u64.wrap (x21 * x12)) fun x22 =>
        Let (IntKind.u64.wrap (x17 - x22)) fun x23 =>
        Join1 (fun j60 =>
          Loop2 x21 x23 (fun (x76 : Int) (x77 : Int) next78 =>
            Join1 (fun j83 =>
              Br (decide (x76 ≥ (4294967296 : Int))) (j83 true) (
                Let (IntKind.u64.wrap (x76 * x13)) fun x84 =>
                Let (IntKind.u64.wrap ((4294967296 : Int) * x77)) fun x85 =>
                Let (IntKind.u64.wrap (x85 + x19)) fun x86 =>
                j83 (decide (x84 > x86)))
            ) (fun (x82 : Bool) =>
              Br x82 (
                Let (IntKind.u64.wrap (x76 - (1 : Int))) fun x87 =>
                Let (IntKind.u64.wrap (x77 + x12)) fun x88 =>
                Br (decide (x88 ≥ (4294967296 : Int))) (j60 x87) (
                  next78 x87 x88)) (
                j60 x76)))
        ) (fun (x59 : Int) =>
          Let (IntKind.u64.wrap (x17 * (4294967296 : Int))) fun x96 =>
          Let (IntKind.u64.wrap (x96 + x19)) fun x97 =>
          Let (IntKind.u64.wrap (x59 * x11)) fun x98 =>
          Let (IntKind.u64.wrap (x97 - x98)) fun x99 =>
          Nz x12 <|
          Let (IntKind.u64.wrap (Int.tdiv x99 x12)) fun x100 =>
          Let (IntKind.u64.wrap (x100 * x12)) fun x101 =>
          Let (IntKind.u64.wrap (x99 - x101)) fun x102 =>
          Join1 (fun j139 =>
            Loop2 x102 x100 (fun (x155 : Int) (x156 : Int) next157 =>
              Join1 (fun j162 =>
                Br (decide (x156 ≥ (4294967296 : Int))) (j162 true) (
                  Let (IntKind.u64.wrap (x156 * x13)) fun x163 =>
                  Let (IntKind.u64.wrap ((4294967296 : Int) * x155)) fun x164 =>
                  Let (IntKind.u64.wrap (x164 + x20)) fun x165 =>
                  j162 (decide (x163 > x165)))
              ) (fun (x161 : Bool) =>
                Br x161 (
                  Let (IntKind.u64.wrap (x156 - (1 : Int))) fun x166 =>
                  Let (IntKind.u64.wrap (x155 + x12)) fun x167 =>
                  Br (decide (x167 ≥ (4294967296 : Int))) (j139 x166) (
                    next157 x167 x166)) (
                  j139 x156)))
          ) (fun (x138 : Int) =>
            Let (IntKind.u64.wrap (x59 * (4294967296 : Int))) fun x175 =>
            Let (IntKind.u64.wrap (x175 + x138)) fun x176 =>
            Let (IntKind.u64.wrap (x99 * (4294967296 : Int))) fun x177 =>
            Let (IntKind.u64.wrap (x177 + x20)) fun x178 =>
            Let (IntKind.u64.wrap (x138 * x11)) fun x179 =>
            Let (IntKind.u64.wrap (x178 - x179)) fun x180 =>
            Nn x10 <|
            Let (Int.fdiv x180 (2 ^ (min (Int.toNat x10) 64))) fun x181 =>
            Q (x176, x181))))))
theorem walk_math_bits_Div64 {x1 : Int} {x2 : Int} {x3 : Int} {r : Int × Int} (h : W_math_bits_Div64 x1 x2 x3 (fun r' => r' = r)) : Ev_math_bits_Div64 x1 x2 x3 r := by
  unfold W_math_bits_Div64 at h
  refine AFn.intro' (L := [(0, .dat (.v (.int .u64 x1))), (1, .dat (.v (.int .u64 x2))), (2, .dat (.v (.int .u64 x3)))]) tabOk Tryd.func20 rfl rfl Tryd.ntmps20 rfl rfl rfl ?_
  refine AWp.seq ?_
  refine AWp.regionN (fun _ => false) rfl ?_
  refine pI rfl rfl rfl ?_
  refine pI rfl rfl rfl ?_
  refine AOps.done ?_
  refine AWp.seq ?_
  refine AWp.seq ?_
  refine AWp.regionN (fun _ => false) rfl ?_
  refine pI rfl rfl rfl ?_
  refine pB rfl rfl rfl ?_
  refine AOps.done ?_
  refine AWp.cond rfl (fun e => ?_) (fun e => ?_)
  · replace h := h.1 e
    exact h.elim
  · replace h := h.2 e
    refine AWp.skip ?_
    refine AWp.seq ?_
    refine AWp.seq ?_
    refine AWp.regionN (fun _ => false) rfl ?_
    refine pI rfl rfl rfl ?_
    refine pI rfl rfl rfl ?_
    refine pB rfl rfl rfl ?_
    refine AOps.done ?_
    refine AWp.cond rfl (fun e => ?_) (fun e => ?_)
    · replace h := h.1 e
      exact h.elim
    · replace h := h.2 e
      refine AWp.skip ?_
      refine AWp.seq ?_
      refine AWp.seq ?_
      refine AWp.regionN (fun _ => false) rfl ?_
      refine pI rfl rfl rfl ?_
      refine pB rfl rfl rfl ?_
      refine AOps.done ?_
      refine AWp.cond rfl (fun e => ?_) (fun e => ?_)
      · replace h := h.1 e
        refine AWp.seq ?_
        refine AWp.regionD (fun _ => false) mixed (by decide +kernel) rfl ?_
        refine pI rfl rfl rfl ?_
        refine pI rfl rfl rfl ?_
        obtain ⟨hq, h⟩ := h
        obtain ⟨x6, ex6, h⟩ := h.get
        refine AOps.q rfl rfl rfl rfl rfl (rbin_quo hq) ex6 ?_
        refine pI rfl rfl rfl ?_
        refine pI rfl rfl rfl ?_
        obtain ⟨hq, h⟩ := h
        obtain ⟨x7, ex7, h⟩ := h.get
        refine AOps.q rfl rfl rfl rfl rfl (rbin_rem hq) ex7 ?_
        refine pI rfl rfl rfl ?_
        refine pI rfl rfl rfl ?_
        refine AOps.done ?_
        refine AWp.ret ?_
        subst h
        exact ⟨_, rfl, rfl⟩
      · replace h := h.2 e
        refine AWp.skip ?_
        refine AWp.seq ?_
        refine AWp.regionN (fun _ => false) rfl ?_
        refine pI rfl rfl rfl ?_
        obtain ⟨x8, hc9, h⟩ := h
        refine AOps.call hc9 rfl rfl rfl ⟨.inl rfl, trivial⟩ ?_
        obtain ⟨x10, ex10, h⟩ := h.get
        refine AOps.i tabOk rfl rfl rfl ex10 ?_
        refine pI rfl rfl rfl ?_
        refine AOps.done ?_
        refine AWp.seq ?_
        refine AWp.regionN (fun _ => false) rfl ?_
        refine pI rfl rfl rfl ?_
        refine pI rfl rfl rfl ?_
        obtain ⟨hq, h⟩ := h
        obtain ⟨x11, ex11, h⟩ := h.get
        refine AOps.q rfl rfl rfl rfl rfl (rbin_shl hq) ex11 ?_
        refine pI rfl rfl rfl ?_
        refine AOps.done ?_
        refine AWp.seq ?_
        refine AWp.regionN (fun _ => false) rfl ?_
        refine pI rfl rfl rfl ?_
        obtain ⟨x12, ex12, h⟩ := h.get
        refine AOps.q rfl rfl rfl rfl rfl (rbin_shr (by decide)) ex12 ?_
        refine pI rfl rfl rfl ?_
        refine AOps.done ?_
        refine AWp.seq ?_
        refine AWp.regionN (fun _ => false) rfl ?_
        refine pI rfl rfl rfl ?_
        obtain ⟨x13, ex13, h⟩ := h.get
        refine AOps.i tabOk rfl rfl rfl ex13 ?_
        refine pI rfl rfl rfl ?_
        refine AOps.done ?_
        refine AWp.seq ?_
        refine AWp.regionN (fun _ => false) rfl ?_
        refine pI rfl rfl rfl ?_
        refine pI rfl rfl rfl ?_
        obtain ⟨hq, h⟩ := h
        obtain ⟨x14, ex14, h⟩ := h.get
        refine AOps.q rfl rfl rfl rfl rfl (rbin_shl hq) ex14 ?_
        refine pI rfl rfl rfl ?_
        refine pI rfl rfl rfl ?_
        obtain ⟨x15, ex15, h⟩ := h.get
        refine AOps.i tabOk rfl rfl rfl ex15 ?_
        obtain ⟨hq, h⟩ := h
        obtain ⟨x16, ex16, h⟩ := h.get
        refine AOps.q rfl rfl rfl rfl rfl (rbin_shr hq) ex16 ?_
        obtain ⟨x17, ex17, h⟩ := h.get
        refine AOps.i tabOk rfl rfl rfl ex17 ?_
        refine pI rfl rfl rfl ?_
        refine AOps.done ?_
        refine AWp.seq ?_
        refine AWp.regionN (fun _ => false) rfl ?_
        refine pI rfl rfl rfl ?_
        refine pI rfl rfl rfl ?_
        obtain ⟨hq, h⟩ := h
        obtain ⟨x18, ex18, h⟩ := h.get
        refine AOps.q rfl rfl rfl rfl rfl (rbin_shl hq) ex18 ?_
        refine pI rfl rfl rfl ?_
        refine AOps.done ?_
        refine AWp.seq ?_
        refine AWp.regionN (fun _ => false) rfl ?_
        refine pI rfl rfl rfl ?_
        obtain ⟨x19, ex19, h⟩ := h.get
        refine AOps.q rfl rfl rfl rfl rfl (rbin_shr (by decide)) ex19 ?_
        refine pI rfl rfl rfl ?_
        refine AOps.done ?_
        refine AWp.seq ?_
        refine AWp.regionN (fun _ => false) rfl ?_
        refine pI rfl rfl rfl ?_
        obtain ⟨x20, ex20, h⟩ := h.get
        refine AOps.i tabOk rfl rfl rfl ex20 ?_
        refine pI rfl rfl rfl ?_
        refine AOps.done ?_
        refine AWp.seq ?_
        refine AWp.regionN (fun _ => false) rfl ?_
        refine pI rfl rfl rfl ?_
        refine pI rfl rfl rfl ?_
        obtain ⟨hq, h⟩ := h
        obtain ⟨x21, ex21, h⟩ := h.get
        refine AOps.q rfl rfl rfl rfl rfl (rbin_quo hq) ex21 ?_
        refine pI rfl rfl rfl ?_
        refine AOps.done ?_
        refine AWp.seq ?_
        refine AWp.regionN (fun _ => false) rfl ?_
        refine pI rfl rfl rfl ?_
        refine pI rfl rfl rfl ?_
        refine pI rfl rfl rfl ?_
        obtain ⟨x22, ex22, h⟩ := h.get
        refine AOps.i tabOk rfl rfl rfl ex22 ?_
        obtain ⟨x23, ex23, h⟩ := h.get
        refine AOps.i tabOk rfl rfl rfl ex23 ?_
        refine pI rfl rfl rfl ?_
        refine AOps.done ?_
        refine AWp.seq ?_
        obtain ⟨J185, hj186, hk187⟩ := h
        refine AWp.cutK (I := fun p : Int => mkSt [(2, .dat (.v (.int .u64 x11))), (8, .dat (.v (.int .u64 x10))), (9, .dat (.v (.int .u64 x12))), (10, .dat (.v (.int .u64 x13))), (11, .dat (.v (.int .u64 x17))), (13, .dat (.v (.int .u64 x19))), (14, .dat (.v (.int .u64 x20))), (15, .dat (.v (.int .u64 p)))] []) (Inv := fun p : Int => J185 p) ?_ (fun p hp => ?_)
        · have h := hj186
          refine AWp.block ?_
          obtain ⟨I92, x93, hz94, hr95⟩ := h
          refine AWp.loop (I := fun p : Int × Int => mkSt [(2, .dat (.v (.int .u64 x11))), (8, .dat (.v (.int .u64 x10))), (9, .dat (.v (.int .u64 x12))), (10, .dat (.v (.int .u64 x13))), (11, .dat (.v (.int .u64 x17))), (13, .dat (.v (.int .u64 x19))), (14, .dat (.v (.int .u64 x20))), (15, .dat (.v (.int .u64 p.1))), (16, .dat (.v (.int .u64 p.2)))] []) (Inv := fun p => I92 p.1 p.2) (μ := fun p => x93 p.1 p.2) (x0 := ⟨x21, x23⟩) hz94 (Sub.list (fun i => i) rfl rfl ⟨rfl, rfl, rfl, rfl, rfl, rfl, rfl, rfl, rfl, trivial⟩ trivial) (fun p hp => ?_)
          obtain ⟨x76, x77⟩ := p
          have h := hr95 x76 x77 hp
          refine AWp.seq ?_
          refine AWp.seq ?_
          obtain ⟨J89, hj90, hk91⟩ := h
          refine AWp.cutK (I := fun p : Bool => mkSt [(2, .dat (.v (.int .u64 x11))), (8, .dat (.v (.int .u64 x10))), (9, .dat (.v (.int .u64 x12))), (10, .dat (.v (.int .u64 x13))), (11, .dat (.v (.int .u64 x17))), (13, .dat (.v (.int .u64 x19))), (14, .dat (.v (.int .u64 x20))), (15, .dat (.v (.int .u64 x76))), (16, .dat (.v (.int .u64 x77))), (78, .dat (.v (.bool p)))] []) (Inv := fun p : Bool => J89 p) ?_ (fun p hp => ?_)
          · have h := hj90
            refine AWp.regionN (fun _ => false) rfl ?_
            refine pI rfl rfl rfl ?_
            refine pB rfl rfl rfl ?_
            refine pB rfl rfl rfl ?_
            refine AOps.splitB 69 rfl (fun e => ?_) (fun e => ?_)
            · replace h := h.1 e
              refine AOps.off rfl rfl ?_
              refine AOps.off rfl rfl ?_
              refine AOps.off rfl rfl ?_
              refine AOps.off rfl rfl ?_
              refine AOps.off rfl rfl ?_
              refine AOps.off rfl rfl ?_
              refine AOps.off rfl rfl ?_
              refine AOps.off rfl rfl ?_
              refine pB rfl rfl rfl ?_
              refine AOps.done ?_
              exact ⟨true, h, (Sub.list (fun i => i) rfl rfl ⟨rfl, rfl, rfl, rfl, rfl, rfl, rfl, rfl, rfl, rfl, trivial⟩ trivial)⟩
            · replace h := h.2 e
              refine pI rfl rfl rfl ?_
              refine pI rfl rfl rfl ?_
              obtain ⟨x84, ex84, h⟩ := h.get
              refine AOps.i tabOk rfl rfl rfl ex84 ?_
              refine pI rfl rfl rfl ?_
              obtain ⟨x85, ex85, h⟩ := h.get
              refine AOps.i tabOk rfl rfl rfl ex85 ?_
              refine pI rfl rfl rfl ?_
              obtain ⟨x86, ex86, h⟩ := h.get
              refine AOps.i tabOk rfl rfl rfl ex86 ?_
              refine pB rfl rfl rfl ?_
              refine pB rfl rfl rfl ?_
              refine AOps.done ?_
              exact ⟨(decide (x84 > x86)), h, (Sub.list (fun i => i) rfl rfl ⟨rfl, rfl, rfl, rfl, rfl, rfl, rfl, rfl, rfl, rfl, trivial⟩ trivial)⟩
          · have h := hk91 p hp
            revert h; clear hp; generalize p = x82; intro h
            refine AWp.cond rfl (fun e => ?_) (fun e => ?_)
            · replace h := h.1 e
              refine AWp.skip ?_
              refine AWp.block ?_
              refine AWp.seq ?_
              refine AWp.regionN (fun _ => false) rfl ?_
              refine pI rfl rfl rfl ?_
              obtain ⟨x87, ex87, h⟩ := h.get
              refine AOps.i tabOk rfl rfl rfl ex87 ?_
              refine pI rfl rfl rfl ?_
              refine AOps.done ?_
              refine AWp.seq ?_
              refine AWp.regionN (fun _ => false) rfl ?_
              refine pI rfl rfl rfl ?_
              refine pI rfl rfl rfl ?_
              obtain ⟨x88, ex88, h⟩ := h.get
              refine AOps.i tabOk rfl rfl rfl ex88 ?_
              refine pI rfl rfl rfl ?_
              refine AOps.done ?_
              refine AWp.seq ?_
              refine AWp.regionN (fun _ => false) rfl ?_
              refine pI rfl rfl rfl ?_
              refine pB rfl rfl rfl ?_
              refine AOps.done ?_
              refine AWp.cond rfl (fun e => ?_) (fun e => ?_)
              · replace h := h.1 e
                refine AWp.exit ?_
                exact ⟨x87, h, (Sub.list (fun i => i) rfl rfl ⟨rfl, rfl, rfl, rfl, rfl, rfl, rfl, rfl, trivial⟩ trivial)⟩
              · replace h := h.2 e
                refine AWp.skip ?_
                exact ⟨⟨x87, x88⟩, h.1, h.2, (Sub.list (fun i => i) rfl rfl ⟨rfl, rfl, rfl, rfl, rfl, rfl, rfl, rfl, rfl, trivial⟩ trivial)⟩
            · replace h := h.2 e
              refine AWp.exit ?_
              exact ⟨x76, h, (Sub.list (fun i => i) rfl rfl ⟨rfl, rfl, rfl, rfl, rfl, rfl, rfl, rfl, trivial⟩ trivial)⟩
        · have h := hk187 p hp
          revert h; clear hp; generalize p = x59; intro h
          refine AWp.seq ?_
          refine AWp.regionN (fun _ => false) rfl ?_
          refine pI rfl rfl rfl ?_
          obtain ⟨x96, ex96, h⟩ := h.get
          refine AOps.i tabOk rfl rfl rfl ex96 ?_
          refine pI rfl rfl rfl ?_
          obtain ⟨x97, ex97, h⟩ := h.get
          refine AOps.i tabOk rfl rfl rfl ex97 ?_
          refine pI rfl rfl rfl ?_
          refine pI rfl rfl rfl ?_
          obtain ⟨x98, ex98, h⟩ := h.get
          refine AOps.i tabOk rfl rfl rfl ex98 ?_
          obtain ⟨x99, ex99, h⟩ := h.get
          refine AOps.i tabOk rfl rfl rfl ex99 ?_
          refine pI rfl rfl rfl ?_
          refine AOps.done ?_
          refine AWp.seq ?_
          refine AWp.regionN (fun _ => false) rfl ?_
          refine pI rfl rfl rfl ?_
          refine pI rfl rfl rfl ?_
          obtain ⟨hq, h⟩ := h
          obtain ⟨x100, ex100, h⟩ := h.get
          refine AOps.q rfl rfl rfl rfl rfl (rbin_quo hq) ex100 ?_
          refine pI rfl rfl rfl ?_
          refine AOps.done ?_
          refine AWp.seq ?_
          refine AWp.regionN (fun _ => false) rfl ?_
          refine pI rfl rfl rfl ?_
          refine pI rfl rfl rfl ?_
          refine pI rfl rfl rfl ?_
          obtain ⟨x101, ex101, h⟩ := h.get
          refine AOps.i tabOk rfl rfl rfl ex101 ?_
          obtain ⟨x102, ex102, h⟩ := h.get
          refine AOps.i tabOk rfl rfl rfl ex102 ?_
          refine pI rfl rfl rfl ?_
          refine AOps.done ?_
          refine AWp.seq ?_
          obtain ⟨J182, hj183, hk184⟩ := h
          refine AWp.cutK (I := fun p : Int => mkSt [(2, .dat (.v (.int .u64 x11))), (8, .dat (.v (.int .u64 x10))), (14, .dat (.v (.int .u64 x20))), (15, .dat (.v (.int .u64 x59))), (17, .dat (.v (.int .u64 x99))), (18, .dat (.v (.int .u64 p)))] []) (Inv := fun p : Int => J182 p) ?_ (fun p hp => ?_)
          · have h := hj183
            refine AWp.block ?_
            obtain ⟨I171, x172, hz173, hr174⟩ := h
            refine AWp.loop (I := fun p : Int × Int => mkSt [(2, .dat (.v (.int .u64 x11))), (8, .dat (.v (.int .u64 x10))), (9, .dat (.v (.int .u64 x12))), (10, .dat (.v (.int .u64 x13))), (14, .dat (.v (.int .u64 x20))), (15, .dat (.v (.int .u64 x59))), (16, .dat (.v (.int .u64 p.1))), (17, .dat (.v (.int .u64 x99))), (18, .dat (.v (.int .u64 p.2)))] []) (Inv := fun p => I171 p.1 p.2) (μ := fun p => x172 p.1 p.2) (x0 := ⟨x102, x100⟩) hz173 (Sub.list (fun i => i) rfl rfl ⟨rfl, rfl, rfl, rfl, rfl, rfl, rfl, rfl, rfl, trivial⟩ trivial) (fun p hp => ?_)
            obtain ⟨x155, x156⟩ := p
            have h := hr174 x155 x156 hp
            refine AWp.seq ?_
            refine AWp.seq ?_
            obtain ⟨J168, hj169, hk170⟩ := h
            refine AWp.cutK (I := fun p : Bool => mkSt [(2, .dat (.v (.int .u64 x11))), (8, .dat (.v (.int .u64 x10))), (9, .dat (.v (.int .u64 x12))), (10, .dat (.v (.int .u64 x13))), (14, .dat (.v (.int .u64 x20))), (15, .dat (.v (.int .u64 x59))), (16, .dat (.v (.int .u64 x155))), (17, .dat (.v (.int .u64 x99))), (18, .dat (.v (.int .u64 x156))), (113, .dat (.v (.bool p)))] []) (Inv := fun p : Bool => J168 p) ?_ (fun p hp => ?_)
            · have h := hj169
              refine AWp.regionN (fun _ => false) rfl ?_
              refine pI rfl rfl rfl ?_
              refine pB rfl rfl rfl ?_
              refine pB rfl rfl rfl ?_
              refine AOps.splitB 104 rfl (fun e => ?_) (fun e => ?_)
              · replace h := h.1 e
                refine AOps.off rfl rfl ?_
                refine AOps.off rfl rfl ?_
                refine AOps.off rfl rfl ?_
                refine AOps.off rfl rfl ?_
                refine AOps.off rfl rfl ?_
                refine AOps.off rfl rfl ?_
                refine AOps.off rfl rfl ?_
                refine AOps.off rfl rfl ?_
                refine pB rfl rfl rfl ?_
                refine AOps.done ?_
                exact ⟨true, h, (Sub.list (fun i => i) rfl rfl ⟨rfl, rfl, rfl, rfl, rfl, rfl, rfl, rfl, rfl, rfl, trivial⟩ trivial)⟩
              · replace h := h.2 e
                refine pI rfl rfl rfl ?_
                refine pI rfl rfl rfl ?_
                obtain ⟨x163, ex163, h⟩ := h.get
                refine AOps.i tabOk rfl rfl rfl ex163 ?_
                refine pI rfl rfl rfl ?_
                obtain ⟨x164, ex164, h⟩ := h.get
                refine AOps.i tabOk rfl rfl rfl ex164 ?_
                refine pI rfl rfl rfl ?_
                obtain ⟨x165, ex165, h⟩ := h.get
                refine AOps.i tabOk rfl rfl rfl ex165 ?_
                refine pB rfl rfl rfl ?_
                refine pB rfl rfl rfl ?_
                refine AOps.done ?_
                exact ⟨(decide (x163 > x165)), h, (Sub.list (fun i => i) rfl rfl ⟨rfl, rfl, rfl, rfl, rfl, rfl, rfl, rfl, rfl, rfl, trivial⟩ trivial)⟩
            · have h := hk170 p hp
              revert h; clear hp; generalize p = x161; intro h
              refine AWp.cond rfl (fun e => ?_) (fun e => ?_)
              · replace h := h.1 e
                refine AWp.skip ?_
                refine AWp.block ?_
                refine AWp.seq ?_
                refine AWp.regionN (fun _ => false) rfl ?_
                refine pI rfl rfl rfl ?_
                obtain ⟨x166, ex166, h⟩ := h.get
                refine AOps.i tabOk rfl rfl rfl ex166 ?_
                refine pI rfl rfl rfl ?_
                refine AOps.done ?_
                refine AWp.seq ?_
                refine AWp.regionN (fun _ => false) rfl ?_
                refine pI rfl rfl rfl ?_
                refine pI rfl rfl rfl ?_
                obtain ⟨x167, ex167, h⟩ := h.get
                refine AOps.i tabOk rfl rfl rfl ex167 ?_
                refine pI rfl rfl rfl ?_
                refine AOps.done ?_
                refine AWp.seq ?_
                refine AWp.regionN (fun _ => false) rfl ?_
                refine pI rfl rfl rfl ?_
                refine pB rfl rfl rfl ?_
                refine AOps.done ?_
                refine AWp.cond rfl (fun e => ?_) (fun e => ?_)
                · replace h := h.1 e
                  refine AWp.exit ?_
                  exact ⟨x166, h, (Sub.list (fun i => i) rfl rfl ⟨rfl, rfl, rfl, rfl, rfl, rfl, trivial⟩ trivial)⟩
                · replace h := h.2 e
                  refine AWp.skip ?_
                  exact ⟨⟨x167, x166⟩, h.1, h.2, (Sub.list (fun i => i) rfl rfl ⟨rfl, rfl, rfl, rfl, rfl, rfl, rfl, rfl, rfl, trivial⟩ trivial)⟩
              · replace h := h.2 e
                refine AWp.exit ?_
                exact ⟨x156, h, (Sub.list (fun i => i) rfl rfl ⟨rfl, rfl, rfl, rfl, rfl, rfl, trivial⟩ trivial)⟩
          · have h := hk184 p hp
            revert h; clear hp; generalize p = x138; intro h
            refine AWp.seq ?_
            refine AWp.regionN (fun _ => false) rfl ?_
            refine pI rfl rfl rfl ?_
            obtain ⟨x175, ex175, h⟩ := h.get
            refine AOps.i tabOk rfl rfl rfl ex175 ?_
            refine pI rfl rfl rfl ?_
            obtain ⟨x176, ex176, h⟩ := h.get
            refine AOps.i tabOk rfl rfl rfl ex176 ?_
            refine pI rfl rfl rfl ?_
            obtain ⟨x177, ex177, h⟩ := h.get
            refine AOps.i tabOk rfl rfl rfl ex177 ?_
            refine pI rfl rfl rfl ?_
            obtain ⟨x178, ex178, h⟩ := h.get
            refine AOps.i tabOk rfl rfl rfl ex178 ?_
            refine pI rfl rfl rfl ?_
            refine pI rfl rfl rfl ?_
            obtain ⟨x179, ex179, h⟩ := h.get
            refine AOps.i tabOk rfl rfl rfl ex179 ?_
            obtain ⟨x180, ex180, h⟩ := h.get
            refine AOps.i tabOk rfl rfl rfl ex180 ?_
            refine pI rfl rfl rfl ?_
            obtain ⟨hq, h⟩ := h
            obtain ⟨x181, ex181, h⟩ := h.get
            refine AOps.q rfl rfl rfl rfl rfl (rbin_shr hq) ex181 ?_
            refine pI rfl rfl rfl ?_
            refine pI rfl rfl rfl ?_
            refine AOps.done ?_
            refine AWp.ret ?_
            subst h
            exact ⟨_, rfl, rfl⟩
def W_math_bits_LeadingZeros64 (x1 : Int) (Q : Int → Prop) : Prop :=
  Call (Ev_math_bits_Len64 x1) fun x2 =>
  Let (IntKind.i64.wrap ((64 : Int) - x2)) fun x4 =>
  Q x4
theorem walk_math_bits_LeadingZeros64 {x1 : Int} {r : Int} (h : W_math_bits_LeadingZeros64 x1 (fun r' => r' = r)) : Ev_math_bits_LeadingZeros64 x1 r := by
  unfold W_math_bits_LeadingZeros64 at h
  refine AFn.intro' (L := [(0, .dat (.v (.int .u64 x1)))]) tabOk Tryd.func19 rfl rfl Tryd.ntmps19 rfl rfl rfl ?_
  refine AWp.seq ?_
  refine AWp.regionN (fun _ => false) rfl ?_
  refine pI rfl rfl rfl ?_
  refine AOps.done ?_
  refine AWp.seq ?_
  refine AWp.regionN (fun _ => false) rfl ?_
  refine pI rfl rfl rfl ?_
  obtain ⟨x2, hc3, h⟩ := h
  refine AOps.call hc3 rfl rfl rfl ⟨.inl rfl, trivial⟩ ?_
  obtain ⟨x4, ex4, h⟩ := h.get
  refine AOps.i tabOk rfl rfl rfl ex4 ?_
  refine pI rfl rfl rfl ?_
  refine AOps.done ?_
  refine AWp.ret ?_
  subst h
  exact ⟨_, rfl, rfl⟩
def W_math_bits_Len64 (x1 : Int) (Q : Int → Prop) : Prop :=
  Join2 (fun j5 =>
    Br (decide (x1 ≥ (4294967296 : Int))) (
      Let (Int.fdiv x1 (2 ^ 32)) fun x6 =>
      j5 x6 (32 : Int)) (
      j5 x1 (0 : Int))
  ) (fun (x3 : Int) (n4 : Int) =>
    Join2 (fun j11 =>
      Br (decide (x3 ≥ (65536 : Int))) (
        Let (Int.fdiv x3 (2 ^ 16)) fun x12 =>
        Let (IntKind.i64.wrap (n4 + (16 : Int))) fun x13 =>
        j11 x12 x13) (
        j11 x3 n4)
    ) (fun (x9 : Int) (n10 : Int) =>
      Join2 (fun j18 =>
        Br (decide (x9 ≥ (256 : Int))) (
          Let (Int.fdiv x9 (2 ^ 8)) fun x19 =>
          Let (IntKind.i64.wrap (n10 + (8 : Int))) fun x20 =>
          j18 x19 x20) (
          j18 x9 n10)
      ) (fun (x16 : Int) (n17 : Int) =>
        Let (IntKind.u8.wrap x16) fun x21 =>
        AtS (ByteArray.mk #[0, 1, 2, 2, 3, 3, 3, 3, 4, 4, 4, 4, 4, 4, 4, 4, 5, 5, 5, 5, 5, 5, 5, 5, 5, 5, 5, 5, 5, 5, 5, 5, 6, 6, 6, 6, 6, 6, 6, 6, 6, 6, 6, 6, 6, 6, 6, 6, 6, 6, 6, 6, 6, 6, 6, 6, 6, 6, 6, 6, 6, 6, 6, 6, 7, 7, 7, 7, 7, 7, 7, 7, 7, 7, 7, 7, 7, 7, 7, 7, 7, 7, 7, 7, 7, 7, 7, 7, 7, 7, 7, 7, 7, 7, 7, 7, 7, 7, 7, 7, 7, 7, 7, 7, 7, 7, 7, 7, 7, 7, 7, 7, 7, 7, 7, 7, 7, 7, 7, 7, 7, 7, 7, 7, 7, 7, 7, 7, 8, 8, 8, 8, 8, 8, 8, 8, 8, 8, 8, 8, 8, 8, 8, 8, 8, 8, 8, 8, 8, 8, 8, 8, 8, 8, 8, 8, 8, 8, 8, 8, 8, 8, 8, 8, 8, 8, 8, 8, 8, 8, 8, 8, 8, 8, 8, 8, 8, 8, 8, 8, 8, 8, 8, 8, 8, 8, 8, 8, 8, 8, 8, 8, 8, 8, 8, 8, 8, 8, 8, 8, 8, 8, 8, 8, 8, 8, 8, 8, 8, 8, 8, 8, 8, 8, 8, 8, 8, 8, 8, 8, 8, 8, 8, 8, 8, 8, 8, 8, 8, 8, 8, 8, 8, 8, 8, 8, 8, 8, 8, 8, 8, 8, 8, 8, 8, 8, 8, 8, 8, 8, 8, 8, 8, 8, 8, 8]) x21 fun x23 =>
        Let (IntKind.i64.wrap x23) fun x25 =>
        Let (IntKind.i64.wrap (n17 + x25)) fun x26 =>
        Q x26)))
theorem walk_math_bits_Len64 {x1 : Int} {r : Int} (h : W_math_bits_Len64 x1 (fun r' => r' = r)) : Ev_math_bits_Len64 x1 r := by
  unfold W_math_bits_Len64 at h
  refine AFn.intro' (L := [(0, .dat (.v (.int .u64 x1)))]) tabOk Tryd.func47 rfl rfl Tryd.ntmps47 rfl rfl rfl ?_
  refine AWp.seq ?_
  refine AWp.regionN (fun _ => false) rfl ?_
  refine pI rfl rfl rfl ?_
  refine AOps.done ?_
  refine AWp.seq ?_
  refine AWp.seq ?_
  refine AWp.regionN (fun _ => false) rfl ?_
  refine pI rfl rfl rfl ?_
  refine pB rfl rfl rfl ?_
  refine AOps.done ?_
  obtain ⟨J33, hj34, hk35⟩ := h
  refine AWp.cutK (I := fun p : Int × Int => mkSt [(0, .dat (.v (.int .u64 p.1))), (2, .dat (.v (.int .i64 p.2)))] []) (Inv := fun p : Int × Int => J33 p.1 p.2) ?_ (fun p hp => ?_)
  · have h := hj34
    refine AWp.cond rfl (fun e => ?_) (fun e => ?_)
    · replace h := h.1 e
      refine AWp.seq ?_
      refine AWp.regionN (fun _ => false) rfl ?_
      refine pI rfl rfl rfl ?_
      obtain ⟨x6, ex6, h⟩ := h.get
      refine AOps.q rfl rfl rfl rfl rfl (rbin_shr (by decide)) ex6 ?_
      refine pI rfl rfl rfl ?_
      refine AOps.done ?_
      refine AWp.regionN (fun _ => false) rfl ?_
      refine pI rfl rfl rfl ?_
      refine AOps.done ?_
      exact ⟨⟨x6, (32 : Int)⟩, h, (Sub.list (fun i => i) rfl rfl ⟨rfl, rfl, trivial⟩ trivial)⟩
    · replace h := h.2 e
      refine AWp.skip ?_
      exact ⟨⟨x1, (0 : Int)⟩, h, (Sub.list (fun i => i) rfl rfl ⟨rfl, rfl, trivial⟩ trivial)⟩
  · obtain ⟨x3, n4⟩ := p
    have h := hk35 x3 n4 hp
    refine AWp.seq ?_
    refine AWp.seq ?_
    refine AWp.regionN (fun _ => false) rfl ?_
    refine pI rfl rfl rfl ?_
    refine pB rfl rfl rfl ?_
    refine AOps.done ?_
    obtain ⟨J30, hj31, hk32⟩ := h
    refine AWp.cutK (I := fun p : Int × Int => mkSt [(0, .dat (.v (.int .u64 p.1))), (2, .dat (.v (.int .i64 p.2)))] []) (Inv := fun p : Int × Int => J30 p.1 p.2) ?_ (fun p hp => ?_)
    · have h := hj31
      refine AWp.cond rfl (fun e => ?_) (fun e => ?_)
      · replace h := h.1 e
        refine AWp.seq ?_
        refine AWp.regionN (fun _ => false) rfl ?_
        refine pI rfl rfl rfl ?_
        obtain ⟨x12, ex12, h⟩ := h.get
        refine AOps.q rfl rfl rfl rfl rfl (rbin_shr (by decide)) ex12 ?_
        refine pI rfl rfl rfl ?_
        refine AOps.done ?_
        refine AWp.regionN (fun _ => false) rfl ?_
        refine pI rfl rfl rfl ?_
        obtain ⟨x13, ex13, h⟩ := h.get
        refine AOps.i tabOk rfl rfl rfl ex13 ?_
        refine pI rfl rfl rfl ?_
        refine AOps.done ?_
        exact ⟨⟨x12, x13⟩, h, (Sub.list (fun i => i) rfl rfl ⟨rfl, rfl, trivial⟩ trivial)⟩
      · replace h := h.2 e
        refine AWp.skip ?_
        exact ⟨⟨x3, n4⟩, h, (Sub.list (fun i => i) rfl rfl ⟨rfl, rfl, trivial⟩ trivial)⟩
    · obtain ⟨x9, n10⟩ := p
      have h := hk32 x9 n10 hp
      refine AWp.seq ?_
      refine AWp.seq ?_
      refine AWp.regionN (fun _ => false) rfl ?_
      refine pI rfl rfl rfl ?_
      refine pB rfl rfl rfl ?_
      refine AOps.done ?_
      obtain ⟨J27, hj28, hk29⟩ := h
      refine AWp.cutK (I := fun p : Int × Int => mkSt [(0, .dat (.v (.int .u64 p.1))), (2, .dat (.v (.int .i64 p.2)))] []) (Inv := fun p : Int × Int => J27 p.1 p.2) ?_ (fun p hp => ?_)
      · have h := hj28
        refine AWp.cond rfl (fun e => ?_) (fun e => ?_)
        · replace h := h.1 e
          refine AWp.seq ?_
          refine AWp.regionN (fun _ => false) rfl ?_
          refine pI rfl rfl rfl ?_
          obtain ⟨x19, ex19, h⟩ := h.get
          refine AOps.q rfl rfl rfl rfl rfl (rbin_shr (by decide)) ex19 ?_
          refine pI rfl rfl rfl ?_
          refine AOps.done ?_
          refine AWp.regionN (fun _ => false) rfl ?_
          refine pI rfl rfl rfl ?_
          obtain ⟨x20, ex20, h⟩ := h.get
          refine AOps.i tabOk rfl rfl rfl ex20 ?_
          refine pI rfl rfl rfl ?_
          refine AOps.done ?_
          exact ⟨⟨x19, x20⟩, h, (Sub.list (fun i => i) rfl rfl ⟨rfl, rfl, trivial⟩ trivial)⟩
        · replace h := h.2 e
          refine AWp.skip ?_
          exact ⟨⟨x9, n10⟩, h, (Sub.list (fun i => i) rfl rfl ⟨rfl, rfl, trivial⟩ trivial)⟩
      · obtain ⟨x16, n17⟩ := p
        have h := hk29 x16 n17 hp
        refine AWp.seq ?_
        refine AWp.regionN (fun _ => false) rfl ?_
        refine pI rfl rfl rfl ?_
        refine pI rfl rfl rfl ?_
        obtain ⟨x21, ex21, h⟩ := h.get
        refine AOps.i tabOk rfl rfl rfl ex21 ?_
        obtain ⟨hi22, x23, hx24, h⟩ := AtS.get h
        refine AOps.sidxE tabOk rfl rfl rfl rfl rfl rfl rfl hi22 hx24 ?_
        obtain ⟨x25, ex25, h⟩ := h.get
        refine AOps.i tabOk rfl rfl rfl ex25 ?_
        obtain ⟨x26, ex26, h⟩ := h.get
        refine AOps.i tabOk rfl rfl rfl ex26 ?_
        refine pI rfl rfl rfl ?_
        refine AOps.done ?_
        refine AWp.ret ?_
        subst h
        exact ⟨_, rfl, rfl⟩
end Go.Sim.YtlglkgineclggaaDoor
