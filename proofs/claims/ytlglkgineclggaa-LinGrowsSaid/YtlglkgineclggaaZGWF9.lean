/- What is proved: functions of the program compute what plain statements tell. -/
import Derived.Test.YtlglkgineclggaaZGWE
import Derived.Test.YtlglkgineclggaaZGFnL
namespace Go.Sim.Ytlglkgineclggaa
open Go.RowKit Go.Proofs Go.Proofs.Try
set_option maxRecDepth 100000
def W_law04_LinGrows (x1 : List (List GIval)) (x2 : List GIval) (Q : Bool → Prop) : Prop :=
  Call (Ev_ref04_Matrix x1) fun x12 =>
  Br (!x12) (Q true) (
    Call (Ev_ref04_Vector x2) fun x14 =>
    Br (!x14) (Q true) (
      At x1 (0 : Int) fun x17 =>
      Br (((x17.length : Nat) : Int) != ((x2.length : Nat) : Int)) (Q true) (
        Loop2 ([] : List (List GIval)) (0 : Int) (fun (x498 : List (List GIval)) (x499 : Int) next500 =>
          Br (decide (x499 < ((x1.length : Nat) : Int))) (
            At x1 x499 fun x579 =>
            Loop2 ([] : List GIval) (0 : Int) (fun (x634 : List GIval) (x635 : Int) next636 =>
              Br (decide (x635 < ((x579.length : Nat) : Int))) (
                At x579 x635 fun x644 =>
                Call (fun x646 : GIval => FVal prog Fn_law04_LinGrows_1 [GIval.enc x644] (GIval.enc x646)) fun x646 =>
                App 16 x634 ([x646]) fun x648 =>
                Let (IntKind.i64.wrap (x635 + (1 : Int))) fun x649 =>
                next636 x648 x649) (
                App 24 x498 ([x634]) fun x650 =>
                Let (IntKind.i64.wrap (x499 + (1 : Int))) fun x651 =>
                next500 x650 x651))) (
            Loop2 ([] : List GIval) (0 : Int) (fun (x709 : List GIval) (x710 : Int) next711 =>
              Br (decide (x710 < ((x2.length : Nat) : Int))) (
                At x2 x710 fun x719 =>
                Call (fun x721 : GIval => FVal prog Fn_law04_LinGrows_1 [GIval.enc x719] (GIval.enc x721)) fun x721 =>
                App 16 x709 ([x721]) fun x723 =>
                Let (IntKind.i64.wrap (x710 + (1 : Int))) fun x724 =>
                next711 x723 x724) (
                Call (Ev_lin_Apply x1 x2) fun x725 =>
                Call (Ev_lin_Apply x498 x709) fun x727 =>
                Call (Ev_lin_One ((x1.length : Nat) : Int)) fun x730 =>
                Call (Ev_lin_Mul x730 x1) fun x732 =>
                Call (Ev_lin_One ((x1.length : Nat) : Int)) fun x735 =>
                Call (Ev_lin_Norm x735) fun x737 =>
                Br (x725.2 != (0 : Int)) (Q false) (
                  Br (x727.2 != (0 : Int)) (Q false) (
                    Br (x732.2 != (0 : Int)) (Q false) (
                      Br (x737.2 != (0 : Int)) (Q false) (
                        Br (FloatKind.f64.format.order x737.1 (4607182418800017408 : Nat) != some .eq) (Q false) (
                          Br (((x725.1.length : Nat) : Int) != ((x727.1.length : Nat) : Int)) (Q false) (
                            Br (((x732.1.length : Nat) : Int) != ((x1.length : Nat) : Int)) (Q false) (
                              Loop1 (0 : Int) (fun (x1917 : Int) next1918 =>
                                Br (decide (x1917 < ((x725.1.length : Nat) : Int))) (
                                  At x727.1 x1917 fun x2113 =>
                                  At x725.1 x1917 fun x2116 =>
                                  Call (Ev_ref02_Inside x2113 x2116) fun x2118 =>
                                  Br (!x2118) (Q false) (
                                    At x1 x1917 fun x2121 =>
                                    Loop1 (0 : Int) (fun (x2212 : Int) next2213 =>
                                      Br (decide (x2212 < ((x2121.length : Nat) : Int))) (
                                        At x1 x1917 fun x2278 =>
                                        Call (Ev_ref04_Vector x2278) fun x2280 =>
                                        Br x2280 (
                                          Call (Ev_law04_hollow x1 x2212) fun x2282 =>
                                          Br (!x2282) (
                                            At x1 x1917 fun x2285 =>
                                            At x2285 x2212 fun x2288 =>
                                            At x732.1 x1917 fun x2291 =>
                                            At x2291 x2212 fun x2294 =>
                                            Call (Ev_ref02_Inside x2288 x2294) fun x2296 =>
                                            Br (!x2296) (Q false) (
                                              Let (IntKind.i64.wrap (x2212 + (1 : Int))) fun x2298 =>
                                              next2213 x2298)) (
                                            Let (IntKind.i64.wrap (x2212 + (1 : Int))) fun x2299 =>
                                            next2213 x2299)) (
                                          Let (IntKind.i64.wrap (x2212 + (1 : Int))) fun x2300 =>
                                          next2213 x2300)) (
                                        Let (IntKind.i64.wrap (x1917 + (1 : Int))) fun x2301 =>
                                        next1918 x2301)))) (
                                  Q true))))))))))))))))
theorem walk_law04_LinGrows {x1 : List (List GIval)} {x2 : List GIval} {r : Bool} (h : W_law04_LinGrows x1 x2 (fun r' => r' = r)) : Ev_law04_LinGrows x1 x2 r := by
  unfold W_law04_LinGrows at h
  refine AFn.intro' (L := [(0, .dat (.sl 34 1 (List.map (eSl 36 2 GIval.enc) x1))), (1, .dat (.sl 36 2 (List.map GIval.enc x2)))]) tabOk Try.func6 rfl rfl Try.ntmps6 rfl rfl rfl ?_
  refine AWp.seq ?_
  refine AWp.regionN (fun _ => false) rfl ?_
  refine pB rfl rfl rfl ?_
  refine AOps.done ?_
  refine AWp.seq ?_
  refine AWp.seq ?_
  refine AWp.regionN (fun _ => false) rfl ?_
  refine pS rfl rfl rfl ?_
  obtain ⟨x12, hc13, h⟩ := h
  refine AOps.call hc13 rfl rfl rfl ⟨.inl rfl, trivial⟩ ?_
  refine pB rfl rfl rfl ?_
  refine pB rfl rfl rfl ?_
  refine AOps.splitB 28 rfl (fun e => ?_) (fun e => ?_)
  · replace h := h.1 e
    refine AOps.off rfl rfl ?_
    refine AOps.off rfl rfl ?_
    refine AOps.off rfl rfl ?_
    refine pB rfl rfl rfl ?_
    refine pB rfl rfl rfl ?_
    refine AOps.off rfl rfl ?_
    refine AOps.off rfl rfl ?_
    refine AOps.off rfl rfl ?_
    refine AOps.off rfl rfl ?_
    refine AOps.off rfl rfl ?_
    refine AOps.off rfl rfl ?_
    refine AOps.off rfl rfl ?_
    refine pB rfl rfl rfl ?_
    refine AOps.done ?_
    refine AWp.condT rfl ?_
    refine AWp.seq ?_
    refine AWp.regionN (fun _ => false) rfl ?_
    refine pB rfl rfl rfl ?_
    refine AOps.done ?_
    refine AWp.ret ?_
    subst h
    exact ⟨_, rfl, rfl⟩
  · replace h := h.2 e
    refine pS rfl rfl rfl ?_
    obtain ⟨x14, hc15, h⟩ := h
    refine AOps.call hc15 rfl rfl rfl ⟨.inl rfl, trivial⟩ ?_
    refine pB rfl rfl rfl ?_
    refine pB rfl rfl rfl ?_
    refine pB rfl rfl rfl ?_
    refine AOps.splitB 33 rfl (fun e => ?_) (fun e => ?_)
    · replace h := h.1 e
      refine AOps.off rfl rfl ?_
      refine AOps.off rfl rfl ?_
      refine AOps.off rfl rfl ?_
      refine AOps.off rfl rfl ?_
      refine AOps.off rfl rfl ?_
      refine AOps.off rfl rfl ?_
      refine AOps.off rfl rfl ?_
      refine pB rfl rfl rfl ?_
      refine AOps.done ?_
      refine AWp.condT rfl ?_
      refine AWp.seq ?_
      refine AWp.regionN (fun _ => false) rfl ?_
      refine pB rfl rfl rfl ?_
      refine AOps.done ?_
      refine AWp.ret ?_
      subst h
      exact ⟨_, rfl, rfl⟩
    · replace h := h.2 e
      refine pS rfl rfl rfl ?_
      obtain ⟨hi16, x17, hx18, h⟩ := h
      refine AOps.idx tabOk (z := .sl 36 2 (List.map GIval.enc x17)) rfl rfl rfl rfl rfl rfl rfl rfl hi16 (map_get hx18) ?_
      refine pS rfl rfl rfl ?_
      refine AOps.i (j := ((x17.length : Nat) : Int)) tabOk rfl rfl rfl (by first | (rw [List.length_map]; done) | rfl) ?_
      refine pS rfl rfl rfl ?_
      refine AOps.i (j := ((x2.length : Nat) : Int)) tabOk rfl rfl rfl (by first | (rw [List.length_map]; done) | rfl) ?_
      refine pB rfl rfl rfl ?_
      refine pB rfl rfl rfl ?_
      refine AOps.done ?_
      refine AWp.cond rfl (fun e => ?_) (fun e => ?_)
      · replace h := h.1 e
        refine AWp.seq ?_
        refine AWp.regionN (fun _ => false) rfl ?_
        refine pB rfl rfl rfl ?_
        refine AOps.done ?_
        refine AWp.ret ?_
        subst h
        exact ⟨_, rfl, rfl⟩
      · replace h := h.2 e
        refine AWp.skip ?_
        refine AWp.seq ?_
        refine AWp.regionN (fun _ => false) rfl ?_
        refine AOps.mv rfl rfl (.inr rfl) rfl ?_
        refine AOps.done ?_
        refine AWp.seq ?_
        refine AWp.regionN (fun _ => false) rfl ?_
        refine AOps.nilown tabOk rfl rfl rfl rfl rfl rfl ?_
        refine AOps.done ?_
        refine AWp.seq ?_
        refine AWp.seq ?_
        refine AWp.regionN (fun _ => false) rfl ?_
        refine pS rfl rfl rfl ?_
        refine AOps.i (j := ((x1.length : Nat) : Int)) tabOk rfl rfl rfl (by first | (rw [List.length_map]; done) | rfl) ?_
        refine pI rfl rfl rfl ?_
        refine AOps.done ?_
        refine AWp.block ?_
        obtain ⟨I2314, x2315, hz2316, hr2317⟩ := h
        refine AWp.loop (I := fun p : (List (List GIval)) × Int => mkSt [(0, .dat (.sl 34 1 (List.map (eSl 36 2 GIval.enc) x1))), (1, .dat (.sl 36 2 (List.map GIval.enc x2))), (5, .dat (Fn_law04_LinGrows_1)), (6, .oref 1006), (42, .dat (.sl 34 1 (List.map (eSl 36 2 GIval.enc) x1))), (43, .dat (.v (.int .i64 ((x1.length : Nat) : Int)))), (44, .dat (.v (.int .i64 p.2)))] [(1006, .row 34 1 (List.map (eSl 36 2 GIval.enc) p.1))]) (Inv := fun p => I2314 p.1 p.2) (μ := fun p => x2315 p.1 p.2) (x0 := ⟨([] : List (List GIval)), (0 : Int)⟩) hz2316 (Sub.list (fun i => (if Nat.beq i 1006 then 6 else i)) rfl rfl ⟨rfl, rfl, rfl, rfl, rfl, rfl, rfl, trivial⟩ ⟨rfl, trivial⟩) (fun p hp => ?_)
        obtain ⟨x498, x499⟩ := p
        have h := hr2317 x498 x499 hp
        refine AWp.seq ?_
        refine AWp.regionN (fun _ => false) rfl ?_
        refine pW rfl rfl rfl ?_
        refine AOps.done ?_
        refine AWp.seq ?_
        refine AWp.cond rfl (fun e => ?_) (fun e => ?_)
        · replace h := h.1 e
          refine AWp.skip ?_
          refine AWp.seq ?_
          refine AWp.block ?_
          refine AWp.seq ?_
          refine AWp.regionN (fun _ => false) rfl ?_
          obtain ⟨hi578, x579, hx580, h⟩ := h
          refine AOps.idx tabOk (z := .sl 36 2 (List.map GIval.enc x579)) rfl rfl rfl rfl rfl rfl rfl rfl hi578 (map_get hx580) ?_
          refine pS rfl rfl rfl ?_
          refine pS rfl rfl rfl ?_
          refine AOps.done ?_
          refine AWp.seq ?_
          refine AWp.regionN (fun _ => false) rfl ?_
          refine AOps.nilown tabOk rfl rfl rfl rfl rfl rfl ?_
          refine AOps.done ?_
          refine AWp.seq ?_
          refine AWp.seq ?_
          refine AWp.regionN (fun _ => false) rfl ?_
          refine pS rfl rfl rfl ?_
          refine AOps.i (j := ((x579.length : Nat) : Int)) tabOk rfl rfl rfl (by first | (rw [List.length_map]; done) | rfl) ?_
          refine pI rfl rfl rfl ?_
          refine AOps.done ?_
          refine AWp.block ?_
          obtain ⟨I652, x653, hz654, hr655⟩ := h
          refine AWp.loop (I := fun p : (List GIval) × Int => mkSt [(0, .dat (.sl 34 1 (List.map (eSl 36 2 GIval.enc) x1))), (1, .dat (.sl 36 2 (List.map GIval.enc x2))), (5, .dat (Fn_law04_LinGrows_1)), (6, .oref 1006), (9, .oref 1009), (42, .dat (.sl 34 1 (List.map (eSl 36 2 GIval.enc) x1))), (43, .dat (.v (.int .i64 ((x1.length : Nat) : Int)))), (44, .dat (.v (.int .i64 x499))), (48, .dat (.sl 36 2 (List.map GIval.enc x579))), (49, .dat (.v (.int .i64 ((x579.length : Nat) : Int)))), (50, .dat (.v (.int .i64 p.2)))] [(1006, .row 34 1 (List.map (eSl 36 2 GIval.enc) x498)), (1009, .row 36 2 (List.map GIval.enc p.1))]) (Inv := fun p => I652 p.1 p.2) (μ := fun p => x653 p.1 p.2) (x0 := ⟨([] : List GIval), (0 : Int)⟩) hz654 (Sub.list (fun i => (if Nat.beq i 1009 then 9 else i)) rfl rfl ⟨rfl, rfl, rfl, rfl, rfl, rfl, rfl, rfl, rfl, rfl, rfl, trivial⟩ ⟨rfl, rfl, trivial⟩) (fun p hp => ?_)
          obtain ⟨x634, x635⟩ := p
          have h := hr655 x634 x635 hp
          refine AWp.seq ?_
          refine AWp.regionN (fun _ => false) rfl ?_
          refine pW rfl rfl rfl ?_
          refine AOps.done ?_
          refine AWp.seq ?_
          refine AWp.cond rfl (fun e => ?_) (fun e => ?_)
          · replace h := h.1 e
            refine AWp.skip ?_
            refine AWp.seq ?_
            refine AWp.block ?_
            refine AWp.seq ?_
            refine AWp.regionN (fun o => writes o) rfl ?_
            obtain ⟨hi643, x644, hx645, h⟩ := h
            refine AOps.idx tabOk (z := GIval.enc x644) rfl rfl rfl rfl rfl rfl rfl rfl hi643 (map_get hx645) ?_
            refine pT rfl rfl rfl ?_
            refine AOps.alloc tabOk rfl rfl rfl rfl rfl ?_
            refine AOps.store tabOk (v := .dat (.st _ _)) rfl rfl rfl rfl rfl rfl rfl rfl rfl rfl rfl rfl rfl ?_
            refine AOps.done ?_
            refine AWp.regionN (fun o => writes o) rfl ?_
            refine pO rfl rfl rfl ?_
            refine AOps.mv rfl rfl (.inl rfl) rfl ?_
            refine pT rfl rfl rfl ?_
            obtain ⟨x646, hc647, h⟩ := h
            refine AOps.callv hc647 rfl rfl rfl rfl ⟨.inl rfl, trivial⟩ ?_
            refine AOps.lit tabOk (ys := [GIval.enc x646]) rfl rfl rfl rfl rfl rfl ?_
            obtain ⟨h1, h2, x648, ex648, h⟩ := h.get
            refine AOps.append tabOk rfl rfl rfl rfl rfl rfl rfl rfl rfl rfl rfl (.inl ⟨_, rfl⟩) (app1 h1) (app2 h2) (app3 ex648) ?_
            refine pO rfl rfl rfl ?_
            refine AOps.done ?_
            refine AWp.regionN (fun _ => false) rfl ?_
            obtain ⟨x649, ex649, h⟩ := h.get
            refine AOps.i tabOk rfl rfl rfl ex649 ?_
            refine pI rfl rfl rfl ?_
            refine AOps.done ?_
            exact ⟨⟨x648, x649⟩, h.1, h.2, (Sub.list (fun i => (if Nat.beq i 1009 then 59 else i)) rfl rfl ⟨rfl, rfl, rfl, rfl, rfl, rfl, rfl, rfl, rfl, rfl, rfl, trivial⟩ ⟨rfl, rfl, trivial⟩)⟩
          · replace h := h.2 e
            refine AWp.exit ?_
            refine AWp.freeze 9 1009 rfl rfl ?_
            refine AWp.regionN (fun o => writes o) rfl ?_
            refine pO rfl rfl rfl ?_
            refine pS rfl rfl rfl ?_
            refine AOps.lit tabOk (ys := [.sl 36 2 (List.map GIval.enc x634)]) rfl rfl rfl rfl rfl rfl ?_
            obtain ⟨h1, h2, x650, ex650, h⟩ := h.get
            refine AOps.append tabOk rfl rfl rfl rfl rfl rfl rfl rfl rfl rfl rfl (.inl ⟨_, rfl⟩) (app1 h1) (app2 h2) (app3 ex650) ?_
            refine pO rfl rfl rfl ?_
            refine AOps.done ?_
            refine AWp.regionN (fun _ => false) rfl ?_
            obtain ⟨x651, ex651, h⟩ := h.get
            refine AOps.i tabOk rfl rfl rfl ex651 ?_
            refine pI rfl rfl rfl ?_
            refine AOps.done ?_
            exact ⟨⟨x650, x651⟩, h.1, h.2, (Sub.list (fun i => (if Nat.beq i 1006 then 64 else i)) rfl rfl ⟨rfl, rfl, rfl, rfl, rfl, rfl, rfl, trivial⟩ ⟨rfl, trivial⟩)⟩
        · replace h := h.2 e
          refine AWp.exit ?_
          refine AWp.seq ?_
          refine AWp.regionN (fun _ => false) rfl ?_
          refine AOps.nilown tabOk rfl rfl rfl rfl rfl rfl ?_
          refine AOps.done ?_
          refine AWp.seq ?_
          refine AWp.seq ?_
          refine AWp.regionN (fun _ => false) rfl ?_
          refine pS rfl rfl rfl ?_
          refine AOps.i (j := ((x2.length : Nat) : Int)) tabOk rfl rfl rfl (by first | (rw [List.length_map]; done) | rfl) ?_
          refine pI rfl rfl rfl ?_
          refine AOps.done ?_
          refine AWp.block ?_
          obtain ⟨I2310, x2311, hz2312, hr2313⟩ := h
          refine AWp.loop (I := fun p : (List GIval) × Int => mkSt [(0, .dat (.sl 34 1 (List.map (eSl 36 2 GIval.enc) x1))), (1, .dat (.sl 36 2 (List.map GIval.enc x2))), (5, .dat (Fn_law04_LinGrows_1)), (6, .oref 1006), (12, .oref 1012), (66, .dat (.sl 36 2 (List.map GIval.enc x2))), (67, .dat (.v (.int .i64 ((x2.length : Nat) : Int)))), (68, .dat (.v (.int .i64 p.2)))] [(1006, .row 34 1 (List.map (eSl 36 2 GIval.enc) x498)), (1012, .row 36 2 (List.map GIval.enc p.1))]) (Inv := fun p => I2310 p.1 p.2) (μ := fun p => x2311 p.1 p.2) (x0 := ⟨([] : List GIval), (0 : Int)⟩) hz2312 (Sub.list (fun i => (if Nat.beq i 1012 then 12 else i)) rfl rfl ⟨rfl, rfl, rfl, rfl, rfl, rfl, rfl, rfl, trivial⟩ ⟨rfl, rfl, trivial⟩) (fun p hp => ?_)
          obtain ⟨x709, x710⟩ := p
          have h := hr2313 x709 x710 hp
          refine AWp.seq ?_
          refine AWp.regionN (fun _ => false) rfl ?_
          refine pW rfl rfl rfl ?_
          refine AOps.done ?_
          refine AWp.seq ?_
          refine AWp.cond rfl (fun e => ?_) (fun e => ?_)
          · replace h := h.1 e
            refine AWp.skip ?_
            refine AWp.seq ?_
            refine AWp.block ?_
            refine AWp.seq ?_
            refine AWp.regionN (fun o => writes o) rfl ?_
            obtain ⟨hi718, x719, hx720, h⟩ := h
            refine AOps.idx tabOk (z := GIval.enc x719) rfl rfl rfl rfl rfl rfl rfl rfl hi718 (map_get hx720) ?_
            refine pT rfl rfl rfl ?_
            refine AOps.alloc tabOk rfl rfl rfl rfl rfl ?_
            refine AOps.store tabOk (v := .dat (.st _ _)) rfl rfl rfl rfl rfl rfl rfl rfl rfl rfl rfl rfl rfl ?_
            refine AOps.done ?_
            refine AWp.regionN (fun o => writes o) rfl ?_
            refine pO rfl rfl rfl ?_
            refine AOps.mv rfl rfl (.inl rfl) rfl ?_
            refine pT rfl rfl rfl ?_
            obtain ⟨x721, hc722, h⟩ := h
            refine AOps.callv hc722 rfl rfl rfl rfl ⟨.inl rfl, trivial⟩ ?_
            refine AOps.lit tabOk (ys := [GIval.enc x721]) rfl rfl rfl rfl rfl rfl ?_
            obtain ⟨h1, h2, x723, ex723, h⟩ := h.get
            refine AOps.append tabOk rfl rfl rfl rfl rfl rfl rfl rfl rfl rfl rfl (.inl ⟨_, rfl⟩) (app1 h1) (app2 h2) (app3 ex723) ?_
            refine pO rfl rfl rfl ?_
            refine AOps.done ?_
            refine AWp.regionN (fun _ => false) rfl ?_
            obtain ⟨x724, ex724, h⟩ := h.get
            refine AOps.i tabOk rfl rfl rfl ex724 ?_
            refine pI rfl rfl rfl ?_
            refine AOps.done ?_
            exact ⟨⟨x723, x724⟩, h.1, h.2, (Sub.list (fun i => (if Nat.beq i 1012 then 77 else i)) rfl rfl ⟨rfl, rfl, rfl, rfl, rfl, rfl, rfl, rfl, trivial⟩ ⟨rfl, rfl, trivial⟩)⟩
          · replace h := h.2 e
            refine AWp.exit ?_
            refine AWp.seq ?_
            refine AWp.regionN (fun _ => false) rfl ?_
            refine pS rfl rfl rfl ?_
            refine pS rfl rfl rfl ?_
            obtain ⟨x725, hc726, h⟩ := h
            refine AOps.call hc726 rfl rfl rfl ⟨.inl rfl, .inl rfl, trivial⟩ ?_
            refine pU rfl rfl rfl ?_
            refine pS rfl rfl rfl ?_
            refine pI rfl rfl rfl ?_
            refine pS rfl rfl rfl ?_
            refine pI rfl rfl rfl ?_
            refine AOps.done ?_
            refine AWp.seq ?_
            refine AWp.freeze 6 1006 rfl rfl ?_
            refine AWp.freeze 12 1012 rfl rfl ?_
            refine AWp.regionN (fun _ => false) rfl ?_
            refine pS rfl rfl rfl ?_
            refine pS rfl rfl rfl ?_
            obtain ⟨x727, hc728, h⟩ := h
            refine AOps.call hc728 rfl rfl rfl ⟨.inl rfl, .inl rfl, trivial⟩ ?_
            refine pU rfl rfl rfl ?_
            refine pS rfl rfl rfl ?_
            refine pI rfl rfl rfl ?_
            refine pS rfl rfl rfl ?_
            refine pI rfl rfl rfl ?_
            refine AOps.done ?_
            refine AWp.seq ?_
            refine AWp.regionN (fun _ => false) rfl ?_
            refine pS rfl rfl rfl ?_
            refine AOps.i (j := ((x1.length : Nat) : Int)) tabOk rfl rfl rfl (by first | (rw [List.length_map]; done) | rfl) ?_
            obtain ⟨x730, hc731, h⟩ := h
            refine AOps.call hc731 rfl rfl rfl ⟨.inl rfl, trivial⟩ ?_
            refine pS rfl rfl rfl ?_
            obtain ⟨x732, hc733, h⟩ := h
            refine AOps.call hc733 rfl rfl rfl ⟨.inl rfl, .inl rfl, trivial⟩ ?_
            refine pU rfl rfl rfl ?_
            refine pS rfl rfl rfl ?_
            refine pI rfl rfl rfl ?_
            refine pS rfl rfl rfl ?_
            refine pI rfl rfl rfl ?_
            refine AOps.done ?_
            refine AWp.seq ?_
            refine AWp.regionN (fun _ => false) rfl ?_
            refine pS rfl rfl rfl ?_
            refine AOps.i (j := ((x1.length : Nat) : Int)) tabOk rfl rfl rfl (by first | (rw [List.length_map]; done) | rfl) ?_
            obtain ⟨x735, hc736, h⟩ := h
            refine AOps.call hc736 rfl rfl rfl ⟨.inl rfl, trivial⟩ ?_
            obtain ⟨x737, hc738, h⟩ := h
            refine AOps.call hc738 rfl rfl rfl ⟨.inl rfl, trivial⟩ ?_
            refine pU rfl rfl rfl ?_
            refine pF rfl rfl rfl ?_
            refine pI rfl rfl rfl ?_
            refine pF rfl rfl rfl ?_
            refine pI rfl rfl rfl ?_
            refine AOps.done ?_
            refine AWp.seq ?_
            refine AWp.seq ?_
            refine AWp.regionN (fun _ => false) rfl ?_
            refine pI rfl rfl rfl ?_
            refine pB rfl rfl rfl ?_
            refine pB rfl rfl rfl ?_
            refine AOps.splitB 108 rfl (fun e => ?_) (fun e => ?_)
            · replace h := h.1 e
              refine AOps.off rfl rfl ?_
              refine AOps.off rfl rfl ?_
              refine pB rfl rfl rfl ?_
              refine pB rfl rfl rfl ?_
              refine AOps.off rfl rfl ?_
              refine AOps.off rfl rfl ?_
              refine pB rfl rfl rfl ?_
              refine pB rfl rfl rfl ?_
              refine AOps.off rfl rfl ?_
              refine AOps.off rfl rfl ?_
              refine pB rfl rfl rfl ?_
              refine pB rfl rfl rfl ?_
              refine AOps.off rfl rfl ?_
              refine AOps.off rfl rfl ?_
              refine pB rfl rfl rfl ?_
              refine pB rfl rfl rfl ?_
              refine AOps.off rfl rfl ?_
              refine AOps.off rfl rfl ?_
              refine AOps.off rfl rfl ?_
              refine AOps.off rfl rfl ?_
              refine AOps.off rfl rfl ?_
              refine pB rfl rfl rfl ?_
              refine pB rfl rfl rfl ?_
              refine AOps.off rfl rfl ?_
              refine AOps.off rfl rfl ?_
              refine AOps.off rfl rfl ?_
              refine AOps.off rfl rfl ?_
              refine AOps.off rfl rfl ?_
              refine pB rfl rfl rfl ?_
              refine AOps.done ?_
              refine AWp.condT rfl ?_
              refine AWp.seq ?_
              refine AWp.regionN (fun _ => false) rfl ?_
              refine pB rfl rfl rfl ?_
              refine AOps.done ?_
              refine AWp.ret ?_
              subst h
              exact ⟨_, rfl, rfl⟩
            · replace h := h.2 e
              refine pI rfl rfl rfl ?_
              refine pB rfl rfl rfl ?_
              refine pB rfl rfl rfl ?_
              refine pB rfl rfl rfl ?_
              refine AOps.splitB 112 rfl (fun e => ?_) (fun e => ?_)
              · replace h := h.1 e
                refine AOps.off rfl rfl ?_
                refine AOps.off rfl rfl ?_
                refine pB rfl rfl rfl ?_
                refine pB rfl rfl rfl ?_
                refine AOps.off rfl rfl ?_
                refine AOps.off rfl rfl ?_
                refine pB rfl rfl rfl ?_
                refine pB rfl rfl rfl ?_
                refine AOps.off rfl rfl ?_
                refine AOps.off rfl rfl ?_
                refine pB rfl rfl rfl ?_
                refine pB rfl rfl rfl ?_
                refine AOps.off rfl rfl ?_
                refine AOps.off rfl rfl ?_
                refine AOps.off rfl rfl ?_
                refine AOps.off rfl rfl ?_
                refine AOps.off rfl rfl ?_
                refine pB rfl rfl rfl ?_
                refine pB rfl rfl rfl ?_
                refine AOps.off rfl rfl ?_
                refine AOps.off rfl rfl ?_
                refine AOps.off rfl rfl ?_
                refine AOps.off rfl rfl ?_
                refine AOps.off rfl rfl ?_
                refine pB rfl rfl rfl ?_
                refine AOps.done ?_
                refine AWp.condT rfl ?_
                refine AWp.seq ?_
                refine AWp.regionN (fun _ => false) rfl ?_
                refine pB rfl rfl rfl ?_
                refine AOps.done ?_
                refine AWp.ret ?_
                subst h
                exact ⟨_, rfl, rfl⟩
              · replace h := h.2 e
                refine pI rfl rfl rfl ?_
                refine pB rfl rfl rfl ?_
                refine pB rfl rfl rfl ?_
                refine pB rfl rfl rfl ?_
                refine AOps.splitB 116 rfl (fun e => ?_) (fun e => ?_)
                · replace h := h.1 e
                  refine AOps.off rfl rfl ?_
                  refine AOps.off rfl rfl ?_
                  refine pB rfl rfl rfl ?_
                  refine pB rfl rfl rfl ?_
                  refine AOps.off rfl rfl ?_
                  refine AOps.off rfl rfl ?_
                  refine pB rfl rfl rfl ?_
                  refine pB rfl rfl rfl ?_
                  refine AOps.off rfl rfl ?_
                  refine AOps.off rfl rfl ?_
                  refine AOps.off rfl rfl ?_
                  refine AOps.off rfl rfl ?_
                  refine AOps.off rfl rfl ?_
                  refine pB rfl rfl rfl ?_
                  refine pB rfl rfl rfl ?_
                  refine AOps.off rfl rfl ?_
                  refine AOps.off rfl rfl ?_
                  refine AOps.off rfl rfl ?_
                  refine AOps.off rfl rfl ?_
                  refine AOps.off rfl rfl ?_
                  refine pB rfl rfl rfl ?_
                  refine AOps.done ?_
                  refine AWp.condT rfl ?_
                  refine AWp.seq ?_
                  refine AWp.regionN (fun _ => false) rfl ?_
                  refine pB rfl rfl rfl ?_
                  refine AOps.done ?_
                  refine AWp.ret ?_
                  subst h
                  exact ⟨_, rfl, rfl⟩
                · replace h := h.2 e
                  refine pI rfl rfl rfl ?_
                  refine pB rfl rfl rfl ?_
                  refine pB rfl rfl rfl ?_
                  refine pB rfl rfl rfl ?_
                  refine AOps.splitB 120 rfl (fun e => ?_) (fun e => ?_)
                  · replace h := h.1 e
                    refine AOps.off rfl rfl ?_
                    refine AOps.off rfl rfl ?_
                    refine pB rfl rfl rfl ?_
                    refine pB rfl rfl rfl ?_
                    refine AOps.off rfl rfl ?_
                    refine AOps.off rfl rfl ?_
                    refine AOps.off rfl rfl ?_
                    refine AOps.off rfl rfl ?_
                    refine AOps.off rfl rfl ?_
                    refine pB rfl rfl rfl ?_
                    refine pB rfl rfl rfl ?_
                    refine AOps.off rfl rfl ?_
                    refine AOps.off rfl rfl ?_
                    refine AOps.off rfl rfl ?_
                    refine AOps.off rfl rfl ?_
                    refine AOps.off rfl rfl ?_
                    refine pB rfl rfl rfl ?_
                    refine AOps.done ?_
                    refine AWp.condT rfl ?_
                    refine AWp.seq ?_
                    refine AWp.regionN (fun _ => false) rfl ?_
                    refine pB rfl rfl rfl ?_
                    refine AOps.done ?_
                    refine AWp.ret ?_
                    subst h
                    exact ⟨_, rfl, rfl⟩
                  · replace h := h.2 e
                    refine pF rfl rfl rfl ?_
                    refine pB rfl rfl rfl ?_
                    refine pB rfl rfl rfl ?_
                    refine pB rfl rfl rfl ?_
                    refine AOps.splitB 124 rfl (fun e => ?_) (fun e => ?_)
                    · replace h := h.1 e
                      refine AOps.off rfl rfl ?_
                      refine AOps.off rfl rfl ?_
                      refine AOps.off rfl rfl ?_
                      refine AOps.off rfl rfl ?_
                      refine AOps.off rfl rfl ?_
                      refine pB rfl rfl rfl ?_
                      refine pB rfl rfl rfl ?_
                      refine AOps.off rfl rfl ?_
                      refine AOps.off rfl rfl ?_
                      refine AOps.off rfl rfl ?_
                      refine AOps.off rfl rfl ?_
                      refine AOps.off rfl rfl ?_
                      refine pB rfl rfl rfl ?_
                      refine AOps.done ?_
                      refine AWp.condT rfl ?_
                      refine AWp.seq ?_
                      refine AWp.regionN (fun _ => false) rfl ?_
                      refine pB rfl rfl rfl ?_
                      refine AOps.done ?_
                      refine AWp.ret ?_
                      subst h
                      exact ⟨_, rfl, rfl⟩
                    · replace h := h.2 e
                      refine pS rfl rfl rfl ?_
                      refine AOps.i (j := ((x725.1.length : Nat) : Int)) tabOk rfl rfl rfl (by first | (rw [List.length_map]; done) | rfl) ?_
                      refine pS rfl rfl rfl ?_
                      refine AOps.i (j := ((x727.1.length : Nat) : Int)) tabOk rfl rfl rfl (by first | (rw [List.length_map]; done) | rfl) ?_
                      refine pB rfl rfl rfl ?_
                      refine pB rfl rfl rfl ?_
                      refine pB rfl rfl rfl ?_
                      refine AOps.splitB 131 rfl (fun e => ?_) (fun e => ?_)
                      · replace h := h.1 e
                        refine AOps.off rfl rfl ?_
                        refine AOps.off rfl rfl ?_
                        refine AOps.off rfl rfl ?_
                        refine AOps.off rfl rfl ?_
                        refine AOps.off rfl rfl ?_
                        refine pB rfl rfl rfl ?_
                        refine AOps.done ?_
                        refine AWp.condT rfl ?_
                        refine AWp.seq ?_
                        refine AWp.regionN (fun _ => false) rfl ?_
                        refine pB rfl rfl rfl ?_
                        refine AOps.done ?_
                        refine AWp.ret ?_
                        subst h
                        exact ⟨_, rfl, rfl⟩
                      · replace h := h.2 e
                        refine pS rfl rfl rfl ?_
                        refine AOps.i (j := ((x732.1.length : Nat) : Int)) tabOk rfl rfl rfl (by first | (rw [List.length_map]; done) | rfl) ?_
                        refine pS rfl rfl rfl ?_
                        refine AOps.i (j := ((x1.length : Nat) : Int)) tabOk rfl rfl rfl (by first | (rw [List.length_map]; done) | rfl) ?_
                        refine pB rfl rfl rfl ?_
                        refine pB rfl rfl rfl ?_
                        refine AOps.done ?_
                        refine AWp.cond rfl (fun e => ?_) (fun e => ?_)
                        · replace h := h.1 e
                          refine AWp.seq ?_
                          refine AWp.regionN (fun _ => false) rfl ?_
                          refine pB rfl rfl rfl ?_
                          refine AOps.done ?_
                          refine AWp.ret ?_
                          subst h
                          exact ⟨_, rfl, rfl⟩
                        · replace h := h.2 e
                          refine AWp.skip ?_
                          refine AWp.seq ?_
                          refine AWp.seq ?_
                          refine AWp.regionN (fun _ => false) rfl ?_
                          refine pS rfl rfl rfl ?_
                          refine AOps.i (j := ((x725.1.length : Nat) : Int)) tabOk rfl rfl rfl (by first | (rw [List.length_map]; done) | rfl) ?_
                          refine pI rfl rfl rfl ?_
                          refine AOps.done ?_
                          refine AWp.block ?_
                          obtain ⟨I2306, x2307, hz2308, hr2309⟩ := h
                          refine AWp.loop (I := fun p : Int => mkSt [(0, .dat (.sl 34 1 (List.map (eSl 36 2 GIval.enc) x1))), (15, .dat (.sl 36 2 (List.map GIval.enc x725.1))), (17, .dat (.sl 36 2 (List.map GIval.enc x727.1))), (19, .dat (.sl 34 1 (List.map (eSl 36 2 GIval.enc) x732.1))), (139, .dat (.v (.int .i64 ((x725.1.length : Nat) : Int)))), (140, .dat (.v (.int .i64 p)))] []) (Inv := fun p => I2306 p) (μ := fun p => x2307 p) (x0 := (0 : Int)) hz2308 (Sub.list (fun i => i) rfl rfl ⟨rfl, rfl, rfl, rfl, rfl, rfl, trivial⟩ trivial) (fun p hp => ?_)
                          have h := hr2309 p hp
                          revert h; clear hp; generalize p = x1917; intro h
                          refine AWp.seq ?_
                          refine AWp.regionN (fun _ => false) rfl ?_
                          refine pW rfl rfl rfl ?_
                          refine AOps.done ?_
                          refine AWp.seq ?_
                          refine AWp.cond rfl (fun e => ?_) (fun e => ?_)
                          · replace h := h.1 e
                            refine AWp.skip ?_
                            refine AWp.seq ?_
                            refine AWp.block ?_
                            refine AWp.seq ?_
                            refine AWp.regionN (fun _ => false) rfl ?_
                            refine pI rfl rfl rfl ?_
                            refine pI rfl rfl rfl ?_
                            refine AOps.done ?_
                            refine AWp.seq ?_
                            refine AWp.seq ?_
                            refine AWp.regionD (fun _ => false) mixed (by decide +kernel) rfl ?_
                            refine pS rfl rfl rfl ?_
                            refine pI rfl rfl rfl ?_
                            obtain ⟨hi2112, x2113, hx2114, h⟩ := h
                            refine AOps.idx tabOk (z := GIval.enc x2113) rfl rfl rfl rfl rfl rfl rfl rfl hi2112 (map_get hx2114) ?_
                            refine pT rfl rfl rfl ?_
                            refine pS rfl rfl rfl ?_
                            refine pI rfl rfl rfl ?_
                            obtain ⟨hi2115, x2116, hx2117, h⟩ := h
                            refine AOps.idx tabOk (z := GIval.enc x2116) rfl rfl rfl rfl rfl rfl rfl rfl hi2115 (map_get hx2117) ?_
                            refine pT rfl rfl rfl ?_
                            obtain ⟨x2118, hc2119, h⟩ := h
                            refine AOps.call hc2119 rfl rfl rfl ⟨.inl rfl, .inl rfl, trivial⟩ ?_
                            refine pB rfl rfl rfl ?_
                            refine AOps.done ?_
                            refine AWp.cond rfl (fun e => ?_) (fun e => ?_)
                            · replace h := h.1 e
                              refine AWp.seq ?_
                              refine AWp.regionN (fun _ => false) rfl ?_
                              refine pB rfl rfl rfl ?_
                              refine AOps.done ?_
                              refine AWp.ret ?_
                              subst h
                              exact ⟨_, rfl, rfl⟩
                            · replace h := h.2 e
                              refine AWp.skip ?_
                              refine AWp.seq ?_
                              refine AWp.regionN (fun _ => false) rfl ?_
                              refine pS rfl rfl rfl ?_
                              refine pI rfl rfl rfl ?_
                              obtain ⟨hi2120, x2121, hx2122, h⟩ := h
                              refine AOps.idx tabOk (z := .sl 36 2 (List.map GIval.enc x2121)) rfl rfl rfl rfl rfl rfl rfl rfl hi2120 (map_get hx2122) ?_
                              refine pS rfl rfl rfl ?_
                              refine AOps.i (j := ((x2121.length : Nat) : Int)) tabOk rfl rfl rfl (by first | (rw [List.length_map]; done) | rfl) ?_
                              refine pI rfl rfl rfl ?_
                              refine AOps.done ?_
                              refine AWp.block ?_
                              obtain ⟨I2302, x2303, hz2304, hr2305⟩ := h
                              refine AWp.loop (I := fun p : Int => mkSt [(0, .dat (.sl 34 1 (List.map (eSl 36 2 GIval.enc) x1))), (15, .dat (.sl 36 2 (List.map GIval.enc x725.1))), (17, .dat (.sl 36 2 (List.map GIval.enc x727.1))), (19, .dat (.sl 34 1 (List.map (eSl 36 2 GIval.enc) x732.1))), (23, .dat (.v (.int .i64 x1917))), (139, .dat (.v (.int .i64 ((x725.1.length : Nat) : Int)))), (140, .dat (.v (.int .i64 x1917))), (157, .dat (.v (.int .i64 ((x2121.length : Nat) : Int)))), (158, .dat (.v (.int .i64 p)))] []) (Inv := fun p => I2302 p) (μ := fun p => x2303 p) (x0 := (0 : Int)) hz2304 (Sub.list (fun i => i) rfl rfl ⟨rfl, rfl, rfl, rfl, rfl, rfl, rfl, rfl, rfl, trivial⟩ trivial) (fun p hp => ?_)
                              have h := hr2305 p hp
                              revert h; clear hp; generalize p = x2212; intro h
                              refine AWp.seq ?_
                              refine AWp.regionN (fun _ => false) rfl ?_
                              refine pW rfl rfl rfl ?_
                              refine AOps.done ?_
                              refine AWp.seq ?_
                              refine AWp.cond rfl (fun e => ?_) (fun e => ?_)
                              · replace h := h.1 e
                                refine AWp.skip ?_
                                refine AWp.seq ?_
                                refine AWp.block ?_
                                refine AWp.seq ?_
                                refine AWp.regionN (fun _ => false) rfl ?_
                                refine pI rfl rfl rfl ?_
                                refine pI rfl rfl rfl ?_
                                refine AOps.done ?_
                                refine AWp.seq ?_
                                refine AWp.regionD (fun _ => false) mixed (by decide +kernel) rfl ?_
                                refine pS rfl rfl rfl ?_
                                refine pI rfl rfl rfl ?_
                                obtain ⟨hi2277, x2278, hx2279, h⟩ := h
                                refine AOps.idx tabOk (z := .sl 36 2 (List.map GIval.enc x2278)) rfl rfl rfl rfl rfl rfl rfl rfl hi2277 (map_get hx2279) ?_
                                refine pS rfl rfl rfl ?_
                                obtain ⟨x2280, hc2281, h⟩ := h
                                refine AOps.call hc2281 rfl rfl rfl ⟨.inl rfl, trivial⟩ ?_
                                refine pB rfl rfl rfl ?_
                                refine AOps.splitB 166 rfl (fun e => ?_) (fun e => ?_)
                                · replace h := h.1 e
                                  refine pS rfl rfl rfl ?_
                                  refine pI rfl rfl rfl ?_
                                  obtain ⟨x2282, hc2283, h⟩ := h
                                  refine AOps.call hc2283 rfl rfl rfl ⟨.inl rfl, .inl rfl, trivial⟩ ?_
                                  refine pB rfl rfl rfl ?_
                                  refine pB rfl rfl rfl ?_
                                  refine pB rfl rfl rfl ?_
                                  refine AOps.splitB 172 rfl (fun e => ?_) (fun e => ?_)
                                  · replace h := h.1 e
                                    refine pS rfl rfl rfl ?_
                                    refine pI rfl rfl rfl ?_
                                    obtain ⟨hi2284, x2285, hx2286, h⟩ := h
                                    refine AOps.idx tabOk (z := .sl 36 2 (List.map GIval.enc x2285)) rfl rfl rfl rfl rfl rfl rfl rfl hi2284 (map_get hx2286) ?_
                                    refine pS rfl rfl rfl ?_
                                    refine pI rfl rfl rfl ?_
                                    obtain ⟨hi2287, x2288, hx2289, h⟩ := h
                                    refine AOps.idx tabOk (z := GIval.enc x2288) rfl rfl rfl rfl rfl rfl rfl rfl hi2287 (map_get hx2289) ?_
                                    refine pT rfl rfl rfl ?_
                                    refine pS rfl rfl rfl ?_
                                    refine pI rfl rfl rfl ?_
                                    obtain ⟨hi2290, x2291, hx2292, h⟩ := h
                                    refine AOps.idx tabOk (z := .sl 36 2 (List.map GIval.enc x2291)) rfl rfl rfl rfl rfl rfl rfl rfl hi2290 (map_get hx2292) ?_
                                    refine pS rfl rfl rfl ?_
                                    refine pI rfl rfl rfl ?_
                                    obtain ⟨hi2293, x2294, hx2295, h⟩ := h
                                    refine AOps.idx tabOk (z := GIval.enc x2294) rfl rfl rfl rfl rfl rfl rfl rfl hi2293 (map_get hx2295) ?_
                                    refine pT rfl rfl rfl ?_
                                    obtain ⟨x2296, hc2297, h⟩ := h
                                    refine AOps.call hc2297 rfl rfl rfl ⟨.inl rfl, .inl rfl, trivial⟩ ?_
                                    refine pB rfl rfl rfl ?_
                                    refine pB rfl rfl rfl ?_
                                    refine AOps.done ?_
                                    refine AWp.cond rfl (fun e => ?_) (fun e => ?_)
                                    · replace h := h.1 e
                                      refine AWp.seq ?_
                                      refine AWp.regionN (fun _ => false) rfl ?_
                                      refine pB rfl rfl rfl ?_
                                      refine AOps.done ?_
                                      refine AWp.ret ?_
                                      subst h
                                      exact ⟨_, rfl, rfl⟩
                                    · replace h := h.2 e
                                      refine AWp.skip ?_
                                      refine AWp.regionN (fun _ => false) rfl ?_
                                      obtain ⟨x2298, ex2298, h⟩ := h.get
                                      refine AOps.i tabOk rfl rfl rfl ex2298 ?_
                                      refine pI rfl rfl rfl ?_
                                      refine AOps.done ?_
                                      exact ⟨x2298, h.1, h.2, (Sub.list (fun i => i) rfl rfl ⟨rfl, rfl, rfl, rfl, rfl, rfl, rfl, rfl, rfl, trivial⟩ trivial)⟩
                                  · replace h := h.2 e
                                    refine AOps.off rfl rfl ?_
                                    refine AOps.off rfl rfl ?_
                                    refine AOps.off rfl rfl ?_
                                    refine AOps.off rfl rfl ?_
                                    refine AOps.off rfl rfl ?_
                                    refine AOps.off rfl rfl ?_
                                    refine AOps.off rfl rfl ?_
                                    refine AOps.off rfl rfl ?_
                                    refine AOps.off rfl rfl ?_
                                    refine AOps.off rfl rfl ?_
                                    refine AOps.off rfl rfl ?_
                                    refine AOps.off rfl rfl ?_
                                    refine AOps.off rfl rfl ?_
                                    refine AOps.off rfl rfl ?_
                                    refine AOps.off rfl rfl ?_
                                    refine AOps.off rfl rfl ?_
                                    refine pB rfl rfl rfl ?_
                                    refine AOps.done ?_
                                    refine AWp.condF rfl ?_
                                    refine AWp.skip ?_
                                    refine AWp.regionN (fun _ => false) rfl ?_
                                    obtain ⟨x2299, ex2299, h⟩ := h.get
                                    refine AOps.i tabOk rfl rfl rfl ex2299 ?_
                                    refine pI rfl rfl rfl ?_
                                    refine AOps.done ?_
                                    exact ⟨x2299, h.1, h.2, (Sub.list (fun i => i) rfl rfl ⟨rfl, rfl, rfl, rfl, rfl, rfl, rfl, rfl, rfl, trivial⟩ trivial)⟩
                                · replace h := h.2 e
                                  refine AOps.off rfl rfl ?_
                                  refine AOps.off rfl rfl ?_
                                  refine AOps.off rfl rfl ?_
                                  refine AOps.off rfl rfl ?_
                                  refine pB rfl rfl rfl ?_
                                  refine pB rfl rfl rfl ?_
                                  refine AOps.off rfl rfl ?_
                                  refine AOps.off rfl rfl ?_
                                  refine AOps.off rfl rfl ?_
                                  refine AOps.off rfl rfl ?_
                                  refine AOps.off rfl rfl ?_
                                  refine AOps.off rfl rfl ?_
                                  refine AOps.off rfl rfl ?_
                                  refine AOps.off rfl rfl ?_
                                  refine AOps.off rfl rfl ?_
                                  refine AOps.off rfl rfl ?_
                                  refine AOps.off rfl rfl ?_
                                  refine AOps.off rfl rfl ?_
                                  refine AOps.off rfl rfl ?_
                                  refine AOps.off rfl rfl ?_
                                  refine AOps.off rfl rfl ?_
                                  refine AOps.off rfl rfl ?_
                                  refine pB rfl rfl rfl ?_
                                  refine AOps.done ?_
                                  refine AWp.condF rfl ?_
                                  refine AWp.skip ?_
                                  refine AWp.regionN (fun _ => false) rfl ?_
                                  obtain ⟨x2300, ex2300, h⟩ := h.get
                                  refine AOps.i tabOk rfl rfl rfl ex2300 ?_
                                  refine pI rfl rfl rfl ?_
                                  refine AOps.done ?_
                                  exact ⟨x2300, h.1, h.2, (Sub.list (fun i => i) rfl rfl ⟨rfl, rfl, rfl, rfl, rfl, rfl, rfl, rfl, rfl, trivial⟩ trivial)⟩
                              · replace h := h.2 e
                                refine AWp.exit ?_
                                refine AWp.regionN (fun _ => false) rfl ?_
                                obtain ⟨x2301, ex2301, h⟩ := h.get
                                refine AOps.i tabOk rfl rfl rfl ex2301 ?_
                                refine pI rfl rfl rfl ?_
                                refine AOps.done ?_
                                exact ⟨x2301, h.1, h.2, (Sub.list (fun i => i) rfl rfl ⟨rfl, rfl, rfl, rfl, rfl, rfl, trivial⟩ trivial)⟩
                          · replace h := h.2 e
                            refine AWp.exit ?_
                            refine AWp.seq ?_
                            refine AWp.regionN (fun _ => false) rfl ?_
                            refine pB rfl rfl rfl ?_
                            refine AOps.done ?_
                            refine AWp.ret ?_
                            subst h
                            exact ⟨_, rfl, rfl⟩
def W_law04_LinGrows_1 (x1 : GIval) (Q : GIval → Prop) : Prop :=
  Call (Ev_ref02_Mid x1) fun x2 =>
  Call (Ev_ref02_None x1) fun x8 =>
  Br x8 (Q x1) (
    Call (Ev_ref02_Has x1 x2) fun x10 =>
    Br (!x10) (Q x1) (
      Call (Ev_ref02_Make x2 x2) fun x12 =>
      Q x12))
theorem walk_law04_LinGrows_1 {x1 : GIval} {r : GIval} (h : W_law04_LinGrows_1 x1 (fun r' => r' = r)) : Ev_law04_LinGrows_1 x1 r := by
  unfold W_law04_LinGrows_1 at h
  refine AFn.intro' (L := [(0, .dat (GIval.enc x1))]) tabOk Try.func31 rfl rfl Try.ntmps31 rfl rfl rfl ?_
  refine AWp.seq ?_
  refine AWp.regionN (fun _ => false) rfl ?_
  refine AOps.box (v := .dat (.st _ _)) rfl rfl rfl rfl rfl rfl ?_
  refine AOps.alloc tabOk rfl rfl rfl rfl rfl ?_
  refine AOps.done ?_
  refine AWp.seq ?_
  refine AWp.regionN (fun _ => false) rfl ?_
  refine pT rfl rfl rfl ?_
  obtain ⟨x2, hc3, h⟩ := h
  refine AOps.call hc3 rfl rfl rfl ⟨.inl rfl, trivial⟩ ?_
  refine pF rfl rfl rfl ?_
  refine AOps.done ?_
  refine AWp.seq ?_
  refine AWp.seq ?_
  refine AWp.regionN (fun _ => false) rfl ?_
  refine pT rfl rfl rfl ?_
  obtain ⟨x8, hc9, h⟩ := h
  refine AOps.call hc9 rfl rfl rfl ⟨.inl rfl, trivial⟩ ?_
  refine pB rfl rfl rfl ?_
  refine AOps.splitB 8 rfl (fun e => ?_) (fun e => ?_)
  · replace h := h.1 e
    refine AOps.off rfl rfl ?_
    refine AOps.off rfl rfl ?_
    refine AOps.off rfl rfl ?_
    refine AOps.off rfl rfl ?_
    refine pB rfl rfl rfl ?_
    refine AOps.done ?_
    refine AWp.condT rfl ?_
    refine AWp.seq ?_
    refine AWp.regionN (fun o => writes o) rfl ?_
    refine pT rfl rfl rfl ?_
    refine AOps.store tabOk (v := .dat (.st _ _)) rfl rfl rfl rfl rfl rfl rfl rfl rfl rfl rfl rfl rfl ?_
    refine AOps.done ?_
    refine AWp.ret ?_
    subst h
    exact ⟨_, rfl, rfl⟩
  · replace h := h.2 e
    refine pT rfl rfl rfl ?_
    refine pF rfl rfl rfl ?_
    obtain ⟨x10, hc11, h⟩ := h
    refine AOps.call hc11 rfl rfl rfl ⟨.inl rfl, .inl rfl, trivial⟩ ?_
    refine pB rfl rfl rfl ?_
    refine pB rfl rfl rfl ?_
    refine AOps.done ?_
    refine AWp.cond rfl (fun e => ?_) (fun e => ?_)
    · replace h := h.1 e
      refine AWp.seq ?_
      refine AWp.regionN (fun o => writes o) rfl ?_
      refine pT rfl rfl rfl ?_
      refine AOps.store tabOk (v := .dat (.st _ _)) rfl rfl rfl rfl rfl rfl rfl rfl rfl rfl rfl rfl rfl ?_
      refine AOps.done ?_
      refine AWp.ret ?_
      subst h
      exact ⟨_, rfl, rfl⟩
    · replace h := h.2 e
      refine AWp.skip ?_
      refine AWp.seq ?_
      refine AWp.regionN (fun o => writes o) rfl ?_
      refine pF rfl rfl rfl ?_
      refine pF rfl rfl rfl ?_
      obtain ⟨x12, hc13, h⟩ := h
      refine AOps.call hc13 rfl rfl rfl ⟨.inl rfl, .inl rfl, trivial⟩ ?_
      refine AOps.store tabOk (v := .dat (.st _ _)) rfl rfl rfl rfl rfl rfl rfl rfl rfl rfl rfl rfl rfl ?_
      refine AOps.done ?_
      refine AWp.ret ?_
      subst h
      exact ⟨_, rfl, rfl⟩
def W_law04_hollow (m1 : List (List GIval)) (j2 : Int) (Q : Bool → Prop) : Prop :=
  Loop1 (0 : Int) (fun (x63 : Int) next64 =>
    Br (decide (x63 < ((m1.length : Nat) : Int))) (
      At m1 x63 fun x74 =>
      At x74 j2 fun x77 =>
      Call (Ev_ref02_None x77) fun x79 =>
      Br x79 (Q true) (
        Let (IntKind.i64.wrap (x63 + (1 : Int))) fun x81 =>
        next64 x81)) (
      Q false))
theorem walk_law04_hollow {m1 : List (List GIval)} {j2 : Int} {r : Bool} (h : W_law04_hollow m1 j2 (fun r' => r' = r)) : Ev_law04_hollow m1 j2 r := by
  unfold W_law04_hollow at h
  refine AFn.intro' (L := [(0, .dat (.sl 34 1 (List.map (eSl 36 2 GIval.enc) m1))), (1, .dat (.v (.int .i64 j2)))]) tabOk Try.func37 rfl rfl Try.ntmps37 rfl rfl rfl ?_
  refine AWp.seq ?_
  refine AWp.regionN (fun _ => false) rfl ?_
  refine pB rfl rfl rfl ?_
  refine AOps.done ?_
  refine AWp.seq ?_
  refine AWp.seq ?_
  refine AWp.regionN (fun _ => false) rfl ?_
  refine pS rfl rfl rfl ?_
  refine AOps.i (j := ((m1.length : Nat) : Int)) tabOk rfl rfl rfl (by first | (rw [List.length_map]; done) | rfl) ?_
  refine pI rfl rfl rfl ?_
  refine AOps.done ?_
  refine AWp.block ?_
  obtain ⟨I82, x83, hz84, hr85⟩ := h
  refine AWp.loop (I := fun p : Int => mkSt [(1, .dat (.v (.int .i64 j2))), (7, .dat (.sl 34 1 (List.map (eSl 36 2 GIval.enc) m1))), (8, .dat (.v (.int .i64 ((m1.length : Nat) : Int)))), (9, .dat (.v (.int .i64 p)))] []) (Inv := fun p => I82 p) (μ := fun p => x83 p) (x0 := (0 : Int)) hz84 (Sub.list (fun i => i) rfl rfl ⟨rfl, rfl, rfl, rfl, trivial⟩ trivial) (fun p hp => ?_)
  have h := hr85 p hp
  revert h; clear hp; generalize p = x63; intro h
  refine AWp.seq ?_
  refine AWp.regionN (fun _ => false) rfl ?_
  refine pW rfl rfl rfl ?_
  refine AOps.done ?_
  refine AWp.seq ?_
  refine AWp.cond rfl (fun e => ?_) (fun e => ?_)
  · replace h := h.1 e
    refine AWp.skip ?_
    refine AWp.seq ?_
    refine AWp.block ?_
    refine AWp.seq ?_
    refine AWp.regionN (fun _ => false) rfl ?_
    obtain ⟨hi73, x74, hx75, h⟩ := h
    refine AOps.idx tabOk (z := .sl 36 2 (List.map GIval.enc x74)) rfl rfl rfl rfl rfl rfl rfl rfl hi73 (map_get hx75) ?_
    refine pS rfl rfl rfl ?_
    refine pS rfl rfl rfl ?_
    refine AOps.done ?_
    refine AWp.seq ?_
    refine AWp.regionN (fun _ => false) rfl ?_
    refine pS rfl rfl rfl ?_
    refine pI rfl rfl rfl ?_
    obtain ⟨hi76, x77, hx78, h⟩ := h
    refine AOps.idx tabOk (z := GIval.enc x77) rfl rfl rfl rfl rfl rfl rfl rfl hi76 (map_get hx78) ?_
    refine pT rfl rfl rfl ?_
    obtain ⟨x79, hc80, h⟩ := h
    refine AOps.call hc80 rfl rfl rfl ⟨.inl rfl, trivial⟩ ?_
    refine AOps.done ?_
    refine AWp.cond rfl (fun e => ?_) (fun e => ?_)
    · replace h := h.1 e
      refine AWp.seq ?_
      refine AWp.regionN (fun _ => false) rfl ?_
      refine pB rfl rfl rfl ?_
      refine AOps.done ?_
      refine AWp.ret ?_
      subst h
      exact ⟨_, rfl, rfl⟩
    · replace h := h.2 e
      refine AWp.skip ?_
      refine AWp.regionN (fun _ => false) rfl ?_
      obtain ⟨x81, ex81, h⟩ := h.get
      refine AOps.i tabOk rfl rfl rfl ex81 ?_
      refine pI rfl rfl rfl ?_
      refine AOps.done ?_
      exact ⟨x81, h.1, h.2, (Sub.list (fun i => i) rfl rfl ⟨rfl, rfl, rfl, rfl, trivial⟩ trivial)⟩
  · replace h := h.2 e
    refine AWp.exit ?_
    refine AWp.seq ?_
    refine AWp.regionN (fun _ => false) rfl ?_
    refine pB rfl rfl rfl ?_
    refine AOps.done ?_
    refine AWp.ret ?_
    subst h
    exact ⟨_, rfl, rfl⟩
end Go.Sim.Ytlglkgineclggaa
