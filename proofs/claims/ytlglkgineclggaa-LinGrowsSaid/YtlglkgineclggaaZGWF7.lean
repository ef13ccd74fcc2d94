/- What is proved: functions of the program compute what plain statements tell. -/
import Derived.Test.YtlglkgineclggaaZGWE
import Derived.Test.YtlglkgineclggaaZGSimH
namespace Go.Sim.Ytlglkgineclggaa
open Go.RowKit Go.Proofs Go.Proofs.Try
set_option maxRecDepth 100000
def W_lin_Points (m1 : List (List Nat)) (Q : List (List GIval) → Prop) : Prop :=
  Call (Ev_lin_floats m1) fun x2 =>
  Br (!x2) (Q ([] : List (List GIval))) (
    Mk 24 ((m1.length : Nat) : Int) ([] : List GIval) fun x5 =>
    Loop2 x5 (0 : Int) (fun (out471 : List (List GIval)) (x472 : Int) next473 =>
      Br (decide (x472 < ((m1.length : Nat) : Int))) (
        At m1 x472 fun x550 =>
        Loop2 out471 (0 : Int) (fun (out586 : List (List GIval)) (x587 : Int) next588 =>
          Br (decide (x587 < ((x550.length : Nat) : Int))) (
            At x550 x587 fun x605 =>
            At out586 x472 fun x608 =>
            Call (Ev_ival_Point x605) fun x613 =>
            App 16 x608 ([x613]) fun x615 =>
            Let (IntKind.i64.wrap (x587 + (1 : Int))) fun x619 =>
            next588 (List.set out586 (Int.toNat x472) x615) x619) (
            Let (IntKind.i64.wrap (x472 + (1 : Int))) fun x620 =>
            next473 out586 x620))) (
        Q out471)))
theorem walk_lin_Points {m1 : List (List Nat)} {r : List (List GIval)} (h : W_lin_Points m1 (fun r' => r' = r)) : Ev_lin_Points m1 r := by
  unfold W_lin_Points at h
  refine AFn.intro' (L := [(0, .dat (.sl 83 1 (List.map (eSl 24 1 (eFlt .f64)) m1)))]) tabOk Try.func14 rfl rfl Try.ntmps14 rfl rfl rfl ?_
  refine AWp.seq ?_
  refine AWp.regionN (fun _ => false) rfl ?_
  refine pS rfl rfl rfl ?_
  refine AOps.done ?_
  refine AWp.seq ?_
  refine AWp.seq ?_
  refine AWp.regionN (fun _ => false) rfl ?_
  refine pS rfl rfl rfl ?_
  obtain ⟨x2, hc3, h⟩ := h
  refine AOps.call hc3 rfl rfl rfl ⟨.inl rfl, trivial⟩ ?_
  refine pB rfl rfl rfl ?_
  refine AOps.done ?_
  refine AWp.cond rfl (fun e => ?_) (fun e => ?_)
  · replace h := h.1 e
    refine AWp.seq ?_
    refine AWp.regionN (fun _ => false) rfl ?_
    refine pS rfl rfl rfl ?_
    refine AOps.done ?_
    refine AWp.ret ?_
    subst h
    exact ⟨_, rfl, rfl⟩
  · replace h := h.2 e
    refine AWp.skip ?_
    refine AWp.seq ?_
    refine AWp.regionN (fun _ => false) rfl ?_
    refine pS rfl rfl rfl ?_
    refine AOps.i (j := ((m1.length : Nat) : Int)) tabOk rfl rfl rfl (by first | (rw [List.length_map]; done) | rfl) ?_
    obtain ⟨h1, h2, h3, x5, ex5, h⟩ := h.get
    refine AOps.makerr tabOk rfl rfl rfl rfl rfl rfl rfl rfl h1 h2 h3 (mm_rep (enc := GIval.enc) ex5) ?_
    refine pO rfl rfl rfl ?_
    refine AOps.done ?_
    refine AWp.seq ?_
    refine AWp.seq ?_
    refine AWp.regionN (fun _ => false) rfl ?_
    refine pS rfl rfl rfl ?_
    refine AOps.i (j := ((m1.length : Nat) : Int)) tabOk rfl rfl rfl (by first | (rw [List.length_map]; done) | rfl) ?_
    refine pI rfl rfl rfl ?_
    refine AOps.done ?_
    refine AWp.block ?_
    obtain ⟨I625, x626, hz627, hr628⟩ := h
    refine AWp.loop (I := fun p : (List (List GIval)) × Int => mkSt [(3, .oref 1003), (14, .dat (.sl 83 1 (List.map (eSl 24 1 (eFlt .f64)) m1))), (15, .dat (.v (.int .i64 ((m1.length : Nat) : Int)))), (16, .dat (.v (.int .i64 p.2)))] [(1003, .rr 34 36 2 (List.map (List.map GIval.enc) p.1) [])]) (Inv := fun p => I625 p.1 p.2) (μ := fun p => x626 p.1 p.2) (x0 := ⟨x5, (0 : Int)⟩) hz627 (Sub.list (fun i => (if Nat.beq i 1003 then 13 else i)) rfl rfl ⟨rfl, rfl, rfl, rfl, trivial⟩ ⟨rfl, trivial⟩) (fun p hp => ?_)
    obtain ⟨out471, x472⟩ := p
    have h := hr628 out471 x472 hp
    refine AWp.seq ?_
    refine AWp.regionN (fun _ => false) rfl ?_
    refine pW rfl rfl rfl ?_
    refine AOps.done ?_
    refine AWp.seq ?_
    refine AWp.cond rfl (fun e => ?_) (fun e => ?_)
    · replace h := h.1 e
      refine AWp.skip ?_
      refine AWp.seq ?_
      refine AWp.block ?_
      refine AWp.seq ?_
      refine AWp.regionN (fun _ => false) rfl ?_
      refine pI rfl rfl rfl ?_
      obtain ⟨hi549, x550, hx551, h⟩ := h
      refine AOps.idx tabOk (z := .sl 24 1 (List.map (eFlt .f64) x550)) rfl rfl rfl rfl rfl rfl rfl rfl hi549 (map_get hx551) ?_
      refine pS rfl rfl rfl ?_
      refine pI rfl rfl rfl ?_
      refine pS rfl rfl rfl ?_
      refine AOps.done ?_
      refine AWp.seq ?_
      refine AWp.regionN (fun _ => false) rfl ?_
      refine pS rfl rfl rfl ?_
      refine AOps.i (j := ((x550.length : Nat) : Int)) tabOk rfl rfl rfl (by first | (rw [List.length_map]; done) | rfl) ?_
      refine pI rfl rfl rfl ?_
      refine AOps.done ?_
      refine AWp.block ?_
      obtain ⟨I621, x622, hz623, hr624⟩ := h
      refine AWp.loop (I := fun p : (List (List GIval)) × Int => mkSt [(3, .oref 1003), (4, .dat (.v (.int .i64 x472))), (14, .dat (.sl 83 1 (List.map (eSl 24 1 (eFlt .f64)) m1))), (15, .dat (.v (.int .i64 ((m1.length : Nat) : Int)))), (16, .dat (.v (.int .i64 x472))), (21, .dat (.sl 24 1 (List.map (eFlt .f64) x550))), (22, .dat (.v (.int .i64 ((x550.length : Nat) : Int)))), (23, .dat (.v (.int .i64 p.2)))] [(1003, .rr 34 36 2 (List.map (List.map GIval.enc) p.1) [])]) (Inv := fun p => I621 p.1 p.2) (μ := fun p => x622 p.1 p.2) (x0 := ⟨out471, (0 : Int)⟩) hz623 (Sub.list (fun i => i) rfl rfl ⟨rfl, rfl, rfl, rfl, rfl, rfl, rfl, rfl, trivial⟩ ⟨rfl, trivial⟩) (fun p hp => ?_)
      obtain ⟨out586, x587⟩ := p
      have h := hr624 out586 x587 hp
      refine AWp.seq ?_
      refine AWp.regionN (fun _ => false) rfl ?_
      refine pW rfl rfl rfl ?_
      refine AOps.done ?_
      refine AWp.seq ?_
      refine AWp.cond rfl (fun e => ?_) (fun e => ?_)
      · replace h := h.1 e
        refine AWp.skip ?_
        refine AWp.seq ?_
        refine AWp.block ?_
        refine AWp.seq ?_
        refine AWp.regionN (fun _ => false) rfl ?_
        obtain ⟨hi604, x605, hx606, h⟩ := h
        refine AOps.idx tabOk (z := .v (.float .f64 x605)) rfl rfl rfl rfl rfl rfl rfl rfl hi604 (map_get hx606) ?_
        refine pF rfl rfl rfl ?_
        refine pF rfl rfl rfl ?_
        refine AOps.done ?_
        obtain ⟨hi607, x608, hx609, h⟩ := h
        refine AWp.sub (Sub.lend (id := 1003) (d := 5609) (m := (Int.toNat x472)) rfl rfl (mm_get hx609) holeAt_nil) ?_
        refine AWp.regionE [(3, 1003)] (fun o => writes o) mixed (by decide +kernel) rfl (Fix.cons (fun _ h => h) Fix.nil) ?_
        refine pO rfl rfl rfl ?_
        refine pI rfl rfl rfl ?_
        refine pO rfl rfl rfl ?_
        refine pI rfl rfl rfl ?_
        refine AOps.idxrr tabOk rfl rfl rfl rfl rfl rfl rfl rfl hi607 (mm_lt hi607 hx609) rfl ?_
        refine AOps.loadrr tabOk rfl rfl rfl rfl rfl rfl rfl (mm_lt2 hx609) holeAt_hd ?_
        refine pF rfl rfl rfl ?_
        obtain ⟨x613, hc614, h⟩ := h
        refine AOps.call hc614 rfl rfl rfl ⟨.inl rfl, trivial⟩ ?_
        refine AOps.lit tabOk (ys := [GIval.enc x613]) rfl rfl rfl rfl rfl rfl ?_
        obtain ⟨h1, h2, x615, ex615, h⟩ := h.get
        refine AOps.append tabOk rfl rfl rfl rfl rfl rfl rfl rfl rfl rfl rfl (.inl ⟨_, rfl⟩) (app1 h1) (app2 h2) (app3 ex615) ?_
        refine AOps.idxrr tabOk rfl rfl rfl rfl rfl rfl rfl rfl hi607 (mm_lt hi607 hx609) rfl ?_
        refine AOps.storerr (hs' := [((Int.toNat x472), 36)]) tabOk rfl rfl rfl rfl rfl rfl rfl rfl (mm_lt2 hx609) rfl hole1 hole1m ?_
        refine AOps.done ?_
        refine AWp.sub (Sub.unlend (id := 1003) (d := 36) (m := (Int.toNat x472)) rfl rfl holeAt_nil mm_set) ?_
        refine AWp.regionN (fun _ => false) rfl ?_
        obtain ⟨x619, ex619, h⟩ := h.get
        refine AOps.i tabOk rfl rfl rfl ex619 ?_
        refine pI rfl rfl rfl ?_
        refine AOps.done ?_
        exact ⟨⟨(List.set out586 (Int.toNat x472) x615), x619⟩, h.1, h.2, (Sub.list (fun i => i) rfl rfl ⟨rfl, rfl, rfl, rfl, rfl, rfl, rfl, rfl, trivial⟩ ⟨rfl, trivial⟩)⟩
      · replace h := h.2 e
        refine AWp.exit ?_
        refine AWp.regionN (fun _ => false) rfl ?_
        obtain ⟨x620, ex620, h⟩ := h.get
        refine AOps.i tabOk rfl rfl rfl ex620 ?_
        refine pI rfl rfl rfl ?_
        refine AOps.done ?_
        exact ⟨⟨out586, x620⟩, h.1, h.2, (Sub.list (fun i => i) rfl rfl ⟨rfl, rfl, rfl, rfl, trivial⟩ ⟨rfl, trivial⟩)⟩
    · replace h := h.2 e
      refine AWp.exit ?_
      refine AWp.seq ?_
      refine AWp.regionN (fun _ => false) rfl ?_
      refine pO rfl rfl rfl ?_
      refine pO rfl rfl rfl ?_
      refine AOps.done ?_
      refine AWp.freezerr 2 1003 rfl rfl mm_sl ?_
      refine AWp.ret ?_
      subst h
      exact ⟨_, rfl, rfl⟩
def W_lin_Mul (x1 : List (List GIval)) (x2 : List (List GIval)) (Q : (List (List GIval)) × Int → Prop) : Prop :=
  Call (Ev_lin_matrix x1) fun x12 =>
  Br (!x12) (Q (([] : List (List GIval)), (1 : Int))) (
    Call (Ev_lin_matrix x2) fun x14 =>
    Br (!x14) (Q (([] : List (List GIval)), (1 : Int))) (
      At x1 (0 : Int) fun x17 =>
      Br (((x17.length : Nat) : Int) != ((x2.length : Nat) : Int)) (Q (([] : List (List GIval)), (1 : Int))) (
        Mk 24 ((x1.length : Nat) : Int) ([] : List GIval) fun x22 =>
        At x2 (0 : Int) fun x24 =>
        Loop2 x22 (0 : Int) (fun (x965 : List (List GIval)) (x966 : Int) next967 =>
          Br (decide (x966 < ((x24.length : Nat) : Int))) (
            Loop2 ([] : List GIval) (0 : Int) (fun (x1181 : List GIval) (x1182 : Int) next1183 =>
              Br (decide (x1182 < ((x2.length : Nat) : Int))) (
                At x2 x1182 fun x1192 =>
                At x1192 x966 fun x1195 =>
                App 16 x1181 ([x1195]) fun x1197 =>
                Let (IntKind.i64.wrap (x1182 + (1 : Int))) fun x1198 =>
                next1183 x1197 x1198) (
                Loop2 x965 (0 : Int) (fun (x1234 : List (List GIval)) (x1235 : Int) next1236 =>
                  Br (decide (x1235 < ((x1.length : Nat) : Int))) (
                    At x1 x1235 fun x1253 =>
                    Call (Ev_lin_Dot x1253 x1181) fun x1255 =>
                    At x1234 x1235 fun x1258 =>
                    App 16 x1258 ([x1255.1]) fun x1263 =>
                    Let (IntKind.i64.wrap (x1235 + (1 : Int))) fun x1267 =>
                    next1236 (List.set x1234 (Int.toNat x1235) x1263) x1267) (
                    Let (IntKind.i64.wrap (x966 + (1 : Int))) fun x1268 =>
                    next967 x1234 x1268))))) (
            Q (x965, (0 : Int)))))))
theorem walk_lin_Mul {x1 : List (List GIval)} {x2 : List (List GIval)} {r : (List (List GIval)) × Int} (h : W_lin_Mul x1 x2 (fun r' => r' = r)) : Ev_lin_Mul x1 x2 r := by
  unfold W_lin_Mul at h
  refine AFn.intro' (L := [(0, .dat (.sl 34 1 (List.map (eSl 36 2 GIval.enc) x1))), (1, .dat (.sl 34 1 (List.map (eSl 36 2 GIval.enc) x2)))]) tabOk Try.func25 rfl rfl Try.ntmps25 rfl rfl rfl ?_
  refine AWp.seq ?_
  refine AWp.regionN (fun _ => false) rfl ?_
  refine pS rfl rfl rfl ?_
  refine pI rfl rfl rfl ?_
  refine AOps.done ?_
  refine AWp.seq ?_
  refine AWp.seq ?_
  refine AWp.regionN (fun _ => false) rfl ?_
  refine pS rfl rfl rfl ?_
  obtain ⟨x12, hc13, h⟩ := h
  refine AOps.call hc13 rfl rfl rfl ⟨.inl rfl, trivial⟩ ?_
  refine pB rfl rfl rfl ?_
  refine pB rfl rfl rfl ?_
  refine AOps.splitB 18 rfl (fun e => ?_) (fun e => ?_)
  · replace h := h.1 e
    refine AOps.off rfl rfl ?_
    refine AOps.off rfl rfl ?_
    refine AOps.off rfl rfl ?_
    refine pB rfl rfl rfl ?_
    refine pB rfl rfl rfl ?_
    refine AOps.off rfl rfl ?_
    refine AOps.off rfl rfl ?_
    refine AOps.off rfl rfl ?_
    refine AOps.off rfl rfl ?_
    refine AOps.off rfl rfl ?_
    refine AOps.off rfl rfl ?_
    refine AOps.off rfl rfl ?_
    refine pB rfl rfl rfl ?_
    refine AOps.done ?_
    refine AWp.condT rfl ?_
    refine AWp.seq ?_
    refine AWp.regionN (fun _ => false) rfl ?_
    refine pS rfl rfl rfl ?_
    refine pI rfl rfl rfl ?_
    refine AOps.done ?_
    refine AWp.ret ?_
    subst h
    exact ⟨_, rfl, rfl⟩
  · replace h := h.2 e
    refine pS rfl rfl rfl ?_
    obtain ⟨x14, hc15, h⟩ := h
    refine AOps.call hc15 rfl rfl rfl ⟨.inl rfl, trivial⟩ ?_
    refine pB rfl rfl rfl ?_
    refine pB rfl rfl rfl ?_
    refine pB rfl rfl rfl ?_
    refine AOps.splitB 23 rfl (fun e => ?_) (fun e => ?_)
    · replace h := h.1 e
      refine AOps.off rfl rfl ?_
      refine AOps.off rfl rfl ?_
      refine AOps.off rfl rfl ?_
      refine AOps.off rfl rfl ?_
      refine AOps.off rfl rfl ?_
      refine AOps.off rfl rfl ?_
      refine AOps.off rfl rfl ?_
      refine pB rfl rfl rfl ?_
      refine AOps.done ?_
      refine AWp.condT rfl ?_
      refine AWp.seq ?_
      refine AWp.regionN (fun _ => false) rfl ?_
      refine pS rfl rfl rfl ?_
      refine pI rfl rfl rfl ?_
      refine AOps.done ?_
      refine AWp.ret ?_
      subst h
      exact ⟨_, rfl, rfl⟩
    · replace h := h.2 e
      refine pS rfl rfl rfl ?_
      obtain ⟨hi16, x17, hx18, h⟩ := h
      refine AOps.idx tabOk (z := .sl 36 2 (List.map GIval.enc x17)) rfl rfl rfl rfl rfl rfl rfl rfl hi16 (map_get hx18) ?_
      refine pS rfl rfl rfl ?_
      refine AOps.i (j := ((x17.length : Nat) : Int)) tabOk rfl rfl rfl (by first | (rw [List.length_map]; done) | rfl) ?_
      refine pS rfl rfl rfl ?_
      refine AOps.i (j := ((x2.length : Nat) : Int)) tabOk rfl rfl rfl (by first | (rw [List.length_map]; done) | rfl) ?_
      refine pB rfl rfl rfl ?_
      refine pB rfl rfl rfl ?_
      refine AOps.done ?_
      refine AWp.cond rfl (fun e => ?_) (fun e => ?_)
      · replace h := h.1 e
        refine AWp.seq ?_
        refine AWp.regionN (fun _ => false) rfl ?_
        refine pS rfl rfl rfl ?_
        refine pI rfl rfl rfl ?_
        refine AOps.done ?_
        refine AWp.ret ?_
        subst h
        exact ⟨_, rfl, rfl⟩
      · replace h := h.2 e
        refine AWp.skip ?_
        refine AWp.seq ?_
        refine AWp.regionN (fun _ => false) rfl ?_
        refine pS rfl rfl rfl ?_
        refine AOps.i (j := ((x1.length : Nat) : Int)) tabOk rfl rfl rfl (by first | (rw [List.length_map]; done) | rfl) ?_
        obtain ⟨h1, h2, h3, x22, ex22, h⟩ := h.get
        refine AOps.makerr tabOk rfl rfl rfl rfl rfl rfl rfl rfl h1 h2 h3 (mm_rep (enc := GIval.enc) ex22) ?_
        refine pO rfl rfl rfl ?_
        refine AOps.done ?_
        refine AWp.seq ?_
        refine AWp.seq ?_
        refine AWp.regionN (fun _ => false) rfl ?_
        refine pS rfl rfl rfl ?_
        obtain ⟨hi23, x24, hx25, h⟩ := h
        refine AOps.idx tabOk (z := .sl 36 2 (List.map GIval.enc x24)) rfl rfl rfl rfl rfl rfl rfl rfl hi23 (map_get hx25) ?_
        refine pS rfl rfl rfl ?_
        refine AOps.i (j := ((x24.length : Nat) : Int)) tabOk rfl rfl rfl (by first | (rw [List.length_map]; done) | rfl) ?_
        refine pI rfl rfl rfl ?_
        refine AOps.done ?_
        refine AWp.block ?_
        obtain ⟨I1277, x1278, hz1279, hr1280⟩ := h
        refine AWp.loop (I := fun p : (List (List GIval)) × Int => mkSt [(0, .dat (.sl 34 1 (List.map (eSl 36 2 GIval.enc) x1))), (1, .dat (.sl 34 1 (List.map (eSl 36 2 GIval.enc) x2))), (6, .oref 1006), (38, .dat (.v (.int .i64 ((x24.length : Nat) : Int)))), (39, .dat (.v (.int .i64 p.2)))] [(1006, .rr 34 36 2 (List.map (List.map GIval.enc) p.1) [])]) (Inv := fun p => I1277 p.1 p.2) (μ := fun p => x1278 p.1 p.2) (x0 := ⟨x22, (0 : Int)⟩) hz1279 (Sub.list (fun i => (if Nat.beq i 1006 then 34 else i)) rfl rfl ⟨rfl, rfl, rfl, rfl, rfl, trivial⟩ ⟨rfl, trivial⟩) (fun p hp => ?_)
        obtain ⟨x965, x966⟩ := p
        have h := hr1280 x965 x966 hp
        refine AWp.seq ?_
        refine AWp.regionN (fun _ => false) rfl ?_
        refine pW rfl rfl rfl ?_
        refine AOps.done ?_
        refine AWp.seq ?_
        refine AWp.cond rfl (fun e => ?_) (fun e => ?_)
        · replace h := h.1 e
          refine AWp.skip ?_
          refine AWp.seq ?_
          refine AWp.block ?_
          refine AWp.seq ?_
          refine AWp.regionN (fun _ => false) rfl ?_
          refine pI rfl rfl rfl ?_
          refine pI rfl rfl rfl ?_
          refine AOps.done ?_
          refine AWp.seq ?_
          refine AWp.regionN (fun _ => false) rfl ?_
          refine AOps.nilown tabOk rfl rfl rfl rfl rfl rfl ?_
          refine AOps.done ?_
          refine AWp.seq ?_
          refine AWp.seq ?_
          refine AWp.regionN (fun _ => false) rfl ?_
          refine pS rfl rfl rfl ?_
          refine AOps.i (j := ((x2.length : Nat) : Int)) tabOk rfl rfl rfl (by first | (rw [List.length_map]; done) | rfl) ?_
          refine pI rfl rfl rfl ?_
          refine AOps.done ?_
          refine AWp.block ?_
          obtain ⟨I1273, x1274, hz1275, hr1276⟩ := h
          refine AWp.loop (I := fun p : (List GIval) × Int => mkSt [(0, .dat (.sl 34 1 (List.map (eSl 36 2 GIval.enc) x1))), (1, .dat (.sl 34 1 (List.map (eSl 36 2 GIval.enc) x2))), (6, .oref 1006), (7, .dat (.v (.int .i64 x966))), (8, .oref 1008), (38, .dat (.v (.int .i64 ((x24.length : Nat) : Int)))), (39, .dat (.v (.int .i64 x966))), (42, .dat (.sl 34 1 (List.map (eSl 36 2 GIval.enc) x2))), (43, .dat (.v (.int .i64 ((x2.length : Nat) : Int)))), (44, .dat (.v (.int .i64 p.2)))] [(1006, .rr 34 36 2 (List.map (List.map GIval.enc) x965) []), (1008, .row 36 2 (List.map GIval.enc p.1))]) (Inv := fun p => I1273 p.1 p.2) (μ := fun p => x1274 p.1 p.2) (x0 := ⟨([] : List GIval), (0 : Int)⟩) hz1275 (Sub.list (fun i => (if Nat.beq i 1008 then 8 else i)) rfl rfl ⟨rfl, rfl, rfl, rfl, rfl, rfl, rfl, rfl, rfl, rfl, trivial⟩ ⟨rfl, rfl, trivial⟩) (fun p hp => ?_)
          obtain ⟨x1181, x1182⟩ := p
          have h := hr1276 x1181 x1182 hp
          refine AWp.seq ?_
          refine AWp.regionN (fun _ => false) rfl ?_
          refine pW rfl rfl rfl ?_
          refine AOps.done ?_
          refine AWp.seq ?_
          refine AWp.cond rfl (fun e => ?_) (fun e => ?_)
          · replace h := h.1 e
            refine AWp.skip ?_
            refine AWp.seq ?_
            refine AWp.block ?_
            refine AWp.seq ?_
            refine AWp.regionN (fun _ => false) rfl ?_
            obtain ⟨hi1191, x1192, hx1193, h⟩ := h
            refine AOps.idx tabOk (z := .sl 36 2 (List.map GIval.enc x1192)) rfl rfl rfl rfl rfl rfl rfl rfl hi1191 (map_get hx1193) ?_
            refine pS rfl rfl rfl ?_
            refine pS rfl rfl rfl ?_
            refine AOps.done ?_
            refine AWp.regionN (fun o => writes o) rfl ?_
            refine pO rfl rfl rfl ?_
            refine pS rfl rfl rfl ?_
            refine pI rfl rfl rfl ?_
            obtain ⟨hi1194, x1195, hx1196, h⟩ := h
            refine AOps.idx tabOk (z := GIval.enc x1195) rfl rfl rfl rfl rfl rfl rfl rfl hi1194 (map_get hx1196) ?_
            refine pT rfl rfl rfl ?_
            refine AOps.lit tabOk (ys := [GIval.enc x1195]) rfl rfl rfl rfl rfl rfl ?_
            obtain ⟨h1, h2, x1197, ex1197, h⟩ := h.get
            refine AOps.append tabOk rfl rfl rfl rfl rfl rfl rfl rfl rfl rfl rfl (.inl ⟨_, rfl⟩) (app1 h1) (app2 h2) (app3 ex1197) ?_
            refine pO rfl rfl rfl ?_
            refine AOps.done ?_
            refine AWp.regionN (fun _ => false) rfl ?_
            obtain ⟨x1198, ex1198, h⟩ := h.get
            refine AOps.i tabOk rfl rfl rfl ex1198 ?_
            refine pI rfl rfl rfl ?_
            refine AOps.done ?_
            exact ⟨⟨x1197, x1198⟩, h.1, h.2, (Sub.list (fun i => (if Nat.beq i 1008 then 54 else i)) rfl rfl ⟨rfl, rfl, rfl, rfl, rfl, rfl, rfl, rfl, rfl, rfl, trivial⟩ ⟨rfl, rfl, trivial⟩)⟩
          · replace h := h.2 e
            refine AWp.exit ?_
            refine AWp.seq ?_
            refine AWp.regionN (fun _ => false) rfl ?_
            refine pS rfl rfl rfl ?_
            refine AOps.i (j := ((x1.length : Nat) : Int)) tabOk rfl rfl rfl (by first | (rw [List.length_map]; done) | rfl) ?_
            refine pI rfl rfl rfl ?_
            refine AOps.done ?_
            refine AWp.block ?_
            obtain ⟨I1269, x1270, hz1271, hr1272⟩ := h
            refine AWp.loop (I := fun p : (List (List GIval)) × Int => mkSt [(0, .dat (.sl 34 1 (List.map (eSl 36 2 GIval.enc) x1))), (1, .dat (.sl 34 1 (List.map (eSl 36 2 GIval.enc) x2))), (6, .oref 1006), (8, .oref 1008), (38, .dat (.v (.int .i64 ((x24.length : Nat) : Int)))), (39, .dat (.v (.int .i64 x966))), (56, .dat (.sl 34 1 (List.map (eSl 36 2 GIval.enc) x1))), (57, .dat (.v (.int .i64 ((x1.length : Nat) : Int)))), (58, .dat (.v (.int .i64 p.2)))] [(1006, .rr 34 36 2 (List.map (List.map GIval.enc) p.1) []), (1008, .row 36 2 (List.map GIval.enc x1181))]) (Inv := fun p => I1269 p.1 p.2) (μ := fun p => x1270 p.1 p.2) (x0 := ⟨x965, (0 : Int)⟩) hz1271 (Sub.list (fun i => i) rfl rfl ⟨rfl, rfl, rfl, rfl, rfl, rfl, rfl, rfl, rfl, trivial⟩ ⟨rfl, rfl, trivial⟩) (fun p hp => ?_)
            obtain ⟨x1234, x1235⟩ := p
            have h := hr1272 x1234 x1235 hp
            refine AWp.seq ?_
            refine AWp.regionN (fun _ => false) rfl ?_
            refine pW rfl rfl rfl ?_
            refine AOps.done ?_
            refine AWp.seq ?_
            refine AWp.cond rfl (fun e => ?_) (fun e => ?_)
            · replace h := h.1 e
              refine AWp.skip ?_
              refine AWp.seq ?_
              refine AWp.block ?_
              refine AWp.seq ?_
              refine AWp.regionN (fun _ => false) rfl ?_
              refine pI rfl rfl rfl ?_
              obtain ⟨hi1252, x1253, hx1254, h⟩ := h
              refine AOps.idx tabOk (z := .sl 36 2 (List.map GIval.enc x1253)) rfl rfl rfl rfl rfl rfl rfl rfl hi1252 (map_get hx1254) ?_
              refine pS rfl rfl rfl ?_
              refine pI rfl rfl rfl ?_
              refine pS rfl rfl rfl ?_
              refine AOps.done ?_
              refine AWp.seq ?_
              refine AWp.regionN (fun o => writes o) rfl ?_
              refine pS rfl rfl rfl ?_
              refine pO rfl rfl rfl ?_
              obtain ⟨x1255, hc1256, h⟩ := h
              refine AOps.call (AFn.fresh rfl hc1256) rfl rfl rfl ⟨.inl rfl, .inr (.inr ⟨rfl, _, _, _, _, rfl, rfl, rfl⟩), trivial⟩ ?_
              refine pU rfl rfl rfl ?_
              refine pT rfl rfl rfl ?_
              refine pI rfl rfl rfl ?_
              refine AOps.alloc tabOk rfl rfl rfl rfl rfl ?_
              refine AOps.store tabOk (v := .dat (.st _ _)) rfl rfl rfl rfl rfl rfl rfl rfl rfl rfl rfl rfl rfl ?_
              refine pI rfl rfl rfl ?_
              refine AOps.done ?_
              obtain ⟨hi1257, x1258, hx1259, h⟩ := h
              refine AWp.sub (Sub.lend (id := 1006) (d := 6259) (m := (Int.toNat x1235)) rfl rfl (mm_get hx1259) holeAt_nil) ?_
              refine AWp.regionE [(6, 1006), (13, 13)] (fun o => writes o) mixed (by decide +kernel) rfl (Fix.cons (fun _ h => h) (Fix.cons (fun _ h => h) Fix.nil)) ?_
              refine pO rfl rfl rfl ?_
              refine pI rfl rfl rfl ?_
              refine pO rfl rfl rfl ?_
              refine pI rfl rfl rfl ?_
              refine AOps.idxrr tabOk rfl rfl rfl rfl rfl rfl rfl rfl hi1257 (mm_lt hi1257 hx1259) rfl ?_
              refine AOps.loadrr tabOk rfl rfl rfl rfl rfl rfl rfl (mm_lt2 hx1259) holeAt_hd ?_
              refine pT rfl rfl rfl ?_
              refine AOps.lit tabOk (ys := [GIval.enc x1255.1]) rfl rfl rfl rfl rfl rfl ?_
              obtain ⟨h1, h2, x1263, ex1263, h⟩ := h.get
              refine AOps.append tabOk rfl rfl rfl rfl rfl rfl rfl rfl rfl rfl rfl (.inl ⟨_, rfl⟩) (app1 h1) (app2 h2) (app3 ex1263) ?_
              refine AOps.idxrr tabOk rfl rfl rfl rfl rfl rfl rfl rfl hi1257 (mm_lt hi1257 hx1259) rfl ?_
              refine AOps.storerr (hs' := [((Int.toNat x1235), 77)]) tabOk rfl rfl rfl rfl rfl rfl rfl rfl (mm_lt2 hx1259) rfl hole1 hole1m ?_
              refine AOps.done ?_
              refine AWp.sub (Sub.unlend (id := 1006) (d := 77) (m := (Int.toNat x1235)) rfl rfl holeAt_nil mm_set) ?_
              refine AWp.regionN (fun _ => false) rfl ?_
              obtain ⟨x1267, ex1267, h⟩ := h.get
              refine AOps.i tabOk rfl rfl rfl ex1267 ?_
              refine pI rfl rfl rfl ?_
              refine AOps.done ?_
              exact ⟨⟨(List.set x1234 (Int.toNat x1235) x1263), x1267⟩, h.1, h.2, (Sub.list (fun i => i) rfl rfl ⟨rfl, rfl, rfl, rfl, rfl, rfl, rfl, rfl, rfl, trivial⟩ ⟨rfl, rfl, trivial⟩)⟩
            · replace h := h.2 e
              refine AWp.exit ?_
              refine AWp.regionN (fun _ => false) rfl ?_
              obtain ⟨x1268, ex1268, h⟩ := h.get
              refine AOps.i tabOk rfl rfl rfl ex1268 ?_
              refine pI rfl rfl rfl ?_
              refine AOps.done ?_
              exact ⟨⟨x1234, x1268⟩, h.1, h.2, (Sub.list (fun i => i) rfl rfl ⟨rfl, rfl, rfl, rfl, rfl, trivial⟩ ⟨rfl, trivial⟩)⟩
        · replace h := h.2 e
          refine AWp.exit ?_
          refine AWp.seq ?_
          refine AWp.regionN (fun _ => false) rfl ?_
          refine pO rfl rfl rfl ?_
          refine pO rfl rfl rfl ?_
          refine pI rfl rfl rfl ?_
          refine AOps.done ?_
          refine AWp.freezerr 4 1006 rfl rfl mm_sl ?_
          refine AWp.ret ?_
          subst h
          exact ⟨_, rfl, rfl⟩
def W_lin_unit (n1 : Int) (Q : List (List Nat) → Prop) : Prop :=
  Mk 24 n1 ([] : List Nat) fun x2 =>
  Loop2 x2 (0 : Int) (fun (out114 : List (List Nat)) (x115 : Int) next116 =>
    Br (decide (x115 < ((x2.length : Nat) : Int))) (
      At out114 x115 fun x134 =>
      Mk 8 n1 (0 : Nat) fun x136 =>
      At (List.set out114 (Int.toNat x115) x136) x115 fun x141 =>
      At x141 x115 fun x147 =>
      Let (IntKind.i64.wrap (x115 + (1 : Int))) fun x149 =>
      next116 (List.set (List.set out114 (Int.toNat x115) x136) (Int.toNat x115) (List.set x141 (Int.toNat x115) (4607182418800017408 : Nat))) x149) (
      Q out114))
theorem walk_lin_unit {n1 : Int} {r : List (List Nat)} (h : W_lin_unit n1 (fun r' => r' = r)) : Ev_lin_unit n1 r := by
  unfold W_lin_unit at h
  refine AFn.intro' (L := [(0, .dat (.v (.int .i64 n1)))]) tabOk Try.func54 rfl rfl Try.ntmps54 rfl rfl rfl ?_
  refine AWp.seq ?_
  refine AWp.regionN (fun _ => false) rfl ?_
  refine pS rfl rfl rfl ?_
  refine AOps.done ?_
  refine AWp.seq ?_
  refine AWp.regionN (fun _ => false) rfl ?_
  refine pI rfl rfl rfl ?_
  obtain ⟨h1, h2, h3, x2, ex2, h⟩ := h.get
  refine AOps.makerr tabOk rfl rfl rfl rfl rfl rfl rfl rfl h1 h2 h3 (mm_rep (enc := (eFlt .f64)) ex2) ?_
  refine pO rfl rfl rfl ?_
  refine AOps.done ?_
  refine AWp.seq ?_
  refine AWp.seq ?_
  refine AWp.regionN (fun _ => false) rfl ?_
  refine pO rfl rfl rfl ?_
  refine AOps.i (j := ((x2.length : Nat) : Int)) tabOk rfl rfl rfl (by first | (rw [List.length_map]; done) | rfl) ?_
  refine pI rfl rfl rfl ?_
  refine AOps.done ?_
  refine AWp.block ?_
  obtain ⟨I150, x151, hz152, hr153⟩ := h
  refine AWp.loop (I := fun p : (List (List Nat)) × Int => mkSt [(0, .dat (.v (.int .i64 n1))), (3, .oref 1003), (8, .dat (.v (.int .i64 ((x2.length : Nat) : Int)))), (9, .dat (.v (.int .i64 p.2)))] [(1003, .rr 83 24 1 (List.map (List.map (eFlt .f64)) p.1) [])]) (Inv := fun p => I150 p.1 p.2) (μ := fun p => x151 p.1 p.2) (x0 := ⟨x2, (0 : Int)⟩) hz152 (Sub.list (fun i => (if Nat.beq i 1003 then 6 else i)) rfl rfl ⟨rfl, rfl, rfl, rfl, trivial⟩ ⟨rfl, trivial⟩) (fun p hp => ?_)
  obtain ⟨out114, x115⟩ := p
  have h := hr153 out114 x115 hp
  refine AWp.seq ?_
  refine AWp.regionN (fun _ => false) rfl ?_
  refine pW rfl rfl rfl ?_
  refine AOps.done ?_
  refine AWp.seq ?_
  refine AWp.cond rfl (fun e => ?_) (fun e => ?_)
  · replace h := h.1 e
    refine AWp.skip ?_
    refine AWp.seq ?_
    refine AWp.block ?_
    refine AWp.seq ?_
    refine AWp.regionN (fun _ => false) rfl ?_
    refine pI rfl rfl rfl ?_
    refine pI rfl rfl rfl ?_
    refine AOps.done ?_
    refine AWp.seq ?_
    obtain ⟨hi133, x134, hx135, h⟩ := h
    refine AWp.sub (Sub.lend (id := 1003) (d := 5135) (m := (Int.toNat x115)) rfl rfl (mm_get hx135) holeAt_nil) ?_
    refine AWp.regionN (fun o => writes o) rfl ?_
    refine pO rfl rfl rfl ?_
    refine pI rfl rfl rfl ?_
    refine pI rfl rfl rfl ?_
    obtain ⟨h1, h2, h3, x136, ex136, h⟩ := h.get
    refine AOps.makeownE tabOk (e := (eFlt .f64)) rfl rfl rfl rfl rfl rfl rfl h1 h2 h3 rfl ex136 ?_
    refine AOps.idxrr tabOk rfl rfl rfl rfl rfl rfl rfl rfl hi133 (mm_lt hi133 hx135) rfl ?_
    refine AOps.storerr (hs' := [((Int.toNat x115), 15)]) tabOk rfl rfl rfl rfl rfl rfl rfl rfl (mm_lt2 hx135) rfl hole1 hole1m ?_
    refine AOps.done ?_
    refine AWp.sub (Sub.unlend (id := 1003) (d := 15) (m := (Int.toNat x115)) rfl rfl holeAt_nil mm_set) ?_
    obtain ⟨hi140, x141, hx142, h⟩ := h
    refine AWp.sub (Sub.lend (id := 1003) (d := 5142) (m := (Int.toNat x115)) rfl rfl (mm_get hx142) holeAt_nil) ?_
    refine AWp.regionN (fun o => writes o) rfl ?_
    refine pO rfl rfl rfl ?_
    refine pI rfl rfl rfl ?_
    refine AOps.idxrr tabOk rfl rfl rfl rfl rfl rfl rfl rfl hi140 (mm_lt hi140 hx142) rfl ?_
    refine AOps.loadrr tabOk rfl rfl rfl rfl rfl rfl rfl (mm_lt2 hx142) holeAt_hd ?_
    refine pI rfl rfl rfl ?_
    obtain ⟨hi146, x147, hx148, h⟩ := h
    refine AOps.idxown tabOk rfl rfl rfl rfl rfl rfl rfl rfl hi146 (map_lt hi146 hx148) rfl ?_
    refine AOps.storerow tabOk rfl rfl rfl rfl rfl rfl rfl rfl (map_lt2 hx148) rfl rfl rfl (map_set1 (e := (eFlt .f64)) (x := (4607182418800017408 : Nat))) ?_
    refine AOps.done ?_
    refine AWp.sub (Sub.unlend (id := 1003) (d := 5142) (m := (Int.toNat x115)) rfl rfl holeAt_nil mm_set) ?_
    refine AWp.regionN (fun _ => false) rfl ?_
    obtain ⟨x149, ex149, h⟩ := h.get
    refine AOps.i tabOk rfl rfl rfl ex149 ?_
    refine pI rfl rfl rfl ?_
    refine AOps.done ?_
    exact ⟨⟨(List.set (List.set out114 (Int.toNat x115) x136) (Int.toNat x115) (List.set x141 (Int.toNat x115) (4607182418800017408 : Nat))), x149⟩, h.1, h.2, (Sub.list (fun i => i) rfl rfl ⟨rfl, rfl, rfl, rfl, trivial⟩ ⟨rfl, trivial⟩)⟩
  · replace h := h.2 e
    refine AWp.exit ?_
    refine AWp.seq ?_
    refine AWp.regionN (fun _ => false) rfl ?_
    refine pO rfl rfl rfl ?_
    refine pO rfl rfl rfl ?_
    refine AOps.done ?_
    refine AWp.freezerr 2 1003 rfl rfl mm_sl ?_
    refine AWp.ret ?_
    subst h
    exact ⟨_, rfl, rfl⟩
end Go.Sim.Ytlglkgineclggaa
