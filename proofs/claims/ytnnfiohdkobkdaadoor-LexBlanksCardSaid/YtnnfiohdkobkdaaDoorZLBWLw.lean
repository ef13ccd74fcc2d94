/- What is proved: functions of the program compute what plain statements tell. -/
import Derived.Test.YtnnfiohdkobkdaaDoorZLBWE
namespace Go.Sim.YtnnfiohdkobkdaaDoor
open Go.RowKit Go.Proofs Go.Proofs.Tryd
set_option maxRecDepth 100000
def W_law12_LexBlanks (x1 : ByteArray) (x2 : List Int) (Q : Bool → Prop) : Prop :=
  Call (Ev_law12_alive) fun x3 =>
  Br (!x3) (Q false) (
    Call (Ev_lex_Lex x1) fun x5 =>
    Br (x5.2.1 != (0 : Int)) (Q true) (
      Br (decide (((x5.1.length : Nat) : Int) > (300 : Int))) (Q true) (
        Loop3 (ByteArray.mk #[]) (0 : Int) (0 : Int) (fun (x117 : ByteArray) (x118 : Int) (x119 : Int) next120 =>
          Br (decide (x119 < ((x5.1.length : Nat) : Int))) (
            At x5.1 x119 fun x135 =>
            SlS x1 x118 x135.At fun x137 =>
            Cat x117 x137 fun x138 =>
            Br (decide (x119 < ((x2.length : Nat) : Int))) (
              At x2 x119 fun x141 =>
              Let (Int.tmod x141 (4 : Int)) fun x143 =>
              Br (x143 == (1 : Int)) (
                Cat x138 (ByteArray.mk #[32, 9, 13, 10]) fun x144 =>
                Let (IntKind.i64.wrap (x119 + (1 : Int))) fun x145 =>
                next120 x144 x135.At x145) (
                Br (x143 == (2 : Int)) (
                  Cat x138 (ByteArray.mk #[32, 47, 47, 32, 109, 111, 100, 101, 108, 32, 40, 32, 49, 101, 10]) fun x146 =>
                  Let (IntKind.i64.wrap (x119 + (1 : Int))) fun x147 =>
                  next120 x146 x135.At x147) (
                  Br (x143 == (3 : Int)) (
                    Cat x138 (ByteArray.mk #[10, 47, 47, 10, 47, 47, 10]) fun x148 =>
                    Let (IntKind.i64.wrap (x119 + (1 : Int))) fun x149 =>
                    next120 x148 x135.At x149) (
                    Let (IntKind.i64.wrap (x119 + (1 : Int))) fun x150 =>
                    next120 x138 x135.At x150)))) (
              Let (IntKind.i64.wrap (x119 + (1 : Int))) fun x151 =>
              next120 x138 x135.At x151)) (
            SlS x1 x118 ((x1.size : Nat) : Int) fun x152 =>
            Cat x117 x152 fun x153 =>
            Br (decide (((x153.size : Nat) : Int) > (20000 : Int))) (Q true) (
              Call (Ev_lex_Lex x153) fun x154 =>
              Br (x154.2.1 == (0 : Int)) (
                Call (Ev_ref12_Like x5.1 x154.1 false) fun x158 =>
                Q x158) (
                Q false)))))))
theorem walk_law12_LexBlanks {x1 : ByteArray} {x2 : List Int} {r : Bool} (h : W_law12_LexBlanks x1 x2 (fun r' => r' = r)) : Ev_law12_LexBlanks x1 x2 r := by
  unfold W_law12_LexBlanks at h
  refine AFn.intro' (L := [(0, .dat (.v (.string x1))), (1, .dat (.sl 3 1 (List.map (eInt .i64) x2)))]) tabOk Tryd.func5 rfl rfl Tryd.ntmps5 rfl rfl rfl ?_
  refine AWp.seq ?_
  refine AWp.regionN (fun _ => false) rfl ?_
  refine pB rfl rfl rfl ?_
  refine AOps.done ?_
  refine AWp.seq ?_
  refine AWp.seq ?_
  refine AWp.regionN (fun _ => false) rfl ?_
  obtain ⟨x3, hc4, h⟩ := h
  refine AOps.call hc4 rfl rfl rfl trivial ?_
  refine pB rfl rfl rfl ?_
  refine AOps.done ?_
  refine AWp.cond rfl (fun e => ?_) (fun e => ?_)
  · replace h := h.1 e
    refine AWp.seq ?_
    refine AWp.regionN (fun _ => false) rfl ?_
    refine pB rfl rfl rfl ?_
    refine AOps.done ?_
    refine AWp.ret ?_
    subst h
    exact ⟨_, rfl, rfl⟩
  · replace h := h.2 e
    refine AWp.skip ?_
    refine AWp.seq ?_
    refine AWp.regionN (fun _ => false) rfl ?_
    refine pG rfl rfl rfl ?_
    obtain ⟨x5, hc6, h⟩ := h
    refine AOps.call hc6 rfl rfl rfl ⟨.inl rfl, trivial⟩ ?_
    refine pU rfl rfl rfl ?_
    refine pS rfl rfl rfl ?_
    refine pI rfl rfl rfl ?_
    refine pI rfl rfl rfl ?_
    refine pS rfl rfl rfl ?_
    refine pI rfl rfl rfl ?_
    refine pI rfl rfl rfl ?_
    refine AOps.done ?_
    refine AWp.seq ?_
    refine AWp.seq ?_
    refine AWp.regionN (fun _ => false) rfl ?_
    refine pI rfl rfl rfl ?_
    refine pB rfl rfl rfl ?_
    refine pB rfl rfl rfl ?_
    refine AOps.splitB 25 rfl (fun e => ?_) (fun e => ?_)
    · replace h := h.1 e
      refine AOps.off rfl rfl ?_
      refine AOps.off rfl rfl ?_
      refine AOps.off rfl rfl ?_
      refine pB rfl rfl rfl ?_
      refine AOps.done ?_
      refine AWp.condT rfl ?_
      refine AWp.seq ?_
      refine AWp.regionN (fun _ => false) rfl ?_
      refine pB rfl rfl rfl ?_
      refine AOps.done ?_
      refine AWp.ret ?_
      subst h
      exact ⟨_, rfl, rfl⟩
    · replace h := h.2 e
      refine pS rfl rfl rfl ?_
      refine AOps.i (j := ((x5.1.length : Nat) : Int)) tabOk rfl rfl rfl (by first | (rw [List.length_map]; done) | rfl) ?_
      refine pB rfl rfl rfl ?_
      refine pB rfl rfl rfl ?_
      refine AOps.done ?_
      refine AWp.cond rfl (fun e => ?_) (fun e => ?_)
      · replace h := h.1 e
        refine AWp.seq ?_
        refine AWp.regionN (fun _ => false) rfl ?_
        refine pB rfl rfl rfl ?_
        refine AOps.done ?_
        refine AWp.ret ?_
        subst h
        exact ⟨_, rfl, rfl⟩
      · replace h := h.2 e
        refine AWp.skip ?_
        refine AWp.seq ?_
        refine AWp.regionN (fun _ => false) rfl ?_
        refine pG rfl rfl rfl ?_
        refine pI rfl rfl rfl ?_
        refine AOps.done ?_
        refine AWp.seq ?_
        refine AWp.seq ?_
        refine AWp.regionN (fun _ => false) rfl ?_
        refine pS rfl rfl rfl ?_
        refine AOps.i (j := ((x5.1.length : Nat) : Int)) tabOk rfl rfl rfl (by first | (rw [List.length_map]; done) | rfl) ?_
        refine pI rfl rfl rfl ?_
        refine AOps.done ?_
        refine AWp.block ?_
        obtain ⟨I160, x161, hz162, hr163⟩ := h
        refine AWp.loop (I := fun p : ByteArray × Int × Int => mkSt [(0, .dat (.v (.string x1))), (1, .dat (.sl 3 1 (List.map (eInt .i64) x2))), (5, .dat (.sl 29 5 (List.map GToken.enc x5.1))), (8, .dat (.v (.string p.1))), (9, .dat (.v (.int .i64 p.2.1))), (30, .dat (.sl 29 5 (List.map GToken.enc x5.1))), (31, .dat (.v (.int .i64 ((x5.1.length : Nat) : Int)))), (32, .dat (.v (.int .i64 p.2.2)))] []) (Inv := fun p => I160 p.1 p.2.1 p.2.2) (μ := fun p => x161 p.1 p.2.1 p.2.2) (x0 := ⟨(ByteArray.mk #[]), (0 : Int), (0 : Int)⟩) hz162 (Sub.list (fun i => i) rfl rfl ⟨rfl, rfl, rfl, rfl, rfl, rfl, rfl, rfl, trivial⟩ trivial) (fun p hp => ?_)
        obtain ⟨x117, x118, x119⟩ := p
        have h := hr163 x117 x118 x119 hp
        refine AWp.seq ?_
        refine AWp.regionN (fun _ => false) rfl ?_
        refine pW rfl rfl rfl ?_
        refine AOps.done ?_
        refine AWp.seq ?_
        refine AWp.cond rfl (fun e => ?_) (fun e => ?_)
        · replace h := h.1 e
          refine AWp.skip ?_
          refine AWp.seq ?_
          refine AWp.block ?_
          refine AWp.seq ?_
          refine AWp.regionN (fun o => writes o) rfl ?_
          refine pI rfl rfl rfl ?_
          obtain ⟨hi134, x135, hx136, h⟩ := h
          refine AOps.idx tabOk (z := GToken.enc x135) rfl rfl rfl rfl rfl rfl rfl rfl hi134 (map_get hx136) ?_
          refine pT rfl rfl rfl ?_
          refine AOps.alloc tabOk rfl rfl rfl rfl rfl ?_
          refine pI rfl rfl rfl ?_
          refine AOps.store tabOk (v := .dat (.st _ _)) rfl rfl rfl rfl rfl rfl rfl rfl rfl rfl rfl rfl rfl ?_
          refine AOps.done ?_
          refine AWp.seq ?_
          refine AWp.regionN (fun _ => false) rfl ?_
          refine pG rfl rfl rfl ?_
          refine pG rfl rfl rfl ?_
          refine pI rfl rfl rfl ?_
          refine pP rfl rfl rfl ?_
          refine pI rfl rfl rfl ?_
          obtain ⟨h1, h2, h3, x137, ex137, h⟩ := h.get
          refine AOps.sls tabOk rfl rfl rfl rfl rfl rfl rfl rfl h1 h2 h3 ex137 ?_
          obtain ⟨hq, x138, ex138, h⟩ := h.get
          refine AOps.catE rfl rfl rfl rfl rfl hq ex138 ?_
          refine pG rfl rfl rfl ?_
          refine AOps.done ?_
          refine AWp.seq ?_
          refine AWp.regionN (fun _ => false) rfl ?_
          refine pP rfl rfl rfl ?_
          refine pI rfl rfl rfl ?_
          refine pI rfl rfl rfl ?_
          refine AOps.done ?_
          refine AWp.seq ?_
          refine AWp.regionN (fun _ => false) rfl ?_
          refine pI rfl rfl rfl ?_
          refine pS rfl rfl rfl ?_
          refine AOps.i (j := ((x2.length : Nat) : Int)) tabOk rfl rfl rfl (by first | (rw [List.length_map]; done) | rfl) ?_
          refine pB rfl rfl rfl ?_
          refine AOps.done ?_
          refine AWp.cond rfl (fun e => ?_) (fun e => ?_)
          · replace h := h.1 e
            refine AWp.seq ?_
            refine AWp.regionN (fun _ => false) rfl ?_
            refine pS rfl rfl rfl ?_
            refine pI rfl rfl rfl ?_
            obtain ⟨hi140, x141, hx142, h⟩ := h
            refine AOps.idx tabOk (z := .v (.int .i64 x141)) rfl rfl rfl rfl rfl rfl rfl rfl hi140 (map_get hx142) ?_
            refine pI rfl rfl rfl ?_
            obtain ⟨x143, ex143, h⟩ := h.get
            refine AOps.q rfl rfl rfl rfl rfl (rbin_rem (by decide)) ex143 ?_
            refine AOps.done ?_
            refine AWp.block ?_
            refine AWp.seq ?_
            refine AWp.regionN (fun _ => false) rfl ?_
            refine pB rfl rfl rfl ?_
            refine pB rfl rfl rfl ?_
            refine AOps.done ?_
            refine AWp.cond rfl (fun e => ?_) (fun e => ?_)
            · replace h := h.1 e
              refine AWp.regionN (fun _ => false) rfl ?_
              refine pG rfl rfl rfl ?_
              obtain ⟨hq, x144, ex144, h⟩ := h.get
              refine AOps.catE rfl rfl rfl rfl rfl hq ex144 ?_
              refine pG rfl rfl rfl ?_
              refine AOps.done ?_
              refine AWp.regionN (fun _ => false) rfl ?_
              obtain ⟨x145, ex145, h⟩ := h.get
              refine AOps.i tabOk rfl rfl rfl ex145 ?_
              refine pI rfl rfl rfl ?_
              refine AOps.done ?_
              exact ⟨⟨x144, x135.At, x145⟩, h.1, h.2, (Sub.list (fun i => i) rfl rfl ⟨rfl, rfl, rfl, rfl, rfl, rfl, rfl, rfl, trivial⟩ trivial)⟩
            · replace h := h.2 e
              refine AWp.seq ?_
              refine AWp.regionN (fun _ => false) rfl ?_
              refine pB rfl rfl rfl ?_
              refine pB rfl rfl rfl ?_
              refine AOps.done ?_
              refine AWp.cond rfl (fun e => ?_) (fun e => ?_)
              · replace h := h.1 e
                refine AWp.regionN (fun _ => false) rfl ?_
                refine pG rfl rfl rfl ?_
                obtain ⟨hq, x146, ex146, h⟩ := h.get
                refine AOps.catE rfl rfl rfl rfl rfl hq ex146 ?_
                refine pG rfl rfl rfl ?_
                refine AOps.done ?_
                refine AWp.regionN (fun _ => false) rfl ?_
                obtain ⟨x147, ex147, h⟩ := h.get
                refine AOps.i tabOk rfl rfl rfl ex147 ?_
                refine pI rfl rfl rfl ?_
                refine AOps.done ?_
                exact ⟨⟨x146, x135.At, x147⟩, h.1, h.2, (Sub.list (fun i => i) rfl rfl ⟨rfl, rfl, rfl, rfl, rfl, rfl, rfl, rfl, trivial⟩ trivial)⟩
              · replace h := h.2 e
                refine AWp.seq ?_
                refine AWp.regionN (fun _ => false) rfl ?_
                refine pB rfl rfl rfl ?_
                refine pB rfl rfl rfl ?_
                refine AOps.done ?_
                refine AWp.cond rfl (fun e => ?_) (fun e => ?_)
                · replace h := h.1 e
                  refine AWp.regionN (fun _ => false) rfl ?_
                  refine pG rfl rfl rfl ?_
                  obtain ⟨hq, x148, ex148, h⟩ := h.get
                  refine AOps.catE rfl rfl rfl rfl rfl hq ex148 ?_
                  refine pG rfl rfl rfl ?_
                  refine AOps.done ?_
                  refine AWp.regionN (fun _ => false) rfl ?_
                  obtain ⟨x149, ex149, h⟩ := h.get
                  refine AOps.i tabOk rfl rfl rfl ex149 ?_
                  refine pI rfl rfl rfl ?_
                  refine AOps.done ?_
                  exact ⟨⟨x148, x135.At, x149⟩, h.1, h.2, (Sub.list (fun i => i) rfl rfl ⟨rfl, rfl, rfl, rfl, rfl, rfl, rfl, rfl, trivial⟩ trivial)⟩
                · replace h := h.2 e
                  refine AWp.skip ?_
                  refine AWp.regionN (fun _ => false) rfl ?_
                  obtain ⟨x150, ex150, h⟩ := h.get
                  refine AOps.i tabOk rfl rfl rfl ex150 ?_
                  refine pI rfl rfl rfl ?_
                  refine AOps.done ?_
                  exact ⟨⟨x138, x135.At, x150⟩, h.1, h.2, (Sub.list (fun i => i) rfl rfl ⟨rfl, rfl, rfl, rfl, rfl, rfl, rfl, rfl, trivial⟩ trivial)⟩
          · replace h := h.2 e
            refine AWp.skip ?_
            refine AWp.regionN (fun _ => false) rfl ?_
            obtain ⟨x151, ex151, h⟩ := h.get
            refine AOps.i tabOk rfl rfl rfl ex151 ?_
            refine pI rfl rfl rfl ?_
            refine AOps.done ?_
            exact ⟨⟨x138, x135.At, x151⟩, h.1, h.2, (Sub.list (fun i => i) rfl rfl ⟨rfl, rfl, rfl, rfl, rfl, rfl, rfl, rfl, trivial⟩ trivial)⟩
        · replace h := h.2 e
          refine AWp.exit ?_
          refine AWp.seq ?_
          refine AWp.regionN (fun _ => false) rfl ?_
          refine pG rfl rfl rfl ?_
          refine pG rfl rfl rfl ?_
          refine pI rfl rfl rfl ?_
          obtain ⟨h1, h2, h3, x152, ex152, h⟩ := h.get
          refine AOps.slsl tabOk rfl rfl rfl rfl rfl rfl rfl rfl h1 h2 ex152 ?_
          obtain ⟨hq, x153, ex153, h⟩ := h.get
          refine AOps.catE rfl rfl rfl rfl rfl hq ex153 ?_
          refine pG rfl rfl rfl ?_
          refine AOps.done ?_
          refine AWp.seq ?_
          refine AWp.seq ?_
          refine AWp.regionN (fun _ => false) rfl ?_
          refine pG rfl rfl rfl ?_
          refine pI rfl rfl rfl ?_
          refine pB rfl rfl rfl ?_
          refine AOps.done ?_
          refine AWp.cond rfl (fun e => ?_) (fun e => ?_)
          · replace h := h.1 e
            refine AWp.seq ?_
            refine AWp.regionN (fun _ => false) rfl ?_
            refine pB rfl rfl rfl ?_
            refine AOps.done ?_
            refine AWp.ret ?_
            subst h
            exact ⟨_, rfl, rfl⟩
          · replace h := h.2 e
            refine AWp.skip ?_
            refine AWp.seq ?_
            refine AWp.regionN (fun _ => false) rfl ?_
            refine pG rfl rfl rfl ?_
            obtain ⟨x154, hc155, h⟩ := h
            refine AOps.call hc155 rfl rfl rfl ⟨.inl rfl, trivial⟩ ?_
            refine pU rfl rfl rfl ?_
            refine pS rfl rfl rfl ?_
            refine pI rfl rfl rfl ?_
            refine pI rfl rfl rfl ?_
            refine pS rfl rfl rfl ?_
            refine pI rfl rfl rfl ?_
            refine pI rfl rfl rfl ?_
            refine AOps.done ?_
            refine AWp.seq ?_
            refine AWp.regionN (fun _ => false) rfl ?_
            refine pI rfl rfl rfl ?_
            refine pB rfl rfl rfl ?_
            refine pB rfl rfl rfl ?_
            refine AOps.splitB 84 rfl (fun e => ?_) (fun e => ?_)
            · replace h := h.1 e
              refine pS rfl rfl rfl ?_
              refine pS rfl rfl rfl ?_
              obtain ⟨x158, hc159, h⟩ := h
              refine AOps.call hc159 rfl rfl rfl ⟨.inl rfl, .inl rfl, .inl rfl, trivial⟩ ?_
              refine pB rfl rfl rfl ?_
              refine pB rfl rfl rfl ?_
              refine AOps.done ?_
              refine AWp.ret ?_
              subst h
              exact ⟨_, rfl, rfl⟩
            · replace h := h.2 e
              refine AOps.off rfl rfl ?_
              refine AOps.off rfl rfl ?_
              refine AOps.off rfl rfl ?_
              refine pB rfl rfl rfl ?_
              refine pB rfl rfl rfl ?_
              refine AOps.done ?_
              refine AWp.ret ?_
              subst h
              exact ⟨_, rfl, rfl⟩
def W_ref12_Like (x1 : List GToken) (x2 : List GToken) (x3 : Bool) (Q : Bool → Prop) : Prop :=
  Br (((x1.length : Nat) : Int) != ((x2.length : Nat) : Int)) (Q false) (
    Loop1 (0 : Int) (fun (x309 : Int) next310 =>
      Br (decide (x309 < ((x1.length : Nat) : Int))) (
        At x1 x309 fun x384 =>
        At x2 x309 fun x387 =>
        Br (x384.Kind != x387.Kind) (Q false) (
          At x1 x309 fun x390 =>
          At x2 x309 fun x393 =>
          Br (!(x390.S.toList == x393.S.toList)) (Q false) (
            At x1 x309 fun x396 =>
            At x2 x309 fun x399 =>
            Br (!(GRat.beq x396.Num x399.Num)) (Q false) (
              Br x3 (
                At x1 x309 fun x402 =>
                At x2 x309 fun x405 =>
                Br (x402.At != x405.At) (Q false) (
                  Let (IntKind.i64.wrap (x309 + (1 : Int))) fun x407 =>
                  next310 x407)) (
                Let (IntKind.i64.wrap (x309 + (1 : Int))) fun x408 =>
                next310 x408))))) (
        Q true)))
theorem walk_ref12_Like {x1 : List GToken} {x2 : List GToken} {x3 : Bool} {r : Bool} (h : W_ref12_Like x1 x2 x3 (fun r' => r' = r)) : Ev_ref12_Like x1 x2 x3 r := by
  unfold W_ref12_Like at h
  refine AFn.intro' (L := [(0, .dat (.sl 29 5 (List.map GToken.enc x1))), (1, .dat (.sl 29 5 (List.map GToken.enc x2))), (2, .dat (.v (.bool x3)))]) tabOk Tryd.func7 rfl rfl Tryd.ntmps7 rfl rfl rfl ?_
  refine AWp.seq ?_
  refine AWp.regionN (fun _ => false) rfl ?_
  refine pB rfl rfl rfl ?_
  refine AOps.done ?_
  refine AWp.seq ?_
  refine AWp.seq ?_
  refine AWp.regionN (fun _ => false) rfl ?_
  refine pS rfl rfl rfl ?_
  refine AOps.i (j := ((x1.length : Nat) : Int)) tabOk rfl rfl rfl (by first | (rw [List.length_map]; done) | rfl) ?_
  refine pS rfl rfl rfl ?_
  refine AOps.i (j := ((x2.length : Nat) : Int)) tabOk rfl rfl rfl (by first | (rw [List.length_map]; done) | rfl) ?_
  refine pB rfl rfl rfl ?_
  refine AOps.done ?_
  refine AWp.cond rfl (fun e => ?_) (fun e => ?_)
  · replace h := h.1 e
    refine AWp.seq ?_
    refine AWp.regionN (fun _ => false) rfl ?_
    refine pB rfl rfl rfl ?_
    refine AOps.done ?_
    refine AWp.ret ?_
    subst h
    exact ⟨_, rfl, rfl⟩
  · replace h := h.2 e
    refine AWp.skip ?_
    refine AWp.seq ?_
    refine AWp.seq ?_
    refine AWp.regionN (fun _ => false) rfl ?_
    refine pS rfl rfl rfl ?_
    refine AOps.i (j := ((x1.length : Nat) : Int)) tabOk rfl rfl rfl (by first | (rw [List.length_map]; done) | rfl) ?_
    refine pI rfl rfl rfl ?_
    refine AOps.done ?_
    refine AWp.block ?_
    obtain ⟨I409, x410, hz411, hr412⟩ := h
    refine AWp.loop (I := fun p : Int => mkSt [(0, .dat (.sl 29 5 (List.map GToken.enc x1))), (1, .dat (.sl 29 5 (List.map GToken.enc x2))), (2, .dat (.v (.bool x3))), (14, .dat (.v (.int .i64 ((x1.length : Nat) : Int)))), (15, .dat (.v (.int .i64 p)))] []) (Inv := fun p => I409 p) (μ := fun p => x410 p) (x0 := (0 : Int)) hz411 (Sub.list (fun i => i) rfl rfl ⟨rfl, rfl, rfl, rfl, rfl, trivial⟩ trivial) (fun p hp => ?_)
    have h := hr412 p hp
    revert h; clear hp; generalize p = x309; intro h
    refine AWp.seq ?_
    refine AWp.regionN (fun _ => false) rfl ?_
    refine pW rfl rfl rfl ?_
    refine AOps.done ?_
    refine AWp.seq ?_
    refine AWp.cond rfl (fun e => ?_) (fun e => ?_)
    · replace h := h.1 e
      refine AWp.skip ?_
      refine AWp.seq ?_
      refine AWp.block ?_
      refine AWp.seq ?_
      refine AWp.regionN (fun _ => false) rfl ?_
      refine pI rfl rfl rfl ?_
      refine pI rfl rfl rfl ?_
      refine AOps.done ?_
      refine AWp.seq ?_
      refine AWp.regionD (fun _ => false) mixed (by decide +kernel) rfl ?_
      refine pS rfl rfl rfl ?_
      refine pI rfl rfl rfl ?_
      obtain ⟨hi383, x384, hx385, h⟩ := h
      refine AOps.idx tabOk (z := GToken.enc x384) rfl rfl rfl rfl rfl rfl rfl rfl hi383 (map_get hx385) ?_
      refine pX rfl rfl rfl ?_
      refine pI rfl rfl rfl ?_
      refine pS rfl rfl rfl ?_
      refine pI rfl rfl rfl ?_
      obtain ⟨hi386, x387, hx388, h⟩ := h
      refine AOps.idx tabOk (z := GToken.enc x387) rfl rfl rfl rfl rfl rfl rfl rfl hi386 (map_get hx388) ?_
      refine pX rfl rfl rfl ?_
      refine pI rfl rfl rfl ?_
      refine pB rfl rfl rfl ?_
      refine pB rfl rfl rfl ?_
      refine AOps.splitB 29 rfl (fun e => ?_) (fun e => ?_)
      · replace h := h.1 e
        refine AOps.off rfl rfl ?_
        refine AOps.off rfl rfl ?_
        refine AOps.off rfl rfl ?_
        refine AOps.off rfl rfl ?_
        refine AOps.off rfl rfl ?_
        refine AOps.off rfl rfl ?_
        refine AOps.off rfl rfl ?_
        refine AOps.off rfl rfl ?_
        refine AOps.off rfl rfl ?_
        refine AOps.off rfl rfl ?_
        refine AOps.off rfl rfl ?_
        refine pB rfl rfl rfl ?_
        refine pB rfl rfl rfl ?_
        refine AOps.off rfl rfl ?_
        refine AOps.off rfl rfl ?_
        refine AOps.off rfl rfl ?_
        refine AOps.off rfl rfl ?_
        refine AOps.off rfl rfl ?_
        refine AOps.off rfl rfl ?_
        refine AOps.off rfl rfl ?_
        refine AOps.off rfl rfl ?_
        refine AOps.off rfl rfl ?_
        refine AOps.off rfl rfl ?_
        refine AOps.off rfl rfl ?_
        refine pB rfl rfl rfl ?_
        refine pB rfl rfl rfl ?_
        refine AOps.off rfl rfl ?_
        refine AOps.off rfl rfl ?_
        refine AOps.off rfl rfl ?_
        refine AOps.off rfl rfl ?_
        refine AOps.off rfl rfl ?_
        refine AOps.off rfl rfl ?_
        refine AOps.off rfl rfl ?_
        refine AOps.off rfl rfl ?_
        refine AOps.off rfl rfl ?_
        refine AOps.off rfl rfl ?_
        refine AOps.off rfl rfl ?_
        refine AOps.off rfl rfl ?_
        refine AOps.off rfl rfl ?_
        refine AOps.off rfl rfl ?_
        refine pB rfl rfl rfl ?_
        refine AOps.done ?_
        refine AWp.condT rfl ?_
        refine AWp.seq ?_
        refine AWp.regionN (fun _ => false) rfl ?_
        refine pB rfl rfl rfl ?_
        refine AOps.done ?_
        refine AWp.ret ?_
        subst h
        exact ⟨_, rfl, rfl⟩
      · replace h := h.2 e
        refine pS rfl rfl rfl ?_
        refine pI rfl rfl rfl ?_
        obtain ⟨hi389, x390, hx391, h⟩ := h
        refine AOps.idx tabOk (z := GToken.enc x390) rfl rfl rfl rfl rfl rfl rfl rfl hi389 (map_get hx391) ?_
        refine pX rfl rfl rfl ?_
        refine pG rfl rfl rfl ?_
        refine pS rfl rfl rfl ?_
        refine pI rfl rfl rfl ?_
        obtain ⟨hi392, x393, hx394, h⟩ := h
        refine AOps.idx tabOk (z := GToken.enc x393) rfl rfl rfl rfl rfl rfl rfl rfl hi392 (map_get hx394) ?_
        refine pX rfl rfl rfl ?_
        refine pG rfl rfl rfl ?_
        refine pB rfl rfl rfl ?_
        refine pB rfl rfl rfl ?_
        refine pB rfl rfl rfl ?_
        refine AOps.splitB 42 rfl (fun e => ?_) (fun e => ?_)
        · replace h := h.1 e
          refine AOps.off rfl rfl ?_
          refine AOps.off rfl rfl ?_
          refine AOps.off rfl rfl ?_
          refine AOps.off rfl rfl ?_
          refine AOps.off rfl rfl ?_
          refine AOps.off rfl rfl ?_
          refine AOps.off rfl rfl ?_
          refine AOps.off rfl rfl ?_
          refine AOps.off rfl rfl ?_
          refine AOps.off rfl rfl ?_
          refine AOps.off rfl rfl ?_
          refine pB rfl rfl rfl ?_
          refine pB rfl rfl rfl ?_
          refine AOps.off rfl rfl ?_
          refine AOps.off rfl rfl ?_
          refine AOps.off rfl rfl ?_
          refine AOps.off rfl rfl ?_
          refine AOps.off rfl rfl ?_
          refine AOps.off rfl rfl ?_
          refine AOps.off rfl rfl ?_
          refine AOps.off rfl rfl ?_
          refine AOps.off rfl rfl ?_
          refine AOps.off rfl rfl ?_
          refine AOps.off rfl rfl ?_
          refine AOps.off rfl rfl ?_
          refine AOps.off rfl rfl ?_
          refine AOps.off rfl rfl ?_
          refine pB rfl rfl rfl ?_
          refine AOps.done ?_
          refine AWp.condT rfl ?_
          refine AWp.seq ?_
          refine AWp.regionN (fun _ => false) rfl ?_
          refine pB rfl rfl rfl ?_
          refine AOps.done ?_
          refine AWp.ret ?_
          subst h
          exact ⟨_, rfl, rfl⟩
        · replace h := h.2 e
          refine pS rfl rfl rfl ?_
          refine pI rfl rfl rfl ?_
          obtain ⟨hi395, x396, hx397, h⟩ := h
          refine AOps.idx tabOk (z := GToken.enc x396) rfl rfl rfl rfl rfl rfl rfl rfl hi395 (map_get hx397) ?_
          refine pX rfl rfl rfl ?_
          refine pT rfl rfl rfl ?_
          refine pS rfl rfl rfl ?_
          refine pI rfl rfl rfl ?_
          obtain ⟨hi398, x399, hx400, h⟩ := h
          refine AOps.idx tabOk (z := GToken.enc x399) rfl rfl rfl rfl rfl rfl rfl rfl hi398 (map_get hx400) ?_
          refine pX rfl rfl rfl ?_
          refine pT rfl rfl rfl ?_
          refine AOps.nes rfl rfl rfl rfl rfl rfl rfl (by decide +kernel) (GRat.eqok27 _ x396.Num x399.Num) ?_
          refine pB rfl rfl rfl ?_
          refine pB rfl rfl rfl ?_
          refine AOps.splitB 55 rfl (fun e => ?_) (fun e => ?_)
          · replace h := h.1 e
            refine AOps.off rfl rfl ?_
            refine AOps.off rfl rfl ?_
            refine AOps.off rfl rfl ?_
            refine AOps.off rfl rfl ?_
            refine AOps.off rfl rfl ?_
            refine AOps.off rfl rfl ?_
            refine AOps.off rfl rfl ?_
            refine AOps.off rfl rfl ?_
            refine AOps.off rfl rfl ?_
            refine AOps.off rfl rfl ?_
            refine AOps.off rfl rfl ?_
            refine AOps.off rfl rfl ?_
            refine AOps.off rfl rfl ?_
            refine AOps.off rfl rfl ?_
            refine pB rfl rfl rfl ?_
            refine AOps.done ?_
            refine AWp.condT rfl ?_
            refine AWp.seq ?_
            refine AWp.regionN (fun _ => false) rfl ?_
            refine pB rfl rfl rfl ?_
            refine AOps.done ?_
            refine AWp.ret ?_
            subst h
            exact ⟨_, rfl, rfl⟩
          · replace h := h.2 e
            refine pB rfl rfl rfl ?_
            refine pB rfl rfl rfl ?_
            refine AOps.splitB 57 rfl (fun e => ?_) (fun e => ?_)
            · replace h := h.1 e
              refine pS rfl rfl rfl ?_
              refine pI rfl rfl rfl ?_
              obtain ⟨hi401, x402, hx403, h⟩ := h
              refine AOps.idx tabOk (z := GToken.enc x402) rfl rfl rfl rfl rfl rfl rfl rfl hi401 (map_get hx403) ?_
              refine pX rfl rfl rfl ?_
              refine pI rfl rfl rfl ?_
              refine pS rfl rfl rfl ?_
              refine pI rfl rfl rfl ?_
              obtain ⟨hi404, x405, hx406, h⟩ := h
              refine AOps.idx tabOk (z := GToken.enc x405) rfl rfl rfl rfl rfl rfl rfl rfl hi404 (map_get hx406) ?_
              refine pX rfl rfl rfl ?_
              refine pI rfl rfl rfl ?_
              refine pB rfl rfl rfl ?_
              refine pB rfl rfl rfl ?_
              refine pB rfl rfl rfl ?_
              refine AOps.done ?_
              refine AWp.cond rfl (fun e => ?_) (fun e => ?_)
              · replace h := h.1 e
                refine AWp.seq ?_
                refine AWp.regionN (fun _ => false) rfl ?_
                refine pB rfl rfl rfl ?_
                refine AOps.done ?_
                refine AWp.ret ?_
                subst h
                exact ⟨_, rfl, rfl⟩
              · replace h := h.2 e
                refine AWp.skip ?_
                refine AWp.regionN (fun _ => false) rfl ?_
                obtain ⟨x407, ex407, h⟩ := h.get
                refine AOps.i tabOk rfl rfl rfl ex407 ?_
                refine pI rfl rfl rfl ?_
                refine AOps.done ?_
                exact ⟨x407, h.1, h.2, (Sub.list (fun i => i) rfl rfl ⟨rfl, rfl, rfl, rfl, rfl, trivial⟩ trivial)⟩
            · replace h := h.2 e
              refine AOps.off rfl rfl ?_
              refine AOps.off rfl rfl ?_
              refine AOps.off rfl rfl ?_
              refine AOps.off rfl rfl ?_
              refine AOps.off rfl rfl ?_
              refine AOps.off rfl rfl ?_
              refine AOps.off rfl rfl ?_
              refine AOps.off rfl rfl ?_
              refine AOps.off rfl rfl ?_
              refine AOps.off rfl rfl ?_
              refine AOps.off rfl rfl ?_
              refine pB rfl rfl rfl ?_
              refine pB rfl rfl rfl ?_
              refine AOps.done ?_
              refine AWp.condF rfl ?_
              refine AWp.skip ?_
              refine AWp.regionN (fun _ => false) rfl ?_
              obtain ⟨x408, ex408, h⟩ := h.get
              refine AOps.i tabOk rfl rfl rfl ex408 ?_
              refine pI rfl rfl rfl ?_
              refine AOps.done ?_
              exact ⟨x408, h.1, h.2, (Sub.list (fun i => i) rfl rfl ⟨rfl, rfl, rfl, rfl, rfl, trivial⟩ trivial)⟩
    · replace h := h.2 e
      refine AWp.exit ?_
      refine AWp.seq ?_
      refine AWp.regionN (fun _ => false) rfl ?_
      refine pB rfl rfl rfl ?_
      refine AOps.done ?_
      refine AWp.ret ?_
      subst h
      exact ⟨_, rfl, rfl⟩
def W_law12_alive (Q : Bool → Prop) : Prop :=
  Call (Ev_ulp_Next (4607182418800017408 : Nat)) fun x1 =>
  Q (FloatKind.f64.format.order x1 (4607182418800017408 : Nat) == some .gt)
theorem walk_law12_alive {r : Bool} (h : W_law12_alive (fun r' => r' = r)) : Ev_law12_alive r := by
  unfold W_law12_alive at h
  refine AFn.intro' (L := []) tabOk Tryd.func10 rfl rfl Tryd.ntmps10 rfl rfl rfl ?_
  refine AWp.seq ?_
  refine AWp.regionN (fun _ => false) rfl ?_
  refine pB rfl rfl rfl ?_
  refine AOps.done ?_
  refine AWp.seq ?_
  refine AWp.regionN (fun _ => false) rfl ?_
  obtain ⟨x1, hc2, h⟩ := h
  refine AOps.call hc2 rfl rfl rfl ⟨.inl rfl, trivial⟩ ?_
  refine pB rfl rfl rfl ?_
  refine pB rfl rfl rfl ?_
  refine AOps.done ?_
  refine AWp.ret ?_
  subst h
  exact ⟨_, rfl, rfl⟩
end Go.Sim.YtnnfiohdkobkdaaDoor
