/- What is proved: functions of the program compute what plain statements tell. -/
import Derived.Test.YtnnfiohdkobkdaaDoorZLPWE
namespace Go.Sim.YtnnfiohdkobkdaaDoor
open Go.RowKit Go.Proofs Go.Proofs.Tryd
set_option maxRecDepth 100000
def W_law12_LexPlaces (x1 : ByteArray) (Q : Bool → Prop) : Prop :=
  Call (Ev_lex_Lex x1) fun x2 =>
  Br (x2.2.1 != (0 : Int)) (Q (((x2.1.length : Nat) : Int) == (0 : Int))) (
    Loop1 (0 : Int) (fun (x261 : Int) next262 =>
      Br (decide (x261 < ((x2.1.length : Nat) : Int))) (
        At x2.1 x261 fun x304 =>
        Join1 (fun j311 =>
          Br (decide (x304.At < (0 : Int))) (j311 true) (
            Br (decide (x304.At > ((x1.size : Nat) : Int))) (j311 true) (
              Br (decide (x261 > (0 : Int))) (
                Let (IntKind.i64.wrap (x261 - (1 : Int))) fun x312 =>
                At x2.1 x312 fun x314 =>
                j311 (decide (x304.At ≤ x314.At))) (
                j311 false)))
        ) (fun (x310 : Bool) =>
          Br x310 (Q false) (
            Join1 (fun j319 =>
              Br (decide (((x2.1.length : Nat) : Int) > (60 : Int))) (
                Let (Int.tmod x261 (9 : Int)) fun x321 =>
                j319 (x321 != (0 : Int))) (
                j319 false)
            ) (fun (x318 : Bool) =>
              Br x318 (
                Let (IntKind.i64.wrap (x261 + (1 : Int))) fun x322 =>
                next262 x322) (
                SlS x1 x304.At ((x1.size : Nat) : Int) fun x323 =>
                Call (Ev_lex_Lex x323) fun x324 =>
                Br (x324.2.1 != (0 : Int)) (Q false) (
                  Sl x2.1 x261 ((x2.1.length : Nat) : Int) fun x332 =>
                  Call (Ev_ref12_Like x332 x324.1 false) fun x333 =>
                  Br (!x333) (Q false) (
                    At x324.1 (0 : Int) fun x336 =>
                    Br (x336.At != (0 : Int)) (Q false) (
                      Let (IntKind.i64.wrap (x261 + (1 : Int))) fun x338 =>
                      next262 x338)))))))) (
        Br (decide (((x2.1.length : Nat) : Int) > (0 : Int))) (
          Let (IntKind.i64.wrap (((x2.1.length : Nat) : Int) - (1 : Int))) fun x353 =>
          At x2.1 x353 fun x355 =>
          Q (GToken.beq x355 ({ GToken.zero with At := ((x1.size : Nat) : Int) }))) (
          Q false))))
theorem walk_law12_LexPlaces {x1 : ByteArray} {r : Bool} (h : W_law12_LexPlaces x1 (fun r' => r' = r)) : Ev_law12_LexPlaces x1 r := by
  unfold W_law12_LexPlaces at h
  refine AFn.intro' (L := [(0, .dat (.v (.string x1)))]) tabOk Tryd.func3 rfl rfl Tryd.ntmps3 rfl rfl rfl ?_
  refine AWp.seq ?_
  refine AWp.regionN (fun _ => false) rfl ?_
  refine pB rfl rfl rfl ?_
  refine AOps.done ?_
  refine AWp.seq ?_
  refine AWp.regionN (fun _ => false) rfl ?_
  refine pG rfl rfl rfl ?_
  obtain ⟨x2, hc3, h⟩ := h
  refine AOps.call hc3 rfl rfl rfl ⟨.inl rfl, trivial⟩ ?_
  refine pU rfl rfl rfl ?_
  refine pS rfl rfl rfl ?_
  refine pI rfl rfl rfl ?_
  refine pI rfl rfl rfl ?_
  refine pS rfl rfl rfl ?_
  refine pI rfl rfl rfl ?_
  refine pI rfl rfl rfl ?_
  refine AOps.done ?_
  refine AWp.seq ?_
  refine AWp.seq ?_
  refine AWp.regionN (fun _ => false) rfl ?_
  refine pI rfl rfl rfl ?_
  refine pB rfl rfl rfl ?_
  refine AOps.done ?_
  refine AWp.cond rfl (fun e => ?_) (fun e => ?_)
  · replace h := h.1 e
    refine AWp.seq ?_
    refine AWp.regionN (fun _ => false) rfl ?_
    refine pS rfl rfl rfl ?_
    refine AOps.i (j := ((x2.1.length : Nat) : Int)) tabOk rfl rfl rfl (by first | (rw [List.length_map]; done) | rfl) ?_
    refine pB rfl rfl rfl ?_
    refine pB rfl rfl rfl ?_
    refine AOps.done ?_
    refine AWp.ret ?_
    subst h
    exact ⟨_, rfl, rfl⟩
  · replace h := h.2 e
    refine AWp.skip ?_
    refine AWp.seq ?_
    refine AWp.seq ?_
    refine AWp.regionN (fun _ => false) rfl ?_
    refine pS rfl rfl rfl ?_
    refine AOps.i (j := ((x2.1.length : Nat) : Int)) tabOk rfl rfl rfl (by first | (rw [List.length_map]; done) | rfl) ?_
    refine pI rfl rfl rfl ?_
    refine AOps.done ?_
    refine AWp.block ?_
    obtain ⟨I357, x358, hz359, hr360⟩ := h
    refine AWp.loop (I := fun p : Int => mkSt [(0, .dat (.v (.string x1))), (3, .dat (.sl 29 5 (List.map GToken.enc x2.1))), (22, .dat (.sl 29 5 (List.map GToken.enc x2.1))), (23, .dat (.v (.int .i64 ((x2.1.length : Nat) : Int)))), (24, .dat (.v (.int .i64 p)))] []) (Inv := fun p => I357 p) (μ := fun p => x358 p) (x0 := (0 : Int)) hz359 (Sub.list (fun i => i) rfl rfl ⟨rfl, rfl, rfl, rfl, rfl, trivial⟩ trivial) (fun p hp => ?_)
    have h := hr360 p hp
    revert h; clear hp; generalize p = x261; intro h
    refine AWp.seq ?_
    refine AWp.regionN (fun _ => false) rfl ?_
    refine pW rfl rfl rfl ?_
    refine AOps.done ?_
    refine AWp.seq ?_
    refine AWp.cond rfl (fun e => ?_) (fun e => ?_)
    · replace h := h.1 e
      refine AWp.skip ?_
      refine AWp.seq ?_
      refine AWp.block ?_
      refine AWp.seq ?_
      refine AWp.regionN (fun o => writes o) rfl ?_
      refine pI rfl rfl rfl ?_
      obtain ⟨hi303, x304, hx305, h⟩ := h
      refine AOps.idx tabOk (z := GToken.enc x304) rfl rfl rfl rfl rfl rfl rfl rfl hi303 (map_get hx305) ?_
      refine pT rfl rfl rfl ?_
      refine AOps.alloc tabOk rfl rfl rfl rfl rfl ?_
      refine pI rfl rfl rfl ?_
      refine AOps.store tabOk (v := .dat (.st _ _)) rfl rfl rfl rfl rfl rfl rfl rfl rfl rfl rfl rfl rfl ?_
      refine AOps.done ?_
      refine AWp.seq ?_
      refine AWp.seq ?_
      obtain ⟨J342, hj343, hk344⟩ := h
      refine AWp.cutK (I := fun p : Bool => mkSt [(0, .dat (.v (.string x1))), (3, .dat (.sl 29 5 (List.map GToken.enc x2.1))), (6, .dat (.v (.int .i64 x261))), (7, .pt 7 [] 0), (22, .dat (.sl 29 5 (List.map GToken.enc x2.1))), (23, .dat (.v (.int .i64 ((x2.1.length : Nat) : Int)))), (24, .dat (.v (.int .i64 x261))), (53, .dat (.v (.bool p)))] [(7, .box 29 5 (.dat (GToken.enc x304)))]) (Inv := fun p : Bool => J342 p) ?_ (fun p hp => ?_)
      · have h := hj343
        refine AWp.regionD (fun _ => false) mixed (by decide +kernel) rfl ?_
        refine pP rfl rfl rfl ?_
        refine pI rfl rfl rfl ?_
        refine pB rfl rfl rfl ?_
        refine pB rfl rfl rfl ?_
        refine AOps.splitB 32 rfl (fun e => ?_) (fun e => ?_)
        · replace h := h.1 e
          refine AOps.off rfl rfl ?_
          refine AOps.off rfl rfl ?_
          refine AOps.off rfl rfl ?_
          refine AOps.off rfl rfl ?_
          refine AOps.off rfl rfl ?_
          refine pB rfl rfl rfl ?_
          refine pB rfl rfl rfl ?_
          refine AOps.off rfl rfl ?_
          refine AOps.off rfl rfl ?_
          refine AOps.off rfl rfl ?_
          refine AOps.off rfl rfl ?_
          refine AOps.off rfl rfl ?_
          refine AOps.off rfl rfl ?_
          refine AOps.off rfl rfl ?_
          refine AOps.off rfl rfl ?_
          refine AOps.off rfl rfl ?_
          refine AOps.off rfl rfl ?_
          refine AOps.off rfl rfl ?_
          refine AOps.off rfl rfl ?_
          refine AOps.off rfl rfl ?_
          refine pB rfl rfl rfl ?_
          refine AOps.done ?_
          exact ⟨true, h, (Sub.list (fun i => i) rfl rfl ⟨rfl, rfl, rfl, rfl, rfl, rfl, rfl, rfl, trivial⟩ ⟨rfl, trivial⟩)⟩
        · replace h := h.2 e
          refine pP rfl rfl rfl ?_
          refine pI rfl rfl rfl ?_
          refine pG rfl rfl rfl ?_
          refine pI rfl rfl rfl ?_
          refine pB rfl rfl rfl ?_
          refine pB rfl rfl rfl ?_
          refine pB rfl rfl rfl ?_
          refine AOps.splitB 39 rfl (fun e => ?_) (fun e => ?_)
          · replace h := h.1 e
            refine AOps.off rfl rfl ?_
            refine AOps.off rfl rfl ?_
            refine AOps.off rfl rfl ?_
            refine AOps.off rfl rfl ?_
            refine AOps.off rfl rfl ?_
            refine AOps.off rfl rfl ?_
            refine AOps.off rfl rfl ?_
            refine AOps.off rfl rfl ?_
            refine AOps.off rfl rfl ?_
            refine AOps.off rfl rfl ?_
            refine AOps.off rfl rfl ?_
            refine AOps.off rfl rfl ?_
            refine AOps.off rfl rfl ?_
            refine pB rfl rfl rfl ?_
            refine AOps.done ?_
            exact ⟨true, h, (Sub.list (fun i => i) rfl rfl ⟨rfl, rfl, rfl, rfl, rfl, rfl, rfl, rfl, trivial⟩ ⟨rfl, trivial⟩)⟩
          · replace h := h.2 e
            refine pI rfl rfl rfl ?_
            refine pB rfl rfl rfl ?_
            refine pB rfl rfl rfl ?_
            refine AOps.splitB 42 rfl (fun e => ?_) (fun e => ?_)
            · replace h := h.1 e
              refine pP rfl rfl rfl ?_
              refine pI rfl rfl rfl ?_
              refine pS rfl rfl rfl ?_
              refine pI rfl rfl rfl ?_
              obtain ⟨x312, ex312, h⟩ := h.get
              refine AOps.i tabOk rfl rfl rfl ex312 ?_
              obtain ⟨hi313, x314, hx315, h⟩ := h
              refine AOps.idx tabOk (z := GToken.enc x314) rfl rfl rfl rfl rfl rfl rfl rfl hi313 (map_get hx315) ?_
              refine pX rfl rfl rfl ?_
              refine pI rfl rfl rfl ?_
              refine pB rfl rfl rfl ?_
              refine pB rfl rfl rfl ?_
              refine pB rfl rfl rfl ?_
              refine AOps.done ?_
              exact ⟨(decide (x304.At ≤ x314.At)), h, (Sub.list (fun i => i) rfl rfl ⟨rfl, rfl, rfl, rfl, rfl, rfl, rfl, rfl, trivial⟩ ⟨rfl, trivial⟩)⟩
            · replace h := h.2 e
              refine AOps.off rfl rfl ?_
              refine AOps.off rfl rfl ?_
              refine AOps.off rfl rfl ?_
              refine AOps.off rfl rfl ?_
              refine AOps.off rfl rfl ?_
              refine AOps.off rfl rfl ?_
              refine AOps.off rfl rfl ?_
              refine AOps.off rfl rfl ?_
              refine AOps.off rfl rfl ?_
              refine pB rfl rfl rfl ?_
              refine pB rfl rfl rfl ?_
              refine AOps.done ?_
              exact ⟨false, h, (Sub.list (fun i => i) rfl rfl ⟨rfl, rfl, rfl, rfl, rfl, rfl, rfl, rfl, trivial⟩ ⟨rfl, trivial⟩)⟩
      · have h := hk344 p hp
        revert h; clear hp; generalize p = x310; intro h
        refine AWp.cond rfl (fun e => ?_) (fun e => ?_)
        · replace h := h.1 e
          refine AWp.seq ?_
          refine AWp.regionN (fun _ => false) rfl ?_
          refine pB rfl rfl rfl ?_
          refine AOps.done ?_
          refine AWp.ret ?_
          subst h
          exact ⟨_, rfl, rfl⟩
        · replace h := h.2 e
          refine AWp.skip ?_
          refine AWp.seq ?_
          refine AWp.seq ?_
          obtain ⟨J339, hj340, hk341⟩ := h
          refine AWp.cutK (I := fun p : Bool => mkSt [(0, .dat (.v (.string x1))), (3, .dat (.sl 29 5 (List.map GToken.enc x2.1))), (6, .dat (.v (.int .i64 x261))), (7, .pt 7 [] 0), (22, .dat (.sl 29 5 (List.map GToken.enc x2.1))), (23, .dat (.v (.int .i64 ((x2.1.length : Nat) : Int)))), (24, .dat (.v (.int .i64 x261))), (61, .dat (.v (.bool p)))] [(7, .box 29 5 (.dat (GToken.enc x304)))]) (Inv := fun p : Bool => J339 p) ?_ (fun p hp => ?_)
          · have h := hj340
            refine AWp.regionN (fun _ => false) rfl ?_
            refine pS rfl rfl rfl ?_
            refine AOps.i (j := ((x2.1.length : Nat) : Int)) tabOk rfl rfl rfl (by first | (rw [List.length_map]; done) | rfl) ?_
            refine pB rfl rfl rfl ?_
            refine pB rfl rfl rfl ?_
            refine AOps.splitB 57 rfl (fun e => ?_) (fun e => ?_)
            · replace h := h.1 e
              refine pI rfl rfl rfl ?_
              obtain ⟨x321, ex321, h⟩ := h.get
              refine AOps.q rfl rfl rfl rfl rfl (rbin_rem (by decide)) ex321 ?_
              refine pB rfl rfl rfl ?_
              refine pB rfl rfl rfl ?_
              refine AOps.done ?_
              exact ⟨(x321 != (0 : Int)), h, (Sub.list (fun i => i) rfl rfl ⟨rfl, rfl, rfl, rfl, rfl, rfl, rfl, rfl, trivial⟩ ⟨rfl, trivial⟩)⟩
            · replace h := h.2 e
              refine AOps.off rfl rfl ?_
              refine AOps.off rfl rfl ?_
              refine AOps.off rfl rfl ?_
              refine pB rfl rfl rfl ?_
              refine AOps.done ?_
              exact ⟨false, h, (Sub.list (fun i => i) rfl rfl ⟨rfl, rfl, rfl, rfl, rfl, rfl, rfl, rfl, trivial⟩ ⟨rfl, trivial⟩)⟩
          · have h := hk341 p hp
            revert h; clear hp; generalize p = x318; intro h
            refine AWp.cond rfl (fun e => ?_) (fun e => ?_)
            · replace h := h.1 e
              refine AWp.exit ?_
              refine AWp.regionN (fun _ => false) rfl ?_
              obtain ⟨x322, ex322, h⟩ := h.get
              refine AOps.i tabOk rfl rfl rfl ex322 ?_
              refine pI rfl rfl rfl ?_
              refine AOps.done ?_
              exact ⟨x322, h.1, h.2, (Sub.list (fun i => i) rfl rfl ⟨rfl, rfl, rfl, rfl, rfl, trivial⟩ trivial)⟩
            · replace h := h.2 e
              refine AWp.skip ?_
              refine AWp.seq ?_
              refine AWp.regionN (fun _ => false) rfl ?_
              refine pG rfl rfl rfl ?_
              refine pP rfl rfl rfl ?_
              refine pI rfl rfl rfl ?_
              obtain ⟨h1, h2, h3, x323, ex323, h⟩ := h.get
              refine AOps.slsl tabOk rfl rfl rfl rfl rfl rfl rfl rfl h1 h2 ex323 ?_
              obtain ⟨x324, hc325, h⟩ := h
              refine AOps.call hc325 rfl rfl rfl ⟨.inl rfl, trivial⟩ ?_
              refine pU rfl rfl rfl ?_
              refine pS rfl rfl rfl ?_
              refine pI rfl rfl rfl ?_
              refine pI rfl rfl rfl ?_
              refine pS rfl rfl rfl ?_
              refine pI rfl rfl rfl ?_
              refine pI rfl rfl rfl ?_
              refine AOps.done ?_
              refine AWp.seq ?_
              refine AWp.regionN (fun _ => false) rfl ?_
              refine pI rfl rfl rfl ?_
              refine pB rfl rfl rfl ?_
              refine pB rfl rfl rfl ?_
              refine AOps.splitB 73 rfl (fun e => ?_) (fun e => ?_)
              · replace h := h.1 e
                refine AOps.off rfl rfl ?_
                refine AOps.off rfl rfl ?_
                refine AOps.off rfl rfl ?_
                refine AOps.off rfl rfl ?_
                refine AOps.off rfl rfl ?_
                refine AOps.off rfl rfl ?_
                refine pB rfl rfl rfl ?_
                refine pB rfl rfl rfl ?_
                refine AOps.off rfl rfl ?_
                refine AOps.off rfl rfl ?_
                refine AOps.off rfl rfl ?_
                refine AOps.off rfl rfl ?_
                refine AOps.off rfl rfl ?_
                refine pB rfl rfl rfl ?_
                refine AOps.done ?_
                refine AWp.condT rfl ?_
                refine AWp.seq ?_
                refine AWp.regionN (fun _ => false) rfl ?_
                refine pB rfl rfl rfl ?_
                refine AOps.done ?_
                refine AWp.ret ?_
                subst h
                exact ⟨_, rfl, rfl⟩
              · replace h := h.2 e
                refine pS rfl rfl rfl ?_
                refine pI rfl rfl rfl ?_
                obtain ⟨h1, h2, h3, x332, ex332, h⟩ := h.get
                refine AOps.cutE tabOk rfl rfl rfl rfl rfl rfl ⟨_, rfl⟩ rfl h1 h2 h3 ex332 ?_
                refine pS rfl rfl rfl ?_
                obtain ⟨x333, hc334, h⟩ := h
                refine AOps.call hc334 rfl rfl rfl ⟨.inl rfl, .inl rfl, .inl rfl, trivial⟩ ?_
                refine pB rfl rfl rfl ?_
                refine pB rfl rfl rfl ?_
                refine pB rfl rfl rfl ?_
                refine AOps.splitB 81 rfl (fun e => ?_) (fun e => ?_)
                · replace h := h.1 e
                  refine AOps.off rfl rfl ?_
                  refine AOps.off rfl rfl ?_
                  refine AOps.off rfl rfl ?_
                  refine AOps.off rfl rfl ?_
                  refine AOps.off rfl rfl ?_
                  refine pB rfl rfl rfl ?_
                  refine AOps.done ?_
                  refine AWp.condT rfl ?_
                  refine AWp.seq ?_
                  refine AWp.regionN (fun _ => false) rfl ?_
                  refine pB rfl rfl rfl ?_
                  refine AOps.done ?_
                  refine AWp.ret ?_
                  subst h
                  exact ⟨_, rfl, rfl⟩
                · replace h := h.2 e
                  refine pS rfl rfl rfl ?_
                  obtain ⟨hi335, x336, hx337, h⟩ := h
                  refine AOps.idx tabOk (z := GToken.enc x336) rfl rfl rfl rfl rfl rfl rfl rfl hi335 (map_get hx337) ?_
                  refine pX rfl rfl rfl ?_
                  refine pI rfl rfl rfl ?_
                  refine pB rfl rfl rfl ?_
                  refine pB rfl rfl rfl ?_
                  refine AOps.done ?_
                  refine AWp.cond rfl (fun e => ?_) (fun e => ?_)
                  · replace h := h.1 e
                    refine AWp.seq ?_
                    refine AWp.regionN (fun _ => false) rfl ?_
                    refine pB rfl rfl rfl ?_
                    refine AOps.done ?_
                    refine AWp.ret ?_
                    subst h
                    exact ⟨_, rfl, rfl⟩
                  · replace h := h.2 e
                    refine AWp.skip ?_
                    refine AWp.regionN (fun _ => false) rfl ?_
                    obtain ⟨x338, ex338, h⟩ := h.get
                    refine AOps.i tabOk rfl rfl rfl ex338 ?_
                    refine pI rfl rfl rfl ?_
                    refine AOps.done ?_
                    exact ⟨x338, h.1, h.2, (Sub.list (fun i => i) rfl rfl ⟨rfl, rfl, rfl, rfl, rfl, trivial⟩ trivial)⟩
    · replace h := h.2 e
      refine AWp.exit ?_
      refine AWp.seq ?_
      refine AWp.regionN (fun _ => false) rfl ?_
      refine pS rfl rfl rfl ?_
      refine AOps.i (j := ((x2.1.length : Nat) : Int)) tabOk rfl rfl rfl (by first | (rw [List.length_map]; done) | rfl) ?_
      refine pB rfl rfl rfl ?_
      refine pB rfl rfl rfl ?_
      refine AOps.splitB 92 rfl (fun e => ?_) (fun e => ?_)
      · replace h := h.1 e
        refine pS rfl rfl rfl ?_
        refine pS rfl rfl rfl ?_
        refine AOps.i (j := ((x2.1.length : Nat) : Int)) tabOk rfl rfl rfl (by first | (rw [List.length_map]; done) | rfl) ?_
        obtain ⟨x353, ex353, h⟩ := h.get
        refine AOps.i tabOk rfl rfl rfl ex353 ?_
        obtain ⟨hi354, x355, hx356, h⟩ := h
        refine AOps.idx tabOk (z := GToken.enc x355) rfl rfl rfl rfl rfl rfl rfl rfl hi354 (map_get hx356) ?_
        refine pT rfl rfl rfl ?_
        refine pG rfl rfl rfl ?_
        refine pI rfl rfl rfl ?_
        refine pT rfl rfl rfl ?_
        refine AOps.eqs rfl rfl rfl rfl rfl rfl rfl (by decide +kernel) (GToken.eqok29 _ x355 ({ GToken.zero with At := ((x1.size : Nat) : Int) })) ?_
        refine pB rfl rfl rfl ?_
        refine pB rfl rfl rfl ?_
        refine AOps.done ?_
        refine AWp.ret ?_
        subst h
        exact ⟨_, rfl, rfl⟩
      · replace h := h.2 e
        refine AOps.off rfl rfl ?_
        refine AOps.off rfl rfl ?_
        refine AOps.off rfl rfl ?_
        refine AOps.off rfl rfl ?_
        refine AOps.off rfl rfl ?_
        refine AOps.off rfl rfl ?_
        refine AOps.off rfl rfl ?_
        refine AOps.off rfl rfl ?_
        refine AOps.off rfl rfl ?_
        refine AOps.off rfl rfl ?_
        refine pB rfl rfl rfl ?_
        refine pB rfl rfl rfl ?_
        refine AOps.done ?_
        refine AWp.ret ?_
        subst h
        exact ⟨_, rfl, rfl⟩
def W_ref12_Like (x1 : List GToken) (x2 : List GToken) (x3 : Bool) (Q : Bool → Prop) : Prop :=
  Br (((x1.length : Nat) : Int) != ((x2.length : Nat) : Int)) (Q false) (
    Loop1 (0 : Int) (fun (x309 : Int) next310 =>
      Br (decide (x309 < ((x1.length : Nat) : Int))) (
        At x1 x309 fun x384 =>
        At x2 x309 fun x387 =>
        Br (x384.Kind != x387.Kind) (Q false) (
          At x1 x309 fun x390 =>
          At x2 x309 fun x393 =>
          Br (!(x390.S.toList == x393.S.toList)) (Q false) (
            At x1 x309 fun x396 =>
            At x2 x309 fun x399 =>
            Br (!(GRat.beq x396.Num x399.Num)) (Q false) (
              Br x3 (
                At x1 x309 fun x402 =>
                At x2 x309 fun x405 =>
                Br (x402.At != x405.At) (Q false) (
                  Let (IntKind.i64.wrap (x309 + (1 : Int))) fun x407 =>
                  next310 x407)) (
                Let (IntKind.i64.wrap (x309 + (1 : Int))) fun x408 =>
                next310 x408))))) (
        Q true)))
theorem walk_ref12_Like {x1 : List GToken} {x2 : List GToken} {x3 : Bool} {r : Bool} (h : W_ref12_Like x1 x2 x3 (fun r' => r' = r)) : Ev_ref12_Like x1 x2 x3 r := by
  unfold W_ref12_Like at h
  refine AFn.intro' (L := [(0, .dat (.sl 29 5 (List.map GToken.enc x1))), (1, .dat (.sl 29 5 (List.map GToken.enc x2))), (2, .dat (.v (.bool x3)))]) tabOk Tryd.func7 rfl rfl Tryd.ntmps7 rfl rfl rfl ?_
  refine AWp.seq ?_
  refine AWp.regionN (fun _ => false) rfl ?_
  refine pB rfl rfl rfl ?_
  refine AOps.done ?_
  refine AWp.seq ?_
  refine AWp.seq ?_
  refine AWp.regionN (fun _ => false) rfl ?_
  refine pS rfl rfl rfl ?_
  refine AOps.i (j := ((x1.length : Nat) : Int)) tabOk rfl rfl rfl (by first | (rw [List.length_map]; done) | rfl) ?_
  refine pS rfl rfl rfl ?_
  refine AOps.i (j := ((x2.length : Nat) : Int)) tabOk rfl rfl rfl (by first | (rw [List.length_map]; done) | rfl) ?_
  refine pB rfl rfl rfl ?_
  refine AOps.done ?_
  refine AWp.cond rfl (fun e => ?_) (fun e => ?_)
  · replace h := h.1 e
    refine AWp.seq ?_
    refine AWp.regionN (fun _ => false) rfl ?_
    refine pB rfl rfl rfl ?_
    refine AOps.done ?_
    refine AWp.ret ?_
    subst h
    exact ⟨_, rfl, rfl⟩
  · replace h := h.2 e
    refine AWp.skip ?_
    refine AWp.seq ?_
    refine AWp.seq ?_
    refine AWp.regionN (fun _ => false) rfl ?_
    refine pS rfl rfl rfl ?_
    refine AOps.i (j := ((x1.length : Nat) : Int)) tabOk rfl rfl rfl (by first | (rw [List.length_map]; done) | rfl) ?_
    refine pI rfl rfl rfl ?_
    refine AOps.done ?_
    refine AWp.block ?_
    obtain ⟨I409, x410, hz411, hr412⟩ := h
    refine AWp.loop (I := fun p : Int => mkSt [(0, .dat (.sl 29 5 (List.map GToken.enc x1))), (1, .dat (.sl 29 5 (List.map GToken.enc x2))), (2, .dat (.v (.bool x3))), (14, .dat (.v (.int .i64 ((x1.length : Nat) : Int)))), (15, .dat (.v (.int .i64 p)))] []) (Inv := fun p => I409 p) (μ := fun p => x410 p) (x0 := (0 : Int)) hz411 (Sub.list (fun i => i) rfl rfl ⟨rfl, rfl, rfl, rfl, rfl, trivial⟩ trivial) (fun p hp => ?_)
    have h := hr412 p hp
    revert h; clear hp; generalize p = x309; intro h
    refine AWp.seq ?_
    refine AWp.regionN (fun _ => false) rfl ?_
    refine pW rfl rfl rfl ?_
    refine AOps.done ?_
    refine AWp.seq ?_
    refine AWp.cond rfl (fun e => ?_) (fun e => ?_)
    · replace h := h.1 e
      refine AWp.skip ?_
      refine AWp.seq ?_
      refine AWp.block ?_
      refine AWp.seq ?_
      refine AWp.regionN (fun _ => false) rfl ?_
      refine pI rfl rfl rfl ?_
      refine pI rfl rfl rfl ?_
      refine AOps.done ?_
      refine AWp.seq ?_
      refine AWp.regionD (fun _ => false) mixed (by decide +kernel) rfl ?_
      refine pS rfl rfl rfl ?_
      refine pI rfl rfl rfl ?_
      obtain ⟨hi383, x384, hx385, h⟩ := h
      refine AOps.idx tabOk (z := GToken.enc x384) rfl rfl rfl rfl rfl rfl rfl rfl hi383 (map_get hx385) ?_
      refine pX rfl rfl rfl ?_
      refine pI rfl rfl rfl ?_
      refine pS rfl rfl rfl ?_
      refine pI rfl rfl rfl ?_
      obtain ⟨hi386, x387, hx388, h⟩ := h
      refine AOps.idx tabOk (z := GToken.enc x387) rfl rfl rfl rfl rfl rfl rfl rfl hi386 (map_get hx388) ?_
      refine pX rfl rfl rfl ?_
      refine pI rfl rfl rfl ?_
      refine pB rfl rfl rfl ?_
      refine pB rfl rfl rfl ?_
      refine AOps.splitB 29 rfl (fun e => ?_) (fun e => ?_)
      · replace h := h.1 e
        refine AOps.off rfl rfl ?_
        refine AOps.off rfl rfl ?_
        refine AOps.off rfl rfl ?_
        refine AOps.off rfl rfl ?_
        refine AOps.off rfl rfl ?_
        refine AOps.off rfl rfl ?_
        refine AOps.off rfl rfl ?_
        refine AOps.off rfl rfl ?_
        refine AOps.off rfl rfl ?_
        refine AOps.off rfl rfl ?_
        refine AOps.off rfl rfl ?_
        refine pB rfl rfl rfl ?_
        refine pB rfl rfl rfl ?_
        refine AOps.off rfl rfl ?_
        refine AOps.off rfl rfl ?_
        refine AOps.off rfl rfl ?_
        refine AOps.off rfl rfl ?_
        refine AOps.off rfl rfl ?_
        refine AOps.off rfl rfl ?_
        refine AOps.off rfl rfl ?_
        refine AOps.off rfl rfl ?_
        refine AOps.off rfl rfl ?_
        refine AOps.off rfl rfl ?_
        refine AOps.off rfl rfl ?_
        refine pB rfl rfl rfl ?_
        refine pB rfl rfl rfl ?_
        refine AOps.off rfl rfl ?_
        refine AOps.off rfl rfl ?_
        refine AOps.off rfl rfl ?_
        refine AOps.off rfl rfl ?_
        refine AOps.off rfl rfl ?_
        refine AOps.off rfl rfl ?_
        refine AOps.off rfl rfl ?_
        refine AOps.off rfl rfl ?_
        refine AOps.off rfl rfl ?_
        refine AOps.off rfl rfl ?_
        refine AOps.off rfl rfl ?_
        refine AOps.off rfl rfl ?_
        refine AOps.off rfl rfl ?_
        refine AOps.off rfl rfl ?_
        refine pB rfl rfl rfl ?_
        refine AOps.done ?_
        refine AWp.condT rfl ?_
        refine AWp.seq ?_
        refine AWp.regionN (fun _ => false) rfl ?_
        refine pB rfl rfl rfl ?_
        refine AOps.done ?_
        refine AWp.ret ?_
        subst h
        exact ⟨_, rfl, rfl⟩
      · replace h := h.2 e
        refine pS rfl rfl rfl ?_
        refine pI rfl rfl rfl ?_
        obtain ⟨hi389, x390, hx391, h⟩ := h
        refine AOps.idx tabOk (z := GToken.enc x390) rfl rfl rfl rfl rfl rfl rfl rfl hi389 (map_get hx391) ?_
        refine pX rfl rfl rfl ?_
        refine pG rfl rfl rfl ?_
        refine pS rfl rfl rfl ?_
        refine pI rfl rfl rfl ?_
        obtain ⟨hi392, x393, hx394, h⟩ := h
        refine AOps.idx tabOk (z := GToken.enc x393) rfl rfl rfl rfl rfl rfl rfl rfl hi392 (map_get hx394) ?_
        refine pX rfl rfl rfl ?_
        refine pG rfl rfl rfl ?_
        refine pB rfl rfl rfl ?_
        refine pB rfl rfl rfl ?_
        refine pB rfl rfl rfl ?_
        refine AOps.splitB 42 rfl (fun e => ?_) (fun e => ?_)
        · replace h := h.1 e
          refine AOps.off rfl rfl ?_
          refine AOps.off rfl rfl ?_
          refine AOps.off rfl rfl ?_
          refine AOps.off rfl rfl ?_
          refine AOps.off rfl rfl ?_
          refine AOps.off rfl rfl ?_
          refine AOps.off rfl rfl ?_
          refine AOps.off rfl rfl ?_
          refine AOps.off rfl rfl ?_
          refine AOps.off rfl rfl ?_
          refine AOps.off rfl rfl ?_
          refine pB rfl rfl rfl ?_
          refine pB rfl rfl rfl ?_
          refine AOps.off rfl rfl ?_
          refine AOps.off rfl rfl ?_
          refine AOps.off rfl rfl ?_
          refine AOps.off rfl rfl ?_
          refine AOps.off rfl rfl ?_
          refine AOps.off rfl rfl ?_
          refine AOps.off rfl rfl ?_
          refine AOps.off rfl rfl ?_
          refine AOps.off rfl rfl ?_
          refine AOps.off rfl rfl ?_
          refine AOps.off rfl rfl ?_
          refine AOps.off rfl rfl ?_
          refine AOps.off rfl rfl ?_
          refine AOps.off rfl rfl ?_
          refine pB rfl rfl rfl ?_
          refine AOps.done ?_
          refine AWp.condT rfl ?_
          refine AWp.seq ?_
          refine AWp.regionN (fun _ => false) rfl ?_
          refine pB rfl rfl rfl ?_
          refine AOps.done ?_
          refine AWp.ret ?_
          subst h
          exact ⟨_, rfl, rfl⟩
        · replace h := h.2 e
          refine pS rfl rfl rfl ?_
          refine pI rfl rfl rfl ?_
          obtain ⟨hi395, x396, hx397, h⟩ := h
          refine AOps.idx tabOk (z := GToken.enc x396) rfl rfl rfl rfl rfl rfl rfl rfl hi395 (map_get hx397) ?_
          refine pX rfl rfl rfl ?_
          refine pT rfl rfl rfl ?_
          refine pS rfl rfl rfl ?_
          refine pI rfl rfl rfl ?_
          obtain ⟨hi398, x399, hx400, h⟩ := h
          refine AOps.idx tabOk (z := GToken.enc x399) rfl rfl rfl rfl rfl rfl rfl rfl hi398 (map_get hx400) ?_
          refine pX rfl rfl rfl ?_
          refine pT rfl rfl rfl ?_
          refine AOps.nes rfl rfl rfl rfl rfl rfl rfl (by decide +kernel) (GRat.eqok27 _ x396.Num x399.Num) ?_
          refine pB rfl rfl rfl ?_
          refine pB rfl rfl rfl ?_
          refine AOps.splitB 55 rfl (fun e => ?_) (fun e => ?_)
          · replace h := h.1 e
            refine AOps.off rfl rfl ?_
            refine AOps.off rfl rfl ?_
            refine AOps.off rfl rfl ?_
            refine AOps.off rfl rfl ?_
            refine AOps.off rfl rfl ?_
            refine AOps.off rfl rfl ?_
            refine AOps.off rfl rfl ?_
            refine AOps.off rfl rfl ?_
            refine AOps.off rfl rfl ?_
            refine AOps.off rfl rfl ?_
            refine AOps.off rfl rfl ?_
            refine AOps.off rfl rfl ?_
            refine AOps.off rfl rfl ?_
            refine AOps.off rfl rfl ?_
            refine pB rfl rfl rfl ?_
            refine AOps.done ?_
            refine AWp.condT rfl ?_
            refine AWp.seq ?_
            refine AWp.regionN (fun _ => false) rfl ?_
            refine pB rfl rfl rfl ?_
            refine AOps.done ?_
            refine AWp.ret ?_
            subst h
            exact ⟨_, rfl, rfl⟩
          · replace h := h.2 e
            refine pB rfl rfl rfl ?_
            refine pB rfl rfl rfl ?_
            refine AOps.splitB 57 rfl (fun e => ?_) (fun e => ?_)
            · replace h := h.1 e
              refine pS rfl rfl rfl ?_
              refine pI rfl rfl rfl ?_
              obtain ⟨hi401, x402, hx403, h⟩ := h
              refine AOps.idx tabOk (z := GToken.enc x402) rfl rfl rfl rfl rfl rfl rfl rfl hi401 (map_get hx403) ?_
              refine pX rfl rfl rfl ?_
              refine pI rfl rfl rfl ?_
              refine pS rfl rfl rfl ?_
              refine pI rfl rfl rfl ?_
              obtain ⟨hi404, x405, hx406, h⟩ := h
              refine AOps.idx tabOk (z := GToken.enc x405) rfl rfl rfl rfl rfl rfl rfl rfl hi404 (map_get hx406) ?_
              refine pX rfl rfl rfl ?_
              refine pI rfl rfl rfl ?_
              refine pB rfl rfl rfl ?_
              refine pB rfl rfl rfl ?_
              refine pB rfl rfl rfl ?_
              refine AOps.done ?_
              refine AWp.cond rfl (fun e => ?_) (fun e => ?_)
              · replace h := h.1 e
                refine AWp.seq ?_
                refine AWp.regionN (fun _ => false) rfl ?_
                refine pB rfl rfl rfl ?_
                refine AOps.done ?_
                refine AWp.ret ?_
                subst h
                exact ⟨_, rfl, rfl⟩
              · replace h := h.2 e
                refine AWp.skip ?_
                refine AWp.regionN (fun _ => false) rfl ?_
                obtain ⟨x407, ex407, h⟩ := h.get
                refine AOps.i tabOk rfl rfl rfl ex407 ?_
                refine pI rfl rfl rfl ?_
                refine AOps.done ?_
                exact ⟨x407, h.1, h.2, (Sub.list (fun i => i) rfl rfl ⟨rfl, rfl, rfl, rfl, rfl, trivial⟩ trivial)⟩
            · replace h := h.2 e
              refine AOps.off rfl rfl ?_
              refine AOps.off rfl rfl ?_
              refine AOps.off rfl rfl ?_
              refine AOps.off rfl rfl ?_
              refine AOps.off rfl rfl ?_
              refine AOps.off rfl rfl ?_
              refine AOps.off rfl rfl ?_
              refine AOps.off rfl rfl ?_
              refine AOps.off rfl rfl ?_
              refine AOps.off rfl rfl ?_
              refine AOps.off rfl rfl ?_
              refine pB rfl rfl rfl ?_
              refine pB rfl rfl rfl ?_
              refine AOps.done ?_
              refine AWp.condF rfl ?_
              refine AWp.skip ?_
              refine AWp.regionN (fun _ => false) rfl ?_
              obtain ⟨x408, ex408, h⟩ := h.get
              refine AOps.i tabOk rfl rfl rfl ex408 ?_
              refine pI rfl rfl rfl ?_
              refine AOps.done ?_
              exact ⟨x408, h.1, h.2, (Sub.list (fun i => i) rfl rfl ⟨rfl, rfl, rfl, rfl, rfl, trivial⟩ trivial)⟩
    · replace h := h.2 e
      refine AWp.exit ?_
      refine AWp.seq ?_
      refine AWp.regionN (fun _ => false) rfl ?_
      refine pB rfl rfl rfl ?_
      refine AOps.done ?_
      refine AWp.ret ?_
      subst h
      exact ⟨_, rfl, rfl⟩
end Go.Sim.YtnnfiohdkobkdaaDoor
