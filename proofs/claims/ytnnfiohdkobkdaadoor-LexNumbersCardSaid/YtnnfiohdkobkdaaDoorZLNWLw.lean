/- What is proved: functions of the program compute what plain statements tell. -/
import Derived.Test.YtnnfiohdkobkdaaDoorZLNWE
namespace Go.Sim.YtnnfiohdkobkdaaDoor
open Go.RowKit Go.Proofs Go.Proofs.Tryd
set_option maxRecDepth 100000
def W_law12_LexNumbers (x1 : ByteArray) (Q : Bool → Prop) : Prop :=
  Br (decide (((x1.size : Nat) : Int) > (200 : Int))) (Q true) (
    Call (Ev_rat_Read x1) fun x2 =>
    Call (Ev_lex_Lex x1) fun x4 =>
    Br (x2.2 != (0 : Int)) (
      Br (x4.2.1 == (0 : Int)) (
        Br (((x4.1.length : Nat) : Int) == (2 : Int)) (
          At x4.1 (0 : Int) fun x44 =>
          Br (x44.Kind == (3 : Int)) (
            At x4.1 (1 : Int) fun x47 =>
            Br (x47.At == ((x1.size : Nat) : Int)) (
              At x4.1 (0 : Int) fun x50 =>
              Br (x50.At == (0 : Int)) (
                Call (Ev_law12_blank x1) fun x52 =>
                Q (!(!x52))) (
                Q true)) (
              Q true)) (
            Q true)) (
          Q true)) (
        Q true)) (
      Br (x4.2.1 == (0 : Int)) (
        Br (x4.2.2 == (0 : Int)) (
          Br (((x4.1.length : Nat) : Int) == (2 : Int)) (
            At x4.1 (0 : Int) fun x63 =>
            Br (GToken.beq x63 ({ GToken.zero with Kind := (3 : Int), Num := x2.1 })) (
              At x4.1 (1 : Int) fun x66 =>
              Q (GToken.beq x66 ({ GToken.zero with At := ((x1.size : Nat) : Int) }))) (
              Q false)) (
            Q false)) (
          Q false)) (
        Q false)))
theorem walk_law12_LexNumbers {x1 : ByteArray} {r : Bool} (h : W_law12_LexNumbers x1 (fun r' => r' = r)) : Ev_law12_LexNumbers x1 r := by
  unfold W_law12_LexNumbers at h
  refine AFn.intro' (L := [(0, .dat (.v (.string x1)))]) tabOk Tryd.func4 rfl rfl Tryd.ntmps4 rfl rfl rfl ?_
  refine AWp.seq ?_
  refine AWp.regionN (fun _ => false) rfl ?_
  refine pB rfl rfl rfl ?_
  refine AOps.done ?_
  refine AWp.seq ?_
  refine AWp.seq ?_
  refine AWp.regionN (fun _ => false) rfl ?_
  refine pG rfl rfl rfl ?_
  refine pI rfl rfl rfl ?_
  refine pB rfl rfl rfl ?_
  refine AOps.done ?_
  refine AWp.cond rfl (fun e => ?_) (fun e => ?_)
  · replace h := h.1 e
    refine AWp.seq ?_
    refine AWp.regionN (fun _ => false) rfl ?_
    refine pB rfl rfl rfl ?_
    refine AOps.done ?_
    refine AWp.ret ?_
    subst h
    exact ⟨_, rfl, rfl⟩
  · replace h := h.2 e
    refine AWp.skip ?_
    refine AWp.seq ?_
    refine AWp.regionN (fun o => writes o) rfl ?_
    refine pG rfl rfl rfl ?_
    obtain ⟨x2, hc3, h⟩ := h
    refine AOps.call hc3 rfl rfl rfl ⟨.inl rfl, trivial⟩ ?_
    refine pU rfl rfl rfl ?_
    refine pT rfl rfl rfl ?_
    refine pI rfl rfl rfl ?_
    refine AOps.alloc tabOk rfl rfl rfl rfl rfl ?_
    refine AOps.store tabOk (v := .dat (.st _ _)) rfl rfl rfl rfl rfl rfl rfl rfl rfl rfl rfl rfl rfl ?_
    refine pI rfl rfl rfl ?_
    refine AOps.done ?_
    refine AWp.seq ?_
    refine AWp.regionN (fun _ => false) rfl ?_
    refine pG rfl rfl rfl ?_
    obtain ⟨x4, hc5, h⟩ := h
    refine AOps.call hc5 rfl rfl rfl ⟨.inl rfl, trivial⟩ ?_
    refine pU rfl rfl rfl ?_
    refine pS rfl rfl rfl ?_
    refine pI rfl rfl rfl ?_
    refine pI rfl rfl rfl ?_
    refine pS rfl rfl rfl ?_
    refine pI rfl rfl rfl ?_
    refine pI rfl rfl rfl ?_
    refine AOps.done ?_
    refine AWp.seq ?_
    refine AWp.seq ?_
    refine AWp.regionN (fun _ => false) rfl ?_
    refine pI rfl rfl rfl ?_
    refine pB rfl rfl rfl ?_
    refine AOps.done ?_
    refine AWp.cond rfl (fun e => ?_) (fun e => ?_)
    · replace h := h.1 e
      refine AWp.seq ?_
      refine AWp.regionN (fun _ => false) rfl ?_
      refine pI rfl rfl rfl ?_
      refine pB rfl rfl rfl ?_
      refine pB rfl rfl rfl ?_
      refine AOps.splitB 26 rfl (fun e => ?_) (fun e => ?_)
      · replace h := h.1 e
        refine pS rfl rfl rfl ?_
        refine AOps.i (j := ((x4.1.length : Nat) : Int)) tabOk rfl rfl rfl (by first | (rw [List.length_map]; done) | rfl) ?_
        refine pB rfl rfl rfl ?_
        refine pB rfl rfl rfl ?_
        refine pB rfl rfl rfl ?_
        refine AOps.splitB 31 rfl (fun e => ?_) (fun e => ?_)
        · replace h := h.1 e
          refine pS rfl rfl rfl ?_
          obtain ⟨hi43, x44, hx45, h⟩ := h
          refine AOps.idx tabOk (z := GToken.enc x44) rfl rfl rfl rfl rfl rfl rfl rfl hi43 (map_get hx45) ?_
          refine pX rfl rfl rfl ?_
          refine pI rfl rfl rfl ?_
          refine pB rfl rfl rfl ?_
          refine pB rfl rfl rfl ?_
          refine pB rfl rfl rfl ?_
          refine AOps.splitB 38 rfl (fun e => ?_) (fun e => ?_)
          · replace h := h.1 e
            refine pS rfl rfl rfl ?_
            obtain ⟨hi46, x47, hx48, h⟩ := h
            refine AOps.idx tabOk (z := GToken.enc x47) rfl rfl rfl rfl rfl rfl rfl rfl hi46 (map_get hx48) ?_
            refine pX rfl rfl rfl ?_
            refine pI rfl rfl rfl ?_
            refine pG rfl rfl rfl ?_
            refine pI rfl rfl rfl ?_
            refine pB rfl rfl rfl ?_
            refine pB rfl rfl rfl ?_
            refine pB rfl rfl rfl ?_
            refine AOps.splitB 47 rfl (fun e => ?_) (fun e => ?_)
            · replace h := h.1 e
              refine pS rfl rfl rfl ?_
              obtain ⟨hi49, x50, hx51, h⟩ := h
              refine AOps.idx tabOk (z := GToken.enc x50) rfl rfl rfl rfl rfl rfl rfl rfl hi49 (map_get hx51) ?_
              refine pX rfl rfl rfl ?_
              refine pI rfl rfl rfl ?_
              refine pB rfl rfl rfl ?_
              refine pB rfl rfl rfl ?_
              refine pB rfl rfl rfl ?_
              refine AOps.splitB 54 rfl (fun e => ?_) (fun e => ?_)
              · replace h := h.1 e
                refine pG rfl rfl rfl ?_
                obtain ⟨x52, hc53, h⟩ := h
                refine AOps.call hc53 rfl rfl rfl ⟨.inl rfl, trivial⟩ ?_
                refine pB rfl rfl rfl ?_
                refine pB rfl rfl rfl ?_
                refine pB rfl rfl rfl ?_
                refine pB rfl rfl rfl ?_
                refine AOps.done ?_
                refine AWp.ret ?_
                subst h
                exact ⟨_, rfl, rfl⟩
              · replace h := h.2 e
                refine AOps.off rfl rfl ?_
                refine AOps.off rfl rfl ?_
                refine AOps.off rfl rfl ?_
                refine pB rfl rfl rfl ?_
                refine pB rfl rfl rfl ?_
                refine pB rfl rfl rfl ?_
                refine AOps.done ?_
                refine AWp.ret ?_
                subst h
                exact ⟨_, rfl, rfl⟩
            · replace h := h.2 e
              refine AOps.off rfl rfl ?_
              refine AOps.off rfl rfl ?_
              refine AOps.off rfl rfl ?_
              refine AOps.off rfl rfl ?_
              refine AOps.off rfl rfl ?_
              refine pB rfl rfl rfl ?_
              refine pB rfl rfl rfl ?_
              refine AOps.off rfl rfl ?_
              refine AOps.off rfl rfl ?_
              refine AOps.off rfl rfl ?_
              refine pB rfl rfl rfl ?_
              refine pB rfl rfl rfl ?_
              refine pB rfl rfl rfl ?_
              refine AOps.done ?_
              refine AWp.ret ?_
              subst h
              exact ⟨_, rfl, rfl⟩
          · replace h := h.2 e
            refine AOps.off rfl rfl ?_
            refine AOps.off rfl rfl ?_
            refine AOps.off rfl rfl ?_
            refine AOps.off rfl rfl ?_
            refine AOps.off rfl rfl ?_
            refine AOps.off rfl rfl ?_
            refine AOps.off rfl rfl ?_
            refine pB rfl rfl rfl ?_
            refine pB rfl rfl rfl ?_
            refine AOps.off rfl rfl ?_
            refine AOps.off rfl rfl ?_
            refine AOps.off rfl rfl ?_
            refine AOps.off rfl rfl ?_
            refine AOps.off rfl rfl ?_
            refine pB rfl rfl rfl ?_
            refine pB rfl rfl rfl ?_
            refine AOps.off rfl rfl ?_
            refine AOps.off rfl rfl ?_
            refine AOps.off rfl rfl ?_
            refine pB rfl rfl rfl ?_
            refine pB rfl rfl rfl ?_
            refine pB rfl rfl rfl ?_
            refine AOps.done ?_
            refine AWp.ret ?_
            subst h
            exact ⟨_, rfl, rfl⟩
        · replace h := h.2 e
          refine AOps.off rfl rfl ?_
          refine AOps.off rfl rfl ?_
          refine AOps.off rfl rfl ?_
          refine AOps.off rfl rfl ?_
          refine AOps.off rfl rfl ?_
          refine pB rfl rfl rfl ?_
          refine pB rfl rfl rfl ?_
          refine AOps.off rfl rfl ?_
          refine AOps.off rfl rfl ?_
          refine AOps.off rfl rfl ?_
          refine AOps.off rfl rfl ?_
          refine AOps.off rfl rfl ?_
          refine AOps.off rfl rfl ?_
          refine AOps.off rfl rfl ?_
          refine pB rfl rfl rfl ?_
          refine pB rfl rfl rfl ?_
          refine AOps.off rfl rfl ?_
          refine AOps.off rfl rfl ?_
          refine AOps.off rfl rfl ?_
          refine AOps.off rfl rfl ?_
          refine AOps.off rfl rfl ?_
          refine pB rfl rfl rfl ?_
          refine pB rfl rfl rfl ?_
          refine AOps.off rfl rfl ?_
          refine AOps.off rfl rfl ?_
          refine AOps.off rfl rfl ?_
          refine pB rfl rfl rfl ?_
          refine pB rfl rfl rfl ?_
          refine pB rfl rfl rfl ?_
          refine AOps.done ?_
          refine AWp.ret ?_
          subst h
          exact ⟨_, rfl, rfl⟩
      · replace h := h.2 e
        refine AOps.off rfl rfl ?_
        refine AOps.off rfl rfl ?_
        refine AOps.off rfl rfl ?_
        refine pB rfl rfl rfl ?_
        refine pB rfl rfl rfl ?_
        refine AOps.off rfl rfl ?_
        refine AOps.off rfl rfl ?_
        refine AOps.off rfl rfl ?_
        refine AOps.off rfl rfl ?_
        refine AOps.off rfl rfl ?_
        refine pB rfl rfl rfl ?_
        refine pB rfl rfl rfl ?_
        refine AOps.off rfl rfl ?_
        refine AOps.off rfl rfl ?_
        refine AOps.off rfl rfl ?_
        refine AOps.off rfl rfl ?_
        refine AOps.off rfl rfl ?_
        refine AOps.off rfl rfl ?_
        refine AOps.off rfl rfl ?_
        refine pB rfl rfl rfl ?_
        refine pB rfl rfl rfl ?_
        refine AOps.off rfl rfl ?_
        refine AOps.off rfl rfl ?_
        refine AOps.off rfl rfl ?_
        refine AOps.off rfl rfl ?_
        refine AOps.off rfl rfl ?_
        refine pB rfl rfl rfl ?_
        refine pB rfl rfl rfl ?_
        refine AOps.off rfl rfl ?_
        refine AOps.off rfl rfl ?_
        refine AOps.off rfl rfl ?_
        refine pB rfl rfl rfl ?_
        refine pB rfl rfl rfl ?_
        refine pB rfl rfl rfl ?_
        refine AOps.done ?_
        refine AWp.ret ?_
        subst h
        exact ⟨_, rfl, rfl⟩
    · replace h := h.2 e
      refine AWp.skip ?_
      refine AWp.seq ?_
      refine AWp.regionD (fun _ => false) mixed (by decide +kernel) rfl ?_
      refine pI rfl rfl rfl ?_
      refine pB rfl rfl rfl ?_
      refine pB rfl rfl rfl ?_
      refine AOps.splitB 62 rfl (fun e => ?_) (fun e => ?_)
      · replace h := h.1 e
        refine pI rfl rfl rfl ?_
        refine pB rfl rfl rfl ?_
        refine pB rfl rfl rfl ?_
        refine pB rfl rfl rfl ?_
        refine AOps.splitB 66 rfl (fun e => ?_) (fun e => ?_)
        · replace h := h.1 e
          refine pS rfl rfl rfl ?_
          refine AOps.i (j := ((x4.1.length : Nat) : Int)) tabOk rfl rfl rfl (by first | (rw [List.length_map]; done) | rfl) ?_
          refine pB rfl rfl rfl ?_
          refine pB rfl rfl rfl ?_
          refine pB rfl rfl rfl ?_
          refine AOps.splitB 71 rfl (fun e => ?_) (fun e => ?_)
          · replace h := h.1 e
            refine pS rfl rfl rfl ?_
            obtain ⟨hi62, x63, hx64, h⟩ := h
            refine AOps.idx tabOk (z := GToken.enc x63) rfl rfl rfl rfl rfl rfl rfl rfl hi62 (map_get hx64) ?_
            refine pT rfl rfl rfl ?_
            refine pT rfl rfl rfl ?_
            refine pT rfl rfl rfl ?_
            refine AOps.eqs rfl rfl rfl rfl rfl rfl rfl (by decide +kernel) (GToken.eqok29 _ x63 ({ GToken.zero with Kind := (3 : Int), Num := x2.1 })) ?_
            refine pB rfl rfl rfl ?_
            refine pB rfl rfl rfl ?_
            refine AOps.splitB 79 rfl (fun e => ?_) (fun e => ?_)
            · replace h := h.1 e
              refine pS rfl rfl rfl ?_
              obtain ⟨hi65, x66, hx67, h⟩ := h
              refine AOps.idx tabOk (z := GToken.enc x66) rfl rfl rfl rfl rfl rfl rfl rfl hi65 (map_get hx67) ?_
              refine pT rfl rfl rfl ?_
              refine pG rfl rfl rfl ?_
              refine pI rfl rfl rfl ?_
              refine pT rfl rfl rfl ?_
              refine AOps.eqs rfl rfl rfl rfl rfl rfl rfl (by decide +kernel) (GToken.eqok29 _ x66 ({ GToken.zero with At := ((x1.size : Nat) : Int) })) ?_
              refine pB rfl rfl rfl ?_
              refine pB rfl rfl rfl ?_
              refine AOps.done ?_
              refine AWp.ret ?_
              subst h
              exact ⟨_, rfl, rfl⟩
            · replace h := h.2 e
              refine AOps.off rfl rfl ?_
              refine AOps.off rfl rfl ?_
              refine AOps.off rfl rfl ?_
              refine AOps.off rfl rfl ?_
              refine AOps.off rfl rfl ?_
              refine AOps.off rfl rfl ?_
              refine AOps.off rfl rfl ?_
              refine pB rfl rfl rfl ?_
              refine pB rfl rfl rfl ?_
              refine AOps.done ?_
              refine AWp.ret ?_
              subst h
              exact ⟨_, rfl, rfl⟩
          · replace h := h.2 e
            refine AOps.off rfl rfl ?_
            refine AOps.off rfl rfl ?_
            refine AOps.off rfl rfl ?_
            refine AOps.off rfl rfl ?_
            refine AOps.off rfl rfl ?_
            refine AOps.off rfl rfl ?_
            refine pB rfl rfl rfl ?_
            refine pB rfl rfl rfl ?_
            refine AOps.off rfl rfl ?_
            refine AOps.off rfl rfl ?_
            refine AOps.off rfl rfl ?_
            refine AOps.off rfl rfl ?_
            refine AOps.off rfl rfl ?_
            refine AOps.off rfl rfl ?_
            refine AOps.off rfl rfl ?_
            refine pB rfl rfl rfl ?_
            refine pB rfl rfl rfl ?_
            refine AOps.done ?_
            refine AWp.ret ?_
            subst h
            exact ⟨_, rfl, rfl⟩
        · replace h := h.2 e
          refine AOps.off rfl rfl ?_
          refine AOps.off rfl rfl ?_
          refine AOps.off rfl rfl ?_
          refine pB rfl rfl rfl ?_
          refine pB rfl rfl rfl ?_
          refine AOps.off rfl rfl ?_
          refine AOps.off rfl rfl ?_
          refine AOps.off rfl rfl ?_
          refine AOps.off rfl rfl ?_
          refine AOps.off rfl rfl ?_
          refine AOps.off rfl rfl ?_
          refine pB rfl rfl rfl ?_
          refine pB rfl rfl rfl ?_
          refine AOps.off rfl rfl ?_
          refine AOps.off rfl rfl ?_
          refine AOps.off rfl rfl ?_
          refine AOps.off rfl rfl ?_
          refine AOps.off rfl rfl ?_
          refine AOps.off rfl rfl ?_
          refine AOps.off rfl rfl ?_
          refine pB rfl rfl rfl ?_
          refine pB rfl rfl rfl ?_
          refine AOps.done ?_
          refine AWp.ret ?_
          subst h
          exact ⟨_, rfl, rfl⟩
      · replace h := h.2 e
        refine AOps.off rfl rfl ?_
        refine AOps.off rfl rfl ?_
        refine pB rfl rfl rfl ?_
        refine pB rfl rfl rfl ?_
        refine AOps.off rfl rfl ?_
        refine AOps.off rfl rfl ?_
        refine AOps.off rfl rfl ?_
        refine pB rfl rfl rfl ?_
        refine pB rfl rfl rfl ?_
        refine AOps.off rfl rfl ?_
        refine AOps.off rfl rfl ?_
        refine AOps.off rfl rfl ?_
        refine AOps.off rfl rfl ?_
        refine AOps.off rfl rfl ?_
        refine AOps.off rfl rfl ?_
        refine pB rfl rfl rfl ?_
        refine pB rfl rfl rfl ?_
        refine AOps.off rfl rfl ?_
        refine AOps.off rfl rfl ?_
        refine AOps.off rfl rfl ?_
        refine AOps.off rfl rfl ?_
        refine AOps.off rfl rfl ?_
        refine AOps.off rfl rfl ?_
        refine AOps.off rfl rfl ?_
        refine pB rfl rfl rfl ?_
        refine pB rfl rfl rfl ?_
        refine AOps.done ?_
        refine AWp.ret ?_
        subst h
        exact ⟨_, rfl, rfl⟩
def W_law12_blank (s1 : ByteArray) (Q : Bool → Prop) : Prop :=
  Loop1 (0 : Int) (fun (i193 : Int) next194 =>
    Br (decide (i193 < ((s1.size : Nat) : Int))) (
      AtS s1 i193 fun x241 =>
      Br (x241 == (32 : Int)) (Q true) (
        AtS s1 i193 fun x244 =>
        Br (x244 == (9 : Int)) (Q true) (
          AtS s1 i193 fun x247 =>
          Br (x247 == (10 : Int)) (Q true) (
            AtS s1 i193 fun x250 =>
            Br (x250 == (13 : Int)) (Q true) (
              AtS s1 i193 fun x253 =>
              Br (x253 == (47 : Int)) (Q true) (
                Let (IntKind.i64.wrap (i193 + (1 : Int))) fun x255 =>
                next194 x255)))))) (
      Q false))
theorem walk_law12_blank {s1 : ByteArray} {r : Bool} (h : W_law12_blank s1 (fun r' => r' = r)) : Ev_law12_blank s1 r := by
  unfold W_law12_blank at h
  refine AFn.intro' (L := [(0, .dat (.v (.string s1)))]) tabOk Tryd.func9 rfl rfl Tryd.ntmps9 rfl rfl rfl ?_
  refine AWp.seq ?_
  refine AWp.regionN (fun _ => false) rfl ?_
  refine pB rfl rfl rfl ?_
  refine AOps.done ?_
  refine AWp.seq ?_
  refine AWp.seq ?_
  refine AWp.regionN (fun _ => false) rfl ?_
  refine pI rfl rfl rfl ?_
  refine AOps.done ?_
  refine AWp.block ?_
  obtain ⟨I256, x257, hz258, hr259⟩ := h
  refine AWp.loop (I := fun p : Int => mkSt [(0, .dat (.v (.string s1))), (3, .dat (.v (.int .i64 p)))] []) (Inv := fun p => I256 p) (μ := fun p => x257 p) (x0 := (0 : Int)) hz258 (Sub.list (fun i => i) rfl rfl ⟨rfl, rfl, trivial⟩ trivial) (fun p hp => ?_)
  have h := hr259 p hp
  revert h; clear hp; generalize p = i193; intro h
  refine AWp.seq ?_
  refine AWp.seq ?_
  refine AWp.regionN (fun _ => false) rfl ?_
  refine pI rfl rfl rfl ?_
  refine pG rfl rfl rfl ?_
  refine pI rfl rfl rfl ?_
  refine pB rfl rfl rfl ?_
  refine AOps.done ?_
  refine AWp.cond rfl (fun e => ?_) (fun e => ?_)
  · replace h := h.1 e
    refine AWp.skip ?_
    refine AWp.seq ?_
    refine AWp.block ?_
    refine AWp.seq ?_
    refine AWp.regionN (fun _ => false) rfl ?_
    refine pG rfl rfl rfl ?_
    refine pI rfl rfl rfl ?_
    obtain ⟨hi240, x241, hx242, h⟩ := AtS.get h
    refine AOps.sidxE tabOk rfl rfl rfl rfl rfl rfl rfl hi240 hx242 ?_
    refine pB rfl rfl rfl ?_
    refine pB rfl rfl rfl ?_
    refine AOps.splitB 14 rfl (fun e => ?_) (fun e => ?_)
    · replace h := h.1 e
      refine AOps.off rfl rfl ?_
      refine AOps.off rfl rfl ?_
      refine AOps.off rfl rfl ?_
      refine AOps.off rfl rfl ?_
      refine pB rfl rfl rfl ?_
      refine pB rfl rfl rfl ?_
      refine AOps.off rfl rfl ?_
      refine AOps.off rfl rfl ?_
      refine AOps.off rfl rfl ?_
      refine AOps.off rfl rfl ?_
      refine pB rfl rfl rfl ?_
      refine pB rfl rfl rfl ?_
      refine AOps.off rfl rfl ?_
      refine AOps.off rfl rfl ?_
      refine AOps.off rfl rfl ?_
      refine AOps.off rfl rfl ?_
      refine pB rfl rfl rfl ?_
      refine pB rfl rfl rfl ?_
      refine AOps.off rfl rfl ?_
      refine AOps.off rfl rfl ?_
      refine AOps.off rfl rfl ?_
      refine AOps.off rfl rfl ?_
      refine pB rfl rfl rfl ?_
      refine AOps.done ?_
      refine AWp.condT rfl ?_
      refine AWp.seq ?_
      refine AWp.regionN (fun _ => false) rfl ?_
      refine pB rfl rfl rfl ?_
      refine AOps.done ?_
      refine AWp.ret ?_
      subst h
      exact ⟨_, rfl, rfl⟩
    · replace h := h.2 e
      refine pG rfl rfl rfl ?_
      refine pI rfl rfl rfl ?_
      obtain ⟨hi243, x244, hx245, h⟩ := AtS.get h
      refine AOps.sidxE tabOk rfl rfl rfl rfl rfl rfl rfl hi243 hx245 ?_
      refine pB rfl rfl rfl ?_
      refine pB rfl rfl rfl ?_
      refine pB rfl rfl rfl ?_
      refine AOps.splitB 20 rfl (fun e => ?_) (fun e => ?_)
      · replace h := h.1 e
        refine AOps.off rfl rfl ?_
        refine AOps.off rfl rfl ?_
        refine AOps.off rfl rfl ?_
        refine AOps.off rfl rfl ?_
        refine pB rfl rfl rfl ?_
        refine pB rfl rfl rfl ?_
        refine AOps.off rfl rfl ?_
        refine AOps.off rfl rfl ?_
        refine AOps.off rfl rfl ?_
        refine AOps.off rfl rfl ?_
        refine pB rfl rfl rfl ?_
        refine pB rfl rfl rfl ?_
        refine AOps.off rfl rfl ?_
        refine AOps.off rfl rfl ?_
        refine AOps.off rfl rfl ?_
        refine AOps.off rfl rfl ?_
        refine pB rfl rfl rfl ?_
        refine AOps.done ?_
        refine AWp.condT rfl ?_
        refine AWp.seq ?_
        refine AWp.regionN (fun _ => false) rfl ?_
        refine pB rfl rfl rfl ?_
        refine AOps.done ?_
        refine AWp.ret ?_
        subst h
        exact ⟨_, rfl, rfl⟩
      · replace h := h.2 e
        refine pG rfl rfl rfl ?_
        refine pI rfl rfl rfl ?_
        obtain ⟨hi246, x247, hx248, h⟩ := AtS.get h
        refine AOps.sidxE tabOk rfl rfl rfl rfl rfl rfl rfl hi246 hx248 ?_
        refine pB rfl rfl rfl ?_
        refine pB rfl rfl rfl ?_
        refine pB rfl rfl rfl ?_
        refine AOps.splitB 26 rfl (fun e => ?_) (fun e => ?_)
        · replace h := h.1 e
          refine AOps.off rfl rfl ?_
          refine AOps.off rfl rfl ?_
          refine AOps.off rfl rfl ?_
          refine AOps.off rfl rfl ?_
          refine pB rfl rfl rfl ?_
          refine pB rfl rfl rfl ?_
          refine AOps.off rfl rfl ?_
          refine AOps.off rfl rfl ?_
          refine AOps.off rfl rfl ?_
          refine AOps.off rfl rfl ?_
          refine pB rfl rfl rfl ?_
          refine AOps.done ?_
          refine AWp.condT rfl ?_
          refine AWp.seq ?_
          refine AWp.regionN (fun _ => false) rfl ?_
          refine pB rfl rfl rfl ?_
          refine AOps.done ?_
          refine AWp.ret ?_
          subst h
          exact ⟨_, rfl, rfl⟩
        · replace h := h.2 e
          refine pG rfl rfl rfl ?_
          refine pI rfl rfl rfl ?_
          obtain ⟨hi249, x250, hx251, h⟩ := AtS.get h
          refine AOps.sidxE tabOk rfl rfl rfl rfl rfl rfl rfl hi249 hx251 ?_
          refine pB rfl rfl rfl ?_
          refine pB rfl rfl rfl ?_
          refine pB rfl rfl rfl ?_
          refine AOps.splitB 32 rfl (fun e => ?_) (fun e => ?_)
          · replace h := h.1 e
            refine AOps.off rfl rfl ?_
            refine AOps.off rfl rfl ?_
            refine AOps.off rfl rfl ?_
            refine AOps.off rfl rfl ?_
            refine pB rfl rfl rfl ?_
            refine AOps.done ?_
            refine AWp.condT rfl ?_
            refine AWp.seq ?_
            refine AWp.regionN (fun _ => false) rfl ?_
            refine pB rfl rfl rfl ?_
            refine AOps.done ?_
            refine AWp.ret ?_
            subst h
            exact ⟨_, rfl, rfl⟩
          · replace h := h.2 e
            refine pG rfl rfl rfl ?_
            refine pI rfl rfl rfl ?_
            obtain ⟨hi252, x253, hx254, h⟩ := AtS.get h
            refine AOps.sidxE tabOk rfl rfl rfl rfl rfl rfl rfl hi252 hx254 ?_
            refine pB rfl rfl rfl ?_
            refine pB rfl rfl rfl ?_
            refine AOps.done ?_
            refine AWp.cond rfl (fun e => ?_) (fun e => ?_)
            · replace h := h.1 e
              refine AWp.seq ?_
              refine AWp.regionN (fun _ => false) rfl ?_
              refine pB rfl rfl rfl ?_
              refine AOps.done ?_
              refine AWp.ret ?_
              subst h
              exact ⟨_, rfl, rfl⟩
            · replace h := h.2 e
              refine AWp.skip ?_
              refine AWp.regionN (fun _ => false) rfl ?_
              refine pI rfl rfl rfl ?_
              obtain ⟨x255, ex255, h⟩ := h.get
              refine AOps.i tabOk rfl rfl rfl ex255 ?_
              refine pI rfl rfl rfl ?_
              refine AOps.done ?_
              exact ⟨x255, h.1, h.2, (Sub.list (fun i => i) rfl rfl ⟨rfl, rfl, trivial⟩ trivial)⟩
  · replace h := h.2 e
    refine AWp.exit ?_
    refine AWp.seq ?_
    refine AWp.regionN (fun _ => false) rfl ?_
    refine pB rfl rfl rfl ?_
    refine AOps.done ?_
    refine AWp.ret ?_
    subst h
    exact ⟨_, rfl, rfl⟩
end Go.Sim.YtnnfiohdkobkdaaDoor
