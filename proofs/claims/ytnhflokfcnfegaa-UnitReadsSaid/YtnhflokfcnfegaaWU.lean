/- What is proved: functions of the program compute what plain statements tell. -/
import Derived.Test.YtnhflokfcnfegaaWE
namespace Go.Sim.Ytnhflokfcnfegaa
open Go.RowKit Go.Proofs Go.Proofs.Try

def W_unit_Times (a1 : GDim) (b2 : GDim) (p3 : GRat) (Q : GDim × Int → Prop) : Prop :=
  Call (Ev_unit_Right a1) fun x10 =>
  Br (!x10) (Q (GDim.zero, (1 : Int))) (
    Call (Ev_unit_Right b2) fun x12 =>
    Br (!x12) (Q (GDim.zero, (1 : Int))) (
      Call (Ev_rat_Right p3) fun x14 =>
      Br (!x14) (Q (GDim.zero, (1 : Int))) (
        Loop2 GDim.zero (0 : Int) (fun (out116 : GDim) (x117 : Int) next118 =>
          Br (decide (x117 < (7 : Int))) (
            At (Vector.toList b2.E) x117 fun x133 =>
            Call (Ev_rat_Mul x133 p3) fun x135 =>
            Br (x135.2 != (0 : Int)) (Q (GDim.zero, x135.2)) (
              At (Vector.toList a1.E) x117 fun x138 =>
              Call (Ev_rat_Add x138 x135.1) fun x140 =>
              At (Vector.toList out116.E) x117 fun x143 =>
              Br (x140.2 != (0 : Int)) (Q (GDim.zero, x140.2)) (
                Let (IntKind.i64.wrap (x117 + (1 : Int))) fun x145 =>
                next118 (GDim.mk (Vector.setIfInBounds out116.E (Int.toNat x117) x140.1)) x145))) (
            Q (out116, (0 : Int)))))))

theorem walk_unit_Times {a1 : GDim} {b2 : GDim} {p3 : GRat} {r : GDim × Int} (h : W_unit_Times a1 b2 p3 (fun r' => r' = r)) : Ev_unit_Times a1 b2 p3 r := by
  unfold W_unit_Times at h
  refine AFn.intro' (L := [(0, .dat (GDim.enc a1)), (1, .dat (GDim.enc b2)), (2, .dat (GRat.enc p3))]) tabOk Try.func30 rfl rfl Try.ntmps30 rfl rfl rfl ?_
  refine AWp.seq ?_
  refine AWp.regionN (fun _ => false) rfl ?_
  refine AOps.box (v := .dat (.st _ _)) rfl rfl rfl rfl rfl rfl ?_
  refine AOps.box (v := .dat (.st _ _)) rfl rfl rfl rfl rfl rfl ?_
  refine AOps.box (v := .dat (.st _ _)) rfl rfl rfl rfl rfl rfl ?_
  refine AOps.alloc tabOk rfl rfl rfl rfl rfl ?_
  refine pI rfl rfl rfl ?_
  refine AOps.done ?_
  refine AWp.seq ?_
  refine AWp.seq ?_
  refine AWp.regionN (fun _ => false) rfl ?_
  refine pT rfl rfl rfl ?_
  obtain ⟨x10, hc11, h⟩ := h
  refine AOps.call hc11 rfl rfl rfl ⟨.inl rfl, trivial⟩ ?_
  refine pB rfl rfl rfl ?_
  refine pB rfl rfl rfl ?_
  refine AOps.splitB 15 rfl (fun e => ?_) (fun e => ?_)
  · replace h := h.1 e
    refine AOps.off rfl rfl ?_
    refine AOps.off rfl rfl ?_
    refine AOps.off rfl rfl ?_
    refine pB rfl rfl rfl ?_
    refine pB rfl rfl rfl ?_
    refine AOps.off rfl rfl ?_
    refine AOps.off rfl rfl ?_
    refine AOps.off rfl rfl ?_
    refine pB rfl rfl rfl ?_
    refine AOps.done ?_
    refine AWp.condT rfl ?_
    refine AWp.seq ?_
    refine AWp.regionN (fun o => writes o) rfl ?_
    refine pT rfl rfl rfl ?_
    refine AOps.store tabOk (v := .dat (.st _ _)) rfl rfl rfl rfl rfl rfl rfl rfl rfl rfl rfl rfl rfl ?_
    refine pI rfl rfl rfl ?_
    refine AOps.done ?_
    refine AWp.ret ?_
    subst h
    exact ⟨_, rfl, rfl⟩
  · replace h := h.2 e
    refine pT rfl rfl rfl ?_
    obtain ⟨x12, hc13, h⟩ := h
    refine AOps.call hc13 rfl rfl rfl ⟨.inl rfl, trivial⟩ ?_
    refine pB rfl rfl rfl ?_
    refine pB rfl rfl rfl ?_
    refine pB rfl rfl rfl ?_
    refine AOps.splitB 20 rfl (fun e => ?_) (fun e => ?_)
    · replace h := h.1 e
      refine AOps.off rfl rfl ?_
      refine AOps.off rfl rfl ?_
      refine AOps.off rfl rfl ?_
      refine pB rfl rfl rfl ?_
      refine AOps.done ?_
      refine AWp.condT rfl ?_
      refine AWp.seq ?_
      refine AWp.regionN (fun o => writes o) rfl ?_
      refine pT rfl rfl rfl ?_
      refine AOps.store tabOk (v := .dat (.st _ _)) rfl rfl rfl rfl rfl rfl rfl rfl rfl rfl rfl rfl rfl ?_
      refine pI rfl rfl rfl ?_
      refine AOps.done ?_
      refine AWp.ret ?_
      subst h
      exact ⟨_, rfl, rfl⟩
    · replace h := h.2 e
      refine pT rfl rfl rfl ?_
      obtain ⟨x14, hc15, h⟩ := h
      refine AOps.call hc15 rfl rfl rfl ⟨.inl rfl, trivial⟩ ?_
      refine pB rfl rfl rfl ?_
      refine pB rfl rfl rfl ?_
      refine AOps.done ?_
      refine AWp.cond rfl (fun e => ?_) (fun e => ?_)
      · replace h := h.1 e
        refine AWp.seq ?_
        refine AWp.regionN (fun o => writes o) rfl ?_
        refine pT rfl rfl rfl ?_
        refine AOps.store tabOk (v := .dat (.st _ _)) rfl rfl rfl rfl rfl rfl rfl rfl rfl rfl rfl rfl rfl ?_
        refine pI rfl rfl rfl ?_
        refine AOps.done ?_
        refine AWp.ret ?_
        subst h
        exact ⟨_, rfl, rfl⟩
      · replace h := h.2 e
        refine AWp.skip ?_
        refine AWp.seq ?_
        refine AWp.regionN (fun _ => false) rfl ?_
        refine AOps.alloc tabOk rfl rfl rfl rfl rfl ?_
        refine AOps.done ?_
        refine AWp.seq ?_
        refine AWp.seq ?_
        refine AWp.regionN (fun _ => false) rfl ?_
        refine pI rfl rfl rfl ?_
        refine AOps.done ?_
        refine AWp.block ?_
        obtain ⟨I146, x147, hz148, hr149⟩ := h
        refine AWp.loop (I := fun p : GDim × Int => mkSt [(3, .pt 3 [] 0), (4, .pt 4 [] 0), (5, .pt 5 [] 0), (6, .pt 6 [] 0), (8, .pt 8 [] 0), (26, .dat (.v (.int .i64 p.2)))] [(3, .box 44 14 (.dat (GDim.enc a1))), (4, .box 44 14 (.dat (GDim.enc b2))), (5, .box 23 2 (.dat (GRat.enc p3))), (6, .box 44 14 (.dat (GDim.enc GDim.zero))), (8, .box 44 14 (.dat (GDim.enc p.1)))]) (Inv := fun p => I146 p.1 p.2) (μ := fun p => x147 p.1 p.2) (x0 := ⟨GDim.zero, (0 : Int)⟩) hz148 (Sub.list (fun i => i) rfl rfl ⟨rfl, rfl, rfl, rfl, rfl, rfl, trivial⟩ ⟨rfl, rfl, rfl, rfl, rfl, trivial⟩) (fun p hp => ?_)
        obtain ⟨out116, x117⟩ := p
        have h := hr149 out116 x117 hp
        refine AWp.seq ?_
        refine AWp.regionN (fun _ => false) rfl ?_
        refine pW rfl rfl rfl ?_
        refine AOps.done ?_
        refine AWp.seq ?_
        refine AWp.cond rfl (fun e => ?_) (fun e => ?_)
        · replace h := h.1 e
          refine AWp.skip ?_
          refine AWp.seq ?_
          refine AWp.block ?_
          refine AWp.seq ?_
          refine AWp.regionN (fun _ => false) rfl ?_
          refine pI rfl rfl rfl ?_
          refine pI rfl rfl rfl ?_
          refine AOps.done ?_
          refine AWp.seq ?_
          refine AWp.regionD (fun o => writes o) mixed (by decide +kernel) rfl ?_
          refine pI rfl rfl rfl ?_
          refine pP rfl rfl rfl ?_
          obtain ⟨hi132, x133, hx134, h⟩ := h
          refine AOps.aidx tabOk rfl rfl rfl rfl rfl rfl rfl rfl hi132 (vec_lt hi132 hx134) rfl ?_
          refine AOps.loadix tabOk rfl rfl rfl rfl rfl rfl rfl rfl (locA_ix [.fld 0] [] rfl (map_get hx134) rfl) ?_
          refine pT rfl rfl rfl ?_
          obtain ⟨x135, hc136, h⟩ := h
          refine AOps.call hc136 rfl rfl rfl ⟨.inl rfl, .inl rfl, trivial⟩ ?_
          refine pU rfl rfl rfl ?_
          refine pT rfl rfl rfl ?_
          refine pI rfl rfl rfl ?_
          refine AOps.alloc tabOk rfl rfl rfl rfl rfl ?_
          refine AOps.store tabOk (v := .dat (.st _ _)) rfl rfl rfl rfl rfl rfl rfl rfl rfl rfl rfl rfl rfl ?_
          refine pI rfl rfl rfl ?_
          refine AOps.done ?_
          refine AWp.seq ?_
          refine AWp.seq ?_
          refine AWp.regionN (fun _ => false) rfl ?_
          refine pI rfl rfl rfl ?_
          refine pB rfl rfl rfl ?_
          refine AOps.done ?_
          refine AWp.cond rfl (fun e => ?_) (fun e => ?_)
          · replace h := h.1 e
            refine AWp.seq ?_
            refine AWp.regionN (fun o => writes o) rfl ?_
            refine pT rfl rfl rfl ?_
            refine pI rfl rfl rfl ?_
            refine AOps.store tabOk (v := .dat (.st _ _)) rfl rfl rfl rfl rfl rfl rfl rfl rfl rfl rfl rfl rfl ?_
            refine pI rfl rfl rfl ?_
            refine AOps.done ?_
            refine AWp.ret ?_
            subst h
            exact ⟨_, rfl, rfl⟩
          · replace h := h.2 e
            refine AWp.skip ?_
            refine AWp.seq ?_
            refine AWp.regionD (fun o => writes o) mixed (by decide +kernel) rfl ?_
            refine pI rfl rfl rfl ?_
            refine pI rfl rfl rfl ?_
            refine pP rfl rfl rfl ?_
            obtain ⟨hi137, x138, hx139, h⟩ := h
            refine AOps.aidx tabOk rfl rfl rfl rfl rfl rfl rfl rfl hi137 (vec_lt hi137 hx139) rfl ?_
            refine AOps.loadix tabOk rfl rfl rfl rfl rfl rfl rfl rfl (locA_ix [.fld 0] [] rfl (map_get hx139) rfl) ?_
            refine pT rfl rfl rfl ?_
            obtain ⟨x140, hc141, h⟩ := h
            refine AOps.call hc141 rfl rfl rfl ⟨.inl rfl, .inl rfl, trivial⟩ ?_
            refine pU rfl rfl rfl ?_
            refine pT rfl rfl rfl ?_
            refine pI rfl rfl rfl ?_
            refine pP rfl rfl rfl ?_
            obtain ⟨hi142, x143, hx144, h⟩ := h
            refine AOps.aidx tabOk rfl rfl rfl rfl rfl rfl rfl rfl hi142 (vec_lt hi142 hx144) rfl ?_
            refine AOps.store tabOk (v := .dat (.st _ _)) rfl rfl rfl rfl rfl rfl rfl (locA_ix [.fld 0] [] rfl (map_get hx144) rfl) rfl rfl rfl rfl (putA_ix [.fld 0] [] (o := 0) rfl (map_get hx144) rfl (vmap_set1 (e := GRat.enc) (x := x140.1)) rfl) ?_
            refine pI rfl rfl rfl ?_
            refine AOps.done ?_
            refine AWp.seq ?_
            refine AWp.regionN (fun _ => false) rfl ?_
            refine pI rfl rfl rfl ?_
            refine pB rfl rfl rfl ?_
            refine AOps.done ?_
            refine AWp.cond rfl (fun e => ?_) (fun e => ?_)
            · replace h := h.1 e
              refine AWp.seq ?_
              refine AWp.regionN (fun o => writes o) rfl ?_
              refine pT rfl rfl rfl ?_
              refine pI rfl rfl rfl ?_
              refine AOps.store tabOk (v := .dat (.st _ _)) rfl rfl rfl rfl rfl rfl rfl rfl rfl rfl rfl rfl rfl ?_
              refine pI rfl rfl rfl ?_
              refine AOps.done ?_
              refine AWp.ret ?_
              subst h
              exact ⟨_, rfl, rfl⟩
            · replace h := h.2 e
              refine AWp.skip ?_
              refine AWp.regionN (fun _ => false) rfl ?_
              obtain ⟨x145, ex145, h⟩ := h.get
              refine AOps.i tabOk rfl rfl rfl ex145 ?_
              refine pI rfl rfl rfl ?_
              refine AOps.done ?_
              exact ⟨⟨(GDim.mk (Vector.setIfInBounds out116.E (Int.toNat x117) x140.1)), x145⟩, h.1, h.2, (Sub.list (fun i => i) rfl rfl ⟨rfl, rfl, rfl, rfl, rfl, rfl, trivial⟩ ⟨rfl, rfl, rfl, rfl, rfl, trivial⟩)⟩
        · replace h := h.2 e
          refine AWp.exit ?_
          refine AWp.seq ?_
          refine AWp.regionN (fun o => writes o) rfl ?_
          refine pT rfl rfl rfl ?_
          refine AOps.store tabOk (v := .dat (.st _ _)) rfl rfl rfl rfl rfl rfl rfl rfl rfl rfl rfl rfl rfl ?_
          refine pI rfl rfl rfl ?_
          refine AOps.done ?_
          refine AWp.ret ?_
          subst h
          exact ⟨_, rfl, rfl⟩

def W_ref14_Times (a1 : GDim) (b2 : GDim) (p3 : GRat) (Q : GDim × Int → Prop) : Prop :=
  Call (Ev_ref14_Right a1) fun x10 =>
  Br (!x10) (Q (GDim.zero, (1 : Int))) (
    Call (Ev_ref14_Right b2) fun x12 =>
    Br (!x12) (Q (GDim.zero, (1 : Int))) (
      Call (Ev_ref11_Right p3) fun x14 =>
      Br (!x14) (Q (GDim.zero, (1 : Int))) (
        Loop2 GDim.zero (0 : Int) (fun (out116 : GDim) (i117 : Int) next118 =>
          Br (decide (i117 < (7 : Int))) (
            At (Vector.toList b2.E) i117 fun x133 =>
            Call (Ev_ref11_Mul x133 p3) fun x135 =>
            Br (x135.2 != (0 : Int)) (Q (GDim.zero, x135.2)) (
              At (Vector.toList a1.E) i117 fun x138 =>
              Call (Ev_ref11_Add x138 x135.1) fun x140 =>
              Br (x140.2 != (0 : Int)) (Q (GDim.zero, x140.2)) (
                At (Vector.toList out116.E) i117 fun x143 =>
                Let (IntKind.i64.wrap (i117 + (1 : Int))) fun x145 =>
                next118 (GDim.mk (Vector.setIfInBounds out116.E (Int.toNat i117) x140.1)) x145))) (
            Q (out116, (0 : Int)))))))

theorem walk_ref14_Times {a1 : GDim} {b2 : GDim} {p3 : GRat} {r : GDim × Int} (h : W_ref14_Times a1 b2 p3 (fun r' => r' = r)) : Ev_ref14_Times a1 b2 p3 r := by
  unfold W_ref14_Times at h
  refine AFn.intro' (L := [(0, .dat (GDim.enc a1)), (1, .dat (GDim.enc b2)), (2, .dat (GRat.enc p3))]) tabOk Try.func31 rfl rfl Try.ntmps31 rfl rfl rfl ?_
  refine AWp.seq ?_
  refine AWp.regionN (fun _ => false) rfl ?_
  refine AOps.box (v := .dat (.st _ _)) rfl rfl rfl rfl rfl rfl ?_
  refine AOps.box (v := .dat (.st _ _)) rfl rfl rfl rfl rfl rfl ?_
  refine AOps.box (v := .dat (.st _ _)) rfl rfl rfl rfl rfl rfl ?_
  refine AOps.alloc tabOk rfl rfl rfl rfl rfl ?_
  refine pI rfl rfl rfl ?_
  refine AOps.done ?_
  refine AWp.seq ?_
  refine AWp.seq ?_
  refine AWp.regionN (fun _ => false) rfl ?_
  refine pT rfl rfl rfl ?_
  obtain ⟨x10, hc11, h⟩ := h
  refine AOps.call hc11 rfl rfl rfl ⟨.inl rfl, trivial⟩ ?_
  refine pB rfl rfl rfl ?_
  refine pB rfl rfl rfl ?_
  refine AOps.splitB 17 rfl (fun e => ?_) (fun e => ?_)
  · replace h := h.1 e
    refine AOps.off rfl rfl ?_
    refine AOps.off rfl rfl ?_
    refine AOps.off rfl rfl ?_
    refine pB rfl rfl rfl ?_
    refine pB rfl rfl rfl ?_
    refine AOps.off rfl rfl ?_
    refine AOps.off rfl rfl ?_
    refine AOps.off rfl rfl ?_
    refine pB rfl rfl rfl ?_
    refine AOps.done ?_
    refine AWp.condT rfl ?_
    refine AWp.seq ?_
    refine AWp.regionN (fun o => writes o) rfl ?_
    refine pT rfl rfl rfl ?_
    refine AOps.store tabOk (v := .dat (.st _ _)) rfl rfl rfl rfl rfl rfl rfl rfl rfl rfl rfl rfl rfl ?_
    refine pI rfl rfl rfl ?_
    refine AOps.done ?_
    refine AWp.ret ?_
    subst h
    exact ⟨_, rfl, rfl⟩
  · replace h := h.2 e
    refine pT rfl rfl rfl ?_
    obtain ⟨x12, hc13, h⟩ := h
    refine AOps.call hc13 rfl rfl rfl ⟨.inl rfl, trivial⟩ ?_
    refine pB rfl rfl rfl ?_
    refine pB rfl rfl rfl ?_
    refine pB rfl rfl rfl ?_
    refine AOps.splitB 22 rfl (fun e => ?_) (fun e => ?_)
    · replace h := h.1 e
      refine AOps.off rfl rfl ?_
      refine AOps.off rfl rfl ?_
      refine AOps.off rfl rfl ?_
      refine pB rfl rfl rfl ?_
      refine AOps.done ?_
      refine AWp.condT rfl ?_
      refine AWp.seq ?_
      refine AWp.regionN (fun o => writes o) rfl ?_
      refine pT rfl rfl rfl ?_
      refine AOps.store tabOk (v := .dat (.st _ _)) rfl rfl rfl rfl rfl rfl rfl rfl rfl rfl rfl rfl rfl ?_
      refine pI rfl rfl rfl ?_
      refine AOps.done ?_
      refine AWp.ret ?_
      subst h
      exact ⟨_, rfl, rfl⟩
    · replace h := h.2 e
      refine pT rfl rfl rfl ?_
      obtain ⟨x14, hc15, h⟩ := h
      refine AOps.call hc15 rfl rfl rfl ⟨.inl rfl, trivial⟩ ?_
      refine pB rfl rfl rfl ?_
      refine pB rfl rfl rfl ?_
      refine AOps.done ?_
      refine AWp.cond rfl (fun e => ?_) (fun e => ?_)
      · replace h := h.1 e
        refine AWp.seq ?_
        refine AWp.regionN (fun o => writes o) rfl ?_
        refine pT rfl rfl rfl ?_
        refine AOps.store tabOk (v := .dat (.st _ _)) rfl rfl rfl rfl rfl rfl rfl rfl rfl rfl rfl rfl rfl ?_
        refine pI rfl rfl rfl ?_
        refine AOps.done ?_
        refine AWp.ret ?_
        subst h
        exact ⟨_, rfl, rfl⟩
      · replace h := h.2 e
        refine AWp.skip ?_
        refine AWp.seq ?_
        refine AWp.regionN (fun o => writes o) rfl ?_
        refine pT rfl rfl rfl ?_
        refine AOps.alloc tabOk rfl rfl rfl rfl rfl ?_
        refine AOps.store tabOk (v := .dat (.st _ _)) rfl rfl rfl rfl rfl rfl rfl rfl rfl rfl rfl rfl rfl ?_
        refine AOps.done ?_
        refine AWp.seq ?_
        refine AWp.seq ?_
        refine AWp.regionN (fun _ => false) rfl ?_
        refine pI rfl rfl rfl ?_
        refine AOps.done ?_
        refine AWp.block ?_
        obtain ⟨I146, x147, hz148, hr149⟩ := h
        refine AWp.loop (I := fun p : GDim × Int => mkSt [(3, .pt 3 [] 0), (4, .pt 4 [] 0), (5, .pt 5 [] 0), (6, .pt 6 [] 0), (8, .pt 8 [] 0), (9, .dat (.v (.int .i64 p.2)))] [(3, .box 44 14 (.dat (GDim.enc a1))), (4, .box 44 14 (.dat (GDim.enc b2))), (5, .box 23 2 (.dat (GRat.enc p3))), (6, .box 44 14 (.dat (GDim.enc GDim.zero))), (8, .box 44 14 (.dat (GDim.enc p.1)))]) (Inv := fun p => I146 p.1 p.2) (μ := fun p => x147 p.1 p.2) (x0 := ⟨GDim.zero, (0 : Int)⟩) hz148 (Sub.list (fun i => i) rfl rfl ⟨rfl, rfl, rfl, rfl, rfl, rfl, trivial⟩ ⟨rfl, rfl, rfl, rfl, rfl, trivial⟩) (fun p hp => ?_)
        obtain ⟨out116, i117⟩ := p
        have h := hr149 out116 i117 hp
        refine AWp.seq ?_
        refine AWp.seq ?_
        refine AWp.regionN (fun _ => false) rfl ?_
        refine pI rfl rfl rfl ?_
        refine pB rfl rfl rfl ?_
        refine AOps.done ?_
        refine AWp.cond rfl (fun e => ?_) (fun e => ?_)
        · replace h := h.1 e
          refine AWp.skip ?_
          refine AWp.seq ?_
          refine AWp.block ?_
          refine AWp.seq ?_
          refine AWp.regionD (fun o => writes o) mixed (by decide +kernel) rfl ?_
          refine pI rfl rfl rfl ?_
          refine pP rfl rfl rfl ?_
          obtain ⟨hi132, x133, hx134, h⟩ := h
          refine AOps.aidx tabOk rfl rfl rfl rfl rfl rfl rfl rfl hi132 (vec_lt hi132 hx134) rfl ?_
          refine AOps.loadix tabOk rfl rfl rfl rfl rfl rfl rfl rfl (locA_ix [.fld 0] [] rfl (map_get hx134) rfl) ?_
          refine pT rfl rfl rfl ?_
          obtain ⟨x135, hc136, h⟩ := h
          refine AOps.call hc136 rfl rfl rfl ⟨.inl rfl, .inl rfl, trivial⟩ ?_
          refine pU rfl rfl rfl ?_
          refine pT rfl rfl rfl ?_
          refine pI rfl rfl rfl ?_
          refine AOps.alloc tabOk rfl rfl rfl rfl rfl ?_
          refine AOps.store tabOk (v := .dat (.st _ _)) rfl rfl rfl rfl rfl rfl rfl rfl rfl rfl rfl rfl rfl ?_
          refine pI rfl rfl rfl ?_
          refine AOps.done ?_
          refine AWp.seq ?_
          refine AWp.seq ?_
          refine AWp.regionN (fun _ => false) rfl ?_
          refine pI rfl rfl rfl ?_
          refine pB rfl rfl rfl ?_
          refine AOps.done ?_
          refine AWp.cond rfl (fun e => ?_) (fun e => ?_)
          · replace h := h.1 e
            refine AWp.seq ?_
            refine AWp.regionN (fun o => writes o) rfl ?_
            refine pT rfl rfl rfl ?_
            refine pI rfl rfl rfl ?_
            refine AOps.store tabOk (v := .dat (.st _ _)) rfl rfl rfl rfl rfl rfl rfl rfl rfl rfl rfl rfl rfl ?_
            refine pI rfl rfl rfl ?_
            refine AOps.done ?_
            refine AWp.ret ?_
            subst h
            exact ⟨_, rfl, rfl⟩
          · replace h := h.2 e
            refine AWp.skip ?_
            refine AWp.seq ?_
            refine AWp.regionD (fun o => writes o) mixed (by decide +kernel) rfl ?_
            refine pI rfl rfl rfl ?_
            refine pP rfl rfl rfl ?_
            obtain ⟨hi137, x138, hx139, h⟩ := h
            refine AOps.aidx tabOk rfl rfl rfl rfl rfl rfl rfl rfl hi137 (vec_lt hi137 hx139) rfl ?_
            refine AOps.loadix tabOk rfl rfl rfl rfl rfl rfl rfl rfl (locA_ix [.fld 0] [] rfl (map_get hx139) rfl) ?_
            refine pT rfl rfl rfl ?_
            obtain ⟨x140, hc141, h⟩ := h
            refine AOps.call hc141 rfl rfl rfl ⟨.inl rfl, .inl rfl, trivial⟩ ?_
            refine pU rfl rfl rfl ?_
            refine pT rfl rfl rfl ?_
            refine pI rfl rfl rfl ?_
            refine AOps.alloc tabOk rfl rfl rfl rfl rfl ?_
            refine AOps.store tabOk (v := .dat (.st _ _)) rfl rfl rfl rfl rfl rfl rfl rfl rfl rfl rfl rfl rfl ?_
            refine pI rfl rfl rfl ?_
            refine AOps.done ?_
            refine AWp.seq ?_
            refine AWp.seq ?_
            refine AWp.regionN (fun _ => false) rfl ?_
            refine pI rfl rfl rfl ?_
            refine pB rfl rfl rfl ?_
            refine AOps.done ?_
            refine AWp.cond rfl (fun e => ?_) (fun e => ?_)
            · replace h := h.1 e
              refine AWp.seq ?_
              refine AWp.regionN (fun o => writes o) rfl ?_
              refine pT rfl rfl rfl ?_
              refine pI rfl rfl rfl ?_
              refine AOps.store tabOk (v := .dat (.st _ _)) rfl rfl rfl rfl rfl rfl rfl rfl rfl rfl rfl rfl rfl ?_
              refine pI rfl rfl rfl ?_
              refine AOps.done ?_
              refine AWp.ret ?_
              subst h
              exact ⟨_, rfl, rfl⟩
            · replace h := h.2 e
              refine AWp.skip ?_
              refine AWp.regionN (fun o => writes o) rfl ?_
              refine pI rfl rfl rfl ?_
              refine pT rfl rfl rfl ?_
              refine pP rfl rfl rfl ?_
              obtain ⟨hi142, x143, hx144, h⟩ := h
              refine AOps.aidx tabOk rfl rfl rfl rfl rfl rfl rfl rfl hi142 (vec_lt hi142 hx144) rfl ?_
              refine AOps.store tabOk (v := .dat (.st _ _)) rfl rfl rfl rfl rfl rfl rfl (locA_ix [.fld 0] [] rfl (map_get hx144) rfl) rfl rfl rfl rfl (putA_ix [.fld 0] [] (o := 0) rfl (map_get hx144) rfl (vmap_set1 (e := GRat.enc) (x := x140.1)) rfl) ?_
              refine AOps.done ?_
              refine AWp.regionN (fun _ => false) rfl ?_
              refine pI rfl rfl rfl ?_
              obtain ⟨x145, ex145, h⟩ := h.get
              refine AOps.i tabOk rfl rfl rfl ex145 ?_
              refine pI rfl rfl rfl ?_
              refine AOps.done ?_
              exact ⟨⟨(GDim.mk (Vector.setIfInBounds out116.E (Int.toNat i117) x140.1)), x145⟩, h.1, h.2, (Sub.list (fun i => i) rfl rfl ⟨rfl, rfl, rfl, rfl, rfl, rfl, trivial⟩ ⟨rfl, rfl, rfl, rfl, rfl, trivial⟩)⟩
        · replace h := h.2 e
          refine AWp.exit ?_
          refine AWp.seq ?_
          refine AWp.regionN (fun o => writes o) rfl ?_
          refine pT rfl rfl rfl ?_
          refine AOps.store tabOk (v := .dat (.st _ _)) rfl rfl rfl rfl rfl rfl rfl rfl rfl rfl rfl rfl rfl ?_
          refine pI rfl rfl rfl ?_
          refine AOps.done ?_
          refine AWp.ret ?_
          subst h
          exact ⟨_, rfl, rfl⟩

def W_unit_Right (d1 : GDim) (Q : Bool → Prop) : Prop :=
  Loop1 (0 : Int) (fun (x43 : Int) next44 =>
    Br (decide (x43 < (7 : Int))) (
      At (Vector.toList d1.E) x43 fun x51 =>
      Call (Ev_rat_Right x51) fun x53 =>
      Br (!x53) (Q false) (
        Let (IntKind.i64.wrap (x43 + (1 : Int))) fun x55 =>
        next44 x55)) (
      Q true))

theorem walk_unit_Right {d1 : GDim} {r : Bool} (h : W_unit_Right d1 (fun r' => r' = r)) : Ev_unit_Right d1 r := by
  unfold W_unit_Right at h
  refine AFn.intro' (L := [(0, .dat (GDim.enc d1))]) tabOk Try.func32 rfl rfl Try.ntmps32 rfl rfl rfl ?_
  refine AWp.seq ?_
  refine AWp.regionN (fun _ => false) rfl ?_
  refine AOps.box (v := .dat (.st _ _)) rfl rfl rfl rfl rfl rfl ?_
  refine pB rfl rfl rfl ?_
  refine AOps.done ?_
  refine AWp.seq ?_
  refine AWp.seq ?_
  refine AWp.regionN (fun _ => false) rfl ?_
  refine pP rfl rfl rfl ?_
  refine AOps.loadix tabOk rfl rfl rfl rfl rfl rfl rfl (aggMatch_arr rfl rfl) rfl ?_
  refine pI rfl rfl rfl ?_
  refine AOps.done ?_
  refine AWp.block ?_
  obtain ⟨I56, x57, hz58, hr59⟩ := h
  refine AWp.loop (I := fun p : Int => mkSt [(6, .dat (.ar 2 (List.map GRat.enc (Vector.toList d1.E)))), (7, .dat (.v (.int .i64 p)))] []) (Inv := fun p => I56 p) (μ := fun p => x57 p) (x0 := (0 : Int)) hz58 (Sub.list (fun i => i) rfl rfl ⟨rfl, rfl, trivial⟩ trivial) (fun p hp => ?_)
  have h := hr59 p hp
  revert h; clear hp; generalize p = x43; intro h
  refine AWp.seq ?_
  refine AWp.regionN (fun _ => false) rfl ?_
  refine pW rfl rfl rfl ?_
  refine AOps.done ?_
  refine AWp.seq ?_
  refine AWp.cond rfl (fun e => ?_) (fun e => ?_)
  · replace h := h.1 e
    refine AWp.skip ?_
    refine AWp.seq ?_
    refine AWp.block ?_
    refine AWp.seq ?_
    refine AWp.regionN (fun o => writes o) rfl ?_
    obtain ⟨hi50, x51, hx52, h⟩ := h
    refine AOps.idxv tabOk (z := GRat.enc x51) rfl rfl rfl rfl rfl rfl rfl rfl rfl rfl hi50 (vec_lt hi50 hx52) (map_get hx52) ?_
    refine AOps.alloc tabOk rfl rfl rfl rfl rfl ?_
    refine AOps.store tabOk (v := .dat (.st _ _)) rfl rfl rfl rfl rfl rfl rfl rfl rfl rfl rfl rfl rfl ?_
    refine AOps.done ?_
    refine AWp.seq ?_
    refine AWp.regionN (fun _ => false) rfl ?_
    refine pT rfl rfl rfl ?_
    obtain ⟨x53, hc54, h⟩ := h
    refine AOps.call hc54 rfl rfl rfl ⟨.inl rfl, trivial⟩ ?_
    refine pB rfl rfl rfl ?_
    refine AOps.done ?_
    refine AWp.cond rfl (fun e => ?_) (fun e => ?_)
    · replace h := h.1 e
      refine AWp.seq ?_
      refine AWp.regionN (fun _ => false) rfl ?_
      refine pB rfl rfl rfl ?_
      refine AOps.done ?_
      refine AWp.ret ?_
      subst h
      exact ⟨_, rfl, rfl⟩
    · replace h := h.2 e
      refine AWp.skip ?_
      refine AWp.regionN (fun _ => false) rfl ?_
      obtain ⟨x55, ex55, h⟩ := h.get
      refine AOps.i tabOk rfl rfl rfl ex55 ?_
      refine pI rfl rfl rfl ?_
      refine AOps.done ?_
      exact ⟨x55, h.1, h.2, (Sub.list (fun i => i) rfl rfl ⟨rfl, rfl, trivial⟩ trivial)⟩
  · replace h := h.2 e
    refine AWp.exit ?_
    refine AWp.seq ?_
    refine AWp.regionN (fun _ => false) rfl ?_
    refine pB rfl rfl rfl ?_
    refine AOps.done ?_
    refine AWp.ret ?_
    subst h
    exact ⟨_, rfl, rfl⟩

def W_ref14_Right (d1 : GDim) (Q : Bool → Prop) : Prop :=
  Loop1 (0 : Int) (fun (i45 : Int) next46 =>
    Br (decide (i45 < (7 : Int))) (
      At (Vector.toList d1.E) i45 fun x53 =>
      Call (Ev_ref11_Right x53) fun x55 =>
      Br (!x55) (Q false) (
        Let (IntKind.i64.wrap (i45 + (1 : Int))) fun x57 =>
        next46 x57)) (
      Q true))

theorem walk_ref14_Right {d1 : GDim} {r : Bool} (h : W_ref14_Right d1 (fun r' => r' = r)) : Ev_ref14_Right d1 r := by
  unfold W_ref14_Right at h
  refine AFn.intro' (L := [(0, .dat (GDim.enc d1))]) tabOk Try.func33 rfl rfl Try.ntmps33 rfl rfl rfl ?_
  refine AWp.seq ?_
  refine AWp.regionN (fun _ => false) rfl ?_
  refine AOps.box (v := .dat (.st _ _)) rfl rfl rfl rfl rfl rfl ?_
  refine pB rfl rfl rfl ?_
  refine AOps.done ?_
  refine AWp.seq ?_
  refine AWp.seq ?_
  refine AWp.regionN (fun _ => false) rfl ?_
  refine pI rfl rfl rfl ?_
  refine AOps.done ?_
  refine AWp.block ?_
  obtain ⟨I58, x59, hz60, hr61⟩ := h
  refine AWp.loop (I := fun p : Int => mkSt [(1, .pt 1 [] 0), (3, .dat (.v (.int .i64 p)))] [(1, .box 44 14 (.dat (GDim.enc d1)))]) (Inv := fun p => I58 p) (μ := fun p => x59 p) (x0 := (0 : Int)) hz60 (Sub.list (fun i => i) rfl rfl ⟨rfl, rfl, trivial⟩ ⟨rfl, trivial⟩) (fun p hp => ?_)
  have h := hr61 p hp
  revert h; clear hp; generalize p = i45; intro h
  refine AWp.seq ?_
  refine AWp.seq ?_
  refine AWp.regionN (fun _ => false) rfl ?_
  refine pI rfl rfl rfl ?_
  refine pB rfl rfl rfl ?_
  refine AOps.done ?_
  refine AWp.cond rfl (fun e => ?_) (fun e => ?_)
  · replace h := h.1 e
    refine AWp.skip ?_
    refine AWp.seq ?_
    refine AWp.block ?_
    refine AWp.seq ?_
    refine AWp.regionN (fun _ => false) rfl ?_
    refine pI rfl rfl rfl ?_
    refine pP rfl rfl rfl ?_
    obtain ⟨hi52, x53, hx54, h⟩ := h
    refine AOps.aidx tabOk rfl rfl rfl rfl rfl rfl rfl rfl hi52 (vec_lt hi52 hx54) rfl ?_
    refine AOps.loadix tabOk rfl rfl rfl rfl rfl rfl rfl rfl (locA_ix [.fld 0] [] rfl (map_get hx54) rfl) ?_
    obtain ⟨x55, hc56, h⟩ := h
    refine AOps.call hc56 rfl rfl rfl ⟨.inl rfl, trivial⟩ ?_
    refine pB rfl rfl rfl ?_
    refine AOps.done ?_
    refine AWp.cond rfl (fun e => ?_) (fun e => ?_)
    · replace h := h.1 e
      refine AWp.seq ?_
      refine AWp.regionN (fun _ => false) rfl ?_
      refine pB rfl rfl rfl ?_
      refine AOps.done ?_
      refine AWp.ret ?_
      subst h
      exact ⟨_, rfl, rfl⟩
    · replace h := h.2 e
      refine AWp.skip ?_
      refine AWp.regionN (fun _ => false) rfl ?_
      refine pI rfl rfl rfl ?_
      obtain ⟨x57, ex57, h⟩ := h.get
      refine AOps.i tabOk rfl rfl rfl ex57 ?_
      refine pI rfl rfl rfl ?_
      refine AOps.done ?_
      exact ⟨x57, h.1, h.2, (Sub.list (fun i => i) rfl rfl ⟨rfl, rfl, trivial⟩ ⟨rfl, trivial⟩)⟩
  · replace h := h.2 e
    refine AWp.exit ?_
    refine AWp.seq ?_
    refine AWp.regionN (fun _ => false) rfl ?_
    refine pB rfl rfl rfl ?_
    refine AOps.done ?_
    refine AWp.ret ?_
    subst h
    exact ⟨_, rfl, rfl⟩

def W_unit_Plain (Q : GDim → Prop) : Prop :=
  Loop2 GDim.zero (0 : Int) (fun (d35 : GDim) (x36 : Int) next37 =>
    Br (decide (x36 < (7 : Int))) (
      At (Vector.toList d35.E) x36 fun x42 =>
      Let (IntKind.i64.wrap (x36 + (1 : Int))) fun x44 =>
      next37 (GDim.mk (Vector.setIfInBounds d35.E (Int.toNat x36) ({ x42 with D := (1 : Int) }))) x44) (
      Q d35))

theorem walk_unit_Plain {r : GDim} (h : W_unit_Plain (fun r' => r' = r)) : Ev_unit_Plain r := by
  unfold W_unit_Plain at h
  refine AFn.intro' (L := []) tabOk Try.func34 rfl rfl Try.ntmps34 rfl rfl rfl ?_
  refine AWp.seq ?_
  refine AWp.regionN (fun _ => false) rfl ?_
  refine AOps.alloc tabOk rfl rfl rfl rfl rfl ?_
  refine AOps.done ?_
  refine AWp.seq ?_
  refine AWp.regionN (fun _ => false) rfl ?_
  refine AOps.alloc tabOk rfl rfl rfl rfl rfl ?_
  refine AOps.done ?_
  refine AWp.seq ?_
  refine AWp.seq ?_
  refine AWp.regionN (fun _ => false) rfl ?_
  refine pI rfl rfl rfl ?_
  refine AOps.done ?_
  refine AWp.block ?_
  obtain ⟨I45, x46, hz47, hr48⟩ := h
  refine AWp.loop (I := fun p : GDim × Int => mkSt [(0, .pt 0 [] 0), (1, .pt 1 [] 0), (3, .dat (.v (.int .i64 p.2)))] [(0, .box 44 14 (.dat (GDim.enc GDim.zero))), (1, .box 44 14 (.dat (GDim.enc p.1)))]) (Inv := fun p => I45 p.1 p.2) (μ := fun p => x46 p.1 p.2) (x0 := ⟨GDim.zero, (0 : Int)⟩) hz47 (Sub.list (fun i => i) rfl rfl ⟨rfl, rfl, rfl, trivial⟩ ⟨rfl, rfl, trivial⟩) (fun p hp => ?_)
  obtain ⟨d35, x36⟩ := p
  have h := hr48 d35 x36 hp
  refine AWp.seq ?_
  refine AWp.regionN (fun _ => false) rfl ?_
  refine pW rfl rfl rfl ?_
  refine AOps.done ?_
  refine AWp.seq ?_
  refine AWp.cond rfl (fun e => ?_) (fun e => ?_)
  · replace h := h.1 e
    refine AWp.skip ?_
    refine AWp.seq ?_
    refine AWp.block ?_
    refine AWp.seq ?_
    refine AWp.regionN (fun _ => false) rfl ?_
    refine pI rfl rfl rfl ?_
    refine pI rfl rfl rfl ?_
    refine AOps.done ?_
    refine AWp.regionN (fun o => writes o) rfl ?_
    refine pI rfl rfl rfl ?_
    refine pP rfl rfl rfl ?_
    obtain ⟨hi41, x42, hx43, h⟩ := h
    refine AOps.aidx tabOk rfl rfl rfl rfl rfl rfl rfl rfl hi41 (vec_lt hi41 hx43) rfl ?_
    refine pP rfl rfl rfl ?_
    refine AOps.store tabOk (v := .dat (.v (.int _ _))) rfl rfl rfl rfl rfl rfl rfl (locA_ix [.fld 0] [.fld 1] rfl (map_get hx43) rfl) rfl rfl rfl rfl (putA_ix [.fld 0] [.fld 1] (o := 0) rfl (map_get hx43) rfl (vmap_set1 (e := GRat.enc) (x := ({ x42 with D := (1 : Int) }))) rfl) ?_
    refine AOps.done ?_
    refine AWp.regionN (fun _ => false) rfl ?_
    obtain ⟨x44, ex44, h⟩ := h.get
    refine AOps.i tabOk rfl rfl rfl ex44 ?_
    refine pI rfl rfl rfl ?_
    refine AOps.done ?_
    exact ⟨⟨(GDim.mk (Vector.setIfInBounds d35.E (Int.toNat x36) ({ x42 with D := (1 : Int) }))), x44⟩, h.1, h.2, (Sub.list (fun i => i) rfl rfl ⟨rfl, rfl, rfl, trivial⟩ ⟨rfl, rfl, trivial⟩)⟩
  · replace h := h.2 e
    refine AWp.exit ?_
    refine AWp.seq ?_
    refine AWp.regionN (fun o => writes o) rfl ?_
    refine pT rfl rfl rfl ?_
    refine AOps.store tabOk (v := .dat (.st _ _)) rfl rfl rfl rfl rfl rfl rfl rfl rfl rfl rfl rfl rfl ?_
    refine AOps.done ?_
    refine AWp.ret ?_
    subst h
    exact ⟨_, rfl, rfl⟩

def W_ref14_Plain (Q : GDim → Prop) : Prop :=
  Loop2 GDim.zero (0 : Int) (fun (d47 : GDim) (i48 : Int) next49 =>
    Br (decide (i48 < (7 : Int))) (
      Call (Ev_ref14_Whole (0 : Int)) fun x55 =>
      At (Vector.toList d47.E) i48 fun x58 =>
      Let (IntKind.i64.wrap (i48 + (1 : Int))) fun x60 =>
      next49 (GDim.mk (Vector.setIfInBounds d47.E (Int.toNat i48) x55)) x60) (
      Q d47))

theorem walk_ref14_Plain {r : GDim} (h : W_ref14_Plain (fun r' => r' = r)) : Ev_ref14_Plain r := by
  unfold W_ref14_Plain at h
  refine AFn.intro' (L := []) tabOk Try.func35 rfl rfl Try.ntmps35 rfl rfl rfl ?_
  refine AWp.seq ?_
  refine AWp.regionN (fun _ => false) rfl ?_
  refine AOps.alloc tabOk rfl rfl rfl rfl rfl ?_
  refine AOps.done ?_
  refine AWp.seq ?_
  refine AWp.regionN (fun o => writes o) rfl ?_
  refine pT rfl rfl rfl ?_
  refine AOps.alloc tabOk rfl rfl rfl rfl rfl ?_
  refine AOps.store tabOk (v := .dat (.st _ _)) rfl rfl rfl rfl rfl rfl rfl rfl rfl rfl rfl rfl rfl ?_
  refine AOps.done ?_
  refine AWp.seq ?_
  refine AWp.seq ?_
  refine AWp.regionN (fun _ => false) rfl ?_
  refine pI rfl rfl rfl ?_
  refine AOps.done ?_
  refine AWp.block ?_
  obtain ⟨I61, x62, hz63, hr64⟩ := h
  refine AWp.loop (I := fun p : GDim × Int => mkSt [(0, .pt 0 [] 0), (1, .pt 1 [] 0), (2, .dat (.v (.int .i64 p.2)))] [(0, .box 44 14 (.dat (GDim.enc GDim.zero))), (1, .box 44 14 (.dat (GDim.enc p.1)))]) (Inv := fun p => I61 p.1 p.2) (μ := fun p => x62 p.1 p.2) (x0 := ⟨GDim.zero, (0 : Int)⟩) hz63 (Sub.list (fun i => i) rfl rfl ⟨rfl, rfl, rfl, trivial⟩ ⟨rfl, rfl, trivial⟩) (fun p hp => ?_)
  obtain ⟨d47, i48⟩ := p
  have h := hr64 d47 i48 hp
  refine AWp.seq ?_
  refine AWp.seq ?_
  refine AWp.regionN (fun _ => false) rfl ?_
  refine pI rfl rfl rfl ?_
  refine pB rfl rfl rfl ?_
  refine AOps.done ?_
  refine AWp.cond rfl (fun e => ?_) (fun e => ?_)
  · replace h := h.1 e
    refine AWp.skip ?_
    refine AWp.seq ?_
    refine AWp.block ?_
    refine AWp.regionN (fun o => writes o) rfl ?_
    refine pI rfl rfl rfl ?_
    obtain ⟨x55, hc56, h⟩ := h
    refine AOps.call hc56 rfl rfl rfl ⟨.inl rfl, trivial⟩ ?_
    refine pP rfl rfl rfl ?_
    obtain ⟨hi57, x58, hx59, h⟩ := h
    refine AOps.aidx tabOk rfl rfl rfl rfl rfl rfl rfl rfl hi57 (vec_lt hi57 hx59) rfl ?_
    refine AOps.store tabOk (v := .dat (.st _ _)) rfl rfl rfl rfl rfl rfl rfl (locA_ix [.fld 0] [] rfl (map_get hx59) rfl) rfl rfl rfl rfl (putA_ix [.fld 0] [] (o := 0) rfl (map_get hx59) rfl (vmap_set1 (e := GRat.enc) (x := x55)) rfl) ?_
    refine AOps.done ?_
    refine AWp.regionN (fun _ => false) rfl ?_
    refine pI rfl rfl rfl ?_
    obtain ⟨x60, ex60, h⟩ := h.get
    refine AOps.i tabOk rfl rfl rfl ex60 ?_
    refine pI rfl rfl rfl ?_
    refine AOps.done ?_
    exact ⟨⟨(GDim.mk (Vector.setIfInBounds d47.E (Int.toNat i48) x55)), x60⟩, h.1, h.2, (Sub.list (fun i => i) rfl rfl ⟨rfl, rfl, rfl, trivial⟩ ⟨rfl, rfl, trivial⟩)⟩
  · replace h := h.2 e
    refine AWp.exit ?_
    refine AWp.seq ?_
    refine AWp.regionN (fun o => writes o) rfl ?_
    refine pT rfl rfl rfl ?_
    refine AOps.store tabOk (v := .dat (.st _ _)) rfl rfl rfl rfl rfl rfl rfl rfl rfl rfl rfl rfl rfl ?_
    refine AOps.done ?_
    refine AWp.ret ?_
    subst h
    exact ⟨_, rfl, rfl⟩

def W_ref14_Whole (n1 : Int) (Q : GRat → Prop) : Prop :=
  Q (GRat.mk n1 (1 : Int))

theorem walk_ref14_Whole {n1 : Int} {r : GRat} (h : W_ref14_Whole n1 (fun r' => r' = r)) : Ev_ref14_Whole n1 r := by
  unfold W_ref14_Whole at h
  refine AFn.intro' (L := [(0, .dat (.v (.int .i64 n1)))]) tabOk Try.func59 rfl rfl Try.ntmps59 rfl rfl rfl ?_
  refine AWp.seq ?_
  refine AWp.regionN (fun _ => false) rfl ?_
  refine AOps.alloc tabOk rfl rfl rfl rfl rfl ?_
  refine AOps.done ?_
  refine AWp.seq ?_
  refine AWp.regionN (fun o => writes o) rfl ?_
  refine pI rfl rfl rfl ?_
  refine pT rfl rfl rfl ?_
  refine AOps.store tabOk (v := .dat (.st _ _)) rfl rfl rfl rfl rfl rfl rfl rfl rfl rfl rfl rfl rfl ?_
  refine AOps.done ?_
  refine AWp.ret ?_
  subst h
  exact ⟨_, rfl, rfl⟩

def W_unit_whole (n1 : Int) (Q : GRat → Prop) : Prop :=
  Q (GRat.mk n1 (1 : Int))

theorem walk_unit_whole {n1 : Int} {r : GRat} (h : W_unit_whole n1 (fun r' => r' = r)) : Ev_unit_whole n1 r := by
  unfold W_unit_whole at h
  refine AFn.intro' (L := [(0, .dat (.v (.int .i64 n1)))]) tabOk Try.func77 rfl rfl Try.ntmps77 rfl rfl rfl ?_
  refine AWp.seq ?_
  refine AWp.regionN (fun _ => false) rfl ?_
  refine AOps.alloc tabOk rfl rfl rfl rfl rfl ?_
  refine AOps.done ?_
  refine AWp.seq ?_
  refine AWp.regionN (fun o => writes o) rfl ?_
  refine pI rfl rfl rfl ?_
  refine pT rfl rfl rfl ?_
  refine AOps.store tabOk (v := .dat (.st _ _)) rfl rfl rfl rfl rfl rfl rfl rfl rfl rfl rfl rfl rfl ?_
  refine AOps.done ?_
  refine AWp.ret ?_
  subst h
  exact ⟨_, rfl, rfl⟩

def W_law14_UnitTimes (a1 : GDim) (b2 : GDim) (p3 : GRat) (Q : Bool → Prop) : Prop :=
  Call (Ev_unit_Times a1 b2 p3) fun x4 =>
  Call (Ev_ref14_Times a1 b2 p3) fun x6 =>
  Br (GDim.beq x4.1 x6.1) (
    Br (x4.2 == x6.2) (
      Call (Ev_unit_Right a1) fun x16 =>
      Call (Ev_ref14_Right a1) fun x18 =>
      Br (x16 == x18) (
        Call (Ev_unit_Plain) fun x20 =>
        Call (Ev_ref14_Plain) fun x22 =>
        Q (GDim.beq x20 x22)) (
        Q false)) (
      Q false)) (
    Q false)

theorem walk_law14_UnitTimes {a1 : GDim} {b2 : GDim} {p3 : GRat} {r : Bool} (h : W_law14_UnitTimes a1 b2 p3 (fun r' => r' = r)) : Ev_law14_UnitTimes a1 b2 p3 r := by
  unfold W_law14_UnitTimes at h
  refine AFn.intro' (L := [(0, .dat (GDim.enc a1)), (1, .dat (GDim.enc b2)), (2, .dat (GRat.enc p3))]) tabOk Try.func9 rfl rfl Try.ntmps9 rfl rfl rfl ?_
  refine AWp.seq ?_
  refine AWp.regionN (fun _ => false) rfl ?_
  refine AOps.box (v := .dat (.st _ _)) rfl rfl rfl rfl rfl rfl ?_
  refine AOps.box (v := .dat (.st _ _)) rfl rfl rfl rfl rfl rfl ?_
  refine AOps.box (v := .dat (.st _ _)) rfl rfl rfl rfl rfl rfl ?_
  refine pB rfl rfl rfl ?_
  refine AOps.done ?_
  refine AWp.seq ?_
  refine AWp.regionN (fun o => writes o) rfl ?_
  refine pT rfl rfl rfl ?_
  refine pT rfl rfl rfl ?_
  refine pT rfl rfl rfl ?_
  obtain ⟨x4, hc5, h⟩ := h
  refine AOps.call hc5 rfl rfl rfl ⟨.inl rfl, .inl rfl, .inl rfl, trivial⟩ ?_
  refine pU rfl rfl rfl ?_
  refine pT rfl rfl rfl ?_
  refine pI rfl rfl rfl ?_
  refine AOps.alloc tabOk rfl rfl rfl rfl rfl ?_
  refine AOps.store tabOk (v := .dat (.st _ _)) rfl rfl rfl rfl rfl rfl rfl rfl rfl rfl rfl rfl rfl ?_
  refine pI rfl rfl rfl ?_
  refine AOps.done ?_
  refine AWp.seq ?_
  refine AWp.regionN (fun o => writes o) rfl ?_
  refine pT rfl rfl rfl ?_
  refine pT rfl rfl rfl ?_
  refine pT rfl rfl rfl ?_
  obtain ⟨x6, hc7, h⟩ := h
  refine AOps.call hc7 rfl rfl rfl ⟨.inl rfl, .inl rfl, .inl rfl, trivial⟩ ?_
  refine pU rfl rfl rfl ?_
  refine pT rfl rfl rfl ?_
  refine pI rfl rfl rfl ?_
  refine AOps.alloc tabOk rfl rfl rfl rfl rfl ?_
  refine AOps.store tabOk (v := .dat (.st _ _)) rfl rfl rfl rfl rfl rfl rfl rfl rfl rfl rfl rfl rfl ?_
  refine pI rfl rfl rfl ?_
  refine AOps.done ?_
  refine AWp.seq ?_
  refine AWp.regionD (fun _ => false) mixed (by decide +kernel) rfl ?_
  refine pT rfl rfl rfl ?_
  refine pT rfl rfl rfl ?_
  refine AOps.eqs rfl rfl rfl rfl rfl rfl rfl (by decide +kernel) (GDim.eqok44 _ x4.1 x6.1) ?_
  refine pB rfl rfl rfl ?_
  refine AOps.splitB 28 rfl (fun e => ?_) (fun e => ?_)
  · replace h := h.1 e
    refine pI rfl rfl rfl ?_
    refine pI rfl rfl rfl ?_
    refine pB rfl rfl rfl ?_
    refine pB rfl rfl rfl ?_
    refine pB rfl rfl rfl ?_
    refine AOps.splitB 33 rfl (fun e => ?_) (fun e => ?_)
    · replace h := h.1 e
      refine pT rfl rfl rfl ?_
      obtain ⟨x16, hc17, h⟩ := h
      refine AOps.call hc17 rfl rfl rfl ⟨.inl rfl, trivial⟩ ?_
      refine pT rfl rfl rfl ?_
      obtain ⟨x18, hc19, h⟩ := h
      refine AOps.call hc19 rfl rfl rfl ⟨.inl rfl, trivial⟩ ?_
      refine pB rfl rfl rfl ?_
      refine pB rfl rfl rfl ?_
      refine pB rfl rfl rfl ?_
      refine AOps.splitB 40 rfl (fun e => ?_) (fun e => ?_)
      · replace h := h.1 e
        obtain ⟨x20, hc21, h⟩ := h
        refine AOps.call hc21 rfl rfl rfl trivial ?_
        obtain ⟨x22, hc23, h⟩ := h
        refine AOps.call hc23 rfl rfl rfl trivial ?_
        refine AOps.eqs rfl rfl rfl rfl rfl rfl rfl (by decide +kernel) (GDim.eqok44 _ x20 x22) ?_
        refine pB rfl rfl rfl ?_
        refine pB rfl rfl rfl ?_
        refine AOps.done ?_
        refine AWp.ret ?_
        subst h
        exact ⟨_, rfl, rfl⟩
      · replace h := h.2 e
        refine AOps.off rfl rfl ?_
        refine AOps.off rfl rfl ?_
        refine AOps.off rfl rfl ?_
        refine pB rfl rfl rfl ?_
        refine pB rfl rfl rfl ?_
        refine AOps.done ?_
        refine AWp.ret ?_
        subst h
        exact ⟨_, rfl, rfl⟩
    · replace h := h.2 e
      refine AOps.off rfl rfl ?_
      refine AOps.off rfl rfl ?_
      refine AOps.off rfl rfl ?_
      refine AOps.off rfl rfl ?_
      refine AOps.off rfl rfl ?_
      refine pB rfl rfl rfl ?_
      refine pB rfl rfl rfl ?_
      refine AOps.off rfl rfl ?_
      refine AOps.off rfl rfl ?_
      refine AOps.off rfl rfl ?_
      refine pB rfl rfl rfl ?_
      refine pB rfl rfl rfl ?_
      refine AOps.done ?_
      refine AWp.ret ?_
      subst h
      exact ⟨_, rfl, rfl⟩
  · replace h := h.2 e
    refine AOps.off rfl rfl ?_
    refine AOps.off rfl rfl ?_
    refine AOps.off rfl rfl ?_
    refine pB rfl rfl rfl ?_
    refine pB rfl rfl rfl ?_
    refine AOps.off rfl rfl ?_
    refine AOps.off rfl rfl ?_
    refine AOps.off rfl rfl ?_
    refine AOps.off rfl rfl ?_
    refine AOps.off rfl rfl ?_
    refine pB rfl rfl rfl ?_
    refine pB rfl rfl rfl ?_
    refine AOps.off rfl rfl ?_
    refine AOps.off rfl rfl ?_
    refine AOps.off rfl rfl ?_
    refine pB rfl rfl rfl ?_
    refine pB rfl rfl rfl ?_
    refine AOps.done ?_
    refine AWp.ret ?_
    subst h
    exact ⟨_, rfl, rfl⟩

def W_law14_UnitBack (x1 : GDim) (x2 : GDim) (x3 : GRat) (x4 : GRat) (Q : Bool → Prop) : Prop :=
  Call (Ev_unit_Times x1 x2 x3) fun x5 =>
  Br (x5.2 != (0 : Int)) (Q (GDim.beq x5.1 GDim.zero)) (
    Let (IntKind.i64.wrap (0 - x3.N)) fun x7 =>
    Call (Ev_unit_Times x5.1 x2 (GRat.mk x7 x3.D)) fun x8 =>
    Br (x8.2 != (0 : Int)) (Q (x8.2 == (3 : Int))) (
      Br (!(GDim.beq x8.1 x1)) (Q (x8.2 == (3 : Int))) (
        Call (Ev_ref11_Add x3 x4) fun x10 =>
        Call (Ev_unit_Times x5.1 x2 x4) fun x12 =>
        Call (Ev_unit_Times x1 x2 x10.1) fun x14 =>
        Br (x10.2 != (0 : Int)) (Q true) (
          Br (x12.2 != (0 : Int)) (Q true) (
            Br (x14.2 != (0 : Int)) (Q true) (
              Q (GDim.beq x12.1 x14.1)))))))

theorem walk_law14_UnitBack {x1 : GDim} {x2 : GDim} {x3 : GRat} {x4 : GRat} {r : Bool} (h : W_law14_UnitBack x1 x2 x3 x4 (fun r' => r' = r)) : Ev_law14_UnitBack x1 x2 x3 x4 r := by
  unfold W_law14_UnitBack at h
  refine AFn.intro' (L := [(0, .dat (GDim.enc x1)), (1, .dat (GDim.enc x2)), (2, .dat (GRat.enc x3)), (3, .dat (GRat.enc x4))]) tabOk Try.func8 rfl rfl Try.ntmps8 rfl rfl rfl ?_
  refine AWp.seq ?_
  refine AWp.regionN (fun _ => false) rfl ?_
  refine AOps.box (v := .dat (.st _ _)) rfl rfl rfl rfl rfl rfl ?_
  refine AOps.box (v := .dat (.st _ _)) rfl rfl rfl rfl rfl rfl ?_
  refine AOps.box (v := .dat (.st _ _)) rfl rfl rfl rfl rfl rfl ?_
  refine AOps.box (v := .dat (.st _ _)) rfl rfl rfl rfl rfl rfl ?_
  refine pB rfl rfl rfl ?_
  refine AOps.done ?_
  refine AWp.seq ?_
  refine AWp.regionN (fun o => writes o) rfl ?_
  refine pT rfl rfl rfl ?_
  refine pT rfl rfl rfl ?_
  refine pT rfl rfl rfl ?_
  obtain ⟨x5, hc6, h⟩ := h
  refine AOps.call hc6 rfl rfl rfl ⟨.inl rfl, .inl rfl, .inl rfl, trivial⟩ ?_
  refine pU rfl rfl rfl ?_
  refine pT rfl rfl rfl ?_
  refine pI rfl rfl rfl ?_
  refine AOps.alloc tabOk rfl rfl rfl rfl rfl ?_
  refine AOps.store tabOk (v := .dat (.st _ _)) rfl rfl rfl rfl rfl rfl rfl rfl rfl rfl rfl rfl rfl ?_
  refine pI rfl rfl rfl ?_
  refine AOps.done ?_
  refine AWp.seq ?_
  refine AWp.seq ?_
  refine AWp.regionN (fun _ => false) rfl ?_
  refine pI rfl rfl rfl ?_
  refine pB rfl rfl rfl ?_
  refine AOps.done ?_
  refine AWp.cond rfl (fun e => ?_) (fun e => ?_)
  · replace h := h.1 e
    refine AWp.seq ?_
    refine AWp.regionN (fun _ => false) rfl ?_
    refine pT rfl rfl rfl ?_
    refine pT rfl rfl rfl ?_
    refine AOps.eqs rfl rfl rfl rfl rfl rfl rfl (by decide +kernel) (GDim.eqok44 _ x5.1 GDim.zero) ?_
    refine pB rfl rfl rfl ?_
    refine AOps.done ?_
    refine AWp.ret ?_
    subst h
    exact ⟨_, rfl, rfl⟩
  · replace h := h.2 e
    refine AWp.skip ?_
    refine AWp.seq ?_
    refine AWp.regionN (fun o => writes o) rfl ?_
    refine pP rfl rfl rfl ?_
    refine pI rfl rfl rfl ?_
    obtain ⟨x7, ex7, h⟩ := h.get
    refine AOps.i tabOk rfl rfl rfl ex7 ?_
    refine pP rfl rfl rfl ?_
    refine pI rfl rfl rfl ?_
    refine pT rfl rfl rfl ?_
    refine AOps.alloc tabOk rfl rfl rfl rfl rfl ?_
    refine AOps.store tabOk (v := .dat (.st _ _)) rfl rfl rfl rfl rfl rfl rfl rfl rfl rfl rfl rfl rfl ?_
    refine AOps.done ?_
    refine AWp.seq ?_
    refine AWp.regionN (fun o => writes o) rfl ?_
    refine pT rfl rfl rfl ?_
    refine pT rfl rfl rfl ?_
    refine pT rfl rfl rfl ?_
    obtain ⟨x8, hc9, h⟩ := h
    refine AOps.call hc9 rfl rfl rfl ⟨.inl rfl, .inl rfl, .inl rfl, trivial⟩ ?_
    refine pU rfl rfl rfl ?_
    refine pT rfl rfl rfl ?_
    refine pI rfl rfl rfl ?_
    refine AOps.alloc tabOk rfl rfl rfl rfl rfl ?_
    refine AOps.store tabOk (v := .dat (.st _ _)) rfl rfl rfl rfl rfl rfl rfl rfl rfl rfl rfl rfl rfl ?_
    refine pI rfl rfl rfl ?_
    refine AOps.done ?_
    refine AWp.seq ?_
    refine AWp.seq ?_
    refine AWp.regionN (fun _ => false) rfl ?_
    refine pI rfl rfl rfl ?_
    refine pB rfl rfl rfl ?_
    refine pB rfl rfl rfl ?_
    refine AOps.splitB 47 rfl (fun e => ?_) (fun e => ?_)
    · replace h := h.1 e
      refine AOps.off rfl rfl ?_
      refine AOps.off rfl rfl ?_
      refine AOps.off rfl rfl ?_
      refine pB rfl rfl rfl ?_
      refine AOps.done ?_
      refine AWp.condT rfl ?_
      refine AWp.seq ?_
      refine AWp.regionN (fun _ => false) rfl ?_
      refine pI rfl rfl rfl ?_
      refine pB rfl rfl rfl ?_
      refine pB rfl rfl rfl ?_
      refine AOps.done ?_
      refine AWp.ret ?_
      subst h
      exact ⟨_, rfl, rfl⟩
    · replace h := h.2 e
      refine pT rfl rfl rfl ?_
      refine pT rfl rfl rfl ?_
      refine AOps.nes rfl rfl rfl rfl rfl rfl rfl (by decide +kernel) (GDim.eqok44 _ x8.1 x1) ?_
      refine pB rfl rfl rfl ?_
      refine AOps.done ?_
      refine AWp.cond rfl (fun e => ?_) (fun e => ?_)
      · replace h := h.1 e
        refine AWp.seq ?_
        refine AWp.regionN (fun _ => false) rfl ?_
        refine pI rfl rfl rfl ?_
        refine pB rfl rfl rfl ?_
        refine pB rfl rfl rfl ?_
        refine AOps.done ?_
        refine AWp.ret ?_
        subst h
        exact ⟨_, rfl, rfl⟩
      · replace h := h.2 e
        refine AWp.skip ?_
        refine AWp.seq ?_
        refine AWp.regionN (fun o => writes o) rfl ?_
        refine pT rfl rfl rfl ?_
        refine pT rfl rfl rfl ?_
        obtain ⟨x10, hc11, h⟩ := h
        refine AOps.call hc11 rfl rfl rfl ⟨.inl rfl, .inl rfl, trivial⟩ ?_
        refine pU rfl rfl rfl ?_
        refine pT rfl rfl rfl ?_
        refine pI rfl rfl rfl ?_
        refine AOps.alloc tabOk rfl rfl rfl rfl rfl ?_
        refine AOps.store tabOk (v := .dat (.st _ _)) rfl rfl rfl rfl rfl rfl rfl rfl rfl rfl rfl rfl rfl ?_
        refine pI rfl rfl rfl ?_
        refine AOps.done ?_
        refine AWp.seq ?_
        refine AWp.regionN (fun o => writes o) rfl ?_
        refine pT rfl rfl rfl ?_
        refine pT rfl rfl rfl ?_
        refine pT rfl rfl rfl ?_
        obtain ⟨x12, hc13, h⟩ := h
        refine AOps.call hc13 rfl rfl rfl ⟨.inl rfl, .inl rfl, .inl rfl, trivial⟩ ?_
        refine pU rfl rfl rfl ?_
        refine pT rfl rfl rfl ?_
        refine pI rfl rfl rfl ?_
        refine AOps.alloc tabOk rfl rfl rfl rfl rfl ?_
        refine AOps.store tabOk (v := .dat (.st _ _)) rfl rfl rfl rfl rfl rfl rfl rfl rfl rfl rfl rfl rfl ?_
        refine pI rfl rfl rfl ?_
        refine AOps.done ?_
        refine AWp.seq ?_
        refine AWp.regionN (fun o => writes o) rfl ?_
        refine pT rfl rfl rfl ?_
        refine pT rfl rfl rfl ?_
        refine pT rfl rfl rfl ?_
        obtain ⟨x14, hc15, h⟩ := h
        refine AOps.call hc15 rfl rfl rfl ⟨.inl rfl, .inl rfl, .inl rfl, trivial⟩ ?_
        refine pU rfl rfl rfl ?_
        refine pT rfl rfl rfl ?_
        refine pI rfl rfl rfl ?_
        refine AOps.alloc tabOk rfl rfl rfl rfl rfl ?_
        refine AOps.store tabOk (v := .dat (.st _ _)) rfl rfl rfl rfl rfl rfl rfl rfl rfl rfl rfl rfl rfl ?_
        refine pI rfl rfl rfl ?_
        refine AOps.done ?_
        refine AWp.seq ?_
        refine AWp.seq ?_
        refine AWp.regionN (fun _ => false) rfl ?_
        refine pI rfl rfl rfl ?_
        refine pB rfl rfl rfl ?_
        refine pB rfl rfl rfl ?_
        refine AOps.splitB 76 rfl (fun e => ?_) (fun e => ?_)
        · replace h := h.1 e
          refine AOps.off rfl rfl ?_
          refine AOps.off rfl rfl ?_
          refine pB rfl rfl rfl ?_
          refine pB rfl rfl rfl ?_
          refine AOps.off rfl rfl ?_
          refine AOps.off rfl rfl ?_
          refine pB rfl rfl rfl ?_
          refine AOps.done ?_
          refine AWp.condT rfl ?_
          refine AWp.seq ?_
          refine AWp.regionN (fun _ => false) rfl ?_
          refine pB rfl rfl rfl ?_
          refine AOps.done ?_
          refine AWp.ret ?_
          subst h
          exact ⟨_, rfl, rfl⟩
        · replace h := h.2 e
          refine pI rfl rfl rfl ?_
          refine pB rfl rfl rfl ?_
          refine pB rfl rfl rfl ?_
          refine pB rfl rfl rfl ?_
          refine AOps.splitB 80 rfl (fun e => ?_) (fun e => ?_)
          · replace h := h.1 e
            refine AOps.off rfl rfl ?_
            refine AOps.off rfl rfl ?_
            refine pB rfl rfl rfl ?_
            refine AOps.done ?_
            refine AWp.condT rfl ?_
            refine AWp.seq ?_
            refine AWp.regionN (fun _ => false) rfl ?_
            refine pB rfl rfl rfl ?_
            refine AOps.done ?_
            refine AWp.ret ?_
            subst h
            exact ⟨_, rfl, rfl⟩
          · replace h := h.2 e
            refine pI rfl rfl rfl ?_
            refine pB rfl rfl rfl ?_
            refine pB rfl rfl rfl ?_
            refine AOps.done ?_
            refine AWp.cond rfl (fun e => ?_) (fun e => ?_)
            · replace h := h.1 e
              refine AWp.seq ?_
              refine AWp.regionN (fun _ => false) rfl ?_
              refine pB rfl rfl rfl ?_
              refine AOps.done ?_
              refine AWp.ret ?_
              subst h
              exact ⟨_, rfl, rfl⟩
            · replace h := h.2 e
              refine AWp.skip ?_
              refine AWp.seq ?_
              refine AWp.regionN (fun _ => false) rfl ?_
              refine pT rfl rfl rfl ?_
              refine pT rfl rfl rfl ?_
              refine AOps.eqs rfl rfl rfl rfl rfl rfl rfl (by decide +kernel) (GDim.eqok44 _ x12.1 x14.1) ?_
              refine pB rfl rfl rfl ?_
              refine AOps.done ?_
              refine AWp.ret ?_
              subst h
              exact ⟨_, rfl, rfl⟩

end Go.Sim.Ytnhflokfcnfegaa
