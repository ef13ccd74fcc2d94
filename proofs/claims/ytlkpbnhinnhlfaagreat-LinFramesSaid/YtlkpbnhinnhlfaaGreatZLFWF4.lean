/- What is proved: functions of the program compute what plain statements tell. -/
import Derived.Test.YtlkpbnhinnhlfaaGreatZLFWE

namespace Go.Sim.YtlkpbnhinnhlfaaGreat
open Go.RowKit Go.Proofs Go.Proofs.Tryz
set_option maxRecDepth 100000
def W_ref01_Cmp (a1 : List Int) (b2 : List Int) (Q : Int → Prop) : Prop :=
 Br (((a1.length : Nat) : Int) != ((b2.length : Nat) : Int)) (
  Br (decide (((a1.length : Nat) : Int) < ((b2.length : Nat) : Int))) (Q (-1 : Int)) (
   Q (1 : Int))) (
  Let (IntKind.i64.wrap (((a1.length : Nat) : Int) - (1 : Int))) fun x10 =>
  Loop1 x10 (fun (i94 : Int) next95 =>
   Br (decide (i94 ≥ (0 : Int))) (
    At a1 i94 fun x109 =>
    At b2 i94 fun x112 =>
    Br (decide (x109 < x112)) (Q (-1 : Int)) (
     At a1 i94 fun x115 =>
     At b2 i94 fun x118 =>
     Br (decide (x115 > x118)) (Q (1 : Int)) (
      Let (IntKind.i64.wrap (i94 - (1 : Int))) fun x120 =>
      next95 x120))) (
    Q (0 : Int))))
theorem walk_ref01_Cmp {a1 : List Int} {b2 : List Int} {r : Int} (h : W_ref01_Cmp a1 b2 (fun r' => r' = r)) : Ev_ref01_Cmp a1 b2 r := by
  unfold W_ref01_Cmp at h
  refine intr (L := [(0, .dat (.sl 132 1 (List.map (eInt .u32) a1))), (1, .dat (.sl 132 1 (List.map (eInt .u32) b2)))]) Tryz.func102 Tryz.ntmps102 ?_
  refine sN (pI rfl (dn (AWp.seq (AWp.seq (rN (pS rfl (al (((a1.length : Nat) : Int)) rfl (pS rfl (al (((b2.length : Nat) : Int)) rfl (pB rfl (dn (cB h (fun h => ?_) (fun h => ?_)))))))))))))
  · refine AWp.seq (AWp.seq (rN (pS rfl (al (((a1.length : Nat) : Int)) rfl (pS rfl (al (((b2.length : Nat) : Int)) rfl (pB rfl (dn (cB h (fun h => ?_) (fun h => ?_))))))))))
    · refine sN (pI rfl (dn (AWp.ret ?_)))
      subst h
      exact ⟨_, rfl, rfl⟩
    refine AWp.skip (AWp.seq (rN (pI rfl (dn (AWp.ret ?_)))))
    subst h
    exact ⟨_, rfl, rfl⟩
  refine AWp.skip (AWp.seq (AWp.seq (rN (pS rfl (al (((a1.length : Nat) : Int)) rfl ?_)))))
  obtain ⟨x10, ex10, h⟩ := h.get
  refine ai ex10 rfl (pI rfl (dn (AWp.block ?_)))
  obtain ⟨I121, x122, hz123, hr124⟩ := h
  refine AWp.loop (I := fun p : Int => mkSt [(0, .dat (.sl 132 1 (List.map (eInt .u32) a1))), (1, .dat (.sl 132 1 (List.map (eInt .u32) b2))), (5, .dat (.v (.int .i64 p)))] []) (Inv := fun p => I121 p) (μ := fun p => x122 p) (x0 := x10) hz123 sl (fun p hp => ?_)
  have h := hr124 p hp
  revert h; clear hp; generalize p = i94; intro h
  refine AWp.seq (AWp.seq (rN (pI rfl (pB rfl (dn (cB h (fun h => ?_) (fun h => ?_)))))))
  · refine AWp.skip (AWp.seq (AWp.block (AWp.seq (AWp.seq (rD (pS rfl (pI rfl (kI h map_get rfl rfl rfl rfl rfl rfl rfl fun x109 h => ?_))))))))
    refine pI rfl (pS rfl (pI rfl (kI h map_get rfl rfl rfl rfl rfl rfl rfl fun x112 h => ?_)))
    refine pI rfl (pB rfl (dn (cB h (fun h => ?_) (fun h => ?_))))
    · refine sN (pI rfl (dn (AWp.ret ?_)))
      subst h
      exact ⟨_, rfl, rfl⟩
    refine AWp.skip (AWp.seq (rD (pS rfl (pI rfl (kI h map_get rfl rfl rfl rfl rfl rfl rfl fun x115 h => ?_)))))
    refine pI rfl (pS rfl (pI rfl (kI h map_get rfl rfl rfl rfl rfl rfl rfl fun x118 h => ?_)))
    refine pI rfl (pB rfl (dn (cB h (fun h => ?_) (fun h => ?_))))
    · refine sN (pI rfl (dn (AWp.ret ?_)))
      subst h
      exact ⟨_, rfl, rfl⟩
    refine AWp.skip (rN (pI rfl ?_))
    obtain ⟨x120, ex120, h⟩ := h.get
    refine ai ex120 rfl (pI rfl (dn ?_))
    exact ⟨x120, h.1, h.2, sl⟩
  refine AWp.exit ?_
  refine sN (pI rfl (dn (AWp.ret ?_)))
  subst h
  exact ⟨_, rfl, rfl⟩
def W_ref01_Of (n1 : Int) (Q : List Int → Prop) : Prop :=
 Let (IntKind.u32.wrap n1) fun x2 =>
 Let (Int.fdiv n1 (2 ^ 32)) fun x3 =>
 Let (IntKind.u32.wrap x3) fun x4 =>
 Call (Ev_ref01_trim ([x2, x4])) fun x5 =>
 Q x5
theorem walk_ref01_Of {n1 : Int} {r : List Int} (h : W_ref01_Of n1 (fun r' => r' = r)) : Ev_ref01_Of n1 r := by
  unfold W_ref01_Of at h
  refine intr (L := [(0, .dat (.v (.int .u64 n1)))]) Tryz.func104 Tryz.ntmps104 ?_
  refine sN (pS rfl (dn (AWp.seq (rN (pI rfl ?_)))))
  obtain ⟨x2, ex2, h⟩ := h.get
  refine ai ex2 rfl (pI rfl ?_)
  obtain ⟨x3, ex3, h⟩ := h.get
  refine AOps.q rfl rfl rfl rfl rfl (rbin_shr (by decide)) ex3 ?_
  obtain ⟨x4, ex4, h⟩ := h.get
  refine ai ex4 rfl ?_
  refine AOps.lit tabOk (ys := [.v (.int .u32 x2), .v (.int .u32 x4)]) rfl rfl rfl rfl rfl rfl ?_
  refine kC h rfl ⟨.inl rfl, trivial⟩ rfl fun x5 h => pS rfl ?_
  subst h; exact dn (AWp.ret ⟨_, rfl, rfl⟩)
def W_ref01_Plus (a1 : List Int) (b2 : List Int) (Q : List Int → Prop) : Prop :=
 Loop3 ([] : List Int) (0 : Int) (0 : Int) (fun (out242 : List Int) (carry243 : Int) (i244 : Int) next245 =>
  Join1 (fun j249 =>
   Br (decide (i244 < ((a1.length : Nat) : Int))) (j249 true) (
    j249 (decide (i244 < ((b2.length : Nat) : Int))))
  ) (fun (x248 : Bool) =>
   Br x248 (
    Join1 (fun j292 =>
     Br (decide (i244 < ((a1.length : Nat) : Int))) (
      At a1 i244 fun x294 =>
      Let (IntKind.u64.wrap x294) fun x296 =>
      Let (IntKind.u64.wrap (carry243 + x296)) fun x297 =>
      j292 x297) (
      j292 carry243)
    ) (fun (carry291 : Int) =>
     Join1 (fun j305 =>
      Br (decide (i244 < ((b2.length : Nat) : Int))) (
       At b2 i244 fun x307 =>
       Let (IntKind.u64.wrap x307) fun x309 =>
       Let (IntKind.u64.wrap (carry291 + x309)) fun x310 =>
       j305 x310) (
       j305 carry291)
     ) (fun (carry304 : Int) =>
      Let (IntKind.u32.wrap carry304) fun x311 =>
      App 4 out242 ([x311]) fun x312 =>
      Let (Int.fdiv carry304 (2 ^ 32)) fun x313 =>
      Let (IntKind.i64.wrap (i244 + (1 : Int))) fun x314 =>
      next245 x312 x313 x314))) (
    Let (IntKind.u32.wrap carry243) fun x319 =>
    App 4 out242 ([x319]) fun x320 =>
    Call (Ev_ref01_trim x320) fun x321 =>
    Q x321)))
theorem walk_ref01_Plus {a1 : List Int} {b2 : List Int} {r : List Int} (h : W_ref01_Plus a1 b2 (fun r' => r' = r)) : Ev_ref01_Plus a1 b2 r := by
  unfold W_ref01_Plus at h
  refine intr (L := [(0, .dat (.sl 132 1 (List.map (eInt .u32) a1))), (1, .dat (.sl 132 1 (List.map (eInt .u32) b2)))]) Tryz.func101 Tryz.ntmps101 ?_
  refine sN (pS rfl (dn (AWp.seq (rN ?_))))
  refine AOps.litown tabOk (ys := []) rfl rfl rfl rfl rfl rfl rfl rfl ?_
  refine pO rfl (dn (AWp.seq (rN (pI rfl (dn (AWp.seq (AWp.seq (rN (pI rfl (dn (AWp.block ?_)))))))))))
  obtain ⟨I325, x326, hz327, hr328⟩ := h
  refine AWp.loop (I := fun p : (List Int) × Int × Int => mkSt [(0, .dat (.sl 132 1 (List.map (eInt .u32) a1))), (1, .dat (.sl 132 1 (List.map (eInt .u32) b2))), (5, .oref 1005), (6, .dat (.v (.int .u64 p.2.1))), (7, .dat (.v (.int .i64 p.2.2)))] [(1005, .row 132 1 (List.map (eInt .u32) p.1))]) (Inv := fun p => I325 p.1 p.2.1 p.2.2) (μ := fun p => x326 p.1 p.2.1 p.2.2) (x0 := ⟨([] : List Int), (0 : Int), (0 : Int)⟩) hz327 (slf (fun i => (if Nat.beq i 1005 then 8 else i))) (fun p hp => ?_)
  obtain ⟨out242, carry243, i244⟩ := p
  have h := hr328 out242 carry243 i244 hp
  refine AWp.seq (AWp.seq ?_)
  obtain ⟨J323, h, hk324⟩ := h
  refine AWp.cutK (I := fun p : Bool => mkSt [(0, .dat (.sl 132 1 (List.map (eInt .u32) a1))), (1, .dat (.sl 132 1 (List.map (eInt .u32) b2))), (5, .oref 1005), (6, .dat (.v (.int .u64 carry243))), (7, .dat (.v (.int .i64 i244))), (18, .dat (.v (.bool p)))] [(1005, .row 132 1 (List.map (eInt .u32) out242))]) (Inv := fun p : Bool => J323 p) ?_ (fun p hp => ?_)
  · refine rN (pI rfl (pS rfl (al (((a1.length : Nat) : Int)) rfl (pB rfl (pB rfl (sB 13 h (fun h => ?_) (fun h => ?_)))))))
    · refine fo 4 rfl (pB rfl (dn ?_))
      exact ⟨true, h, sl⟩
    refine pI rfl (pS rfl (al (((b2.length : Nat) : Int)) rfl (pB rfl (pB rfl (dn ?_)))))
    exact ⟨(decide (i244 < ((b2.length : Nat) : Int))), h, sl⟩
  replace h := hk324 p hp
  revert h; clear hp; generalize p = x248; intro h
  refine cB h (fun h => ?_) (fun h => ?_)
  · refine AWp.skip (AWp.seq (AWp.block (AWp.seq (AWp.seq (rN (pI rfl (pS rfl (al (((a1.length : Nat) : Int)) rfl (pB rfl (dn ?_))))))))))
    obtain ⟨J317, h, hk318⟩ := h
    refine AWp.cutK (I := fun p : Int => mkSt [(0, .dat (.sl 132 1 (List.map (eInt .u32) a1))), (1, .dat (.sl 132 1 (List.map (eInt .u32) b2))), (5, .oref 1005), (6, .dat (.v (.int .u64 p))), (7, .dat (.v (.int .i64 i244)))] [(1005, .row 132 1 (List.map (eInt .u32) out242))]) (Inv := fun p : Int => J317 p) ?_ (fun p hp => ?_)
    · refine cB h (fun h => ?_) (fun h => ?_)
      · refine rN (pI rfl (pS rfl (pI rfl (kI h map_get rfl rfl rfl rfl rfl rfl rfl fun x294 h => ?_))))
        refine pI rfl ?_
        obtain ⟨x296, ex296, h⟩ := h.get
        refine ai ex296 rfl ?_
        obtain ⟨x297, ex297, h⟩ := h.get
        refine ai ex297 rfl (pI rfl (dn ?_))
        exact ⟨x297, h, sl⟩
      refine AWp.skip ?_
      exact ⟨carry243, h, sl⟩
    replace h := hk318 p hp
    revert h; clear hp; generalize p = carry291; intro h
    refine AWp.seq (AWp.seq (rN (pI rfl (pS rfl (al (((b2.length : Nat) : Int)) rfl (pB rfl (dn ?_)))))))
    obtain ⟨J315, h, hk316⟩ := h
    refine AWp.cutK (I := fun p : Int => mkSt [(0, .dat (.sl 132 1 (List.map (eInt .u32) a1))), (1, .dat (.sl 132 1 (List.map (eInt .u32) b2))), (5, .oref 1005), (6, .dat (.v (.int .u64 p))), (7, .dat (.v (.int .i64 i244)))] [(1005, .row 132 1 (List.map (eInt .u32) out242))]) (Inv := fun p : Int => J315 p) ?_ (fun p hp => ?_)
    · refine cB h (fun h => ?_) (fun h => ?_)
      · refine rN (pI rfl (pS rfl (pI rfl (kI h map_get rfl rfl rfl rfl rfl rfl rfl fun x307 h => ?_))))
        refine pI rfl ?_
        obtain ⟨x309, ex309, h⟩ := h.get
        refine ai ex309 rfl ?_
        obtain ⟨x310, ex310, h⟩ := h.get
        refine ai ex310 rfl (pI rfl (dn ?_))
        exact ⟨x310, h, sl⟩
      refine AWp.skip ?_
      exact ⟨carry291, h, sl⟩
    replace h := hk316 p hp
    revert h; clear hp; generalize p = carry304; intro h
    refine sW (pO rfl (pI rfl ?_))
    obtain ⟨x311, ex311, h⟩ := h.get
    refine ai ex311 rfl ?_
    refine AOps.lit tabOk (ys := [.v (.int .u32 x311)]) rfl rfl rfl rfl rfl rfl ?_
    obtain ⟨h1, h2, x312, ex312, h⟩ := h.get
    refine AOps.append tabOk rfl rfl rfl rfl rfl rfl rfl rfl rfl rfl rfl (.inl ⟨_, rfl⟩) (app1 h1) (app2 h2) (app3 ex312) ?_
    refine pO rfl (dn (rN (pI rfl ?_)))
    obtain ⟨x313, ex313, h⟩ := h.get
    refine AOps.q rfl rfl rfl rfl rfl (rbin_shr (by decide)) ex313 ?_
    refine pI rfl (dn (rN (pI rfl ?_)))
    obtain ⟨x314, ex314, h⟩ := h.get
    refine ai ex314 rfl (pI rfl (dn ?_))
    exact ⟨⟨x312, x313, x314⟩, h.1, h.2, (slf (fun i => (if Nat.beq i 1005 then 47 else i)))⟩
  refine AWp.exit ?_
  refine sW (pO rfl (pI rfl ?_))
  obtain ⟨x319, ex319, h⟩ := h.get
  refine ai ex319 rfl ?_
  refine AOps.lit tabOk (ys := [.v (.int .u32 x319)]) rfl rfl rfl rfl rfl rfl ?_
  obtain ⟨h1, h2, x320, ex320, h⟩ := h.get
  refine AOps.append tabOk rfl rfl rfl rfl rfl rfl rfl rfl rfl rfl rfl (.inl ⟨_, rfl⟩) (app1 h1) (app2 h2) (app3 ex320) ?_
  refine pO rfl (dn (AWp.seq ?_))
  refine AWp.freeze 5 54 rfl rfl ?_
  refine rN (pS rfl (kC h rfl ⟨.inl rfl, trivial⟩ rfl fun x321 h => ?_))
  refine pS rfl (dn (AWp.ret ?_))
  subst h
  exact ⟨_, rfl, rfl⟩
def W_ref01_Less (a1 : List Int) (b2 : List Int) (Q : List Int → Prop) : Prop :=
 Loop3 ([] : List Int) (0 : Int) (0 : Int) (fun (out197 : List Int) (borrow198 : Int) (i199 : Int) next200 =>
  Br (decide (i199 < ((a1.length : Nat) : Int))) (
   At a1 i199 fun x232 =>
   Let (IntKind.i64.wrap x232) fun x234 =>
   Let (IntKind.i64.wrap (x234 - borrow198)) fun x235 =>
   Join1 (fun j243 =>
    Br (decide (i199 < ((b2.length : Nat) : Int))) (
     At b2 i199 fun x245 =>
     Let (IntKind.i64.wrap x245) fun x247 =>
     Let (IntKind.i64.wrap (x235 - x247)) fun x248 =>
     j243 x248) (
     j243 x235)
   ) (fun (n242 : Int) =>
    Join2 (fun j252 =>
     Br (decide (n242 < (0 : Int))) (
      Let (IntKind.i64.wrap (n242 + (4294967296 : Int))) fun x253 =>
      j252 (1 : Int) x253) (
      j252 (0 : Int) n242)
    ) (fun (borrow250 : Int) (n251 : Int) =>
     Let (IntKind.u32.wrap n251) fun x254 =>
     App 4 out197 ([x254]) fun x255 =>
     Let (IntKind.i64.wrap (i199 + (1 : Int))) fun x256 =>
     next200 x255 borrow250 x256))) (
   Call (Ev_ref01_trim out197) fun x261 =>
   Q x261))
theorem walk_ref01_Less {a1 : List Int} {b2 : List Int} {r : List Int} (h : W_ref01_Less a1 b2 (fun r' => r' = r)) : Ev_ref01_Less a1 b2 r := by
  unfold W_ref01_Less at h
  refine intr (L := [(0, .dat (.sl 132 1 (List.map (eInt .u32) a1))), (1, .dat (.sl 132 1 (List.map (eInt .u32) b2)))]) Tryz.func103 Tryz.ntmps103 ?_
  refine sN (pS rfl (dn (AWp.seq (rN ?_))))
  refine AOps.litown tabOk (ys := []) rfl rfl rfl rfl rfl rfl rfl rfl ?_
  refine pO rfl (dn (AWp.seq (rN (pI rfl (dn (AWp.seq (AWp.seq (rN (pI rfl (dn (AWp.block ?_)))))))))))
  obtain ⟨I263, x264, hz265, hr266⟩ := h
  refine AWp.loop (I := fun p : (List Int) × Int × Int => mkSt [(0, .dat (.sl 132 1 (List.map (eInt .u32) a1))), (1, .dat (.sl 132 1 (List.map (eInt .u32) b2))), (5, .oref 1005), (6, .dat (.v (.int .i64 p.2.1))), (7, .dat (.v (.int .i64 p.2.2)))] [(1005, .row 132 1 (List.map (eInt .u32) p.1))]) (Inv := fun p => I263 p.1 p.2.1 p.2.2) (μ := fun p => x264 p.1 p.2.1 p.2.2) (x0 := ⟨([] : List Int), (0 : Int), (0 : Int)⟩) hz265 (slf (fun i => (if Nat.beq i 1005 then 9 else i))) (fun p hp => ?_)
  obtain ⟨out197, borrow198, i199⟩ := p
  have h := hr266 out197 borrow198 i199 hp
  refine AWp.seq (AWp.seq (rN (pI rfl (pS rfl (al (((a1.length : Nat) : Int)) rfl (pB rfl (dn (cB h (fun h => ?_) (fun h => ?_)))))))))
  · refine AWp.skip (AWp.seq (AWp.block (AWp.seq (rN (pS rfl (pI rfl (kI h map_get rfl rfl rfl rfl rfl rfl rfl fun x232 h => ?_)))))))
    refine pI rfl ?_
    obtain ⟨x234, ex234, h⟩ := h.get
    refine ai ex234 rfl (pI rfl ?_)
    obtain ⟨x235, ex235, h⟩ := h.get
    refine ai ex235 rfl (pI rfl (dn (AWp.seq (AWp.seq (rN (pI rfl (pS rfl (al (((b2.length : Nat) : Int)) rfl (pB rfl (dn ?_))))))))))
    obtain ⟨J259, h, hk260⟩ := h
    refine AWp.cutK (I := fun p : Int => mkSt [(0, .dat (.sl 132 1 (List.map (eInt .u32) a1))), (1, .dat (.sl 132 1 (List.map (eInt .u32) b2))), (5, .oref 1005), (7, .dat (.v (.int .i64 i199))), (8, .dat (.v (.int .i64 p)))] [(1005, .row 132 1 (List.map (eInt .u32) out197))]) (Inv := fun p : Int => J259 p) ?_ (fun p hp => ?_)
    · refine cB h (fun h => ?_) (fun h => ?_)
      · refine rN (pI rfl (pS rfl (pI rfl (kI h map_get rfl rfl rfl rfl rfl rfl rfl fun x245 h => ?_))))
        refine pI rfl ?_
        obtain ⟨x247, ex247, h⟩ := h.get
        refine ai ex247 rfl ?_
        obtain ⟨x248, ex248, h⟩ := h.get
        refine ai ex248 rfl (pI rfl (dn ?_))
        exact ⟨x248, h, sl⟩
      refine AWp.skip ?_
      exact ⟨x235, h, sl⟩
    replace h := hk260 p hp
    revert h; clear hp; generalize p = n242; intro h
    refine sN (pI rfl (dn (AWp.seq (AWp.seq (rN (pI rfl (pB rfl (dn ?_))))))))
    obtain ⟨J257, h, hk258⟩ := h
    refine AWp.cutK (I := fun p : Int × Int => mkSt [(0, .dat (.sl 132 1 (List.map (eInt .u32) a1))), (1, .dat (.sl 132 1 (List.map (eInt .u32) b2))), (5, .oref 1005), (6, .dat (.v (.int .i64 p.1))), (7, .dat (.v (.int .i64 i199))), (8, .dat (.v (.int .i64 p.2)))] [(1005, .row 132 1 (List.map (eInt .u32) out197))]) (Inv := fun p : Int × Int => J257 p.1 p.2) ?_ (fun p hp => ?_)
    · refine cB h (fun h => ?_) (fun h => ?_)
      · refine sN (pI rfl ?_)
        obtain ⟨x253, ex253, h⟩ := h.get
        refine ai ex253 rfl (pI rfl (dn (rN (pI rfl (dn ?_)))))
        exact ⟨⟨(1 : Int), x253⟩, h, sl⟩
      refine AWp.skip ?_
      exact ⟨⟨(0 : Int), n242⟩, h, sl⟩
    obtain ⟨borrow250, n251⟩ := p
    replace h := hk258 borrow250 n251 hp
    refine rW (pO rfl (pI rfl ?_))
    obtain ⟨x254, ex254, h⟩ := h.get
    refine ai ex254 rfl ?_
    refine AOps.lit tabOk (ys := [.v (.int .u32 x254)]) rfl rfl rfl rfl rfl rfl ?_
    obtain ⟨h1, h2, x255, ex255, h⟩ := h.get
    refine AOps.append tabOk rfl rfl rfl rfl rfl rfl rfl rfl rfl rfl rfl (.inl ⟨_, rfl⟩) (app1 h1) (app2 h2) (app3 ex255) ?_
    refine pO rfl (dn (rN (pI rfl ?_)))
    obtain ⟨x256, ex256, h⟩ := h.get
    refine ai ex256 rfl (pI rfl (dn ?_))
    exact ⟨⟨x255, borrow250, x256⟩, h.1, h.2, (slf (fun i => (if Nat.beq i 1005 then 42 else i)))⟩
  refine AWp.exit ?_
  refine AWp.seq ?_
  refine AWp.freeze 5 1005 rfl rfl ?_
  refine rN (pS rfl (kC h rfl ⟨.inl rfl, trivial⟩ rfl fun x261 h => ?_))
  refine pS rfl (dn (AWp.ret ?_))
  subst h
  exact ⟨_, rfl, rfl⟩
def W_ref01_By (x1 : List Int) (x2 : List Int) (Q : List Int → Prop) : Prop :=
 Let (IntKind.i64.wrap (((x1.length : Nat) : Int) + ((x2.length : Nat) : Int))) fun x5 =>
 Let (IntKind.i64.wrap (x5 + (1 : Int))) fun x6 =>
 Mk 4 x6 (0 : Int) fun x7 =>
 Loop2 x7 (0 : Int) (fun (x1297 : List Int) (x1298 : Int) next1299 =>
  Br (decide (x1298 < ((x1.length : Nat) : Int))) (
   Loop3 x1297 (0 : Int) (0 : Int) (fun (x1665 : List Int) (x1666 : Int) (x1667 : Int) next1668 =>
    Br (decide (x1667 < ((x2.length : Nat) : Int))) (
     At x1 x1298 fun x1693 =>
     Let (IntKind.u64.wrap x1693) fun x1695 =>
     At x2 x1667 fun x1697 =>
     Let (IntKind.u64.wrap x1697) fun x1699 =>
     Let (IntKind.u64.wrap (x1695 * x1699)) fun x1700 =>
     Let (IntKind.i64.wrap (x1298 + x1667)) fun x1701 =>
     At x1665 x1701 fun x1703 =>
     Let (IntKind.u64.wrap x1703) fun x1705 =>
     Let (IntKind.u64.wrap (x1700 + x1705)) fun x1706 =>
     Let (IntKind.u64.wrap (x1706 + x1666)) fun x1707 =>
     Let (IntKind.i64.wrap (x1298 + x1667)) fun x1708 =>
     Let (IntKind.u32.wrap x1707) fun x1709 =>
     At x1665 x1708 fun x1711 =>
     Let (Int.fdiv x1707 (2 ^ 32)) fun x1713 =>
     Let (IntKind.i64.wrap (x1667 + (1 : Int))) fun x1714 =>
     next1668 (List.set x1665 (Int.toNat x1708) x1709) x1713 x1714) (
     Let (IntKind.i64.wrap (x1298 + ((x2.length : Nat) : Int))) fun x1716 =>
     Let (IntKind.u32.wrap x1666) fun x1717 =>
     At x1665 x1716 fun x1719 =>
     Let (IntKind.i64.wrap (x1298 + (1 : Int))) fun x1721 =>
     next1299 (List.set x1665 (Int.toNat x1716) x1717) x1721))) (
   Call (Ev_ref01_trim x1297) fun x1726 =>
   Q x1726))
theorem walk_ref01_By {x1 : List Int} {x2 : List Int} {r : List Int} (h : W_ref01_By x1 x2 (fun r' => r' = r)) : Ev_ref01_By x1 x2 r := by
  unfold W_ref01_By at h
  refine intr (L := [(0, .dat (.sl 132 1 (List.map (eInt .u32) x1))), (1, .dat (.sl 132 1 (List.map (eInt .u32) x2)))]) Tryz.func117 Tryz.ntmps117 ?_
  refine sN (pS rfl (dn (AWp.seq (rN (pS rfl (al (((x1.length : Nat) : Int)) rfl (pS rfl (al (((x2.length : Nat) : Int)) rfl ?_))))))))
  obtain ⟨x5, ex5, h⟩ := h.get
  refine ai ex5 rfl ?_
  obtain ⟨x6, ex6, h⟩ := h.get
  refine ai ex6 rfl ?_
  obtain ⟨h1, h2, h3, x7, ex7, h⟩ := h.get
  refine AOps.makeownE tabOk (e := (eInt .u32)) rfl rfl rfl rfl rfl rfl rfl h1 h2 h3 rfl ex7 ?_
  refine pO rfl (dn (AWp.seq (AWp.seq (rN (pI rfl (dn (AWp.block ?_)))))))
  obtain ⟨I1728, x1729, hz1730, hr1731⟩ := h
  refine AWp.loop (I := fun p : (List Int) × Int => mkSt [(0, .dat (.sl 132 1 (List.map (eInt .u32) x1))), (1, .dat (.sl 132 1 (List.map (eInt .u32) x2))), (5, .oref 1005), (6, .dat (.v (.int .i64 p.2)))] [(1005, .row 132 1 (List.map (eInt .u32) p.1))]) (Inv := fun p => I1728 p.1 p.2) (μ := fun p => x1729 p.1 p.2) (x0 := ⟨x7, (0 : Int)⟩) hz1730 (slf (fun i => (if Nat.beq i 1005 then 16 else i))) (fun p hp => ?_)
  obtain ⟨x1297, x1298⟩ := p
  have h := hr1731 x1297 x1298 hp
  refine AWp.seq (AWp.seq (rN (pI rfl (pS rfl (al (((x1.length : Nat) : Int)) rfl (pB rfl (dn (cB h (fun h => ?_) (fun h => ?_)))))))))
  · refine AWp.skip (AWp.seq (AWp.block (AWp.seq (rN (pI rfl (dn (AWp.seq (AWp.seq (rN (pI rfl (dn (AWp.block ?_))))))))))))
    obtain ⟨I1722, x1723, hz1724, hr1725⟩ := h
    refine AWp.loop (I := fun p : (List Int) × Int × Int => mkSt [(0, .dat (.sl 132 1 (List.map (eInt .u32) x1))), (1, .dat (.sl 132 1 (List.map (eInt .u32) x2))), (5, .oref 1005), (6, .dat (.v (.int .i64 x1298))), (7, .dat (.v (.int .u64 p.2.1))), (8, .dat (.v (.int .i64 p.2.2)))] [(1005, .row 132 1 (List.map (eInt .u32) p.1))]) (Inv := fun p => I1722 p.1 p.2.1 p.2.2) (μ := fun p => x1723 p.1 p.2.1 p.2.2) (x0 := ⟨x1297, (0 : Int), (0 : Int)⟩) hz1724 sl (fun p hp => ?_)
    obtain ⟨x1665, x1666, x1667⟩ := p
    have h := hr1725 x1665 x1666 x1667 hp
    refine AWp.seq (AWp.seq (rN (pI rfl (pS rfl (al (((x2.length : Nat) : Int)) rfl (pB rfl (dn (cB h (fun h => ?_) (fun h => ?_)))))))))
    · refine AWp.skip (AWp.seq (AWp.block (AWp.seq (rD (pS rfl (pI rfl (kI h map_get rfl rfl rfl rfl rfl rfl rfl fun x1693 h => ?_)))))))
      refine pI rfl ?_
      obtain ⟨x1695, ex1695, h⟩ := h.get
      refine ai ex1695 rfl (pS rfl (pI rfl (kI h map_get rfl rfl rfl rfl rfl rfl rfl fun x1697 h => ?_)))
      refine pI rfl ?_
      obtain ⟨x1699, ex1699, h⟩ := h.get
      refine ai ex1699 rfl ?_
      obtain ⟨x1700, ex1700, h⟩ := h.get
      refine ai ex1700 rfl (pO rfl (pI rfl (pI rfl ?_)))
      obtain ⟨x1701, ex1701, h⟩ := h.get
      refine ai ex1701 rfl ?_
      obtain ⟨hi1702, x1703, hx1704, h⟩ := h
      refine AOps.idxown tabOk rfl rfl rfl rfl rfl rfl rfl rfl hi1702 (map_lt hi1702 hx1704) rfl ?_
      refine AOps.loadrow tabOk rfl rfl rfl rfl rfl rfl rfl (map_get hx1704) rfl ?_
      obtain ⟨x1705, ex1705, h⟩ := h.get
      refine ai ex1705 rfl ?_
      obtain ⟨x1706, ex1706, h⟩ := h.get
      refine ai ex1706 rfl (pI rfl ?_)
      obtain ⟨x1707, ex1707, h⟩ := h.get
      refine ai ex1707 rfl (pI rfl (dn (AWp.seq (rW (pO rfl (pI rfl (pI rfl ?_)))))))
      obtain ⟨x1708, ex1708, h⟩ := h.get
      refine ai ex1708 rfl (pI rfl ?_)
      obtain ⟨x1709, ex1709, h⟩ := h.get
      refine ai ex1709 rfl ?_
      obtain ⟨hi1710, x1711, hx1712, h⟩ := h
      refine AOps.idxown tabOk rfl rfl rfl rfl rfl rfl rfl rfl hi1710 (map_lt hi1710 hx1712) rfl ?_
      refine AOps.storerow tabOk rfl rfl rfl rfl rfl rfl rfl rfl (map_lt2 hx1712) rfl rfl rfl (map_set1 (e := (eInt .u32)) (x := x1709)) ?_
      refine dn (rN (pI rfl ?_))
      obtain ⟨x1713, ex1713, h⟩ := h.get
      refine AOps.q rfl rfl rfl rfl rfl (rbin_shr (by decide)) ex1713 ?_
      refine pI rfl (dn (rN (pI rfl ?_)))
      obtain ⟨x1714, ex1714, h⟩ := h.get
      refine ai ex1714 rfl (pI rfl (dn ?_))
      exact ⟨⟨(List.set x1665 (Int.toNat x1708) x1709), x1713, x1714⟩, h.1, h.2, sl⟩
    refine AWp.exit ?_
    refine rW (pO rfl (pI rfl (pS rfl (al (((x2.length : Nat) : Int)) rfl ?_))))
    obtain ⟨x1716, ex1716, h⟩ := h.get
    refine ai ex1716 rfl (pI rfl ?_)
    obtain ⟨x1717, ex1717, h⟩ := h.get
    refine ai ex1717 rfl ?_
    obtain ⟨hi1718, x1719, hx1720, h⟩ := h
    refine AOps.idxown tabOk rfl rfl rfl rfl rfl rfl rfl rfl hi1718 (map_lt hi1718 hx1720) rfl ?_
    refine AOps.storerow tabOk rfl rfl rfl rfl rfl rfl rfl rfl (map_lt2 hx1720) rfl rfl rfl (map_set1 (e := (eInt .u32)) (x := x1717)) ?_
    refine dn (rN (pI rfl ?_))
    obtain ⟨x1721, ex1721, h⟩ := h.get
    refine ai ex1721 rfl (pI rfl (dn ?_))
    exact ⟨⟨(List.set x1665 (Int.toNat x1716) x1717), x1721⟩, h.1, h.2, sl⟩
  refine AWp.exit ?_
  refine AWp.seq ?_
  refine AWp.freeze 5 1005 rfl rfl ?_
  refine rN (pS rfl (kC h rfl ⟨.inl rfl, trivial⟩ rfl fun x1726 h => ?_))
  refine pS rfl (dn (AWp.ret ?_))
  subst h
  exact ⟨_, rfl, rfl⟩
def W_ref01_Bits (a1 : List Int) (Q : Int → Prop) : Prop :=
 Br (((a1.length : Nat) : Int) == (0 : Int)) (Q (0 : Int)) (
  Let (IntKind.i64.wrap (((a1.length : Nat) : Int) - (1 : Int))) fun x4 =>
  Let (IntKind.i64.wrap ((32 : Int) * x4)) fun x5 =>
  Let (IntKind.i64.wrap (((a1.length : Nat) : Int) - (1 : Int))) fun x7 =>
  At a1 x7 fun x9 =>
  Loop2 x5 x9 (fun (n31 : Int) (d32 : Int) next33 =>
   Br (decide (d32 > (0 : Int))) (
    Let (IntKind.i64.wrap (n31 + (1 : Int))) fun x35 =>
    Let (Int.fdiv d32 (2 ^ 1)) fun x36 =>
    next33 x35 x36) (
    Q n31)))
theorem walk_ref01_Bits {a1 : List Int} {r : Int} (h : W_ref01_Bits a1 (fun r' => r' = r)) : Ev_ref01_Bits a1 r := by
  unfold W_ref01_Bits at h
  refine intr (L := [(0, .dat (.sl 132 1 (List.map (eInt .u32) a1)))]) Tryz.func118 Tryz.ntmps118 ?_
  refine sN (pI rfl (dn (AWp.seq (AWp.seq (rN (pS rfl (al (((a1.length : Nat) : Int)) rfl (pB rfl (dn (cB h (fun h => ?_) (fun h => ?_)))))))))))
  · refine sN (pI rfl (dn (AWp.ret ?_)))
    subst h
    exact ⟨_, rfl, rfl⟩
  refine AWp.skip (AWp.seq (rN (pS rfl (al (((a1.length : Nat) : Int)) rfl ?_))))
  obtain ⟨x4, ex4, h⟩ := h.get
  refine ai ex4 rfl ?_
  obtain ⟨x5, ex5, h⟩ := h.get
  refine ai ex5 rfl (pI rfl (dn (AWp.seq (AWp.seq (rN (pS rfl (pS rfl (al (((a1.length : Nat) : Int)) rfl ?_))))))))
  obtain ⟨x7, ex7, h⟩ := h.get
  refine ai ex7 rfl (kI h map_get rfl rfl rfl rfl rfl rfl rfl fun x9 h => ?_)
  refine pI rfl (pI rfl (dn (AWp.block ?_)))
  obtain ⟨I37, x38, hz39, hr40⟩ := h
  refine AWp.loop (I := fun p : Int × Int => mkSt [(3, .dat (.v (.int .i64 p.1))), (4, .dat (.v (.int .u32 p.2)))] []) (Inv := fun p => I37 p.1 p.2) (μ := fun p => x38 p.1 p.2) (x0 := ⟨x5, x9⟩) hz39 sl (fun p hp => ?_)
  obtain ⟨n31, d32⟩ := p
  have h := hr40 n31 d32 hp
  refine AWp.seq (AWp.seq (rN (pI rfl (pB rfl (dn (cB h (fun h => ?_) (fun h => ?_)))))))
  · refine AWp.skip (AWp.seq (AWp.block (rN (pI rfl ?_))))
    obtain ⟨x35, ex35, h⟩ := h.get
    refine ai ex35 rfl (pI rfl (dn (rN (pI rfl ?_))))
    obtain ⟨x36, ex36, h⟩ := h.get
    refine AOps.q rfl rfl rfl rfl rfl (rbin_shr (by decide)) ex36 ?_
    refine pI rfl (dn ?_)
    exact ⟨⟨x35, x36⟩, h.1, h.2, sl⟩
  refine AWp.exit ?_
  refine sN (pI rfl (pI rfl (dn (AWp.ret ?_))))
  subst h
  exact ⟨_, rfl, rfl⟩
def W_ref01_Left (a1 : List Int) (n2 : Int) (Q : List Int → Prop) : Prop :=
 Br (((a1.length : Nat) : Int) == (0 : Int)) (Q a1) (
  Let (IntKind.i64.wrap (Int.tdiv n2 (32 : Int))) fun x4 =>
  Mk 4 x4 (0 : Int) fun x5 =>
  Loop3 x5 (0 : Int) (0 : Int) (fun (out90 : List Int) (carry91 : Int) (x92 : Int) next93 =>
   Br (decide (x92 < ((a1.length : Nat) : Int))) (
    At a1 x92 fun x106 =>
    Let (IntKind.u64.wrap x106) fun x108 =>
    Let (Int.tmod n2 (32 : Int)) fun x109 =>
    Let (IntKind.u64.wrap x109) fun x110 =>
    Nn x110 <|
    Let (IntKind.u64.wrap (x108 * 2 ^ (min (Int.toNat x110) 64))) fun x111 =>
    Let (bits .or .u64 carry91 x111) fun x112 =>
    Let (IntKind.u32.wrap x112) fun x113 =>
    App 4 out90 ([x113]) fun x114 =>
    Let (Int.fdiv x112 (2 ^ 32)) fun x115 =>
    Let (IntKind.i64.wrap (x92 + (1 : Int))) fun x116 =>
    next93 x114 x115 x116) (
    Let (IntKind.u32.wrap carry91) fun x117 =>
    App 4 out90 ([x117]) fun x118 =>
    Call (Ev_ref01_trim x118) fun x119 =>
    Q x119)))
theorem walk_ref01_Left {a1 : List Int} {n2 : Int} {r : List Int} (h : W_ref01_Left a1 n2 (fun r' => r' = r)) : Ev_ref01_Left a1 n2 r := by
  unfold W_ref01_Left at h
  refine intr (L := [(0, .dat (.sl 132 1 (List.map (eInt .u32) a1))), (1, .dat (.v (.int .i64 n2)))]) Tryz.func127 Tryz.ntmps127 ?_
  refine sN (pS rfl (dn (AWp.seq (AWp.seq (rN (pS rfl (al (((a1.length : Nat) : Int)) rfl (pB rfl (dn (cB h (fun h => ?_) (fun h => ?_)))))))))))
  · refine sN (pS rfl (pS rfl (dn (AWp.ret ?_))))
    subst h
    exact ⟨_, rfl, rfl⟩
  refine AWp.skip (AWp.seq (rN (pI rfl ?_)))
  obtain ⟨x4, ex4, h⟩ := h.get
  refine AOps.q rfl rfl rfl rfl rfl (rbin_quo (by decide)) ex4 ?_
  obtain ⟨h1, h2, h3, x5, ex5, h⟩ := h.get
  refine AOps.makeownE tabOk (e := (eInt .u32)) rfl rfl rfl rfl rfl rfl rfl h1 h2 h3 rfl ex5 ?_
  refine pO rfl (dn (AWp.seq (rN (pI rfl (dn (AWp.seq (AWp.seq (rN (pS rfl (al (((a1.length : Nat) : Int)) rfl (pI rfl (dn (AWp.block ?_)))))))))))))
  obtain ⟨I121, x122, hz123, hr124⟩ := h
  refine AWp.loop (I := fun p : (List Int) × Int × Int => mkSt [(1, .dat (.v (.int .i64 n2))), (5, .oref 1005), (6, .dat (.v (.int .u64 p.2.1))), (16, .dat (.sl 132 1 (List.map (eInt .u32) a1))), (17, .dat (.v (.int .i64 ((a1.length : Nat) : Int)))), (18, .dat (.v (.int .i64 p.2.2)))] [(1005, .row 132 1 (List.map (eInt .u32) p.1))]) (Inv := fun p => I121 p.1 p.2.1 p.2.2) (μ := fun p => x122 p.1 p.2.1 p.2.2) (x0 := ⟨x5, (0 : Int), (0 : Int)⟩) hz123 (slf (fun i => (if Nat.beq i 1005 then 15 else i))) (fun p hp => ?_)
  obtain ⟨out90, carry91, x92⟩ := p
  have h := hr124 out90 carry91 x92 hp
  refine sN (pW rfl (dn (AWp.seq (cB h (fun h => ?_) (fun h => ?_)))))
  · refine AWp.skip (AWp.seq (AWp.block (AWp.seq (rN (kI h map_get rfl rfl rfl rfl rfl rfl rfl fun x106 h => ?_)))))
    refine pI rfl (pI rfl (dn (AWp.seq (rN (pI rfl (pI rfl ?_))))))
    obtain ⟨x108, ex108, h⟩ := h.get
    refine ai ex108 rfl (pI rfl ?_)
    obtain ⟨x109, ex109, h⟩ := h.get
    refine AOps.q rfl rfl rfl rfl rfl (rbin_rem (by decide)) ex109 ?_
    obtain ⟨x110, ex110, h⟩ := h.get
    refine ai ex110 rfl ?_
    obtain ⟨hq, h⟩ := h
    obtain ⟨x111, ex111, h⟩ := h.get
    refine AOps.q rfl rfl rfl rfl rfl (rbin_shl hq) ex111 ?_
    obtain ⟨x112, ex112, h⟩ := h.get
    refine ai ex112 rfl (pI rfl (dn (AWp.seq (rW (pO rfl (pI rfl ?_))))))
    obtain ⟨x113, ex113, h⟩ := h.get
    refine ai ex113 rfl ?_
    refine AOps.lit tabOk (ys := [.v (.int .u32 x113)]) rfl rfl rfl rfl rfl rfl ?_
    obtain ⟨h1, h2, x114, ex114, h⟩ := h.get
    refine AOps.append tabOk rfl rfl rfl rfl rfl rfl rfl rfl rfl rfl rfl (.inl ⟨_, rfl⟩) (app1 h1) (app2 h2) (app3 ex114) ?_
    refine pO rfl (dn (rN (pI rfl ?_)))
    obtain ⟨x115, ex115, h⟩ := h.get
    refine AOps.q rfl rfl rfl rfl rfl (rbin_shr (by decide)) ex115 ?_
    refine pI rfl (dn (rN ?_))
    obtain ⟨x116, ex116, h⟩ := h.get
    refine ai ex116 rfl (pI rfl (dn ?_))
    exact ⟨⟨x114, x115, x116⟩, h.1, h.2, (slf (fun i => (if Nat.beq i 1005 then 34 else i)))⟩
  refine AWp.exit ?_
  refine sW (pO rfl (pI rfl ?_))
  obtain ⟨x117, ex117, h⟩ := h.get
  refine ai ex117 rfl ?_
  refine AOps.lit tabOk (ys := [.v (.int .u32 x117)]) rfl rfl rfl rfl rfl rfl ?_
  obtain ⟨h1, h2, x118, ex118, h⟩ := h.get
  refine AOps.append tabOk rfl rfl rfl rfl rfl rfl rfl rfl rfl rfl rfl (.inl ⟨_, rfl⟩) (app1 h1) (app2 h2) (app3 ex118) ?_
  refine pO rfl (dn (AWp.seq ?_))
  refine AWp.freeze 5 42 rfl rfl ?_
  refine rN (pS rfl (kC h rfl ⟨.inl rfl, trivial⟩ rfl fun x119 h => ?_))
  refine pS rfl (dn (AWp.ret ?_))
  subst h
  exact ⟨_, rfl, rfl⟩
def W_ref01_trim (a1 : List Int) (Q : List Int → Prop) : Prop :=
 Loop1 a1 (fun (a55 : List Int) next56 =>
  Br (decide (((a55.length : Nat) : Int) > (0 : Int))) (
   Let (IntKind.i64.wrap (((a55.length : Nat) : Int) - (1 : Int))) fun x65 =>
   At a55 x65 fun x67 =>
   Br (x67 == (0 : Int)) (
    Let (IntKind.i64.wrap (((a55.length : Nat) : Int) - (1 : Int))) fun x70 =>
    Sl a55 0 x70 fun x71 =>
    next56 x71) (
    Q a55)) (
   Q a55))
theorem walk_ref01_trim {a1 : List Int} {r : List Int} (h : W_ref01_trim a1 (fun r' => r' = r)) : Ev_ref01_trim a1 r := by
  unfold W_ref01_trim at h
  refine intr (L := [(0, .dat (.sl 132 1 (List.map (eInt .u32) a1)))]) Tryz.func128 Tryz.ntmps128 ?_
  refine sN (pS rfl (dn (AWp.seq (AWp.block ?_))))
  obtain ⟨I72, x73, hz74, hr75⟩ := h
  refine AWp.loop (I := fun p : (List Int) => mkSt [(0, .dat (.sl 132 1 (List.map (eInt .u32) p)))] []) (Inv := fun p => I72 p) (μ := fun p => x73 p) (x0 := a1) hz74 sl (fun p hp => ?_)
  have h := hr75 p hp
  revert h; clear hp; generalize p = a55; intro h
  refine AWp.seq (AWp.seq (rN (pS rfl (al (((a55.length : Nat) : Int)) rfl (pB rfl (pB rfl (sB 6 h (fun h => ?_) (fun h => ?_))))))))
  · refine pS rfl (pS rfl (al (((a55.length : Nat) : Int)) rfl ?_))
    obtain ⟨x65, ex65, h⟩ := h.get
    refine ai ex65 rfl (kI h map_get rfl rfl rfl rfl rfl rfl rfl fun x67 h => ?_)
    refine pI rfl (pB rfl (pB rfl (dn (cB h (fun h => ?_) (fun h => ?_)))))
    · refine AWp.skip (AWp.block (rN (pS rfl (pS rfl (al (((a55.length : Nat) : Int)) rfl ?_)))))
      obtain ⟨x70, ex70, h⟩ := h.get
      refine ai ex70 rfl ?_
      obtain ⟨h1, h2, h3, x71, ex71, h⟩ := h.get
      refine AOps.cutE tabOk rfl rfl rfl rfl rfl rfl rfl ⟨_, rfl⟩ h1 h2 h3 ex71 ?_
      refine pS rfl (dn ?_)
      exact ⟨x71, h.1, h.2, sl⟩
    refine AWp.exit ?_
    refine sN (pS rfl (pS rfl (dn (AWp.ret ?_))))
    subst h
    exact ⟨_, rfl, rfl⟩
  refine fo 7 rfl (pB rfl (dn ?_))
  refine AWp.condF rfl ?_
  refine AWp.exit ?_
  refine sN (pS rfl (pS rfl (dn (AWp.ret ?_))))
  subst h
  exact ⟨_, rfl, rfl⟩
def W_ref01_level (a1 : Gref01Num) (b2 : Gref01Num) (Q : Gref01Num × Gref01Num → Prop) : Prop :=
 Join1 (fun j7 =>
  Br (decide (a1.E > b2.E)) (
   Let (IntKind.i64.wrap (a1.E - b2.E)) fun x8 =>
   Call (Ev_ref01_Left a1.M x8) fun x9 =>
   j7 ({ a1 with M := x9, E := b2.E })) (
   j7 a1)
 ) (fun (a6 : Gref01Num) =>
  Join1 (fun j15 =>
   Br (decide (b2.E > a6.E)) (
    Let (IntKind.i64.wrap (b2.E - a6.E)) fun x16 =>
    Call (Ev_ref01_Left b2.M x16) fun x17 =>
    j15 ({ b2 with M := x17, E := a6.E })) (
    j15 b2)
  ) (fun (b14 : Gref01Num) =>
   Q (a6, b14)))
theorem walk_ref01_level {a1 : Gref01Num} {b2 : Gref01Num} {r : Gref01Num × Gref01Num} (h : W_ref01_level a1 b2 (fun r' => r' = r)) : Ev_ref01_level a1 b2 r := by
  unfold W_ref01_level at h
  refine intr (L := [(0, .dat (Gref01Num.enc a1)), (1, .dat (Gref01Num.enc b2))]) Tryz.func100 Tryz.ntmps100 ?_
  refine sN (bx (v := .dat (.st _ _)) ?_)
  refine bx (v := .dat (.st _ _)) ?_
  refine al0 ?_
  refine al0 ?_
  refine dn (AWp.seq (AWp.seq (rN (pP rfl (pI rfl (pP rfl (pI rfl (pB rfl (dn ?_)))))))))
  obtain ⟨J21, h, hk22⟩ := h
  refine AWp.cutK (I := fun p : Gref01Num => mkSt [(2, .pt 2 [] 0), (3, .pt 3 [] 0), (4, .pt 4 [] 0), (5, .pt 5 [] 0)] [(2, .box 69 3 (.dat (Gref01Num.enc p))), (3, .box 69 3 (.dat (Gref01Num.enc b2))), (4, .box 69 3 (.dat (Gref01Num.enc Gref01Num.zero))), (5, .box 69 3 (.dat (Gref01Num.enc Gref01Num.zero)))]) (Inv := fun p : Gref01Num => J21 p) ?_ (fun p hp => ?_)
  · refine cB h (fun h => ?_) (fun h => ?_)
    · refine sW (pP rfl (pS rfl (pP rfl (pI rfl (pP rfl (pI rfl ?_))))))
      obtain ⟨x8, ex8, h⟩ := h.get
      refine ai ex8 rfl (kC h rfl ⟨.inl rfl, .inl rfl, trivial⟩ rfl fun x9 h => ?_)
      refine pP rfl (st (v := .dat (.sl _ _ _)) ?_)
      refine dn (rW (pP rfl (pI rfl (pP rfl (st (v := .dat (.v (.int _ _))) ?_)))))
      refine dn ?_
      exact ⟨({ a1 with M := x9, E := b2.E }), h, sl⟩
    refine AWp.skip ?_
    exact ⟨a1, h, sl⟩
  replace h := hk22 p hp
  revert h; clear hp; generalize p = a6; intro h
  refine AWp.seq (AWp.seq (rN (pP rfl (pI rfl (pP rfl (pI rfl (pB rfl (dn ?_))))))))
  obtain ⟨J19, h, hk20⟩ := h
  refine AWp.cutK (I := fun p : Gref01Num => mkSt [(2, .pt 2 [] 0), (3, .pt 3 [] 0), (4, .pt 4 [] 0), (5, .pt 5 [] 0)] [(2, .box 69 3 (.dat (Gref01Num.enc a6))), (3, .box 69 3 (.dat (Gref01Num.enc p))), (4, .box 69 3 (.dat (Gref01Num.enc Gref01Num.zero))), (5, .box 69 3 (.dat (Gref01Num.enc Gref01Num.zero)))]) (Inv := fun p : Gref01Num => J19 p) ?_ (fun p hp => ?_)
  · refine cB h (fun h => ?_) (fun h => ?_)
    · refine sW (pP rfl (pS rfl (pP rfl (pI rfl (pP rfl (pI rfl ?_))))))
      obtain ⟨x16, ex16, h⟩ := h.get
      refine ai ex16 rfl (kC h rfl ⟨.inl rfl, .inl rfl, trivial⟩ rfl fun x17 h => ?_)
      refine pP rfl (st (v := .dat (.sl _ _ _)) ?_)
      refine dn (rW (pP rfl (pI rfl (pP rfl (st (v := .dat (.v (.int _ _))) ?_)))))
      refine dn ?_
      exact ⟨({ b2 with M := x17, E := a6.E }), h, sl⟩
    refine AWp.skip ?_
    exact ⟨b2, h, sl⟩
  replace h := hk20 p hp
  revert h; clear hp; generalize p = b14; intro h
  refine AWp.seq (rE [(2, [2]), (3, [3]), (4, [4]), (5, [5])] (pT rfl (pT rfl (st (v := .dat (.st _ _)) ?_))))
  refine st (v := .dat (.st _ _)) ?_
  subst h; exact dn (AWp.ret ⟨_, rfl, rfl⟩)
def W_ref01_Sum (x1 : Gref01Num) (x2 : Gref01Num) (Q : Gref01Num → Prop) : Prop :=
 Br (((x1.M.length : Nat) : Int) == (0 : Int)) (Q x2) (
  Br (((x2.M.length : Nat) : Int) == (0 : Int)) (Q x1) (
   Call (Ev_ref01_level x1 x2) fun x5 =>
   Br (x5.1.Neg == x5.2.Neg) (
    Call (Ev_ref01_Plus x5.1.M x5.2.M) fun x9 =>
    Q (Gref01Num.mk x5.1.Neg x9 x5.1.E)) (
    Call (Ev_ref01_Cmp x5.1.M x5.2.M) fun x11 =>
    Br (x11 == (0 : Int)) (Q Gref01Num.zero) (
     Br (decide (x11 > (0 : Int))) (
      Call (Ev_ref01_Less x5.1.M x5.2.M) fun x15 =>
      Q (Gref01Num.mk x5.1.Neg x15 x5.1.E)) (
      Call (Ev_ref01_Less x5.2.M x5.1.M) fun x17 =>
      Q (Gref01Num.mk x5.2.Neg x17 x5.1.E))))))
theorem walk_ref01_Sum {x1 : Gref01Num} {x2 : Gref01Num} {r : Gref01Num} (h : W_ref01_Sum x1 x2 (fun r' => r' = r)) : Ev_ref01_Sum x1 x2 r := by
  unfold W_ref01_Sum at h
  refine intr (L := [(0, .dat (Gref01Num.enc x1)), (1, .dat (Gref01Num.enc x2))]) Tryz.func66 Tryz.ntmps66 ?_
  refine sN (bx (v := .dat (.st _ _)) ?_)
  refine bx (v := .dat (.st _ _)) ?_
  refine al0 ?_
  refine dn (AWp.seq (AWp.seq (rN (pP rfl (pS rfl (al (((x1.M.length : Nat) : Int)) rfl (pB rfl (dn (cB h (fun h => ?_) (fun h => ?_))))))))))
  · refine sW (pT rfl (st (v := .dat (.st _ _)) ?_))
    subst h; exact dn (AWp.ret ⟨_, rfl, rfl⟩)
  refine AWp.skip (AWp.seq (AWp.seq (rN (pP rfl (pS rfl (al (((x2.M.length : Nat) : Int)) rfl (pB rfl (dn (cB h (fun h => ?_) (fun h => ?_))))))))))
  · refine sW (pT rfl (st (v := .dat (.st _ _)) ?_))
    subst h; exact dn (AWp.ret ⟨_, rfl, rfl⟩)
  refine AWp.skip (AWp.seq (rW (pT rfl (pT rfl (kC h rfl ⟨.inl rfl, .inl rfl, trivial⟩ rfl fun x5 h => ?_)))))
  refine pU rfl (pT rfl (pT rfl (al0 ?_)))
  refine al0 ?_
  refine st (v := .dat (.st _ _)) ?_
  refine st (v := .dat (.st _ _)) ?_
  refine dn (AWp.seq (AWp.seq (rN (pP rfl (pB rfl (pP rfl (pB rfl (pB rfl (dn (cB h (fun h => ?_) (fun h => ?_)))))))))))
  · refine AWp.seq (rE [(4, [4]), (5, [5]), (6, [6]), (29, [5]), (31, [5]), (33, [6]), (36, [5])] (pP rfl (pB rfl (pP rfl (pS rfl (pP rfl (pS rfl (kC h rfl ⟨.inl rfl, .inl rfl, trivial⟩ rfl fun x9 h => ?_))))))))
    refine pP rfl (pI rfl (pT rfl (st (v := .dat (.st _ _)) ?_)))
    subst h; exact dn (AWp.ret ⟨_, rfl, rfl⟩)
  refine AWp.skip (AWp.seq (rN (pP rfl (pS rfl (pP rfl (pS rfl (kC h rfl ⟨.inl rfl, .inl rfl, trivial⟩ rfl fun x11 h => ?_)))))))
  refine pI rfl (dn (AWp.seq (AWp.seq (rN (pI rfl (pB rfl (dn (cB h (fun h => ?_) (fun h => ?_)))))))))
  · refine sW (pT rfl (st (v := .dat (.st _ _)) ?_))
    subst h; exact dn (AWp.ret ⟨_, rfl, rfl⟩)
  refine AWp.skip (AWp.seq (AWp.seq (rN (pI rfl (pB rfl (dn (cB h (fun h => ?_) (fun h => ?_))))))))
  · refine AWp.seq (rE [(4, [4]), (5, [5]), (6, [6]), (49, [5]), (51, [5]), (53, [6]), (56, [5])] (pP rfl (pB rfl (pP rfl (pS rfl (pP rfl (pS rfl (kC h rfl ⟨.inl rfl, .inl rfl, trivial⟩ rfl fun x15 h => ?_))))))))
    refine pP rfl (pI rfl (pT rfl (st (v := .dat (.st _ _)) ?_)))
    subst h; exact dn (AWp.ret ⟨_, rfl, rfl⟩)
  refine AWp.skip (AWp.seq (rE [(4, [4]), (5, [5]), (6, [6]), (59, [6]), (61, [6]), (63, [5]), (66, [5])] (pP rfl (pB rfl (pP rfl (pS rfl (pP rfl (pS rfl (kC h rfl ⟨.inl rfl, .inl rfl, trivial⟩ rfl fun x17 h => ?_)))))))))
  refine pP rfl (pI rfl (pT rfl (st (v := .dat (.st _ _)) ?_)))
  subst h; exact dn (AWp.ret ⟨_, rfl, rfl⟩)
def W_ref01_Product (a1 : Gref01Num) (b2 : Gref01Num) (Q : Gref01Num → Prop) : Prop :=
 Call (Ev_ref01_By a1.M b2.M) fun x3 =>
 Br (((x3.length : Nat) : Int) == (0 : Int)) (Q Gref01Num.zero) (
  Let (IntKind.i64.wrap (a1.E + b2.E)) fun x6 =>
  Q (Gref01Num.mk (a1.Neg != b2.Neg) x3 x6))
theorem walk_ref01_Product {a1 : Gref01Num} {b2 : Gref01Num} {r : Gref01Num} (h : W_ref01_Product a1 b2 (fun r' => r' = r)) : Ev_ref01_Product a1 b2 r := by
  unfold W_ref01_Product at h
  refine intr (L := [(0, .dat (Gref01Num.enc a1)), (1, .dat (Gref01Num.enc b2))]) Tryz.func91 Tryz.ntmps91 ?_
  refine sN (bx (v := .dat (.st _ _)) ?_)
  refine bx (v := .dat (.st _ _)) ?_
  refine al0 ?_
  refine dn (sN (pP rfl (pS rfl (pP rfl (pS rfl (kC h rfl ⟨.inl rfl, .inl rfl, trivial⟩ rfl fun x3 h => ?_))))))
  refine pS rfl (dn (AWp.seq (AWp.seq (rN (pS rfl (al (((x3.length : Nat) : Int)) rfl (pB rfl (dn (cB h (fun h => ?_) (fun h => ?_))))))))))
  · refine sW (pT rfl (st (v := .dat (.st _ _)) ?_))
    subst h; exact dn (AWp.ret ⟨_, rfl, rfl⟩)
  refine AWp.skip (AWp.seq (rW (pP rfl (pB rfl (pP rfl (pB rfl (pB rfl (pS rfl (pP rfl (pI rfl (pP rfl (pI rfl ?_))))))))))))
  obtain ⟨x6, ex6, h⟩ := h.get
  refine ai ex6 rfl (pT rfl (st (v := .dat (.st _ _)) ?_))
  subst h; exact dn (AWp.ret ⟨_, rfl, rfl⟩)
def W_ref01_Sign (a1 : Gref01Num) (Q : Int → Prop) : Prop :=
 Br (((a1.M.length : Nat) : Int) == (0 : Int)) (Q (0 : Int)) (
  Br a1.Neg (Q (-1 : Int)) (
   Q (1 : Int)))
theorem walk_ref01_Sign {a1 : Gref01Num} {r : Int} (h : W_ref01_Sign a1 (fun r' => r' = r)) : Ev_ref01_Sign a1 r := by
  unfold W_ref01_Sign at h
  refine intr (L := [(0, .dat (Gref01Num.enc a1))]) Tryz.func47 Tryz.ntmps47 ?_
  refine sN (bx (v := .dat (.st _ _)) ?_)
  refine pI rfl (dn (AWp.seq (AWp.seq (rN (pP rfl (pS rfl (al (((a1.M.length : Nat) : Int)) rfl (pB rfl (dn (cB h (fun h => ?_) (fun h => ?_)))))))))))
  · refine sN (pI rfl (dn (AWp.ret ?_)))
    subst h
    exact ⟨_, rfl, rfl⟩
  refine AWp.skip (AWp.seq (AWp.seq (rN (pP rfl (pB rfl (dn (cB h (fun h => ?_) (fun h => ?_))))))))
  · refine sN (pI rfl (dn (AWp.ret ?_)))
    subst h
    exact ⟨_, rfl, rfl⟩
  refine AWp.skip (AWp.seq (rN (pI rfl (dn (AWp.ret ?_)))))
  subst h
  exact ⟨_, rfl, rfl⟩
def W_ref01_Order (a1 : Gref01Num) (b2 : Gref01Num) (Q : Int → Prop) : Prop :=
 Call (Ev_ref01_Sign a1) fun x3 =>
 Call (Ev_ref01_Sign b2) fun x5 =>
 Br (x3 != x5) (
  Call (Ev_ref01_Sign a1) fun x11 =>
  Call (Ev_ref01_Sign b2) fun x13 =>
  Br (decide (x11 < x13)) (Q (-1 : Int)) (
   Q (1 : Int))) (
  Call (Ev_ref01_Sign a1) fun x15 =>
  Br (x15 == (0 : Int)) (Q (0 : Int)) (
   Call (Ev_ref01_Bits a1.M) fun x17 =>
   Let (IntKind.i64.wrap (x17 + a1.E)) fun x19 =>
   Call (Ev_ref01_Bits b2.M) fun x20 =>
   Let (IntKind.i64.wrap (x20 + b2.E)) fun x22 =>
   Join1 (fun j28 =>
    Br (decide (x19 < x22)) (j28 (-1 : Int)) (
     Br (decide (x19 > x22)) (j28 (1 : Int)) (
      Call (Ev_ref01_level a1 b2) fun x29 =>
      Call (Ev_ref01_Cmp x29.1.M x29.2.M) fun x31 =>
      j28 x31))
   ) (fun (n27 : Int) =>
    Br a1.Neg (
     Let (IntKind.i64.wrap ((0 : Int) - n27)) fun x34 =>
     Q x34) (
     Q n27))))
theorem walk_ref01_Order {a1 : Gref01Num} {b2 : Gref01Num} {r : Int} (h : W_ref01_Order a1 b2 (fun r' => r' = r)) : Ev_ref01_Order a1 b2 r := by
  unfold W_ref01_Order at h
  refine intr (L := [(0, .dat (Gref01Num.enc a1)), (1, .dat (Gref01Num.enc b2))]) Tryz.func92 Tryz.ntmps92 ?_
  refine sN (bx (v := .dat (.st _ _)) ?_)
  refine bx (v := .dat (.st _ _)) ?_
  refine pI rfl (dn (AWp.seq (AWp.seq (rD (pT rfl (kC h rfl ⟨.inl rfl, trivial⟩ rfl fun x3 h => ?_))))))
  refine pT rfl (kC h rfl ⟨.inl rfl, trivial⟩ rfl fun x5 h => ?_)
  refine pB rfl (dn (cB h (fun h => ?_) (fun h => ?_)))
  · refine AWp.seq (AWp.seq (rD (pT rfl (kC h rfl ⟨.inl rfl, trivial⟩ rfl fun x11 h => ?_))))
    refine pT rfl (kC h rfl ⟨.inl rfl, trivial⟩ rfl fun x13 h => ?_)
    refine pB rfl (dn (cB h (fun h => ?_) (fun h => ?_)))
    · refine sN (pI rfl (dn (AWp.ret ?_)))
      subst h
      exact ⟨_, rfl, rfl⟩
    refine AWp.skip (AWp.seq (rN (pI rfl (dn (AWp.ret ?_)))))
    subst h
    exact ⟨_, rfl, rfl⟩
  refine AWp.skip (AWp.seq (AWp.seq (rN (pT rfl (kC h rfl ⟨.inl rfl, trivial⟩ rfl fun x15 h => ?_)))))
  refine pB rfl (dn (cB h (fun h => ?_) (fun h => ?_)))
  · refine sN (pI rfl (dn (AWp.ret ?_)))
    subst h
    exact ⟨_, rfl, rfl⟩
  refine AWp.skip (AWp.seq (rD (pP rfl (pS rfl (kC h rfl ⟨.inl rfl, trivial⟩ rfl fun x17 h => ?_)))))
  refine pP rfl (pI rfl ?_)
  obtain ⟨x19, ex19, h⟩ := h.get
  refine ai ex19 rfl (pI rfl (dn (AWp.seq (rD (pP rfl (pS rfl (kC h rfl ⟨.inl rfl, trivial⟩ rfl fun x20 h => ?_)))))))
  refine pP rfl (pI rfl ?_)
  obtain ⟨x22, ex22, h⟩ := h.get
  refine ai ex22 rfl (pI rfl (dn (AWp.seq (rN (pI rfl (dn (AWp.seq (AWp.seq (rN (pI rfl (pI rfl (pB rfl (dn ?_)))))))))))))
  obtain ⟨J35, h, hk36⟩ := h
  refine AWp.cutK (I := fun p : Int => mkSt [(2, .pt 2 [] 0), (7, .dat (.v (.int .i64 p)))] [(2, .box 69 3 (.dat (Gref01Num.enc a1)))]) (Inv := fun p : Int => J35 p) ?_ (fun p hp => ?_)
  · refine cB h (fun h => ?_) (fun h => ?_)
    · refine rN (pI rfl (dn ?_))
      exact ⟨(-1 : Int), h, sl⟩
    refine sN (pI rfl (pI rfl (pB rfl (dn (cB h (fun h => ?_) (fun h => ?_))))))
    · refine rN (pI rfl (dn ?_))
      exact ⟨(1 : Int), h, sl⟩
    refine sW (pT rfl (pT rfl (kC h rfl ⟨.inl rfl, .inl rfl, trivial⟩ rfl fun x29 h => ?_)))
    refine pU rfl (pT rfl (pT rfl (al0 ?_)))
    refine al0 ?_
    refine st (v := .dat (.st _ _)) ?_
    refine st (v := .dat (.st _ _)) ?_
    refine dn (rN (pP rfl (pS rfl (pP rfl (pS rfl (kC h rfl ⟨.inl rfl, .inl rfl, trivial⟩ rfl fun x31 h => ?_))))))
    refine pI rfl (dn ?_)
    exact ⟨x31, h, sl⟩
  replace h := hk36 p hp
  revert h; clear hp; generalize p = n27; intro h
  refine AWp.seq (AWp.seq (rN (pP rfl (pB rfl (dn (cB h (fun h => ?_) (fun h => ?_)))))))
  · refine sN (pI rfl ?_)
    obtain ⟨x34, ex34, h⟩ := h.get
    refine ai ex34 rfl (pI rfl (dn (AWp.ret ?_)))
    subst h
    exact ⟨_, rfl, rfl⟩
  refine AWp.skip (AWp.seq (rN (pI rfl (pI rfl (dn (AWp.ret ?_))))))
  subst h
  exact ⟨_, rfl, rfl⟩
end Go.Sim.YtlkpbnhinnhlfaaGreat
