/- What is proved: functions of the program compute what plain statements tell. -/
import Derived.Test.YtifjflhnfjhijaaGreatDoorZPSWE

namespace Go.Sim.YtifjflhnfjhijaaGreatDoor
open Go.RowKit Go.Proofs Go.Proofs.Tryz
set_option maxRecDepth 100000
def qE5 (a1 : List Int) (b2 : List Int) (Q : Int -> Prop) : Prop :=
 Br (((a1.length : Nat) : Int) != ((b2.length : Nat) : Int)) (
 Br (decide (((a1.length : Nat) : Int) < ((b2.length : Nat) : Int))) (Q (-1 : Int)) (
 Q (1 : Int))) (
 Let (IntKind.i64.wrap (((a1.length : Nat) : Int) - (1 : Int))) fun x10 =>
 Loop1 x10 (fun (i94 : Int) next95 =>
 Br (decide (i94 >= (0 : Int))) (
 At a1 i94 fun x109 =>
 At b2 i94 fun x112 =>
 Br (decide (x109 < x112)) (Q (-1 : Int)) (
 At a1 i94 fun x115 =>
 At b2 i94 fun x118 =>
 Br (decide (x115 > x118)) (Q (1 : Int)) (
 Let (IntKind.i64.wrap (i94 - (1 : Int))) fun x120 =>
 next95 x120))) (
 Q (0 : Int))))
theorem qJy {a1 : List Int} {b2 : List Int} {r : Int} (h : qE5 a1 b2 (fun r' => r' = r)) : q7o a1 b2 r := by
 unfold qE5 at h
 refine intr (L := [(0, .dat (.sl 100 1 (List.map (eInt .u32) a1))), (1, .dat (.sl 100 1 (List.map (eInt .u32) b2)))]) Tryz.func128 Tryz.ntmps128 ?_
 refine sN (pI rfl (dn (AWp.seq (AWp.seq (rN (pS rfl (al (((a1.length : Nat) : Int)) rfl (pS rfl (al (((b2.length : Nat) : Int)) rfl (pB rfl (dn (cB h (fun h => ?_) (fun h => ?_)))))))))))))
 ·refine AWp.seq (AWp.seq (rN (pS rfl (al (((a1.length : Nat) : Int)) rfl (pS rfl (al (((b2.length : Nat) : Int)) rfl (pB rfl (dn (cB h (fun h => ?_) (fun h => ?_))))))))))
  ·refine sN (pI rfl (dn (AWp.ret ?_)))
   subst h
   exact ⟨_, rfl, rfl⟩
  refine AWp.skip (AWp.seq (rN (pI rfl (dn (AWp.ret ?_)))))
  subst h
  exact ⟨_, rfl, rfl⟩
 refine AWp.skip (AWp.seq (AWp.seq (rN (pS rfl (al (((a1.length : Nat) : Int)) rfl ?_)))))
 obtain ⟨x10, ex10, h⟩ := h.get
 refine ai ex10 rfl (pI rfl (dn (AWp.block ?_)))
 obtain ⟨I121, x122, hz123, hr124⟩ := h
 refine AWp.loop (I := fun p : Int => mkSt [(0, .dat (.sl 100 1 (List.map (eInt .u32) a1))), (1, .dat (.sl 100 1 (List.map (eInt .u32) b2))), (5, .dat (.v (.int .i64 p)))] []) (Inv := fun p => I121 p) (μ := fun p => x122 p) (x0 := x10) hz123 sl (fun p hp => ?_)
 have h := hr124 p hp
 revert h; clear hp; generalize p = i94; intro h
 refine AWp.seq (AWp.seq (rN (pI rfl (pB rfl (dn (cB h (fun h => ?_) (fun h => ?_)))))))
 ·refine AWp.skip (AWp.seq (AWp.block (AWp.seq (AWp.seq (rD (pS rfl (pI rfl (kI h q1g rfl rfl rfl rfl rfl rfl rfl fun x109 h => ?_))))))))
  refine pI rfl (pS rfl (pI rfl (kI h q1g rfl rfl rfl rfl rfl rfl rfl fun x112 h => ?_)))
  refine pI rfl (pB rfl (dn (cB h (fun h => ?_) (fun h => ?_))))
  ·refine sN (pI rfl (dn (AWp.ret ?_)))
   subst h
   exact ⟨_, rfl, rfl⟩
  refine AWp.skip (AWp.seq (rD (pS rfl (pI rfl (kI h q1g rfl rfl rfl rfl rfl rfl rfl fun x115 h => ?_)))))
  refine pI rfl (pS rfl (pI rfl (kI h q1g rfl rfl rfl rfl rfl rfl rfl fun x118 h => ?_)))
  refine pI rfl (pB rfl (dn (cB h (fun h => ?_) (fun h => ?_))))
  ·refine sN (pI rfl (dn (AWp.ret ?_)))
   subst h
   exact ⟨_, rfl, rfl⟩
  refine AWp.skip (rN (pI rfl ?_))
  obtain ⟨x120, ex120, h⟩ := h.get
  refine ai ex120 rfl (pI rfl (dn ?_))
  exact ⟨x120, h.1, h.2, sl⟩
 refine AWp.exit ?_
 refine sN (pI rfl (dn (AWp.ret ?_)))
 subst h
 exact ⟨_, rfl, rfl⟩
def q9s (a1 : List Int) (b2 : List Int) (Q : List Int -> Prop) : Prop :=
 Loop2 a1 b2 (fun (a23 : List Int) (b24 : List Int) next25 =>
 Br (decide (((b24.length : Nat) : Int) > (0 : Int))) (
 Call (qAi a23 b24) fun x27 =>
 next25 b24 x27) (
 Q a23))
theorem qG1 {a1 : List Int} {b2 : List Int} {r : List Int} (h : q9s a1 b2 (fun r' => r' = r)) : q66 a1 b2 r := by
 unfold q9s at h
 refine intr (L := [(0, .dat (.sl 100 1 (List.map (eInt .u32) a1))), (1, .dat (.sl 100 1 (List.map (eInt .u32) b2)))]) Tryz.func97 Tryz.ntmps97 ?_
 refine sN (pS rfl (dn (AWp.seq (AWp.block ?_))))
 obtain ⟨I29, x30, hz31, hr32⟩ := h
 refine AWp.loop (I := fun p : (List Int) × (List Int) => mkSt [(0, .dat (.sl 100 1 (List.map (eInt .u32) p.1))), (1, .dat (.sl 100 1 (List.map (eInt .u32) p.2)))] []) (Inv := fun p => I29 p.1 p.2) (μ := fun p => x30 p.1 p.2) (x0 := ⟨a1, b2⟩) hz31 sl (fun p hp => ?_)
 obtain ⟨a23, b24⟩ := p
 have h := hr32 a23 b24 hp
 refine AWp.seq (AWp.seq (rN (pS rfl (al (((b24.length : Nat) : Int)) rfl (pB rfl (dn (cB h (fun h => ?_) (fun h => ?_))))))))
 ·refine AWp.skip (AWp.block (rN (pS rfl (pS rfl (pS rfl (kC h rfl ⟨.inl rfl, .inl rfl, trivial⟩ rfl fun x27 h => ?_))))))
  refine pS rfl (pS rfl (dn ?_))
  exact ⟨⟨b24, x27⟩, h.1, h.2, sl⟩
 refine AWp.exit ?_
 refine sN (pS rfl (pS rfl (dn (AWp.ret ?_))))
 subst h
 exact ⟨_, rfl, rfl⟩
def qCf (n1 : Int) (Q : List Int -> Prop) : Prop :=
 Br (decide (n1 < (0 : Int))) (
 Let (IntKind.u64.wrap n1) fun x6 =>
 Let (IntKind.u64.wrap ((0 : Int) - x6)) fun x7 =>
 Call (q2f x7) fun x8 =>
 Q x8) (
 Let (IntKind.u64.wrap n1) fun x10 =>
 Call (q2f x10) fun x11 =>
 Q x11)
theorem qIx {n1 : Int} {r : List Int} (h : qCf n1 (fun r' => r' = r)) : q4e n1 r := by
 unfold qCf at h
 refine intr (L := [(0, .dat (.v (.int .i64 n1)))]) Tryz.func130 Tryz.ntmps130 ?_
 refine sN (pS rfl (dn (AWp.seq (AWp.seq (rN (pI rfl (pB rfl (dn (cB h (fun h => ?_) (fun h => ?_))))))))))
 ·refine sN (pI rfl ?_)
  obtain ⟨x6, ex6, h⟩ := h.get
  refine ai ex6 rfl ?_
  obtain ⟨x7, ex7, h⟩ := h.get
  refine ai ex7 rfl (kC h rfl ⟨.inl rfl, trivial⟩ rfl fun x8 h => ?_)
  refine pS rfl (dn (AWp.ret ?_))
  subst h
  exact ⟨_, rfl, rfl⟩
 refine AWp.skip (AWp.seq (rN (pI rfl ?_)))
 obtain ⟨x10, ex10, h⟩ := h.get
 refine ai ex10 rfl (kC h rfl ⟨.inl rfl, trivial⟩ rfl fun x11 h => ?_)
 refine pS rfl (dn (AWp.ret ?_))
 subst h
 exact ⟨_, rfl, rfl⟩
def qE6 (Q : List Int -> Prop) : Prop :=
 Call (q2f (1 : Int)) fun x1 =>
 Q x1
theorem qJz {r : List Int} (h : qE6 (fun r' => r' = r)) : q5r r := by
 unfold qE6 at h
 refine intr (L := []) Tryz.func66 Tryz.ntmps66 ?_
 refine sN (pS rfl (dn (AWp.seq (rN (kC h rfl ⟨.inl rfl, trivial⟩ rfl fun x1 h => ?_)))))
 refine pS rfl (dn (AWp.ret ?_))
 subst h
 exact ⟨_, rfl, rfl⟩
def qCg (a1 : List Int) (b2 : List Int) (Q : List Int -> Prop) : Prop :=
 Call (q31 a1) fun x3 =>
 Call (q31 b2) fun x5 =>
 Let (IntKind.i64.wrap (x3 - x5)) fun x7 =>
 Loop2 a1 x7 (fun (a58 : List Int) (k59 : Int) next60 =>
 Br (decide (k59 >= (0 : Int))) (
 Call (q69 b2 k59) fun x61 =>
 Call (q7o x61 a58) fun x63 =>
 q16 (fun j68 =>
 Br (decide (x63 <= (0 : Int))) (
 Call (q8h a58 x61) fun x69 =>
 j68 x69) (
 j68 a58)
 ) (fun (a67 : List Int) =>
 Let (IntKind.i64.wrap (k59 - (1 : Int))) fun x71 =>
 next60 a67 x71)) (
 Q a58))
theorem qIy {a1 : List Int} {b2 : List Int} {r : List Int} (h : qCg a1 b2 (fun r' => r' = r)) : qAi a1 b2 r := by
 unfold qCg at h
 refine intr (L := [(0, .dat (.sl 100 1 (List.map (eInt .u32) a1))), (1, .dat (.sl 100 1 (List.map (eInt .u32) b2)))]) Tryz.func125 Tryz.ntmps125 ?_
 refine sN (pS rfl (dn (AWp.seq (rN (pS rfl (kC h rfl ⟨.inl rfl, trivial⟩ rfl fun x3 h => ?_))))))
 refine pS rfl (kC h rfl ⟨.inl rfl, trivial⟩ rfl fun x5 h => ?_)
 obtain ⟨x7, ex7, h⟩ := h.get
 refine ai ex7 rfl (pI rfl (dn (AWp.seq (AWp.block ?_))))
 obtain ⟨I74, x75, hz76, hr77⟩ := h
 refine AWp.loop (I := fun p : (List Int) × Int => mkSt [(0, .dat (.sl 100 1 (List.map (eInt .u32) p.1))), (1, .dat (.sl 100 1 (List.map (eInt .u32) b2))), (5, .dat (.v (.int .i64 p.2)))] []) (Inv := fun p => I74 p.1 p.2) (μ := fun p => x75 p.1 p.2) (x0 := ⟨a1, x7⟩) hz76 sl (fun p hp => ?_)
 obtain ⟨a58, k59⟩ := p
 have h := hr77 a58 k59 hp
 refine AWp.seq (AWp.seq (rN (pI rfl (pB rfl (dn (cB h (fun h => ?_) (fun h => ?_)))))))
 ·refine AWp.skip (AWp.block (AWp.seq (rN (pS rfl (pI rfl (kC h rfl ⟨.inl rfl, .inl rfl, trivial⟩ rfl fun x61 h => ?_))))))
  refine pS rfl (dn (AWp.seq (AWp.seq (rN (pS rfl (pS rfl (kC h rfl ⟨.inl rfl, .inl rfl, trivial⟩ rfl fun x63 h => ?_)))))))
  refine pB rfl (dn ?_)
  obtain ⟨J72, h, hk73⟩ := h
  refine AWp.cutK (I := fun p : (List Int) => mkSt [(0, .dat (.sl 100 1 (List.map (eInt .u32) p))), (1, .dat (.sl 100 1 (List.map (eInt .u32) b2))), (5, .dat (.v (.int .i64 k59)))] []) (Inv := fun p : (List Int) => J72 p) ?_ (fun p hp => ?_)
  ·refine cB h (fun h => ?_) (fun h => ?_)
   ·refine rN (pS rfl (pS rfl (kC h rfl ⟨.inl rfl, .inl rfl, trivial⟩ rfl fun x69 h => ?_)))
    refine pS rfl (dn ?_)
    exact ⟨x69, h, sl⟩
   refine AWp.skip ?_
   exact ⟨a58, h, sl⟩
  replace h := hk73 p hp
  revert h; clear hp; generalize p = a67; intro h
  refine rN (pI rfl ?_)
  obtain ⟨x71, ex71, h⟩ := h.get
  refine ai ex71 rfl (pI rfl (dn ?_))
  exact ⟨⟨a67, x71⟩, h.1, h.2, sl⟩
 refine AWp.exit ?_
 refine sN (pS rfl (pS rfl (dn (AWp.ret ?_))))
 subst h
 exact ⟨_, rfl, rfl⟩
def qG2 (n1 : Int) (Q : List Int -> Prop) : Prop :=
 Let (IntKind.u32.wrap n1) fun x2 =>
 Let (Int.fdiv n1 (2 ^ 32)) fun x3 =>
 Let (IntKind.u32.wrap x3) fun x4 =>
 Call (q2y ([x2, x4])) fun x5 =>
 Q x5
theorem qL7 {n1 : Int} {r : List Int} (h : qG2 n1 (fun r' => r' = r)) : q2f n1 r := by
 unfold qG2 at h
 refine intr (L := [(0, .dat (.v (.int .u64 n1)))]) Tryz.func62 Tryz.ntmps62 ?_
 refine sN (pS rfl (dn (AWp.seq (rN (pI rfl ?_)))))
 obtain ⟨x2, ex2, h⟩ := h.get
 refine ai ex2 rfl (pI rfl ?_)
 obtain ⟨x3, ex3, h⟩ := h.get
 refine AOps.q rfl rfl rfl rfl rfl (q4a (by decide)) ex3 ?_
 obtain ⟨x4, ex4, h⟩ := h.get
 refine ai ex4 rfl ?_
 refine AOps.lit q01 (ys := [.v (.int .u32 x2), .v (.int .u32 x4)]) rfl rfl rfl rfl rfl rfl ?_
 refine kC h rfl ⟨.inl rfl, trivial⟩ rfl fun x5 h => pS rfl ?_
 subst h; exact dn (AWp.ret ⟨_, rfl, rfl⟩)
def qCh (a1 : List Int) (b2 : List Int) (Q : List Int -> Prop) : Prop :=
 qKr ([] : List Int) (0 : Int) (0 : Int) (fun (out242 : List Int) (carry243 : Int) (i244 : Int) next245 =>
 q16 (fun j249 =>
 Br (decide (i244 < ((a1.length : Nat) : Int))) (j249 true) (
 j249 (decide (i244 < ((b2.length : Nat) : Int))))
 ) (fun (x248 : Bool) =>
 Br x248 (
 q16 (fun j292 =>
 Br (decide (i244 < ((a1.length : Nat) : Int))) (
 At a1 i244 fun x294 =>
 Let (IntKind.u64.wrap x294) fun x296 =>
 Let (IntKind.u64.wrap (carry243 + x296)) fun x297 =>
 j292 x297) (
 j292 carry243)
 ) (fun (carry291 : Int) =>
 q16 (fun j305 =>
 Br (decide (i244 < ((b2.length : Nat) : Int))) (
 At b2 i244 fun x307 =>
 Let (IntKind.u64.wrap x307) fun x309 =>
 Let (IntKind.u64.wrap (carry291 + x309)) fun x310 =>
 j305 x310) (
 j305 carry291)
 ) (fun (carry304 : Int) =>
 Let (IntKind.u32.wrap carry304) fun x311 =>
 App 4 out242 ([x311]) fun x312 =>
 Let (Int.fdiv carry304 (2 ^ 32)) fun x313 =>
 Let (IntKind.i64.wrap (i244 + (1 : Int))) fun x314 =>
 next245 x312 x313 x314))) (
 Let (IntKind.u32.wrap carry243) fun x319 =>
 App 4 out242 ([x319]) fun x320 =>
 Call (q2y x320) fun x321 =>
 Q x321)))
theorem qIz {a1 : List Int} {b2 : List Int} {r : List Int} (h : qCh a1 b2 (fun r' => r' = r)) : q8g a1 b2 r := by
 unfold qCh at h
 refine intr (L := [(0, .dat (.sl 100 1 (List.map (eInt .u32) a1))), (1, .dat (.sl 100 1 (List.map (eInt .u32) b2)))]) Tryz.func95 Tryz.ntmps95 ?_
 refine sN (pS rfl (dn (AWp.seq (rN ?_))))
 refine AOps.litown q01 (ys := []) rfl rfl rfl rfl rfl rfl rfl rfl ?_
 refine pO rfl (dn (AWp.seq (rN (pI rfl (dn (AWp.seq (AWp.seq (rN (pI rfl (dn (AWp.block ?_)))))))))))
 obtain ⟨I325, x326, hz327, hr328⟩ := h
 refine AWp.loop (I := fun p : (List Int) × Int × Int => mkSt [(0, .dat (.sl 100 1 (List.map (eInt .u32) a1))), (1, .dat (.sl 100 1 (List.map (eInt .u32) b2))), (5, .oref 1005), (6, .dat (.v (.int .u64 p.2.1))), (7, .dat (.v (.int .i64 p.2.2)))] [(1005, .row 100 1 (List.map (eInt .u32) p.1))]) (Inv := fun p => I325 p.1 p.2.1 p.2.2) (μ := fun p => x326 p.1 p.2.1 p.2.2) (x0 := ⟨([] : List Int), (0 : Int), (0 : Int)⟩) hz327 (slf (fun i => (if Nat.beq i 1005 then 8 else i))) (fun p hp => ?_)
 obtain ⟨out242, carry243, i244⟩ := p
 have h := hr328 out242 carry243 i244 hp
 refine AWp.seq (AWp.seq ?_)
 obtain ⟨J323, h, hk324⟩ := h
 refine AWp.cutK (I := fun p : Bool => mkSt [(0, .dat (.sl 100 1 (List.map (eInt .u32) a1))), (1, .dat (.sl 100 1 (List.map (eInt .u32) b2))), (5, .oref 1005), (6, .dat (.v (.int .u64 carry243))), (7, .dat (.v (.int .i64 i244))), (18, .dat (.v (.bool p)))] [(1005, .row 100 1 (List.map (eInt .u32) out242))]) (Inv := fun p : Bool => J323 p) ?_ (fun p hp => ?_)
 ·refine rN (pI rfl (pS rfl (al (((a1.length : Nat) : Int)) rfl (pB rfl (pB rfl (sB 13 h (fun h => ?_) (fun h => ?_)))))))
  ·refine fo 4 rfl (pB rfl (dn ?_))
   exact ⟨true, h, sl⟩
  refine pI rfl (pS rfl (al (((b2.length : Nat) : Int)) rfl (pB rfl (pB rfl (dn ?_)))))
  exact ⟨(decide (i244 < ((b2.length : Nat) : Int))), h, sl⟩
 replace h := hk324 p hp
 revert h; clear hp; generalize p = x248; intro h
 refine cB h (fun h => ?_) (fun h => ?_)
 ·refine AWp.skip (AWp.seq (AWp.block (AWp.seq (AWp.seq (rN (pI rfl (pS rfl (al (((a1.length : Nat) : Int)) rfl (pB rfl (dn ?_))))))))))
  obtain ⟨J317, h, hk318⟩ := h
  refine AWp.cutK (I := fun p : Int => mkSt [(0, .dat (.sl 100 1 (List.map (eInt .u32) a1))), (1, .dat (.sl 100 1 (List.map (eInt .u32) b2))), (5, .oref 1005), (6, .dat (.v (.int .u64 p))), (7, .dat (.v (.int .i64 i244)))] [(1005, .row 100 1 (List.map (eInt .u32) out242))]) (Inv := fun p : Int => J317 p) ?_ (fun p hp => ?_)
  ·refine cB h (fun h => ?_) (fun h => ?_)
   ·refine rN (pI rfl (pS rfl (pI rfl (kI h q1g rfl rfl rfl rfl rfl rfl rfl fun x294 h => ?_))))
    refine pI rfl ?_
    obtain ⟨x296, ex296, h⟩ := h.get
    refine ai ex296 rfl ?_
    obtain ⟨x297, ex297, h⟩ := h.get
    refine ai ex297 rfl (pI rfl (dn ?_))
    exact ⟨x297, h, sl⟩
   refine AWp.skip ?_
   exact ⟨carry243, h, sl⟩
  replace h := hk318 p hp
  revert h; clear hp; generalize p = carry291; intro h
  refine AWp.seq (AWp.seq (rN (pI rfl (pS rfl (al (((b2.length : Nat) : Int)) rfl (pB rfl (dn ?_)))))))
  obtain ⟨J315, h, hk316⟩ := h
  refine AWp.cutK (I := fun p : Int => mkSt [(0, .dat (.sl 100 1 (List.map (eInt .u32) a1))), (1, .dat (.sl 100 1 (List.map (eInt .u32) b2))), (5, .oref 1005), (6, .dat (.v (.int .u64 p))), (7, .dat (.v (.int .i64 i244)))] [(1005, .row 100 1 (List.map (eInt .u32) out242))]) (Inv := fun p : Int => J315 p) ?_ (fun p hp => ?_)
  ·refine cB h (fun h => ?_) (fun h => ?_)
   ·refine rN (pI rfl (pS rfl (pI rfl (kI h q1g rfl rfl rfl rfl rfl rfl rfl fun x307 h => ?_))))
    refine pI rfl ?_
    obtain ⟨x309, ex309, h⟩ := h.get
    refine ai ex309 rfl ?_
    obtain ⟨x310, ex310, h⟩ := h.get
    refine ai ex310 rfl (pI rfl (dn ?_))
    exact ⟨x310, h, sl⟩
   refine AWp.skip ?_
   exact ⟨carry291, h, sl⟩
  replace h := hk316 p hp
  revert h; clear hp; generalize p = carry304; intro h
  refine sW (pO rfl (pI rfl ?_))
  obtain ⟨x311, ex311, h⟩ := h.get
  refine ai ex311 rfl ?_
  refine AOps.lit q01 (ys := [.v (.int .u32 x311)]) rfl rfl rfl rfl rfl rfl ?_
  obtain ⟨h1, h2, x312, ex312, h⟩ := h.get
  refine AOps.append q01 rfl rfl rfl rfl rfl rfl rfl rfl rfl rfl rfl (.inl ⟨_, rfl⟩) (app1 h1) (app2 h2) (app3 ex312) ?_
  refine pO rfl (dn (rN (pI rfl ?_)))
  obtain ⟨x313, ex313, h⟩ := h.get
  refine AOps.q rfl rfl rfl rfl rfl (q4a (by decide)) ex313 ?_
  refine pI rfl (dn (rN (pI rfl ?_)))
  obtain ⟨x314, ex314, h⟩ := h.get
  refine ai ex314 rfl (pI rfl (dn ?_))
  exact ⟨⟨x312, x313, x314⟩, h.1, h.2, (slf (fun i => (if Nat.beq i 1005 then 47 else i)))⟩
 refine AWp.exit ?_
 refine sW (pO rfl (pI rfl ?_))
 obtain ⟨x319, ex319, h⟩ := h.get
 refine ai ex319 rfl ?_
 refine AOps.lit q01 (ys := [.v (.int .u32 x319)]) rfl rfl rfl rfl rfl rfl ?_
 obtain ⟨h1, h2, x320, ex320, h⟩ := h.get
 refine AOps.append q01 rfl rfl rfl rfl rfl rfl rfl rfl rfl rfl rfl (.inl ⟨_, rfl⟩) (app1 h1) (app2 h2) (app3 ex320) ?_
 refine pO rfl (dn (AWp.seq ?_))
 refine AWp.freeze 5 54 rfl rfl ?_
 refine rN (pS rfl (kC h rfl ⟨.inl rfl, trivial⟩ rfl fun x321 h => ?_))
 refine pS rfl (dn (AWp.ret ?_))
 subst h
 exact ⟨_, rfl, rfl⟩
def qCi (a1 : List Int) (b2 : List Int) (Q : List Int -> Prop) : Prop :=
 qKr ([] : List Int) (0 : Int) (0 : Int) (fun (out197 : List Int) (borrow198 : Int) (i199 : Int) next200 =>
 Br (decide (i199 < ((a1.length : Nat) : Int))) (
 At a1 i199 fun x232 =>
 Let (IntKind.i64.wrap x232) fun x234 =>
 Let (IntKind.i64.wrap (x234 - borrow198)) fun x235 =>
 q16 (fun j243 =>
 Br (decide (i199 < ((b2.length : Nat) : Int))) (
 At b2 i199 fun x245 =>
 Let (IntKind.i64.wrap x245) fun x247 =>
 Let (IntKind.i64.wrap (x235 - x247)) fun x248 =>
 j243 x248) (
 j243 x235)
 ) (fun (n242 : Int) =>
 q3r (fun j252 =>
 Br (decide (n242 < (0 : Int))) (
 Let (IntKind.i64.wrap (n242 + (4294967296 : Int))) fun x253 =>
 j252 (1 : Int) x253) (
 j252 (0 : Int) n242)
 ) (fun (borrow250 : Int) (n251 : Int) =>
 Let (IntKind.u32.wrap n251) fun x254 =>
 App 4 out197 ([x254]) fun x255 =>
 Let (IntKind.i64.wrap (i199 + (1 : Int))) fun x256 =>
 next200 x255 borrow250 x256))) (
 Call (q2y out197) fun x261 =>
 Q x261))
theorem qJ0 {a1 : List Int} {b2 : List Int} {r : List Int} (h : qCi a1 b2 (fun r' => r' = r)) : q8h a1 b2 r := by
 unfold qCi at h
 refine intr (L := [(0, .dat (.sl 100 1 (List.map (eInt .u32) a1))), (1, .dat (.sl 100 1 (List.map (eInt .u32) b2)))]) Tryz.func129 Tryz.ntmps129 ?_
 refine sN (pS rfl (dn (AWp.seq (rN ?_))))
 refine AOps.litown q01 (ys := []) rfl rfl rfl rfl rfl rfl rfl rfl ?_
 refine pO rfl (dn (AWp.seq (rN (pI rfl (dn (AWp.seq (AWp.seq (rN (pI rfl (dn (AWp.block ?_)))))))))))
 obtain ⟨I263, x264, hz265, hr266⟩ := h
 refine AWp.loop (I := fun p : (List Int) × Int × Int => mkSt [(0, .dat (.sl 100 1 (List.map (eInt .u32) a1))), (1, .dat (.sl 100 1 (List.map (eInt .u32) b2))), (5, .oref 1005), (6, .dat (.v (.int .i64 p.2.1))), (7, .dat (.v (.int .i64 p.2.2)))] [(1005, .row 100 1 (List.map (eInt .u32) p.1))]) (Inv := fun p => I263 p.1 p.2.1 p.2.2) (μ := fun p => x264 p.1 p.2.1 p.2.2) (x0 := ⟨([] : List Int), (0 : Int), (0 : Int)⟩) hz265 (slf (fun i => (if Nat.beq i 1005 then 9 else i))) (fun p hp => ?_)
 obtain ⟨out197, borrow198, i199⟩ := p
 have h := hr266 out197 borrow198 i199 hp
 refine AWp.seq (AWp.seq (rN (pI rfl (pS rfl (al (((a1.length : Nat) : Int)) rfl (pB rfl (dn (cB h (fun h => ?_) (fun h => ?_)))))))))
 ·refine AWp.skip (AWp.seq (AWp.block (AWp.seq (rN (pS rfl (pI rfl (kI h q1g rfl rfl rfl rfl rfl rfl rfl fun x232 h => ?_)))))))
  refine pI rfl ?_
  obtain ⟨x234, ex234, h⟩ := h.get
  refine ai ex234 rfl (pI rfl ?_)
  obtain ⟨x235, ex235, h⟩ := h.get
  refine ai ex235 rfl (pI rfl (dn (AWp.seq (AWp.seq (rN (pI rfl (pS rfl (al (((b2.length : Nat) : Int)) rfl (pB rfl (dn ?_))))))))))
  obtain ⟨J259, h, hk260⟩ := h
  refine AWp.cutK (I := fun p : Int => mkSt [(0, .dat (.sl 100 1 (List.map (eInt .u32) a1))), (1, .dat (.sl 100 1 (List.map (eInt .u32) b2))), (5, .oref 1005), (7, .dat (.v (.int .i64 i199))), (8, .dat (.v (.int .i64 p)))] [(1005, .row 100 1 (List.map (eInt .u32) out197))]) (Inv := fun p : Int => J259 p) ?_ (fun p hp => ?_)
  ·refine cB h (fun h => ?_) (fun h => ?_)
   ·refine rN (pI rfl (pS rfl (pI rfl (kI h q1g rfl rfl rfl rfl rfl rfl rfl fun x245 h => ?_))))
    refine pI rfl ?_
    obtain ⟨x247, ex247, h⟩ := h.get
    refine ai ex247 rfl ?_
    obtain ⟨x248, ex248, h⟩ := h.get
    refine ai ex248 rfl (pI rfl (dn ?_))
    exact ⟨x248, h, sl⟩
   refine AWp.skip ?_
   exact ⟨x235, h, sl⟩
  replace h := hk260 p hp
  revert h; clear hp; generalize p = n242; intro h
  refine sN (pI rfl (dn (AWp.seq (AWp.seq (rN (pI rfl (pB rfl (dn ?_))))))))
  obtain ⟨J257, h, hk258⟩ := h
  refine AWp.cutK (I := fun p : Int × Int => mkSt [(0, .dat (.sl 100 1 (List.map (eInt .u32) a1))), (1, .dat (.sl 100 1 (List.map (eInt .u32) b2))), (5, .oref 1005), (6, .dat (.v (.int .i64 p.1))), (7, .dat (.v (.int .i64 i199))), (8, .dat (.v (.int .i64 p.2)))] [(1005, .row 100 1 (List.map (eInt .u32) out197))]) (Inv := fun p : Int × Int => J257 p.1 p.2) ?_ (fun p hp => ?_)
  ·refine cB h (fun h => ?_) (fun h => ?_)
   ·refine sN (pI rfl ?_)
    obtain ⟨x253, ex253, h⟩ := h.get
    refine ai ex253 rfl (pI rfl (dn (rN (pI rfl (dn ?_)))))
    exact ⟨⟨(1 : Int), x253⟩, h, sl⟩
   refine AWp.skip ?_
   exact ⟨⟨(0 : Int), n242⟩, h, sl⟩
  obtain ⟨borrow250, n251⟩ := p
  replace h := hk258 borrow250 n251 hp
  refine rW (pO rfl (pI rfl ?_))
  obtain ⟨x254, ex254, h⟩ := h.get
  refine ai ex254 rfl ?_
  refine AOps.lit q01 (ys := [.v (.int .u32 x254)]) rfl rfl rfl rfl rfl rfl ?_
  obtain ⟨h1, h2, x255, ex255, h⟩ := h.get
  refine AOps.append q01 rfl rfl rfl rfl rfl rfl rfl rfl rfl rfl rfl (.inl ⟨_, rfl⟩) (app1 h1) (app2 h2) (app3 ex255) ?_
  refine pO rfl (dn (rN (pI rfl ?_)))
  obtain ⟨x256, ex256, h⟩ := h.get
  refine ai ex256 rfl (pI rfl (dn ?_))
  exact ⟨⟨x255, borrow250, x256⟩, h.1, h.2, (slf (fun i => (if Nat.beq i 1005 then 42 else i)))⟩
 refine AWp.exit ?_
 refine AWp.seq ?_
 refine AWp.freeze 5 1005 rfl rfl ?_
 refine rN (pS rfl (kC h rfl ⟨.inl rfl, trivial⟩ rfl fun x261 h => ?_))
 refine pS rfl (dn (AWp.ret ?_))
 subst h
 exact ⟨_, rfl, rfl⟩
def qG3 (x1 : List Int) (x2 : List Int) (Q : List Int -> Prop) : Prop :=
 Let (IntKind.i64.wrap (((x1.length : Nat) : Int) + ((x2.length : Nat) : Int))) fun x5 =>
 Let (IntKind.i64.wrap (x5 + (1 : Int))) fun x6 =>
 Mk 4 x6 (0 : Int) fun x7 =>
 Loop2 x7 (0 : Int) (fun (x1297 : List Int) (x1298 : Int) next1299 =>
 Br (decide (x1298 < ((x1.length : Nat) : Int))) (
 qKr x1297 (0 : Int) (0 : Int) (fun (x1665 : List Int) (x1666 : Int) (x1667 : Int) next1668 =>
 Br (decide (x1667 < ((x2.length : Nat) : Int))) (
 At x1 x1298 fun x1693 =>
 Let (IntKind.u64.wrap x1693) fun x1695 =>
 At x2 x1667 fun x1697 =>
 Let (IntKind.u64.wrap x1697) fun x1699 =>
 Let (IntKind.u64.wrap (x1695 * x1699)) fun x1700 =>
 Let (IntKind.i64.wrap (x1298 + x1667)) fun x1701 =>
 At x1665 x1701 fun x1703 =>
 Let (IntKind.u64.wrap x1703) fun x1705 =>
 Let (IntKind.u64.wrap (x1700 + x1705)) fun x1706 =>
 Let (IntKind.u64.wrap (x1706 + x1666)) fun x1707 =>
 Let (IntKind.i64.wrap (x1298 + x1667)) fun x1708 =>
 Let (IntKind.u32.wrap x1707) fun x1709 =>
 At x1665 x1708 fun x1711 =>
 Let (Int.fdiv x1707 (2 ^ 32)) fun x1713 =>
 Let (IntKind.i64.wrap (x1667 + (1 : Int))) fun x1714 =>
 next1668 (List.set x1665 (Int.toNat x1708) x1709) x1713 x1714) (
 Let (IntKind.i64.wrap (x1298 + ((x2.length : Nat) : Int))) fun x1716 =>
 Let (IntKind.u32.wrap x1666) fun x1717 =>
 At x1665 x1716 fun x1719 =>
 Let (IntKind.i64.wrap (x1298 + (1 : Int))) fun x1721 =>
 next1299 (List.set x1665 (Int.toNat x1716) x1717) x1721))) (
 Call (q2y x1297) fun x1726 =>
 Q x1726))
theorem qL8 {x1 : List Int} {x2 : List Int} {r : List Int} (h : qG3 x1 x2 (fun r' => r' = r)) : q76 x1 x2 r := by
 unfold qG3 at h
 refine intr (L := [(0, .dat (.sl 100 1 (List.map (eInt .u32) x1))), (1, .dat (.sl 100 1 (List.map (eInt .u32) x2)))]) Tryz.func64 Tryz.ntmps64 ?_
 refine sN (pS rfl (dn (AWp.seq (rN (pS rfl (al (((x1.length : Nat) : Int)) rfl (pS rfl (al (((x2.length : Nat) : Int)) rfl ?_))))))))
 obtain ⟨x5, ex5, h⟩ := h.get
 refine ai ex5 rfl ?_
 obtain ⟨x6, ex6, h⟩ := h.get
 refine ai ex6 rfl ?_
 obtain ⟨h1, h2, h3, x7, ex7, h⟩ := h.get
 refine AOps.makeownE q01 (e := (eInt .u32)) rfl rfl rfl rfl rfl rfl rfl h1 h2 h3 rfl ex7 ?_
 refine pO rfl (dn (AWp.seq (AWp.seq (rN (pI rfl (dn (AWp.block ?_)))))))
 obtain ⟨I1728, x1729, hz1730, hr1731⟩ := h
 refine AWp.loop (I := fun p : (List Int) × Int => mkSt [(0, .dat (.sl 100 1 (List.map (eInt .u32) x1))), (1, .dat (.sl 100 1 (List.map (eInt .u32) x2))), (5, .oref 1005), (6, .dat (.v (.int .i64 p.2)))] [(1005, .row 100 1 (List.map (eInt .u32) p.1))]) (Inv := fun p => I1728 p.1 p.2) (μ := fun p => x1729 p.1 p.2) (x0 := ⟨x7, (0 : Int)⟩) hz1730 (slf (fun i => (if Nat.beq i 1005 then 16 else i))) (fun p hp => ?_)
 obtain ⟨x1297, x1298⟩ := p
 have h := hr1731 x1297 x1298 hp
 refine AWp.seq (AWp.seq (rN (pI rfl (pS rfl (al (((x1.length : Nat) : Int)) rfl (pB rfl (dn (cB h (fun h => ?_) (fun h => ?_)))))))))
 ·refine AWp.skip (AWp.seq (AWp.block (AWp.seq (rN (pI rfl (dn (AWp.seq (AWp.seq (rN (pI rfl (dn (AWp.block ?_))))))))))))
  obtain ⟨I1722, x1723, hz1724, hr1725⟩ := h
  refine AWp.loop (I := fun p : (List Int) × Int × Int => mkSt [(0, .dat (.sl 100 1 (List.map (eInt .u32) x1))), (1, .dat (.sl 100 1 (List.map (eInt .u32) x2))), (5, .oref 1005), (6, .dat (.v (.int .i64 x1298))), (7, .dat (.v (.int .u64 p.2.1))), (8, .dat (.v (.int .i64 p.2.2)))] [(1005, .row 100 1 (List.map (eInt .u32) p.1))]) (Inv := fun p => I1722 p.1 p.2.1 p.2.2) (μ := fun p => x1723 p.1 p.2.1 p.2.2) (x0 := ⟨x1297, (0 : Int), (0 : Int)⟩) hz1724 sl (fun p hp => ?_)
  obtain ⟨x1665, x1666, x1667⟩ := p
  have h := hr1725 x1665 x1666 x1667 hp
  refine AWp.seq (AWp.seq (rN (pI rfl (pS rfl (al (((x2.length : Nat) : Int)) rfl (pB rfl (dn (cB h (fun h => ?_) (fun h => ?_)))))))))
  ·refine AWp.skip (AWp.seq (AWp.block (AWp.seq (rD (pS rfl (pI rfl (kI h q1g rfl rfl rfl rfl rfl rfl rfl fun x1693 h => ?_)))))))
   refine pI rfl ?_
   obtain ⟨x1695, ex1695, h⟩ := h.get
   refine ai ex1695 rfl (pS rfl (pI rfl (kI h q1g rfl rfl rfl rfl rfl rfl rfl fun x1697 h => ?_)))
   refine pI rfl ?_
   obtain ⟨x1699, ex1699, h⟩ := h.get
   refine ai ex1699 rfl ?_
   obtain ⟨x1700, ex1700, h⟩ := h.get
   refine ai ex1700 rfl (pO rfl (pI rfl (pI rfl ?_)))
   obtain ⟨x1701, ex1701, h⟩ := h.get
   refine ai ex1701 rfl ?_
   obtain ⟨hi1702, x1703, hx1704, h⟩ := h
   refine AOps.idxown q01 rfl rfl rfl rfl rfl rfl rfl rfl hi1702 (qOg hi1702 hx1704) rfl ?_
   refine AOps.loadrow q01 rfl rfl rfl rfl rfl rfl rfl (q1g hx1704) rfl ?_
   obtain ⟨x1705, ex1705, h⟩ := h.get
   refine ai ex1705 rfl ?_
   obtain ⟨x1706, ex1706, h⟩ := h.get
   refine ai ex1706 rfl (pI rfl ?_)
   obtain ⟨x1707, ex1707, h⟩ := h.get
   refine ai ex1707 rfl (pI rfl (dn (AWp.seq (rW (pO rfl (pI rfl (pI rfl ?_)))))))
   obtain ⟨x1708, ex1708, h⟩ := h.get
   refine ai ex1708 rfl (pI rfl ?_)
   obtain ⟨x1709, ex1709, h⟩ := h.get
   refine ai ex1709 rfl ?_
   obtain ⟨hi1710, x1711, hx1712, h⟩ := h
   refine AOps.idxown q01 rfl rfl rfl rfl rfl rfl rfl rfl hi1710 (qOg hi1710 hx1712) rfl ?_
   refine AOps.storerow q01 rfl rfl rfl rfl rfl rfl rfl rfl (qN9 hx1712) rfl rfl rfl (qKs (e := (eInt .u32)) (x := x1709)) ?_
   refine dn (rN (pI rfl ?_))
   obtain ⟨x1713, ex1713, h⟩ := h.get
   refine AOps.q rfl rfl rfl rfl rfl (q4a (by decide)) ex1713 ?_
   refine pI rfl (dn (rN (pI rfl ?_)))
   obtain ⟨x1714, ex1714, h⟩ := h.get
   refine ai ex1714 rfl (pI rfl (dn ?_))
   exact ⟨⟨(List.set x1665 (Int.toNat x1708) x1709), x1713, x1714⟩, h.1, h.2, sl⟩
  refine AWp.exit ?_
  refine rW (pO rfl (pI rfl (pS rfl (al (((x2.length : Nat) : Int)) rfl ?_))))
  obtain ⟨x1716, ex1716, h⟩ := h.get
  refine ai ex1716 rfl (pI rfl ?_)
  obtain ⟨x1717, ex1717, h⟩ := h.get
  refine ai ex1717 rfl ?_
  obtain ⟨hi1718, x1719, hx1720, h⟩ := h
  refine AOps.idxown q01 rfl rfl rfl rfl rfl rfl rfl rfl hi1718 (qOg hi1718 hx1720) rfl ?_
  refine AOps.storerow q01 rfl rfl rfl rfl rfl rfl rfl rfl (qN9 hx1720) rfl rfl rfl (qKs (e := (eInt .u32)) (x := x1717)) ?_
  refine dn (rN (pI rfl ?_))
  obtain ⟨x1721, ex1721, h⟩ := h.get
  refine ai ex1721 rfl (pI rfl (dn ?_))
  exact ⟨⟨(List.set x1665 (Int.toNat x1716) x1717), x1721⟩, h.1, h.2, sl⟩
 refine AWp.exit ?_
 refine AWp.seq ?_
 refine AWp.freeze 5 1005 rfl rfl ?_
 refine rN (pS rfl (kC h rfl ⟨.inl rfl, trivial⟩ rfl fun x1726 h => ?_))
 refine pS rfl (dn (AWp.ret ?_))
 subst h
 exact ⟨_, rfl, rfl⟩
def qCj (a1 : List Int) (Q : Int -> Prop) : Prop :=
 Br (((a1.length : Nat) : Int) == (0 : Int)) (Q (0 : Int)) (
 Let (IntKind.i64.wrap (((a1.length : Nat) : Int) - (1 : Int))) fun x4 =>
 Let (IntKind.i64.wrap ((32 : Int) * x4)) fun x5 =>
 Let (IntKind.i64.wrap (((a1.length : Nat) : Int) - (1 : Int))) fun x7 =>
 At a1 x7 fun x9 =>
 Loop2 x5 x9 (fun (n31 : Int) (d32 : Int) next33 =>
 Br (decide (d32 > (0 : Int))) (
 Let (IntKind.i64.wrap (n31 + (1 : Int))) fun x35 =>
 Let (Int.fdiv d32 (2 ^ 1)) fun x36 =>
 next33 x35 x36) (
 Q n31)))
theorem qJ1 {a1 : List Int} {r : Int} (h : qCj a1 (fun r' => r' = r)) : q31 a1 r := by
 unfold qCj at h
 refine intr (L := [(0, .dat (.sl 100 1 (List.map (eInt .u32) a1)))]) Tryz.func126 Tryz.ntmps126 ?_
 refine sN (pI rfl (dn (AWp.seq (AWp.seq (rN (pS rfl (al (((a1.length : Nat) : Int)) rfl (pB rfl (dn (cB h (fun h => ?_) (fun h => ?_)))))))))))
 ·refine sN (pI rfl (dn (AWp.ret ?_)))
  subst h
  exact ⟨_, rfl, rfl⟩
 refine AWp.skip (AWp.seq (rN (pS rfl (al (((a1.length : Nat) : Int)) rfl ?_))))
 obtain ⟨x4, ex4, h⟩ := h.get
 refine ai ex4 rfl ?_
 obtain ⟨x5, ex5, h⟩ := h.get
 refine ai ex5 rfl (pI rfl (dn (AWp.seq (AWp.seq (rN (pS rfl (pS rfl (al (((a1.length : Nat) : Int)) rfl ?_))))))))
 obtain ⟨x7, ex7, h⟩ := h.get
 refine ai ex7 rfl (kI h q1g rfl rfl rfl rfl rfl rfl rfl fun x9 h => ?_)
 refine pI rfl (pI rfl (dn (AWp.block ?_)))
 obtain ⟨I37, x38, hz39, hr40⟩ := h
 refine AWp.loop (I := fun p : Int × Int => mkSt [(3, .dat (.v (.int .i64 p.1))), (4, .dat (.v (.int .u32 p.2)))] []) (Inv := fun p => I37 p.1 p.2) (μ := fun p => x38 p.1 p.2) (x0 := ⟨x5, x9⟩) hz39 sl (fun p hp => ?_)
 obtain ⟨n31, d32⟩ := p
 have h := hr40 n31 d32 hp
 refine AWp.seq (AWp.seq (rN (pI rfl (pB rfl (dn (cB h (fun h => ?_) (fun h => ?_)))))))
 ·refine AWp.skip (AWp.seq (AWp.block (rN (pI rfl ?_))))
  obtain ⟨x35, ex35, h⟩ := h.get
  refine ai ex35 rfl (pI rfl (dn (rN (pI rfl ?_))))
  obtain ⟨x36, ex36, h⟩ := h.get
  refine AOps.q rfl rfl rfl rfl rfl (q4a (by decide)) ex36 ?_
  refine pI rfl (dn ?_)
  exact ⟨⟨x35, x36⟩, h.1, h.2, sl⟩
 refine AWp.exit ?_
 refine sN (pI rfl (pI rfl (dn (AWp.ret ?_))))
 subst h
 exact ⟨_, rfl, rfl⟩
def qCk (a1 : List Int) (n2 : Int) (Q : List Int -> Prop) : Prop :=
 Br (((a1.length : Nat) : Int) == (0 : Int)) (Q a1) (
 Let (IntKind.i64.wrap (Int.tdiv n2 (32 : Int))) fun x4 =>
 Mk 4 x4 (0 : Int) fun x5 =>
 qKr x5 (0 : Int) (0 : Int) (fun (out90 : List Int) (carry91 : Int) (x92 : Int) next93 =>
 Br (decide (x92 < ((a1.length : Nat) : Int))) (
 At a1 x92 fun x106 =>
 Let (IntKind.u64.wrap x106) fun x108 =>
 Let (Int.tmod n2 (32 : Int)) fun x109 =>
 Let (IntKind.u64.wrap x109) fun x110 =>
 Nn x110 <|
 Let (IntKind.u64.wrap (x108 * 2 ^ (min (Int.toNat x110) 64))) fun x111 =>
 Let (bits .or .u64 carry91 x111) fun x112 =>
 Let (IntKind.u32.wrap x112) fun x113 =>
 App 4 out90 ([x113]) fun x114 =>
 Let (Int.fdiv x112 (2 ^ 32)) fun x115 =>
 Let (IntKind.i64.wrap (x92 + (1 : Int))) fun x116 =>
 next93 x114 x115 x116) (
 Let (IntKind.u32.wrap carry91) fun x117 =>
 App 4 out90 ([x117]) fun x118 =>
 Call (q2y x118) fun x119 =>
 Q x119)))
theorem qJ2 {a1 : List Int} {n2 : Int} {r : List Int} (h : qCk a1 n2 (fun r' => r' = r)) : q69 a1 n2 r := by
 unfold qCk at h
 refine intr (L := [(0, .dat (.sl 100 1 (List.map (eInt .u32) a1))), (1, .dat (.v (.int .i64 n2)))]) Tryz.func127 Tryz.ntmps127 ?_
 refine sN (pS rfl (dn (AWp.seq (AWp.seq (rN (pS rfl (al (((a1.length : Nat) : Int)) rfl (pB rfl (dn (cB h (fun h => ?_) (fun h => ?_)))))))))))
 ·refine sN (pS rfl (pS rfl (dn (AWp.ret ?_))))
  subst h
  exact ⟨_, rfl, rfl⟩
 refine AWp.skip (AWp.seq (rN (pI rfl ?_)))
 obtain ⟨x4, ex4, h⟩ := h.get
 refine AOps.q rfl rfl rfl rfl rfl (qHe (by decide)) ex4 ?_
 obtain ⟨h1, h2, h3, x5, ex5, h⟩ := h.get
 refine AOps.makeownE q01 (e := (eInt .u32)) rfl rfl rfl rfl rfl rfl rfl h1 h2 h3 rfl ex5 ?_
 refine pO rfl (dn (AWp.seq (rN (pI rfl (dn (AWp.seq (AWp.seq (rN (pS rfl (al (((a1.length : Nat) : Int)) rfl (pI rfl (dn (AWp.block ?_)))))))))))))
 obtain ⟨I121, x122, hz123, hr124⟩ := h
 refine AWp.loop (I := fun p : (List Int) × Int × Int => mkSt [(1, .dat (.v (.int .i64 n2))), (5, .oref 1005), (6, .dat (.v (.int .u64 p.2.1))), (16, .dat (.sl 100 1 (List.map (eInt .u32) a1))), (17, .dat (.v (.int .i64 ((a1.length : Nat) : Int)))), (18, .dat (.v (.int .i64 p.2.2)))] [(1005, .row 100 1 (List.map (eInt .u32) p.1))]) (Inv := fun p => I121 p.1 p.2.1 p.2.2) (μ := fun p => x122 p.1 p.2.1 p.2.2) (x0 := ⟨x5, (0 : Int), (0 : Int)⟩) hz123 (slf (fun i => (if Nat.beq i 1005 then 15 else i))) (fun p hp => ?_)
 obtain ⟨out90, carry91, x92⟩ := p
 have h := hr124 out90 carry91 x92 hp
 refine sN (pW rfl (dn (AWp.seq (cB h (fun h => ?_) (fun h => ?_)))))
 ·refine AWp.skip (AWp.seq (AWp.block (AWp.seq (rN (kI h q1g rfl rfl rfl rfl rfl rfl rfl fun x106 h => ?_)))))
  refine pI rfl (pI rfl (dn (AWp.seq (rN (pI rfl (pI rfl ?_))))))
  obtain ⟨x108, ex108, h⟩ := h.get
  refine ai ex108 rfl (pI rfl ?_)
  obtain ⟨x109, ex109, h⟩ := h.get
  refine AOps.q rfl rfl rfl rfl rfl (qAe (by decide)) ex109 ?_
  obtain ⟨x110, ex110, h⟩ := h.get
  refine ai ex110 rfl ?_
  obtain ⟨hq, h⟩ := h
  obtain ⟨x111, ex111, h⟩ := h.get
  refine AOps.q rfl rfl rfl rfl rfl (qKq hq) ex111 ?_
  obtain ⟨x112, ex112, h⟩ := h.get
  refine ai ex112 rfl (pI rfl (dn (AWp.seq (rW (pO rfl (pI rfl ?_))))))
  obtain ⟨x113, ex113, h⟩ := h.get
  refine ai ex113 rfl ?_
  refine AOps.lit q01 (ys := [.v (.int .u32 x113)]) rfl rfl rfl rfl rfl rfl ?_
  obtain ⟨h1, h2, x114, ex114, h⟩ := h.get
  refine AOps.append q01 rfl rfl rfl rfl rfl rfl rfl rfl rfl rfl rfl (.inl ⟨_, rfl⟩) (app1 h1) (app2 h2) (app3 ex114) ?_
  refine pO rfl (dn (rN (pI rfl ?_)))
  obtain ⟨x115, ex115, h⟩ := h.get
  refine AOps.q rfl rfl rfl rfl rfl (q4a (by decide)) ex115 ?_
  refine pI rfl (dn (rN ?_))
  obtain ⟨x116, ex116, h⟩ := h.get
  refine ai ex116 rfl (pI rfl (dn ?_))
  exact ⟨⟨x114, x115, x116⟩, h.1, h.2, (slf (fun i => (if Nat.beq i 1005 then 34 else i)))⟩
 refine AWp.exit ?_
 refine sW (pO rfl (pI rfl ?_))
 obtain ⟨x117, ex117, h⟩ := h.get
 refine ai ex117 rfl ?_
 refine AOps.lit q01 (ys := [.v (.int .u32 x117)]) rfl rfl rfl rfl rfl rfl ?_
 obtain ⟨h1, h2, x118, ex118, h⟩ := h.get
 refine AOps.append q01 rfl rfl rfl rfl rfl rfl rfl rfl rfl rfl rfl (.inl ⟨_, rfl⟩) (app1 h1) (app2 h2) (app3 ex118) ?_
 refine pO rfl (dn (AWp.seq ?_))
 refine AWp.freeze 5 42 rfl rfl ?_
 refine rN (pS rfl (kC h rfl ⟨.inl rfl, trivial⟩ rfl fun x119 h => ?_))
 refine pS rfl (dn (AWp.ret ?_))
 subst h
 exact ⟨_, rfl, rfl⟩
def qCl (a1 : List Int) (Q : List Int -> Prop) : Prop :=
 Loop1 a1 (fun (a55 : List Int) next56 =>
 Br (decide (((a55.length : Nat) : Int) > (0 : Int))) (
 Let (IntKind.i64.wrap (((a55.length : Nat) : Int) - (1 : Int))) fun x65 =>
 At a55 x65 fun x67 =>
 Br (x67 == (0 : Int)) (
 Let (IntKind.i64.wrap (((a55.length : Nat) : Int) - (1 : Int))) fun x70 =>
 Sl a55 0 x70 fun x71 =>
 next56 x71) (
 Q a55)) (
 Q a55))
theorem qJ3 {a1 : List Int} {r : List Int} (h : qCl a1 (fun r' => r' = r)) : q2y a1 r := by
 unfold qCl at h
 refine intr (L := [(0, .dat (.sl 100 1 (List.map (eInt .u32) a1)))]) Tryz.func96 Tryz.ntmps96 ?_
 refine sN (pS rfl (dn (AWp.seq (AWp.block ?_))))
 obtain ⟨I72, x73, hz74, hr75⟩ := h
 refine AWp.loop (I := fun p : (List Int) => mkSt [(0, .dat (.sl 100 1 (List.map (eInt .u32) p)))] []) (Inv := fun p => I72 p) (μ := fun p => x73 p) (x0 := a1) hz74 sl (fun p hp => ?_)
 have h := hr75 p hp
 revert h; clear hp; generalize p = a55; intro h
 refine AWp.seq (AWp.seq (rN (pS rfl (al (((a55.length : Nat) : Int)) rfl (pB rfl (pB rfl (sB 6 h (fun h => ?_) (fun h => ?_))))))))
 ·refine pS rfl (pS rfl (al (((a55.length : Nat) : Int)) rfl ?_))
  obtain ⟨x65, ex65, h⟩ := h.get
  refine ai ex65 rfl (kI h q1g rfl rfl rfl rfl rfl rfl rfl fun x67 h => ?_)
  refine pI rfl (pB rfl (pB rfl (dn (cB h (fun h => ?_) (fun h => ?_)))))
  ·refine AWp.skip (AWp.block (rN (pS rfl (pS rfl (al (((a55.length : Nat) : Int)) rfl ?_)))))
   obtain ⟨x70, ex70, h⟩ := h.get
   refine ai ex70 rfl ?_
   obtain ⟨h1, h2, h3, x71, ex71, h⟩ := h.get
   refine AOps.cutE q01 rfl rfl rfl rfl rfl rfl rfl ⟨_, rfl⟩ h1 h2 h3 ex71 ?_
   refine pS rfl (dn ?_)
   exact ⟨x71, h.1, h.2, sl⟩
  refine AWp.exit ?_
  refine sN (pS rfl (pS rfl (dn (AWp.ret ?_))))
  subst h
  exact ⟨_, rfl, rfl⟩
 refine fo 7 rfl (pB rfl (dn ?_))
 refine AWp.condF rfl ?_
 refine AWp.exit ?_
 refine sN (pS rfl (pS rfl (dn (AWp.ret ?_))))
 subst h
 exact ⟨_, rfl, rfl⟩
def qAz (a1 : GRat) (Q : Bool -> Prop) : Prop :=
 Br (decide (a1.D >= (1 : Int))) (
 Br (a1.N != (-9223372036854775808 : Int)) (
 Call (q4e a1.N) fun x12 =>
 Call (q4e a1.D) fun x14 =>
 Call (q66 x12 x14) fun x16 =>
 Call (q5r) fun x18 =>
 Call (q7o x16 x18) fun x20 =>
 Q (x20 == (0 : Int))) (
 Q false)) (
 Q false)
theorem qH8 {a1 : GRat} {r : Bool} (h : qAz a1 (fun r' => r' = r)) : q2e a1 r := by
 unfold qAz at h
 refine intr (L := [(0, .dat (GRat.enc a1))]) Tryz.func174 Tryz.ntmps174 ?_
 refine sN (bx (v := .dat (.st _ _)) ?_)
 refine pB rfl (dn (AWp.seq (rD (pP rfl (pI rfl (pB rfl (pB rfl (sB 6 h (fun h => ?_) (fun h => ?_)))))))))
 ·refine pP rfl (pI rfl (pB rfl (pB rfl (pB rfl (sB 11 h (fun h => ?_) (fun h => ?_))))))
  ·refine pP rfl (pI rfl (kC h rfl ⟨.inl rfl, trivial⟩ rfl fun x12 h => ?_))
   refine pP rfl (pI rfl (kC h rfl ⟨.inl rfl, trivial⟩ rfl fun x14 h => ?_))
   refine kC h rfl ⟨.inl rfl, .inl rfl, trivial⟩ rfl fun x16 h => kC h rfl trivial rfl fun x18 h => kC h rfl ⟨.inl rfl, .inl rfl, trivial⟩ rfl fun x20 h => pB rfl ?_
   refine pB rfl (pB rfl (dn (AWp.ret ?_)))
   subst h
   exact ⟨_, rfl, rfl⟩
  refine fo 10 rfl (pB rfl (pB rfl (dn (AWp.ret ?_))))
  subst h
  exact ⟨_, rfl, rfl⟩
 refine fo 3 rfl (pB rfl (pB rfl (fo 10 rfl (pB rfl (pB rfl (dn (AWp.ret ?_)))))))
 subst h
 exact ⟨_, rfl, rfl⟩
def qG4 (neg1 : Bool) (n2 : List Int) (d3 : List Int) (Q : GRat × Int -> Prop) : Prop :=
 Br (((n2.length : Nat) : Int) == (0 : Int)) (Q ((GRat.mk (0 : Int) (1 : Int)), (0 : Int))) (
 Call (q66 n2 d3) fun x5 =>
 Call (q9e n2 x5) fun x7 =>
 Call (q9d x7) fun x9 =>
 Call (q9e d3 x5) fun x11 =>
 Call (q9d x11) fun x13 =>
 Br (!x9.2) (Q (GRat.zero, (3 : Int))) (
 Br (!x13.2) (Q (GRat.zero, (3 : Int))) (
 q16 (fun j17 =>
 Br neg1 (
 Let (IntKind.i64.wrap ((0 : Int) - x9.1)) fun x18 =>
 j17 x18) (
 j17 x9.1)
 ) (fun (x16 : Int) =>
 Q ((GRat.mk x16 x13.1), (0 : Int))))))
theorem qL9 {neg1 : Bool} {n2 : List Int} {d3 : List Int} {r : GRat × Int} (h : qG4 neg1 n2 d3 (fun r' => r' = r)) : q5b neg1 n2 d3 r := by
 unfold qG4 at h
 refine intr (L := [(0, .dat (.v (.bool neg1))), (1, .dat (.sl 100 1 (List.map (eInt .u32) n2))), (2, .dat (.sl 100 1 (List.map (eInt .u32) d3)))]) Tryz.func63 Tryz.ntmps63 ?_
 refine sN (al0 ?_)
 refine pI rfl (dn (AWp.seq (AWp.seq (rN (pS rfl (al (((n2.length : Nat) : Int)) rfl (pB rfl (dn (cB h (fun h => ?_) (fun h => ?_))))))))))
 ·refine sW (pT rfl (st (v := .dat (.st _ _)) ?_))
  refine pI rfl (dn (AWp.ret ?_))
  subst h
  exact ⟨_, rfl, rfl⟩
 refine AWp.skip (AWp.seq (rN (pS rfl (pS rfl (kC h rfl ⟨.inl rfl, .inl rfl, trivial⟩ rfl fun x5 h => ?_)))))
 refine pS rfl (dn (AWp.seq (rN (pS rfl (pS rfl (kC h rfl ⟨.inl rfl, .inl rfl, trivial⟩ rfl fun x7 h => ?_))))))
 refine kC h rfl ⟨.inl rfl, trivial⟩ rfl fun x9 h => pU rfl ?_
 refine pI rfl (pB rfl (pI rfl (pB rfl (dn (AWp.seq (rN (pS rfl (pS rfl (kC h rfl ⟨.inl rfl, .inl rfl, trivial⟩ rfl fun x11 h => ?_)))))))))
 refine kC h rfl ⟨.inl rfl, trivial⟩ rfl fun x13 h => pU rfl ?_
 refine pI rfl (pB rfl (pI rfl (pB rfl (dn (AWp.seq (AWp.seq (rN (pB rfl (pB rfl (pB rfl (sB 36 h (fun h => ?_) (fun h => ?_))))))))))))
 ·refine ff rfl (ff rfl (pB rfl (dn ?_)))
  refine AWp.condT rfl ?_
  refine sW (pT rfl (st (v := .dat (.st _ _)) ?_))
  refine pI rfl (dn (AWp.ret ?_))
  subst h
  exact ⟨_, rfl, rfl⟩
 refine pB rfl (pB rfl (pB rfl (dn (cB h (fun h => ?_) (fun h => ?_)))))
 ·refine sW (pT rfl (st (v := .dat (.st _ _)) ?_))
  refine pI rfl (dn (AWp.ret ?_))
  subst h
  exact ⟨_, rfl, rfl⟩
 refine AWp.skip (AWp.seq (AWp.seq (rN (pB rfl (dn ?_)))))
 obtain ⟨J19, h, hk20⟩ := h
 refine AWp.cutK (I := fun p : Int => mkSt [(6, .pt 6 [] 0), (9, .dat (.v (.int .i64 p))), (11, .dat (.v (.int .i64 x13.1)))] [(6, .box 23 2 (.dat (GRat.enc GRat.zero)))]) (Inv := fun p : Int => J19 p) ?_ (fun p hp => ?_)
 ·refine cB h (fun h => ?_) (fun h => ?_)
  ·refine rN (pI rfl ?_)
   obtain ⟨x18, ex18, h⟩ := h.get
   refine ai ex18 rfl (pI rfl (dn ?_))
   exact ⟨x18, h, sl⟩
  refine AWp.skip ?_
  exact ⟨x9.1, h, sl⟩
 replace h := hk20 p hp
 revert h; clear hp; generalize p = x16; intro h
 refine sW (pI rfl (pI rfl (pT rfl (st (v := .dat (.st _ _)) ?_))))
 refine pI rfl (dn (AWp.ret ?_))
 subst h
 exact ⟨_, rfl, rfl⟩
def qE7 (a1 : List Int) (Q : Int × Bool -> Prop) : Prop :=
 Let (IntKind.i64.wrap (((a1.length : Nat) : Int) - (1 : Int))) fun x3 =>
 Loop2 (0 : Int) x3 (fun (n54 : Int) (i55 : Int) next56 =>
 Br (decide (i55 >= (0 : Int))) (
 Let (IntKind.u64.wrap (n54 * 2 ^ 32)) fun x63 =>
 At a1 i55 fun x65 =>
 Let (IntKind.u64.wrap x65) fun x67 =>
 Let (bits .or .u64 x63 x67) fun x68 =>
 Let (IntKind.i64.wrap (i55 - (1 : Int))) fun x69 =>
 next56 x68 x69) (
 Let (IntKind.i64.wrap n54) fun x70 =>
 Call (q31 a1) fun x71 =>
 Q (x70, (decide (x71 <= (63 : Int))))))
theorem qK0 {a1 : List Int} {r : Int × Bool} (h : qE7 a1 (fun r' => r' = r)) : q9d a1 r := by
 unfold qE7 at h
 refine intr (L := [(0, .dat (.sl 100 1 (List.map (eInt .u32) a1)))]) Tryz.func98 Tryz.ntmps98 ?_
 refine sN (pI rfl (pB rfl (dn (AWp.seq (rN (pI rfl (dn (AWp.seq (AWp.seq (rN (pS rfl (al (((a1.length : Nat) : Int)) rfl ?_))))))))))))
 obtain ⟨x3, ex3, h⟩ := h.get
 refine ai ex3 rfl (pI rfl (dn (AWp.block ?_)))
 obtain ⟨I73, x74, hz75, hr76⟩ := h
 refine AWp.loop (I := fun p : Int × Int => mkSt [(0, .dat (.sl 100 1 (List.map (eInt .u32) a1))), (4, .dat (.v (.int .u64 p.1))), (5, .dat (.v (.int .i64 p.2)))] []) (Inv := fun p => I73 p.1 p.2) (μ := fun p => x74 p.1 p.2) (x0 := ⟨(0 : Int), x3⟩) hz75 sl (fun p hp => ?_)
 obtain ⟨n54, i55⟩ := p
 have h := hr76 n54 i55 hp
 refine AWp.seq (AWp.seq (rN (pI rfl (pB rfl (dn (cB h (fun h => ?_) (fun h => ?_)))))))
 ·refine AWp.skip (AWp.seq (AWp.block (rN (pI rfl ?_))))
  obtain ⟨x63, ex63, h⟩ := h.get
  refine AOps.q rfl rfl rfl rfl rfl (qKq (by decide)) ex63 ?_
  refine pS rfl (pI rfl (kI h q1g rfl rfl rfl rfl rfl rfl rfl fun x65 h => ?_))
  refine pI rfl ?_
  obtain ⟨x67, ex67, h⟩ := h.get
  refine ai ex67 rfl ?_
  obtain ⟨x68, ex68, h⟩ := h.get
  refine ai ex68 rfl (pI rfl (dn (rN (pI rfl ?_))))
  obtain ⟨x69, ex69, h⟩ := h.get
  refine ai ex69 rfl (pI rfl (dn ?_))
  exact ⟨⟨x68, x69⟩, h.1, h.2, sl⟩
 refine AWp.exit ?_
 refine sN (pI rfl ?_)
 obtain ⟨x70, ex70, h⟩ := h.get
 refine ai ex70 rfl (pS rfl (kC h rfl ⟨.inl rfl, trivial⟩ rfl fun x71 h => ?_))
 refine pB rfl (pI rfl (pB rfl (dn (AWp.ret ?_))))
 subst h
 exact ⟨_, rfl, rfl⟩
def qE8 (a1 : List Int) (b2 : List Int) (Q : List Int -> Prop) : Prop :=
 Call (q31 a1) fun x3 =>
 Call (q31 b2) fun x5 =>
 Let (IntKind.i64.wrap (x3 - x5)) fun x7 =>
 qKr a1 ([] : List Int) x7 (fun (a94 : List Int) (q95 : List Int) (k96 : Int) next97 =>
 Br (decide (k96 >= (0 : Int))) (
 Call (q69 b2 k96) fun x98 =>
 Call (q69 q95 (1 : Int)) fun x100 =>
 Call (q7o x98 a94) fun x102 =>
 q3r (fun j112 =>
 Br (decide (x102 <= (0 : Int))) (
 Call (q8h a94 x98) fun x113 =>
 Call (q2f (1 : Int)) fun x115 =>
 Call (q8g x100 x115) fun x117 =>
 j112 x113 x117) (
 j112 a94 x100)
 ) (fun (a110 : List Int) (q111 : List Int) =>
 Let (IntKind.i64.wrap (k96 - (1 : Int))) fun x119 =>
 next97 a110 q111 x119)) (
 Q q95))
theorem qK1 {a1 : List Int} {b2 : List Int} {r : List Int} (h : qE8 a1 b2 (fun r' => r' = r)) : q9e a1 b2 r := by
 unfold qE8 at h
 refine intr (L := [(0, .dat (.sl 100 1 (List.map (eInt .u32) a1))), (1, .dat (.sl 100 1 (List.map (eInt .u32) b2)))]) Tryz.func99 Tryz.ntmps99 ?_
 refine sN (pS rfl (dn (AWp.seq (rN ?_))))
 refine AOps.lit q01 (ys := []) rfl rfl rfl rfl rfl rfl ?_
 refine pS rfl (dn (AWp.seq (rN (pS rfl (kC h rfl ⟨.inl rfl, trivial⟩ rfl fun x3 h => ?_)))))
 refine pS rfl (kC h rfl ⟨.inl rfl, trivial⟩ rfl fun x5 h => ?_)
 obtain ⟨x7, ex7, h⟩ := h.get
 refine ai ex7 rfl (pI rfl (dn (AWp.seq (AWp.block ?_))))
 obtain ⟨I122, x123, hz124, hr125⟩ := h
 refine AWp.loop (I := fun p : (List Int) × (List Int) × Int => mkSt [(0, .dat (.sl 100 1 (List.map (eInt .u32) p.1))), (1, .dat (.sl 100 1 (List.map (eInt .u32) b2))), (5, .dat (.sl 100 1 (List.map (eInt .u32) p.2.1))), (6, .dat (.v (.int .i64 p.2.2)))] []) (Inv := fun p => I122 p.1 p.2.1 p.2.2) (μ := fun p => x123 p.1 p.2.1 p.2.2) (x0 := ⟨a1, ([] : List Int), x7⟩) hz124 sl (fun p hp => ?_)
 obtain ⟨a94, q95, k96⟩ := p
 have h := hr125 a94 q95 k96 hp
 refine AWp.seq (AWp.seq (rN (pI rfl (pB rfl (dn (cB h (fun h => ?_) (fun h => ?_)))))))
 ·refine AWp.skip (AWp.block (AWp.seq (rN (pS rfl (pI rfl (kC h rfl ⟨.inl rfl, .inl rfl, trivial⟩ rfl fun x98 h => ?_))))))
  refine pS rfl (dn (AWp.seq (rN (pS rfl (kC h rfl ⟨.inl rfl, .inl rfl, trivial⟩ rfl fun x100 h => ?_)))))
  refine pS rfl (dn (AWp.seq (AWp.seq (rN (pS rfl (pS rfl (kC h rfl ⟨.inl rfl, .inl rfl, trivial⟩ rfl fun x102 h => ?_)))))))
  refine pB rfl (dn ?_)
  obtain ⟨J120, h, hk121⟩ := h
  refine AWp.cutK (I := fun p : (List Int) × (List Int) => mkSt [(0, .dat (.sl 100 1 (List.map (eInt .u32) p.1))), (1, .dat (.sl 100 1 (List.map (eInt .u32) b2))), (5, .dat (.sl 100 1 (List.map (eInt .u32) p.2))), (6, .dat (.v (.int .i64 k96)))] []) (Inv := fun p : (List Int) × (List Int) => J120 p.1 p.2) ?_ (fun p hp => ?_)
  ·refine cB h (fun h => ?_) (fun h => ?_)
   ·refine sN (pS rfl (pS rfl (kC h rfl ⟨.inl rfl, .inl rfl, trivial⟩ rfl fun x113 h => ?_)))
    refine pS rfl (dn (rN (pS rfl (kC h rfl ⟨.inl rfl, trivial⟩ rfl fun x115 h => ?_))))
    refine kC h rfl ⟨.inl rfl, .inl rfl, trivial⟩ rfl fun x117 h => pS rfl ?_
    refine dn ?_
    exact ⟨⟨x113, x117⟩, h, sl⟩
   refine AWp.skip ?_
   exact ⟨⟨a94, x100⟩, h, sl⟩
  obtain ⟨a110, q111⟩ := p
  replace h := hk121 a110 q111 hp
  refine rN (pI rfl ?_)
  obtain ⟨x119, ex119, h⟩ := h.get
  refine ai ex119 rfl (pI rfl (dn ?_))
  exact ⟨⟨a110, q111, x119⟩, h.1, h.2, sl⟩
 refine AWp.exit ?_
 refine sN (pS rfl (pS rfl (dn (AWp.ret ?_))))
 subst h
 exact ⟨_, rfl, rfl⟩
def qCm (n1 : Int) (d2 : Int) (Q : GRat × Int -> Prop) : Prop :=
 Br (d2 == (0 : Int)) (Q (GRat.zero, (6 : Int))) (
 Call (q4e n1) fun x3 =>
 Call (q4e d2) fun x5 =>
 Call (q5b ((decide (n1 < (0 : Int))) != (decide (d2 < (0 : Int)))) x3 x5) fun x7 =>
 Q (x7.1, x7.2))
theorem qJ4 {n1 : Int} {d2 : Int} {r : GRat × Int} (h : qCm n1 d2 (fun r' => r' = r)) : q67 n1 d2 r := by
 unfold qCm at h
 refine intr (L := [(0, .dat (.v (.int .i64 n1))), (1, .dat (.v (.int .i64 d2)))]) Tryz.func104 Tryz.ntmps104 ?_
 refine sN (al0 ?_)
 refine pI rfl (dn (AWp.seq (AWp.seq (rN (pI rfl (pB rfl (dn (cB h (fun h => ?_) (fun h => ?_)))))))))
 ·refine sW (pT rfl (st (v := .dat (.st _ _)) ?_))
  refine pI rfl (dn (AWp.ret ?_))
  subst h
  exact ⟨_, rfl, rfl⟩
 refine AWp.skip (AWp.seq (rW (pI rfl (pB rfl (pI rfl (pB rfl (pB rfl (pI rfl (kC h rfl ⟨.inl rfl, trivial⟩ rfl fun x3 h => ?_)))))))))
 refine pI rfl (kC h rfl ⟨.inl rfl, trivial⟩ rfl fun x5 h => ?_)
 refine kC h rfl ⟨.inl rfl, .inl rfl, .inl rfl, trivial⟩ rfl fun x7 h => pT rfl ?_
 refine pI rfl (st (v := .dat (.st _ _)) ?_)
 refine pI rfl (dn (AWp.ret ?_))
 subst h
 exact ⟨_, rfl, rfl⟩
def qCn (x1 : ByteArray) (Q : GRat × Int -> Prop) : Prop :=
 Call (q26 x1 (0 : Int)) fun x2 =>
 Br (decide (x2 < (1 : Int))) (Q (GRat.zero, (110 : Int))) (
 Br (decide (x2 > (40 : Int))) (Q (GRat.zero, (110 : Int))) (
 SlS x1 (0 : Int) x2 fun x4 =>
 q16 (fun j9 =>
 Br (decide (x2 < ((x1.size : Nat) : Int))) (
 AtS x1 x2 fun x11 =>
 j9 (x11 == (46 : Int))) (
 j9 false)
 ) (fun (x8 : Bool) =>
 qWg (fun j32 =>
 Br x8 (
 Let (IntKind.i64.wrap (x2 + (1 : Int))) fun x33 =>
 Call (q26 x1 x33) fun x34 =>
 Let (IntKind.i64.wrap (x34 - x2)) fun x40 =>
 Let (IntKind.i64.wrap (x40 - (1 : Int))) fun x41 =>
 Br (decide (x41 < (1 : Int))) (Q (GRat.zero, (110 : Int))) (
 Let (IntKind.i64.wrap (x34 - x2)) fun x42 =>
 Let (IntKind.i64.wrap (x42 - (1 : Int))) fun x43 =>
 Br (decide (x43 > (40 : Int))) (Q (GRat.zero, (110 : Int))) (
 Let (IntKind.i64.wrap (x2 + (1 : Int))) fun x44 =>
 SlS x1 x44 x34 fun x45 =>
 Cat x4 x45 fun x46 =>
 Let (IntKind.i64.wrap (x2 + (1 : Int))) fun x47 =>
 Let (IntKind.i64.wrap (x47 - x34)) fun x48 =>
 j32 x34 x46 x48))) (
 j32 x2 x4 (0 : Int))
 ) (fun (x29 : Int) (x30 : ByteArray) (x31 : Int) =>
 q16 (fun j115 =>
 Br (decide (x29 < ((x1.size : Nat) : Int))) (
 q16 (fun j123 =>
 AtS x1 x29 fun x125 =>
 Br (x125 != (101 : Int)) (
 AtS x1 x29 fun x128 =>
 j123 (x128 != (69 : Int))) (
 j123 false)
 ) (fun (x122 : Bool) =>
 Br x122 (Q (GRat.zero, (110 : Int))) (
 Let (IntKind.i64.wrap (x29 + (1 : Int))) fun x130 =>
 q16 (fun j138 =>
 Br (decide (x130 < ((x1.size : Nat) : Int))) (
 AtS x1 x130 fun x140 =>
 Br (x140 == (43 : Int)) (j138 true) (
 AtS x1 x130 fun x143 =>
 j138 (x143 == (45 : Int)))) (
 j138 false)
 ) (fun (x137 : Bool) =>
 q3r (fun j155 =>
 Br x137 (
 AtS x1 x130 fun x157 =>
 q16 (fun j160 =>
 Br (x157 == (45 : Int)) (j160 (-1 : Int)) (
 j160 (1 : Int))
 ) (fun (x159 : Int) =>
 Let (IntKind.i64.wrap (x130 + (1 : Int))) fun x161 =>
 j155 x161 x159)) (
 j155 x130 (1 : Int))
 ) (fun (x153 : Int) (x154 : Int) =>
 Call (q26 x1 x153) fun x164 =>
 Br (x164 != ((x1.size : Nat) : Int)) (Q (GRat.zero, (110 : Int))) (
 Let (IntKind.i64.wrap (x164 - x153)) fun x168 =>
 Br (decide (x168 < (1 : Int))) (Q (GRat.zero, (110 : Int))) (
 Let (IntKind.i64.wrap (x164 - x153)) fun x169 =>
 Br (decide (x169 > (2 : Int))) (Q (GRat.zero, (110 : Int))) (
 SlS x1 x153 x164 fun x170 =>
 Call (q0z x170) fun x171 =>
 Let (IntKind.i64.wrap (x154 * x171.1)) fun x173 =>
 Let (IntKind.i64.wrap (x31 + x173)) fun x174 =>
 j115 x174)))))))) (
 j115 x31)
 ) (fun (x114 : Int) =>
 Call (q7i x30) fun x181 =>
 Call (q2f (10 : Int)) fun x183 =>
 Br (decide (x114 >= (0 : Int))) (
 Call (q39 x183 x114) fun x193 =>
 Call (q76 x181 x193) fun x195 =>
 Call (q5r) fun x197 =>
 Call (q5b false x195 x197) fun x199 =>
 Q (x199.1, x199.2)) (
 Let (IntKind.i64.wrap ((0 : Int) - x114)) fun x201 =>
 Call (q39 x183 x201) fun x202 =>
 Call (q5b false x181 x202) fun x204 =>
 Q (x204.1, x204.2)))))))
theorem qJ5 {x1 : ByteArray} {r : GRat × Int} (h : qCn x1 (fun r' => r' = r)) : q8e x1 r := by
 unfold qCn at h
 refine intr (L := [(0, .dat (.v (.string x1)))]) Tryz.func33 Tryz.ntmps33 ?_
 refine sN (al0 ?_)
 refine pI rfl (dn (AWp.seq (rN (pG rfl (kC h rfl ⟨.inl rfl, .inl rfl, trivial⟩ rfl fun x2 h => ?_)))))
 refine pI rfl (dn (AWp.seq (AWp.seq (rN (pI rfl (pB rfl (pB rfl (sB 18 h (fun h => ?_) (fun h => ?_)))))))))
 ·refine ff rfl (ff rfl (pB rfl (dn ?_)))
  refine AWp.condT rfl ?_
  refine sW (pT rfl (st (v := .dat (.st _ _)) ?_))
  refine pI rfl (dn (AWp.ret ?_))
  subst h
  exact ⟨_, rfl, rfl⟩
 refine pI rfl (pB rfl (pB rfl (dn (cB h (fun h => ?_) (fun h => ?_)))))
 ·refine sW (pT rfl (st (v := .dat (.st _ _)) ?_))
  refine pI rfl (dn (AWp.ret ?_))
  subst h
  exact ⟨_, rfl, rfl⟩
 refine AWp.skip (AWp.seq (rN (pG rfl (pI rfl ?_))))
 obtain ⟨h1, h2, h3, x4, ex4, h⟩ := h.get
 refine AOps.slsh q01 rfl rfl rfl rfl rfl rfl rfl h2 h3 ex4 ?_
 refine pG rfl (dn (AWp.seq (rN (pI rfl (dn (AWp.seq (AWp.seq ?_)))))))
 obtain ⟨J210, h, hk211⟩ := h
 refine AWp.cutK (I := fun p : Bool => mkSt [(0, .dat (.v (.string x1))), (2, .pt 2 [] 0), (4, .dat (.v (.int .i64 x2))), (5, .dat (.v (.string x4))), (6, .dat (.v (.int .i64 (0 : Int)))), (35, .dat (.v (.bool p)))] [(2, .box 23 2 (.dat (GRat.enc GRat.zero)))]) (Inv := fun p : Bool => J210 p) ?_ (fun p hp => ?_)
 ·refine rN (pI rfl (pG rfl (pI rfl (pB rfl (pB rfl (sB 30 h (fun h => ?_) (fun h => ?_)))))))
  ·refine pG rfl (pI rfl ?_)
   obtain ⟨hi10, x11, hx12, h⟩ := AtS.get h
   refine AOps.sidxE q01 rfl rfl rfl rfl rfl rfl rfl hi10 hx12 ?_
   refine pB rfl (pB rfl (dn ?_))
   exact ⟨(x11 == (46 : Int)), h, sl⟩
  refine fo 4 rfl (pB rfl (dn ?_))
  exact ⟨false, h, sl⟩
 replace h := hk211 p hp
 revert h; clear hp; generalize p = x8; intro h
 obtain ⟨J208, h, hk209⟩ := h
 refine AWp.cutK (I := fun p : Int × ByteArray × Int => mkSt [(0, .dat (.v (.string x1))), (2, .pt 2 [] 0), (4, .dat (.v (.int .i64 p.1))), (5, .dat (.v (.string p.2.1))), (6, .dat (.v (.int .i64 p.2.2)))] [(2, .box 23 2 (.dat (GRat.enc GRat.zero)))]) (Inv := fun p : Int × ByteArray × Int => J208 p.1 p.2.1 p.2.2) ?_ (fun p hp => ?_)
 ·refine cB h (fun h => ?_) (fun h => ?_)
  ·refine sN (pG rfl (pI rfl ?_))
   obtain ⟨x33, ex33, h⟩ := h.get
   refine ai ex33 rfl (kC h rfl ⟨.inl rfl, .inl rfl, trivial⟩ rfl fun x34 h => ?_)
   refine pI rfl (dn (AWp.seq (AWp.seq (rN (pI rfl (pI rfl ?_))))))
   obtain ⟨x40, ex40, h⟩ := h.get
   refine ai ex40 rfl ?_
   obtain ⟨x41, ex41, h⟩ := h.get
   refine ai ex41 rfl (pB rfl (pB rfl (sB 45 h (fun h => ?_) (fun h => ?_))))
   ·refine fo 5 rfl (pB rfl (dn ?_))
    refine AWp.condT rfl ?_
    refine sW (pT rfl (st (v := .dat (.st _ _)) ?_))
    refine pI rfl (dn (AWp.ret ?_))
    subst h
    exact ⟨_, rfl, rfl⟩
   refine pI rfl (pI rfl ?_)
   obtain ⟨x42, ex42, h⟩ := h.get
   refine ai ex42 rfl ?_
   obtain ⟨x43, ex43, h⟩ := h.get
   refine ai ex43 rfl (pB rfl (pB rfl (dn (cB h (fun h => ?_) (fun h => ?_)))))
   ·refine sW (pT rfl (st (v := .dat (.st _ _)) ?_))
    refine pI rfl (dn (AWp.ret ?_))
    subst h
    exact ⟨_, rfl, rfl⟩
   refine AWp.skip (AWp.seq (rN (pG rfl (pG rfl (pI rfl ?_)))))
   obtain ⟨x44, ex44, h⟩ := h.get
   refine ai ex44 rfl (pI rfl ?_)
   obtain ⟨h1, h2, h3, x45, ex45, h⟩ := h.get
   refine AOps.sls q01 rfl rfl rfl rfl rfl rfl rfl rfl h1 h2 h3 ex45 ?_
   refine kc h rfl rfl rfl rfl fun x46 h => pG rfl ?_
   refine dn (sN (pI rfl ?_))
   obtain ⟨x47, ex47, h⟩ := h.get
   refine ai ex47 rfl (pI rfl ?_)
   obtain ⟨x48, ex48, h⟩ := h.get
   refine ai ex48 rfl (pI rfl (dn (rN (pI rfl (pI rfl (dn ?_))))))
   exact ⟨⟨x34, x46, x48⟩, h, sl⟩
  refine AWp.skip ?_
  exact ⟨⟨x2, x4, (0 : Int)⟩, h, sl⟩
 obtain ⟨x29, x30, x31⟩ := p
 replace h := hk209 x29 x30 x31 hp
 refine AWp.seq (AWp.seq (rN (pI rfl (pG rfl (pI rfl (pB rfl (dn ?_)))))))
 obtain ⟨J206, h, hk207⟩ := h
 refine AWp.cutK (I := fun p : Int => mkSt [(2, .pt 2 [] 0), (5, .dat (.v (.string x30))), (6, .dat (.v (.int .i64 p)))] [(2, .box 23 2 (.dat (GRat.enc GRat.zero)))]) (Inv := fun p : Int => J206 p) ?_ (fun p hp => ?_)
 ·refine cB h (fun h => ?_) (fun h => ?_)
  ·refine AWp.seq (AWp.seq ?_)
   obtain ⟨J179, h, hk180⟩ := h
   refine AWp.cutK (I := fun p : Bool => mkSt [(0, .dat (.v (.string x1))), (2, .pt 2 [] 0), (4, .dat (.v (.int .i64 x29))), (5, .dat (.v (.string x30))), (6, .dat (.v (.int .i64 x31))), (78, .dat (.v (.bool p)))] [(2, .box 23 2 (.dat (GRat.enc GRat.zero)))]) (Inv := fun p : Bool => J179 p) ?_ (fun p hp => ?_)
   ·refine rN (pG rfl (pI rfl ?_))
    obtain ⟨hi124, x125, hx126, h⟩ := AtS.get h
    refine AOps.sidxE q01 rfl rfl rfl rfl rfl rfl rfl hi124 hx126 ?_
    refine pB rfl (pB rfl (sB 73 h (fun h => ?_) (fun h => ?_)))
    ·refine pG rfl (pI rfl ?_)
     obtain ⟨hi127, x128, hx129, h⟩ := AtS.get h
     refine AOps.sidxE q01 rfl rfl rfl rfl rfl rfl rfl hi127 hx129 ?_
     refine pB rfl (pB rfl (dn ?_))
     exact ⟨(x128 != (69 : Int)), h, sl⟩
    refine fo 4 rfl (pB rfl (dn ?_))
    exact ⟨false, h, sl⟩
   replace h := hk180 p hp
   revert h; clear hp; generalize p = x122; intro h
   refine cB h (fun h => ?_) (fun h => ?_)
   ·refine sW (pT rfl (st (v := .dat (.st _ _)) ?_))
    refine pI rfl (dn (AWp.ret ?_))
    subst h
    exact ⟨_, rfl, rfl⟩
   refine AWp.skip (AWp.seq (rN (pI rfl ?_)))
   obtain ⟨x130, ex130, h⟩ := h.get
   refine ai ex130 rfl (pI rfl (dn (AWp.seq (rN (pI rfl (dn (AWp.seq (AWp.seq ?_))))))))
   obtain ⟨J177, h, hk178⟩ := h
   refine AWp.cutK (I := fun p : Bool => mkSt [(0, .dat (.v (.string x1))), (2, .pt 2 [] 0), (4, .dat (.v (.int .i64 x130))), (5, .dat (.v (.string x30))), (6, .dat (.v (.int .i64 x31))), (8, .dat (.v (.int .i64 (1 : Int)))), (97, .dat (.v (.bool p)))] [(2, .box 23 2 (.dat (GRat.enc GRat.zero)))]) (Inv := fun p : Bool => J177 p) ?_ (fun p hp => ?_)
   ·refine rN (pI rfl (pG rfl (pI rfl (pB rfl (pB rfl (sB 86 h (fun h => ?_) (fun h => ?_)))))))
    ·refine pG rfl (pI rfl ?_)
     obtain ⟨hi139, x140, hx141, h⟩ := AtS.get h
     refine AOps.sidxE q01 rfl rfl rfl rfl rfl rfl rfl hi139 hx141 ?_
     refine pB rfl (pB rfl (sB 91 h (fun h => ?_) (fun h => ?_)))
     ·refine fo 4 rfl (pB rfl (pB rfl (dn ?_)))
      exact ⟨true, h, sl⟩
     refine pG rfl (pI rfl ?_)
     obtain ⟨hi142, x143, hx144, h⟩ := AtS.get h
     refine AOps.sidxE q01 rfl rfl rfl rfl rfl rfl rfl hi142 hx144 ?_
     refine pB rfl (pB rfl (pB rfl (dn ?_)))
     exact ⟨(x143 == (45 : Int)), h, sl⟩
    refine fo 10 rfl (pB rfl (dn ?_))
    exact ⟨false, h, sl⟩
   replace h := hk178 p hp
   revert h; clear hp; generalize p = x137; intro h
   obtain ⟨J175, h, hk176⟩ := h
   refine AWp.cutK (I := fun p : Int × Int => mkSt [(0, .dat (.v (.string x1))), (2, .pt 2 [] 0), (4, .dat (.v (.int .i64 p.1))), (5, .dat (.v (.string x30))), (6, .dat (.v (.int .i64 x31))), (8, .dat (.v (.int .i64 p.2)))] [(2, .box 23 2 (.dat (GRat.enc GRat.zero)))]) (Inv := fun p : Int × Int => J175 p.1 p.2) ?_ (fun p hp => ?_)
   ·refine cB h (fun h => ?_) (fun h => ?_)
    ·refine AWp.seq (AWp.seq (rN (pG rfl (pI rfl ?_))))
     obtain ⟨hi156, x157, hx158, h⟩ := AtS.get h
     refine AOps.sidxE q01 rfl rfl rfl rfl rfl rfl rfl hi156 hx158 ?_
     refine pB rfl (dn ?_)
     obtain ⟨J162, h, hk163⟩ := h
     refine AWp.cutK (I := fun p : Int => mkSt [(0, .dat (.v (.string x1))), (2, .pt 2 [] 0), (4, .dat (.v (.int .i64 x130))), (5, .dat (.v (.string x30))), (6, .dat (.v (.int .i64 x31))), (8, .dat (.v (.int .i64 p)))] [(2, .box 23 2 (.dat (GRat.enc GRat.zero)))]) (Inv := fun p : Int => J162 p) ?_ (fun p hp => ?_)
     ·refine cB h (fun h => ?_) (fun h => ?_)
      ·refine rN (pI rfl (dn ?_))
       exact ⟨(-1 : Int), h, sl⟩
      refine AWp.skip ?_
      exact ⟨(1 : Int), h, sl⟩
     replace h := hk163 p hp
     revert h; clear hp; generalize p = x159; intro h
     refine rN (pI rfl ?_)
     obtain ⟨x161, ex161, h⟩ := h.get
     refine ai ex161 rfl (pI rfl (dn ?_))
     exact ⟨⟨x161, x159⟩, h, sl⟩
    refine AWp.skip ?_
    exact ⟨⟨x130, (1 : Int)⟩, h, sl⟩
   obtain ⟨x153, x154⟩ := p
   replace h := hk176 x153 x154 hp
   refine sN (pG rfl (pI rfl (kC h rfl ⟨.inl rfl, .inl rfl, trivial⟩ rfl fun x164 h => ?_)))
   refine pI rfl (dn (AWp.seq (AWp.seq (rN (pI rfl (pG rfl (pI rfl (pB rfl (pB rfl (sB 111 h (fun h => ?_) (fun h => ?_)))))))))))
   ·refine fo 4 rfl (pB rfl (pB rfl (fo 4 rfl (pB rfl (dn ?_)))))
    refine AWp.condT rfl ?_
    refine sW (pT rfl (st (v := .dat (.st _ _)) ?_))
    refine pI rfl (dn (AWp.ret ?_))
    subst h
    exact ⟨_, rfl, rfl⟩
   refine pI rfl (pI rfl ?_)
   obtain ⟨x168, ex168, h⟩ := h.get
   refine ai ex168 rfl (pB rfl (pB rfl (pB rfl (sB 117 h (fun h => ?_) (fun h => ?_)))))
   ·refine fo 4 rfl (pB rfl (dn ?_))
    refine AWp.condT rfl ?_
    refine sW (pT rfl (st (v := .dat (.st _ _)) ?_))
    refine pI rfl (dn (AWp.ret ?_))
    subst h
    exact ⟨_, rfl, rfl⟩
   refine pI rfl (pI rfl ?_)
   obtain ⟨x169, ex169, h⟩ := h.get
   refine ai ex169 rfl (pB rfl (pB rfl (dn (cB h (fun h => ?_) (fun h => ?_)))))
   ·refine sW (pT rfl (st (v := .dat (.st _ _)) ?_))
    refine pI rfl (dn (AWp.ret ?_))
    subst h
    exact ⟨_, rfl, rfl⟩
   refine AWp.skip (AWp.seq (rN (pG rfl (pI rfl (pI rfl ?_)))))
   obtain ⟨h1, h2, h3, x170, ex170, h⟩ := h.get
   refine AOps.sls q01 rfl rfl rfl rfl rfl rfl rfl rfl h1 h2 h3 ex170 ?_
   refine kC h rfl ⟨.inl rfl, trivial⟩ rfl fun x171 h => pU rfl ?_
   refine pI rfl (pW rfl (pI rfl ?_))
   refine AOps.mv rfl rfl (.inr rfl) rfl ?_
   refine dn (rN (pI rfl (pI rfl (pI rfl ?_))))
   obtain ⟨x173, ex173, h⟩ := h.get
   refine ai ex173 rfl ?_
   obtain ⟨x174, ex174, h⟩ := h.get
   refine ai ex174 rfl (pI rfl (dn ?_))
   exact ⟨x174, h, sl⟩
  refine AWp.skip ?_
  exact ⟨x31, h, sl⟩
 replace h := hk207 p hp
 revert h; clear hp; generalize p = x114; intro h
 refine sN (pG rfl (kC h rfl ⟨.inl rfl, trivial⟩ rfl fun x181 h => ?_))
 refine pS rfl (dn (AWp.seq (rN (kC h rfl ⟨.inl rfl, trivial⟩ rfl fun x183 h => ?_))))
 refine pS rfl (dn (AWp.seq (AWp.seq (rN (pI rfl (pB rfl (dn (cB h (fun h => ?_) (fun h => ?_)))))))))
 ·refine sW (pS rfl (pS rfl (pI rfl (kC h rfl ⟨.inl rfl, .inl rfl, trivial⟩ rfl fun x193 h => ?_))))
  refine kC h rfl ⟨.inl rfl, .inl rfl, trivial⟩ rfl fun x195 h => kC h rfl trivial rfl fun x197 h => kC h rfl ⟨.inl rfl, .inl rfl, .inl rfl, trivial⟩ rfl fun x199 h => pT rfl ?_
  refine pI rfl (st (v := .dat (.st _ _)) ?_)
  refine pI rfl (dn (AWp.ret ?_))
  subst h
  exact ⟨_, rfl, rfl⟩
 refine AWp.skip (AWp.seq (rW (pS rfl (pS rfl (pI rfl ?_)))))
 obtain ⟨x201, ex201, h⟩ := h.get
 refine ai ex201 rfl (kC h rfl ⟨.inl rfl, .inl rfl, trivial⟩ rfl fun x202 h => ?_)
 refine kC h rfl ⟨.inl rfl, .inl rfl, .inl rfl, trivial⟩ rfl fun x204 h => pT rfl ?_
 refine pI rfl (st (v := .dat (.st _ _)) ?_)
 refine pI rfl (dn (AWp.ret ?_))
 subst h
 exact ⟨_, rfl, rfl⟩
def qB0 (s1 : ByteArray) (Q : List Int -> Prop) : Prop :=
 Loop2 ([] : List Int) (0 : Int) (fun (n94 : List Int) (i95 : Int) next96 =>
 Br (decide (i95 < ((s1.size : Nat) : Int))) (
 Call (q2f (10 : Int)) fun x110 =>
 Call (q76 n94 x110) fun x112 =>
 AtS s1 i95 fun x115 =>
 Let (IntKind.u8.wrap (x115 - (48 : Int))) fun x117 =>
 Let (IntKind.u64.wrap x117) fun x118 =>
 Call (q2f x118) fun x119 =>
 Call (q8g x112 x119) fun x121 =>
 Let (IntKind.i64.wrap (i95 + (1 : Int))) fun x123 =>
 next96 x121 x123) (
 Q n94))
theorem qH9 {s1 : ByteArray} {r : List Int} (h : qB0 s1 (fun r' => r' = r)) : q7i s1 r := by
 unfold qB0 at h
 refine intr (L := [(0, .dat (.v (.string s1)))]) Tryz.func61 Tryz.ntmps61 ?_
 refine sN (pS rfl (dn (AWp.seq (rN ?_))))
 refine AOps.lit q01 (ys := []) rfl rfl rfl rfl rfl rfl ?_
 refine pS rfl (dn (AWp.seq (AWp.seq (rN (pI rfl (dn (AWp.block ?_)))))))
 obtain ⟨I124, x125, hz126, hr127⟩ := h
 refine AWp.loop (I := fun p : (List Int) × Int => mkSt [(0, .dat (.v (.string s1))), (3, .dat (.sl 100 1 (List.map (eInt .u32) p.1))), (4, .dat (.v (.int .i64 p.2)))] []) (Inv := fun p => I124 p.1 p.2) (μ := fun p => x125 p.1 p.2) (x0 := ⟨([] : List Int), (0 : Int)⟩) hz126 sl (fun p hp => ?_)
 obtain ⟨n94, i95⟩ := p
 have h := hr127 n94 i95 hp
 refine AWp.seq (AWp.seq (rN (pI rfl (pG rfl (pI rfl (pB rfl (dn (cB h (fun h => ?_) (fun h => ?_)))))))))
 ·refine AWp.skip (AWp.seq (AWp.block (rD (pS rfl (kC h rfl ⟨.inl rfl, trivial⟩ rfl fun x110 h => ?_)))))
  refine kC h rfl ⟨.inl rfl, .inl rfl, trivial⟩ rfl fun x112 h => pG rfl ?_
  refine pI rfl ?_
  obtain ⟨hi114, x115, hx116, h⟩ := AtS.get h
  refine AOps.sidxE q01 rfl rfl rfl rfl rfl rfl rfl hi114 hx116 ?_
  obtain ⟨x117, ex117, h⟩ := h.get
  refine ai ex117 rfl ?_
  obtain ⟨x118, ex118, h⟩ := h.get
  refine ai ex118 rfl (kC h rfl ⟨.inl rfl, trivial⟩ rfl fun x119 h => ?_)
  refine kC h rfl ⟨.inl rfl, .inl rfl, trivial⟩ rfl fun x121 h => pS rfl ?_
  refine dn (rN (pI rfl ?_))
  obtain ⟨x123, ex123, h⟩ := h.get
  refine ai ex123 rfl (pI rfl (dn ?_))
  exact ⟨⟨x121, x123⟩, h.1, h.2, sl⟩
 refine AWp.exit ?_
 refine sN (pS rfl (pS rfl (dn (AWp.ret ?_))))
 subst h
 exact ⟨_, rfl, rfl⟩
def qB1 (a1 : List Int) (n2 : Int) (Q : List Int -> Prop) : Prop :=
 Call (q5r) fun x3 =>
 Loop2 x3 (0 : Int) (fun (p31 : List Int) (i32 : Int) next33 =>
 Br (decide (i32 < n2)) (
 Call (q76 p31 a1) fun x36 =>
 Let (IntKind.i64.wrap (i32 + (1 : Int))) fun x38 =>
 next33 x36 x38) (
 Q p31))
theorem qHa {a1 : List Int} {n2 : Int} {r : List Int} (h : qB1 a1 n2 (fun r' => r' = r)) : q39 a1 n2 r := by
 unfold qB1 at h
 refine intr (L := [(0, .dat (.sl 100 1 (List.map (eInt .u32) a1))), (1, .dat (.v (.int .i64 n2)))]) Tryz.func65 Tryz.ntmps65 ?_
 refine sN (pS rfl (dn (AWp.seq (rN (kC h rfl trivial rfl fun x3 h => ?_)))))
 refine pS rfl (dn (AWp.seq (AWp.seq (rN (pI rfl (dn (AWp.block ?_)))))))
 obtain ⟨I39, x40, hz41, hr42⟩ := h
 refine AWp.loop (I := fun p : (List Int) × Int => mkSt [(0, .dat (.sl 100 1 (List.map (eInt .u32) a1))), (1, .dat (.v (.int .i64 n2))), (5, .dat (.sl 100 1 (List.map (eInt .u32) p.1))), (6, .dat (.v (.int .i64 p.2)))] []) (Inv := fun p => I39 p.1 p.2) (μ := fun p => x40 p.1 p.2) (x0 := ⟨x3, (0 : Int)⟩) hz41 sl (fun p hp => ?_)
 obtain ⟨p31, i32⟩ := p
 have h := hr42 p31 i32 hp
 refine AWp.seq (AWp.seq (rN (pI rfl (pI rfl (pB rfl (dn (cB h (fun h => ?_) (fun h => ?_))))))))
 ·refine AWp.skip (AWp.seq (AWp.block (rN (pS rfl (pS rfl (kC h rfl ⟨.inl rfl, .inl rfl, trivial⟩ rfl fun x36 h => ?_))))))
  refine pS rfl (dn (rN (pI rfl ?_)))
  obtain ⟨x38, ex38, h⟩ := h.get
  refine ai ex38 rfl (pI rfl (dn ?_))
  exact ⟨⟨x36, x38⟩, h.1, h.2, sl⟩
 refine AWp.exit ?_
 refine sN (pS rfl (pS rfl (dn (AWp.ret ?_))))
 subst h
 exact ⟨_, rfl, rfl⟩
def qCo (s1 : ByteArray) (at2 : Int) (Q : Int -> Prop) : Prop :=
 Loop1 at2 (fun (at50 : Int) next51 =>
 Br (decide (at50 < ((s1.size : Nat) : Int))) (
 AtS s1 at50 fun x59 =>
 Br (decide (x59 >= (48 : Int))) (
 AtS s1 at50 fun x62 =>
 Br (decide (x62 <= (57 : Int))) (
 Let (IntKind.i64.wrap (at50 + (1 : Int))) fun x64 =>
 next51 x64) (
 Q at50)) (
 Q at50)) (
 Q at50))
theorem qJ6 {s1 : ByteArray} {at2 : Int} {r : Int} (h : qCo s1 at2 (fun r' => r' = r)) : q26 s1 at2 r := by
 unfold qCo at h
 refine intr (L := [(0, .dat (.v (.string s1))), (1, .dat (.v (.int .i64 at2)))]) Tryz.func59 Tryz.ntmps59 ?_
 refine sN (pI rfl (dn (AWp.seq (AWp.block ?_))))
 obtain ⟨I65, x66, hz67, hr68⟩ := h
 refine AWp.loop (I := fun p : Int => mkSt [(0, .dat (.v (.string s1))), (1, .dat (.v (.int .i64 p)))] []) (Inv := fun p => I65 p) (μ := fun p => x66 p) (x0 := at2) hz67 sl (fun p hp => ?_)
 have h := hr68 p hp
 revert h; clear hp; generalize p = at50; intro h
 refine AWp.seq (AWp.seq (rN (pI rfl (pG rfl (pI rfl (pB rfl (pB rfl (sB 9 h (fun h => ?_) (fun h => ?_)))))))))
 ·refine pG rfl (pI rfl ?_)
  obtain ⟨hi58, x59, hx60, h⟩ := AtS.get h
  refine AOps.sidxE q01 rfl rfl rfl rfl rfl rfl rfl hi58 hx60 ?_
  refine pB rfl (pB rfl (pB rfl (sB 15 h (fun h => ?_) (fun h => ?_))))
  ·refine pG rfl (pI rfl ?_)
   obtain ⟨hi61, x62, hx63, h⟩ := AtS.get h
   refine AOps.sidxE q01 rfl rfl rfl rfl rfl rfl rfl hi61 hx63 ?_
   refine pB rfl (pB rfl (dn (cB h (fun h => ?_) (fun h => ?_))))
   ·refine AWp.skip (AWp.block (rN (pI rfl ?_)))
    obtain ⟨x64, ex64, h⟩ := h.get
    refine ai ex64 rfl (pI rfl (dn ?_))
    exact ⟨x64, h.1, h.2, sl⟩
   refine AWp.exit ?_
   refine sN (pI rfl (pI rfl (dn (AWp.ret ?_))))
   subst h
   exact ⟨_, rfl, rfl⟩
  refine fo 4 rfl (pB rfl (dn ?_))
  refine AWp.condF rfl ?_
  refine AWp.exit ?_
  refine sN (pI rfl (pI rfl (dn (AWp.ret ?_))))
  subst h
  exact ⟨_, rfl, rfl⟩
 refine fo 4 rfl (pB rfl (pB rfl (fo 4 rfl (pB rfl (dn ?_)))))
 refine AWp.condF rfl ?_
 refine AWp.exit ?_
 refine sN (pI rfl (pI rfl (dn (AWp.ret ?_))))
 subst h
 exact ⟨_, rfl, rfl⟩
end Go.Sim.YtifjflhnfjhijaaGreatDoor
