/- What is proved: functions of the program compute what plain statements tell. -/
import Derived.Test.YtlkpbnhinnhlfaaGreatZIVWE

namespace Go.Sim.YtlkpbnhinnhlfaaGreat
open Go.RowKit Go.Proofs Go.Proofs.Tryz
set_option maxRecDepth 100000
def W_ref04_Det (m1 : List (List Gref01Num)) (Q : Gref01Num → Prop) : Prop :=
 Br (((m1.length : Nat) : Int) == (0 : Int)) (
  Call (Ev_ref01_Int (1 : Int)) fun x5 =>
  Q x5) (
  At m1 (0 : Int) fun x8 =>
  Loop2 Gref01Num.zero (0 : Int) (fun (sum147 : Gref01Num) (x148 : Int) next149 =>
   Br (decide (x148 < ((x8.length : Nat) : Int))) (
    At x8 x148 fun x171 =>
    Call (Ev_ref04_without m1 (0 : Int) x148) fun x173 =>
    Call (Ev_ref04_Det x173) fun x175 =>
    Call (Ev_ref01_Product x171 x175) fun x177 =>
    Let (Int.tmod x148 (2 : Int)) fun x179 =>
    Join1 (fun j183 =>
     Br (x179 == (1 : Int)) (
      Call (Ev_ref01_Minus x177) fun x184 =>
      j183 x184) (
      j183 x177)
    ) (fun (d182 : Gref01Num) =>
     Call (Ev_ref01_Sum sum147 d182) fun x186 =>
     Let (IntKind.i64.wrap (x148 + (1 : Int))) fun x188 =>
     next149 x186 x188)) (
    Q sum147)))
theorem walk_ref04_Det {m1 : List (List Gref01Num)} {r : Gref01Num} (h : W_ref04_Det m1 (fun r' => r' = r)) : Ev_ref04_Det m1 r := by
  unfold W_ref04_Det at h
  refine intr (L := [(0, .dat (.sl 104 1 (List.map (eSl 69 3 Gref01Num.enc) m1)))]) Tryz.func46 Tryz.ntmps46 ?_
  refine sN (al0 ?_)
  refine dn (AWp.seq (AWp.seq (rN (pS rfl (al (((m1.length : Nat) : Int)) rfl (pB rfl (dn (cB h (fun h => ?_) (fun h => ?_)))))))))
  · refine sW (kC h rfl ⟨.inl rfl, trivial⟩ rfl fun x5 h => ?_)
    refine st (v := .dat (.st _ _)) ?_
    subst h; exact dn (AWp.ret ⟨_, rfl, rfl⟩)
  refine AWp.skip (AWp.seq (rW (pT rfl (al0 ?_))))
  refine st (v := .dat (.st _ _)) ?_
  refine dn (AWp.seq (AWp.seq (rN (pS rfl (kI h map_get rfl rfl rfl rfl rfl rfl rfl fun x8 h => ?_)))))
  refine pS rfl (al (((x8.length : Nat) : Int)) rfl (pI rfl (dn (AWp.block ?_))))
  obtain ⟨I191, x192, hz193, hr194⟩ := h
  refine AWp.loop (I := fun p : Gref01Num × Int => mkSt [(0, .dat (.sl 104 1 (List.map (eSl 69 3 Gref01Num.enc) m1))), (2, .pt 2 [] 0), (3, .pt 3 [] 0), (14, .dat (.sl 69 3 (List.map Gref01Num.enc x8))), (15, .dat (.v (.int .i64 ((x8.length : Nat) : Int)))), (16, .dat (.v (.int .i64 p.2)))] [(2, .box 69 3 (.dat (Gref01Num.enc Gref01Num.zero))), (3, .box 69 3 (.dat (Gref01Num.enc p.1)))]) (Inv := fun p => I191 p.1 p.2) (μ := fun p => x192 p.1 p.2) (x0 := ⟨Gref01Num.zero, (0 : Int)⟩) hz193 sl (fun p hp => ?_)
  obtain ⟨sum147, x148⟩ := p
  have h := hr194 sum147 x148 hp
  refine sN (pW rfl (dn (AWp.seq (cB h (fun h => ?_) (fun h => ?_)))))
  · refine AWp.skip (AWp.seq (AWp.block (AWp.seq (rW (pI rfl (kI h map_get rfl rfl rfl rfl rfl rfl rfl fun x171 h => ?_))))))
    refine pT rfl (al0 ?_)
    refine pI rfl (st (v := .dat (.st _ _)) ?_)
    refine dn (AWp.seq (rE [(0, []), (4, []), (5, [5]), (6, [6]), (22, []), (23, [])] (pT rfl (pS rfl (pI rfl (kC h rfl ⟨.inl rfl, .inl rfl, .inl rfl, trivial⟩ rfl fun x173 h => ?_))))))
    refine kC h rfl ⟨.inl rfl, trivial⟩ rfl fun x175 h => kC h rfl ⟨.inl rfl, .inl rfl, trivial⟩ rfl fun x177 h => al0 ?_
    refine st (v := .dat (.st _ _)) ?_
    refine dn (AWp.seq (AWp.seq (rN (pI rfl ?_))))
    obtain ⟨x179, ex179, h⟩ := h.get
    refine AOps.q rfl rfl rfl rfl rfl (rbin_rem (by decide)) ex179 ?_
    refine pB rfl (dn ?_)
    obtain ⟨J189, h, hk190⟩ := h
    refine AWp.cutK (I := fun p : Gref01Num => mkSt [(0, .dat (.sl 104 1 (List.map (eSl 69 3 Gref01Num.enc) m1))), (2, .pt 2 [] 0), (3, .pt 3 [] 0), (6, .pt 6 [] 0), (14, .dat (.sl 69 3 (List.map Gref01Num.enc x8))), (15, .dat (.v (.int .i64 ((x8.length : Nat) : Int)))), (16, .dat (.v (.int .i64 x148)))] [(2, .box 69 3 (.dat (Gref01Num.enc Gref01Num.zero))), (3, .box 69 3 (.dat (Gref01Num.enc sum147))), (6, .box 69 3 (.dat (Gref01Num.enc p)))]) (Inv := fun p : Gref01Num => J189 p) ?_ (fun p hp => ?_)
    · refine cB h (fun h => ?_) (fun h => ?_)
      · refine rW (pT rfl (kC h rfl ⟨.inl rfl, trivial⟩ rfl fun x184 h => ?_))
        refine st (v := .dat (.st _ _)) ?_
        refine dn ?_
        exact ⟨x184, h, sl⟩
      refine AWp.skip ?_
      exact ⟨x177, h, sl⟩
    replace h := hk190 p hp
    revert h; clear hp; generalize p = d182; intro h
    refine rW (pT rfl (pT rfl (kC h rfl ⟨.inl rfl, .inl rfl, trivial⟩ rfl fun x186 h => ?_)))
    refine st (v := .dat (.st _ _)) ?_
    refine dn (rN ?_)
    obtain ⟨x188, ex188, h⟩ := h.get
    refine ai ex188 rfl (pI rfl (dn ?_))
    exact ⟨⟨x186, x188⟩, h.1, h.2, sl⟩
  refine AWp.exit ?_
  refine sW (pT rfl (st (v := .dat (.st _ _)) ?_))
  subst h; exact dn (AWp.ret ⟨_, rfl, rfl⟩)
def W_ref04_Nums (m1 : List (List Nat)) (Q : List (List Gref01Num) → Prop) : Prop :=
 Loop2 ([] : List (List Gref01Num)) (0 : Int) (fun (out479 : List (List Gref01Num)) (x480 : Int) next481 =>
  Br (decide (x480 < ((m1.length : Nat) : Int))) (
   At m1 x480 fun x560 =>
   Loop2 ([] : List Gref01Num) (0 : Int) (fun (row615 : List Gref01Num) (x616 : Int) next617 =>
    Br (decide (x616 < ((x560.length : Nat) : Int))) (
     At x560 x616 fun x625 =>
     Call (Ev_ref01_Float x625) fun x627 =>
     App 40 row615 ([x627]) fun x629 =>
     Let (IntKind.i64.wrap (x616 + (1 : Int))) fun x630 =>
     next617 x629 x630) (
     App 24 out479 ([row615]) fun x631 =>
     Let (IntKind.i64.wrap (x480 + (1 : Int))) fun x632 =>
     next481 x631 x632))) (
   Q out479))
theorem walk_ref04_Nums {m1 : List (List Nat)} {r : List (List Gref01Num)} (h : W_ref04_Nums m1 (fun r' => r' = r)) : Ev_ref04_Nums m1 r := by
  unfold W_ref04_Nums at h
  refine intr (L := [(0, .dat (.sl 27 1 (List.map (eSl 28 1 (eFlt .f64)) m1)))]) Tryz.func45 Tryz.ntmps45 ?_
  refine sN (pS rfl (dn (AWp.seq (rN ?_))))
  refine AOps.litown tabOk (ys := []) rfl rfl rfl rfl rfl rfl rfl rfl ?_
  refine pO rfl (dn (AWp.seq (AWp.seq (rN (pS rfl (al (((m1.length : Nat) : Int)) rfl (pI rfl (dn (AWp.block ?_)))))))))
  obtain ⟨I637, x638, hz639, hr640⟩ := h
  refine AWp.loop (I := fun p : (List (List Gref01Num)) × Int => mkSt [(3, .oref 1003), (10, .dat (.sl 27 1 (List.map (eSl 28 1 (eFlt .f64)) m1))), (11, .dat (.v (.int .i64 ((m1.length : Nat) : Int)))), (12, .dat (.v (.int .i64 p.2)))] [(1003, .row 104 1 (List.map (eSl 69 3 Gref01Num.enc) p.1))]) (Inv := fun p => I637 p.1 p.2) (μ := fun p => x638 p.1 p.2) (x0 := ⟨([] : List (List Gref01Num)), (0 : Int)⟩) hz639 (slf (fun i => (if Nat.beq i 1003 then 9 else i))) (fun p hp => ?_)
  obtain ⟨out479, x480⟩ := p
  have h := hr640 out479 x480 hp
  refine sN (pW rfl (dn (AWp.seq (cB h (fun h => ?_) (fun h => ?_)))))
  · refine AWp.skip (AWp.seq (AWp.block (AWp.seq (rN (kI h map_get rfl rfl rfl rfl rfl rfl rfl fun x560 h => ?_)))))
    refine pS rfl (pS rfl (dn (AWp.seq (rN ?_))))
    refine AOps.litown tabOk (ys := []) rfl rfl rfl rfl rfl rfl rfl rfl ?_
    refine pO rfl (dn (AWp.seq (AWp.seq (rN (pS rfl (al (((x560.length : Nat) : Int)) rfl (pI rfl (dn (AWp.block ?_)))))))))
    obtain ⟨I633, x634, hz635, hr636⟩ := h
    refine AWp.loop (I := fun p : (List Gref01Num) × Int => mkSt [(3, .oref 1003), (6, .oref 1006), (10, .dat (.sl 27 1 (List.map (eSl 28 1 (eFlt .f64)) m1))), (11, .dat (.v (.int .i64 ((m1.length : Nat) : Int)))), (12, .dat (.v (.int .i64 x480))), (17, .dat (.sl 28 1 (List.map (eFlt .f64) x560))), (18, .dat (.v (.int .i64 ((x560.length : Nat) : Int)))), (19, .dat (.v (.int .i64 p.2)))] [(1003, .row 104 1 (List.map (eSl 69 3 Gref01Num.enc) out479)), (1006, .row 69 3 (List.map Gref01Num.enc p.1))]) (Inv := fun p => I633 p.1 p.2) (μ := fun p => x634 p.1 p.2) (x0 := ⟨([] : List Gref01Num), (0 : Int)⟩) hz635 (slf (fun i => (if Nat.beq i 1006 then 16 else i))) (fun p hp => ?_)
    obtain ⟨row615, x616⟩ := p
    have h := hr636 row615 x616 hp
    refine sN (pW rfl (dn (AWp.seq (cB h (fun h => ?_) (fun h => ?_)))))
    · refine AWp.skip (AWp.seq (AWp.block (AWp.seq (rN (kI h map_get rfl rfl rfl rfl rfl rfl rfl fun x625 h => ?_)))))
      refine pF rfl (pF rfl (dn (rW (pO rfl (pF rfl (kC h rfl ⟨.inl rfl, trivial⟩ rfl fun x627 h => ?_))))))
      refine AOps.lit tabOk (ys := [Gref01Num.enc x627]) rfl rfl rfl rfl rfl rfl ?_
      obtain ⟨h1, h2, x629, ex629, h⟩ := h.get
      refine AOps.append tabOk rfl rfl rfl rfl rfl rfl rfl rfl rfl rfl rfl (.inl ⟨_, rfl⟩) (app1 h1) (app2 h2) (app3 ex629) ?_
      refine pO rfl (dn (rN ?_))
      obtain ⟨x630, ex630, h⟩ := h.get
      refine ai ex630 rfl (pI rfl (dn ?_))
      exact ⟨⟨x629, x630⟩, h.1, h.2, (slf (fun i => (if Nat.beq i 1006 then 27 else i)))⟩
    refine AWp.exit ?_
    refine AWp.freeze 6 1006 rfl rfl ?_
    refine rW (pO rfl (pS rfl ?_))
    refine AOps.lit tabOk (ys := [.sl 69 3 (List.map Gref01Num.enc row615)]) rfl rfl rfl rfl rfl rfl ?_
    obtain ⟨h1, h2, x631, ex631, h⟩ := h.get
    refine AOps.append tabOk rfl rfl rfl rfl rfl rfl rfl rfl rfl rfl rfl (.inl ⟨_, rfl⟩) (app1 h1) (app2 h2) (app3 ex631) ?_
    refine pO rfl (dn (rN ?_))
    obtain ⟨x632, ex632, h⟩ := h.get
    refine ai ex632 rfl (pI rfl (dn ?_))
    exact ⟨⟨x631, x632⟩, h.1, h.2, (slf (fun i => (if Nat.beq i 1003 then 32 else i)))⟩
  refine AWp.exit ?_
  refine sN (pO rfl (pO rfl (dn (AWp.ret ?_))))
  subst h
  exact ⟨_, rfl, rfl⟩
def W_ulp_Div (x1 : Nat) (x2 : Nat) (x3 : Int) (Q : Nat → Prop) : Prop :=
 Call (Ev_ulp_both x1 x2) fun x4 =>
 Br (FloatKind.f64.format.order x2 (0 : Nat) == some .eq) (
  Call (Ev_math_NaN) fun x11 =>
  Q x11) (
  Br (!x4.2.2) (
   FOp .quo x1 x2 fun x13 =>
   Call (Ev_ulp_clean x13) fun x14 =>
   Q x14) (
   Br (x4.1.M == (0 : Int)) (Q (0 : Nat)) (
    Call (Ev_math_bits_LeadingZeros64 x4.1.M) fun x16 =>
    Call (Ev_math_bits_LeadingZeros64 x4.2.1.M) fun x18 =>
    Nn x16 <|
    Let (IntKind.u64.wrap (x4.1.M * 2 ^ (min (Int.toNat x16) 64))) fun x20 =>
    Nn x18 <|
    Let (IntKind.u64.wrap (x4.2.1.M * 2 ^ (min (Int.toNat x18) 64))) fun x21 =>
    Let (Int.fdiv x20 (2 ^ 1)) fun x22 =>
    Let (IntKind.u64.wrap (x20 * 2 ^ 63)) fun x23 =>
    Call (Ev_math_bits_Div64 x22 x23 x21) fun x24 =>
    Let (IntKind.i64.wrap (x4.1.E - x16)) fun x26 =>
    Let (IntKind.i64.wrap (x4.2.1.E - x18)) fun x27 =>
    Let (IntKind.i64.wrap (x26 - x27)) fun x28 =>
    Let (IntKind.i64.wrap (x28 - (63 : Int))) fun x29 =>
    Call (Ev_ulp_value_round ({ Gulpvalue.zero with neg_ := (x4.1.Neg != x4.2.1.Neg), lo_ := x24.1, e_ := x29, more_ := (decide (x24.2 > (0 : Int))) }) x3) fun x30 =>
    Q x30)))
theorem walk_ulp_Div {x1 : Nat} {x2 : Nat} {x3 : Int} {r : Nat} (h : W_ulp_Div x1 x2 x3 (fun r' => r' = r)) : Ev_ulp_Div x1 x2 x3 r := by
  unfold W_ulp_Div at h
  refine intr (L := [(0, .dat (.v (.float .f64 x1))), (1, .dat (.v (.float .f64 x2))), (2, .dat (.v (.int .i64 x3)))]) Tryz.func37 Tryz.ntmps37 ?_
  refine sN (pF rfl (dn (AWp.seq (rW (pF rfl (pF rfl (kC h rfl ⟨.inl rfl, .inl rfl, trivial⟩ rfl fun x4 h => ?_)))))))
  refine pU rfl (pT rfl (pT rfl (pB rfl (al0 ?_))))
  refine al0 ?_
  refine st (v := .dat (.st _ _)) ?_
  refine st (v := .dat (.st _ _)) ?_
  refine pB rfl (dn (AWp.seq (AWp.block (AWp.seq (rN (pF rfl (pB rfl (pB rfl (dn (cB h (fun h => ?_) (fun h => ?_)))))))))))
  · refine sN (kC h rfl trivial rfl fun x11 h => ?_)
    refine pF rfl (dn (AWp.ret ?_))
    subst h
    exact ⟨_, rfl, rfl⟩
  refine sN (pB rfl (pB rfl (pB rfl (dn (cB h (fun h => ?_) (fun h => ?_))))))
  · refine sN (pF rfl (pF rfl ?_))
    obtain ⟨x13, hq, h⟩ := h
    refine AOps.v rfl rfl (Step.flt rfl rfl rfl hq) ?_
    refine kC h rfl ⟨.inl rfl, trivial⟩ rfl fun x14 h => pF rfl ?_
    subst h; exact dn (AWp.ret ⟨_, rfl, rfl⟩)
  refine sN (pP rfl (pI rfl (pB rfl (pB rfl (dn (cB h (fun h => ?_) (fun h => ?_)))))))
  · refine sN (pF rfl (dn (AWp.ret ?_)))
    subst h
    exact ⟨_, rfl, rfl⟩
  refine AWp.skip (AWp.seq (rD (pP rfl (pI rfl (kC h rfl ⟨.inl rfl, trivial⟩ rfl fun x16 h => ?_)))))
  refine pP rfl (pI rfl (kC h rfl ⟨.inl rfl, trivial⟩ rfl fun x18 h => ?_))
  refine pI rfl (pI rfl (dn (AWp.seq (rD (pP rfl (pI rfl (pI rfl ?_)))))))
  obtain ⟨hq, h⟩ := h
  obtain ⟨x20, ex20, h⟩ := h.get
  refine AOps.q rfl rfl rfl rfl rfl (rbin_shl hq) ex20 ?_
  refine pP rfl (pI rfl (pI rfl ?_))
  obtain ⟨hq, h⟩ := h
  obtain ⟨x21, ex21, h⟩ := h.get
  refine AOps.q rfl rfl rfl rfl rfl (rbin_shl hq) ex21 ?_
  refine pI rfl (pI rfl (dn (AWp.seq (rN (pI rfl ?_)))))
  obtain ⟨x22, ex22, h⟩ := h.get
  refine AOps.q rfl rfl rfl rfl rfl (rbin_shr (by decide)) ex22 ?_
  refine pI rfl ?_
  obtain ⟨x23, ex23, h⟩ := h.get
  refine AOps.q rfl rfl rfl rfl rfl (rbin_shl (by decide)) ex23 ?_
  refine pI rfl (kC h rfl ⟨.inl rfl, .inl rfl, .inl rfl, trivial⟩ rfl fun x24 h => ?_)
  refine pU rfl (pI rfl (pI rfl (pI rfl (pI rfl (dn (AWp.seq (rN (pP rfl (pB rfl (pP rfl (pB rfl (pB rfl (pI rfl (pP rfl (pI rfl (pI rfl ?_))))))))))))))))
  obtain ⟨x26, ex26, h⟩ := h.get
  refine ai ex26 rfl (pP rfl (pI rfl (pI rfl ?_)))
  obtain ⟨x27, ex27, h⟩ := h.get
  refine ai ex27 rfl ?_
  obtain ⟨x28, ex28, h⟩ := h.get
  refine ai ex28 rfl ?_
  obtain ⟨x29, ex29, h⟩ := h.get
  refine ai ex29 rfl (pI rfl (pB rfl (pT rfl (pI rfl (kC h rfl ⟨.inl rfl, .inl rfl, trivial⟩ rfl fun x30 h => ?_)))))
  refine pF rfl (dn (AWp.ret ?_))
  subst h
  exact ⟨_, rfl, rfl⟩
def W_ulp_Sub (a1 : Nat) (b2 : Nat) (dir3 : Int) (Q : Nat → Prop) : Prop :=
 Let (Op.negFloat .f64 b2) fun x4 =>
 Call (Ev_ulp_Add a1 x4 dir3) fun x5 =>
 Q x5
theorem walk_ulp_Sub {a1 : Nat} {b2 : Nat} {dir3 : Int} {r : Nat} (h : W_ulp_Sub a1 b2 dir3 (fun r' => r' = r)) : Ev_ulp_Sub a1 b2 dir3 r := by
  unfold W_ulp_Sub at h
  refine intr (L := [(0, .dat (.v (.float .f64 a1))), (1, .dat (.v (.float .f64 b2))), (2, .dat (.v (.int .i64 dir3)))]) Tryz.func38 Tryz.ntmps38 ?_
  refine sN (pF rfl (dn (AWp.seq (rN (pF rfl (pF rfl ?_))))))
  obtain ⟨x4, ex4, h⟩ := h.get
  refine AOps.fl tabOk rfl rfl rfl ex4 ?_
  refine pI rfl (kC h rfl ⟨.inl rfl, .inl rfl, .inl rfl, trivial⟩ rfl fun x5 h => ?_)
  refine pF rfl (dn (AWp.ret ?_))
  subst h
  exact ⟨_, rfl, rfl⟩
def W_ref04_without (m1 : List (List Gref01Num)) (i2 : Int) (j3 : Int) (Q : List (List Gref01Num) → Prop) : Prop :=
 Loop2 ([] : List (List Gref01Num)) (0 : Int) (fun (out412 : List (List Gref01Num)) (x413 : Int) next414 =>
  Br (decide (x413 < ((m1.length : Nat) : Int))) (
   At m1 x413 fun x481 =>
   Br (x413 == i2) (
    Let (IntKind.i64.wrap (x413 + (1 : Int))) fun x483 =>
    next414 out412 x483) (
    Loop2 ([] : List Gref01Num) (0 : Int) (fun (row528 : List Gref01Num) (x529 : Int) next530 =>
     Br (decide (x529 < ((x481.length : Nat) : Int))) (
      At x481 x529 fun x536 =>
      Br (x529 != j3) (
       App 40 row528 ([x536]) fun x538 =>
       Let (IntKind.i64.wrap (x529 + (1 : Int))) fun x539 =>
       next530 x538 x539) (
       Let (IntKind.i64.wrap (x529 + (1 : Int))) fun x540 =>
       next530 row528 x540)) (
      App 24 out412 ([row528]) fun x541 =>
      Let (IntKind.i64.wrap (x413 + (1 : Int))) fun x542 =>
      next414 x541 x542)))) (
   Q out412))
theorem walk_ref04_without {m1 : List (List Gref01Num)} {i2 : Int} {j3 : Int} {r : List (List Gref01Num)} (h : W_ref04_without m1 i2 j3 (fun r' => r' = r)) : Ev_ref04_without m1 i2 j3 r := by
  unfold W_ref04_without at h
  refine intr (L := [(0, .dat (.sl 104 1 (List.map (eSl 69 3 Gref01Num.enc) m1))), (1, .dat (.v (.int .i64 i2))), (2, .dat (.v (.int .i64 j3)))]) Tryz.func48 Tryz.ntmps48 ?_
  refine sN (pS rfl (dn (AWp.seq (rN ?_))))
  refine AOps.litown tabOk (ys := []) rfl rfl rfl rfl rfl rfl rfl rfl ?_
  refine pO rfl (dn (AWp.seq (AWp.seq (rN (pS rfl (al (((m1.length : Nat) : Int)) rfl (pI rfl (dn (AWp.block ?_)))))))))
  obtain ⟨I547, x548, hz549, hr550⟩ := h
  refine AWp.loop (I := fun p : (List (List Gref01Num)) × Int => mkSt [(1, .dat (.v (.int .i64 i2))), (2, .dat (.v (.int .i64 j3))), (7, .oref 1007), (14, .dat (.sl 104 1 (List.map (eSl 69 3 Gref01Num.enc) m1))), (15, .dat (.v (.int .i64 ((m1.length : Nat) : Int)))), (16, .dat (.v (.int .i64 p.2)))] [(1007, .row 104 1 (List.map (eSl 69 3 Gref01Num.enc) p.1))]) (Inv := fun p => I547 p.1 p.2) (μ := fun p => x548 p.1 p.2) (x0 := ⟨([] : List (List Gref01Num)), (0 : Int)⟩) hz549 (slf (fun i => (if Nat.beq i 1007 then 13 else i))) (fun p hp => ?_)
  obtain ⟨out412, x413⟩ := p
  have h := hr550 out412 x413 hp
  refine sN (pW rfl (dn (AWp.seq (cB h (fun h => ?_) (fun h => ?_)))))
  · refine AWp.skip (AWp.seq (AWp.block (AWp.seq (rN (pI rfl (kI h map_get rfl rfl rfl rfl rfl rfl rfl fun x481 h => ?_))))))
    refine pS rfl (pI rfl (pS rfl (dn (AWp.seq (AWp.seq (rN (pI rfl (pI rfl (pB rfl (dn (cB h (fun h => ?_) (fun h => ?_))))))))))))
    · refine AWp.exit ?_
      refine rN ?_
      obtain ⟨x483, ex483, h⟩ := h.get
      refine ai ex483 rfl (pI rfl (dn ?_))
      exact ⟨⟨out412, x483⟩, h.1, h.2, sl⟩
    refine AWp.skip (AWp.seq (rN ?_))
    refine AOps.litown tabOk (ys := []) rfl rfl rfl rfl rfl rfl rfl rfl ?_
    refine pO rfl (dn (AWp.seq (AWp.seq (rN (pS rfl (al (((x481.length : Nat) : Int)) rfl (pI rfl (dn (AWp.block ?_)))))))))
    obtain ⟨I543, x544, hz545, hr546⟩ := h
    refine AWp.loop (I := fun p : (List Gref01Num) × Int => mkSt [(1, .dat (.v (.int .i64 i2))), (2, .dat (.v (.int .i64 j3))), (7, .oref 1007), (10, .oref 1010), (14, .dat (.sl 104 1 (List.map (eSl 69 3 Gref01Num.enc) m1))), (15, .dat (.v (.int .i64 ((m1.length : Nat) : Int)))), (16, .dat (.v (.int .i64 x413))), (25, .dat (.sl 69 3 (List.map Gref01Num.enc x481))), (26, .dat (.v (.int .i64 ((x481.length : Nat) : Int)))), (27, .dat (.v (.int .i64 p.2)))] [(1007, .row 104 1 (List.map (eSl 69 3 Gref01Num.enc) out412)), (1010, .row 69 3 (List.map Gref01Num.enc p.1))]) (Inv := fun p => I543 p.1 p.2) (μ := fun p => x544 p.1 p.2) (x0 := ⟨([] : List Gref01Num), (0 : Int)⟩) hz545 (slf (fun i => (if Nat.beq i 1010 then 24 else i))) (fun p hp => ?_)
    obtain ⟨row528, x529⟩ := p
    have h := hr546 row528 x529 hp
    refine sN (pW rfl (dn (AWp.seq (cB h (fun h => ?_) (fun h => ?_)))))
    · refine AWp.skip (AWp.seq (AWp.block (AWp.seq (rW (pI rfl (kI h map_get rfl rfl rfl rfl rfl rfl rfl fun x536 h => ?_))))))
      refine pT rfl (al0 ?_)
      refine pI rfl (st (v := .dat (.st _ _)) ?_)
      refine dn (sN (pI rfl (pI rfl (pB rfl (dn (cB h (fun h => ?_) (fun h => ?_)))))))
      · refine rW (pO rfl (pT rfl ?_))
        refine AOps.lit tabOk (ys := [Gref01Num.enc x536]) rfl rfl rfl rfl rfl rfl ?_
        obtain ⟨h1, h2, x538, ex538, h⟩ := h.get
        refine AOps.append tabOk rfl rfl rfl rfl rfl rfl rfl rfl rfl rfl rfl (.inl ⟨_, rfl⟩) (app1 h1) (app2 h2) (app3 ex538) ?_
        refine pO rfl (dn (rN ?_))
        obtain ⟨x539, ex539, h⟩ := h.get
        refine ai ex539 rfl (pI rfl (dn ?_))
        exact ⟨⟨x538, x539⟩, h.1, h.2, (slf (fun i => (if Nat.beq i 1010 then 38 else i)))⟩
      refine AWp.skip (rN ?_)
      obtain ⟨x540, ex540, h⟩ := h.get
      refine ai ex540 rfl (pI rfl (dn ?_))
      exact ⟨⟨row528, x540⟩, h.1, h.2, sl⟩
    refine AWp.exit ?_
    refine AWp.freeze 10 1010 rfl rfl ?_
    refine rW (pO rfl (pS rfl ?_))
    refine AOps.lit tabOk (ys := [.sl 69 3 (List.map Gref01Num.enc row528)]) rfl rfl rfl rfl rfl rfl ?_
    obtain ⟨h1, h2, x541, ex541, h⟩ := h.get
    refine AOps.append tabOk rfl rfl rfl rfl rfl rfl rfl rfl rfl rfl rfl (.inl ⟨_, rfl⟩) (app1 h1) (app2 h2) (app3 ex541) ?_
    refine pO rfl (dn (rN ?_))
    obtain ⟨x542, ex542, h⟩ := h.get
    refine ai ex542 rfl (pI rfl (dn ?_))
    exact ⟨⟨x541, x542⟩, h.1, h.2, (slf (fun i => (if Nat.beq i 1007 then 43 else i)))⟩
  refine AWp.exit ?_
  refine sN (pO rfl (pO rfl (dn (AWp.ret ?_))))
  subst h
  exact ⟨_, rfl, rfl⟩
def W_ref01_Minus (a1 : Gref01Num) (Q : Gref01Num → Prop) : Prop :=
 Br (!a1.Neg) (Q ({ a1 with Neg := (decide (((a1.M.length : Nat) : Int) > (0 : Int))) })) (
  Q ({ a1 with Neg := false }))
theorem walk_ref01_Minus {a1 : Gref01Num} {r : Gref01Num} (h : W_ref01_Minus a1 (fun r' => r' = r)) : Ev_ref01_Minus a1 r := by
  unfold W_ref01_Minus at h
  refine intr (L := [(0, .dat (Gref01Num.enc a1))]) Tryz.func49 Tryz.ntmps49 ?_
  refine sN (bx (v := .dat (.st _ _)) ?_)
  refine al0 ?_
  refine dn (sW (pP rfl (pB rfl (pB rfl (pB rfl (sB 6 h (fun h => ?_) (fun h => ?_)))))))
  · refine pP rfl (pS rfl (al (((a1.M.length : Nat) : Int)) rfl (pB rfl (pB rfl (pP rfl (st (v := .dat (.v (.bool _))) ?_))))))
    refine dn (sW (pT rfl (st (v := .dat (.st _ _)) ?_)))
    subst h; exact dn (AWp.ret ⟨_, rfl, rfl⟩)
  refine fo 4 rfl (pB rfl (pP rfl (st (v := .dat (.v (.bool _))) ?_)))
  refine dn (sW (pT rfl (st (v := .dat (.st _ _)) ?_)))
  subst h; exact dn (AWp.ret ⟨_, rfl, rfl⟩)
def W_math_Frexp (f1 : Nat) (Q : Nat × Int → Prop) : Prop :=
 Call (Ev_math_frexp f1) fun x2 =>
 Q (x2.1, x2.2)
theorem walk_math_Frexp {f1 : Nat} {r : Nat × Int} (h : W_math_Frexp f1 (fun r' => r' = r)) : Ev_math_Frexp f1 r := by
  unfold W_math_Frexp at h
  refine intr (L := [(0, .dat (.v (.float .f64 f1)))]) Tryz.func73 Tryz.ntmps73 ?_
  refine sN (pF rfl (pI rfl (dn (AWp.seq ?_))))
  refine AWp.condF rfl ?_
  refine AWp.skip (AWp.seq (rN (pF rfl (kC h rfl ⟨.inl rfl, trivial⟩ rfl fun x2 h => ?_))))
  refine pF rfl (pI rfl (pF rfl (pI rfl (dn (AWp.ret ?_)))))
  subst h
  exact ⟨_, rfl, rfl⟩
def W_ival_Sub (x1 : GIval) (y2 : GIval) (Q : GIval → Prop) : Prop :=
 Call (Ev_ival_Neg y2) fun x3 =>
 Call (Ev_ival_Add x1 x3) fun x5 =>
 Q x5
theorem walk_ival_Sub {x1 : GIval} {y2 : GIval} {r : GIval} (h : W_ival_Sub x1 y2 (fun r' => r' = r)) : Ev_ival_Sub x1 y2 r := by
  unfold W_ival_Sub at h
  refine intr (L := [(0, .dat (GIval.enc x1)), (1, .dat (GIval.enc y2))]) Tryz.func78 Tryz.ntmps78 ?_
  refine sN (bx (v := .dat (.st _ _)) ?_)
  refine bx (v := .dat (.st _ _)) ?_
  refine al0 ?_
  refine dn (AWp.seq (rE [(2, [2]), (3, [3]), (4, [4])] (pT rfl (pT rfl (kC h rfl ⟨.inl rfl, trivial⟩ rfl fun x3 h => ?_)))))
  refine kC h rfl ⟨.inl rfl, .inl rfl, trivial⟩ rfl fun x5 h => st (v := .dat (.st _ _)) ?_
  subst h; exact dn (AWp.ret ⟨_, rfl, rfl⟩)
def W_math_frexp (f1 : Nat) (Q : Nat × Int → Prop) : Prop :=
 Br (FloatKind.f64.format.order f1 (0 : Nat) == some .eq) (Q (f1, (0 : Int))) (
  Call (Ev_math_IsInf f1 (0 : Int)) fun x14 =>
  Br x14 (Q (f1, (0 : Int))) (
   Call (Ev_math_IsNaN f1) fun x16 =>
   Br x16 (Q (f1, (0 : Int))) (
    Call (Ev_math_normalize f1) fun x18 =>
    Call (Ev_math_Float64bits x18.1) fun x20 =>
    Let (Int.fdiv x20 (2 ^ 52)) fun x22 =>
    Let (bits .and .u64 x22 (2047 : Int)) fun x23 =>
    Let (IntKind.i64.wrap x23) fun x24 =>
    Let (IntKind.i64.wrap (x24 - (1023 : Int))) fun x25 =>
    Let (IntKind.i64.wrap (x25 + (1 : Int))) fun x26 =>
    Let (IntKind.i64.wrap (x18.2 + x26)) fun x27 =>
    Let (bits .andNot .u64 x20 (9218868437227405312 : Int)) fun x28 =>
    Let (bits .or .u64 x28 (4602678819172646912 : Int)) fun x29 =>
    Call (Ev_math_Float64frombits x29) fun x30 =>
    Q (x30, x27))))
theorem walk_math_frexp {f1 : Nat} {r : Nat × Int} (h : W_math_frexp f1 (fun r' => r' = r)) : Ev_math_frexp f1 r := by
  unfold W_math_frexp at h
  refine intr (L := [(0, .dat (.v (.float .f64 f1)))]) Tryz.func106 Tryz.ntmps106 ?_
  refine sN (pF rfl (pI rfl (dn (AWp.seq (AWp.block (AWp.seq (rN (pF rfl (pB rfl (pB rfl (dn (cB h (fun h => ?_) (fun h => ?_)))))))))))))
  · refine sN (pF rfl (pF rfl (pI rfl (dn (AWp.ret ?_)))))
    subst h
    exact ⟨_, rfl, rfl⟩
  refine sN (pF rfl (kC h rfl ⟨.inl rfl, .inl rfl, trivial⟩ rfl fun x14 h => ?_))
  refine pB rfl (sB 12 h (fun h => ?_) (fun h => ?_))
  · refine ff rfl (ff rfl (pB rfl (pB rfl (dn ?_))))
    refine AWp.condT rfl ?_
    refine sN (pF rfl (pF rfl (pI rfl (dn (AWp.ret ?_)))))
    subst h
    exact ⟨_, rfl, rfl⟩
  refine pF rfl (kC h rfl ⟨.inl rfl, trivial⟩ rfl fun x16 h => ?_)
  refine pB rfl (pB rfl (dn (cB h (fun h => ?_) (fun h => ?_))))
  · refine sN (pF rfl (pF rfl (pI rfl (dn (AWp.ret ?_)))))
    subst h
    exact ⟨_, rfl, rfl⟩
  refine AWp.skip (AWp.seq (rN (pF rfl (kC h rfl ⟨.inl rfl, trivial⟩ rfl fun x18 h => ?_))))
  refine pU rfl (pF rfl (pI rfl (pF rfl (pI rfl (dn (AWp.seq (rN (pF rfl ?_))))))))
  obtain ⟨x20, hc21, h⟩ := h
  refine AOps.extC hc21 rfl rfl rfl (.cons rfl .nil) ?_
  refine pI rfl (dn (AWp.seq (rN (pI rfl (pI rfl ?_)))))
  obtain ⟨x22, ex22, h⟩ := h.get
  refine AOps.q rfl rfl rfl rfl rfl (rbin_shr (by decide)) ex22 ?_
  obtain ⟨x23, ex23, h⟩ := h.get
  refine ai ex23 rfl ?_
  obtain ⟨x24, ex24, h⟩ := h.get
  refine ai ex24 rfl ?_
  obtain ⟨x25, ex25, h⟩ := h.get
  refine ai ex25 rfl ?_
  obtain ⟨x26, ex26, h⟩ := h.get
  refine ai ex26 rfl ?_
  obtain ⟨x27, ex27, h⟩ := h.get
  refine ai ex27 rfl (pI rfl (dn (AWp.seq (rN (pI rfl ?_)))))
  obtain ⟨x28, ex28, h⟩ := h.get
  refine ai ex28 rfl (pI rfl (dn (AWp.seq (rN (pI rfl ?_)))))
  obtain ⟨x29, ex29, h⟩ := h.get
  refine ai ex29 rfl (pI rfl (dn (AWp.seq (rN (pI rfl ?_)))))
  obtain ⟨x30, hc31, h⟩ := h
  refine AOps.extC hc31 rfl rfl rfl (.cons rfl .nil) ?_
  refine pF rfl (dn (AWp.ret ?_))
  subst h
  exact ⟨_, rfl, rfl⟩
def W_ival_Neg (x1 : GIval) (Q : GIval → Prop) : Prop :=
 Call (Ev_ival_none ([x1])) fun x2 =>
 Br x2 (
  Call (Ev_ival_Empty) fun x6 =>
  Q x6) (
  Let (Op.negFloat .f64 x1.Hi) fun x8 =>
  Let (Op.negFloat .f64 x1.Lo) fun x9 =>
  Call (Ev_ival_Make x8 x9) fun x10 =>
  Q x10)
theorem walk_ival_Neg {x1 : GIval} {r : GIval} (h : W_ival_Neg x1 (fun r' => r' = r)) : Ev_ival_Neg x1 r := by
  unfold W_ival_Neg at h
  refine intr (L := [(0, .dat (GIval.enc x1))]) Tryz.func109 Tryz.ntmps109 ?_
  refine sN (bx (v := .dat (.st _ _)) ?_)
  refine al0 ?_
  refine dn (AWp.seq (AWp.seq (rN (pT rfl ?_))))
  refine AOps.lit tabOk (ys := [GIval.enc x1]) rfl rfl rfl rfl rfl rfl ?_
  refine kC h rfl ⟨.inl rfl, trivial⟩ rfl fun x2 h => dn ?_
  refine cB h (fun h => ?_) (fun h => ?_)
  · refine sW (kC h rfl trivial rfl fun x6 h => ?_)
    refine st (v := .dat (.st _ _)) ?_
    subst h; exact dn (AWp.ret ⟨_, rfl, rfl⟩)
  refine AWp.skip (AWp.seq (rW (pP rfl (pF rfl ?_))))
  obtain ⟨x8, ex8, h⟩ := h.get
  refine AOps.fl tabOk rfl rfl rfl ex8 ?_
  refine pP rfl (pF rfl ?_)
  obtain ⟨x9, ex9, h⟩ := h.get
  refine AOps.fl tabOk rfl rfl rfl ex9 ?_
  refine kC h rfl ⟨.inl rfl, .inl rfl, trivial⟩ rfl fun x10 h => st (v := .dat (.st _ _)) ?_
  subst h; exact dn (AWp.ret ⟨_, rfl, rfl⟩)
end Go.Sim.YtlkpbnhinnhlfaaGreat
