/- What is proved: functions of the program compute what plain statements tell. -/
import Derived.Test.YtlglkgineclggaaDoorZRTWE
namespace Go.Sim.YtlglkgineclggaaDoor
open Go.RowKit Go.Proofs Go.Proofs.Tryd
set_option maxRecDepth 100000
def W_law11_RatTells (a1 : GRat) (Q : Bool → Prop) : Prop :=
  Call (Ev_rat_Print a1) fun x12 =>
  Call (Ev_ref11_Print a1) fun x14 =>
  Br (x12.toList == x14.toList) (
    Call (Ev_rat_Hold a1) fun x16 =>
    Call (Ev_ref11_Hold a1) fun x18 =>
    Call (Ev_ref02_Same x16 x18) fun x20 =>
    Q x20) (
    Q false)
theorem walk_law11_RatTells {a1 : GRat} {r : Bool} (h : W_law11_RatTells a1 (fun r' => r' = r)) : Ev_law11_RatTells a1 r := by
  unfold W_law11_RatTells at h
  refine AFn.intro' (L := [(0, .dat (GRat.enc a1))]) tabOk Tryd.func3 rfl rfl Tryd.ntmps3 rfl rfl rfl ?_
  refine AWp.seq ?_
  refine AWp.regionN (fun _ => false) rfl ?_
  refine AOps.box (v := .dat (.st _ _)) rfl rfl rfl rfl rfl rfl ?_
  refine pB rfl rfl rfl ?_
  refine AOps.done ?_
  refine AWp.seq ?_
  refine AWp.regionD (fun _ => false) mixed (by decide +kernel) rfl ?_
  refine pT rfl rfl rfl ?_
  obtain ⟨x12, hc13, h⟩ := h
  refine AOps.call hc13 rfl rfl rfl ⟨.inl rfl, trivial⟩ ?_
  refine pT rfl rfl rfl ?_
  obtain ⟨x14, hc15, h⟩ := h
  refine AOps.call hc15 rfl rfl rfl ⟨.inl rfl, trivial⟩ ?_
  refine pB rfl rfl rfl ?_
  refine pB rfl rfl rfl ?_
  refine AOps.splitB 8 rfl (fun e => ?_) (fun e => ?_)
  · replace h := h.1 e
    refine pT rfl rfl rfl ?_
    obtain ⟨x16, hc17, h⟩ := h
    refine AOps.call hc17 rfl rfl rfl ⟨.inl rfl, trivial⟩ ?_
    refine pT rfl rfl rfl ?_
    obtain ⟨x18, hc19, h⟩ := h
    refine AOps.call hc19 rfl rfl rfl ⟨.inl rfl, trivial⟩ ?_
    obtain ⟨x20, hc21, h⟩ := h
    refine AOps.call hc21 rfl rfl rfl ⟨.inl rfl, .inl rfl, trivial⟩ ?_
    refine pB rfl rfl rfl ?_
    refine pB rfl rfl rfl ?_
    refine AOps.done ?_
    refine AWp.ret ?_
    subst h
    exact ⟨_, rfl, rfl⟩
  · replace h := h.2 e
    refine AOps.off rfl rfl ?_
    refine AOps.off rfl rfl ?_
    refine AOps.off rfl rfl ?_
    refine AOps.off rfl rfl ?_
    refine AOps.off rfl rfl ?_
    refine pB rfl rfl rfl ?_
    refine pB rfl rfl rfl ?_
    refine AOps.done ?_
    refine AWp.ret ?_
    subst h
    exact ⟨_, rfl, rfl⟩
def W_rat_Print (a1 : GRat) (Q : ByteArray → Prop) : Prop :=
  Call (Ev_rat_Right a1) fun x6 =>
  Br (!x6) (Q (ByteArray.mk #[])) (
    Br (a1.D == (1 : Int)) (
      Call (Ev_strconv_FormatInt a1.N (10 : Int)) fun x8 =>
      Q x8) (
      Call (Ev_strconv_FormatInt a1.N (10 : Int)) fun x10 =>
      Cat x10 (ByteArray.mk #[47]) fun x12 =>
      Call (Ev_strconv_FormatInt a1.D (10 : Int)) fun x13 =>
      Cat x12 x13 fun x15 =>
      Q x15))
theorem walk_rat_Print {a1 : GRat} {r : ByteArray} (h : W_rat_Print a1 (fun r' => r' = r)) : Ev_rat_Print a1 r := by
  unfold W_rat_Print at h
  refine AFn.intro' (L := [(0, .dat (GRat.enc a1))]) tabOk Tryd.func5 rfl rfl Tryd.ntmps5 rfl rfl rfl ?_
  refine AWp.seq ?_
  refine AWp.regionN (fun _ => false) rfl ?_
  refine AOps.box (v := .dat (.st _ _)) rfl rfl rfl rfl rfl rfl ?_
  refine pG rfl rfl rfl ?_
  refine AOps.done ?_
  refine AWp.seq ?_
  refine AWp.block ?_
  refine AWp.seq ?_
  refine AWp.regionN (fun _ => false) rfl ?_
  refine pT rfl rfl rfl ?_
  obtain ⟨x6, hc7, h⟩ := h
  refine AOps.call hc7 rfl rfl rfl ⟨.inl rfl, trivial⟩ ?_
  refine pB rfl rfl rfl ?_
  refine pB rfl rfl rfl ?_
  refine AOps.done ?_
  refine AWp.cond rfl (fun e => ?_) (fun e => ?_)
  · replace h := h.1 e
    refine AWp.seq ?_
    refine AWp.regionN (fun _ => false) rfl ?_
    refine pG rfl rfl rfl ?_
    refine AOps.done ?_
    refine AWp.ret ?_
    subst h
    exact ⟨_, rfl, rfl⟩
  · replace h := h.2 e
    refine AWp.seq ?_
    refine AWp.regionN (fun _ => false) rfl ?_
    refine pP rfl rfl rfl ?_
    refine pI rfl rfl rfl ?_
    refine pB rfl rfl rfl ?_
    refine pB rfl rfl rfl ?_
    refine AOps.done ?_
    refine AWp.cond rfl (fun e => ?_) (fun e => ?_)
    · replace h := h.1 e
      refine AWp.seq ?_
      refine AWp.regionN (fun _ => false) rfl ?_
      refine pP rfl rfl rfl ?_
      refine pI rfl rfl rfl ?_
      obtain ⟨x8, hc9, h⟩ := h
      refine AOps.call hc9 rfl rfl rfl ⟨.inl rfl, .inl rfl, trivial⟩ ?_
      refine pG rfl rfl rfl ?_
      refine AOps.done ?_
      refine AWp.ret ?_
      subst h
      exact ⟨_, rfl, rfl⟩
    · replace h := h.2 e
      refine AWp.skip ?_
      refine AWp.seq ?_
      refine AWp.regionD (fun _ => false) mixed (by decide +kernel) rfl ?_
      refine pP rfl rfl rfl ?_
      refine pI rfl rfl rfl ?_
      obtain ⟨x10, hc11, h⟩ := h
      refine AOps.call hc11 rfl rfl rfl ⟨.inl rfl, .inl rfl, trivial⟩ ?_
      obtain ⟨hq, x12, ex12, h⟩ := h.get
      refine AOps.catE rfl rfl rfl rfl rfl hq ex12 ?_
      refine pP rfl rfl rfl ?_
      refine pI rfl rfl rfl ?_
      obtain ⟨x13, hc14, h⟩ := h
      refine AOps.call hc14 rfl rfl rfl ⟨.inl rfl, .inl rfl, trivial⟩ ?_
      obtain ⟨hq, x15, ex15, h⟩ := h.get
      refine AOps.catE rfl rfl rfl rfl rfl hq ex15 ?_
      refine pG rfl rfl rfl ?_
      refine AOps.done ?_
      refine AWp.ret ?_
      subst h
      exact ⟨_, rfl, rfl⟩
def W_ref11_Print (a1 : GRat) (Q : ByteArray → Prop) : Prop :=
  Call (Ev_ref11_Right a1) fun x2 =>
  Br (!x2) (Q (ByteArray.mk #[])) (
    Call (Ev_strconv_Itoa a1.N) fun x4 =>
    Br (a1.D != (1 : Int)) (
      Cat x4 (ByteArray.mk #[47]) fun x10 =>
      Call (Ev_strconv_Itoa a1.D) fun x11 =>
      Cat x10 x11 fun x13 =>
      Q x13) (
      Q x4))
theorem walk_ref11_Print {a1 : GRat} {r : ByteArray} (h : W_ref11_Print a1 (fun r' => r' = r)) : Ev_ref11_Print a1 r := by
  unfold W_ref11_Print at h
  refine AFn.intro' (L := [(0, .dat (GRat.enc a1))]) tabOk Tryd.func6 rfl rfl Tryd.ntmps6 rfl rfl rfl ?_
  refine AWp.seq ?_
  refine AWp.regionN (fun _ => false) rfl ?_
  refine AOps.box (v := .dat (.st _ _)) rfl rfl rfl rfl rfl rfl ?_
  refine pG rfl rfl rfl ?_
  refine AOps.done ?_
  refine AWp.seq ?_
  refine AWp.seq ?_
  refine AWp.regionN (fun _ => false) rfl ?_
  refine pT rfl rfl rfl ?_
  obtain ⟨x2, hc3, h⟩ := h
  refine AOps.call hc3 rfl rfl rfl ⟨.inl rfl, trivial⟩ ?_
  refine pB rfl rfl rfl ?_
  refine AOps.done ?_
  refine AWp.cond rfl (fun e => ?_) (fun e => ?_)
  · replace h := h.1 e
    refine AWp.seq ?_
    refine AWp.regionN (fun _ => false) rfl ?_
    refine pG rfl rfl rfl ?_
    refine AOps.done ?_
    refine AWp.ret ?_
    subst h
    exact ⟨_, rfl, rfl⟩
  · replace h := h.2 e
    refine AWp.skip ?_
    refine AWp.seq ?_
    refine AWp.regionN (fun _ => false) rfl ?_
    refine pP rfl rfl rfl ?_
    refine pI rfl rfl rfl ?_
    obtain ⟨x4, hc5, h⟩ := h
    refine AOps.call hc5 rfl rfl rfl ⟨.inl rfl, trivial⟩ ?_
    refine pG rfl rfl rfl ?_
    refine AOps.done ?_
    refine AWp.seq ?_
    refine AWp.seq ?_
    refine AWp.regionN (fun _ => false) rfl ?_
    refine pP rfl rfl rfl ?_
    refine pI rfl rfl rfl ?_
    refine pB rfl rfl rfl ?_
    refine AOps.done ?_
    refine AWp.cond rfl (fun e => ?_) (fun e => ?_)
    · replace h := h.1 e
      refine AWp.regionN (fun _ => false) rfl ?_
      refine pG rfl rfl rfl ?_
      obtain ⟨hq, x10, ex10, h⟩ := h.get
      refine AOps.catE rfl rfl rfl rfl rfl hq ex10 ?_
      refine pP rfl rfl rfl ?_
      refine pI rfl rfl rfl ?_
      obtain ⟨x11, hc12, h⟩ := h
      refine AOps.call hc12 rfl rfl rfl ⟨.inl rfl, trivial⟩ ?_
      obtain ⟨hq, x13, ex13, h⟩ := h.get
      refine AOps.catE rfl rfl rfl rfl rfl hq ex13 ?_
      refine pG rfl rfl rfl ?_
      refine AOps.done ?_
      refine AWp.seq ?_
      refine AWp.regionN (fun _ => false) rfl ?_
      refine pG rfl rfl rfl ?_
      refine pG rfl rfl rfl ?_
      refine AOps.done ?_
      refine AWp.ret ?_
      subst h
      exact ⟨_, rfl, rfl⟩
    · replace h := h.2 e
      refine AWp.skip ?_
      refine AWp.seq ?_
      refine AWp.regionN (fun _ => false) rfl ?_
      refine pG rfl rfl rfl ?_
      refine pG rfl rfl rfl ?_
      refine AOps.done ?_
      refine AWp.ret ?_
      subst h
      exact ⟨_, rfl, rfl⟩
def W_ref11_Hold (a1 : GRat) (Q : GIval → Prop) : Prop :=
  Call (Ev_ref11_Right a1) fun x2 =>
  Br (!x2) (
    Call (Ev_ref02_Empty) fun x6 =>
    Q x6) (
    Call (Ev_ref11_Num a1.N) fun x8 =>
    Call (Ev_ref11_Num a1.D) fun x10 =>
    Call (Ev_ref01_Rounded ({ Gref01Exact.zero with A := x8, B := x10 }) (-1 : Int)) fun x12 =>
    Call (Ev_ref01_Rounded ({ Gref01Exact.zero with A := x8, B := x10 }) (1 : Int)) fun x14 =>
    Call (Ev_ref02_Make x12 x14) fun x16 =>
    Q x16)
theorem walk_ref11_Hold {a1 : GRat} {r : GIval} (h : W_ref11_Hold a1 (fun r' => r' = r)) : Ev_ref11_Hold a1 r := by
  unfold W_ref11_Hold at h
  refine AFn.intro' (L := [(0, .dat (GRat.enc a1))]) tabOk Tryd.func9 rfl rfl Tryd.ntmps9 rfl rfl rfl ?_
  refine AWp.seq ?_
  refine AWp.regionN (fun _ => false) rfl ?_
  refine AOps.box (v := .dat (.st _ _)) rfl rfl rfl rfl rfl rfl ?_
  refine AOps.alloc tabOk rfl rfl rfl rfl rfl ?_
  refine AOps.done ?_
  refine AWp.seq ?_
  refine AWp.seq ?_
  refine AWp.regionN (fun _ => false) rfl ?_
  refine pT rfl rfl rfl ?_
  obtain ⟨x2, hc3, h⟩ := h
  refine AOps.call hc3 rfl rfl rfl ⟨.inl rfl, trivial⟩ ?_
  refine pB rfl rfl rfl ?_
  refine AOps.done ?_
  refine AWp.cond rfl (fun e => ?_) (fun e => ?_)
  · replace h := h.1 e
    refine AWp.seq ?_
    refine AWp.regionN (fun o => writes o) rfl ?_
    obtain ⟨x6, hc7, h⟩ := h
    refine AOps.call hc7 rfl rfl rfl trivial ?_
    refine AOps.store tabOk (v := .dat (.st _ _)) rfl rfl rfl rfl rfl rfl rfl rfl rfl rfl rfl rfl rfl ?_
    refine AOps.done ?_
    refine AWp.ret ?_
    subst h
    exact ⟨_, rfl, rfl⟩
  · replace h := h.2 e
    refine AWp.skip ?_
    refine AWp.seq ?_
    refine AWp.regionD (fun o => writes o) mixed (by decide +kernel) rfl ?_
    refine pP rfl rfl rfl ?_
    refine pI rfl rfl rfl ?_
    obtain ⟨x8, hc9, h⟩ := h
    refine AOps.call hc9 rfl rfl rfl ⟨.inl rfl, trivial⟩ ?_
    refine pP rfl rfl rfl ?_
    refine pI rfl rfl rfl ?_
    obtain ⟨x10, hc11, h⟩ := h
    refine AOps.call hc11 rfl rfl rfl ⟨.inl rfl, trivial⟩ ?_
    refine pT rfl rfl rfl ?_
    refine AOps.alloc tabOk rfl rfl rfl rfl rfl ?_
    refine AOps.store tabOk (v := .dat (.st _ _)) rfl rfl rfl rfl rfl rfl rfl rfl rfl rfl rfl rfl rfl ?_
    refine AOps.done ?_
    refine AWp.seq ?_
    refine AWp.regionD (fun o => writes o) mixed (by decide +kernel) rfl ?_
    refine pT rfl rfl rfl ?_
    obtain ⟨x12, hc13, h⟩ := h
    refine AOps.call hc13 rfl rfl rfl ⟨.inl rfl, .inl rfl, trivial⟩ ?_
    refine pT rfl rfl rfl ?_
    obtain ⟨x14, hc15, h⟩ := h
    refine AOps.call hc15 rfl rfl rfl ⟨.inl rfl, .inl rfl, trivial⟩ ?_
    obtain ⟨x16, hc17, h⟩ := h
    refine AOps.call hc17 rfl rfl rfl ⟨.inl rfl, .inl rfl, trivial⟩ ?_
    refine AOps.store tabOk (v := .dat (.st _ _)) rfl rfl rfl rfl rfl rfl rfl rfl rfl rfl rfl rfl rfl ?_
    refine AOps.done ?_
    refine AWp.ret ?_
    subst h
    exact ⟨_, rfl, rfl⟩
def W_strconv_FormatInt (i1 : Int) (base2 : Int) (Q : ByteArray → Prop) : Prop :=
  Call (Ev_internal_strconv_FormatInt i1 base2) fun x3 =>
  Q x3
theorem walk_strconv_FormatInt {i1 : Int} {base2 : Int} {r : ByteArray} (h : W_strconv_FormatInt i1 base2 (fun r' => r' = r)) : Ev_strconv_FormatInt i1 base2 r := by
  unfold W_strconv_FormatInt at h
  refine AFn.intro' (L := [(0, .dat (.v (.int .i64 i1))), (1, .dat (.v (.int .i64 base2)))]) tabOk Tryd.func13 rfl rfl Tryd.ntmps13 rfl rfl rfl ?_
  refine AWp.seq ?_
  refine AWp.regionN (fun _ => false) rfl ?_
  refine pG rfl rfl rfl ?_
  refine AOps.done ?_
  refine AWp.seq ?_
  refine AWp.regionN (fun _ => false) rfl ?_
  refine pI rfl rfl rfl ?_
  refine pI rfl rfl rfl ?_
  obtain ⟨x3, hc4, h⟩ := h
  refine AOps.call hc4 rfl rfl rfl ⟨.inl rfl, .inl rfl, trivial⟩ ?_
  refine pG rfl rfl rfl ?_
  refine AOps.done ?_
  refine AWp.ret ?_
  subst h
  exact ⟨_, rfl, rfl⟩
def W_strconv_Itoa (i1 : Int) (Q : ByteArray → Prop) : Prop :=
  Call (Ev_internal_strconv_Itoa i1) fun x2 =>
  Q x2
theorem walk_strconv_Itoa {i1 : Int} {r : ByteArray} (h : W_strconv_Itoa i1 (fun r' => r' = r)) : Ev_strconv_Itoa i1 r := by
  unfold W_strconv_Itoa at h
  refine AFn.intro' (L := [(0, .dat (.v (.int .i64 i1)))]) tabOk Tryd.func15 rfl rfl Tryd.ntmps15 rfl rfl rfl ?_
  refine AWp.seq ?_
  refine AWp.regionN (fun _ => false) rfl ?_
  refine pG rfl rfl rfl ?_
  refine AOps.done ?_
  refine AWp.seq ?_
  refine AWp.regionN (fun _ => false) rfl ?_
  refine pI rfl rfl rfl ?_
  obtain ⟨x2, hc3, h⟩ := h
  refine AOps.call hc3 rfl rfl rfl ⟨.inl rfl, trivial⟩ ?_
  refine pG rfl rfl rfl ?_
  refine AOps.done ?_
  refine AWp.ret ?_
  subst h
  exact ⟨_, rfl, rfl⟩
def W_internal_strconv_Itoa (i1 : Int) (Q : ByteArray → Prop) : Prop :=
  Call (Ev_internal_strconv_FormatInt i1 (10 : Int)) fun x2 =>
  Q x2
theorem walk_internal_strconv_Itoa {i1 : Int} {r : ByteArray} (h : W_internal_strconv_Itoa i1 (fun r' => r' = r)) : Ev_internal_strconv_Itoa i1 r := by
  unfold W_internal_strconv_Itoa at h
  refine AFn.intro' (L := [(0, .dat (.v (.int .i64 i1)))]) tabOk Tryd.func43 rfl rfl Tryd.ntmps43 rfl rfl rfl ?_
  refine AWp.seq ?_
  refine AWp.regionN (fun _ => false) rfl ?_
  refine pG rfl rfl rfl ?_
  refine AOps.done ?_
  refine AWp.seq ?_
  refine AWp.regionN (fun _ => false) rfl ?_
  refine pI rfl rfl rfl ?_
  obtain ⟨x2, hc3, h⟩ := h
  refine AOps.call hc3 rfl rfl rfl ⟨.inl rfl, .inl rfl, trivial⟩ ?_
  refine pG rfl rfl rfl ?_
  refine AOps.done ?_
  refine AWp.ret ?_
  subst h
  exact ⟨_, rfl, rfl⟩
end Go.Sim.YtlglkgineclggaaDoor
