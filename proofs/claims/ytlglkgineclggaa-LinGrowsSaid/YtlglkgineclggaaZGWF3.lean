/- What is proved: functions of the program compute what plain statements tell. -/
import Derived.Test.YtlglkgineclggaaZGWE
namespace Go.Sim.Ytlglkgineclggaa
open Go.RowKit Go.Proofs Go.Proofs.Try
set_option maxRecDepth 100000
def W_math_bits_Mul64 (x1 : Int) (y2 : Int) (Q : Int × Int → Prop) : Prop :=
  Let (bits .and .u64 x1 (4294967295 : Int)) fun x3 =>
  Let (Int.fdiv x1 (2 ^ 32)) fun x4 =>
  Let (bits .and .u64 y2 (4294967295 : Int)) fun x5 =>
  Let (Int.fdiv y2 (2 ^ 32)) fun x6 =>
  Let (IntKind.u64.wrap (x3 * x5)) fun x7 =>
  Let (IntKind.u64.wrap (x4 * x5)) fun x8 =>
  Let (Int.fdiv x7 (2 ^ 32)) fun x9 =>
  Let (IntKind.u64.wrap (x8 + x9)) fun x10 =>
  Let (bits .and .u64 x10 (4294967295 : Int)) fun x11 =>
  Let (Int.fdiv x10 (2 ^ 32)) fun x12 =>
  Let (IntKind.u64.wrap (x3 * x6)) fun x13 =>
  Let (IntKind.u64.wrap (x11 + x13)) fun x14 =>
  Let (IntKind.u64.wrap (x4 * x6)) fun x15 =>
  Let (IntKind.u64.wrap (x15 + x12)) fun x16 =>
  Let (Int.fdiv x14 (2 ^ 32)) fun x17 =>
  Let (IntKind.u64.wrap (x16 + x17)) fun x18 =>
  Let (IntKind.u64.wrap (x1 * y2)) fun x19 =>
  Q (x18, x19)
theorem walk_math_bits_Mul64 {x1 : Int} {y2 : Int} {r : Int × Int} (h : W_math_bits_Mul64 x1 y2 (fun r' => r' = r)) : Ev_math_bits_Mul64 x1 y2 r := by
  unfold W_math_bits_Mul64 at h
  refine AFn.intro' (L := [(0, .dat (.v (.int .u64 x1))), (1, .dat (.v (.int .u64 y2)))]) tabOk Try.func87 rfl rfl Try.ntmps87 rfl rfl rfl ?_
  refine AWp.seq ?_
  refine AWp.regionN (fun _ => false) rfl ?_
  refine pI rfl rfl rfl ?_
  refine pI rfl rfl rfl ?_
  refine AOps.done ?_
  refine AWp.seq ?_
  refine AWp.regionN (fun _ => false) rfl ?_
  refine pI rfl rfl rfl ?_
  obtain ⟨x3, ex3, h⟩ := h.get
  refine AOps.i tabOk rfl rfl rfl ex3 ?_
  refine pI rfl rfl rfl ?_
  refine AOps.done ?_
  refine AWp.seq ?_
  refine AWp.regionN (fun _ => false) rfl ?_
  refine pI rfl rfl rfl ?_
  obtain ⟨x4, ex4, h⟩ := h.get
  refine AOps.q rfl rfl rfl rfl rfl (rbin_shr (by decide)) ex4 ?_
  refine pI rfl rfl rfl ?_
  refine AOps.done ?_
  refine AWp.seq ?_
  refine AWp.regionN (fun _ => false) rfl ?_
  refine pI rfl rfl rfl ?_
  obtain ⟨x5, ex5, h⟩ := h.get
  refine AOps.i tabOk rfl rfl rfl ex5 ?_
  refine pI rfl rfl rfl ?_
  refine AOps.done ?_
  refine AWp.seq ?_
  refine AWp.regionN (fun _ => false) rfl ?_
  refine pI rfl rfl rfl ?_
  obtain ⟨x6, ex6, h⟩ := h.get
  refine AOps.q rfl rfl rfl rfl rfl (rbin_shr (by decide)) ex6 ?_
  refine pI rfl rfl rfl ?_
  refine AOps.done ?_
  refine AWp.seq ?_
  refine AWp.regionN (fun _ => false) rfl ?_
  refine pI rfl rfl rfl ?_
  refine pI rfl rfl rfl ?_
  obtain ⟨x7, ex7, h⟩ := h.get
  refine AOps.i tabOk rfl rfl rfl ex7 ?_
  refine pI rfl rfl rfl ?_
  refine AOps.done ?_
  refine AWp.seq ?_
  refine AWp.regionN (fun _ => false) rfl ?_
  refine pI rfl rfl rfl ?_
  refine pI rfl rfl rfl ?_
  obtain ⟨x8, ex8, h⟩ := h.get
  refine AOps.i tabOk rfl rfl rfl ex8 ?_
  refine pI rfl rfl rfl ?_
  obtain ⟨x9, ex9, h⟩ := h.get
  refine AOps.q rfl rfl rfl rfl rfl (rbin_shr (by decide)) ex9 ?_
  obtain ⟨x10, ex10, h⟩ := h.get
  refine AOps.i tabOk rfl rfl rfl ex10 ?_
  refine pI rfl rfl rfl ?_
  refine AOps.done ?_
  refine AWp.seq ?_
  refine AWp.regionN (fun _ => false) rfl ?_
  refine pI rfl rfl rfl ?_
  obtain ⟨x11, ex11, h⟩ := h.get
  refine AOps.i tabOk rfl rfl rfl ex11 ?_
  refine pI rfl rfl rfl ?_
  refine AOps.done ?_
  refine AWp.seq ?_
  refine AWp.regionN (fun _ => false) rfl ?_
  refine pI rfl rfl rfl ?_
  obtain ⟨x12, ex12, h⟩ := h.get
  refine AOps.q rfl rfl rfl rfl rfl (rbin_shr (by decide)) ex12 ?_
  refine pI rfl rfl rfl ?_
  refine AOps.done ?_
  refine AWp.seq ?_
  refine AWp.regionN (fun _ => false) rfl ?_
  refine pI rfl rfl rfl ?_
  refine pI rfl rfl rfl ?_
  refine pI rfl rfl rfl ?_
  obtain ⟨x13, ex13, h⟩ := h.get
  refine AOps.i tabOk rfl rfl rfl ex13 ?_
  obtain ⟨x14, ex14, h⟩ := h.get
  refine AOps.i tabOk rfl rfl rfl ex14 ?_
  refine pI rfl rfl rfl ?_
  refine AOps.done ?_
  refine AWp.seq ?_
  refine AWp.regionN (fun _ => false) rfl ?_
  refine pI rfl rfl rfl ?_
  refine pI rfl rfl rfl ?_
  obtain ⟨x15, ex15, h⟩ := h.get
  refine AOps.i tabOk rfl rfl rfl ex15 ?_
  refine pI rfl rfl rfl ?_
  obtain ⟨x16, ex16, h⟩ := h.get
  refine AOps.i tabOk rfl rfl rfl ex16 ?_
  refine pI rfl rfl rfl ?_
  obtain ⟨x17, ex17, h⟩ := h.get
  refine AOps.q rfl rfl rfl rfl rfl (rbin_shr (by decide)) ex17 ?_
  obtain ⟨x18, ex18, h⟩ := h.get
  refine AOps.i tabOk rfl rfl rfl ex18 ?_
  refine pI rfl rfl rfl ?_
  refine AOps.done ?_
  refine AWp.seq ?_
  refine AWp.regionN (fun _ => false) rfl ?_
  refine pI rfl rfl rfl ?_
  refine pI rfl rfl rfl ?_
  obtain ⟨x19, ex19, h⟩ := h.get
  refine AOps.i tabOk rfl rfl rfl ex19 ?_
  refine pI rfl rfl rfl ?_
  refine AOps.done ?_
  refine AWp.ret ?_
  subst h
  exact ⟨_, rfl, rfl⟩
end Go.Sim.Ytlglkgineclggaa
