/- What is proved: operations on plain values (numbers, truth values, strings) yield what the plain functions of this text say. -/
import Derived.Test.YtnhflokfcnfegaaSim6
namespace Go.Sim
open Go.RowKit

def rbin (op : BinOp) (x y : Value) : Option Value :=
  match x, y with
  | .int k a, .int k' b =>
    match op with
    | .shl => if b < 0 then none else some (.int k (k.wrap (a * 2 ^ (min b.toNat k.bits))))
    | .shr => if b < 0 then none else some (.int k (a.fdiv (2 ^ (min b.toNat k.bits))))
    | .quo => if k = k' then if b = 0 then none else some (.int k (k.wrap (a.tdiv b))) else none
    | .rem => if k = k' then if b = 0 then none else some (.int k (a.tmod b)) else none
    | .add => if k = k' then some (.int k (k.wrap (a + b))) else none
    | .sub => if k = k' then some (.int k (k.wrap (a - b))) else none
    | .mul => if k = k' then some (.int k (k.wrap (a * b))) else none
    | .and => if k = k' then some (.int k (bits .and k a b)) else none
    | .or => if k = k' then some (.int k (bits .or k a b)) else none
    | .xor => if k = k' then some (.int k (bits .xor k a b)) else none
    | .andNot => if k = k' then some (.int k (bits .andNot k a b)) else none
    | .eql => if k = k' then some (.bool (a == b)) else none
    | .neq => if k = k' then some (.bool (a != b)) else none
    | .lss => if k = k' then some (.bool (decide (a < b))) else none
    | .leq => if k = k' then some (.bool (decide (a ≤ b))) else none
    | .gtr => if k = k' then some (.bool (decide (a > b))) else none
    | .geq => if k = k' then some (.bool (decide (a ≥ b))) else none
  | .float k a, .float k' b =>
    match op with
    | .eql => if k = k' then some (.bool (k.format.order a b == some .eq)) else none
    | .neq => if k = k' then some (.bool (k.format.order a b != some .eq)) else none
    | .lss => if k = k' then some (.bool (k.format.order a b == some .lt)) else none
    | .leq => if k = k' then some (.bool (k.format.order a b == some .lt || k.format.order a b == some .eq)) else none
    | .gtr => if k = k' then some (.bool (k.format.order a b == some .gt)) else none
    | .geq => if k = k' then some (.bool (k.format.order a b == some .gt || k.format.order a b == some .eq)) else none
    | _ => none
  | .string a, .string b =>
    match op with
    | .eql => some (.bool (a.toList == b.toList))
    | .neq => some (.bool !(a.toList == b.toList))
    | .lss => some (.bool (Op.bytesLess a.toList b.toList))
    | .leq => some (.bool (Op.bytesLess a.toList b.toList || a.toList == b.toList))
    | .gtr => some (.bool !(Op.bytesLess a.toList b.toList || a.toList == b.toList))
    | .geq => some (.bool !(Op.bytesLess a.toList b.toList))
    | _ => none
  | _, _ => none

theorem eqGuard_raw {op : BinOp} {t : TypeId} {xo yo : Operand} {x y u : Value} (h : rbin op x y = some u) : eqGuard op t xo yo x y = pure () := by
  cases x <;> cases y <;> first
    | simp only [eqGuard_at_int, eqGuard_at_float, eqGuard_at_string]
    | simp [rbin] at h

theorem run_rbin {P : Program} {op : BinOp} {t : TypeId} {x y u : Value} (h : rbin op x y = some u) (w : World) : (binOp op t x y).run P w = .ok u w := by
  cases x <;> cases y <;> first
    | (simp [rbin] at h; done)
    | (rename_i k a k' b
       cases op <;> simp only [rbin] at h <;> first
         | (cases h; done)
         | (split at h <;> first
             | (cases h; done)
             | (rename_i hb; simp only [Option.some.injEq] at h; subst h; simp [binOp, Op.shift, hb]; done)
             | (rename_i hk; subst hk; simp only [Option.some.injEq] at h; subst h; simp [binOp, Op.intArith, Op.intCmp, Op.floatCmp, Op.intBits, bits]; done)
             | (rename_i hk; subst hk; split at h
                · cases h
                · rename_i hb; simp only [Option.some.injEq] at h; subst h; simp [binOp, Op.intDiv, hb])))
    | (rename_i a b
       cases op <;> simp only [rbin, Option.some.injEq, reduceCtorEq] at h <;> subst h <;> simp [binOp, Op.stringOp])

def runary (op : UnOp) (x : Value) : Option Value :=
  match op, x with
  | .neg, .int k n => some (.int k (k.wrap (0 - n)))
  | .not, .bool b => some (.bool !b)
  | .neg, .float k b => some (.float k (Op.negFloat k b))
  | _, _ => none

theorem run_runary {P : Program} {op : UnOp} {x u : Value} (h : runary op x = some u) (w : World) : (Op.unary op x).run P w = .ok u w := by
  cases op <;> cases x <;> simp only [runary, Option.some.injEq, reduceCtorEq] at h <;> subst h <;> simp [Op.unary, Op.intArith]

def rconv (d : TyD) (x : Value) : Option Value :=
  match d, x with
  | .int k, .int _ n => some (.int k (k.wrap n))
  | .flt k, .int _ n => some (.float k (k.nearest n))
  | .str, .string s => some (.string s)
  | _, _ => none

theorem run_rconv {P : Program} {src dst : TypeId} {ds dd : TypeDesc} {d : TyD} {x u : Value} (hs : P.underlying src = some ds) (hd : P.underlying dst = some dd)
    (hok : d.ok dd) (h : rconv d x = some u) (w : World) : (convert src dst x).run P w = .ok u w := by
  cases d <;> cases x <;> simp only [rconv, Option.some.injEq, reduceCtorEq] at h <;> cases dd <;> simp only [TyD.ok] at hok <;>
    (try subst hok) <;> subst h <;> simp [convert, run_underlying hs, run_underlying hd, Conv.intToInt, Conv.intToFloat]

def AV.raw : AV → Option Value
  | .dat (.v x) => some x
  | _ => none

theorem raw_eval {w : World} {g : Gh} {x : AV} {u v : Value} (h : RepS w g x u) (hr : x.raw = some v) : u = v := by
  cases x with
  | dat x => cases x <;> simp only [AV.raw, Option.some.injEq, reduceCtorEq] at hr; subst hr; simp only [RepS, RepV, RepD, List.cons.injEq, and_true] at h; exact h.1
  | _ => simp [AV.raw] at hr

end Go.Sim
