/- What is proved: operations that make no memory and write none yield what a plain function of the abstract state tells. -/
import Derived.Test.YtnhflokfcnfegaaSim13
namespace Go.Sim
open Go.RowKit

def slE (T : Tab) (t : TypeId) : Option (TypeId × TE) :=
  match tget T t with
  | some te => match te.d with
    | .slice e => match tget T e with | some ee => some (e, ee) | none => none
    | _ => none
  | none => none

/-- The constant nil as an empty slice. -/
def nilT (T : Tab) (t : TypeId) : AV → AV
  | .dat (.v (.slice none 0 0)) => match slE T t with | some (e, te) => .dat (.sl e te.size []) | none => .dead
  | x => x

def aggMatch (te : TE) (y : AV) : Bool := (te.d.agg == y.agg) && (!y.agg || Nat.beq te.size y.len)

def contentOf : Obj → Option AV
  | .box _ _ x => some x
  | .row _ sz xs => some (.dat (.ar sz xs))
  | .gone => none

def fieldOf (T : Tab) (s : TypeId) (i : Nat) : Option (Nat × TE) :=
  match tget T s with
  | some te => match te.d with
    | .struct fs => match fs[i]? with
      | some (fo, ft) => match tget T ft with | some fe => some (fo, fe) | none => none
      | none => none
    | _ => none
  | none => none

def fieldTy (T : Tab) (s : TypeId) (i : Nat) : TypeId :=
  match tget T s with
  | some te => match te.d with
    | .struct fs => match fs[i]? with | some (_, ft) => ft | none => 0
    | _ => 0
  | none => 0

def buildF (T : Tab) (s : TypeId) (σ : St) (ns : List Nat) : List (Nat × Operand) → List AV → Option (List AV)
  | [], xs => some xs
  | (i, x) :: ps, xs =>
    match fieldOf T s i, ns[i]?, xs[i]? with
    | some (fo, fe), some n, some _ =>
      let y := nilT T (fieldTy T s i) (ev σ x)
      if y.lies && Nat.beq y.len n && Nat.beq fe.size n && Nat.beq fo (ns.take i).sum then buildF T s σ ns ps (xs.set i y) else none
    | _, _, _ => none

def allDat : List AV → Option (List DV)
  | [] => some []
  | .dat x :: xs => match allDat xs with | some ds => some (x :: ds) | none => none
  | _ :: _ => none

def mkSt' (ns : List Nat) (xs : List AV) : AV := match allDat xs with | some ds => .dat (.st ns ds) | none => .st ns xs

def opBin (T : Tab) (op : BinOp) (t : TypeId) (u v : Value) : Option AV :=
  match rbin op u v with
  | some r => some (.dat (.v r))
  | none => match tget T t with
    | some te => match te.d with
      | .bool => match u, v, op with
        | .bool a, .bool b, .eql => some (.dat (.v (.bool (a == b))))
        | .bool a, .bool b, .neq => some (.dat (.v (.bool (a != b))))
        | _, _, _ => none
      | _ => none
    | none => none

def opFieldAddr (T : Tab) (s : TypeId) (x : AV) (i : Nat) : Option AV :=
  match fieldOf T s i with
  | some (fo, fe) => if Nat.beq fe.size 0 then none else match x with
    | .pt id p off => some (.pt id (p ++ [.fld i]) (off + fo))
    | .sp (.st ns xs) => match xs[i]? with
      | some y => if Nat.beq fo (ns.take i).sum then some (.sp y) else none
      | none => none
    | _ => none
  | none => none

def opField (T : Tab) (s : TypeId) (x : AV) (i : Nat) : Option AV :=
  match fieldOf T s i with
  | some (fo, fe) => match x with
    | .dat (.st ns xs) => match xs[i]? with
      | some y => if Nat.beq fo (ns.take i).sum && aggMatch fe (.dat y) then some (.dat y) else none
      | none => none
    | _ => none
  | none => none

def opBuild (T : Tab) (t : TypeId) (σ : St) (ps : List (Nat × Operand)) : Option AV :=
  match tget T t with
  | some te => match te.d, te.zero with
    | .struct fs, .st ns zs => if fs.all (fun f => (tget T f.2).isSome) then match buildF T t σ ns ps (zs.map .dat) with
      | some xs => some (mkSt' ns xs)
      | none => none
      else none
    | .arr _ e, z => match ps with | [] => if (tget T e).isSome then some (.dat z) else none | _ => none
    | _, _ => none
  | none => none

def opLoad (T : Tab) (t : TypeId) (x : AV) (ob : Nat → Option Obj) : Option AV :=
  match tget T t with
  | some te => match x with
    | .pt id p off => match ob id with
      | some o => match contentOf o with
        | some c => match locA c p 0 with
          | some (o', y) => if Nat.beq o' off && aggMatch te y then some y else none
          | none => none
        | none => none
      | none => none
    | .sp y => if aggMatch te (.dat y) then some (.dat y) else none
    | _ => none
  | none => none

def opLen (T : Tab) (t : TypeId) (x : AV) (ob : Nat → Option Obj) : Option AV :=
  match tget T t with
  | some te => match te.d with
    | .str => match x with | .dat (.v (.string s)) => some (.dat (.v (.int .i64 s.size))) | _ => none
    | .slice _ => match x with
      | .dat (.sl _ _ xs) => some (.dat (.v (.int .i64 xs.length)))
      | .oref id => match ob id with | some (.row _ _ xs) => some (.dat (.v (.int .i64 xs.length))) | _ => none
      | _ => none
    | .arr n _ => some (.dat (.v (.int .i64 n)))
    | _ => none
  | none => none

def opMin (x y : AV) : Option AV :=
  match x.raw, y.raw with
  | some (.int k a), some (.int _ b) => some (.dat (.v (.int k (if b < a then b else a))))
  | _, _ => none

def opMax (x y : AV) : Option AV :=
  match x.raw, y.raw with
  | some (.int k a), some (.int _ b) => some (.dat (.v (.int k (if b > a then b else a))))
  | _, _ => none

def opBuiltin (T : Tab) (σ : St) (b : Builtin) (args : List Operand) (ats : List TypeId) : Option AV :=
  match b with
  | .len => match args, ats with | [x], [t] => opLen T t (ev σ x) σ.obj | _, _ => none
  | .min => match args with | [x, y] => opMin (ev σ x) (ev σ y) | _ => none
  | .max => match args with | [x, y] => opMax (ev σ x) (ev σ y) | _ => none
  | _ => none

def opPick (c x y : AV) : Option AV :=
  match c with
  | .dat (.v (.bool b)) => match b with | true => some x | false => some y
  | _ => none

def opConv (T : Tab) (s d : TypeId) (u : Value) : Option AV :=
  match tget T s, tget T d with
  | some _, some te => match rconv te.d u with | some r => some (.dat (.v r)) | none => none
  | _, _ => none

def opV (T : Tab) (σ : St) (o : Oper) : Option AV :=
  match o.op with
  | .move x | .assign x => some (nilT T o.type (ev σ x))
  | .pick c x y => opPick (ev σ c) (ev σ x) (ev σ y)
  | .binOp op t x y _ => match (ev σ x).raw, (ev σ y).raw with
    | some u, some v => opBin T op t u v
    | _, _ => none
  | .unOp op _ x => match (ev σ x).raw with
    | some u => match runary op u with | some r => some (.dat (.v r)) | none => none
    | none => none
  | .convert s d x => match (ev σ x).raw with | some u => opConv T s d u | none => none
  | .fieldAddr s x i => opFieldAddr T s (ev σ x) i
  | .field s x i => opField T s (ev σ x) i
  | .extract x i => match ev σ x with
    | .dat (.tup xs) => match xs[i]? with | some y => some (.dat y) | none => none
    | _ => none
  | .build t ps => opBuild T t σ ps.toList
  | .nilCheck x => match ev σ x with
    | .pt id p off => some (.pt id p off)
    | .sp y => some (.sp y)
    | _ => none
  | .load t x => opLoad T t (ev σ x) σ.obj
  | .call c => match c.callee with
    | .builtin b => opBuiltin T σ b c.args.toList c.argTypes.toList
    | _ => none
  | _ => none

/-! ### It sees what the operation sees -/

theorem buildF_congr {T : Tab} {s : TypeId} {σ σ' : St} {ns : List Nat} : ∀ (ps : List (Nat × Operand)) (xs : List AV), (∀ p ∈ ps, ev σ' p.2 = ev σ p.2) → buildF T s σ' ns ps xs = buildF T s σ ns ps xs
  | [], _, _ => rfl
  | (i, x) :: ps, xs, h => by
    have h1 := h (i, x) (by simp)
    simp only at h1
    simp only [buildF, h1]
    split
    · split
      · exact buildF_congr ps _ (fun p hp => h p (by simp [hp]))
      · rfl
    · rfl

theorem opLoad_congr {T : Tab} {t : TypeId} {x : AV} {ob ob' : Nat → Option Obj} (h : ∀ k, x.refs k → ob' k = ob k) : opLoad T t x ob' = opLoad T t x ob := by
  unfold opLoad
  cases x with
  | pt id p off => simp only [h id (by simp [AV.refs])]
  | _ => rfl

theorem opLen_congr {T : Tab} {t : TypeId} {x : AV} {ob ob' : Nat → Option Obj} (h : ∀ k, x.refs k → ob' k = ob k) : opLen T t x ob' = opLen T t x ob := by
  unfold opLen
  cases x with
  | oref id => simp only [h id (by simp [AV.refs])]
  | dat y => cases y <;> rfl
  | _ => rfl

theorem opBuiltin_congr {T : Tab} {σ σ' : St} {b : Builtin} {ats : List TypeId} {args : List Operand} (h1 : ∀ x ∈ args, ev σ' x = ev σ x) (h2 : ∀ x ∈ args, ∀ k, (ev σ x).refs k → σ'.obj k = σ.obj k) :
    opBuiltin T σ' b args ats = opBuiltin T σ b args ats := by
  unfold opBuiltin
  cases b <;> first | rfl | skip
  · match args, ats with
    | [x], [t] => simp only; rw [h1 x (by simp)]; exact opLen_congr (h2 x (by simp))
    | [], _ => rfl
    | [x], [] => rfl
    | [x], _ :: _ :: _ => rfl
    | _ :: _ :: _, _ => rfl
  all_goals
    match args with
    | [x, y] => simp only; rw [h1 x (by simp), h1 y (by simp)]
    | [] => rfl
    | [_] => rfl
    | _ :: _ :: _ :: _ => rfl

theorem opV_congr {T : Tab} {σ σ' : St} {o : Oper} (h : Agree o σ σ') : opV T σ' o = opV T σ o := by
  obtain ⟨h1, _, h3⟩ := h
  unfold opV
  obtain ⟨dst, op, type, pos, after, guard⟩ := o
  cases op with
  | build t ps =>
    have hp : ∀ p ∈ ps.toList, ev σ' p.2 = ev σ p.2 := fun p hp => h1 p.2 (by simp only [Op.operands, List.mem_toArray, List.mem_map]; exact ⟨p, hp, rfl⟩)
    simp only [opBuild, buildF_congr _ _ hp]
  | load t x =>
    simp only [h1 x (by simp [Op.operands])]
    exact opLoad_congr (h3 rfl x (by simp [Op.operands]))
  | call c =>
    obtain ⟨callee, args, ats⟩ := c
    cases callee with
    | builtin b =>
      exact opBuiltin_congr (fun x hx => h1 x (by simp [Op.operands, Call.operands]; simpa using hx)) (fun x hx => h3 rfl x (by simp [Op.operands, Call.operands]; simpa using hx))
    | _ => rfl
  | move x => simp only [h1 x (by simp [Op.operands])]
  | assign x => simp only [h1 x (by simp [Op.operands])]
  | pick c x y => simp only [h1 c (by simp [Op.operands]), h1 x (by simp [Op.operands]), h1 y (by simp [Op.operands])]
  | binOp op t x y t' => simp only [h1 x (by simp [Op.operands]), h1 y (by simp [Op.operands])]
  | unOp op t x => simp only [h1 x (by simp [Op.operands])]
  | convert s d x => simp only [h1 x (by simp [Op.operands])]
  | fieldAddr s x i => simp only [h1 x (by simp [Op.operands])]
  | field s x i => simp only [h1 x (by simp [Op.operands])]
  | extract x i => simp only [h1 x (by simp [Op.operands])]
  | nilCheck x => simp only [h1 x (by simp [Op.operands])]
  | _ => rfl

end Go.Sim
