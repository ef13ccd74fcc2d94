/- What is proved: what places inside a datum are, and what it is to read and to replace what lies there. -/
import Derived.Test.YtnhflokfcnfegaaSim2
namespace Go.Sim
open Go.RowKit

/-! ### The table of types -/

inductive TyD where
  | int (k : IntKind) | bool | str | flt (k : FloatKind)
  | slice (e : TypeId) | arr (n : Nat) (e : TypeId) | struct (fs : List (Nat × TypeId)) | ptr (e : TypeId) | other

def TyD.ok : TyD → TypeDesc → Prop
  | .int k, .int k' => k = k'
  | .bool, .bool => True
  | .str, .string => True
  | .flt k, .float k' => k = k'
  | .slice e, .slice e' => e = e'
  | .arr n e, .array n' e' => n = n' ∧ e = e'
  | .struct fs, .struct gs => gs.toList.map (fun f => (f.offset, f.type)) = fs
  | .ptr e, .pointer e' => e = e'
  | .other, .struct _ | .other, .array _ _ => False
  | .other, _ => True
  | _, _ => False

def TyD.agg : TyD → Bool
  | .arr .. | .struct .. => true
  | _ => false

structure TE where
  d : TyD
  size : Nat
  bytes : Nat
  zero : DV

abbrev Tab := List (Option TE)

def tget (T : Tab) (t : TypeId) : Option TE := match T[t]? with | some x => x | none => none

mutual
/-- The cells of a datum that needs no memory. -/
def flat : DV → Option (List Value)
  | .v x => if x.oneCell' then some [x] else none
  | .st ns xs => flatF xs ns
  | .ar sz xs => flatF xs (List.replicate xs.length sz)
  | .sl _ _ xs => match xs with | [] => some [.slice none 0 0] | _ => none
  | .tup _ => none
  | .pd _ => none
  | .fn .. => none
def flatF : List DV → List Nat → Option (List Value)
  | [], [] => some []
  | x :: xs, n :: ns => match flat x, flatF xs ns with
    | some c, some d => if c.length = n then some (c ++ d) else none
    | _, _ => none
  | _, _ => none
end

mutual
theorem RepD.of_flat {w : World} {S : Nat → Prop} : ∀ (x : DV) (cs : List Value), flat x = some cs → RepD w S x cs
  | .v x, cs, h => by simp only [flat] at h; split at h <;> simp_all [RepD]
  | .st ns xs, cs, h => RepF.of_flat xs ns cs (by simpa only [flat] using h)
  | .ar sz xs, cs, h => RepF.of_flat xs _ cs (by simpa only [flat] using h)
  | .sl E sz xs, cs, h => by
    cases xs with
    | nil => simp only [flat, Option.some.injEq] at h; subst h; simp only [RepD]; exact ⟨none, 0, [], rfl, by simp, by simp [RepF], by simp⟩
    | cons a b => simp [flat] at h
  | .tup _, cs, h => by simp [flat] at h
  | .pd _, cs, h => by simp [flat] at h
  | .fn _ _, cs, h => by simp [flat] at h
theorem RepF.of_flat {w : World} {S : Nat → Prop} : ∀ (xs : List DV) (ns : List Nat) (cs : List Value), flatF xs ns = some cs → RepF w S xs ns cs
  | [], ns, cs, h => by cases ns <;> simp_all [flatF, RepF]
  | x :: xs, ns, cs, h => by
    cases ns with
    | nil => simp [flatF] at h
    | cons n ns =>
      simp only [flatF] at h
      split at h
      · rename_i c d hc hd
        split at h
        · rename_i hl
          simp only [Option.some.injEq] at h
          subst h
          simp only [RepF]
          exact ⟨n, ns, c, d, rfl, rfl, hl, RepD.of_flat x c hc, RepF.of_flat xs ns d hd⟩
        · cases h
      · cases h
end

def DV.len : DV → Nat
  | .v _ => 1
  | .st ns _ => ns.sum
  | .ar sz xs => xs.length * sz
  | .sl .. => 1
  | .tup _ => 0
  | .pd _ => 1
  | .fn .. => 1

theorem RepD.len {w : World} {S : Nat → Prop} {x : DV} {cs : List Value} (h : RepD w S x cs) : cs.length = x.len := by
  cases x with
  | v x => simp only [RepD] at h; simp [h.1, DV.len]
  | st ns xs => exact (RepF.length h).1
  | ar sz xs => have := (RepF.length h).1; simpa [DV.len] using this
  | sl E sz xs => simp only [RepD] at h; obtain ⟨a, c, row, rfl, _⟩ := h; rfl
  | tup xs => simp only [RepD] at h
  | pd x => simp only [RepD] at h; obtain ⟨b, o, ds, rfl, _⟩ := h; rfl
  | fn f xs => simp only [RepD] at h; obtain ⟨vs, rfl, _⟩ := h; rfl

/-- A zero value's form. -/
def aggOk (b : Bool) : Value → Prop
  | .agg _ => b = true
  | .tuple _ => False
  | _ => b = false

def EntryOk (P : Program) (t : TypeId) (te : TE) : Prop :=
  ∃ i d z, P.info? t = some i ∧ P.underlying t = some d ∧ te.d.ok d ∧ i.size = te.size ∧ i.bytes = te.bytes ∧ i.zero = some z ∧
    flat te.zero = some z.cells.toList ∧ te.zero.agg = te.d.agg ∧ aggOk te.d.agg z ∧ te.zero.len = te.size

def TabOk (P : Program) (T : Tab) : Prop := ∀ t te, tget T t = some te → EntryOk P t te

theorem RepU.of_flat {w : World} {S : Nat → Prop} {x : DV} {z : Value} {b : Bool} (h7 : flat x = some z.cells.toList) (h8 : x.agg = b)
    (h9 : aggOk b z) : RepU w S x z := by
  have hd := RepD.of_flat (w := w) (S := S) _ _ h7
  unfold RepU
  rw [h8]
  cases z <;> simp_all [Value.cells, aggOk]
  rename_i cs; exact ⟨cs.toList, by simp, hd⟩

/-! ### Places inside data -/

def locD : DV → List Pa → Nat → Option (Nat × DV)
  | x, [], off => some (off, x)
  | .st ns xs, .fld i :: p, off => match xs[i]? with | some y => locD y p (off + (ns.take i).sum) | none => none
  | .ar sz xs, .idx i :: p, off => match xs[i]? with | some y => locD y p (off + i * sz) | none => none
  | _, _, _ => none

def putD : DV → List Pa → DV → Option DV
  | _, [], y => some y
  | .st ns xs, .fld i :: p, y => match xs[i]? with
    | some z => match putD z p y with | some z' => some (.st ns (xs.set i z')) | none => none
    | none => none
  | .ar sz xs, .idx i :: p, y => match xs[i]? with
    | some z => match putD z p y with | some z' => some (.ar sz (xs.set i z')) | none => none
    | none => none
  | _, _, _ => none

theorem take_replicate_sum (n sz i : Nat) (h : i ≤ n) : ((List.replicate n sz).take i).sum = i * sz := by
  rw [List.take_replicate, List.sum_replicate_nat, Nat.min_eq_left h]

theorem RepD.loc {w : World} {S : Nat → Prop} : ∀ (p : List Pa) (x : DV) (cs : List Value) (off off' : Nat) (y : DV), RepD w S x cs → locD x p off = some (off', y) →
    ∃ c1 c2 c3, cs = c1 ++ c2 ++ c3 ∧ off' = off + c1.length ∧ RepD w S y c2 ∧
      ∀ w' S' y' c2' x', (∀ z c, RepD w S z c → RepD w' S' z c) → c2'.length = c2.length → RepD w' S' y' c2' → putD x p y' = some x' → RepD w' S' x' (c1 ++ c2' ++ c3)
  | [], x, cs, off, off', y, h, hl => by
    simp only [locD, Option.some.injEq, Prod.mk.injEq] at hl
    obtain ⟨rfl, rfl⟩ := hl
    refine ⟨[], cs, [], by simp, by simp, h, ?_⟩
    intro w' S' y' c2' x' _ _ hy hp
    simp only [putD, Option.some.injEq] at hp
    subst hp
    simpa using hy
  | .fld i :: p, x, cs, off, off', y, h, hl => by
    cases x with
    | st ns xs =>
      simp only [locD] at hl
      split at hl
      · rename_i z hz
        simp only [RepD] at h
        obtain ⟨c1, c2, c3, n, hn, e, hl1, hl2, hd, hput⟩ := RepF.at h hz
        obtain ⟨d1, d2, d3, e2, ho, hd2, hput2⟩ := RepD.loc p z c2 _ off' y hd hl
        refine ⟨c1 ++ d1, d2, d3 ++ c3, by simp [e, e2], by simp [ho, hl1]; omega, hd2, ?_⟩
        intro w' S' y' c2' x' hfr hlen hy hp
        simp only [putD, hz] at hp
        split at hp
        · rename_i z' hz'
          simp only [Option.some.injEq] at hp
          subst hp
          have hz2 := hput2 w' S' y' c2' z' hfr hlen hy hz'
          have := hput w' S' z' (d1 ++ c2' ++ d3) hfr (by rw [← hl2, e2]; simp [hlen]) hz2
          simp only [RepD]
          simpa using this
        · cases hp
      · cases hl
    | _ => simp [locD] at hl
  | .idx i :: p, x, cs, off, off', y, h, hl => by
    cases x with
    | ar sz xs =>
      simp only [locD] at hl
      split at hl
      · rename_i z hz
        have hi : i < xs.length := (List.getElem?_eq_some_iff.1 hz).1
        simp only [RepD] at h
        obtain ⟨c1, c2, c3, n, hn, e, hl1, hl2, hd, hput⟩ := RepF.at h hz
        rw [take_replicate_sum _ _ _ (Nat.le_of_lt hi)] at hl1
        obtain ⟨d1, d2, d3, e2, ho, hd2, hput2⟩ := RepD.loc p z c2 _ off' y hd hl
        refine ⟨c1 ++ d1, d2, d3 ++ c3, by simp [e, e2], by simp [ho, hl1]; omega, hd2, ?_⟩
        intro w' S' y' c2' x' hfr hlen hy hp
        simp only [putD, hz] at hp
        split at hp
        · rename_i z' hz'
          simp only [Option.some.injEq] at hp
          subst hp
          have hz2 := hput2 w' S' y' c2' z' hfr hlen hy hz'
          have := hput w' S' z' (d1 ++ c2' ++ d3) hfr (by rw [← hl2, e2]; simp [hlen]) hz2
          simp only [RepD, List.length_set]
          simpa using this
        · cases hp
      · cases hl
    | _ => simp [locD] at hl

def AV.len : AV → Nat
  | .dat x => x.len
  | .st ns _ => ns.sum
  | _ => 1

theorem RepAF.length {w : World} {g : Gh} : ∀ {xs : List AV} {ns : List Nat} {cs : List Value}, RepAF w g xs ns cs → cs.length = ns.sum
  | [], _, _, h => by simp only [RepAF] at h; obtain ⟨rfl, rfl⟩ := h; simp
  | x :: xs, ns, cs, h => by
    simp only [RepAF] at h
    obtain ⟨n, ns', c1, c2, rfl, rfl, rfl, _, h2⟩ := h
    simp [RepAF.length h2]

theorem RepA.len {w : World} {g : Gh} {x : AV} {cs : List Value} (h : RepA w g x cs) : cs.length = x.len := by
  cases x with
  | dat x => exact RepD.len h
  | st ns xs => exact RepAF.length h
  | oref id => simp only [RepA] at h; simp [h, AV.len]
  | pt id p off => simp only [RepA] at h; simp [h, AV.len]
  | sp x => simp only [RepA] at h; obtain ⟨b, o, ds, rfl, _⟩ := h; rfl
  | dead => simp only [RepA] at h; obtain ⟨u, rfl, _⟩ := h; rfl

def locA : AV → List Pa → Nat → Option (Nat × AV)
  | x, [], off => some (off, x)
  | .dat x, p, off => match locD x p off with | some (o, y) => some (o, .dat y) | none => none
  | .st ns xs, .fld i :: p, off => match xs[i]? with | some y => locA y p (off + (ns.take i).sum) | none => none
  | _, _, _ => none

/-- A struct's fields, one of them another. -/
def setF (ns : List Nat) (xs : List DV) (i : Nat) : AV → AV
  | .dat d => .dat (.st ns (xs.set i d))
  | z => .st ns ((xs.map .dat).set i z)

def putA : AV → List Pa → AV → Option AV
  | _, [], y => some y
  | .dat (.st ns xs), .fld i :: p, y => match xs[i]? with
    | some z => match putA (.dat z) p y with | some z' => some (setF ns xs i z') | none => none
    | none => none
  | .dat x, p, .dat y => match putD x p y with | some z => some (.dat z) | none => none
  | .st ns xs, .fld i :: p, y => match xs[i]? with
    | some z => match putA z p y with | some z' => some (.st ns (xs.set i z')) | none => none
    | none => none
  | _, _, _ => none

theorem RepAF.at {w : World} {g : Gh} : ∀ {xs : List AV} {ns : List Nat} {cs : List Value} {i : Nat} {x : AV}, RepAF w g xs ns cs → xs[i]? = some x →
    ∃ c1 c2 c3 n, ns[i]? = some n ∧ cs = c1 ++ c2 ++ c3 ∧ c1.length = (ns.take i).sum ∧ c2.length = n ∧ RepA w g x c2 ∧
      ∀ (R : AV → Prop) w' g' y c2', (∀ z ∈ xs, R z) → (∀ z c, R z → RepA w g z c → RepA w' g' z c) → c2'.length = n → RepA w' g' y c2' → RepAF w' g' (xs.set i y) ns (c1 ++ c2' ++ c3)
  | [], _, _, _, _, _, hx => by simp at hx
  | x0 :: xs, ns, cs, 0, x, h, hx => by
    simp only [RepAF] at h
    obtain ⟨n, ns', c1, c2, rfl, rfl, e3, h1, h2⟩ := h
    simp at hx; subst hx
    refine ⟨[], c1, c2, n, by simp, by simp, by simp, e3, h1, ?_⟩
    intro R w' g' y c2' hR hfr hl hy
    simp only [List.set_cons_zero, RepAF, List.nil_append]
    refine ⟨n, ns', c2', c2, rfl, rfl, hl, hy, ?_⟩
    clear h1 hy hl e3 c1
    induction xs generalizing ns' c2 with
    | nil => simpa only [RepAF] using h2
    | cons z zs ih =>
      simp only [RepAF] at h2 ⊢
      obtain ⟨n', ns'', d1, d2, e1, e2, e4, k1, k2⟩ := h2
      exact ⟨n', ns'', d1, d2, e1, e2, e4, hfr _ _ (hR z (by simp)) k1, ih _ _ k2 (fun z' hz' => hR z' (by simp at hz' ⊢; rcases hz' with h | h <;> simp [h]))⟩
  | x0 :: xs, ns, cs, i + 1, x, h, hx => by
    simp only [RepAF] at h
    obtain ⟨n, ns', c1, c2, rfl, rfl, e3, h1, h2⟩ := h
    simp at hx
    obtain ⟨d1, d2, d3, m, hm, e, hl1, hl2, hd, hput⟩ := RepAF.at h2 hx
    refine ⟨c1 ++ d1, d2, d3, m, by simpa using hm, by simp [e], by simp [hl1, e3], hl2, hd, ?_⟩
    intro R w' g' y c2' hR hfr hl hy
    simp only [List.set_cons_succ, RepAF]
    exact ⟨n, ns', c1, d1 ++ c2' ++ d3, rfl, by simp, e3, hfr _ _ (hR x0 (by simp)) h1, hput R w' g' y c2' (fun z hz => hR z (by simp [hz])) hfr hl hy⟩

theorem RepAF.of_F {w : World} {g : Gh} : ∀ {xs : List DV} {ns : List Nat} {cs : List Value}, RepF w g.S xs ns cs → RepAF w g (xs.map .dat) ns cs
  | [], _, _, h => by simpa only [RepF, RepAF, List.map_nil] using h
  | x :: xs, ns, cs, h => by
    simp only [RepF, RepAF, List.map_cons, RepA] at h ⊢
    obtain ⟨n, ns', c1, c2, e1, e2, e3, h1, h2⟩ := h
    exact ⟨n, ns', c1, c2, e1, e2, e3, h1, RepAF.of_F h2⟩

end Go.Sim
