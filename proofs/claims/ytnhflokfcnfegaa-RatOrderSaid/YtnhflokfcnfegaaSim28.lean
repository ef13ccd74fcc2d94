/- What is proved: the words in which a function's walk is told, and the rules that read them. -/
import Derived.Test.YtnhflokfcnfegaaSim27
namespace Go.Sim
open Go.RowKit

abbrev eInt (k : IntKind) (n : Int) : DV := .v (.int k n)
abbrev eBool (b : Bool) : DV := .v (.bool b)
abbrev eStr (s : ByteArray) : DV := .v (.string s)
abbrev eFlt (k : FloatKind) (n : Nat) : DV := .v (.float k n)
abbrev eSl {α : Type} (E : TypeId) (sz : Nat) (e : α → DV) (xs : List α) : DV := .sl E sz (List.map e xs)

/-- What a whole number, and a float, of an argument is. -/
def okInt (k : IntKind) (n : Int) : Prop := k.min ≤ n ∧ n ≤ k.max
def okFlt (b : Nat) : Prop := (Lit.float .f64 b).wf = true

/-- A divisor. -/
def Nz (n : Int) (k : Prop) : Prop := n ≠ 0 ∧ k
/-- A count. -/
def Nn (n : Int) (k : Prop) : Prop := 0 ≤ n ∧ k
def Cat (a b : ByteArray) (k : ByteArray → Prop) : Prop := a.size + b.size ≤ 9223372036854775807 ∧ Let (a ++ b) k
def FOp (op : BinOp) (a b : Nat) (k : Nat → Prop) : Prop := ∃ r, farith op .f64 a b = some r ∧ k r
/-- A part of a slice. -/
def Sl {α : Type} (xs : List α) (lo hi : Int) (k : List α → Prop) : Prop := 0 ≤ lo ∧ lo ≤ hi ∧ hi ≤ xs.length ∧ Let ((xs.drop lo.toNat).take (hi.toNat - lo.toNat)) k
/-- A slice that is made. -/
def Mk {α : Type} (b : Nat) (n : Int) (z : α) (k : List α → Prop) : Prop := 0 ≤ n ∧ (b : Int) * n ≤ 281474976710656 ∧ n ≤ 9223372036854775807 ∧ Let (List.replicate n.toNat z) k
/-- What is appended. -/
def App {α : Type} (b : Nat) (xs ys : List α) (k : List α → Prop) : Prop := xs.length + ys.length ≤ maxLen ∧ (xs.length + ys.length) * b ≤ 140737488355328 ∧ Let (xs ++ ys) k

theorem Let.as {α : Type} {e : α} {k : α → Prop} (v : α) (he : e = v) (h : k v) : Let e k := fun _ hx => (hx.trans he) ▸ h
theorem Let.it {α : Type} {e : α} {k : α → Prop} (h : k e) : Let e k := fun x hx => by subst hx; exact h
theorem Br.t {c : Bool} {A B : Prop} (hc : c = true) (h : A) : Br c A B := ⟨fun _ => h, fun hn => by (rw [hc] at hn; cases hn)⟩
theorem Br.f {c : Bool} {A B : Prop} (hc : c = false) (h : B) : Br c A B := ⟨fun hn => by (rw [hc] at hn; cases hn), fun _ => h⟩
theorem Br.dT {p : Prop} [Decidable p] {A B : Prop} (hc : p) (h : A) : Br (decide p) A B := Br.t (by simpa using hc) h
theorem Br.dF {p : Prop} [Decidable p] {A B : Prop} (hc : ¬ p) (h : B) : Br (decide p) A B := Br.f (by simpa using hc) h
theorem Br.d {p : Prop} [Decidable p] {A B : Prop} (ht : p → A) (hf : ¬ p → B) : Br (decide p) A B := ⟨fun h => ht (by simpa using h), fun h => hf (by simpa using h)⟩
theorem Br.eT {a b : Int} {A B : Prop} (hc : a = b) (h : A) : Br (a == b) A B := Br.t (by simpa using hc) h
theorem Br.eF {a b : Int} {A B : Prop} (hc : a ≠ b) (h : B) : Br (a == b) A B := Br.f (by simpa using hc) h
theorem Br.e {a b : Int} {A B : Prop} (ht : a = b → A) (hf : a ≠ b → B) : Br (a == b) A B := ⟨fun h => ht (by simpa using h), fun h => hf (by simpa using h)⟩
theorem Call.mk {α : Type} {R k : α → Prop} {x : α} (h1 : R x) (h2 : k x) : Call R k := ⟨x, h1, h2⟩
theorem At.mk {α : Type} {xs : List α} {i : Int} {k : α → Prop} (h0 : 0 ≤ i) (h1 : i < xs.length) (h : ∀ x, xs[i.toNat]? = some x → k x) : At xs i k :=
  ⟨h0, xs[i.toNat]'(by omega), List.getElem?_eq_getElem _, h _ (List.getElem?_eq_getElem _)⟩

theorem Cat.get {a b : ByteArray} {k : ByteArray → Prop} (h : Cat a b k) : a.size + b.size ≤ 9223372036854775807 ∧ ∃ x, a ++ b = x ∧ k x := ⟨h.1, h.2.get⟩
theorem Sl.get {α : Type} {xs : List α} {lo hi : Int} {k : List α → Prop} (h : Sl xs lo hi k) : 0 ≤ lo ∧ lo ≤ hi ∧ hi ≤ xs.length ∧ ∃ x, (xs.drop lo.toNat).take (hi.toNat - lo.toNat) = x ∧ k x := ⟨h.1, h.2.1, h.2.2.1, h.2.2.2.get⟩
theorem Mk.get {α : Type} {b : Nat} {n : Int} {z : α} {k : List α → Prop} (h : Mk b n z k) : 0 ≤ n ∧ (b : Int) * n ≤ 281474976710656 ∧ n ≤ 9223372036854775807 ∧ ∃ x, List.replicate n.toNat z = x ∧ k x := ⟨h.1, h.2.1, h.2.2.1, h.2.2.2.get⟩
theorem App.get {α : Type} {b : Nat} {xs ys : List α} {k : List α → Prop} (h : App b xs ys k) : xs.length + ys.length ≤ maxLen ∧ (xs.length + ys.length) * b ≤ 140737488355328 ∧ ∃ x, xs ++ ys = x ∧ k x := ⟨h.1, h.2.1, h.2.2.get⟩
theorem AtS.get {s : ByteArray} {i : Int} {k : Int → Prop} (h : AtS s i k) : 0 ≤ i ∧ ∃ x : Int, (∃ b, s[i.toNat]? = some b ∧ (b.toNat : Int) = x) ∧ k x := by
  obtain ⟨h0, b, hb, hk⟩ := h
  exact ⟨h0, _, ⟨b, hb, rfl⟩, hk⟩

theorem app1 {α : Type} {e : α → DV} {xs ys : List α} (h : xs.length + ys.length ≤ maxLen) : (xs.map e).length + (ys.map e).length ≤ maxLen := by simpa using h
theorem app2 {α : Type} {e : α → DV} {xs ys : List α} {b : Nat} (h : (xs.length + ys.length) * b ≤ 140737488355328) : ((xs.map e).length + (ys.map e).length) * b ≤ 140737488355328 := by simpa using h
theorem app3 {α : Type} {e : α → DV} {xs ys zs : List α} (h : xs ++ ys = zs) : xs.map e ++ ys.map e = zs.map e := by simp [← h]
theorem map_lt2 {α : Type} {e : α → DV} {xs : List α} {m : Nat} {x : α} (h : xs[m]? = some x) : m < (xs.map e).length := by
  have := (List.getElem?_eq_some_iff.1 h).1
  simpa using this
theorem map_set1 {α : Type} {e : α → DV} {xs : List α} {m : Nat} {x : α} : (xs.map e).set m (e x) = (xs.set m x).map e := by rw [List.map_set]
theorem map_setO {α : Type} {e o : α → DV} {xs : List α} {m : Nat} {x : α} (h : ∀ x, e x = o x) : (xs.map e).set m (o x) = (xs.set m x).map e := by rw [List.map_set, h]
theorem vmap_set1 {α : Type} {n : Nat} {e : α → DV} {v : Vector α n} {m : Nat} {x : α} : (v.toList.map e).set m (e x) = (v.setIfInBounds m x).toList.map e := by
  rw [← List.map_set]
  congr 1
  simp [Vector.toList, Vector.setIfInBounds]

theorem aggMatch_arr {te : TE} {α : Type} {n sz : Nat} {e : α → DV} {v : Vector α n} (h1 : te.d.agg = true) (h2 : te.size = n * sz) : aggMatch te (.dat (.ar sz (v.toList.map e))) = true := by
  simp [aggMatch, AV.agg, DV.agg, AV.len, DV.len, h1, h2]

/-- A part of a code, with what is known behind it told in full. -/
theorem AWp.cutK {P : Program} {B : Nat → Prop} {n : Nat} {x y : Code} {σ : St} {Q : AExit → St → Prop} {ι : Type} (I : ι → St) (Inv : ι → Prop) (h1 : AWp P B n x σ (thenQ (fun σ' => ∃ i, Inv i ∧ Sub (I i) σ') Q)) (h2 : ∀ i, Inv i → AWp P B n y (I i) Q) :
    AWp P B n x σ (thenQ (fun σ' => AWp P B n y σ' Q) Q) :=
  AWp.mono h1 fun e σ' hq => by
    cases e with
    | normal => obtain ⟨i, hi, hs⟩ := hq; exact AWp.sub hs (h2 i hi)
    | exit k => exact hq
    | ret => exact hq

/-- The greater, and the smaller one. -/
def opMaxI (a b : Int) : Int := if b > a then b else a
def opMinI (a b : Int) : Int := if b < a then b else a

theorem Step.mv {P : Program} {σ : St} {c : Bool} {o : Oper} {x : Operand} {d : DV} (ho : o.op = .move x ∨ o.op = .assign x) (hx : ev σ x = .dat d) : Step P c σ o ⟨.dat d, []⟩ := by
  refine Step.value (fun σ' hA B F w0 n a w g rr => ?_) (fun _ _ _ k hk => by simp [AV.refs] at hk)
  have hev := ev_rep rr x
  rw [hA.1 x (by rcases ho with ho | ho <;> simp [ho, Op.operands]), hx] at hev
  exact ⟨a.eval x, by rcases ho with ho | ho <;> simp [execOp, ho], hev⟩

section
variable {P : Program} {T : Tab} {ops : Array Oper} {cf : Oper → Bool} {K : St → Prop} {o : Oper} {rest : List Oper} {L : List (Nat × AV)} {O : List (Nat × Obj)}

/-- What a function that the model stands in for hands back for plain values. -/
def ExtOk (P : Program) (f : FuncId) (vals : List Value) (y : DV) : Prop := ∃ v, (∀ w, (callFunc f vals.toArray).run P w = .ok (.value v) w) ∧ ∀ (w : World) (S : Nat → Prop), RepV w S y v

theorem AOps.extC {d : Nat} {f : FuncId} {args : List Operand} {ats : Array TypeId} {vals : List Value} {y : DV} (hc : ExtOk P f vals y)
    (hd : o.dst = some d) (hg : gOn ops L o = true) (ho : o.op = .call { callee := .value (.func f), args := args.toArray, argTypes := ats }) (hv : All2 (fun x u => (ev (mkSt L O) x).raw = some u) args vals)
    (k : AOps P ops cf K rest (mkSt ((d, .dat y) :: L) O)) : AOps P ops cf K (o :: rest) (mkSt L O) :=
  let ⟨_, h1, h2⟩ := hc
  AOps.ext h1 h2 hd hg ho hv k

/-- A value of any kind, once more. -/
theorem AOps.mv {d : Nat} {x : Operand} {y : DV} (hd : o.dst = some d) (hg : gOn ops L o = true) (ho : o.op = .move x ∨ o.op = .assign x) (hx : ev (mkSt L O) x = .dat y) (k : AOps P ops cf K rest (mkSt ((d, .dat y) :: L) O)) : AOps P ops cf K (o :: rest) (mkSt L O) :=
  AOps.v hd hg (Step.mv ho hx) k

/-- A float, by another name. -/
theorem AOps.fl (hT : TabOk P T) {d : Nat} {κ : FloatKind} {i j : Nat} (hd : o.dst = some d) (hg : gOn ops L o = true) (h : opV T (mkSt L O) o = some (.dat (.v (.float κ i)))) (e : i = j) (k : AOps P ops cf K rest (mkSt ((d, .dat (.v (.float κ j))) :: L) O)) :
    AOps P ops cf K (o :: rest) (mkSt L O) := AOps.v hd hg (Step.pure hT (e ▸ h)) k

theorem AOps.catE {d : Nat} {t t' : TypeId} {x y : Operand} {u v z : ByteArray} (ho : o.op = .binOp .add t x y t') (hd : o.dst = some d) (hg : gOn ops L o = true) (hx : ev (mkSt L O) x = .dat (.v (.string u))) (hy : ev (mkSt L O) y = .dat (.v (.string v)))
    (h : u.size + v.size ≤ 9223372036854775807) (e : u ++ v = z) (k : AOps P ops cf K rest (mkSt ((d, .dat (.v (.string z))) :: L) O)) : AOps P ops cf K (o :: rest) (mkSt L O) := by
  subst e
  exact AOps.cat ho hd hg hx hy h k

/-- A bound, as a whole number. -/
def loOkI (σ : St) : Option Operand → Int → Prop
  | none, l => l = 0
  | some x, l => ∃ k, ev σ x = .dat (.v (.int k l))
def hiOkI (σ : St) (n : Nat) : Option Operand → Int → Prop
  | none, h => h = n
  | some x, h => ∃ k, ev σ x = .dat (.v (.int k h))

theorem AOps.cutE (hT : TabOk P T) {α : Type} {e : α → DV} {d : Nat} {t E E' : TypeId} {te : TE} {x : Operand} {lo hi : Option Operand} {l h : Int} {sz : Nat} {xs : List α} (ho : o.op = .slice t x lo hi none) (hd : o.dst = some d) (hg : gOn ops L o = true) (hs : slE T t = some (E, te))
    (hx : ev (mkSt L O) x = .dat (.sl E' sz (xs.map e))) (hsz : Nat.beq sz te.size = true) (hlo : loOkI (mkSt L O) lo l) (hhi : hiOkI (mkSt L O) xs.length hi h) (h1 : 0 ≤ l) (h2 : l ≤ h) (h3 : h ≤ xs.length) {zs : List α} (ez : (xs.drop l.toNat).take (h.toNat - l.toNat) = zs)
    (k : AOps P ops cf K rest (mkSt ((d, .dat (.sl E' sz (zs.map e))) :: L) O)) : AOps P ops cf K (o :: rest) (mkSt L O) := by
  subst ez
  refine AOps.cut hT (l := l.toNat) (h := h.toNat) ho hd hg hs hx hsz ?_ ?_ (by omega) (by simp; omega) (by rw [← List.map_drop, ← List.map_take]) k
  · cases lo with
    | none => simp only [loOkI] at hlo; subst hlo; rfl
    | some z => obtain ⟨κ, hκ⟩ := hlo; exact ⟨κ, by rw [hκ]; congr 3; omega⟩
  · cases hi with
    | none => simp only [hiOkI] at hhi; subst hhi; simp [hiOk]
    | some z => obtain ⟨κ, hκ⟩ := hhi; exact ⟨κ, by rw [hκ]; congr 3; omega⟩

theorem AOps.makeownE (hT : TabOk P T) {α : Type} {e : α → DV} {z : α} {d : Nat} {t : TypeId} {x y : Operand} {E : TypeId} {te : TE} {κ κ' : IntKind} {m : Int} (ho : o.op = .makeSlice t x y) (hd : o.dst = some d) (hg : gOn ops L o = true) (hn : lookO O d = none)
    (hs : slE T t = some (E, te)) (hx : ev (mkSt L O) x = .dat (.v (.int κ m))) (hy : ev (mkSt L O) y = .dat (.v (.int κ' m))) (h0 : 0 ≤ m) (hb : (te.bytes : Int) * m ≤ 281474976710656) (h63 : m ≤ 9223372036854775807) (hz : e z = te.zero) {zs : List α} (ez : List.replicate m.toNat z = zs)
    (k : AOps P ops cf K rest (mkSt ((d, .oref d) :: L) ((d, .row E te.size (zs.map e)) :: O))) : AOps P ops cf K (o :: rest) (mkSt L O) :=
  AOps.makeown hT ho hd hg hn hs hx hy h0 hb h63 (by rw [← ez, List.map_replicate, hz]) k

theorem AOps.makeE (hT : TabOk P T) {α : Type} {e : α → DV} {z : α} {d : Nat} {t : TypeId} {x y : Operand} {E : TypeId} {te : TE} {κ κ' : IntKind} {m : Int} (ho : o.op = .makeSlice t x y) (hd : o.dst = some d) (hg : gOn ops L o = true)
    (hs : slE T t = some (E, te)) (hx : ev (mkSt L O) x = .dat (.v (.int κ m))) (hy : ev (mkSt L O) y = .dat (.v (.int κ' m))) (h0 : 0 ≤ m) (hb : (te.bytes : Int) * m ≤ 281474976710656) (h63 : m ≤ 9223372036854775807) (hz : e z = te.zero) {zs : List α} (ez : List.replicate m.toNat z = zs)
    (k : AOps P ops cf K rest (mkSt ((d, .dat (.sl E te.size (zs.map e))) :: L) O)) : AOps P ops cf K (o :: rest) (mkSt L O) :=
  AOps.v hd hg (Step.make hT ho hs hx hy h0 hb h63) (by rw [← hz, ← List.map_replicate, ez]; exact k)

end
end Go.Sim
