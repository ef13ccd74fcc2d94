/- What is proved: floats of which nothing is known; a branch on a truth value that is not known; functions that yield an own slice of own slices. -/
import Derived.Test.YtlkpbnhinnhlfaaGreatZLFSimT

namespace Go.Sim
open Go.RowKit
/-- A float, a truth value, a whole number of a kind: any. -/
def anyF (v : Value) : Prop := ∃ b, b < 18446744073709551616 ∧ v = .float .f64 b
def anyB (v : Value) : Prop := ∃ b, v = .bool b
def anyI (v : Value) : Prop := ∃ n : Int, okInt .i64 n ∧ v = .int .i64 n
abbrev eBl (_ : Unit) : DV := .any anyF
/-- What may happen either way. -/
def Both (A B : Prop) : Prop := A ∧ B
theorem anyF_one {v : Value} (h : anyF v) : v.oneCell' = true := by obtain ⟨b, _, rfl⟩ := h; rfl
theorem anyB_one {v : Value} (h : anyB v) : v.oneCell' = true := by obtain ⟨b, rfl⟩ := h; rfl
theorem anyI_one {v : Value} (h : anyI v) : v.oneCell' = true := by obtain ⟨b, _, rfl⟩ := h; rfl
/-- An operand is a float, whatever it is. -/
def fU (x : AV) : Prop := ∀ (w : World) (g : Gh) (u : Value), RepS w g x u → anyF u
theorem fU_any : fU (.dat (.any anyF)) := fun w g u h => by
  simp only [RepS, RepV, RepD] at h
  obtain ⟨v, e, _, h⟩ := h
  simp only [List.cons.injEq, and_true] at e
  rw [e]; exact h
theorem fU_c {b : Nat} (h : Nat.blt b 18446744073709551616 = true) : fU (.dat (.v (.float .f64 b))) := fun _ _ _ hr => by
  have := raw_eval hr rfl
  exact ⟨b, by simpa [Nat.blt_eq] using h, this⟩
def iU (x : AV) : Prop := ∀ (w : World) (g : Gh) (u : Value), RepS w g x u → anyI u
theorem bU_any {x : AV} (e : x = .dat (.any anyB)) {w : World} {g : Gh} {u : Value} (h : RepS w g x u) : anyB u := by
  subst e
  simp only [RepS, RepV, RepD] at h
  obtain ⟨v, e, _, h⟩ := h
  simp only [List.cons.injEq, and_true] at e
  rw [e]; exact h
theorem write_lt (d : Ieee.Datum) : Ieee.double.write d < 18446744073709551616 := by
  have hw : ∀ (s : Bool) (r : Nat), r ≤ 9223372036854775807 → Ieee.double.word s r < 18446744073709551616 := fun s r hr => by
    simp only [Ieee.Format.word, Ieee.Format.signWeight, Ieee.double]
    split <;> omega
  have hi : Ieee.double.infRung = 9218868437227405312 := by decide
  have hb : Ieee.double.binade = 4503599627370496 := by decide
  cases d with
  | number s m p =>
    simp only [Ieee.Format.write, Ieee.Format.nearest]
    split
    · exact hw _ _ (by omega)
    · refine hw _ _ ?_
      rw [hi]; omega
  | infinity s => exact hw _ _ (by rw [hi]; omega)
  | nan s t => exact hw _ _ (by rw [hi, hb]; omega)
section
variable {P : Program} {N : Value → Prop} {T : Tab} {σ : St}
/-- A value of which a property is known, drawn or not. -/
theorem Step.anyV {c : Bool} {o : Oper} {p : Value → Prop} (h1 : ∀ v, p v → v.oneCell' = true) (h : ∀ σ', Agree o σ σ' → ∀ (B : Nat → Nat → Prop) (F : Cx) (w0 : World) (n : Nat) (a : Act) (w : World) (g : Gh), RelG B F w0 n σ' a w g →
    ∃ u w', (execOp a.eval o).run P w = .ok (.value u) w' ∧ (w' = w ∨ w' = w.drew) ∧ p u) : Step P N c σ o ⟨.dat (.any p), []⟩ where
  ok := by
    rintro σ' hA B F w0 n a w hd ⟨g, r⟩ Q _
    obtain ⟨u, w', hu, hw, hp⟩ := h σ' hA B F w0 n a w g r
    unfold Oper.wp
    rw [hu, Oper.upon_value]
    have r' : RelG B F w0 n σ' a w' g := by
      rcases hw with rfl | rfl
      · exact r
      · exact r.drew
    exact ⟨g, RelG.putO r' o.dst (by simp only [RepS, RepV, RepD]; exact ⟨u, rfl, h1 u hp, hp⟩) (fun k hk => by simp [AV.refs] at hk) hd⟩
  objs := fun p hp => by cases hp
  okk := fun σ' _ ok => Ok_dat ok o.dst _
  near := fun _ _ k hk => by simp [AV.refs] at hk
theorem run_choose (q : Question) (hq : q.forced = false) (w : World) : (choose q).run P w = .ok (q.cut (w.tape w.drawn q)) w.drew := by
  unfold choose
  show (if q.forced then _ else _) = _
  rw [hq]; rfl
theorem nan_lt (q : Question) (hq : (∃ a b, q = .nanBits .f64 a b) ∨ ∃ m a b, q = .nanMinMax .f64 m a b) (t : Nat) : q.forced = false ∧ q.cut t < 18446744073709551616 := by
  rcases hq with ⟨a, b, rfl⟩ | ⟨m, a, b, rfl⟩ <;> refine ⟨rfl, ?_⟩ <;> simp only [Question.cut] <;> omega
theorem opt_any (r : Option Nat) (hr : ∀ z, r = some z → z < 18446744073709551616) (q : Question) (hq : (∃ a b, q = .nanBits .f64 a b) ∨ ∃ m a b, q = .nanMinMax .f64 m a b) (w : World) :
    ∃ u w', (match r with
      | some r => pure (.float .f64 r)
      | none => do pure (.float .f64 (← choose q)) : Sem Value).run P w = .ok u w' ∧ (w' = w ∨ w' = w.drew) ∧ anyF u := by
  cases r with
  | some z => exact ⟨.float .f64 z, w, rfl, .inl rfl, z, hr z rfl, rfl⟩
  | none =>
    have hn := nan_lt q hq (w.tape w.drawn q)
    refine ⟨.float .f64 (q.cut (w.tape w.drawn q)), w.drew, ?_, .inr rfl, _, hn.2, rfl⟩
    simp only [Sem.run_bind, run_choose q hn.1, Result.andThen_ok, Sem.run_pure]
theorem map_write_lt {d : Option Ieee.Datum} {z : Nat} (h : d.map Ieee.double.write = some z) : z < 18446744073709551616 := by
  rw [Option.map_eq_some_iff] at h
  obtain ⟨x, _, rfl⟩ := h
  exact write_lt x
theorem arith_any (op : BinOp) (hop : op = .add ∨ op = .sub ∨ op = .mul ∨ op = .quo) (a b : Nat) (w : World) : ∃ u w', (Op.floatArith op .f64 a b).run P w = .ok u w' ∧ (w' = w ∨ w' = w.drew) ∧ anyF u := by
  rcases hop with rfl | rfl | rfl | rfl <;> simp only [Op.floatArith, Sem.run_bind, Sem.run_pure, Result.andThen_ok] <;>
    exact opt_any _ (fun z hz => map_write_lt hz) _ (.inl ⟨a, b, rfl⟩) w
/-- Sums, differences, products, quotients of floats that are not known. -/
theorem Step.arU {c : Bool} {o : Oper} {op : BinOp} {t t' : TypeId} {x y : Operand} (ho : o.op = .binOp op t x y t') (hop : op = .add ∨ op = .sub ∨ op = .mul ∨ op = .quo) (hx : fU (ev σ x)) (hy : fU (ev σ y)) : Step P N c σ o ⟨.dat (.any anyF), []⟩ :=
  Step.anyV (fun _ => anyF_one) fun σ' hA B F w0 n a w g r => by
    obtain ⟨u, hu, e1⟩ := hx w g _ (by rw [← hA.1 x (by simp [ho, Op.operands])]; exact ev_rep r x)
    obtain ⟨v, hv, e2⟩ := hy w g _ (by rw [← hA.1 y (by simp [ho, Op.operands])]; exact ev_rep r y)
    obtain ⟨z, w', h1, h2, h3⟩ := arith_any (P := P) op hop u v w
    refine ⟨z, w', ?_, h2, h3⟩
    have hb : binOp op t (.float .f64 u) (.float .f64 v) = Op.floatArith op .f64 u v := by
      rcases hop with rfl | rfl | rfl | rfl <;> simp [binOp]
    simp only [execOp, ho, e1, e2, eqGuard_at_float, hb, Sem.run_bind, Sem.run_pure, Result.andThen_ok, h1]
/-- Comparisons of them. -/
theorem Step.cmpU {c : Bool} {o : Oper} {op : BinOp} {t t' : TypeId} {x y : Operand} (ho : o.op = .binOp op t x y t') (hop : op = .eql ∨ op = .neq ∨ op = .lss ∨ op = .leq ∨ op = .gtr ∨ op = .geq) (hx : fU (ev σ x)) (hy : fU (ev σ y)) : Step P N c σ o ⟨.dat (.any anyB), []⟩ :=
  Step.anyV (fun _ => anyB_one) fun σ' hA B F w0 n a w g r => by
    obtain ⟨u, hu, e1⟩ := hx w g _ (by rw [← hA.1 x (by simp [ho, Op.operands])]; exact ev_rep r x)
    obtain ⟨v, hv, e2⟩ := hy w g _ (by rw [← hA.1 y (by simp [ho, Op.operands])]; exact ev_rep r y)
    obtain ⟨b, hb⟩ : ∃ b, rbin op (.float .f64 u) (.float .f64 v) = some (.bool b) := by
      rcases hop with rfl | rfl | rfl | rfl | rfl | rfl <;> exact ⟨_, rfl⟩
    refine ⟨.bool b, w, ?_, .inl rfl, b, rfl⟩
    simp only [execOp, ho, e1, e2, eqGuard_raw hb, Sem.run_bind, Sem.run_pure, Result.andThen_ok, run_rbin hb]
/-- A float, whatever it is, is handed on. -/
theorem Step.mvU {c : Bool} {o : Oper} {x : Operand} (ho : o.op = .move x ∨ o.op = .assign x) (hx : fU (ev σ x)) : Step P N c σ o ⟨.dat (.any anyF), []⟩ :=
  Step.anyV (fun _ => anyF_one) fun σ' hA B F w0 n a w g r => by
    have h := hx w g _ (by rw [← hA.1 x (by rcases ho with ho | ho <;> simp [ho, Op.operands])]; exact ev_rep r x)
    exact ⟨a.eval x, w, by rcases ho with ho | ho <;> simp only [execOp, ho, Sem.run_pure], .inl rfl, h⟩
theorem negF_lt {b : Nat} (h : b < 18446744073709551616) : Op.negFloat .f64 b < 18446744073709551616 := by
  have : Op.negFloat .f64 b = b ^^^ 2 ^ 63 := rfl
  rw [this]
  exact Nat.xor_lt_two_pow (n := 64) h (by decide)
/-- The negative of a whole number that is not known. -/
theorem Step.negI {c : Bool} {o : Oper} {t : TypeId} {x : Operand} (ho : o.op = .unOp .neg t x) (hx : iU (ev σ x)) : Step P N c σ o ⟨.dat (.any anyI), []⟩ :=
  Step.anyV (fun _ => anyI_one) fun σ' hA B F w0 n a w g r => by
    obtain ⟨u, hu, e1⟩ := hx w g _ (by rw [← hA.1 x (by simp [ho, Op.operands])]; exact ev_rep r x)
    refine ⟨.int .i64 (IntKind.i64.wrap (0 - u)), w, by simp only [execOp, ho, e1, Sem.run_bind, run_runary (op := .neg) (x := .int .i64 u) rfl, Result.andThen_ok, Sem.run_pure], .inl rfl, _, ?_, rfl⟩
    rw [IntKind.wrap_i64]; constructor <;> simp only [IntKind.min, IntKind.max, IntKind.bits, IntKind.signed] <;> simp <;> omega
theorem Step.notU {c : Bool} {o : Oper} {t : TypeId} {x : Operand} (ho : o.op = .unOp .not t x) (hx : ev σ x = .dat (.any anyB)) : Step P N c σ o ⟨.dat (.any anyB), []⟩ :=
  Step.anyV (fun _ => anyB_one) fun σ' hA B F w0 n a w g r => by
    obtain ⟨u, e1⟩ := bU_any (x := ev σ x) hx (by rw [← hA.1 x (by simp [ho, Op.operands])]; exact ev_rep r x)
    exact ⟨.bool !u, w, by simp only [execOp, ho, e1, Sem.run_bind, run_runary (op := .not) (x := .bool u) rfl, Result.andThen_ok, Sem.run_pure], .inl rfl, _, rfl⟩
/-- A branch on a truth value that is not known. -/
theorem AWp.condU {B : Nat → Nat → Prop} {n : Nat} {Q : AExit → St → Prop} {c : Operand} {x y : Code} (hc : ev σ c = .dat (.any anyB)) (ht : AWp P B n x σ Q) (hf : AWp P B n y σ Q) : AWp P B n (.cond c x y) σ Q := by
  intro F w0 a w r
  obtain ⟨g, r'⟩ := r
  obtain ⟨b, e⟩ := bU_any hc (ev_rep r' c)
  exact wp_cond_split e (fun _ => ht F w0 a w ⟨g, r'⟩) (fun _ => hf F w0 a w ⟨g, r'⟩)
end
/-! ### An own slice of own slices as a result -/
section
/-- New own slices, in a new own slice. -/
def RowsR (w : World) (lo : Nat) (T E : TypeId) (sz : Nat) (xss : List (List DV)) (v : Value) : Prop := ∃ (b c : Nat) (cur : Array Value) (s : Nat → Nat → Prop), lo ≤ b ∧ b < w.heap.size ∧ v = .slice (some ⟨b, 0, none⟩) xss.length c ∧
  w.heap[b]? = some (.cells cur T (0, 0)) ∧ cur.size = c ∧ xss.length ≤ c ∧ c ≤ maxLen ∧ (∀ j k, s j k → lo ≤ k ∧ k < w.heap.size ∧ k ≠ b ∧ ∀ j', s j' k → j' = j) ∧
    ∀ j xs, xss[j]? = some xs → ∃ u, cur[j]? = some u ∧ RepIn w (fun _ => False) (s j) E sz xs u
def AFnR (P : Program) (f : FuncId) (xs : List DV) (T E : TypeId) (sz : Nat) (xss : List (List DV)) : Prop := FnOk P f ∧
  ∀ (F : Nat → Prop) (w : World) (vs : List Value), GOk NoB w → All2 (RepV w F) xs vs →
    Calls P f vs.toArray w fun e w' => Below w.heap.size w w' ∧ ∃ v, e = .returned v ∧ RowsR w' w.heap.size T E sz xss v
variable {B : Nat → Nat → Prop} {F : Cx} {w0 w : World} {n : Nat} {σ : St} {a : Act} {g : Gh}
theorem RelG.adopt (h : RelG B F w0 n σ a w g) {w' : World} (h1 : w'.os = w.os) (h2 : w'.tape = w.tape) (h3 : w'.output = w.output) (h4 : w.heap.size ≤ w'.heap.size)
    (h5 : ∀ k, k < w.heap.size → w'.heap[k]? = w.heap[k]?) {d : Nat} (hlt : d < 1000000) (hd : σ.obj d = none) {T E : TypeId} {sz : Nat} {xss : List (List DV)} {v : Value} (hr : RowsR w' w.heap.size T E sz xss v) :
    ∃ g', RelG B F w0 n (σ.set d (.rr T E sz xss [])) a w' g' ∧ g'.hdr d = v := by
  have hne : ∀ i, σ.obj i ≠ none → i ≠ d := fun i hi e => hi (e ▸ hd)
  obtain ⟨b, c, cur, s, q1, q2, rfl, q4, q5, q6, q7, q8, q9⟩ := hr
  refine ⟨{ g with blk := upd g.blk d b, hdr := upd g.hdr d (.slice (some ⟨b, 0, none⟩) xss.length c), has := upd g.has d True, sub := fun i j k => g.sub i j k ∨ (i = d ∧ s j k) }, { os := h1.trans h.os, tape := h2.trans h.tape, output := h3.trans h.output, size := Nat.le_trans h.size h4, old := fun k hk hB => (h5 k (Nat.lt_of_lt_of_le hk h.size)).trans (h.old k hk hB), n := h.n, nlt := h.nlt, glob := h.glob, defers := h.defers, sF := h.sF, sB := fun k hk => Nat.lt_of_lt_of_le (h.sB k hk) h4, own := ?_, dj := ?_, slots := ?_, objs := ?_, ok := Ok_set h.ok (fun _ _ _ e => by cases e) (fun _ _ _ _ hs e p hp => by cases e; cases hp), hv := hv_upd h rfl, sub := ?_ }, by simp [upd_same]⟩
  · intro i hi
    by_cases he : i = d
    · subst he
      simp only [upd_same]
      exact ⟨fun hs => by have := h.sB _ hs; omega, .inl ⟨hlt, Nat.le_trans h.size q1⟩, q2⟩
    · simp only [upd_ne _ _ _ he] at hi ⊢
      obtain ⟨k1, k2, k3⟩ := h.own i hi
      exact ⟨k1, k2, Nat.lt_of_lt_of_le k3 h4⟩
  · intro i j hij hi hj
    by_cases he : i = d
    · subst he
      have hj' : j ≠ i := fun e => hij e.symm
      simp only [upd_same, upd_ne _ _ _ hj'] at hi hj ⊢
      have := (h.own j hj).2.2
      omega
    · by_cases he' : j = d
      · subst he'
        simp only [upd_same, upd_ne _ _ _ he] at hi hj ⊢
        have := (h.own i hi).2.2
        omega
      · simp only [upd_ne _ _ _ he, upd_ne _ _ _ he'] at hi hj ⊢
        exact h.dj i j hij hi hj
  · exact h.slots' (g' := { g with blk := upd g.blk d b, hdr := upd g.hdr d (.slice (some ⟨b, 0, none⟩) xss.length c), has := upd g.has d True, sub := fun i j k => g.sub i j k ∨ (i = d ∧ s j k) }) (fun _ hk => hk) (fun k _ hk => h5 k hk) (fun i hi => upd_ne _ _ _ (hne i hi)) (fun i hi => upd_ne _ _ _ (hne i hi))
  · intro i
    rw [St.obj_set]
    by_cases he : i = d
    · subst he
      simp only [if_true, RepO, upd_same]
      refine ⟨trivial, c, cur, rfl, q4, q5, q6, q7, fun j xs hj => ?_⟩
      obtain ⟨u, k1, k2⟩ := q9 j xs hj
      refine ⟨u, k1, ?_⟩
      rw [holeAt_nil]
      rcases k2 with k2 | ⟨b0, c0, cur0, m1, m2, m3, m4, m5, m6, m7⟩
      · exact .inl k2
      · exact .inr ⟨b0, c0, cur0, .inr ⟨trivial, m1⟩, m2, m3, m4, m5, m6, RepF.frame (fun _ hk => hk.elim) (fun _ _ _ => rfl) _ _ _ m7⟩
    · simp only [if_neg he]
      exact RepO.frame h (g' := { g with blk := upd g.blk d b, hdr := upd g.hdr d (.slice (some ⟨b, 0, none⟩) xss.length c), has := upd g.has d True, sub := fun i j k => g.sub i j k ∨ (i = d ∧ s j k) }) (fun _ hk => hk) (fun k _ hk => h5 k hk) (fun i hi => upd_ne _ _ _ (hne i hi)) (fun i hi => upd_ne _ _ _ (hne i hi)) i (by simp only [upd_ne _ _ _ he]) (fun hi => h5 _ (h.own i hi).2.2) (fun _ _ hb => .inl hb) (fun j b hb => h5 b (h.sub i j b hb).2.2.1)
  · rintro i j k (hb | ⟨rfl, hb⟩)
    · obtain ⟨k1, k2, k3, k4, k5⟩ := h.sub i j k hb
      refine ⟨k1, k2, Nat.lt_of_lt_of_le k3 h4, fun m hm => ?_, fun i' j' hb' => ?_⟩
      · by_cases he : m = d
        · subst he; simp only [upd_same]; omega
        · simp only [upd_ne _ _ _ he] at hm ⊢; exact k4 m hm
      · rcases hb' with hb' | ⟨_, hb'⟩
        · exact k5 i' j' hb'
        · have := (q8 j' k hb').1; omega
    · obtain ⟨k1, k2, k3, k4⟩ := q8 j k hb
      refine ⟨fun hs => by have := h.sB _ hs; omega, Nat.le_trans h.size k1, k2, fun m hm => ?_, fun i' j' hb' => ?_⟩
      · by_cases he : m = i
        · subst he; simp only [upd_same]; exact fun e => k3 e.symm
        · simp only [upd_ne _ _ _ he] at hm ⊢
          have := (h.own m hm).2.2
          omega
      · rcases hb' with hb' | ⟨e, hb'⟩
        · have := (h.sub i' j' k hb').2.2.1; omega
        · exact ⟨e, k4 j' hb'⟩
variable {P : Program} {N : Value → Prop} {T : Tab}
/-- A call that yields an own slice of own slices. -/
theorem Step.callRR {c : Bool} {o : Oper} {d : Nat} {f : FuncId} {args : List Operand} {ats : Array TypeId} {xs : List DV} {T E : TypeId} {sz : Nat} {xss : List (List DV)} (hc : AFnR P f xs T E sz xss)
    (ho : o.op = .call { callee := .value (.func f), args := args.toArray, argTypes := ats }) (hd : o.dst = some d) (hn : σ.obj d = none) (ha : argsOk σ false args xs) : Step P N c σ o ⟨.oref d, [(d, .rr T E sz xss [])]⟩ where
  ok := by
    rintro σ' ⟨g1, g2, g3⟩ B F w0 n a w hdn ⟨g, r⟩ Q _
    have hops : ∀ x ∈ args, x ∈ o.op.operands := fun x hx => by rw [ho]; simp [Op.operands, Call.operands, hx]
    have hl : looks o = true := by simp [looks, ho]
    have ha' := argsOk_agree args xs (fun x hx => g1 x (hops x hx)) (fun x hx => g3 hl x (hops x hx)) ha
    have hrep := argsOk_rep r args xs ha'
    obtain ⟨⟨fn, hf, hname, hbody⟩, hcalls⟩ := hc
    have hcall := hcalls _ w _ (r.gok fun _ _ h => h.elim) hrep
    unfold Oper.wp
    have hrun : (execOp a.eval o).run P w = .ok (.enter f (args.map a.eval).toArray) w := by
      simp only [execOp, ho, resolve, Act.eval, Deferred.ofValue, Sem.run_bind, Sem.run_pure, Result.andThen_ok, invoke, callFunc, run_program, hf, hname, hbody]
      simp
    rw [hrun, Oper.upon_enter]
    refine hcall.mono ?_
    rintro e w' ⟨hb, v, rfl, hv⟩
    obtain ⟨g', r', e'⟩ := r.adopt hb.os hb.tape hb.output hb.size hb.block (Nat.lt_of_lt_of_le (hdn d hd) r.nlt) (g2 d hd hn) hv
    have := r'.put (x := .oref d) (u := v) (by simp [RepS, e']) (fun k hk => by simp only [AV.refs] at hk; rw [hk, St.obj_set, if_pos rfl]; simp) (hdn d hd)
    rw [hd]
    exact ⟨g', this⟩
  objs := fun p hp => by simp only [List.mem_singleton] at hp; subst hp; exact .inl ⟨hd, hn⟩
  okk := fun σ' hA ok => by rw [hd]; exact Ok_new ok (fun _ _ _ e => by cases e) (fun k hk => .inl (by simpa [AV.refs] using hk)) (fun _ _ _ _ _ e p hp => by cases e; cases hp)
  near := fun y h => by rw [ho] at h; simp [carry] at h
theorem AOps.callRR {ops : Array Oper} {cf : Oper → Bool} {K : AExit → St → Prop} {o : Oper} {rest : List Oper} {L : List (Nat × AV)} {O : List (Nat × Obj)} {d : Nat} {f : FuncId} {args : List Operand} {ats : Array TypeId} {xs : List DV} {T E : TypeId} {sz : Nat} {xss : List (List DV)} (hc : AFnR P f xs T E sz xss)
    (ho : o.op = .call { callee := .value (.func f), args := args.toArray, argTypes := ats }) (hd : o.dst = some d) (hg : gOn ops L o = true) (hn : lookO O d = none) (ha : argsOk (mkSt L O) false args xs)
    (k : AOps P ops cf K rest (mkSt ((d, .oref d) :: L) ((d, .rr T E sz xss []) :: O))) : AOps P ops cf K (o :: rest) (mkSt L O) :=
  AOps.eff hg (Step.callRR hc ho hd hn ha) (by rw [hd]; exact k)
def outQR (rs : List ResultVar) (T E : TypeId) (sz : Nat) (xss : List (List DV)) : AExit → St → Prop
  | .exit _, _ => False
  | .panic _, _ => False
  | _, σ => ∃ t id, rs = [.tmp t] ∧ σ.slot t = .oref id ∧ id < 1000000 ∧ σ.obj id = some (.rr T E sz xss [])
theorem AFnR.intro {f : FuncId} {fn : Func} {c : Code} {xs : List DV} {T E : TypeId} {sz : Nat} {xss : List (List DV)} (hbare : ∀ xs ∈ xss, bareL xs = true) (hf : P.funcs[f]? = some fn) (hb : fn.body = some c) (hn : (fn.name == "runtime.NumGoroutine") = false)
    (hl : xs.length ≤ fn.ntmps) (hnl : fn.ntmps ≤ 1000000) (hw : AWp P NoB fn.ntmps c (mkSt (argL 0 xs) []) (outQR fn.results.toList T E sz xss)) : AFnR P f xs T E sz xss := by
  refine ⟨⟨fn, hf, hn, by rw [hb]; rfl⟩, fun F w vs hgl hvs => ?_⟩
  have hlen := All2.length hvs
  refine calls_of_wp hf hb (wp_mono (hw ⟨F, []⟩ w _ w ⟨{ S := fun k => F k ∧ k < w.heap.size, blk := fun _ => 0, hdr := fun _ => .bool true, has := fun _ => False, sub := fun _ _ _ => False }, ?_⟩) fun e a' w' hp => ?_)
  · refine { os := rfl, tape := rfl, output := rfl, size := Nat.le_refl _, old := fun _ _ _ => rfl, n := ?_, nlt := hnl, glob := hgl, defers := rfl, sF := fun k hk => .inl hk.1, sB := fun k hk => hk.2, own := fun i hi => hi.elim, dj := fun i j _ hi => hi.elim, slots := fun i => ?_, objs := fun i => ?_, ok := ?_, hv := fun _ => rfl, sub := fun i j b hb => hb.elim }
    · simp; omega
    · simp only [mkSt, look_argL, Nat.zero_le, if_true, Nat.sub_zero]
      split
      · rename_i x hx
        obtain ⟨u, hu, hr⟩ := hvs.get hx
        have hi : i < vs.length := (List.getElem?_eq_some_iff.1 hu).1
        have : (vs.toArray ++ Array.replicate (fn.ntmps - vs.toArray.size) undef).getD i undef = u := by
          rw [Array.getD_eq_getD_getElem?, Array.getElem?_append_left (by simpa using hi)]
          simp [hu]
        rw [this]
        exact RepV.restrict hr
      · trivial
    · simp [mkSt, lookO, RepO]
    · refine ⟨fun i k hk => ?_, fun i T sz x hi => by simp [mkSt, lookO] at hi, fun i T E sz xss hs hi => by simp [mkSt, lookO] at hi⟩
      simp only [mkSt, look_argL] at hk
      split at hk
      · split at hk <;> simp [AV.refs] at hk
      · simp [AV.refs] at hk
  · have fin : ∀ (σ : St) (t id : Nat), fn.results.toList = [.tmp t] → σ.slot t = .oref id → id < 1000000 → σ.obj id = some (.rr T E sz xss []) → Rel NoB ⟨F, []⟩ w fn.ntmps σ a' w' → a'.defers = [] ∧ ∃ v, (results fn a'.tmps).run P w' = .ok v w' ∧
        (Below w.heap.size w w' ∧ ∃ v', Ending.returned v = .returned v' ∧ RowsR w' w.heap.size T E sz xss v') := by
      rintro σ t id e1 e2 e3 e4 ⟨g, rg⟩
      have hs := rg.slots t
      rw [e2] at hs
      simp only [RepS] at hs
      have hO := rg.objs id
      rw [e4] at hO
      simp only [RepO] at hO
      obtain ⟨k1, c', cur, k2, k3, k4, k5, k6, k7⟩ := hO
      have hrun : (results fn a'.tmps).run P w' = .ok (g.hdr id) w' := by
        unfold results
        have e : fn.results = [ResultVar.tmp t].toArray := by rw [← Array.toList_inj, e1]
        rw [Sem.run_bind, e, List.mapM_toArray, Sem.run_map, ← hs]
        simp
      have hown := rg.own id k1
      refine ⟨rg.defers, _, hrun, ⟨rg.os, rg.tape, rg.output, rg.size, fun k hk => rg.old k hk (fun _ h => h)⟩, _, rfl, g.blk id, c', cur, g.sub id, hown.2.1.new e3, hown.2.2, k2, k3, k4, k5, k6, fun j k hk => ?_, fun j xs hj => ?_⟩
      · obtain ⟨m1, m2, m3, m4, m5⟩ := rg.sub id j k hk
        exact ⟨m2, m3, fun e => m4 id k1 e.symm, fun j' hj' => (m5 id j' hj').2⟩
      · obtain ⟨u, m1, m2⟩ := k7 j xs hj
        refine ⟨u, m1, ?_⟩
        rw [holeAt_nil] at m2
        rcases m2 with m2 | ⟨b0, c0, cur0, n1, n2, n3, n4, n5, n6, n7⟩
        · exact .inl m2
        · exact .inr ⟨b0, c0, cur0, n1, n2, n3, n4, n5, n6, RepF.bare _ _ _ (hbare xs (List.mem_of_getElem? hj)) n7⟩
    cases e with
    | normal => obtain ⟨σ, ⟨t, id, e1, e2, e3, e4⟩, h4⟩ := hp; exact fin σ t id e1 e2 e3 e4 h4
    | ret => obtain ⟨σ, ⟨t, id, e1, e2, e3, e4⟩, h4⟩ := hp; exact fin σ t id e1 e2 e3 e4 h4
    | exit i => obtain ⟨σ, h1, h3⟩ := hp; exact h1.elim
    | goto l => exact hp.elim
    | panic ch => obtain ⟨v, σ, _, h, _⟩ := hp; exact h.elim
    | outgrown => exact hp.elim
end
end Go.Sim
