/- What is proved: the program's structs as Lean's, how they lie in memory, and their equality. -/
import Derived.Test.YtlkpbnhinnhlfaaGreatZLFTab
import Derived.Test.YtlkpbnhinnhlfaaGreatZLFSimI
import Derived.Laws.Build

namespace Go.Sim.YtlkpbnhinnhlfaaGreat
open Go.RowKit Go.Proofs Go.Proofs.Tryz
set_option maxRecDepth 100000
structure GIval where
  Lo : Nat
  Hi : Nat
abbrev GIval.zero : GIval := ⟨(0 : Nat), (0 : Nat)⟩
abbrev GIval.enc (x : GIval) : DV := .st [1, 1] [.v (.float .f64 x.Lo), .v (.float .f64 x.Hi)]
def GIval.beq (x y : GIval) : Bool := (FloatKind.f64.format.order x.Lo y.Lo == some .eq) && ((FloatKind.f64.format.order x.Hi y.Hi == some .eq) && true)
theorem GIval.eqok35 (d : Nat) (x y : GIval) : EqOk prog (d + 2) 35 (GIval.enc x) (GIval.enc y) (GIval.beq x y) :=
  EqOk.struct tabOk Tryz.underlying35 (by decide +kernel) ⟨by decide, rfl, ⟨te28, rfl, rfl, rfl⟩, _, _, (EqOk.flt ok28 rfl), ⟨by decide, rfl, ⟨te28, rfl, rfl, rfl⟩, _, _, (EqOk.flt ok28 rfl), rfl, rfl⟩, rfl⟩
structure Gref01Num where
  Neg : Bool
  M : List Int
  E : Int
abbrev Gref01Num.zero : Gref01Num := ⟨false, ([] : List Int), (0 : Int)⟩
abbrev Gref01Num.enc (x : Gref01Num) : DV := .st [1, 1, 1] [.v (.bool x.Neg), .sl 132 1 (List.map (eInt .u32) x.M), .v (.int .i64 x.E)]
structure GParts where
  Neg : Bool
  M : Int
  E : Int
abbrev GParts.zero : GParts := ⟨false, (0 : Int), (0 : Int)⟩
abbrev GParts.enc (x : GParts) : DV := .st [1, 1, 1] [.v (.bool x.Neg), .v (.int .u64 x.M), .v (.int .i64 x.E)]
def GParts.beq (x y : GParts) : Bool := (x.Neg == y.Neg) && ((x.M == y.M) && ((x.E == y.E) && true))
structure Gulpvalue where
  neg_ : Bool
  hi_ : Int
  lo_ : Int
  e_ : Int
  more_ : Bool
abbrev Gulpvalue.zero : Gulpvalue := ⟨false, (0 : Int), (0 : Int), (0 : Int), false⟩
abbrev Gulpvalue.enc (x : Gulpvalue) : DV := .st [1, 1, 1, 1, 1] [.v (.bool x.neg_), .v (.int .u64 x.hi_), .v (.int .u64 x.lo_), .v (.int .i64 x.e_), .v (.bool x.more_)]
def Gulpvalue.beq (x y : Gulpvalue) : Bool := (x.neg_ == y.neg_) && ((x.hi_ == y.hi_) && ((x.lo_ == y.lo_) && ((x.e_ == y.e_) && ((x.more_ == y.more_) && true))))
structure Gref01Exact where
  A : Gref01Num
  B : Gref01Num
  Root : Bool
abbrev Gref01Exact.zero : Gref01Exact := ⟨Gref01Num.zero, Gref01Num.zero, false⟩
abbrev Gref01Exact.enc (x : Gref01Exact) : DV := .st [3, 3, 1] [Gref01Num.enc x.A, Gref01Num.enc x.B, .v (.bool x.Root)]
def GIval.ok (x : GIval) : Prop := okFlt x.Lo ∧ okFlt x.Hi
def Gref01Num.ok (x : Gref01Num) : Prop := (x.M.length ≤ maxLen ∧ ∀ z0 ∈ x.M, okInt .u32 z0) ∧ okInt .i64 x.E
def GParts.ok (x : GParts) : Prop := okInt .u64 x.M ∧ okInt .i64 x.E
def Gulpvalue.ok (x : Gulpvalue) : Prop := okInt .u64 x.hi_ ∧ okInt .u64 x.lo_ ∧ okInt .i64 x.e_
def Gref01Exact.ok (x : Gref01Exact) : Prop := Gref01Num.ok x.A ∧ Gref01Num.ok x.B
end Go.Sim.YtlkpbnhinnhlfaaGreat

/- What is proved: bytes laid by a literal and turned to their own type (a string's constant as bytes): they are marked, and shared from then on. -/
namespace Go.Sim
open Go.RowKit
section
variable {P : Program} {N : Value → Prop} {T : Tab} {σ : St}
/-- An own block is written for the last time, and shared from now on. -/
theorem RelG.spent {B : Nat → Nat → Prop} {F : Cx} {w0 w w' : World} {n : Nat} {σ : St} {a : Act} {g : Gh} (h : RelG B F w0 n σ a w g) {id : Nat} (hlow : id < 1000000) (hid : g.has id) (hb : BelowB (g.blk id) w w') :
    RelG B F w0 n (σ.set id .gone) a w' { g with S := fun k => g.S k ∨ k = g.blk id, has := upd g.has id False } := by
  obtain ⟨k1, k2, k3⟩ := h.own id hid
  have hS : ∀ k, g.S k → g.S k ∨ k = g.blk id := fun _ hk => .inl hk
  have hm : ∀ k, g.S k → k < w.heap.size → w'.heap[k]? = w.heap[k]? := fun k hk hlt => hb.old k hlt (fun e => k1 (e ▸ hk))
  refine { os := hb.os.trans h.os, tape := hb.tape.trans h.tape, output := hb.output.trans h.output, size := Nat.le_trans h.size hb.size, old := fun k hk hB => ?_, n := h.n, nlt := h.nlt, glob := h.glob, defers := h.defers, sF := ?_, sB := ?_, own := ?_, dj := ?_, slots := ?_, objs := ?_, ok := Ok_set h.ok (fun _ _ _ e => by cases e), hv := h.hv, sub := ?_ }
  · rw [hb.old k (Nat.lt_of_lt_of_le hk h.size)]
    · exact h.old k hk hB
    · intro e
      have := k2.new hlow
      omega
  · rintro k (hk | rfl)
    · exact h.sF k hk
    · exact .inr (k2.new hlow)
  · rintro k (hk | rfl)
    · exact Nat.lt_of_lt_of_le (h.sB k hk) hb.size
    · exact Nat.lt_of_lt_of_le k3 hb.size
  · intro i hi
    by_cases he : i = id
    · subst he; simp [upd_same] at hi
    · simp only [upd_ne _ _ _ he] at hi
      obtain ⟨m1, m2, m3⟩ := h.own i hi
      exact ⟨fun hs => hs.elim m1 (fun hs => h.dj i id he hi hid hs), m2, Nat.lt_of_lt_of_le m3 hb.size⟩
  · intro i j hij hi hj
    by_cases he : i = id
    · subst he; simp [upd_same] at hi
    · by_cases he' : j = id
      · subst he'; simp [upd_same] at hj
      · simp only [upd_ne _ _ _ he, upd_ne _ _ _ he'] at hi hj; exact h.dj i j hij hi hj
  · exact h.slots' (g' := { g with S := fun k => g.S k ∨ k = g.blk id, has := upd g.has id False }) hS hm (fun _ _ => rfl) (fun _ _ => rfl)
  · intro i
    rw [St.obj_set]
    by_cases he : i = id
    · subst he; simp [RepO, upd_same]
    · simp only [if_neg he]
      exact RepO.frame h (g' := { g with S := fun k => g.S k ∨ k = g.blk id, has := upd g.has id False }) hS hm (fun _ _ => rfl) (fun _ _ => rfl) i (by simp only [upd_ne _ _ _ he]) (fun hi => hb.old _ (h.own i hi).2.2 (fun e => h.dj i id he hi hid e)) (fun _ _ hb' => hb') (fun j b hb' => hb.old b (h.sub i j b hb').2.2.1 (fun e => (h.sub i j b hb').2.2.2.1 id hid e.symm))
  · intro i j b hb'
    obtain ⟨m1, m2, m3, m4, m5⟩ := h.sub i j b hb'
    refine ⟨fun hs => hs.elim m1 (fun hs => m4 id hid hs.symm), m2, Nat.lt_of_lt_of_le m3 hb.size, fun k hk => ?_, m5⟩
    by_cases he : k = id
    · subst he; simp [upd_same] at hk
    · simp only [upd_ne _ _ _ he] at hk; exact m4 k hk
end
end Go.Sim

/- What is proved: calls with a box of one's own that may panic; what follows a panic in a region is never reached; a region that ends in a panic. -/
namespace Go.Sim
open Go.RowKit
theorem bot_refs (k : Nat) : ¬ bot.refs k := by simp [bot, AV.refs, AV.refs.refsL]
/-- A state that no memory is as. -/
def NoRel (σ : St) : Prop := ∃ id Ty sz, σ.obj id = some (.box Ty sz bot)
theorem NoRel.elim {B : Nat → Nat → Prop} {F : Cx} {w0 w : World} {n : Nat} {σ : St} {a : Act} (h : NoRel σ) (r : Rel B F w0 n σ a w) : False := by
  obtain ⟨id, Ty, sz, h⟩ := h
  obtain ⟨g, r⟩ := r
  have hO := r.objs id
  rw [h] at hO
  simp [RepO, bot, RepA, RepAF] at hO
section
variable {P : Program} {N : Value → Prop} {T : Tab} {σ : St}
/-- An operation one of whose operands no value is as. -/
theorem Step.deadV {c : Bool} {o : Oper} {x : Operand} (hx : x ∈ o.op.operands) (h : ev σ x = bot) : Step P N c σ o ⟨bot, []⟩ where
  ok := by
    rintro σ' ⟨g1, _, _⟩ B F w0 n a w _ ⟨g, r⟩
    have := ev_rep r x
    rw [g1 x hx, h] at this
    exact (bot_rep this).elim
  objs := fun p hp => by cases hp
  okk := fun σ' _ ok => Ok_bot ok o.dst
  near := fun y h k hk => (bot_refs k hk).elim
  made := fun _ k hk => (bot_refs k hk).elim
/-- An operation that looks at a box that no memory is as. -/
theorem Step.deadO {c : Bool} {o : Oper} {x : Operand} {id off : Nat} {p : List Pa} {Ty : TypeId} {sz : Nat} (hx : x ∈ o.op.operands) (hl : looks o = true) (h : ev σ x = .pt id p off) (hob : σ.obj id = some (.box Ty sz bot)) : Step P N c σ o ⟨bot, []⟩ where
  ok := by
    rintro σ' ⟨_, _, g3⟩ B F w0 n a w _ r
    have : NoRel σ' := ⟨id, Ty, sz, by rw [g3 hl x hx id (by rw [h]; simp [AV.refs])]; exact hob⟩
    exact (this.elim r).elim
  objs := fun p hp => by cases hp
  okk := fun σ' _ ok => Ok_bot ok o.dst
  near := fun y h k hk => (bot_refs k hk).elim
  made := fun _ k hk => (bot_refs k hk).elim
end
/-! ### What follows in a region -/
def isBot : AV → Bool
  | .st [1] [] => true
  | _ => false
theorem isBot_ok {x : AV} (h : isBot x = true) : x = bot := by
  unfold isBot at h; split at h
  · rfl
  · cases h
/-- Is an operand none, or does it name a box that is none? -/
def deadX (L : List (Nat × AV)) (O : List (Nat × Obj)) (lk : Bool) (x : Operand) : Bool := match ev (mkSt L O) x with
  | .pt id _ _ => lk && (match lookO O id with | some (.box _ _ y) => isBot y | _ => false)
  | y => isBot y
section
variable {P : Program} {T : Tab} {ops : Array Oper} {cf : Oper → Bool} {K : AExit → St → Prop} {O : List (Nat × Obj)}
theorem Step.dead {N : Value → Prop} {c : Bool} {o : Oper} {L : List (Nat × AV)} (h : o.op.operands.toList.any (deadX L O (looks o)) = true) : Step P N c (mkSt L O) o ⟨bot, []⟩ := by
  obtain ⟨x, hm', hx⟩ := List.any_eq_true.1 h
  have hm : x ∈ o.op.operands := by simpa using hm'
  unfold deadX at hx
  split at hx
  · rename_i id p off he
    simp only [Bool.and_eq_true] at hx
    obtain ⟨hl, hx⟩ := hx
    split at hx
    · rename_i Ty sz y ho
      exact Step.deadO hm hl he (ho.trans (by rw [isBot_ok hx]))
    · cases hx
  · exact Step.deadV hm (isBot_ok hx)
end
/-! ### A region that ends in a panic -/
end Go.Sim

/- What is proved: contracts of functions that get a pointer to a box of the caller's own and a method of it as a value; their calls; calls of such values; values that are panicked. -/
namespace Go.Sim
open Go.RowKit
/-- A method of a box, as a value. -/
def metV (m : FuncId) (b : Nat) : Value := .func (.func m) #[.pointer (some ⟨b, 0, none⟩)] #[]
/-- What a function does that gets a box and a method of it. -/
def AFnM (P : Program) (f m : FuncId) (T : TypeId) (sz : Nat) (x : DV) (xs : List DV) (o : Out) (x' : DV) : Prop := FnOk P f ∧
  ∀ (F : Nat → Prop) (w : World) (b : Nat) (cur : Array Value) (vs : List Value), GOk (OneB b) w → w.heap[b]? = some (.cells cur T (0, 0)) → cur.size = sz → ¬ F b → RepD w F x cur.toList → All2 (RepV w F) xs vs →
    Calls P f (Value.pointer (some ⟨b, 0, none⟩) :: metV m b :: vs).toArray w fun e w' => BelowB b w w' ∧ OutOk o e fun y v =>
      (∃ cur', w'.heap[b]? = some (.cells cur' T (0, 0)) ∧ cur'.size = sz ∧ RepD w' (fun k => k ≠ b ∧ (F k ∨ w.heap.size ≤ k)) x' cur'.toList) ∧ RepV w' (fun k => k ≠ b ∧ (F k ∨ w.heap.size ≤ k)) y v
section
variable {P : Program} {T : Tab}
/-- A contract for a box handed in and a method of it, out of the rules for the function's code. -/
theorem AFnM.intro {f m : FuncId} {fn : Func} {c : Code} {Ty : TypeId} {sz : Nat} {x : DV} {xs : List DV} {o : Out} {x' : DV} (hT : TabOk P T) (hf : P.funcs[f]? = some fn) (hb : fn.body = some c) (hn : (fn.name == "runtime.NumGoroutine") = false)
    (hl : xs.length + 2 ≤ fn.ntmps) (hnl : fn.ntmps ≤ 1000000) (hw : ∀ b, AWp P (OneB b) fn.ntmps c (mkSt ((0, .pt 1000000 [] 0) :: (1, .fb m [1000000] []) :: argL 2 xs) [(1000000, .box Ty sz (.dat x))]) (outQB T fn.results.toList Ty sz o x')) : AFnM P f m Ty sz x xs o x' := by
  refine ⟨⟨fn, hf, hn, by rw [hb]; rfl⟩, fun F w b cur vs hgl hcur hsz hFb hrx hvs => ?_⟩
  have hlen := All2.length hvs
  have hbl : b < w.heap.size := (Array.getElem?_eq_some_iff.1 hcur).1
  refine calls_of_wp hf hb (wp_mono (hw b ⟨F, []⟩ w _ w ⟨{ S := fun k => F k ∧ k < w.heap.size, blk := fun _ => b, hdr := fun _ => .bool true, has := fun i => i = 1000000, sub := fun _ _ _ => False }, ?_⟩) fun e a' w' hp => ?_)
  · refine { os := rfl, tape := rfl, output := rfl, size := Nat.le_refl _, old := fun _ _ _ => rfl, n := ?_, nlt := hnl, glob := hgl, defers := rfl, sF := fun k hk => .inl hk.1, sB := fun k hk => hk.2, own := fun i hi => ⟨fun h => hFb h.1, .inr ⟨by omega, hi, rfl⟩, hbl⟩, dj := fun i j hij hi hj => absurd (hi.trans hj.symm) hij, slots := fun i => ?_, objs := fun i => ?_, ok := ?_, hv := fun _ => rfl, sub := fun i j b hb => hb.elim }
    · simp; omega
    · simp only [mkSt, look]
      split
      · rename_i hi
        have := Nat.eq_of_beq_eq_true hi
        subst this
        rw [Array.getD_eq_getD_getElem?, Array.getElem?_append_left (by simp)]
        simp [RepS]
      · rename_i hi
        have hi0 : i ≠ 0 := fun e => hi (by rw [e]; rfl)
        split
        · rename_i hi1
          have := Nat.eq_of_beq_eq_true hi1
          subst this
          rw [Array.getD_eq_getD_getElem?, Array.getElem?_append_left (by simp)]
          simp [RepS, fbV, metV]
        · rename_i hi1
          have hi1' : i ≠ 1 := fun e => hi1 (by rw [e]; rfl)
          rw [look_argL]
          split
          · rename_i h1
            split
            · rename_i y hy
              obtain ⟨u, hu, hr⟩ := hvs.get hy
              have hlt : i - 2 < vs.length := (List.getElem?_eq_some_iff.1 hu).1
              have : ((Value.pointer (some ⟨b, 0, none⟩) :: metV m b :: vs).toArray ++ Array.replicate (fn.ntmps - (Value.pointer (some ⟨b, 0, none⟩) :: metV m b :: vs).toArray.size) undef).getD i undef = u := by
                obtain ⟨j, rfl⟩ : ∃ j, i = j + 2 := ⟨i - 2, by omega⟩
                rw [Array.getD_eq_getD_getElem?, Array.getElem?_append_left (by simp; omega)]
                simp at hu
                simp [hu]
              rw [this]
              exact RepV.restrict hr
            · trivial
          · trivial
    · simp only [mkSt, lookO]
      split
      · rename_i hi
        have := Nat.eq_of_beq_eq_true hi
        subst this
        simp only [RepO, RepA]
        exact ⟨trivial, cur, hcur, hsz, RepD.restrict _ _ hrx⟩
      · rename_i hi
        simp only [RepO]
        exact fun e => hi (by rw [e]; rfl)
    · refine ⟨fun i k hk => ?_, fun i T' sz' x0 hi k hk => ?_, fun i T' E' sz' xss hs hi => ?_⟩
      · simp only [mkSt, look] at hk ⊢
        split at hk
        · simp only [AV.refs] at hk; subst hk; simp [lookO]
        · split at hk
          · simp [AV.refs] at hk; subst hk; simp [lookO]
          · rw [look_argL] at hk
            split at hk
            · split at hk <;> simp [AV.refs] at hk
            · simp [AV.refs] at hk
      · simp only [mkSt, lookO] at hi
        split at hi
        · cases hi; simp [AV.refs] at hk
        · cases hi
      · simp only [mkSt, lookO] at hi
        split at hi <;> cases hi
  · have fin : ∀ (σ : St) (ds : List DV), resL T σ fn.results.toList = some ds → o = .ret (Sim.fin ds) → σ.obj 1000000 = some (.box Ty sz (.dat x')) → Rel (OneB b) ⟨F, []⟩ w fn.ntmps σ a' w' → a'.defers = [] ∧ ∃ v, (results fn a'.tmps).run P w' = .ok v w' ∧
        (BelowB b w w' ∧ OutOk o (.returned v) fun y v =>
          (∃ cur', w'.heap[b]? = some (.cells cur' Ty (0, 0)) ∧ cur'.size = sz ∧ RepD w' (fun k => k ≠ b ∧ (F k ∨ w.heap.size ≤ k)) x' cur'.toList) ∧ RepV w' (fun k => k ≠ b ∧ (F k ∨ w.heap.size ≤ k)) y v) := by
      rintro σ ds h1 rfl h2 ⟨g, rg⟩
      obtain ⟨v, hv, hrep⟩ := results_run hT rg h1
      have hO := rg.objs 1000000
      rw [h2] at hO
      simp only [RepO, RepA] at hO
      obtain ⟨m1, cur', m2, m3, m4⟩ := hO
      obtain ⟨k1, k2, k3⟩ := rg.own 1000000 m1
      have hblk : g.blk 1000000 = b := by
        rcases k2 with ⟨h, _⟩ | ⟨_, _, h⟩
        · omega
        · exact h
      rw [hblk] at m2 k1
      have hS : ∀ k, g.S k → k ≠ b ∧ (F k ∨ w.heap.size ≤ k) := fun k hk => ⟨fun e => k1 (e ▸ hk), rg.sF k hk⟩
      refine ⟨rg.defers, v, hv, ⟨rg.os, rg.tape, rg.output, rg.size, fun k hk hne => rg.old k hk (fun i h => hne h.2)⟩, v, rfl, ⟨cur', m2, m3, RepD.frame hS (fun _ _ _ => rfl) _ _ m4⟩, RepV.frame (fun k hk => ?_) (fun _ _ _ => rfl) hrep⟩
      rcases hk with hk | ⟨id, E, sz', xs', ho, h2', rfl⟩
      · exact hS k hk
      · have hne : id ≠ 1000000 := fun e => by rw [e, h2] at ho; cases ho
        obtain ⟨n1, n2, n3⟩ := rg.own id h2'
        refine ⟨fun e => rg.dj id 1000000 hne h2' m1 (by rw [e, hblk]), .inr ?_⟩
        rcases n2 with ⟨_, h⟩ | ⟨_, h, _⟩
        · exact h
        · exact absurd h hne
    cases e with
    | normal => obtain ⟨σ, ⟨ds, h1, h2, h3⟩, h4⟩ := hp; exact fin σ ds h1 h2 h3 h4
    | ret => obtain ⟨σ, ⟨ds, h1, h2, h3⟩, h4⟩ := hp; exact fin σ ds h1 h2 h3 h4
    | exit i => obtain ⟨σ, h1, h3⟩ := hp; exact h1
    | goto l => exact hp.elim
    | panic ch =>
      obtain ⟨v, σ, rfl, h, hw', hd⟩ := hp
      have h' : o = .pan v := h
      subst h'
      exact ⟨hd, ⟨hw'.os, hw'.tape, hw'.output, hw'.size, fun k hk hne => hw'.old k hk (fun i h => hne h.2)⟩, rfl⟩
    | outgrown => exact hp.elim
end
/-! ### Calls in any of these ways -/
/-- What is called, with which leading arguments: a function with a box; a function with a box and a method of it; a method's value. -/
inductive Way where
  | fn (f : FuncId)
  | fm (f m : FuncId)
  | val (m : FuncId)
def Way.f : Way → FuncId
  | .fn f => f
  | .fm f _ => f
  | .val m => m
def Way.pre : Way → Nat → List Value
  | .fn _, b => [.pointer (some ⟨b, 0, none⟩)]
  | .fm _ m, b => [.pointer (some ⟨b, 0, none⟩), metV m b]
  | .val _, b => [.pointer (some ⟨b, 0, none⟩)]
/-- The contract. -/
def AFnW (P : Program) (W : Way) (T : TypeId) (sz : Nat) (x : DV) (xs : List DV) (o : Out) (x' : DV) : Prop := FnOk P W.f ∧
  ∀ (F : Nat → Prop) (w : World) (b : Nat) (cur : Array Value) (vs : List Value), GOk (OneB b) w → w.heap[b]? = some (.cells cur T (0, 0)) → cur.size = sz → ¬ F b → RepD w F x cur.toList → All2 (RepV w F) xs vs →
    Calls P W.f (W.pre b ++ vs).toArray w fun e w' => BelowB b w w' ∧ OutOk o e fun y v =>
      (∃ cur', w'.heap[b]? = some (.cells cur' T (0, 0)) ∧ cur'.size = sz ∧ RepD w' (fun k => k ≠ b ∧ (F k ∨ w.heap.size ≤ k)) x' cur'.toList) ∧ RepV w' (fun k => k ≠ b ∧ (F k ∨ w.heap.size ≤ k)) y v
theorem AFnB.way {P : Program} {f : FuncId} {T : TypeId} {sz : Nat} {x x' : DV} {xs : List DV} {o : Out} (h : AFnB P f T sz x xs o x') : AFnW P (.fn f) T sz x xs o x' := h
theorem AFnM.way {P : Program} {f m : FuncId} {T : TypeId} {sz : Nat} {x x' : DV} {xs : List DV} {o : Out} (h : AFnM P f m T sz x xs o x') : AFnW P (.fm f m) T sz x xs o x' := h
/-- How the operation calls so. -/
def Way.Is (σ : St) (o : Oper) (id : Nat) (args : List Operand) : Way → Prop
  | .fn f => ∃ x0 ats, o.op = .call { callee := .value (.func f), args := (x0 :: args).toArray, argTypes := ats } ∧ ev σ x0 = .pt id [] 0
  | .fm f m => ∃ x0 x1 ats, o.op = .call { callee := .value (.func f), args := (x0 :: x1 :: args).toArray, argTypes := ats } ∧ ev σ x0 = .pt id [] 0 ∧ ev σ x1 = .fb m [id] []
  | .val m => ∃ t ats, o.op = .call { callee := .value (.tmp t), args := args.toArray, argTypes := ats } ∧ ev σ (.tmp t) = .fb m [id] []
section
variable {P : Program} {N : Value → Prop} {T : Tab} {σ : St}
theorem Way.run {o : Oper} {id : Nat} {args : List Operand} {W : Way} (h : W.Is σ o id args) (hf : FnOk P W.f) {σ' : St} (hA : Agree o σ σ') {B : Nat → Nat → Prop} {F : Cx} {w0 w : World} {n : Nat} {a : Act} {g : Gh} (r : RelG B F w0 n σ' a w g) :
    (execOp a.eval o).run P w = .ok (.enter W.f (W.pre (g.blk id) ++ args.map a.eval).toArray) w := by
  obtain ⟨fn, hfn, hname, hbody⟩ := hf
  obtain ⟨g1, _, _⟩ := hA
  cases W with
  | fn f =>
    obtain ⟨x0, ats, ho, h0⟩ := h
    have hev := ev_rep r x0
    rw [g1 x0 (by simp [ho, Op.operands, Call.operands]), h0] at hev
    simp only [RepS] at hev
    simp only [Way.f] at hfn
    simp only [execOp, ho, resolve, Act.eval, Deferred.ofValue, Sem.run_bind, Sem.run_pure, Result.andThen_ok, invoke, callFunc, run_program, hfn, hname, hbody]
    simpa [Act.eval, Way.pre, Way.f] using hev
  | fm f m =>
    obtain ⟨x0, x1, ats, ho, h0, h1⟩ := h
    have hev := ev_rep r x0
    rw [g1 x0 (by simp [ho, Op.operands, Call.operands]), h0] at hev
    have hev1 := ev_rep r x1
    rw [g1 x1 (by simp [ho, Op.operands, Call.operands]), h1] at hev1
    simp only [RepS] at hev hev1
    simp only [Way.f] at hfn
    simp only [execOp, ho, resolve, Act.eval, Deferred.ofValue, Sem.run_bind, Sem.run_pure, Result.andThen_ok, invoke, callFunc, run_program, hfn, hname, hbody]
    simp [Act.eval, Way.pre, Way.f, metV] at hev hev1 ⊢
    exact ⟨hev, by simpa [fbV] using hev1⟩
  | val m =>
    obtain ⟨t, ats, ho, h0⟩ := h
    have hev := ev_rep r (.tmp t)
    rw [g1 (.tmp t) (by simp [ho, Op.operands, Call.operands]), h0] at hev
    simp only [RepS, fbV] at hev
    simp only [Way.f] at hfn
    simp only [execOp, ho, resolve, hev, Deferred.ofValue, Sem.run_bind, Sem.run_pure, Result.andThen_ok, invoke, callFunc, run_program, hfn, hname, hbody]
    simp [Way.pre, Way.f]
/-- A method of a box as a value. -/
theorem Step.bound {c : Bool} {o : Oper} {m : FuncId} {x0 : Operand} {id : Nat} (ho : o.op = .makeFunc (.func m) #[x0] #[]) (hx : ev σ x0 = .pt id [] 0) : Step P N c σ o ⟨.fb m [id] [], []⟩ := by
  refine Step.value (fun σ' hA B F w0 nn a w g rr => ?_) (fun σ' hA ok k hk => ?_) (fun y h => by rw [ho] at h; simp [carry] at h) (fun h => by rw [ho] at h; simp [makes] at h)
  · have hev := ev_rep rr x0
    rw [hA.1 x0 (by simp [ho, Op.operands]), hx] at hev
    simp only [RepS] at hev
    refine ⟨.func (.func m) #[.pointer (some ⟨g.blk id, 0, none⟩)] #[], by simp [execOp, ho, Instr.makeFunc, hev], by simp [RepS, fbV]⟩
  · have hk' : k = id := by simpa [AV.refs] using hk
    subst hk'
    have he : ev σ' x0 = .pt k [] 0 := by rw [hA.1 x0 (by simp [ho, Op.operands])]; exact hx
    cases x0 with
    | tmp i => exact ok.1 i k (by simp only [ev] at he; rw [he]; simp [AV.refs])
    | const v => simp only [ev] at he; split at he <;> cases he
    | global i => simp [ev] at he
    | func f => simp [ev] at he
end
section
variable {P : Program} {T : Tab} {ops : Array Oper} {cf : Oper → Bool} {K : AExit → St → Prop} {o : Oper} {rest : List Oper} {L : List (Nat × AV)} {O : List (Nat × Obj)} {d : Nat}
theorem AOps.bound {m : FuncId} {x0 : Operand} {id : Nat} (ho : o.op = .makeFunc (.func m) #[x0] #[]) (hd : o.dst = some d) (hg : gOn ops L o = true) (hx : ev (mkSt L O) x0 = .pt id [] 0) (k : AOps P ops cf K rest (mkSt ((d, .fb m [id] []) :: L) O)) : AOps P ops cf K (o :: rest) (mkSt L O) :=
  AOps.v hd hg (Step.bound ho hx) k
end
/-! ### Results that may be panics -/
/-- A call that may panic: what is asked then, what else. -/
def CallX {α ε : Type} (R : Except ε α → Prop) (qe : ε → Prop) (q : α → Prop) : Prop := ∃ r, R r ∧ (match r with | .ok a => q a | .error e => qe e)
theorem CallX.ok {α ε : Type} {R : Except ε α → Prop} {qe : ε → Prop} {q : α → Prop} {a : α} (h1 : R (.ok a)) (h2 : q a) : CallX R qe q := ⟨.ok a, h1, h2⟩
end Go.Sim

/- What is proved: structs with an own slice as a field: one that begins as nil; what it holds becomes data again. -/
namespace Go.Sim
open Go.RowKit
/-! ### A box's own slice becomes data -/
end Go.Sim
