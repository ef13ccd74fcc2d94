/- What is proved: contracts of functions that get a pointer to a struct of the caller's own, and of functions that may panic; their calls. -/
import Derived.Test.YtlkpbnhinnhlfaaGreatZLFSimH
import Derived.Laws.Strings2
import Derived.Laws.Strings
import Derived.Laws.IdiomStrings
import Derived.Laws.BytesArg
import Derived.Stop.IfaceNil

namespace Go.Sim
open Go.RowKit
/-- How a call ends. -/
inductive Out where
  | ret (y : DV)
  | pan (v : Value)
/-- How it ends, and of what it returns. -/
def OutOk (o : Out) (e : Ending) (K : DV → Value → Prop) : Prop := match o with
  | .ret y => ∃ v, e = .returned v ∧ K y v
  | .pan v => e = .panicked (pan v)
/-- What a call leaves that may write one block that was there. -/
structure BelowB (b : Nat) (w w' : World) : Prop where
  os : w'.os = w.os
  tape : w'.tape = w.tape
  output : w'.output = w.output
  size : w.heap.size ≤ w'.heap.size
  old : ∀ k, k < w.heap.size → k ≠ b → w'.heap[k]? = w.heap[k]?
def OneB (b : Nat) : Nat → Nat → Prop := fun i k => i = 1000000 ∧ k = b
/-- What a function does whose first argument points to a box of the caller's own ('x', afterwards 'x''); if it panics, nothing is said of the box. -/
def AFnB (P : Program) (f : FuncId) (T : TypeId) (sz : Nat) (x : DV) (xs : List DV) (o : Out) (x' : DV) : Prop := FnOk P f ∧
  ∀ (F : Nat → Prop) (w : World) (b : Nat) (cur : Array Value) (vs : List Value), GOk (OneB b) w → w.heap[b]? = some (.cells cur T (0, 0)) → cur.size = sz → ¬ F b → RepD w F x cur.toList → All2 (RepV w F) xs vs →
    Calls P f (Value.pointer (some ⟨b, 0, none⟩) :: vs).toArray w fun e w' => BelowB b w w' ∧ OutOk o e fun y v =>
      (∃ cur', w'.heap[b]? = some (.cells cur' T (0, 0)) ∧ cur'.size = sz ∧ RepD w' (fun k => k ≠ b ∧ (F k ∨ w.heap.size ≤ k)) x' cur'.toList) ∧ RepV w' (fun k => k ≠ b ∧ (F k ∨ w.heap.size ≤ k)) y v
/-- What a function does that may panic. -/
def AFnP (P : Program) (f : FuncId) (xs : List DV) (o : Out) : Prop := FnOk P f ∧
  ∀ (F : Nat → Prop) (w : World) (vs : List Value), GOk NoB w → All2 (RepV w F) xs vs →
    Calls P f vs.toArray w fun e w' => Below w.heap.size w w' ∧ OutOk o e fun y v => RepV w' (fun k => F k ∨ w.heap.size ≤ k) y v
def outQB (T : Tab) (rs : List ResultVar) (Ty : TypeId) (sz : Nat) (o : Out) (x' : DV) : AExit → St → Prop
  | .exit _, _ => False
  | .panic v, _ => o = .pan v
  | _, σ => ∃ ds, resL T σ rs = some ds ∧ o = .ret (fin ds) ∧ σ.obj 1000000 = some (.box Ty sz (.dat x'))
def outQP (T : Tab) (rs : List ResultVar) (o : Out) : AExit → St → Prop
  | .exit _, _ => False
  | .panic v, _ => o = .pan v
  | _, σ => ∃ ds, resL T σ rs = some ds ∧ o = .ret (fin ds)
section
variable {P : Program} {T : Tab}
/-- A contract for a box handed in, out of the rules for the function's code. -/
theorem AFnB.intro {f : FuncId} {fn : Func} {c : Code} {Ty : TypeId} {sz : Nat} {x : DV} {xs : List DV} {o : Out} {x' : DV} (hT : TabOk P T) (hf : P.funcs[f]? = some fn) (hb : fn.body = some c) (hn : (fn.name == "runtime.NumGoroutine") = false)
    (hl : xs.length + 1 ≤ fn.ntmps) (hnl : fn.ntmps ≤ 1000000) (hw : ∀ b, AWp P (OneB b) fn.ntmps c (mkSt ((0, .pt 1000000 [] 0) :: argL 1 xs) [(1000000, .box Ty sz (.dat x))]) (outQB T fn.results.toList Ty sz o x')) : AFnB P f Ty sz x xs o x' := by
  refine ⟨⟨fn, hf, hn, by rw [hb]; rfl⟩, fun F w b cur vs hgl hcur hsz hFb hrx hvs => ?_⟩
  have hlen := All2.length hvs
  have hbl : b < w.heap.size := (Array.getElem?_eq_some_iff.1 hcur).1
  refine calls_of_wp hf hb (wp_mono (hw b ⟨F, []⟩ w _ w ⟨{ S := fun k => F k ∧ k < w.heap.size, blk := fun _ => b, hdr := fun _ => .bool true, has := fun i => i = 1000000, sub := fun _ _ _ => False }, ?_⟩) fun e a' w' hp => ?_)
  · refine { os := rfl, tape := rfl, output := rfl, size := Nat.le_refl _, old := fun _ _ _ => rfl, n := ?_, nlt := hnl, glob := hgl, defers := rfl, sF := fun k hk => .inl hk.1, sB := fun k hk => hk.2, own := fun i hi => ⟨fun h => hFb h.1, .inr ⟨by omega, hi, rfl⟩, hbl⟩, dj := fun i j hij hi hj => absurd (hi.trans hj.symm) hij, slots := fun i => ?_, objs := fun i => ?_, ok := ?_, hv := fun _ => rfl, sub := fun i j b hb => hb.elim }
    · simp; omega
    · simp only [mkSt, look]
      split
      · rename_i hi
        have := Nat.eq_of_beq_eq_true hi
        subst this
        rw [Array.getD_eq_getD_getElem?, Array.getElem?_append_left (by simp)]
        simp [RepS]
      · rename_i hi
        have hi0 : i ≠ 0 := fun e => hi (by rw [e]; rfl)
        rw [look_argL]
        split
        · rename_i h1
          split
          · rename_i y hy
            obtain ⟨u, hu, hr⟩ := hvs.get hy
            have hlt : i - 1 < vs.length := (List.getElem?_eq_some_iff.1 hu).1
            have : ((Value.pointer (some ⟨b, 0, none⟩) :: vs).toArray ++ Array.replicate (fn.ntmps - (Value.pointer (some ⟨b, 0, none⟩) :: vs).toArray.size) undef).getD i undef = u := by
              obtain ⟨m, rfl⟩ : ∃ m, i = m + 1 := ⟨i - 1, by omega⟩
              rw [Array.getD_eq_getD_getElem?, Array.getElem?_append_left (by simp; omega)]
              simp at hu
              simp [hu]
            rw [this]
            exact RepV.restrict hr
          · trivial
        · trivial
    · simp only [mkSt, lookO]
      split
      · rename_i hi
        have := Nat.eq_of_beq_eq_true hi
        subst this
        simp only [RepO, RepA]
        exact ⟨trivial, cur, hcur, hsz, RepD.restrict _ _ hrx⟩
      · rename_i hi
        simp only [RepO]
        exact fun e => hi (by rw [e]; rfl)
    · refine ⟨fun i k hk => ?_, fun i T' sz' x0 hi k hk => ?_, fun i T' E' sz' xss hs hi => ?_⟩
      · simp only [mkSt, look] at hk ⊢
        split at hk
        · simp only [AV.refs] at hk; subst hk; simp [lookO]
        · rw [look_argL] at hk
          split at hk
          · split at hk <;> simp [AV.refs] at hk
          · simp [AV.refs] at hk
      · simp only [mkSt, lookO] at hi
        split at hi
        · cases hi; simp [AV.refs] at hk
        · cases hi
      · simp only [mkSt, lookO] at hi
        split at hi <;> cases hi
  · have fin : ∀ (σ : St) (ds : List DV), resL T σ fn.results.toList = some ds → o = .ret (Sim.fin ds) → σ.obj 1000000 = some (.box Ty sz (.dat x')) → Rel (OneB b) ⟨F, []⟩ w fn.ntmps σ a' w' → a'.defers = [] ∧ ∃ v, (results fn a'.tmps).run P w' = .ok v w' ∧
        (BelowB b w w' ∧ OutOk o (.returned v) fun y v =>
          (∃ cur', w'.heap[b]? = some (.cells cur' Ty (0, 0)) ∧ cur'.size = sz ∧ RepD w' (fun k => k ≠ b ∧ (F k ∨ w.heap.size ≤ k)) x' cur'.toList) ∧ RepV w' (fun k => k ≠ b ∧ (F k ∨ w.heap.size ≤ k)) y v) := by
      rintro σ ds h1 rfl h2 ⟨g, rg⟩
      obtain ⟨v, hv, hrep⟩ := results_run hT rg h1
      have hO := rg.objs 1000000
      rw [h2] at hO
      simp only [RepO, RepA] at hO
      obtain ⟨m1, cur', m2, m3, m4⟩ := hO
      obtain ⟨k1, k2, k3⟩ := rg.own 1000000 m1
      have hblk : g.blk 1000000 = b := by
        rcases k2 with ⟨h, _⟩ | ⟨_, _, h⟩
        · omega
        · exact h
      rw [hblk] at m2 k1
      have hS : ∀ k, g.S k → k ≠ b ∧ (F k ∨ w.heap.size ≤ k) := fun k hk => ⟨fun e => k1 (e ▸ hk), rg.sF k hk⟩
      refine ⟨rg.defers, v, hv, ⟨rg.os, rg.tape, rg.output, rg.size, fun k hk hne => rg.old k hk (fun i h => hne h.2)⟩, v, rfl, ⟨cur', m2, m3, RepD.frame hS (fun _ _ _ => rfl) _ _ m4⟩, RepV.frame (fun k hk => ?_) (fun _ _ _ => rfl) hrep⟩
      rcases hk with hk | ⟨id, E, sz', xs', ho, h2', rfl⟩
      · exact hS k hk
      · have hne : id ≠ 1000000 := fun e => by rw [e, h2] at ho; cases ho
        obtain ⟨n1, n2, n3⟩ := rg.own id h2'
        refine ⟨fun e => rg.dj id 1000000 hne h2' m1 (by rw [e, hblk]), .inr ?_⟩
        rcases n2 with ⟨_, h⟩ | ⟨_, h, _⟩
        · exact h
        · exact absurd h hne
    cases e with
    | normal => obtain ⟨σ, ⟨ds, h1, h2, h3⟩, h4⟩ := hp; exact fin σ ds h1 h2 h3 h4
    | ret => obtain ⟨σ, ⟨ds, h1, h2, h3⟩, h4⟩ := hp; exact fin σ ds h1 h2 h3 h4
    | exit i => obtain ⟨σ, h1, h3⟩ := hp; exact h1
    | goto l => exact hp.elim
    | panic ch =>
      obtain ⟨v, σ, rfl, h, hw', hd⟩ := hp
      have h' : o = .pan v := h
      subst h'
      exact ⟨hd, ⟨hw'.os, hw'.tape, hw'.output, hw'.size, fun k hk hne => hw'.old k hk (fun i h => hne h.2)⟩, rfl⟩
    | outgrown => exact hp.elim
/-- A contract of a function that may panic. -/
theorem AFnP.intro {f : FuncId} {fn : Func} {c : Code} {xs : List DV} {o : Out} (hT : TabOk P T) (hf : P.funcs[f]? = some fn) (hb : fn.body = some c) (hn : (fn.name == "runtime.NumGoroutine") = false)
    (hl : xs.length ≤ fn.ntmps) (hnl : fn.ntmps ≤ 1000000) (hw : AWp P NoB fn.ntmps c (mkSt (argL 0 xs) []) (outQP T fn.results.toList o)) : AFnP P f xs o := by
  refine ⟨⟨fn, hf, hn, by rw [hb]; rfl⟩, fun F w vs hgl hvs => ?_⟩
  have hlen := All2.length hvs
  refine calls_of_wp hf hb (wp_mono (hw ⟨F, []⟩ w _ w ⟨{ S := fun k => F k ∧ k < w.heap.size, blk := fun _ => 0, hdr := fun _ => .bool true, has := fun _ => False, sub := fun _ _ _ => False }, ?_⟩) fun e a' w' hp => ?_)
  · refine { os := rfl, tape := rfl, output := rfl, size := Nat.le_refl _, old := fun _ _ _ => rfl, n := ?_, nlt := hnl, glob := hgl, defers := rfl, sF := fun k hk => .inl hk.1, sB := fun k hk => hk.2, own := fun i hi => hi.elim, dj := fun i j _ hi => hi.elim, slots := fun i => ?_, objs := fun i => ?_, ok := ?_, hv := fun _ => rfl, sub := fun i j b hb => hb.elim }
    · simp; omega
    · simp only [mkSt, look_argL, Nat.zero_le, if_true, Nat.sub_zero]
      split
      · rename_i x hx
        obtain ⟨u, hu, hr⟩ := hvs.get hx
        have hi : i < vs.length := (List.getElem?_eq_some_iff.1 hu).1
        have : (vs.toArray ++ Array.replicate (fn.ntmps - vs.toArray.size) undef).getD i undef = u := by
          rw [Array.getD_eq_getD_getElem?, Array.getElem?_append_left (by simpa using hi)]
          simp [hu]
        rw [this]
        exact RepV.restrict hr
      · trivial
    · simp [mkSt, lookO, RepO]
    · refine ⟨fun i k hk => ?_, fun i T sz x hi => by simp [mkSt, lookO] at hi, fun i T E sz xss hs hi => by simp [mkSt, lookO] at hi⟩
      simp only [mkSt, look_argL] at hk
      split at hk
      · split at hk <;> simp [AV.refs] at hk
      · simp [AV.refs] at hk
  · have fin : ∀ (σ : St) (ds : List DV), resL T σ fn.results.toList = some ds → o = .ret (Sim.fin ds) → Rel NoB ⟨F, []⟩ w fn.ntmps σ a' w' → a'.defers = [] ∧ ∃ v, (results fn a'.tmps).run P w' = .ok v w' ∧
        (Below w.heap.size w w' ∧ OutOk o (.returned v) fun y v => RepV w' (fun k => F k ∨ w.heap.size ≤ k) y v) := by
      rintro σ ds h1 rfl ⟨g, rg⟩
      obtain ⟨v, hv, hrep⟩ := results_run hT rg h1
      refine ⟨rg.defers, v, hv, ⟨rg.os, rg.tape, rg.output, rg.size, fun k hk => rg.old k hk (fun _ h => h)⟩, v, rfl, RepV.frame (fun k hk => ?_) (fun _ _ _ => rfl) hrep⟩
      rcases hk with hk | ⟨id, _, _, _, _, h2, rfl⟩
      · exact rg.sF k hk
      · exact .inr ((rg.own id h2).2.1.elim (fun h => h.2) (fun h => h.2.elim))
    cases e with
    | normal => obtain ⟨σ, ⟨ds, h1, h2⟩, h4⟩ := hp; exact fin σ ds h1 h2 h4
    | ret => obtain ⟨σ, ⟨ds, h1, h2⟩, h4⟩ := hp; exact fin σ ds h1 h2 h4
    | exit i => obtain ⟨σ, h1, h3⟩ := hp; exact h1
    | goto l => exact hp.elim
    | panic ch =>
      obtain ⟨v, σ, rfl, h, hw', hd⟩ := hp
      have h' : o = .pan v := h
      subst h'
      exact ⟨hd, ⟨hw'.os, hw'.tape, hw'.output, hw'.size, fun k hk => hw'.old k hk (fun _ h => h)⟩, rfl⟩
    | outgrown => exact hp.elim
/-! ### Calls with a box -/
/-- A call has written a box of one's own. -/
theorem RelG.called {B : Nat → Nat → Prop} {F : Cx} {w0 w w' : World} {n : Nat} {σ : St} {a : Act} {g : Gh} (h : RelG B F w0 n σ a w g) {id : Nat} (hid : g.has id) (hb : BelowB (g.blk id) w w') {Ty : TypeId} {sz : Nat} {x' : DV} {cur : Array Value}
    (h1 : w'.heap[g.blk id]? = some (.cells cur Ty (0, 0))) (h2 : cur.size = sz) (h3 : RepD w' (fun k => k ≠ g.blk id ∧ (g.S k ∨ w.heap.size ≤ k)) x' cur.toList) :
    RelG B F w0 n (σ.set id (.box Ty sz (.dat x'))) a w' { g with S := fun k => g.S k ∨ (w.heap.size ≤ k ∧ k < w'.heap.size) } := by
  obtain ⟨k1, k2, k3⟩ := h.own id hid
  have hS : ∀ k, g.S k → g.S k ∨ (w.heap.size ≤ k ∧ k < w'.heap.size) := fun _ hk => .inl hk
  have hm : ∀ k, g.S k → k < w.heap.size → w'.heap[k]? = w.heap[k]? := fun k hk hlt => hb.old k hlt (fun e => k1 (e ▸ hk))
  refine { os := hb.os.trans h.os, tape := hb.tape.trans h.tape, output := hb.output.trans h.output, size := Nat.le_trans h.size hb.size, old := fun k hk hB => ?_, n := h.n, nlt := h.nlt, glob := h.glob, defers := h.defers, sF := ?_, sB := ?_, own := ?_, dj := h.dj, slots := ?_, objs := ?_, ok := Ok_set h.ok (fun _ _ _ e k hk => by cases e; simp [AV.refs] at hk), hv := h.hv, sub := ?_ }
  · rw [hb.old k (Nat.lt_of_lt_of_le hk h.size)]
    · exact h.old k hk hB
    · intro e
      obtain ⟨j, hj⟩ := Mine.old k2 (e ▸ hk)
      exact hB j (e ▸ hj)
  · rintro k (hk | hk)
    · exact h.sF k hk
    · exact .inr (Nat.le_trans h.size hk.1)
  · rintro k (hk | hk)
    · exact Nat.lt_of_lt_of_le (h.sB k hk) hb.size
    · exact hk.2
  · intro i hi
    obtain ⟨m1, m2, m3⟩ := h.own i hi
    exact ⟨fun hs => hs.elim m1 (fun hs => Nat.not_lt_of_le hs.1 m3), m2, Nat.lt_of_lt_of_le m3 hb.size⟩
  · exact h.slots' (g' := { g with S := fun k => g.S k ∨ (w.heap.size ≤ k ∧ k < w'.heap.size) }) hS hm (fun _ _ => rfl) (fun _ _ => rfl)
  · intro i
    rw [St.obj_set]
    by_cases he : i = id
    · subst he
      simp only [if_true, RepO, RepA]
      refine ⟨hid, cur, h1, h2, RepD.frame (fun k hk => ?_) (fun _ _ _ => rfl) _ _ (RepD.restrict _ _ h3)⟩
      rcases hk with ⟨⟨_, hk⟩, hlt⟩
      exact hk.imp id (fun hk => ⟨hk, hlt⟩)
    · simp only [if_neg he]
      exact RepO.frame h (g' := { g with S := fun k => g.S k ∨ (w.heap.size ≤ k ∧ k < w'.heap.size) }) hS hm (fun _ _ => rfl) (fun _ _ => rfl) i Iff.rfl (fun hi => hb.old _ (h.own i hi).2.2 (fun e => h.dj i id he hi hid e)) (fun _ _ hb' => hb') (fun j b hb' => hb.old b (h.sub i j b hb').2.2.1 (fun e => (h.sub i j b hb').2.2.2.1 id hid e.symm))
  · intro i j b hb'
    obtain ⟨m1, m2, m3, m4, m5⟩ := h.sub i j b hb'
    exact ⟨fun hs => hs.elim m1 (fun hs => by omega), m2, Nat.lt_of_lt_of_le m3 hb.size, m4, m5⟩
theorem BelowB.wok {B : Nat → Nat → Prop} {F : Cx} {w0 w w' : World} {n : Nat} {σ : St} {a : Act} {g : Gh} (h : RelG B F w0 n σ a w g) {id : Nat} (hid : g.has id) (hb : BelowB (g.blk id) w w') : WOk B w0 w' where
  os := hb.os.trans h.os
  tape := hb.tape.trans h.tape
  output := hb.output.trans h.output
  size := Nat.le_trans h.size hb.size
  old := fun k hk hB => by
    rw [hb.old k (Nat.lt_of_lt_of_le hk h.size)]
    · exact h.old k hk hB
    · intro e
      obtain ⟨j, hj⟩ := Mine.old (h.own id hid).2.1 (e ▸ hk)
      exact hB j (e ▸ hj)
end
/-! ### Maps that are shared from now on -/
end Go.Sim

/- What is proved: the steps of calls with a box of one's own, and of calls that panic; what cannot be reached. -/
namespace Go.Sim
open Go.RowKit
/-- A value that nothing holds: it stands in states that are never reached. -/
def bot : AV := .st [1] []
theorem bot_rep {w : World} {g : Gh} {u : Value} (h : RepS w g bot u) : False := by
  obtain ⟨cs, _, h⟩ := h
  simp [RepA, RepAF] at h
section
variable {P : Program} {N : Value → Prop} {T : Tab} {σ : St}
theorem Ok_bot {σ : St} (ok : σ.Ok) (d : Option Nat) : (Eff.app ⟨bot, []⟩ d σ).Ok := by
  refine ⟨fun i k hk => ?_, ok_tail (app_obj _ _ _) ok.2⟩
  rw [app_slot] at hk
  rw [app_obj]
  split at hk
  · simp [bot, AV.refs, AV.refs.refsL] at hk
  · exact ok.1 i k hk
end
/-! ### Parts of a string -/
/-- A part of a string. -/
def SlS (s : ByteArray) (lo hi : Int) (k : ByteArray → Prop) : Prop := 0 ≤ lo ∧ lo ≤ hi ∧ hi ≤ s.size ∧ Let (s.extract lo.toNat hi.toNat) k
theorem SlS.get {s : ByteArray} {lo hi : Int} {k : ByteArray → Prop} (h : SlS s lo hi k) : 0 ≤ lo ∧ lo ≤ hi ∧ hi ≤ s.size ∧ ∃ x, s.extract lo.toNat hi.toNat = x ∧ k x := ⟨h.1, h.2.1, h.2.2.1, h.2.2.2.get⟩
/-- Operations that may write what was there: those of one's own, and calls of functions that write a box. -/
def writesB (fs : List Nat) (o : Oper) : Bool :=
  writes o || match o.op with
    | .call c => match c.callee with | .value (.func f) => fs.contains f | _ => false
    | _ => false
end Go.Sim

/- What is proved: steps that compare an error with nil, and that turn strings into bytes and back. -/
namespace Go.Sim
open Go.RowKit
/-- Bytes as numbers. -/
def bytesI (s : ByteArray) : List Int := s.data.toList.map fun b => (b.toNat : Int)
theorem bytesI_len (s : ByteArray) : (bytesI s).length = s.size := by unfold bytesI; rw [List.length_map]; rfl
section
variable {P : Program} {N : Value → Prop} {T : Tab} {σ : St}
theorem strOf (hT : TabOk P T) {t : TypeId} {te : TE} (ht : tget T t = some te) (hd : te.d = .str) : P.underlying t = some .string := by
  obtain ⟨_, d0, _, _, q2, q3, _⟩ := hT t te ht
  rw [hd] at q3
  cases d0 <;> simp only [TyD.ok] at q3
  exact q2
theorem u8Of {E : TypeId} {te : TE} (h : EntryOk P E te) (hd : te.d = .int .u8) : P.underlying E = some (.int .u8) := by
  obtain ⟨_, d0, _, _, q2, q3, _⟩ := h
  rw [hd] at q3
  cases d0 <;> simp only [TyD.ok] at q3
  subst q3; exact q2
theorem rep_bytes {w : World} {S : Nat → Prop} : ∀ (l : List UInt8), RepF w S ((l.map fun b => (b.toNat : Int)).map fun n => DV.v (.int .u8 n)) (List.replicate ((l.map fun b => (b.toNat : Int)).map fun n => DV.v (.int .u8 n)).length 1) (l.map fun b => Value.int .u8 (b.toNat : Int))
  | [] => by simp [RepF]
  | b :: l => by
    have ih := rep_bytes (w := w) (S := S) l
    simp only [List.map_cons, List.length_cons, List.replicate_succ, RepF]
    exact ⟨1, _, [_], _, rfl, rfl, rfl, by simp [RepD, Value.oneCell'], ih⟩
/-- A string's bytes, in new memory. -/
theorem Step.bytes (hT : TabOk P T) {c : Bool} {o : Oper} {s1 s2 : TypeId} {x : Operand} {s : ByteArray} {E : TypeId} {te ts : TE} (ho : o.op = .convert s1 s2 x) (h1 : tget T s1 = some ts) (hd1 : ts.d = .str) (hs : slE T s2 = some (E, te)) (hd : te.d = .int .u8)
    (hx : ev σ x = .dat (.v (.string s))) : Step P N c σ o ⟨.dat (.sl E 1 ((bytesI s).map fun n => .v (.int .u8 n))), []⟩ where
  ok := by
    rintro σ' hA B F w0 n a w hdn ⟨g, r⟩ Q _
    have e1 := raw_eval (ev_rep r x) (by rw [hA.1 x (by simp [ho, Op.operands]), hx]; rfl)
    obtain ⟨u1, u2, _⟩ := slE_ok hT hs
    have hrun := run_bytes_of_string (P := P) w s1 s2 E s (strOf hT h1 hd1) u1 (u8Of u2 hd)
    have hrun2 : (execOp a.eval o).run P w = .ok (.value (.slice (some ⟨w.heap.size, 0, none⟩) s.size (grownCap w s.size 0 E)))
      (w.drew.alloc (.cells (bytesRow s (grownCap w s.size 0 E)) E ((bytesRow s (grownCap w s.size 0 E)).size, (bytesRow s (grownCap w s.size 0 E)).size + 1))) := by
      simp [execOp, ho, e1, hrun]
    unfold Oper.wp
    rw [hrun2, Oper.upon_value]
    generalize hC : (Obj.cells (bytesRow s (grownCap w s.size 0 E)) E ((bytesRow s (grownCap w s.size 0 E)).size, (bytesRow s (grownCap w s.size 0 E)).size + 1) : Go.Obj) = ob
    have hold : ∀ k, k < w.heap.size → (w.drew.alloc ob).heap[k]? = w.heap[k]? := fun k hk => heap_alloc_old w.drew _ k hk
    have hsz : w.heap.size < (w.drew.alloc ob).heap.size := by show w.heap.size < (w.heap.push ob).size; rw [Array.size_push]; omega
    have r2 := r.world (w' := w.drew.alloc ob) rfl rfl rfl (Nat.le_of_lt hsz) hold (fun k => k = w.heap.size) (fun k hk => by subst hk; exact ⟨Nat.le_refl _, hsz⟩)
    refine ⟨_, RelG.putO r2 o.dst (x := .dat (.sl E 1 ((bytesI s).map fun n => .v (.int .u8 n)))) ?_ (fun k hk => by simp [AV.refs] at hk) hdn⟩
    simp only [RepS, RepV, RepD]
    refine ⟨_, _, s.data.toList.map fun b => Value.int .u8 (b.toNat : Int), by rw [List.length_map, bytesI_len], by rw [List.length_map, bytesI_len]; exact grownCap_ge w s.size 0 E, rep_bytes _, .inr ⟨w.heap.size, 0, rfl, .inr rfl, fun j u hj => ?_⟩⟩
    subst hC
    rw [Nat.zero_add]
    refine (World.cell?_alloc_mark w.drew _ _ _ _).trans ?_
    simp only [List.getElem?_map, Option.map_eq_some_iff] at hj
    obtain ⟨b, hb, rfl⟩ := hj
    have hlt : j < s.data.size := by have := (List.getElem?_eq_some_iff.1 hb).1; simpa using this
    rw [bytesRow_at s _ j hlt]
    have : s.data[j] = b := by have := (List.getElem?_eq_some_iff.1 hb).2; simpa using this
    rw [this]
  objs := fun p hp => by cases hp
  okk := fun σ' _ ok => Ok_dat ok o.dst _
  near := fun _ _ k hk => by simp [AV.refs] at hk
end
end Go.Sim

/- What is proved: steps with function values that are not known. -/
namespace Go.Sim
open Go.RowKit
/-- It lies in one cell, and is no nil slice. -/
def IsFn (d : DV) : Prop := (((AV.dat d).lies && Nat.beq d.len 1) = true) ∧ d.agg = false ∧ d ≠ .v (.slice none 0 0)
theorem IsFn.lies {d : DV} (h : IsFn d) : (AV.dat d).lies = true := by
  have := h.1
  simp only [Bool.and_eq_true] at this
  exact this.1
theorem IsFn.len {d : DV} (h : IsFn d) : (AV.dat d).len = 1 := by
  have := h.1
  simp only [Bool.and_eq_true] at this
  exact Nat.eq_of_beq_eq_true this.2
/-! ### One check an operation -/
/-- Where an operation's value goes, if it runs. -/
def dstG (ops : Array Oper) (L : List (Nat × AV)) (o : Oper) : Option Nat := match gOn ops L o with | true => o.dst | false => none
def dstX (ops : Array Oper) (L : List (Nat × AV)) (o : Oper) : Option Nat := match gOff ops L o with | true => o.dst | false => none
def opD (T : Tab) (ops : Array Oper) (L : List (Nat × AV)) (O : List (Nat × Obj)) (o : Oper) : Option (Nat × AV) := match dstG ops L o with
  | some d => match opV T (mkSt L O) o with | some x => some (d, x) | none => none
  | none => none
theorem dstG_ok {ops : Array Oper} {L : List (Nat × AV)} {o : Oper} {d : Nat} (h : dstG ops L o = some d) : o.dst = some d ∧ gOn ops L o = true := by
  unfold dstG at h
  split at h
  · rename_i hg; exact ⟨h, hg⟩
  · cases h
theorem dstX_ok {ops : Array Oper} {L : List (Nat × AV)} {o : Oper} {d : Nat} (h : dstX ops L o = some d) : o.dst = some d ∧ gOff ops L o = true := by
  unfold dstX at h
  split at h
  · rename_i hg; exact ⟨h, hg⟩
  · cases h
theorem opD_ok {T : Tab} {ops : Array Oper} {L : List (Nat × AV)} {O : List (Nat × Obj)} {o : Oper} {d : Nat} {x : AV} (h : opD T ops L O o = some (d, x)) : o.dst = some d ∧ gOn ops L o = true ∧ opV T (mkSt L O) o = some x := by
  unfold opD at h
  split at h
  · rename_i d' hd
    split at h
    · rename_i y hy
      simp only [Option.some.injEq, Prod.mk.injEq] at h
      obtain ⟨rfl, rfl⟩ := h
      exact ⟨(dstG_ok hd).1, (dstG_ok hd).2, hy⟩
    · cases h
  · cases h
section
variable {P : Program} {T : Tab} {ops : Array Oper} {cf : Oper → Bool} {K : AExit → St → Prop} {o : Oper} {rest : List Oper} {L : List (Nat × AV)} {O : List (Nat × Obj)} {d : Nat}
theorem AOps.pD (hT : TabOk P T) {x : AV} (h : opD T ops L O o = some (d, x)) (k : AOps P ops cf K rest (mkSt ((d, x) :: L) O)) : AOps P ops cf K (o :: rest) (mkSt L O) :=
  AOps.p hT (opD_ok h).1 (opD_ok h).2.1 (opD_ok h).2.2 k
end
/-- Slots of a list name some objects each. -/
def fixB (own : List (Nat × List Nat)) (L : List (Nat × AV)) : Bool := own.all fun p => match look L p.1 with
  | .pt i _ _ => p.2.contains i
  | .fb _ fs cs => fs.all p.2.contains && cs.all p.2.contains
  | .oref i => p.2.contains i
  | .vw i _ _ _ => p.2.contains i
  | .dat _ | .sp _ | .dead => true
  | .st .. => false
theorem fix_of {own : List (Nat × List Nat)} {L : List (Nat × AV)} {O : List (Nat × Obj)} (h : fixB own L = true) : FixS own (mkSt L O) := by
  intro p hp k hk
  have h1 := List.all_eq_true.1 h p hp
  have hk' : (look L p.1).refs k := hk
  cases e : look L p.1 with
  | pt i q o => rw [e] at h1 hk'; simp only [AV.refs] at hk'; rw [hk']; simpa using h1
  | oref i => rw [e] at h1 hk'; simp only [AV.refs] at hk'; rw [hk']; simpa using h1
  | vw i l h sz => rw [e] at h1 hk'; simp only [AV.refs] at hk'; rw [hk']; simpa using h1
  | fb f fs cs =>
    rw [e] at h1 hk'
    simp only [AV.refs, Bool.and_eq_true, List.all_eq_true] at hk' h1
    rcases hk' with hk' | hk'
    · simpa using h1.1 k hk'
    · simpa using h1.2 k hk'
  | dat x => rw [e] at hk'; simp [AV.refs] at hk'
  | sp x => rw [e] at hk'; simp [AV.refs] at hk'
  | dead => rw [e] at hk'; simp [AV.refs] at hk'
  | st ns xs => rw [e] at h1; cases h1
theorem sl {σ : St} {L : List (Nat × AV)} {O : List (Nat × Obj)} (hd : distinct (fun i => i) (O.map (·.1)) = true := by exact rfl) (hc : closedB (O.map (·.1)) L O = true := by exact rfl)
    (hL : slotsOk (fun i => i) σ L := by repeat' (first | exact trivial | refine ⟨rfl, ?_⟩)) (hO : objsOk (fun i => i) σ O := by repeat' (first | exact trivial | refine ⟨rfl, ?_⟩)) : Sub (mkSt L O) σ := Sub.list _ hd hc hL hO
theorem slf (f : Nat → Nat) {σ : St} {L : List (Nat × AV)} {O : List (Nat × Obj)} (hd : distinct f (O.map (·.1)) = true := by exact rfl) (hc : closedB (O.map (·.1)) L O = true := by exact rfl)
    (hL : slotsOk f σ L := by repeat' (first | exact trivial | refine ⟨rfl, ?_⟩)) (hO : objsOk f σ O := by repeat' (first | exact trivial | refine ⟨rfl, ?_⟩)) : Sub (mkSt L O) σ := Sub.list f hd hc hL hO
end Go.Sim
