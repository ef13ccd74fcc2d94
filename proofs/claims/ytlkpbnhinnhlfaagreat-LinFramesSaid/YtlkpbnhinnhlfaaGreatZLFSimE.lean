/- What is proved: maps of the function's own: made, written, read; maps that are shared, read. -/
import Derived.Test.YtlkpbnhinnhlfaaGreatZLFSimD
import Derived.MapKept
import Derived.Carry

namespace Go.Sim
open Go.RowKit
section
variable {B : Nat → Nat → Prop} {F : Cx} {w0 w : World} {n : Nat} {σ : St} {a : Act} {g : Gh}
/-- An object is written in its place, whatever it is. -/
theorem RelG.remap (h : RelG B F w0 n σ a w g) {id : Nat} (hid : g.has id) {w' : World} (h1 : w'.os = w.os) (h2 : w'.tape = w.tape) (h3 : w'.output = w.output) (h4 : w'.heap.size = w.heap.size)
    (h5 : ∀ k, k ≠ g.blk id → w'.heap[k]? = w.heap[k]?) (o : Obj) (ho : RepO w' g id (some o)) (hr : ∀ T sz x, o = .box T sz x → ∀ k, x.refs k → σ.obj k ≠ none)
    (hr3 : ∀ T E sz xss hs, o = .rr T E sz xss hs → ∀ p ∈ hs, σ.obj p.2 ≠ none := by intros; contradiction) :
    RelG B F w0 n (σ.set id o) a w' g := by
  obtain ⟨k1, k2, k3⟩ := h.own id hid
  have hS : ∀ k, g.S k → k < w.heap.size → w'.heap[k]? = w.heap[k]? := fun k hk _ => h5 k (fun e => k1 (e ▸ hk))
  refine { os := h1.trans h.os, tape := h2.trans h.tape, output := h3.trans h.output, size := by rw [h4]; exact h.size, old := fun k hk hB => ?_, n := h.n, nlt := h.nlt, glob := h.glob, defers := h.defers, sF := h.sF, sB := by rw [h4]; exact h.sB, own := by rw [h4]; exact h.own, dj := h.dj, slots := ?_, objs := ?_, ok := Ok_set h.ok hr hr3, hv := h.hv, sub := by rw [SubOk, h4]; exact h.sub }
  · rw [h5]
    · exact h.old k hk hB
    · intro e
      obtain ⟨j, hj⟩ := Mine.old k2 (e ▸ hk)
      exact hB j (e ▸ hj)
  · exact h.slots' (g' := g) (fun _ hk => hk) hS (fun _ _ => rfl) (fun _ _ => rfl)
  · intro i
    rw [St.obj_set]
    by_cases he : i = id
    · subst he; simpa using ho
    · simp only [if_neg he]
      exact RepO.frame h (g' := g) (fun _ hk => hk) hS (fun _ _ => rfl) (fun _ _ => rfl) i Iff.rfl (fun hi => h5 _ (fun e => h.dj i id he hi hid e)) (fun _ _ hb => hb) (fun j b hb => h5 b (fun e => (h.sub i j b hb).2.2.2.1 id hid e.symm))
end
/-- Keys that may be told at once. -/
structure KeyOk {κ : Type} [DecidableEq κ] (d : TypeDesc) (e : κ → Value) : Prop where
  same : ∀ a b, Instr.sameNow d (e a) (e b) = some (decide (a = b))
  key : ∀ a, MapKept.IsKey d (e a)
  bits : ∀ a, Instr.sameBits 10000 (e a) (e a) = true
  one : ∀ a, (e a).oneCell' = true
/-- A map's entries, by their keys. -/
def mfind {κ α : Type} [DecidableEq κ] (m : List (κ × α)) (k : κ) : Option Nat := m.findIdx? (fun e => decide (k = e.1))
def mget {κ α : Type} [DecidableEq κ] (m : List (κ × α)) (k : κ) : Option α := (m.find? (fun e => decide (k = e.1))).map (·.2)
def mput {κ α : Type} [DecidableEq κ] (m : List (κ × α)) (k : κ) (x : α) : List (κ × α) := match mfind m k with
  | some i => m.set i (k, x)
  | none => m ++ [(k, x)]
section
variable {κ α : Type} [DecidableEq κ] {d : TypeDesc} {ek : κ → Value} {ex : α → DV}
theorem findNow_map (hk : KeyOk d ek) (k : κ) : ∀ (m : List (κ × α)) (es : List MapEntry) (i : Nat), es.map (·.key) = m.map (fun e => ek e.1) →
    Instr.findNow d (ek k) es i = some (match m.findIdx? (fun e => decide (k = e.1)) with | some j => (es[j]?).map fun e => (i + j, e.val) | none => none)
  | [], [], i, _ => by simp [Instr.findNow]
  | e :: m, x :: es, i, h => by
    simp only [List.map_cons, List.cons.injEq] at h
    simp only [Instr.findNow, h.1, hk.same]
    by_cases he : k = e.1
    · simp [he, List.findIdx?_cons]
    · rw [decide_eq_false he]
      simp only [findNow_map hk k m es (i + 1) h.2, List.findIdx?_cons, decide_eq_false he]
      cases m.findIdx? (fun e => decide (k = e.1)) with
      | none => simp
      | some j => simp [Nat.add_assoc, Nat.add_comm 1 j]
  | [], _ :: _, _, h => by simp at h
  | _ :: _, [], _, h => by simp at h
theorem mfind_some {m : List (κ × α)} {k : κ} {i : Nat} (h : mfind m k = some i) : ∃ x, m[i]? = some (k, x) ∧ mget m k = some x := by
  unfold mfind at h
  unfold mget
  induction m generalizing i with
  | nil => simp at h
  | cons e m ih =>
    rw [List.findIdx?_cons] at h
    by_cases he : k = e.1
    · simp only [he, decide_true, if_true, Option.some.injEq] at h
      subst h
      refine ⟨e.2, by simp [he], by simp [he]⟩
    · simp only [decide_eq_false he, Bool.false_eq_true, if_false, Option.map_eq_some_iff] at h
      obtain ⟨j, hj, rfl⟩ := h
      obtain ⟨x, h1, h2⟩ := ih hj
      exact ⟨x, by simpa using h1, by simpa [List.find?_cons, he] using h2⟩
theorem RepE.get {w : World} {S : Nat → Prop} : ∀ {xs : List DV} {vs : List Value} {i : Nat} {x : DV}, RepE w S xs vs → xs[i]? = some x → ∃ v, vs[i]? = some v ∧ RepU w S x v
  | x :: xs, vs, 0, y, h, hy => by
    simp only [RepE] at h
    obtain ⟨v, vs', rfl, h1, h2⟩ := h
    simp at hy; subst hy
    exact ⟨v, by simp, h1⟩
  | x :: xs, vs, i + 1, y, h, hy => by
    simp only [RepE] at h
    obtain ⟨v, vs', rfl, h1, h2⟩ := h
    simp at hy
    obtain ⟨u, hu, hr⟩ := RepE.get h2 hy
    exact ⟨u, by simpa using hu, hr⟩
theorem RepE.length {w : World} {S : Nat → Prop} : ∀ {xs : List DV} {vs : List Value}, RepE w S xs vs → vs.length = xs.length
  | [], vs, h => by simp only [RepE] at h; simp [h]
  | x :: xs, vs, h => by
    simp only [RepE] at h
    obtain ⟨v, vs', rfl, h1, h2⟩ := h
    simp [RepE.length h2]
theorem RepE.set {w : World} {S : Nat → Prop} : ∀ {xs : List DV} {vs : List Value} {i : Nat} {x : DV} {v : Value}, RepE w S xs vs → RepU w S x v → RepE w S (xs.set i x) (vs.set i v)
  | [], vs, _, _, _, h, _ => by simp only [RepE] at h; subst h; simp [RepE]
  | x :: xs, vs, 0, y, u, h, hy => by
    simp only [RepE] at h
    obtain ⟨v, vs', rfl, h1, h2⟩ := h
    simp only [List.set_cons_zero, RepE]
    exact ⟨u, vs', rfl, hy, h2⟩
  | x :: xs, vs, i + 1, y, u, h, hy => by
    simp only [RepE] at h
    obtain ⟨v, vs', rfl, h1, h2⟩ := h
    simp only [List.set_cons_succ, RepE]
    exact ⟨v, _, rfl, h1, RepE.set h2 hy⟩
theorem RepE.snoc {w : World} {S : Nat → Prop} : ∀ {xs : List DV} {vs : List Value} {x : DV} {v : Value}, RepE w S xs vs → RepU w S x v → RepE w S (xs ++ [x]) (vs ++ [v])
  | [], vs, x, v, h, hx => by
    simp only [RepE] at h; subst h
    simp only [List.nil_append, RepE]
    exact ⟨v, [], rfl, hx, rfl⟩
  | y :: xs, vs, x, v, h, hx => by
    simp only [RepE] at h
    obtain ⟨u, vs', rfl, h1, h2⟩ := h
    simp only [List.cons_append, RepE]
    exact ⟨u, _, rfl, h1, RepE.snoc h2 hx⟩
/-- What lies in a map's block. -/
theorem map_at {w : World} {g : Gh} {id : Nat} {ks : List Value} {xs : List DV} (h : RepO w g id (some (.mp ks xs))) : g.has id ∧ g.hdr id = .map (some (g.blk id)) ∧ ∃ es clock, w.heap[g.blk id]? = some (.map es clock) ∧ es.toList.map (·.key) = ks ∧ RepE w g.S xs (es.toList.map (·.val)) := h
variable {P : Program} {N : Value → Prop} {T : Tab} {σ : St}
/-- What a map's type is. -/
def mapOk (P : Program) (t : TypeId) (d : TypeDesc) (vt : TypeId) : Prop := ∃ kt, P.underlying t = some (.map kt vt) ∧ P.underlying kt = some d
/-- A map of one's own is written. -/
theorem Step.insert (hT : TabOk P T) {o : Oper} {t vt : TypeId} {mo ko xo : Operand} {id : Nat} {m : List (κ × α)} {k : κ} {x : α} (hk : KeyOk d ek) (hm : mapOk P t d vt) (ho : o.op = .insert t mo ko xo ∨ o.op = .mapUpdate t mo ko xo) (hd : o.dst = none)
    (hmo : ev σ mo = .oref id) (hob : σ.obj id = some (.mp (m.map (fun e => ek e.1)) (m.map (fun e => ex e.2)))) (hko : ev σ ko = .dat (.v (ek k))) (hxo : nilT T vt (ev σ xo) = .dat (ex x)) (hl : ∀ zs, ex x ≠ .tup zs) :
    Step P N true σ o ⟨.dead, [(id, .mp ((mput m k x).map (fun e => ek e.1)) ((mput m k x).map (fun e => ex e.2)))]⟩ where
  ok := by
    rintro σ' hA B F w0 n a w hdn ⟨g, r⟩ Q _
    have hmm : mo ∈ o.op.operands := by rcases ho with ho | ho <;> simp [ho, Op.operands]
    have hmk : ko ∈ o.op.operands := by rcases ho with ho | ho <;> simp [ho, Op.operands]
    have hmx : xo ∈ o.op.operands := by rcases ho with ho | ho <;> simp [ho, Op.operands]
    have hlk : looks o = true := by rcases ho with ho | ho <;> simp [looks, ho]
    have hob' : σ'.obj id = some (.mp (m.map (fun e => ek e.1)) (m.map (fun e => ex e.2))) := by rw [hA.2.2 hlk mo hmm id (by rw [hmo]; simp [AV.refs])]; exact hob
    have hO := r.objs id
    rw [hob'] at hO
    obtain ⟨h1, h2, es, clock, h3, h4, h5⟩ := map_at hO
    have e2 := raw_eval (ev_rep r ko) (by rw [hA.1 ko hmk, hko]; rfl)
    have hev := ev_rep r mo
    rw [hA.1 mo hmm, hmo] at hev
    simp only [RepS] at hev
    have hevx := nilT_rep (T := T) (t := vt) (ev_rep r xo)
    rw [hA.1 xo hmx, hxo] at hevx
    have hU : RepU w g.S (ex x) (a.eval xo) := RepV.u hevx hl
    obtain ⟨kt, hu, hdk⟩ := hm
    have hf := findNow_map hk k m es.toList 0 h4
    have hget : (getObj (g.blk id)).run P w = .ok (.map es clock) w := by simp [getObj, Sem.run, h3]
    have hck := MapKept.run_checkKey (P := P) (w := w) hdk (hk.key k) false 9999
    have hlt : g.blk id < w.heap.size := (r.own id h1).2.2
    have hid : σ'.obj id ≠ none := by rw [hob']; simp
    have key : ∃ es' clock', (execOp a.eval o).run P w = .ok .skip { w with heap := w.heap.setIfInBounds (g.blk id) (.map es' clock') } ∧ es'.toList.map (·.key) = (mput m k x).map (fun e => ek e.1) ∧
        RepE w g.S ((mput m k x).map (fun e => ex e.2)) (es'.toList.map (·.val)) := by
      have hexec : (execOp a.eval o).run P w = ((Instr.mapUpdate t (.map (some (g.blk id))) (ek k) (a.eval xo)).run P w).andThen fun _ w' => .ok .skip w' := by
        rcases ho with ho | ho <;> simp only [execOp, ho, hev, h2, e2, Sem.run_bind, Sem.run_pure]
      unfold mput
      cases hi : mfind m k with
      | none =>
        have hi' : m.findIdx? (fun e => decide (k = e.1)) = none := hi
        rw [hi'] at hf
        have hfk := MapKept.run_findKey (P := P) (w := w) hdk hf
        refine ⟨es.push { key := ek k, val := a.eval xo, born := clock }, clock + 1, ?_, by simp [h4], ?_⟩
        · rw [hexec]
          unfold Instr.mapUpdate
          simp only [Sem.run_bind, run_underlying hu, Result.andThen_ok, hget, hck, hfk, MapKept.run_setObj_map _ h3]
        · simp only [Array.toList_push, List.map_append, List.map_cons, List.map_nil]
          exact RepE.snoc h5 hU
      | some i =>
        have hi' : m.findIdx? (fun e => decide (k = e.1)) = some i := hi
        rw [hi'] at hf
        obtain ⟨y, q1, q2⟩ := mfind_some hi
        have hil : i < es.toList.length := by
          have := congrArg List.length h4
          simp only [List.length_map] at this
          rw [this]; exact (List.getElem?_eq_some_iff.1 q1).1
        obtain ⟨e, he⟩ : ∃ e, es.toList[i]? = some e := ⟨_, List.getElem?_eq_getElem hil⟩
        simp only [] at hf
        rw [he] at hf
        simp only [Option.map_some] at hf
        have hfk := MapKept.run_findKey (P := P) (w := w) hdk hf
        have hek : e.key = ek k := by
          have := congrArg (fun l => l[i]?) h4
          simp only [List.getElem?_map, he, q1, Option.map_some, Option.some.injEq] at this
          exact this
        have hei : es[i]? = some e := by rw [← Array.getElem?_toList]; exact he
        have hkeep : (Instr.keyThatStays (ek k) (ek k)).run P w = .ok (ek k) w := by simp [Instr.keyThatStays, hk.bits]
        have hmod : (es.modify i fun e => { e with key := ek k, val := a.eval xo }).toList = es.toList.set i { e with key := ek k, val := a.eval xo } := by
          rw [Array.toList_modify, List.modify_eq_set, he]
          rfl
        refine ⟨es.modify i fun e => { e with key := ek k, val := a.eval xo }, clock, ?_, ?_, ?_⟩
        · rw [hexec]
          unfold Instr.mapUpdate
          simp only [Sem.run_bind, run_underlying hu, Result.andThen_ok, hget, hck, hfk, Nat.zero_add, hei, Option.map_some, Option.getD_some, hek, hkeep, MapKept.run_setObj_map _ h3]
        · rw [hmod, List.map_set, List.map_set, h4]
        · rw [hmod, List.map_set, List.map_set]
          exact RepE.set h5 hU
    obtain ⟨es', clock', hrun, hks, hxs⟩ := key
    have hset := MapKept.heap_set (o' := .map es' clock') h3
    unfold Oper.wp
    rw [hrun, Oper.upon_skip, hd]
    refine ⟨g, r.remap h1 (w' := { w with heap := w.heap.setIfInBounds (g.blk id) (.map es' clock') }) rfl rfl rfl (by simp) (fun k hk => hset.2 k hk) _ ?_ (fun _ _ _ e => by cases e)⟩
    simp only [RepO]
    refine ⟨h1, h2, es', clock', hset.1, hks, RepE.frame (fun _ h => h) (fun k hk _ => hset.2 k (fun e => (r.own id h1).1 (by rw [← e]; exact hk))) _ _ hxs⟩
  objs := fun q hq => by
    simp only [List.mem_singleton] at hq
    subst hq
    exact .inr ⟨rfl, by rcases ho with ho | ho <;> simp [looks, ho], mo, by rcases ho with ho | ho <;> simp [wr, ho, Op.operands], by rw [hmo]; simp [AV.refs]⟩
  okk := fun σ' hA ok => by
    have hmm : mo ∈ o.op.operands := by rcases ho with ho | ho <;> simp [ho, Op.operands]
    have hob' : σ'.obj id = some (.mp (m.map (fun e => ek e.1)) (m.map (fun e => ex e.2))) := by rw [hA.2.2 (by rcases ho with ho | ho <;> simp [looks, ho]) mo hmm id (by rw [hmo]; simp [AV.refs])]; exact hob
    rw [hd]
    exact Ok_old ok (by rw [hob']; simp) (fun T2 sz2 x2 e2 k hk => by cases e2)
  near := fun y h => by rcases ho with ho | ho <;> (rw [ho] at h; simp [carry] at h)
end
section
variable {κ α : Type} [DecidableEq κ] {d : TypeDesc} {ek : κ → Value} {ex : α → DV}
variable {P : Program} {N : Value → Prop} {T : Tab} {ops : Array Oper} {cf : Oper → Bool} {K : AExit → St → Prop} {o : Oper} {rest : List Oper} {L : List (Nat × AV)} {O : List (Nat × Obj)}
theorem AOps.insert (hT : TabOk P T) {t vt : TypeId} {mo ko xo : Operand} {id : Nat} {m m' : List (κ × α)} {k : κ} {x : α} (hk : KeyOk d ek) (hm : mapOk P t d vt) (ho : o.op = .insert t mo ko xo ∨ o.op = .mapUpdate t mo ko xo) (hcf : cf o = true) (hd : o.dst = none) (hg : gOn ops L o = true)
    (hmo : ev (mkSt L O) mo = .oref id) (hob : lookO O id = some (.mp (m.map (fun e => ek e.1)) (m.map (fun e => ex e.2)))) (hko : ev (mkSt L O) ko = .dat (.v (ek k))) (hxo : nilT T vt (ev (mkSt L O) xo) = .dat (ex x)) (hl : ∀ zs, ex x ≠ .tup zs) (e : mput m k x = m')
    (h : AOps P ops cf K rest (mkSt L ((id, .mp (m'.map (fun e => ek e.1)) (m'.map (fun e => ex e.2))) :: O))) : AOps P ops cf K (o :: rest) (mkSt L O) := by
  subst e
  refine AOps.eff hg (e := ⟨.dead, [(id, .mp ((mput m k x).map (fun e => ek e.1)) ((mput m k x).map (fun e => ex e.2)))]⟩) ?_ (by rw [hd]; exact h)
  rw [hcf]
  exact Step.insert hT hk hm ho hd hmo hob hko hxo hl
end
end Go.Sim

/- What is proved: the equality of floats within structs, and the lesser and the greater of two floats. -/
namespace Go.Sim
open Go.RowKit
theorem EqOk.flt {P : Program} {d : Nat} {t : TypeId} {te : TE} {k k' : FloatKind} {a b : Nat} (h : EntryOk P t te) (hd : te.d = .flt k) : EqOk P (d + 1) t (.v (.float k' a)) (.v (.float k' b)) (k'.format.order a b == some .eq) := by
  intro w S u v hu hv
  obtain ⟨i, ds, z, q1, q2, q3, _⟩ := h
  rw [hd] at q3
  cases ds <;> simp only [TyD.ok] at q3
  simp only [RepV, RepD, List.cons.injEq, and_true] at hu hv
  rw [hu.1, hv.1]
  simp [Op.equalIn, run_underlying q2, Op.floatEq]
/-- The greater, the lesser of two floats that are numbers. -/
def fmaxB (a b : Nat) : Nat := match Ieee.double.order a b with
  | some .lt => b
  | some .gt => a
  | _ => if (FloatKind.f64.decode a).neg then b else a
def fminB (a b : Nat) : Nat := match Ieee.double.order a b with
  | some .lt => a
  | some .gt => b
  | _ => if (FloatKind.f64.decode a).neg then a else b
def FMx (a b : Nat) (k : Nat → Prop) : Prop := Ieee.double.order a b ≠ none ∧ Let (fmaxB a b) k
def FMn (a b : Nat) (k : Nat → Prop) : Prop := Ieee.double.order a b ≠ none ∧ Let (fminB a b) k
theorem FMx.get {a b : Nat} {k : Nat → Prop} (h : FMx a b k) : Ieee.double.order a b ≠ none ∧ ∃ x, fmaxB a b = x ∧ k x := ⟨h.1, h.2.get⟩
theorem FMn.get {a b : Nat} {k : Nat → Prop} (h : FMn a b k) : Ieee.double.order a b ≠ none ∧ ∃ x, fminB a b = x ∧ k x := ⟨h.1, h.2.get⟩
section
variable {P : Program} {N : Value → Prop} {σ : St}
theorem run_max2 {a b : Nat} (h : Ieee.double.order a b ≠ none) (w : World) : (Builtin.max2 (.float .f64 a) (.float .f64 b)).run P w = .ok (.float .f64 (fmaxB a b)) w := by
  unfold Builtin.max2 fmaxB
  simp only [show FloatKind.f64.format = Ieee.double from rfl]
  cases e : Ieee.double.order a b with
  | none => exact absurd e h
  | some o => cases o <;> simp
theorem run_min2 {a b : Nat} (h : Ieee.double.order a b ≠ none) (w : World) : (Builtin.min2 (.float .f64 a) (.float .f64 b)).run P w = .ok (.float .f64 (fminB a b)) w := by
  unfold Builtin.min2 fminB
  simp only [show FloatKind.f64.format = Ieee.double from rfl]
  cases e : Ieee.double.order a b with
  | none => exact absurd e h
  | some o => cases o <;> simp
theorem Step.fmax {c : Bool} {o : Oper} {x y : Operand} {ats : Array TypeId} {a b z : Nat} (ho : o.op = .call { callee := .builtin .max, args := #[x, y], argTypes := ats })
    (hx : ev σ x = .dat (.v (.float .f64 a))) (hy : ev σ y = .dat (.v (.float .f64 b))) (h : Ieee.double.order a b ≠ none) (e : fmaxB a b = z) : Step P N c σ o ⟨.dat (.v (.float .f64 z)), []⟩ := by
  subst e
  refine Step.value (fun σ' hA B F w0 n ac w g rr => ?_) (fun _ _ _ k hk => by simp [AV.refs] at hk)
  have e1 := raw_eval (ev_rep rr x) (by rw [hA.1 x (by simp [ho, Op.operands, Call.operands]), hx]; rfl)
  have e2 := raw_eval (ev_rep rr y) (by rw [hA.1 y (by simp [ho, Op.operands, Call.operands]), hy]; rfl)
  refine ⟨.float .f64 (fmaxB a b), ?_, rep_raw rfl⟩
  simp [execOp, ho, resolve, invoke, builtin, e1, e2, Builtin.max_, run_max2 h]
theorem Step.fmin {c : Bool} {o : Oper} {x y : Operand} {ats : Array TypeId} {a b z : Nat} (ho : o.op = .call { callee := .builtin .min, args := #[x, y], argTypes := ats })
    (hx : ev σ x = .dat (.v (.float .f64 a))) (hy : ev σ y = .dat (.v (.float .f64 b))) (h : Ieee.double.order a b ≠ none) (e : fminB a b = z) : Step P N c σ o ⟨.dat (.v (.float .f64 z)), []⟩ := by
  subst e
  refine Step.value (fun σ' hA B F w0 n ac w g rr => ?_) (fun _ _ _ k hk => by simp [AV.refs] at hk)
  have e1 := raw_eval (ev_rep rr x) (by rw [hA.1 x (by simp [ho, Op.operands, Call.operands]), hx]; rfl)
  have e2 := raw_eval (ev_rep rr y) (by rw [hA.1 y (by simp [ho, Op.operands, Call.operands]), hy]; rfl)
  refine ⟨.float .f64 (fminB a b), ?_, rep_raw rfl⟩
  simp [execOp, ho, resolve, invoke, builtin, e1, e2, Builtin.min_, run_min2 h]
end
end Go.Sim
