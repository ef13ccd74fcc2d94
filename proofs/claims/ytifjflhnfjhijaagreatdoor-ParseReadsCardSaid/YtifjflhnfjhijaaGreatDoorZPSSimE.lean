/- What is proved: maps of the function's own: made, written, read; maps that are shared, read. -/
import Derived.Test.YtifjflhnfjhijaaGreatDoorZPSSimD
import Derived.MapKept
import Derived.Carry

namespace Go.Sim
open Go.RowKit
section
variable {B : Nat -> Nat -> Prop} {F : Cx} {w0 w : World} {n : Nat} {σ : St} {a : Act} {g : Gh}
theorem RelG.allocmp (h : RelG B F w0 n σ a w g) {d : Nat} (hlt : d < 1000000) (hd : σ.obj d = none) :
    RelG B F w0 n (σ.set d (.mp [] [])) a (w.alloc (.map #[] 0)) { g with blk := upd g.blk d w.heap.size, hdr := upd g.hdr d (.map (some w.heap.size)), has := upd g.has d True } := by
  have hne : ∀ i, σ.obj i ≠ none -> i ≠ d := fun i hi e => hi (e ▸ hd)
  have hold : ∀ k, k < w.heap.size -> (w.alloc (.map #[] 0)).heap[k]? = w.heap[k]? := fun k hk => heap_alloc_old w _ k hk
  have hnew : (w.alloc (.map #[] 0)).heap[w.heap.size]? = some (.map #[] 0) := heap_alloc_new w _
  refine { os := h.os, tape := h.tape, output := h.output, size := by simp; have := h.size; omega, old := fun k hk hB => ?_, n := h.n, nlt := h.nlt, glob := h.glob, defers := h.defers, sF := h.sF, sB := fun k hk => by have := h.sB k hk; simp; omega, own := ?_, dj := ?_, slots := ?_, objs := ?_, ok := ?_, hv := qU6 h rfl, sub := ?_ }
  · exact (hold k (Nat.lt_of_lt_of_le hk h.size)).trans (h.old k hk hB)
  · intro i hi
    by_cases he : i = d
    · subst he
      simp only [q0b]
      exact ⟨fun hs => absurd (h.sB _ hs) (by omega), .inl ⟨hlt, h.size⟩, by simp⟩
    · simp only [q0j _ _ _ he] at hi ⊢
      obtain ⟨k1, k2, k3⟩ := h.own i hi
      exact ⟨k1, k2, by simp; omega⟩
  · intro i j hij hi hj
    by_cases he : i = d
    · subst he
      have hj' : j ≠ i := fun e => hij e.symm
      simp only [q0b, q0j _ _ _ hj'] at hi hj ⊢
      have := (h.own j hj).2.2
      omega
    · by_cases he' : j = d
      · subst he'
        simp only [q0b, q0j _ _ _ he] at hi hj ⊢
        have := (h.own i hi).2.2
        omega
      · simp only [q0j _ _ _ he, q0j _ _ _ he'] at hi hj ⊢
        exact h.dj i j hij hi hj
  · exact h.slots' (g' := { g with blk := upd g.blk d w.heap.size, hdr := upd g.hdr d (.map (some w.heap.size)), has := upd g.has d True }) (fun _ hk => hk) (fun k _ hk => hold k hk) (fun i hi => q0j _ _ _ (hne i hi)) (fun i hi => q0j _ _ _ (hne i hi))
  · intro i
    rw [St.obj_set]
    by_cases he : i = d
    · subst he
      simp only [if_true, RepO, q0b]
      exact ⟨trivial, trivial, #[], 0, hnew, rfl, by simp [RepE]⟩
    · simp only [if_neg he]
      refine RepO.frame h (g' := { g with blk := upd g.blk d w.heap.size, hdr := upd g.hdr d (.map (some w.heap.size)), has := upd g.has d True }) (fun _ hk => hk) (fun k _ hk => hold k hk) (fun i hi => q0j _ _ _ (hne i hi)) (fun i hi => q0j _ _ _ (hne i hi)) i (by simp only [q0j _ _ _ he]) (fun hi => hold _ (h.own i hi).2.2) (fun _ _ hb => hb) (fun j b hb => hold b (h.sub i j b hb).2.2.1)
  · exact q50 h.ok (fun _ _ _ e => by cases e)
  · intro i j b hb
    obtain ⟨k1, k2, k3, k4, k5⟩ := h.sub i j b hb
    refine ⟨k1, k2, by simp; omega, fun k hk => ?_, k5⟩
    by_cases he : k = d
    · subst he; simp only [q0b]; omega
    · simp only [q0j _ _ _ he] at hk ⊢; exact k4 k hk
theorem RelG.remap (h : RelG B F w0 n σ a w g) {id : Nat} (hid : g.has id) {w' : World} (h1 : w'.os = w.os) (h2 : w'.tape = w.tape) (h3 : w'.output = w.output) (h4 : w'.heap.size = w.heap.size)
    (h5 : ∀ k, k ≠ g.blk id -> w'.heap[k]? = w.heap[k]?) (o : Obj) (ho : RepO w' g id (some o)) (hr : ∀ T sz x, o = .box T sz x -> ∀ k, x.refs k -> σ.obj k ≠ none)
    (hr3 : ∀ T E sz xss hs, o = .rr T E sz xss hs -> ∀ p ∈ hs, σ.obj p.2 ≠ none := by intros; contradiction) :
    RelG B F w0 n (σ.set id o) a w' g := by
  obtain ⟨k1, k2, k3⟩ := h.own id hid
  have hS : ∀ k, g.S k -> k < w.heap.size -> w'.heap[k]? = w.heap[k]? := fun k hk _ => h5 k (fun e => k1 (e ▸ hk))
  refine { os := h1.trans h.os, tape := h2.trans h.tape, output := h3.trans h.output, size := by rw [h4]; exact h.size, old := fun k hk hB => ?_, n := h.n, nlt := h.nlt, glob := h.glob, defers := h.defers, sF := h.sF, sB := by rw [h4]; exact h.sB, own := by rw [h4]; exact h.own, dj := h.dj, slots := ?_, objs := ?_, ok := q50 h.ok hr hr3, hv := h.hv, sub := by rw [qV0, h4]; exact h.sub }
  · rw [h5]
    · exact h.old k hk hB
    · intro e
      obtain ⟨j, hj⟩ := Mine.old k2 (e ▸ hk)
      exact hB j (e ▸ hj)
  · exact h.slots' (g' := g) (fun _ hk => hk) hS (fun _ _ => rfl) (fun _ _ => rfl)
  · intro i
    rw [St.obj_set]
    by_cases he : i = id
    · subst he; simpa using ho
    · simp only [if_neg he]
      exact RepO.frame h (g' := g) (fun _ hk => hk) hS (fun _ _ => rfl) (fun _ _ => rfl) i Iff.rfl (fun hi => h5 _ (fun e => h.dj i id he hi hid e)) (fun _ _ hb => hb) (fun j b hb => h5 b (fun e => (h.sub i j b hb).2.2.2.1 id hid e.symm))
end
structure qNa {κ : Type} [DecidableEq κ] (d : TypeDesc) (e : κ -> Value) : Prop where
 same : ∀ a b, Instr.sameNow d (e a) (e b) = some (decide (a = b))
 key : ∀ a, MapKept.IsKey d (e a)
 bits : ∀ a, Instr.sameBits 10000 (e a) (e a) = true
 one : ∀ a, (e a).oneCell' = true
theorem qU9 : qNa .string (fun s : ByteArray => Value.string s) where
 same a b := by
  simp only [Instr.sameNow, Option.some.injEq]
  by_cases h : a = b
  ·rw [decide_eq_true h]; exact (MapKept.bytes_beq _ _).2 h
  ·rw [decide_eq_false h]; exact Bool.eq_false_iff.2 fun hh => h ((MapKept.bytes_beq _ _).1 hh)
 key a := by simp [MapKept.IsKey]
 bits a := by simp only [Instr.sameBits]; exact (MapKept.bytes_beq _ _).2 rfl
 one a := rfl
def mfind {κ α : Type} [DecidableEq κ] (m : List (κ × α)) (k : κ) : Option Nat := m.findIdx? (fun e => decide (k = e.1))
def mget {κ α : Type} [DecidableEq κ] (m : List (κ × α)) (k : κ) : Option α := (m.find? (fun e => decide (k = e.1))).map (·.2)
def mput {κ α : Type} [DecidableEq κ] (m : List (κ × α)) (k : κ) (x : α) : List (κ × α) := match mfind m k with
 | some i => m.set i (k, x)
 | none => m ++ [(k, x)]
section
variable {κ α : Type} [DecidableEq κ] {d : TypeDesc} {ek : κ -> Value} {ex : α -> DV}
theorem qDy (hk : qNa d ek) (k : κ) : ∀ (m : List (κ × α)) (es : List MapEntry) (i : Nat), es.map (·.key) = m.map (fun e => ek e.1) ->
    Instr.findNow d (ek k) es i = some (match m.findIdx? (fun e => decide (k = e.1)) with | some j => (es[j]?).map fun e => (i + j, e.val) | none => none)
  | [], [], i, _ => by simp [Instr.findNow]
  | e :: m, x :: es, i, h => by
    simp only [List.map_cons, List.cons.injEq] at h
    simp only [Instr.findNow, h.1, hk.same]
    by_cases he : k = e.1
    · simp [he, List.findIdx?_cons]
    · rw [decide_eq_false he]
      simp only [qDy hk k m es (i + 1) h.2, List.findIdx?_cons, decide_eq_false he]
      cases m.findIdx? (fun e => decide (k = e.1)) with
      | none => simp
      | some j => simp [Nat.add_assoc, Nat.add_comm 1 j]
  | [], _ :: _, _, h => by simp at h
  | _ :: _, [], _, h => by simp at h
theorem qKc {m : List (κ × α)} {k : κ} {i : Nat} (h : mfind m k = some i) : ∃ x, m[i]? = some (k, x) /\ mget m k = some x := by
 unfold mfind at h
 unfold mget
 induction m generalizing i with
 | nil => simp at h
 | cons e m ih =>
  rw [List.findIdx?_cons] at h
  by_cases he : k = e.1
  ·simp only [he, decide_true, if_true, Option.some.injEq] at h
   subst h
   refine ⟨e.2, by simp [he], by simp [he]⟩
  ·simp only [decide_eq_false he, Bool.false_eq_true, if_false, Option.map_eq_some_iff] at h
   obtain ⟨j, hj, rfl⟩ := h
   obtain ⟨x, h1, h2⟩ := ih hj
   exact ⟨x, by simpa using h1, by simpa [List.find?_cons, he] using h2⟩
theorem qKd {m : List (κ × α)} {k : κ} (h : mfind m k = none) : mget m k = none := by
 unfold mfind at h
 unfold mget
 rw [List.findIdx?_eq_none_iff] at h
 rw [Option.map_eq_none_iff, List.find?_eq_none]
 intro e he
 simpa using h e he
theorem RepE.get {w : World} {S : Nat -> Prop} : ∀ {xs : List DV} {vs : List Value} {i : Nat} {x : DV}, RepE w S xs vs -> xs[i]? = some x -> ∃ v, vs[i]? = some v /\ RepU w S x v
 | x :: xs, vs, 0, y, h, hy => by
  simp only [RepE] at h
  obtain ⟨v, vs', rfl, h1, h2⟩ := h
  simp at hy; subst hy
  exact ⟨v, by simp, h1⟩
 | x :: xs, vs, i + 1, y, h, hy => by
  simp only [RepE] at h
  obtain ⟨v, vs', rfl, h1, h2⟩ := h
  simp at hy
  obtain ⟨u, hu, hr⟩ := RepE.get h2 hy
  exact ⟨u, by simpa using hu, hr⟩
theorem RepE.set {w : World} {S : Nat -> Prop} : ∀ {xs : List DV} {vs : List Value} {i : Nat} {x : DV} {v : Value}, RepE w S xs vs -> RepU w S x v -> RepE w S (xs.set i x) (vs.set i v)
 | [], vs, _, _, _, h, _ => by simp only [RepE] at h; subst h; simp [RepE]
 | x :: xs, vs, 0, y, u, h, hy => by
  simp only [RepE] at h
  obtain ⟨v, vs', rfl, h1, h2⟩ := h
  simp only [List.set_cons_zero, RepE]
  exact ⟨u, vs', rfl, hy, h2⟩
 | x :: xs, vs, i + 1, y, u, h, hy => by
  simp only [RepE] at h
  obtain ⟨v, vs', rfl, h1, h2⟩ := h
  simp only [List.set_cons_succ, RepE]
  exact ⟨v, _, rfl, h1, RepE.set h2 hy⟩
theorem RepE.snoc {w : World} {S : Nat -> Prop} : ∀ {xs : List DV} {vs : List Value} {x : DV} {v : Value}, RepE w S xs vs -> RepU w S x v -> RepE w S (xs ++ [x]) (vs ++ [v])
 | [], vs, x, v, h, hx => by
  simp only [RepE] at h; subst h
  simp only [List.nil_append, RepE]
  exact ⟨v, [], rfl, hx, rfl⟩
 | y :: xs, vs, x, v, h, hx => by
  simp only [RepE] at h
  obtain ⟨u, vs', rfl, h1, h2⟩ := h
  simp only [List.cons_append, RepE]
  exact ⟨u, _, rfl, h1, RepE.snoc h2 hx⟩
theorem qWj {w : World} {g : Gh} {id : Nat} {ks : List Value} {xs : List DV} (h : RepO w g id (some (.mp ks xs))) : g.has id /\ g.hdr id = .map (some (g.blk id)) /\ ∃ es clock, w.heap[g.blk id]? = some (.map es clock) /\ es.toList.map (·.key) = ks /\ RepE w g.S xs (es.toList.map (·.val)) := h
variable {P : Program} {N : Value -> Prop} {T : Tab} {σ : St}
def qQo (P : Program) (t : TypeId) (d : TypeDesc) (vt : TypeId) : Prop := ∃ kt, P.underlying t = some (.map kt vt) /\ P.underlying kt = some d
theorem Step.mkmap {c : Bool} {o : Oper} {dd : Nat} {t : TypeId} (ho : o.op = .makeMap t none) (hd : o.dst = some dd) (hn : σ.obj dd = none) : Step P N c σ o ⟨.oref dd, [(dd, .mp [] [])]⟩ where
 ok := by
  rintro σ' hA B F w0 n a w hdn ⟨g, r⟩ Q _
  have hn' := hA.2.1 dd hd hn
  unfold Oper.wp
  have hrun : (execOp a.eval o).run P w = .ok (.value (.map (some w.heap.size))) (w.alloc (.map #[] 0)) := by
   simp only [execOp, ho, Option.map_none, Sem.run_bind, run_makeMap, Result.andThen_ok, Sem.run_pure]
  rw [hrun, Oper.upon_value, hd]
  exact ⟨_, (r.allocmp (Nat.lt_of_lt_of_le (hdn dd hd) r.nlt) hn').put (x := .oref dd) (by simp [RepS, q0b]) (fun k hk => by simp only [AV.refs] at hk; rw [hk, St.obj_set, if_pos rfl]; simp) (hdn dd hd)⟩
 objs := fun p hp => by simp only [List.mem_singleton] at hp; subst hp; exact .inl ⟨hd, hn⟩
 okk := fun σ' hA ok => by rw [hd]; exact qOf ok (fun _ _ _ e => by cases e) (fun k hk => .inl (by simpa [AV.refs] using hk))
 near := fun y h => by rw [ho] at h; simp [carry] at h
 made := fun _ k hk => by simp only [AV.refs] at hk; rw [hk]; exact hd
theorem qPj (hT : q0r P T) (hk : qNa d ek) {t vt : TypeId} {vte : TE} {z : α} (hm : qQo P t d vt) (hv : tget T vt = some vte) (hz : ex z = vte.zero) {w : World} {S : Nat -> Prop} {r : Nat} {es : Array MapEntry} {clock : Nat} {m : List (κ × α)}
    (hb : w.heap[r]? = some (.map es clock)) (hks : es.toList.map (·.key) = m.map (fun e => ek e.1)) (hxs : RepE w S (m.map (fun e => ex e.2)) (es.toList.map (·.val))) (k : κ) (ok : Bool) :
    ∃ v, (Instr.lookup t (.map (some r)) (ek k) ok).run P w = .ok (if ok then .tuple #[v, .bool (mget m k).isSome] else v) w /\ RepU w S (ex ((mget m k).getD z)) v := by
  obtain ⟨kt, hu, hd⟩ := hm
  obtain ⟨zv, hzr, hzU, _⟩ := qEh (hT vt vte hv) w S
  have hf := qDy hk k m es.toList 0 hks
  have hget : (getObj r).run P w = .ok (.map es clock) w := by simp [getObj, Sem.run, hb]
  have hck := MapKept.run_checkKey (P := P) (w := w) hd (hk.key k) es.isEmpty 9999
  cases hi : mfind m k with
  | none =>
    have hi' : m.findIdx? (fun e => decide (k = e.1)) = none := hi
    rw [hi'] at hf
    have hfk := MapKept.run_findKey (P := P) (w := w) hd hf
    refine ⟨zv, ?_, by rw [qKd hi]; simpa [hz] using hzU⟩
    rw [qKd hi]
    unfold Instr.lookup
    simp only [Sem.run_bind, run_underlying hu, Result.andThen_ok, hget, Sem.run_pure, hck, hfk, hzr]
    cases ok <;> simp
  | some i =>
    have hi' : m.findIdx? (fun e => decide (k = e.1)) = some i := hi
    rw [hi'] at hf
    obtain ⟨x, h1, h2⟩ := qKc hi
    obtain ⟨v, hv1, hv2⟩ := RepE.get (i := i) (x := ex x) hxs (by simp [h1])
    have hev : (es.toList[i]?).map (·.val) = some v := by rw [← hv1, List.getElem?_map]
    cases hes : es.toList[i]? with
    | none => rw [hes] at hev; simp at hev
    | some e =>
      simp only [] at hf
      rw [hes] at hev hf
      simp only [Option.map_some, Option.some.injEq] at hev hf
      have hfk := MapKept.run_findKey (P := P) (w := w) hd hf
      refine ⟨v, ?_, by rw [h2]; exact hv2⟩
      rw [h2]
      unfold Instr.lookup
      simp only [Sem.run_bind, run_underlying hu, Result.andThen_ok, hget, Sem.run_pure, hck, hfk, hev]
      cases ok <;> simp
theorem qT1 {w : World} {S : Nat -> Prop} {x : DV} {v : Value} {b : Bool} (h : RepU w S x v) : RepV w S (.tup [x, .v (.bool b)]) (.tuple #[v, .bool b]) :=
 ⟨[v, .bool b], rfl, .cons h (.cons (.inr ⟨rfl, rfl, rfl⟩) .nil)⟩
theorem Step.lookupS (hT : q0r P T) {c : Bool} {o : Oper} {t vt : TypeId} {vte : TE} {z : α} {xo ko : Operand} {ok : Bool} {m : List (κ × α)} {k : κ} (hk : qNa d ek) (hm : qQo P t d vt) (hv : tget T vt = some vte) (hz : ex z = vte.zero)
    (ho : o.op = .lookup t xo ko ok) (hx : ev σ xo = .dat (.mp (m.map (fun e => ek e.1)) (m.map (fun e => ex e.2)))) (hko : ev σ ko = .dat (.v (ek k))) :
    Step P N c σ o ⟨.dat (if ok then .tup [ex ((mget m k).getD z), .v (.bool (mget m k).isSome)] else ex ((mget m k).getD z)), []⟩ := by
  have hmx : xo ∈ o.op.operands := by simp [ho, Op.operands]
  refine Step.value (fun σ' hA B F w0 nn a w g rr => ?_) (fun _ _ _ k hk => by simp [AV.refs] at hk)
  have e2 := q0k (ev_rep rr ko) (by rw [hA.1 ko (by simp [ho, Op.operands]), hko]; rfl)
  have hev := ev_rep rr xo
  rw [hA.1 xo hmx, hx] at hev
  simp only [RepS, RepV, RepD] at hev
  obtain ⟨r, es, clock, h1, h2, h3, h4, h5⟩ := hev
  simp only [List.cons.injEq, and_true] at h1
  obtain ⟨v, hr, hrep⟩ := qPj hT hk hm hv hz h3 h4 h5 k ok
  refine ⟨if ok = true then .tuple #[v, .bool (mget m k).isSome] else v, by simp only [execOp, ho, h1, e2, Sem.run_bind, hr, Result.andThen_ok, Sem.run_pure], ?_⟩
  cases ok
  · exact RepU.v hrep
  · exact qT1 hrep
theorem Step.insert (hT : q0r P T) {o : Oper} {t vt : TypeId} {mo ko xo : Operand} {id : Nat} {m : List (κ × α)} {k : κ} {x : α} (hk : qNa d ek) (hm : qQo P t d vt) (ho : o.op = .insert t mo ko xo \/ o.op = .mapUpdate t mo ko xo) (hd : o.dst = none)
    (hmo : ev σ mo = .oref id) (hob : σ.obj id = some (.mp (m.map (fun e => ek e.1)) (m.map (fun e => ex e.2)))) (hko : ev σ ko = .dat (.v (ek k))) (hxo : nilT T vt (ev σ xo) = .dat (ex x)) (hl : ∀ zs, ex x ≠ .tup zs) :
    Step P N true σ o ⟨.dead, [(id, .mp ((mput m k x).map (fun e => ek e.1)) ((mput m k x).map (fun e => ex e.2)))]⟩ where
  ok := by
    rintro σ' hA B F w0 n a w hdn ⟨g, r⟩ Q _
    have hmm : mo ∈ o.op.operands := by rcases ho with ho | ho <;> simp [ho, Op.operands]
    have hmk : ko ∈ o.op.operands := by rcases ho with ho | ho <;> simp [ho, Op.operands]
    have hmx : xo ∈ o.op.operands := by rcases ho with ho | ho <;> simp [ho, Op.operands]
    have hlk : looks o = true := by rcases ho with ho | ho <;> simp [looks, ho]
    have hob' : σ'.obj id = some (.mp (m.map (fun e => ek e.1)) (m.map (fun e => ex e.2))) := by rw [hA.2.2 hlk mo hmm id (by rw [hmo]; simp [AV.refs])]; exact hob
    have hO := r.objs id
    rw [hob'] at hO
    obtain ⟨h1, h2, es, clock, h3, h4, h5⟩ := qWj hO
    have e2 := q0k (ev_rep r ko) (by rw [hA.1 ko hmk, hko]; rfl)
    have hev := ev_rep r mo
    rw [hA.1 mo hmm, hmo] at hev
    simp only [RepS] at hev
    have hevx := qAc (T := T) (t := vt) (ev_rep r xo)
    rw [hA.1 xo hmx, hxo] at hevx
    have hU : RepU w g.S (ex x) (a.eval xo) := RepV.u hevx hl
    obtain ⟨kt, hu, hdk⟩ := hm
    have hf := qDy hk k m es.toList 0 h4
    have hget : (getObj (g.blk id)).run P w = .ok (.map es clock) w := by simp [getObj, Sem.run, h3]
    have hck := MapKept.run_checkKey (P := P) (w := w) hdk (hk.key k) false 9999
    have hlt : g.blk id < w.heap.size := (r.own id h1).2.2
    have hid : σ'.obj id ≠ none := by rw [hob']; simp
    have key : ∃ es' clock', (execOp a.eval o).run P w = .ok .skip { w with heap := w.heap.setIfInBounds (g.blk id) (.map es' clock') } /\ es'.toList.map (·.key) = (mput m k x).map (fun e => ek e.1) /\
        RepE w g.S ((mput m k x).map (fun e => ex e.2)) (es'.toList.map (·.val)) := by
      have hexec : (execOp a.eval o).run P w = ((Instr.mapUpdate t (.map (some (g.blk id))) (ek k) (a.eval xo)).run P w).andThen fun _ w' => .ok .skip w' := by
        rcases ho with ho | ho <;> simp only [execOp, ho, hev, h2, e2, Sem.run_bind, Sem.run_pure]
      unfold mput
      cases hi : mfind m k with
      | none =>
        have hi' : m.findIdx? (fun e => decide (k = e.1)) = none := hi
        rw [hi'] at hf
        have hfk := MapKept.run_findKey (P := P) (w := w) hdk hf
        refine ⟨es.push { key := ek k, val := a.eval xo, born := clock }, clock + 1, ?_, by simp [h4], ?_⟩
        · rw [hexec]
          unfold Instr.mapUpdate
          simp only [Sem.run_bind, run_underlying hu, Result.andThen_ok, hget, hck, hfk, MapKept.run_setObj_map _ h3]
        · simp only [Array.toList_push, List.map_append, List.map_cons, List.map_nil]
          exact RepE.snoc h5 hU
      | some i =>
        have hi' : m.findIdx? (fun e => decide (k = e.1)) = some i := hi
        rw [hi'] at hf
        obtain ⟨y, q1, q2⟩ := qKc hi
        have hil : i < es.toList.length := by
          have := congrArg List.length h4
          simp only [List.length_map] at this
          rw [this]; exact (List.getElem?_eq_some_iff.1 q1).1
        obtain ⟨e, he⟩ : ∃ e, es.toList[i]? = some e := ⟨_, List.getElem?_eq_getElem hil⟩
        simp only [] at hf
        rw [he] at hf
        simp only [Option.map_some] at hf
        have hfk := MapKept.run_findKey (P := P) (w := w) hdk hf
        have hek : e.key = ek k := by
          have := congrArg (fun l => l[i]?) h4
          simp only [List.getElem?_map, he, q1, Option.map_some, Option.some.injEq] at this
          exact this
        have hei : es[i]? = some e := by rw [← Array.getElem?_toList]; exact he
        have hkeep : (Instr.keyThatStays (ek k) (ek k)).run P w = .ok (ek k) w := by simp [Instr.keyThatStays, hk.bits]
        have hmod : (es.modify i fun e => { e with key := ek k, val := a.eval xo }).toList = es.toList.set i { e with key := ek k, val := a.eval xo } := by
          rw [Array.toList_modify, List.modify_eq_set, he]
          rfl
        refine ⟨es.modify i fun e => { e with key := ek k, val := a.eval xo }, clock, ?_, ?_, ?_⟩
        · rw [hexec]
          unfold Instr.mapUpdate
          simp only [Sem.run_bind, run_underlying hu, Result.andThen_ok, hget, hck, hfk, Nat.zero_add, hei, Option.map_some, Option.getD_some, hek, hkeep, MapKept.run_setObj_map _ h3]
        · rw [hmod, List.map_set, List.map_set, h4]
        · rw [hmod, List.map_set, List.map_set]
          exact RepE.set h5 hU
    obtain ⟨es', clock', hrun, hks, hxs⟩ := key
    have hset := MapKept.heap_set (o' := .map es' clock') h3
    unfold Oper.wp
    rw [hrun, Oper.upon_skip, hd]
    refine ⟨g, r.remap h1 (w' := { w with heap := w.heap.setIfInBounds (g.blk id) (.map es' clock') }) rfl rfl rfl (by simp) (fun k hk => hset.2 k hk) _ ?_ (fun _ _ _ e => by cases e)⟩
    simp only [RepO]
    refine ⟨h1, h2, es', clock', hset.1, hks, RepE.frame (fun _ h => h) (fun k hk _ => hset.2 k (fun e => (r.own id h1).1 (by rw [← e]; exact hk))) _ _ hxs⟩
  objs := fun q hq => by
    simp only [List.mem_singleton] at hq
    subst hq
    exact .inr ⟨rfl, by rcases ho with ho | ho <;> simp [looks, ho], mo, by rcases ho with ho | ho <;> simp [wr, ho, Op.operands], by rw [hmo]; simp [AV.refs]⟩
  okk := fun σ' hA ok => by
    have hmm : mo ∈ o.op.operands := by rcases ho with ho | ho <;> simp [ho, Op.operands]
    have hob' : σ'.obj id = some (.mp (m.map (fun e => ek e.1)) (m.map (fun e => ex e.2))) := by rw [hA.2.2 (by rcases ho with ho | ho <;> simp [looks, ho]) mo hmm id (by rw [hmo]; simp [AV.refs])]; exact hob
    rw [hd]
    exact qQm ok (by rw [hob']; simp) (fun T2 sz2 x2 e2 k hk => by cases e2)
  near := fun y h => by rcases ho with ho | ho <;> (rw [ho] at h; simp [carry] at h)
end
section
variable {κ α : Type} [DecidableEq κ] {d : TypeDesc} {ek : κ -> Value} {ex : α -> DV}
variable {P : Program} {N : Value -> Prop} {T : Tab} {ops : Array Oper} {cf : Oper -> Bool} {K : q1f -> St -> Prop} {o : Oper} {rest : List Oper} {L : List (Nat × AV)} {O : List (Nat × Obj)}
theorem AOps.mkmap {dd : Nat} {t : TypeId} (ho : o.op = .makeMap t none) (hd : o.dst = some dd) (hg : gOn ops L o = true) (hn : q0v O dd = none) (k : AOps P ops cf K rest (mkSt ((dd, .oref dd) :: L) ((dd, .mp [] []) :: O))) : AOps P ops cf K (o :: rest) (mkSt L O) :=
 AOps.eff hg (Step.mkmap ho hd hn) (by rw [hd]; exact k)
theorem AOps.insert (hT : q0r P T) {t vt : TypeId} {mo ko xo : Operand} {id : Nat} {m m' : List (κ × α)} {k : κ} {x : α} (hk : qNa d ek) (hm : qQo P t d vt) (ho : o.op = .insert t mo ko xo \/ o.op = .mapUpdate t mo ko xo) (hcf : cf o = true) (hd : o.dst = none) (hg : gOn ops L o = true)
    (hmo : ev (mkSt L O) mo = .oref id) (hob : q0v O id = some (.mp (m.map (fun e => ek e.1)) (m.map (fun e => ex e.2)))) (hko : ev (mkSt L O) ko = .dat (.v (ek k))) (hxo : nilT T vt (ev (mkSt L O) xo) = .dat (ex x)) (hl : ∀ zs, ex x ≠ .tup zs) (e : mput m k x = m')
    (h : AOps P ops cf K rest (mkSt L ((id, .mp (m'.map (fun e => ek e.1)) (m'.map (fun e => ex e.2))) :: O))) : AOps P ops cf K (o :: rest) (mkSt L O) := by
  subst e
  refine AOps.eff hg (e := ⟨.dead, [(id, .mp ((mput m k x).map (fun e => ek e.1)) ((mput m k x).map (fun e => ex e.2)))]⟩) ?_ (by rw [hd]; exact h)
  rw [hcf]
  exact Step.insert hT hk hm ho hd hmo hob hko hxo hl
theorem AOps.lookupS2 (hT : q0r P T) {dd : Nat} {t vt : TypeId} {vte : TE} {z : α} {xo ko : Operand} {m : List (κ × α)} {k : κ} (hk : qNa d ek) (hm : qQo P t d vt) (hv : tget T vt = some vte) (hz : ex z = vte.zero)
    (ho : o.op = .lookup t xo ko true) (hd : o.dst = some dd) (hg : gOn ops L o = true) (hx : ev (mkSt L O) xo = .dat (.mp (m.map (fun e => ek e.1)) (m.map (fun e => ex e.2)))) (hko : ev (mkSt L O) ko = .dat (.v (ek k)))
    (h : AOps P ops cf K rest (mkSt ((dd, .dat (.tup [ex ((mget m k).getD z), .v (.bool (mget m k).isSome)])) :: L) O)) : AOps P ops cf K (o :: rest) (mkSt L O) :=
  AOps.v hd hg (Step.lookupS hT hk hm hv hz ho hx hko) h
end
end Go.Sim
