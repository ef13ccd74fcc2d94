/- What is proved: what is known is forgotten: floats as floats of which nothing is known; two places taken out at a time. -/
import Derived.Test.YtlkpbnhinnhlfaaGreatZLFSimU

namespace Go.Sim
open Go.RowKit
/-- Less is told of a row. -/
def Weak (xs ys : List DV) : Prop := ys.length = xs.length ∧ ∀ (w : World) (S : Nat → Prop) (ns : List Nat) (cs : List Value), RepF w S xs ns cs → RepF w S ys ns cs
theorem Weak.blind : ∀ (l : List Nat) (u : List Unit), u.length = l.length → (∀ b ∈ l, b < 18446744073709551616) → Weak (l.map (eFlt .f64)) (u.map eBl)
  | [], [], _, _ => ⟨rfl, fun _ _ _ _ h => h⟩
  | [], _ :: _, h, _ => by simp at h
  | _ :: _, [], h, _ => by simp at h
  | b :: l, _ :: u, h, hb => by
    have ih := Weak.blind l u (by simpa using h) (fun x hx => hb x (List.mem_cons_of_mem _ hx))
    refine ⟨by simpa using h, fun w S ns cs hr => ?_⟩
    simp only [List.map_cons, RepF] at hr ⊢
    obtain ⟨n, ns', c1, c2, e1, e2, e3, h1, h2⟩ := hr
    refine ⟨n, ns', c1, c2, e1, e2, e3, ?_, ih.2 _ _ _ _ h2⟩
    simp only [RepD] at h1 ⊢
    obtain ⟨rfl, _⟩ := h1
    exact ⟨_, rfl, rfl, b, hb b (List.mem_cons_self ..), rfl⟩
section
variable {P : Program} {N : Value → Prop} {T : Tab} {σ : St}
theorem RelG.weakRow {B : Nat → Nat → Prop} {F : Cx} {w0 w : World} {n : Nat} {a : Act} {g : Gh} (h : RelG B F w0 n σ a w g) {d : Nat} {E : TypeId} {sz : Nat} {xs ys : List DV} (ho : σ.obj d = some (.row E sz xs)) (hw : Weak xs ys) : RelG B F w0 n (σ.set d (.row E sz ys)) a w g :=
  { h with
    slots := h.slots
    objs := fun i => by
      rw [St.obj_set]
      split
      · rename_i e
        subst e
        have hO := h.objs i
        rw [ho] at hO
        simp only [RepO] at hO ⊢
        rw [hw.1]
        rcases hO with ⟨h1, h2, h3⟩ | ⟨h1, c, cur, h2, h3, h4, h5, h6, h7⟩
        · refine .inl ⟨h1, ?_, h3⟩
          have := hw.1
          rw [h2] at this
          exact List.eq_nil_of_length_eq_zero this
        · exact .inr ⟨h1, c, cur, h2, h3, h4, h5, h6, hw.2 _ _ _ _ h7⟩
      · exact h.objs i
    ok := Ok_set h.ok (fun _ _ _ e => by cases e) }
theorem putO_set2 (σ : St) (d : Nat) (a b : Obj) (t : Option Nat) (x : AV) : (putO (σ.set d a) t x).set d b = putO (σ.set d b) t x := by
  have : (σ.set d a).set d b = σ.set d b := by
    unfold St.set
    congr 1
    funext i
    simp only
    split <;> rfl
  cases t with
  | none => exact this
  | some t =>
    show St.set (St.put (σ.set d a) t x) d b = _
    have e : St.set (St.put (σ.set d a) t x) d b = St.put ((σ.set d a).set d b) t x := rfl
    rw [e, this]; rfl
/-- A slice that is made, one's own, of which less is told. -/
theorem Step.weakNew {c : Bool} {o : Oper} {d : Nat} {E : TypeId} {sz : Nat} {xs ys : List DV} (hd : o.dst = some d) (hn : σ.obj d = none) (hmk : makes o.op = true) (h : Step P N c σ o ⟨.oref d, [(d, .row E sz xs)]⟩) (hw : Weak xs ys) : Step P N c σ o ⟨.oref d, [(d, .row E sz ys)]⟩ where
  ok := fun σ' hA B F w0 n a w hdn r Q hQ => by
    refine Oper.wp_mono (fun a' w' r' => ?_) (h.ok σ' hA B F w0 n a w hdn r Q hQ)
    obtain ⟨g, r'⟩ := r'
    refine ⟨g, ?_⟩
    have e1 : (Eff.app ⟨.oref d, [(d, .row E sz xs)]⟩ o.dst σ').obj d = some (.row E sz xs) := by
      rw [app_obj]; simp only [setAll, St.obj_set, if_true]
    have := r'.weakRow e1 hw
    simp only [Eff.app, setAll] at this ⊢
    rw [putO_set2] at this
    exact this
  objs := fun p hp => by simp only [List.mem_singleton] at hp; subst hp; exact .inl ⟨hd, hn⟩
  okk := fun σ' hA ok => by rw [hd]; exact Ok_new ok (fun _ _ _ e => by cases e) (fun k hk => .inl (by simpa [AV.refs] using hk))
  near := fun x hx => by
    intro k hk
    cases ho : o.op <;> rw [ho] at hmk hx <;> simp_all [makes, carry]
  made := fun _ k hk => by simp only [AV.refs] at hk; rw [hk]; exact hd
theorem AOps.makeownB {ops : Array Oper} {cf : Oper → Bool} {K : AExit → St → Prop} {o : Oper} {rest : List Oper} {L : List (Nat × AV)} {O : List (Nat × Obj)} (hT : TabOk P T) {d : Nat} {t : TypeId} {x y : Operand} {E : TypeId} {te : TE} {κ κ' : IntKind} {m : Int} (ho : o.op = .makeSlice t x y) (hd : o.dst = some d) (hg : gOn ops L o = true) (hn : lookO O d = none)
    (hs : slE T t = some (E, te)) (hx : ev (mkSt L O) x = .dat (.v (.int κ m))) (hy : ev (mkSt L O) y = .dat (.v (.int κ' m))) (h0 : 0 ≤ m) (hb : (te.bytes : Int) * m ≤ 281474976710656) (h63 : m ≤ 9223372036854775807) (hz : eFlt .f64 0 = te.zero) {zs : List Unit} (ez : List.replicate m.toNat () = zs)
    (k : AOps P ops cf K rest (mkSt ((d, .oref d) :: L) ((d, .row E te.size (zs.map eBl)) :: O))) : AOps P ops cf K (o :: rest) (mkSt L O) := by
  subst ez
  refine AOps.eff hg (Step.weakNew hd hn (by rw [ho]; rfl) (Step.makeown hT ho hd hn hs hx hy h0 hb h63) (ys := (List.replicate m.toNat ()).map eBl) ?_) (by rw [hd]; exact k)
  rw [← hz, ← List.map_replicate]
  exact Weak.blind _ _ (by simp) (fun b hb => by rw [(List.mem_replicate.1 hb).2]; decide)
theorem RowsR.weak {w : World} {lo : Nat} {T E : TypeId} {sz : Nat} {xss yss : List (List DV)} {v : Value} (hl : yss.length = xss.length) (hw : ∀ (j : Nat) (ys : List DV), yss[j]? = some ys → ∃ xs, xss[j]? = some xs ∧ Weak xs ys) (h : RowsR w lo T E sz xss v) : RowsR w lo T E sz yss v := by
  obtain ⟨b, c, cur, s, q1, q2, rfl, q4, q5, q6, q7, q8, q9⟩ := h
  refine ⟨b, c, cur, s, q1, q2, by rw [hl], q4, q5, by rw [hl]; exact q6, q7, q8, fun j ys hj => ?_⟩
  obtain ⟨xs, hx, k1, k2⟩ := hw j ys hj
  obtain ⟨u, m1, m2⟩ := q9 j xs hx
  refine ⟨u, m1, ?_⟩
  rcases m2 with ⟨m2, m3⟩ | ⟨b0, c0, cur0, n1, n2, n3, n4, n5, n6, n7⟩
  · refine .inl ⟨?_, m3⟩
    rw [m2] at k1
    exact List.eq_nil_of_length_eq_zero k1
  · exact .inr ⟨b0, c0, cur0, n1, by rw [k1]; exact n2, n3, n4, by rw [k1]; exact n5, n6, by rw [k1]; exact k2 _ _ _ _ n7⟩
theorem AFnR.weak {f : FuncId} {xs : List DV} {T E : TypeId} {sz : Nat} {xss yss : List (List DV)} (hl : yss.length = xss.length) (hw : ∀ (j : Nat) (ys : List DV), yss[j]? = some ys → ∃ xs, xss[j]? = some xs ∧ Weak xs ys) (h : AFnR P f xs T E sz xss) : AFnR P f xs T E sz yss :=
  ⟨h.1, fun F w vs hg hv => (h.2 F w vs hg hv).mono fun _ _ ⟨h1, v, h2, h3⟩ => ⟨h1, v, h2, h3.weak hl hw⟩⟩
/-- Floats in rows: of as many as there are, nothing else is told. -/
theorem AFnR.blind {f : FuncId} {xs : List DV} {T E : TypeId} {r : List (List Nat)} {u : List (List Unit)} (hl : u.map List.length = r.map List.length) (hb : ∀ l ∈ r, ∀ b ∈ l, b < 18446744073709551616) (h : AFnR P f xs T E 1 (r.map (List.map (eFlt .f64)))) :
    AFnR P f xs T E 1 (u.map (List.map eBl)) := by
  have hlen : u.length = r.length := by simpa using congrArg List.length hl
  refine h.weak (by simpa using hlen) (fun j ys hj => ?_)
  rw [List.getElem?_map, Option.map_eq_some_iff] at hj
  obtain ⟨us, hu, rfl⟩ := hj
  have hj : j < r.length := by have := (List.getElem?_eq_some_iff.1 hu).1; omega
  refine ⟨r[j].map (eFlt .f64), by rw [List.getElem?_map, List.getElem?_eq_getElem hj]; rfl, Weak.blind _ _ ?_ (fun b hm => hb _ (List.getElem_mem hj) b hm)⟩
  have := congrArg (fun l => l[j]?) hl
  simp only [List.getElem?_map, hu, List.getElem?_eq_getElem hj, Option.map_some, Option.some.injEq] at this
  exact this
/-! ### What is closed: forgotten, and found again -/
theorem blind_close {w : World} {S : Nat → Prop} {T E : TypeId} : ∀ (r : List (List Nat)) (u : List (List Unit)), u.map List.length = r.map List.length → (∀ l ∈ r, ∀ b ∈ l, b < 18446744073709551616) → ∀ (ns : List Nat) (cs : List Value), RepF w S (r.map (eSl E 1 (eFlt .f64))) ns cs → RepF w S (u.map (eSl E 1 eBl)) ns cs
  | [], [], _, _, _, _, h => h
  | [], _ :: _, h, _, _, _, _ => by simp at h
  | _ :: _, [], h, _, _, _, _ => by simp at h
  | l :: r, v :: u, h, hb, ns, cs, hr => by
    simp only [List.map_cons, List.cons.injEq] at h
    simp only [List.map_cons, RepF] at hr ⊢
    obtain ⟨n, ns', c1, c2, e1, e2, e3, h1, h2⟩ := hr
    refine ⟨n, ns', c1, c2, e1, e2, e3, ?_, blind_close (T := T) r u h.2 (fun x hx => hb x (List.mem_cons_of_mem _ hx)) _ _ h2⟩
    have hw := Weak.blind l v h.1 (hb l (List.mem_cons_self ..))
    simp only [RepD] at h1 ⊢
    obtain ⟨a, c, row, k1, k2, k3, k4⟩ := h1
    have hlen : (List.map eBl v).length = (List.map (eFlt .f64) l).length := hw.1
    exact ⟨a, c, row, by rw [hlen]; exact k1, by rw [hlen]; exact k2, by rw [hlen]; exact hw.2 _ _ _ _ k3, k4⟩
theorem openF {w : World} {S : Nat → Prop} : ∀ (u : List Unit) (ns : List Nat) (cs : List Value), RepF w S (u.map eBl) ns cs → ∃ l : List Nat, l.length = u.length ∧ (∀ b ∈ l, b < 18446744073709551616) ∧ RepF w S (l.map (eFlt .f64)) ns cs
  | [], ns, cs, h => ⟨[], rfl, (fun _ h => (List.not_mem_nil h).elim), h⟩
  | _ :: u, ns, cs, h => by
    simp only [List.map_cons, RepF] at h
    obtain ⟨n, ns', c1, c2, e1, e2, e3, h1, h2⟩ := h
    obtain ⟨l, k1, k2, k3⟩ := openF u _ _ h2
    simp only [RepD] at h1
    obtain ⟨v, rfl, hv, b, hb, rfl⟩ := h1
    refine ⟨b :: l, by simp [k1], fun x hx => (List.mem_cons.1 hx).elim (fun e => e ▸ hb) (k2 x), ?_⟩
    simp only [List.map_cons, RepF]
    exact ⟨n, ns', _, c2, e1, e2, e3, by simp [RepD, Value.oneCell'], k3⟩
theorem openR {w : World} {S : Nat → Prop} {E : TypeId} : ∀ (u : List (List Unit)) (ns : List Nat) (cs : List Value), RepF w S (u.map (eSl E 1 eBl)) ns cs → ∃ r : List (List Nat), r.map List.length = u.map List.length ∧ (∀ l ∈ r, ∀ b ∈ l, b < 18446744073709551616) ∧ RepF w S (r.map (eSl E 1 (eFlt .f64))) ns cs
  | [], ns, cs, h => ⟨[], rfl, (fun _ h => (List.not_mem_nil h).elim), h⟩
  | v :: u, ns, cs, h => by
    simp only [List.map_cons, RepF] at h
    obtain ⟨n, ns', c1, c2, e1, e2, e3, h1, h2⟩ := h
    obtain ⟨r, k1, k2, k3⟩ := openR u _ _ h2
    simp only [RepD] at h1
    obtain ⟨a, c, row, m1, m2, m3, m4⟩ := h1
    obtain ⟨l, q1, q2, q3⟩ := openF v _ _ m3
    refine ⟨l :: r, by simp [q1, k1], fun x hx => (List.mem_cons.1 hx).elim (fun e => e ▸ q2) (k2 x), ?_⟩
    simp only [List.map_cons, RepF]
    refine ⟨n, ns', _, c2, e1, e2, e3, ?_, k3⟩
    simp only [RepD]
    have hlen : (List.map (eFlt .f64) l).length = (List.map eBl v).length := by simp [q1]
    exact ⟨a, c, row, by rw [hlen]; exact m1, by rw [hlen]; exact m2, by rw [hlen]; exact q3, m4⟩
/-- Of a result that is a matrix of floats of which nothing is known: it is one of such matrices. -/
theorem AFn.open {f : FuncId} {xs : List DV} {T E : TypeId} {u : List (List Unit)} (h : AFn P f xs (.sl T 1 (u.map (eSl E 1 eBl))) false) :
    AFnS P f xs fun y => ∃ r : List (List Nat), r.map List.length = u.map List.length ∧ (∀ l ∈ r, ∀ b ∈ l, b < 18446744073709551616) ∧ y = .sl T 1 (r.map (eSl E 1 (eFlt .f64))) := by
  refine ⟨h.1, fun F w vs hg hv => (h.2 F w vs hg hv).mono ?_⟩
  rintro e w' ⟨v, rfl, h2, h3⟩
  simp only [RepV, RepD] at h3
  obtain ⟨a, c, row, m1, m2, m3, m4⟩ := h3
  obtain ⟨r, q1, q2, q3⟩ := openR u _ _ m3
  have hlen : (List.map (eSl E 1 (eFlt .f64)) r).length = (List.map (eSl E 1 eBl) u).length := by simpa using congrArg List.length q1
  refine ⟨h2, _, v, ⟨r, q1, q2, rfl⟩, rfl, ?_⟩
  simp only [RepV, RepD]
  exact ⟨a, c, row, by rw [hlen]; exact m1, by rw [hlen]; exact m2, by rw [hlen]; exact RepF.frame (fun k hk => by simpa using hk) (fun _ _ _ => rfl) _ _ _ q3, by
    rcases m4 with m4 | ⟨b, o, k1, k2, k3⟩
    · exact .inl m4
    · exact .inr ⟨b, o, k1, by simpa using k2, k3⟩⟩
/-- A function of a float, whatever it is. -/
theorem AFn.anyArg {f : FuncId} {y : DV} {fr : Bool} {xs : List DV} (h : ∀ b, b < 18446744073709551616 → AFn P f (.v (.float .f64 b) :: xs) y fr) : AFn P f (.any anyF :: xs) y fr := by
  refine ⟨(h 0 (by decide)).1, fun F w vs hg hv => ?_⟩
  cases hv with
  | cons h1 h2 =>
    simp only [RepV, RepD] at h1
    obtain ⟨v, e, hv, b, hb, rfl⟩ := h1
    simp only [List.cons.injEq, and_true] at e
    exact (h b hb).2 F w _ hg (.cons (by rw [e]; simp [RepV, RepD, Value.oneCell']) h2)
end
/-! ### Two places at a time -/
theorem hole_one {m m' d : Nat} (h : m ≠ m') : holeAt [(m, d)] m' = none := by rw [holeAt_tl h, holeAt_nil]
theorem AFnR.intro' {P : Program} {f : FuncId} {fn : Func} {c : Code} {xs : List DV} {T E : TypeId} {sz : Nat} {xss : List (List DV)} {n : Nat} {rs : List ResultVar} {L : List (Nat × AV)} (hbare : ∀ xs ∈ xss, bareL xs = true) (hf : P.funcs[f]? = some fn) (hb : fn.body = some c) (hname : (fn.name == "runtime.NumGoroutine") = false)
    (hn : fn.ntmps = n) (hr : fn.results.toList = rs) (hl : Nat.ble xs.length n = true) (hL : argL 0 xs = L) (hw : AWp P NoB n c (mkSt L []) (outQR rs T E sz xss)) (hnl : n ≤ 1000000 := by decide) : AFnR P f xs T E sz xss := by
  subst hn hr hL
  exact AFnR.intro hbare hf hb hname (Nat.le_of_ble_eq_true hl) hnl hw
theorem bareL_enc {α : Type} {e : α → DV} (h : ∀ x, bare (e x) = true) : ∀ l : List α, bareL (l.map e) = true
  | [] => rfl
  | x :: l => by simp only [List.map_cons, bareL, h x, bareL_enc h l, Bool.and_self]
theorem bareRR {α : Type} {e : α → DV} {r : List (List α)} (h : ∀ x, bare (e x) = true) : ∀ xs ∈ r.map (List.map e), bareL xs = true := fun xs hx => by
  obtain ⟨l, _, rfl⟩ := List.mem_map.1 hx
  exact bareL_enc h l
/-! ### What is made in a region and shared in it -/
section
variable {P : Program} {N : Value → Prop} {T : Tab} {σ : St}
theorem RelG.slotDat {B : Nat → Nat → Prop} {F : Cx} {w0 w : World} {n : Nat} {a : Act} {g : Gh} (h : RelG B F w0 n σ a w g) {d : Nat} {y : DV} (hs : RepS w g (.dat y) (a.tmps.getD d undef)) : RelG B F w0 n (σ.put d (.dat y)) a w g :=
  { h with
    slots := fun j => by
      rw [St.slot_put]
      split
      · rename_i e; rw [e]; exact hs
      · exact h.slots j
    objs := h.objs
    ok := ⟨fun j k hk => by
      rw [St.slot_put] at hk
      split at hk
      · simp [AV.refs] at hk
      · exact h.ok.1 j k hk, h.ok.2⟩ }
end
/-! ### Functions whose result is one of a set -/
/-- A call of a function that yields one of a set: whatever it is. -/
def CallS {α : Type} (C : (α → Prop) → Prop) (k : α → Prop) : Prop := ∃ R : α → Prop, C R ∧ ∀ x, R x → k x
/-- One of the data that stand for what has a property. -/
def inS {α : Type} (e : α → DV) (R : α → Prop) : DV → Prop := fun y => ∃ x, R x ∧ y = e x
section
variable {P : Program} {B : Nat → Nat → Prop} {n : Nat} {ops : Array Oper} {Q : AExit → St → Prop} {T : Tab}
theorem NOps.split (i : Nat) {cf : Oper → Bool} {σ : St} (hd : dstOk n ops.toList = true) (h : AOps P ops cf (KN P B n ops Q (ops.toList.drop i)) (ops.toList.take i) σ) : NOps P B n ops Q ops.toList σ := by
  have := NOps.seg (m := ops.toList.drop i) hd (ops.toList.take i) σ (by simp) h
  rwa [List.take_append_drop] at this
theorem AOps.KN0 {cf : Oper → Bool} : ∀ (l : List Oper) (σ : St), AOps P ops cf Q l σ → AOps P ops cf (KN P B n ops Q []) l σ
  | [], _, h => NOps.nil h
  | _ :: l, _, ⟨e, h1, h2⟩ => ⟨e, h1, AOps.KN0 l _ h2⟩
theorem NOps.tail {cf : Oper → Bool} {rest : List Oper} {σ : St} (hd : dstOk n ops.toList = true) (hs : ops.toList.drop (ops.size - rest.length) = rest) (h : AOps P ops cf Q rest σ) : NOps P B n ops Q rest σ := by
  have := NOps.seg (B := B) (m := []) hd rest σ (by simpa using hs) (AOps.KN0 rest σ h)
  simpa using this
theorem KN.callS {α : Type} {e : α → DV} {C : (α → Prop) → Prop} {k : α → Prop} {L : List (Nat × AV)} {O : List (Nat × Obj)} {o : Oper} {rest l : List Oper} {f : FuncId} {args : List Operand} {ats : Array TypeId} {xs : List DV} {d : Nat} (h : CallS C k) (hl : l = o :: rest) (hs : ops.toList.drop (ops.size - (rest.length + 1)) = o :: rest)
    (hc : ∀ R, C R → AFnS P f xs (inS e R)) (hg : o.guard = none) (ho : o.op = .call { callee := .value (.func f), args := args.toArray, argTypes := ats }) (hd : o.dst = some d) (hdn : Nat.blt d n = true) (ha : argsOk (mkSt L O) false args xs)
    (kk : ∀ x, k x → NOps P B n ops Q rest (mkSt ((d, .dat (e x)) :: L) O)) : KN P B n ops Q l .normal (mkSt L O) := by
  subst hl
  obtain ⟨R, h1, h2⟩ := h
  refine NOps.callS hs (hc R h1) hg ho hd (by simpa [Nat.blt_eq] using hdn) ha fun y hy => ?_
  obtain ⟨x, hx, rfl⟩ := hy
  exact kk x (h2 x hx)
theorem AFnS.intro' {f : FuncId} {fn : Func} {c : Code} {xs : List DV} {S : DV → Prop} {rs : List ResultVar} {L : List (Nat × AV)} (hT : TabOk P T) (hf : P.funcs[f]? = some fn) (hb : fn.body = some c) (hname : (fn.name == "runtime.NumGoroutine") = false)
    (hn : fn.ntmps = n) (hr : fn.results.toList = rs) (hl : Nat.ble xs.length n = true) (hL : argL 0 xs = L) (hw : AWp P NoB n c (mkSt L []) (outQS T rs S)) (hnl : n ≤ 1000000 := by decide) : AFnS P f xs S := by
  subst hn hr hL
  exact AFnS.intro hT hf hb hname (Nat.le_of_ble_eq_true hl) hnl hw
theorem AFnS.det {f : FuncId} {xs : List DV} {y : DV} (h : AFnS P f xs (fun z => z = y)) : AFn P f xs y false :=
  ⟨h.1, fun F w vs hg hv => (h.2 F w vs hg hv).mono fun _ _ ⟨h1, z, v, h2, h3, h4⟩ => ⟨v, h3, h1, by rw [← h2]; simpa using h4⟩⟩
theorem AFn.set {f : FuncId} {xs : List DV} {y : DV} (h : AFn P f xs y false) {S : DV → Prop} (hy : S y) : AFnS P f xs S :=
  ⟨h.1, fun F w vs hg hv => (h.2 F w vs hg hv).mono fun _ _ ⟨v, h1, h2, h3⟩ => ⟨h2, y, v, hy, h1, by simpa using h3⟩⟩
end
end Go.Sim
