/- What is proved: what is read hangs on the tokens up to the one that stands next alone, and an error stands at the token that can't stand there. -/
import Derived.Test.YtnnfiohdkobkdaaGreatDoorZZPLParT

namespace Go.Sim.YtnnfiohdkobkdaaGreatDoor
open Go.RowKit Go.Proofs Go.Proofs.Tryz
/-- What holds a state. -/
class HasPS (α : Type) where
  ps : α → PS
  up : α → PS → α
  eta : ∀ a, up a (ps a) = a
  get : ∀ a s, ps (up a s) = s
  put : ∀ a s t, up (up a s) t = up a t
instance : HasPS PS := ⟨id, fun _ s => s, fun _ => rfl, fun _ _ => rfl, fun _ _ _ => rfl⟩
instance {α : Type} : HasPS (α × PS) := ⟨Prod.snd, fun a s => (a.1, s), fun _ => rfl, fun _ _ => rfl, fun _ _ _ => rfl⟩
open HasPS
/-- An error that stands at a token. -/
structure ErrAt (e : PE) (u : GToken) : Prop where
  at' : e.2 = u.At
  fin : e.1 = 131 ↔ u.Kind = 0
  one : e.1 = 130 ∨ e.1 = 131 ∨ e.1 = 110 ∨ e.1 = 132
/-- What 'f' reads at 's' hangs on what stands up to the next token alone. -/
def LocAt {α : Type} [HasPS α] (f : PS → Except PE α) (s : PS) : Prop := EndT s.1 →
  (∀ a, f s = .ok a → EndT (ps a).1 ∧ ∃ pre, s.1 = pre ++ (ps a).1 ∧ ∀ q, EndT q → hdT q = hdT (ps a).1 → f (pre ++ q, s.2) = .ok (up a (q, (ps a).2))) ∧
  (∀ e, f s = .error e → ∃ pre u post, s.1 = pre ++ u :: post ∧ ErrAt e u ∧ ∀ q, EndT q → hdT q = u → f (pre ++ q, s.2) = .error e)
theorem end_app {p q : List GToken} (h : EndT q) : EndT (p ++ q) := by
  obtain ⟨pre, e, h1, h2⟩ := h
  exact ⟨p ++ pre, e, by rw [h1, List.append_assoc], h2⟩
theorem hd_app {p q r : List GToken} (h : hdT q = hdT r) : hdT (p ++ q) = hdT (p ++ r) := by
  cases p with
  | nil => exact h
  | cons => rfl
theorem end_cons {ts : List GToken} (h : EndT ts) : ∃ t r, ts = t :: r ∧ (t.Kind ≠ 0 → EndT r) := by
  obtain ⟨pre, e, h1, h2⟩ := h
  cases pre with
  | nil => exact ⟨e, [], h1, fun h => absurd h2 h⟩
  | cons t pre => exact ⟨t, pre ++ [e], h1, fun _ => ⟨pre, e, rfl, h2⟩⟩
section
variable {α β : Type} [HasPS α] [HasPS β] {s : PS}
theorem LocAt.bnd {f : PS → Except PE α} {g : α → Except PE β} (hf : LocAt f s) (hg : ∀ a, EndT s.1 → f s = .ok a → LocAt (fun x => g (up a x)) (ps a)) : LocAt (fun x => Sim.YtnnfiohdkobkdaaGreatDoor.bnd (f x) g) s := by
  intro hs
  obtain ⟨f1, f2⟩ := hf hs
  constructor
  · intro b hb
    obtain ⟨a, h1, h2⟩ := bnd_ok.1 hb
    obtain ⟨e1, pre, e2, e3⟩ := f1 a h1
    obtain ⟨g1, _⟩ := hg a hs h1 e1
    obtain ⟨e4, pre2, e5, e6⟩ := g1 b (by show g (up a (ps a)) = _; rw [eta]; exact h2)
    refine ⟨e4, pre ++ pre2, by rw [e2, e5, List.append_assoc], fun q hq hh => ?_⟩
    have k1 := e3 (pre2 ++ q) (end_app hq) (by rw [e5]; exact hd_app hh)
    show Sim.YtnnfiohdkobkdaaGreatDoor.bnd (f (pre ++ pre2 ++ q, s.2)) g = _
    rw [List.append_assoc, k1]
    exact e6 q hq hh
  · intro e he
    have he : Sim.YtnnfiohdkobkdaaGreatDoor.bnd (f s) g = .error e := he
    cases hx : f s with
    | error e' =>
      rw [hx] at he
      have hee : e' = e := Except.error.inj he
      rw [← hee]
      obtain ⟨pre, u, post, e1, e2, e3⟩ := f2 e' hx
      exact ⟨pre, u, post, e1, e2, fun q hq hh => by show Sim.YtnnfiohdkobkdaaGreatDoor.bnd (f (pre ++ q, s.2)) g = _; rw [e3 q hq hh]; rfl⟩
    | ok a =>
      rw [hx] at he
      have he : g a = .error e := he
      obtain ⟨e1, pre, e2, e3⟩ := f1 a hx
      obtain ⟨_, g2⟩ := hg a hs hx e1
      obtain ⟨pre2, u, post, e5, e6, e7⟩ := g2 e (by show g (up a (ps a)) = _; rw [eta]; exact he)
      refine ⟨pre ++ pre2, u, post, by rw [e2, e5, List.append_assoc], e6, fun q hq hh => ?_⟩
      have k1 := e3 (pre2 ++ q) (end_app hq) (by rw [e5]; exact hd_app hh)
      show Sim.YtnnfiohdkobkdaaGreatDoor.bnd (f (pre ++ pre2 ++ q, s.2)) g = _
      rw [List.append_assoc, k1]
      exact e7 q hq hh
theorem LocAt.congr {f g : PS → Except PE α} (h : LocAt f s) (e : ∀ x, EndT x.1 → x.2 = s.2 → g x = f x) : LocAt g s := by
  intro hs
  obtain ⟨f1, f2⟩ := h hs
  constructor
  · intro a ha
    obtain ⟨e1, pre, e2, e3⟩ := f1 a (by rw [← e s hs rfl]; exact ha)
    exact ⟨e1, pre, e2, fun q hq hh => by rw [e (pre ++ q, s.2) (end_app hq) rfl]; exact e3 q hq hh⟩
  · intro x hx
    obtain ⟨pre, u, post, e1, e2, e3⟩ := f2 x (by rw [← e s hs rfl]; exact hx)
    exact ⟨pre, u, post, e1, e2, fun q hq hh => by rw [e (pre ++ q, s.2) (end_app hq) rfl]; exact e3 q hq hh⟩
/-- A test of the next token. -/
theorem LocAt.hd {c : GToken → Prop} [DecidablePred c] {f g : PS → Except PE α} (h1 : c (hdT s.1) → LocAt f s) (h2 : ¬ c (hdT s.1) → LocAt g s) : LocAt (fun x => if c (hdT x.1) then f x else g x) s := by
  intro hs
  have key : ∀ pre q : List GToken, hdT (pre ++ q) = hdT s.1 → (fun x : PS => if c (hdT x.1) then f x else g x) (pre ++ q, s.2) = (if c (hdT s.1) then f (pre ++ q, s.2) else g (pre ++ q, s.2)) := fun pre q h => by dsimp only; rw [h]
  by_cases hc : c (hdT s.1)
  · obtain ⟨f1, f2⟩ := h1 hc hs
    constructor
    · intro a ha
      obtain ⟨e1, pre, e2, e3⟩ := f1 a (by dsimp only at ha; rw [if_pos hc] at ha; exact ha)
      exact ⟨e1, pre, e2, fun q hq hh => by rw [key pre q (by rw [e2]; exact hd_app hh), if_pos hc]; exact e3 q hq hh⟩
    · intro x hx
      obtain ⟨pre, u, post, e1, e2, e3⟩ := f2 x (by dsimp only at hx; rw [if_pos hc] at hx; exact hx)
      exact ⟨pre, u, post, e1, e2, fun q hq hh => by rw [key pre q (by rw [e1]; exact hd_app hh), if_pos hc]; exact e3 q hq hh⟩
  · obtain ⟨f1, f2⟩ := h2 hc hs
    constructor
    · intro a ha
      obtain ⟨e1, pre, e2, e3⟩ := f1 a (by dsimp only at ha; rw [if_neg hc] at ha; exact ha)
      exact ⟨e1, pre, e2, fun q hq hh => by rw [key pre q (by rw [e2]; exact hd_app hh), if_neg hc]; exact e3 q hq hh⟩
    · intro x hx
      obtain ⟨pre, u, post, e1, e2, e3⟩ := f2 x (by dsimp only at hx; rw [if_neg hc] at hx; exact hx)
      exact ⟨pre, u, post, e1, e2, fun q hq hh => by rw [key pre q (by rw [e1]; exact hd_app hh), if_neg hc]; exact e3 q hq hh⟩
theorem LocAt.is {w : ByteArray} {f g : PS → Except PE α} (h1 : isP w s = true → LocAt f s) (h2 : ¬ isP w s = true → LocAt g s) : LocAt (fun x => if isP w x = true then f x else g x) s :=
  LocAt.hd (c := fun t => isT t w = true) h1 h2
theorem LocAt.kd {k : Int} {f g : PS → Except PE α} (h1 : (hdT s.1).Kind = k → LocAt f s) (h2 : ¬ (hdT s.1).Kind = k → LocAt g s) : LocAt (fun x => if (hdT x.1).Kind = k then f x else g x) s :=
  LocAt.hd (c := fun t => t.Kind = k) h1 h2
/-- Behind the next token. -/
theorem LocAt.next {f : PS → Except PE α} (hk : (hdT s.1).Kind ≠ 0) (h : LocAt f (nextP s)) : LocAt (fun x => f (nextP x)) s := by
  intro hs
  obtain ⟨t, r, e, hr⟩ := end_cons hs
  obtain ⟨ts, o⟩ := s
  simp only at e hs
  subst e
  obtain ⟨f1, f2⟩ := h (hr hk)
  constructor
  · intro a ha
    obtain ⟨e1, pre, e2, e3⟩ := f1 a ha
    exact ⟨e1, t :: pre, by show t :: r = _; rw [show r = _ from e2]; rfl, fun q hq hh => e3 q hq hh⟩
  · intro x hx
    obtain ⟨pre, u, post, e1, e2, e3⟩ := f2 x hx
    exact ⟨t :: pre, u, post, by show t :: r = _; rw [show r = _ from e1]; rfl, e2, fun q hq hh => e3 q hq hh⟩
theorem LocAt.err {e : GToken → PE} (h : ErrAt (e (hdT s.1)) (hdT s.1)) : LocAt (α := α) (fun x => .error (e (hdT x.1))) s := by
  intro hs
  constructor
  · intro a ha; cases ha
  · intro x hx
    cases hx
    obtain ⟨t, r, e1, _⟩ := end_cons hs
    have hh : hdT s.1 = t := by rw [e1]; rfl
    rw [hh] at h
    exact ⟨[], t, r, e1, by rw [hh]; exact h, fun q hq h2 => by show Except.error (e (hdT q)) = _; rw [h2, hh]⟩
theorem LocAt.fail : LocAt (α := α) (fun x => .error (failP x)) s := by
  refine LocAt.err (e := fun t => (if t.Kind = 0 then 131 else 130, t.At)) ⟨rfl, ?_, ?_⟩
  · dsimp only; split <;> simp_all
  · dsimp only; split <;> simp
theorem LocAt.ok {a : α} (_ : ps a = s) : LocAt (fun x => .ok (up a x)) s := by
  intro hs
  constructor
  · intro b hb
    cases hb
    rw [HasPS.get]
    exact ⟨hs, [], rfl, fun q _ _ => by rw [put]; rfl⟩
  · intro e he; cases he
end
section
variable {s : PS}
theorem LocAt.pure {α : Type} {v : α} {k : Int → Int} : LocAt (fun x => .ok (v, (x.1, k x.2))) s := by
  intro hs
  constructor
  · intro b hb
    cases hb
    exact ⟨hs, [], rfl, fun q _ _ => rfl⟩
  · intro e he; cases he
theorem LocAt.pure1 {α : Type} {v : α} : LocAt (fun x => .ok (v, x)) s := LocAt.pure (k := id)
theorem LocAt.st {k : Int → Int} : LocAt (α := PS) (fun x => .ok (x.1, k x.2)) s := by
  intro hs
  constructor
  · intro b hb
    cases hb
    exact ⟨hs, [], rfl, fun q _ _ => rfl⟩
  · intro e he; cases he
theorem LocAt.st1 : LocAt (α := PS) (fun x => .ok x) s := LocAt.st (k := id)
/-- What is known behind a step. -/
structure Bh (k : Int) (d : Nat) (s b : PS) : Prop where
  fin : EndT b.1
  opn : b.2 = s.2 + k
  len : b.1.length + d ≤ s.1.length
theorem Bh.of {k : Int} {d : Nat} {s b : PS} (h : EndT s.1) (w : Onw k d s b) : Bh k d s b := ⟨(w h).1, (w h).2.2.1, (w h).2.2.2⟩
theorem LocAt.bndV {α β : Type} {k : Int} {d : Nat} {f : PS → PR α} {g : α × PS → PR β} (hf : LocAt f s) (ho : OkP (Vg k d s) (f s)) (hg : ∀ v b, Bh k d s b → f s = .ok (v, b) → LocAt (fun x => g (v, x)) b) : LocAt (fun x => Sim.YtnnfiohdkobkdaaGreatDoor.bnd (f x) g) s :=
  hf.bnd fun a hs ha => hg a.1 a.2 (Bh.of hs (ho a ha)) ha
theorem LocAt.bndU {β : Type} [HasPS β] {k : Int} {d : Nat} {f : PS → Except PE PS} {g : PS → Except PE β} (hf : LocAt f s) (ho : OkP (Onw k d s) (f s)) (hg : ∀ b, Bh k d s b → f s = .ok b → LocAt g b) : LocAt (fun x => Sim.YtnnfiohdkobkdaaGreatDoor.bnd (f x) g) s :=
  hf.bnd fun a hs ha => hg a (Bh.of hs (ho a ha)) ha
theorem must_l (w : ByteArray) : LocAt (mustP w) s := LocAt.is (fun h => LocAt.next (f := fun x => .ok x) (is_kind h) LocAt.st1) fun _ => LocAt.fail
theorem musts_l : ∀ (l : List ByteArray) {s : PS}, LocAt (mustsP l) s
  | [], _ => LocAt.st1
  | w :: l, _ => (must_l w).bndU (must_go w _) fun _ _ _ => musts_l l
theorem enter_l (w : ByteArray) : LocAt (enterP w) s := by
  refine LocAt.congr (f := fun x => if isP w x = true then (if 60 ≤ s.2 then .error (132, (hdT x.1).At) else bnd (mustP w x) fun x => .ok (x.1, x.2 + 1)) else bnd (mustP w x) fun x => .ok (x.1, x.2 + 1)) ?_ fun x _ h => ?_
  · have go : LocAt (fun x => bnd (mustP w x) fun x => .ok (x.1, x.2 + 1)) s := (must_l w).bndU (must_go w s) fun _ _ _ => LocAt.st (k := fun x => x + 1)
    refine LocAt.is (fun h => ?_) fun _ => go
    by_cases h60 : 60 ≤ s.2
    · simp only [if_pos h60]
      exact LocAt.err (e := fun t => (132, t.At)) ⟨rfl, by simp [is_kind h], by simp⟩
    · simp only [if_neg h60]
      exact go
  · unfold enterP
    rw [h]
    by_cases h1 : isP w x = true <;> by_cases h2 : 60 ≤ s.2 <;> simp [h1, h2]
theorem enter_lt {w : ByteArray} {b : PS} (h : enterP w s = .ok b) : s.2 < 60 := by
  unfold enterP at h
  split at h
  · cases h
  · rename_i hc
    obtain ⟨a, h1, _⟩ := bnd_ok.1 h
    unfold mustP at h1
    split at h1
    · have : ¬ 60 ≤ s.2 := fun hx => hc ⟨by assumption, hx⟩
      omega
    · cases h1
theorem leave_l (l : List ByteArray) : LocAt (leaveP l) s := (musts_l l).bndU (musts_go l s) fun _ _ _ => LocAt.st (k := fun x => x - 1)
theorem name_l : LocAt nameP s := by
  refine LocAt.kd (f := fun x => .ok ((hdT x.1).S, nextP x)) (fun h => ?_) fun _ => LocAt.fail
  intro hs
  obtain ⟨t, r, e, hr⟩ := end_cons hs
  obtain ⟨ts, o⟩ := s
  simp only at e hs
  subst e
  constructor
  · intro a ha
    cases ha
    exact ⟨hr (by show t.Kind ≠ 0; have : t.Kind = 1 := h; omega), [t], rfl, fun q _ _ => rfl⟩
  · intro e he; cases he
theorem num_l (so : GRat → Bool) : LocAt (numP so) s := by
  refine LocAt.kd (fun h => LocAt.hd (c := fun t => so t.Num = true) (f := fun x => .ok ((hdT x.1).Num, nextP x)) (fun _ => ?_) fun _ => LocAt.err (e := fun t => (110, t.At)) ⟨rfl, by simp [h], by simp⟩) fun _ => LocAt.fail
  intro hs
  obtain ⟨t, r, e, hr⟩ := end_cons hs
  obtain ⟨ts, o⟩ := s
  simp only at e hs
  subst e
  constructor
  · intro a ha
    cases ha
    exact ⟨hr (by show t.Kind ≠ 0; have : t.Kind = 3 := h; omega), [t], rfl, fun q _ _ => rfl⟩
  · intro e he; cases he
theorem int_l : LocAt intP s := (num_l _).bndV (num_go _ s) fun _ _ _ _ => LocAt.pure1
theorem power_l : LocAt powerP s := LocAt.is (fun h => LocAt.next (f := fun x => bnd (numP powB1 x) fun r => .ok (-r.1.N, r.2)) (is_kind h) ((num_l _).bndV (num_go _ _) fun _ _ _ _ => LocAt.pure1)) fun _ => (num_l _).bndV (num_go _ s) fun _ _ _ _ => LocAt.pure1
/-- What stands in brackets behind a name. -/
def elIn (nm : ByteArray) (s1 : PS) : PR GTree := if (hdT s1.1).Kind = 3 then bnd (intP s1) fun i => bnd (mustP (ByteArray.mk #[93]) i.2) fun s2 => .ok (partT nm [wholeT i.1], s2)
     else bnd (nameP s1) fun v => if isP (ByteArray.mk #[43]) v.2 = true then bnd (intP (nextP v.2)) fun i => bnd (mustP (ByteArray.mk #[93]) i.2) fun s2 => .ok (partT nm [tk 8 [tk 2 [partT v.1 []], wholeT i.1]], s2)
        else if isP (ByteArray.mk #[45]) v.2 = true then bnd (intP (nextP v.2)) fun i => bnd (mustP (ByteArray.mk #[93]) i.2) fun s2 => .ok (partT nm [tk 9 [tk 2 [partT v.1 []], wholeT i.1]], s2)
        else bnd (mustP (ByteArray.mk #[93]) v.2) fun s2 => .ok (partT nm [tk 2 [partT v.1 []]], s2)
theorem elIn_l (nm : ByteArray) : LocAt (elIn nm) s := by
  have fin : ∀ (k : Int → GTree) (b : PS), LocAt (fun x => bnd (intP x) fun i => bnd (mustP (ByteArray.mk #[93]) i.2) fun s2 => .ok (k i.1, s2)) b := fun k b =>
    int_l.bndV (int_go b) fun i b2 _ _ => (must_l _).bndU (must_go _ b2) fun _ _ _ => LocAt.pure1
  unfold elIn
  refine LocAt.kd (fun _ => fin (fun i => partT nm [wholeT i]) _) fun _ => name_l.bndV (name_go _) fun v s3 _ _ => ?_
  refine LocAt.is (fun h => LocAt.next (f := fun x => bnd (intP x) fun i => bnd (mustP (ByteArray.mk #[93]) i.2) fun s2 => .ok (partT nm [tk 8 [tk 2 [partT v []], wholeT i.1]], s2)) (is_kind h) (fin (fun i => partT nm [tk 8 [tk 2 [partT v []], wholeT i]]) _)) fun _ => ?_
  refine LocAt.is (fun h => LocAt.next (f := fun x => bnd (intP x) fun i => bnd (mustP (ByteArray.mk #[93]) i.2) fun s2 => .ok (partT nm [tk 9 [tk 2 [partT v []], wholeT i.1]], s2)) (is_kind h) (fin (fun i => partT nm [tk 9 [tk 2 [partT v []], wholeT i]]) _)) fun _ => ?_
  exact (must_l _).bndU (must_go _ _) fun _ _ _ => LocAt.pure1
theorem el_l : LocAt elP s := by
  refine LocAt.congr (f := fun x => bnd (nameP x) fun r => if isP (ByteArray.mk #[91]) r.2 = true then elIn r.1 (nextP r.2) else .ok (partT r.1 [], r.2)) ?_ fun x _ _ => rfl
  exact name_l.bndV (name_go s) fun nm s1 _ _ => LocAt.is (fun hb => LocAt.next (f := elIn nm) (is_kind hb) (elIn_l nm)) fun _ => LocAt.pure1
theorem bnd_eq {α β : Type} {x : Except PE α} {f g : α → Except PE β} (h : ∀ a, x = .ok a → f a = g a) : bnd x f = bnd x g := by
  cases x with
  | ok a => exact h a rfl
  | error e => rfl
/-- A loop whose steps are counted reads the same with any number that is enough. -/
theorem els_fuel : ∀ (n m : Nat) (ks : List GTree) (a : PS), EndT a.1 → a.1.length < n → a.1.length < m → elsP n ks a = elsP m ks a
  | 0, _, _, _, _, h, _ => by omega
  | _ + 1, 0, _, _, _, _, h => by omega
  | n + 1, m + 1, ks, a, ha, h1, h2 => by
    unfold elsP
    by_cases hb : isP (ByteArray.mk #[46]) a = true
    · rw [if_pos hb, if_pos hb]
      refine bnd_eq fun r hr => ?_
      have b := Bh.of ha ((is_go hb).trans (el_go _ r hr))
      have := b.len
      exact els_fuel n m _ _ b.fin (by omega) (by omega)
    · rw [if_neg hb, if_neg hb]
theorem els_l : ∀ (N : Nat) (ks : List GTree) (s : PS), s.1.length < N → LocAt (fun x => elsP (x.1.length + 1) ks x) s := by
  intro N
  induction N with
  | zero => intro ks s h; omega
  | succ N ih =>
    intro ks s h
    refine LocAt.congr (f := fun x => if isP (ByteArray.mk #[46]) x = true then bnd (elP (nextP x)) fun r => elsP (r.2.1.length + 1) (ks ++ [r.1]) r.2 else .ok (ks, x)) ?_ fun x hx _ => ?_
    · refine LocAt.is (fun hb => LocAt.next (f := fun y => bnd (elP y) fun r => elsP (r.2.1.length + 1) (ks ++ [r.1]) r.2) (is_kind hb) ?_) fun _ => LocAt.pure1
      intro hs
      have h0 := hs
      refine (el_l.bndV (g := fun r => elsP (r.2.1.length + 1) (ks ++ [r.1]) r.2) (el_go _) fun v b g _ => ih _ b ?_) hs
      have h3 : (nextP s).1.length ≤ s.1.length := by show s.1.tail.length ≤ _; rw [List.length_tail]; omega
      have := g.len
      omega
    · show elsP (x.1.length + 1) ks x = _
      rw [elsP]
      by_cases hb : isP (ByteArray.mk #[46]) x = true
      · rw [if_pos hb, if_pos hb]
        refine bnd_eq fun r hr => ?_
        have b := Bh.of hx ((is_go hb).trans (el_go _ r hr))
        have := b.len
        exact els_fuel _ _ _ _ b.fin (by omega) (by omega)
      · rw [if_neg hb, if_neg hb]
theorem ref_l : LocAt refP s := el_l.bndV (el_go s) fun v b _ _ => (els_l _ [v] b (Nat.lt_succ_self _)).bndV (fun a ha => els_go _ _ _ a ha) fun _ _ _ _ => LocAt.pure1
theorem der_l : LocAt derP s := (must_l _).bndU (must_go _ s) fun b _ _ => (enter_l _).bndU (enter_go _ b) fun c _ _ => ref_l.bndV (ref_go c) fun _ d _ _ => (leave_l _).bndU (leave_go _ d) fun _ _ _ => LocAt.pure1
section
variable {part : PS → PR GTree} (hg : ∀ a, OkP (Vg 0 1 a) (part a)) (one : ByteArray) (k : Int) (other : ByteArray) (k2 : Int)
include hg
theorem row_fuel : ∀ (n m : Nat) (t : GTree) (a : PS), EndT a.1 → a.1.length < n → a.1.length < m → rowP part one k other k2 n t a = rowP part one k other k2 m t a
  | 0, _, _, _, _, h, _ => by omega
  | _ + 1, 0, _, _, _, _, h => by omega
  | n + 1, m + 1, t, a, ha, h1, h2 => by
    have go : ∀ (w : ByteArray) (kk : Int), isP w a = true → (bnd (part (nextP a)) fun r => rowP part one k other k2 n (tk kk [t, r.1]) r.2) = bnd (part (nextP a)) fun r => rowP part one k other k2 m (tk kk [t, r.1]) r.2 := fun w kk hb => bnd_eq fun r hr => by
      have b := Bh.of ha ((is_go hb).trans (hg _ r hr))
      have := b.len
      exact row_fuel n m _ _ b.fin (by omega) (by omega)
    unfold rowP
    by_cases hb : isP one a = true
    · rw [if_pos hb, if_pos hb]; exact go one k hb
    · rw [if_neg hb, if_neg hb]
      by_cases hc : isP other a = true
      · rw [if_pos hc, if_pos hc]; exact go other k2 hc
      · rw [if_neg hc, if_neg hc]
theorem row_l (o : Int) (hp : ∀ a, a.2 = o → LocAt part a) : ∀ (N : Nat) (t : GTree) (s : PS), s.2 = o → s.1.length < N → LocAt (fun x => rowP part one k other k2 (x.1.length + 1) t x) s := by
  intro N
  induction N with
  | zero => intro t s _ h; omega
  | succ N ih =>
    intro t s ho h
    have st : ∀ (w : ByteArray) (kk : Int), isP w s = true → LocAt (fun x => bnd (part (nextP x)) fun r => rowP part one k other k2 (r.2.1.length + 1) (tk kk [t, r.1]) r.2) s := fun w kk hb => by
      refine LocAt.next (f := fun y => bnd (part y) fun r => rowP part one k other k2 (r.2.1.length + 1) (tk kk [t, r.1]) r.2) (is_kind hb) ?_
      refine (hp (nextP s) ho).bndV (hg _) fun v b g _ => ih _ b (by have := g.opn; have : (nextP s).2 = o := ho; omega) ?_
      have h3 : (nextP s).1.length ≤ s.1.length := by show s.1.tail.length ≤ _; rw [List.length_tail]; omega
      have := g.len
      omega
    refine LocAt.congr (f := fun x => if isP one x = true then bnd (part (nextP x)) fun r => rowP part one k other k2 (r.2.1.length + 1) (tk k [t, r.1]) r.2 else if isP other x = true then bnd (part (nextP x)) fun r => rowP part one k other k2 (r.2.1.length + 1) (tk k2 [t, r.1]) r.2 else .ok (t, x)) ?_ fun x hx _ => ?_
    · exact LocAt.is (fun hb => st one k hb) fun _ => LocAt.is (fun hb => st other k2 hb) fun _ => LocAt.pure1
    · show rowP part one k other k2 (x.1.length + 1) t x = _
      have go : ∀ (w : ByteArray) (kk : Int), isP w x = true → (bnd (part (nextP x)) fun r => rowP part one k other k2 x.1.length (tk kk [t, r.1]) r.2) = bnd (part (nextP x)) fun r => rowP part one k other k2 (r.2.1.length + 1) (tk kk [t, r.1]) r.2 := fun w kk hb => bnd_eq fun r hr => by
        have b := Bh.of hx ((is_go hb).trans (hg _ r hr))
        have := b.len
        exact row_fuel hg one k other k2 _ _ _ _ b.fin (by omega) (by omega)
      rw [rowP]
      by_cases hb : isP one x = true
      · rw [if_pos hb, if_pos hb]; exact go one k hb
      · rw [if_neg hb, if_neg hb]
        by_cases hc : isP other x = true
        · rw [if_pos hc, if_pos hc]; exact go other k2 hc
        · rw [if_neg hc, if_neg hc]
theorem rows_l (o : Int) (hp : ∀ a, a.2 = o → LocAt part a) (ho : s.2 = o) : LocAt (rowsP part one k other k2) s :=
  (hp s ho).bndV (hg s) fun v b g _ => (row_l hg one k other k2 o hp _ v b (by have := g.opn; omega) (Nat.lt_succ_self _))
end
/-- A power's node. -/
def powT (n : Int) (k : GTree) : GTree := { GTree.zero with Kind := 12, N := n, Kids := [k] }
theorem neg_l : ∀ (n : Nat) (s : PS), s.2 ≤ 60 → 61 ≤ (n : Int) + s.2 → LocAt (negP n) s
  | 0, s, h1, h2 => by omega
  | n + 1, s, h1, h2 => by
    have ih := neg_l n
    have he : ∀ b : PS, b.2 ≤ 60 → 61 ≤ (n : Int) + b.2 → LocAt (rowsP (rowsP (negP n) (ByteArray.mk #[42]) 10 (ByteArray.mk #[47]) 11) (ByteArray.mk #[43]) 8 (ByteArray.mk #[45]) 9) b := fun b b1 b2 =>
      rows_l (rows_go (neg_go n) _ _ _ _) _ _ _ _ b.2 (fun a ha => rows_l (neg_go n) _ _ _ _ b.2 (fun c hc => ih c (by omega) (by omega)) ha) rfl
    have hgo : ∀ a, OkP (Vg 0 1 a) (rowsP (rowsP (negP n) (ByteArray.mk #[42]) 10 (ByteArray.mk #[47]) 11) (ByteArray.mk #[43]) 8 (ByteArray.mk #[45]) 9 a) := rows_go (rows_go (neg_go n) _ _ _ _) _ _ _ _
    have hpar : ∀ (k : GTree → GTree) (b : PS), b.2 ≤ 60 → 60 ≤ (n : Int) + b.2 → LocAt (fun x => bnd (enterP (ByteArray.mk #[40]) x) fun s1 => bnd (rowsP (rowsP (negP n) (ByteArray.mk #[42]) 10 (ByteArray.mk #[47]) 11) (ByteArray.mk #[43]) 8 (ByteArray.mk #[45]) 9 s1) fun r => bnd (leaveP [(ByteArray.mk #[41])] r.2) fun s2 => .ok (k r.1, s2)) b := fun k b b1 b2 =>
      (enter_l _).bndU (enter_go _ b) fun c gc hc => (he c (by have := gc.opn; have := enter_lt hc; omega) (by have := gc.opn; omega)).bndV (hgo c) fun v d _ _ => (leave_l _).bndU (leave_go _ d) fun _ _ _ => LocAt.pure1
    show LocAt (fun x => negP (n + 1) x) s
    unfold negP
    dsimp only
    refine LocAt.is (fun _ => ?_) fun _ => ?_
    · exact (enter_l _).bndU (enter_go _ s) fun b g hb => (ih b (by have := g.opn; have := enter_lt hb; omega) (by have := g.opn; omega)).bndV (neg_go n b) fun v c _ _ => LocAt.pure (k := fun x => x - 1)
    · refine LocAt.bnd (α := GTree × PS) ?_ fun a _ _ => ?_
      · refine LocAt.kd (fun _ => (num_l _).bndV (num_go _ s) fun _ _ _ _ => LocAt.pure1) fun _ => ?_
        refine LocAt.is (fun h => LocAt.next (f := fun x => .ok (tk 5 [], x)) (is_kind h) LocAt.pure1) fun _ => ?_
        refine LocAt.is (fun _ => der_l) fun _ => ?_
        refine LocAt.is (fun _ => hpar (fun t => t) s h1 (by omega)) fun _ => ?_
        refine LocAt.kd (fun hk => ?_) fun _ => ref_l
        refine LocAt.hd (c := fun t => fnIx t.S < 0) (fun _ => LocAt.fail) fun _ => ?_
        intro hs
        have key : LocAt (fun x => bnd (enterP (ByteArray.mk #[40]) (nextP x)) fun s1 => bnd (rowsP (rowsP (negP n) (ByteArray.mk #[42]) 10 (ByteArray.mk #[47]) 11) (ByteArray.mk #[43]) 8 (ByteArray.mk #[45]) 9 s1) fun r => bnd (leaveP [(ByteArray.mk #[41])] r.2) fun s2 => .ok ({ GTree.zero with Kind := 6, N := fnIx (hdT s.1).S, Kids := [r.1] }, s2)) s :=
          LocAt.next (f := fun x => bnd (enterP (ByteArray.mk #[40]) x) fun s1 => bnd (rowsP (rowsP (negP n) (ByteArray.mk #[42]) 10 (ByteArray.mk #[47]) 11) (ByteArray.mk #[43]) 8 (ByteArray.mk #[45]) 9 s1) fun r => bnd (leaveP [(ByteArray.mk #[41])] r.2) fun s2 => .ok ({ GTree.zero with Kind := 6, N := fnIx (hdT s.1).S, Kids := [r.1] }, s2)) (by omega) (hpar (fun t => { GTree.zero with Kind := 6, N := fnIx (hdT s.1).S, Kids := [t] }) (nextP s) h1 (by show 60 ≤ (n : Int) + s.2; omega))
        obtain ⟨t, r, e, _⟩ := end_cons hs
        have hh : hdT s.1 = t := by rw [e]; rfl
        rw [hh] at key
        obtain ⟨k1, k2⟩ := key hs
        constructor
        · intro a ha
          obtain ⟨e1, pre, e2, e3⟩ := k1 a (by rw [← hh]; exact ha)
          refine ⟨e1, pre, e2, fun q hq hq2 => ?_⟩
          have h5 : hdT (pre ++ q) = t := by rw [← hh, e2]; exact hd_app hq2
          dsimp only
          rw [h5]
          exact e3 q hq hq2
        · intro e' he'
          obtain ⟨pre, u, post, e1, e2, e3⟩ := k2 e' (by rw [← hh]; exact he')
          refine ⟨pre, u, post, e1, e2, fun q hq hq2 => ?_⟩
          have h5 : hdT (pre ++ q) = t := by rw [← hh, e1]; exact hd_app hq2
          dsimp only
          rw [h5]
          exact e3 q hq hq2
      · exact LocAt.is (fun hb => LocAt.next (f := fun x => bnd (powerP x) fun q => .ok (powT q.1 a.1, q.2)) (is_kind hb) (power_l.bndV (power_go _) fun _ _ _ _ => LocAt.pure1)) fun _ => LocAt.pure1
theorem expr_l (h1 : s.2 ≤ 60) (h0 : 0 ≤ s.2) : LocAt (exprP 62) s := rows_l (rows_go (neg_go 62) _ _ _ _) _ _ _ _ s.2 (fun _ ha => rows_l (neg_go 62) _ _ _ _ s.2 (fun c hc => neg_l 62 c (by omega) (by omega)) ha) rfl
section
variable (mk : Int → Int → GRat)
theorem up_l : ∀ (n : Nat) (s : PS), s.2 ≤ 60 → 61 ≤ (n : Int) + s.2 → LocAt (upP mk n) s
  | 0, s, h1, h2 => by omega
  | n + 1, s, h1, h2 => by
    have ih := up_l n
    show LocAt (fun x => upP mk (n + 1) x) s
    unfold upP
    dsimp only
    refine LocAt.bnd (α := GTree × PS) ?_ fun a _ _ => ?_
    · refine LocAt.is (fun _ => ?_) fun _ => LocAt.kd (fun _ => (num_l _).bndV (num_go _ s) fun _ _ _ _ => LocAt.pure1) fun _ => name_l.bndV (name_go s) fun _ _ _ _ => LocAt.pure1
      exact (enter_l _).bndU (enter_go _ s) fun b g hb => (rows_l (up_go mk n) _ _ _ _ b.2 (fun c hc => ih c (by have := g.opn; have := enter_lt hb; omega) (by have := g.opn; omega)) rfl).bndV (rows_go (up_go mk n) _ _ _ _ b) fun v c _ _ => (leave_l _).bndU (leave_go _ c) fun _ _ _ => LocAt.pure1
    · refine LocAt.is (fun hb => LocAt.next (f := fun s1 => if isP (ByteArray.mk #[40]) s1 = true then bnd (enterP (ByteArray.mk #[40]) s1) fun s2 => bnd (powerP s2) fun p => bnd (mustP (ByteArray.mk #[47]) p.2) fun s3 => bnd (numP denB s3) fun d => bnd (leaveP [(ByteArray.mk #[41])] d.2) fun s4 => .ok ({ GTree.zero with Kind := 24, Num := mk p.1 d.1.N, Kids := [a.1] }, s4)
         else bnd (powerP s1) fun p => .ok ({ GTree.zero with Kind := 24, Num := ⟨p.1, 1⟩, Kids := [a.1] }, p.2)) (is_kind hb) ?_) fun _ => LocAt.pure1
      refine LocAt.is (fun _ => ?_) fun _ => power_l.bndV (power_go _) fun _ _ _ _ => LocAt.pure1
      exact (enter_l _).bndU (enter_go _ _) fun b _ _ => power_l.bndV (power_go b) fun p c _ _ => (must_l _).bndU (must_go _ c) fun d _ _ => (num_l _).bndV (num_go _ d) fun q e _ _ => (leave_l _).bndU (leave_go _ e) fun _ _ _ => LocAt.pure1
theorem dim_l (h1 : s.2 ≤ 60) (h0 : 0 ≤ s.2) : LocAt (dimP mk 62) s := rows_l (up_go mk 62) _ _ _ _ s.2 (fun c hc => up_l mk 62 c (by omega) (by omega)) rfl
theorem kind_l (h1 : s.2 ≤ 60) (h0 : 0 ≤ s.2) : LocAt (kindP mk) s := LocAt.is (fun hb => LocAt.next (f := fun x => bnd (dimP mk 62 x) fun r => .ok (tk 41 [r.1], r.2)) (is_kind hb) ((dim_l mk (s := nextP s) h1 h0).bndV (dim_go mk 62 _) fun _ _ _ _ => LocAt.pure1)) fun _ => LocAt.pure1
theorem array_l : LocAt arrayP s := LocAt.is (fun hb => LocAt.next (f := fun x => bnd (intP x) fun r => bnd (mustP (ByteArray.mk #[93]) r.2) fun s1 => .ok (r.1, s1)) (is_kind hb) (int_l.bndV (int_go _) fun _ b _ _ => (must_l _).bndU (must_go _ b) fun _ _ _ => LocAt.pure1)) fun _ => LocAt.pure1
theorem mods_fuel : ∀ (n m : Nat) (ks : List GTree) (a : PS), EndT a.1 → a.1.length < n → a.1.length < m → modsP n ks a = modsP m ks a
  | 0, _, _, _, _, h, _ => by omega
  | _ + 1, 0, _, _, _, _, h => by omega
  | n + 1, m + 1, ks, a, ha, h1, h2 => by
    unfold modsP
    refine bnd_eq fun v hv => bnd_eq fun s1 h1' => bnd_eq fun e he => ?_
    dsimp only
    by_cases hb : isP (ByteArray.mk #[44]) e.2 = true
    · rw [if_pos hb, if_pos hb]
      have b := Bh.of ha ((((name_go a v hv).trans (must_go _ _ s1 h1')).trans (expr_go _ _ e he)).trans (is_go hb))
      have := b.len
      exact mods_fuel n m _ _ b.fin (by omega) (by omega)
    · rw [if_neg hb, if_neg hb]
theorem mods_l (o : Int) (ho : 0 ≤ o) (ho2 : o ≤ 60) : ∀ (N : Nat) (ks : List GTree) (s : PS), s.2 = o → s.1.length < N → LocAt (fun x => modsP (x.1.length + 1) ks x) s := by
  intro N
  induction N with
  | zero => intro t s _ h; omega
  | succ N ih =>
    intro ks s hs h
    refine LocAt.congr (f := fun x => bnd (nameP x) fun v => bnd (mustP (ByteArray.mk #[61]) v.2) fun s1 => bnd (exprP 62 s1) fun e => if isP (ByteArray.mk #[44]) e.2 = true then (fun y : PS => modsP (y.1.length + 1) (ks ++ [{ GTree.zero with Kind := 36, Name := v.1, Kids := [e.1] }]) y) (nextP e.2) else .ok (ks ++ [{ GTree.zero with Kind := 36, Name := v.1, Kids := [e.1] }], e.2)) ?_ fun x hx _ => ?_
    · refine name_l.bndV (name_go s) fun v b g _ => (must_l _).bndU (must_go _ b) fun c g2 _ => (expr_l (by have := g.opn; have := g2.opn; omega) (by have := g.opn; have := g2.opn; omega)).bndV (expr_go 62 c) fun e d g3 _ => ?_
      have := g.opn
      have := g2.opn
      have := g3.opn
      have := g.len
      have := g2.len
      have := g3.len
      exact LocAt.is (fun hb => LocAt.next (f := fun y : PS => modsP (y.1.length + 1) (ks ++ [{ GTree.zero with Kind := 36, Name := v, Kids := [e] }]) y) (is_kind hb) (ih _ (nextP d) (by show d.2 = o; omega) (by show d.1.tail.length < N; rw [List.length_tail]; omega))) fun _ => LocAt.pure1
    · show modsP (x.1.length + 1) ks x = _
      rw [modsP]
      refine bnd_eq fun v hv => bnd_eq fun s1 h1' => bnd_eq fun e he => ?_
      dsimp only
      by_cases hb : isP (ByteArray.mk #[44]) e.2 = true
      · rw [if_pos hb, if_pos hb]
        have b := Bh.of hx ((((name_go x v hv).trans (must_go _ _ s1 h1')).trans (expr_go _ _ e he)).trans (is_go hb))
        have := b.len
        exact mods_fuel _ _ _ _ b.fin (by omega) (by omega)
      · rw [if_neg hb, if_neg hb]
theorem part_l (h1 : s.2 ≤ 60) (h0 : 0 ≤ s.2) : LocAt partP s := by
  refine name_l.bndV (name_go s) fun v b g1 _ => array_l.bndV (array_go b) fun n c g2 _ => (must_l _).bndU (must_go _ c) fun d g3 _ => name_l.bndV (name_go d) fun a e g4 _ => ?_
  have := g1.opn
  have := g2.opn
  have := g3.opn
  have := g4.opn
  dsimp only
  refine LocAt.is (fun _ => (enter_l _).bndU (enter_go _ e) fun f g5 hf => ?_) fun _ => LocAt.pure1
  have := g5.opn
  have := enter_lt hf
  exact (mods_l f.2 (by omega) (by omega) _ [] f rfl (Nat.lt_succ_self _)).bndV (fun a ha => mods_go _ _ _ a ha) fun ks d2 _ _ => (leave_l _).bndU (leave_go _ d2) fun _ _ _ => LocAt.pure1
theorem start_l (h1 : s.2 ≤ 60) (h0 : 0 ≤ s.2) : LocAt startP s := by
  refine LocAt.bndV (α := GTree) (k := 0) (d := 1) (LocAt.is (fun _ => der_l) fun _ => ref_l) (OkP.ite (fun _ => der_go s) fun _ => ref_go s) fun o b g _ => ?_
  have := g.opn
  refine LocAt.is (fun hb => LocAt.next (f := fun x => bnd (exprP 62 x) fun e => .ok (tk 37 [o, e.1, e.1], e.2)) (is_kind hb) ((expr_l (s := nextP b) (by show b.2 ≤ 60; omega) (by show 0 ≤ b.2; omega)).bndV (expr_go 62 _) fun _ _ _ _ => LocAt.pure1)) fun _ => ?_
  refine (musts_l _).bndU (musts_go _ b) fun c g2 _ => ?_
  have := g2.opn
  refine (expr_l (by omega) (by omega)).bndV (expr_go 62 c) fun x d g3 _ => (must_l _).bndU (must_go _ d) fun e g4 _ => ?_
  have := g3.opn
  have := g4.opn
  exact (expr_l (by omega) (by omega)).bndV (expr_go 62 e) fun y f _ _ => (must_l _).bndU (must_go _ f) fun _ _ _ => LocAt.pure1
section
variable {rule : PS → PR GTree} (hg : ∀ a, OkP (Vg 0 1 a) (rule a))
include hg
theorem rules_fuel : ∀ (n m : Nat) (ks : List GTree) (a : PS), EndT a.1 → a.1.length < n → a.1.length < m → rulesP rule n ks a = rulesP rule m ks a
  | 0, _, _, _, _, h, _ => by omega
  | _ + 1, 0, _, _, _, _, h => by omega
  | n + 1, m + 1, ks, a, ha, h1, h2 => by
    unfold rulesP
    by_cases hb : isP (ByteArray.mk #[101, 110, 100]) a = true
    · rw [if_pos hb, if_pos hb]
    · rw [if_neg hb, if_neg hb]
      refine bnd_eq fun r hr => ?_
      have b := Bh.of ha (hg _ r hr)
      have := b.len
      exact rules_fuel n m _ _ b.fin (by omega) (by omega)
theorem rules_l (o : Int) (hp : ∀ a, a.2 = o → LocAt rule a) : ∀ (N : Nat) (ks : List GTree) (s : PS), s.2 = o → s.1.length < N → LocAt (fun x => rulesP rule (x.1.length + 1) ks x) s := by
  intro N
  induction N with
  | zero => intro t s _ h; omega
  | succ N ih =>
    intro ks s hs h
    refine LocAt.congr (f := fun x => if isP (ByteArray.mk #[101, 110, 100]) x = true then .ok (ks, x) else bnd (rule x) fun r => rulesP rule (r.2.1.length + 1) (ks ++ [r.1]) r.2) ?_ fun x hx _ => ?_
    · refine LocAt.is (fun _ => LocAt.pure1) fun _ => (hp s hs).bndV (hg s) fun v b g _ => ih _ b (by have := g.opn; omega) (by have := g.len; omega)
    · show rulesP rule (x.1.length + 1) ks x = _
      rw [rulesP]
      by_cases hb : isP (ByteArray.mk #[101, 110, 100]) x = true
      · rw [if_pos hb, if_pos hb]
      · rw [if_neg hb, if_neg hb]
        refine bnd_eq fun r hr => ?_
        have b := Bh.of hx (hg _ r hr)
        have := b.len
        exact rules_fuel hg _ _ _ _ b.fin (by omega) (by omega)
end
theorem rule_l : ∀ (n : Nat) (s : PS), s.2 ≤ 60 → 0 ≤ s.2 → 61 ≤ (n : Int) + s.2 → LocAt (ruleP n) s
  | 0, s, h1, _, h2 => by omega
  | n + 1, s, h1, h0, h2 => by
    have ih := rule_l n
    show LocAt (fun x => ruleP (n + 1) x) s
    unfold ruleP
    refine LocAt.is (fun hb => ?_) fun _ => LocAt.is (fun _ => ?_) fun _ => ?_
    · refine LocAt.next (f := fun x => bnd (enterP (ByteArray.mk #[40]) x) fun s1 => bnd (refP s1) fun a => bnd (mustP (ByteArray.mk #[44]) a.2) fun s2 => bnd (refP s2) fun b => bnd (leaveP [(ByteArray.mk #[41]), (ByteArray.mk #[59])] b.2) fun s3 => .ok (tk 38 [a.1, b.1], s3)) (is_kind hb) ?_
      exact (enter_l _).bndU (enter_go _ _) fun a _ _ => ref_l.bndV (ref_go a) fun _ b _ _ => (must_l _).bndU (must_go _ b) fun c _ _ => ref_l.bndV (ref_go c) fun _ d _ _ => (leave_l _).bndU (leave_go _ d) fun _ _ _ => LocAt.pure1
    · refine (enter_l _).bndU (enter_go _ s) fun b g1 hb => name_l.bndV (name_go b) fun v c g2 _ => (must_l _).bndU (must_go _ c) fun d g3 _ => int_l.bndV (int_go d) fun x e g4 _ => (must_l _).bndU (must_go _ e) fun f g5 _ => int_l.bndV (int_go f) fun y i g6 _ => (must_l _).bndU (must_go _ i) fun j g7 _ => ?_
      have := enter_lt hb
      have := g1.opn
      have := g2.opn
      have := g3.opn
      have := g4.opn
      have := g5.opn
      have := g6.opn
      have := g7.opn
      exact (rules_l (rule_go n) j.2 (fun a ha => ih a (by omega) (by omega) (by omega)) _ [] j rfl (Nat.lt_succ_self _)).bndV (fun a ha => rules_go (rule_go n) _ _ _ a ha) fun ks d2 _ _ => (leave_l _).bndU (leave_go _ d2) fun _ _ _ => LocAt.pure1
    · refine (expr_l h1 h0).bndV (expr_go 62 s) fun x b g1 _ => (must_l _).bndU (must_go _ b) fun c g2 _ => ?_
      have := g1.opn
      have := g2.opn
      exact (expr_l (by omega) (by omega)).bndV (expr_go 62 c) fun y d _ _ => (must_l _).bndU (must_go _ d) fun _ _ _ => LocAt.pure1
/-- A variable, behind its word. -/
def varP (fl : Bool) (s0 : PS) : PR GTree := bnd (nameP s0) fun v => bnd (arrayP v.2) fun n => bnd (kindP mk n.2) fun d => bnd (mustP (ByteArray.mk #[59]) d.2) fun s1 => .ok ({ GTree.zero with Kind := 34, Flag := fl, Name := v.1, N := n.1, Kids := [d.1] }, s1)
theorem item_l (h1 : s.2 ≤ 60) (h0 : 0 ≤ s.2) : LocAt (itemP mk) s := by
  unfold itemP
  refine LocAt.is (fun hb => ?_) fun _ => LocAt.hd (c := fun t => isT t (ByteArray.mk #[118, 97, 114]) = true ∨ isT t (ByteArray.mk #[102, 108, 111, 119]) = true) (f := fun x => varP mk (isP (ByteArray.mk #[102, 108, 111, 119]) x) (nextP x)) (fun hb => ?_) fun _ => LocAt.is (fun hb => ?_) fun _ => LocAt.is (fun hb => ?_) fun _ => rule_l 62 s h1 h0 (by omega)
  · refine LocAt.next (f := fun x => bnd (nameP x) fun v => bnd (kindP mk v.2) fun d => bnd (mustP (ByteArray.mk #[61]) d.2) fun s1 => bnd (exprP 62 s1) fun e => bnd (mustP (ByteArray.mk #[59]) e.2) fun s2 => .ok ({ GTree.zero with Kind := 33, Name := v.1, Kids := [d.1, e.1] }, s2)) (is_kind hb) ?_
    refine name_l.bndV (name_go _) fun v b g1 _ => ?_
    have e0 : (nextP s).2 = s.2 := rfl
    have := g1.opn
    refine (kind_l mk (by omega) (by omega)).bndV (kind_go mk b) fun d c g2 _ => (must_l _).bndU (must_go _ c) fun e g3 _ => ?_
    have := g2.opn
    have := g3.opn
    exact (expr_l (by omega) (by omega)).bndV (expr_go 62 e) fun y f _ _ => (must_l _).bndU (must_go _ f) fun _ _ _ => LocAt.pure1
  · intro hs
    have key : LocAt (fun x => varP mk (isP (ByteArray.mk #[102, 108, 111, 119]) s) (nextP x)) s := by
      refine LocAt.next (f := varP mk (isP (ByteArray.mk #[102, 108, 111, 119]) s)) (hb.elim (is_kind (a := s)) (is_kind (a := s))) ?_
      refine name_l.bndV (name_go _) fun v b g1 _ => array_l.bndV (array_go b) fun n c g2 _ => ?_
      have e0 : (nextP s).2 = s.2 := rfl
      have := g1.opn
      have := g2.opn
      exact (kind_l mk (by omega) (by omega)).bndV (kind_go mk c) fun d e _ _ => (must_l _).bndU (must_go _ e) fun _ _ _ => LocAt.pure1
    obtain ⟨k1, k2⟩ := key hs
    have hfl : ∀ pre q : List GToken, hdT (pre ++ q) = hdT s.1 → isP (ByteArray.mk #[102, 108, 111, 119]) (pre ++ q, s.2) = isP (ByteArray.mk #[102, 108, 111, 119]) s := fun pre q h => by unfold isP; rw [h]
    constructor
    · intro a ha
      obtain ⟨e1, pre, e2, e3⟩ := k1 a ha
      refine ⟨e1, pre, e2, fun q hq hq2 => ?_⟩
      dsimp only
      rw [hfl pre q (by rw [e2]; exact hd_app hq2)]
      exact e3 q hq hq2
    · intro e' he'
      obtain ⟨pre, u, post, e1, e2, e3⟩ := k2 e' he'
      refine ⟨pre, u, post, e1, e2, fun q hq hq2 => ?_⟩
      dsimp only
      rw [hfl pre q (by rw [e1]; exact hd_app hq2)]
      exact e3 q hq hq2
  · exact LocAt.next (f := fun x => bnd (partP x) fun t => bnd (mustP (ByteArray.mk #[59]) t.2) fun s1 => .ok (t.1, s1)) (is_kind hb) ((part_l (s := nextP s) h1 h0).bndV (part_go _) fun t b _ _ => (must_l _).bndU (must_go _ b) fun _ _ _ => LocAt.pure1)
  · exact LocAt.next (f := fun x => bnd (startP x) fun t => bnd (mustP (ByteArray.mk #[59]) t.2) fun s1 => .ok (t.1, s1)) (is_kind hb) ((start_l (s := nextP s) h1 h0).bndV (start_go _) fun t b _ _ => (must_l _).bndU (must_go _ b) fun _ _ _ => LocAt.pure1)
theorem items_fuel : ∀ (n m : Nat) (ks : List GTree) (a : PS), EndT a.1 → a.1.length < n → a.1.length < m → itemsP mk n ks a = itemsP mk m ks a
  | 0, _, _, _, _, h, _ => by omega
  | _ + 1, 0, _, _, _, _, h => by omega
  | n + 1, m + 1, ks, a, ha, h1, h2 => by
    unfold itemsP
    by_cases hb : isP (ByteArray.mk #[101, 110, 100]) a = true
    · rw [if_pos hb, if_pos hb]
    · rw [if_neg hb, if_neg hb]
      refine bnd_eq fun r hr => ?_
      have b := Bh.of ha (item_go mk _ r hr)
      have := b.len
      exact items_fuel n m _ _ b.fin (by omega) (by omega)
theorem items_l (o : Int) (ho : 0 ≤ o) (ho2 : o ≤ 60) : ∀ (N : Nat) (ks : List GTree) (s : PS), s.2 = o → s.1.length < N → LocAt (fun x => itemsP mk (x.1.length + 1) ks x) s := by
  intro N
  induction N with
  | zero => intro t s _ h; omega
  | succ N ih =>
    intro ks s hs h
    refine LocAt.congr (f := fun x => if isP (ByteArray.mk #[101, 110, 100]) x = true then .ok (ks, nextP x) else bnd (itemP mk x) fun r => itemsP mk (r.2.1.length + 1) (ks ++ [r.1]) r.2) ?_ fun x hx _ => ?_
    · refine LocAt.is (fun hb => LocAt.next (f := fun x => .ok (ks, x)) (is_kind hb) LocAt.pure1) fun _ => (item_l mk (by omega) (by omega)).bndV (item_go mk s) fun v b g _ => ih _ b (by have := g.opn; omega) (by have := g.len; omega)
    · show itemsP mk (x.1.length + 1) ks x = _
      rw [itemsP]
      by_cases hb : isP (ByteArray.mk #[101, 110, 100]) x = true
      · rw [if_pos hb, if_pos hb]
      · rw [if_neg hb, if_neg hb]
        refine bnd_eq fun r hr => ?_
        have b := Bh.of hx (item_go mk _ r hr)
        have := b.len
        exact items_fuel mk _ _ _ _ b.fin (by omega) (by omega)
theorem class_l (k : Int) (h1 : s.2 ≤ 60) (h0 : 0 ≤ s.2) : LocAt (classP mk k) s := name_l.bndV (name_go s) fun v b g _ => (items_l mk b.2 (by have := g.opn; omega) (by have := g.opn; omega) _ [] b rfl (Nat.lt_succ_self _)).bndV (fun a ha => items_go mk _ _ _ a ha) fun ks c _ _ => (must_l _).bndU (must_go _ c) fun _ _ _ => LocAt.pure1
theorem unit_l (h1 : s.2 ≤ 60) (h0 : 0 ≤ s.2) : LocAt (unitP mk) s := name_l.bndV (name_go s) fun v b g _ => LocAt.is (fun hb => LocAt.next (f := fun x => bnd (dimP mk 62 x) fun d => bnd (mustP (ByteArray.mk #[59]) d.2) fun s1 => .ok ({ GTree.zero with Kind := 31, Name := v, Kids := [d.1] }, s1)) (is_kind hb)
    ((dim_l mk (s := nextP b) (by show b.2 ≤ 60; have := g.opn; omega) (by show 0 ≤ b.2; have := g.opn; omega)).bndV (dim_go mk 62 _) fun _ c _ _ => (must_l _).bndU (must_go _ c) fun _ _ _ => LocAt.pure1)) fun _ => (must_l _).bndU (must_go _ b) fun _ _ _ => LocAt.pure1
theorem files_fuel : ∀ (n m : Nat) (ks : List GTree) (a : PS), EndT a.1 → a.1.length < n → a.1.length < m → filesP mk n ks a = filesP mk m ks a
  | 0, _, _, _, _, h, _ => by omega
  | _ + 1, 0, _, _, _, _, h => by omega
  | n + 1, m + 1, ks, a, ha, h1, h2 => by
    unfold filesP
    by_cases h0 : (hdT a.1).Kind = 0
    · rw [if_pos h0, if_pos h0]
    rw [if_neg h0, if_neg h0]
    by_cases ha1 : isP (ByteArray.mk #[117, 110, 105, 116]) a = true
    · rw [if_pos ha1, if_pos ha1]
      refine bnd_eq fun r hr => ?_
      have b := Bh.of ha ((is_go ha1).trans (unit_go mk _ r hr))
      have := b.len
      exact files_fuel n m _ _ b.fin (by omega) (by omega)
    rw [if_neg ha1, if_neg ha1]
    by_cases ha2 : isP (ByteArray.mk #[109, 111, 100, 101, 108]) a = true
    · rw [if_pos ha2, if_pos ha2]
      refine bnd_eq fun r hr => ?_
      have b := Bh.of ha ((is_go ha2).trans (class_go mk 1 _ r hr))
      have := b.len
      exact files_fuel n m _ _ b.fin (by omega) (by omega)
    rw [if_neg ha2, if_neg ha2]
    by_cases ha3 : isP (ByteArray.mk #[99, 111, 110, 110, 101, 99, 116, 111, 114]) a = true
    · rw [if_pos ha3, if_pos ha3]
      refine bnd_eq fun r hr => ?_
      have b := Bh.of ha ((is_go ha3).trans (class_go mk 2 _ r hr))
      have := b.len
      exact files_fuel n m _ _ b.fin (by omega) (by omega)
    rw [if_neg ha3, if_neg ha3]
theorem files_l : ∀ (N : Nat) (ks : List GTree) (s : PS), s.2 = 0 → s.1.length < N → LocAt (fun x => filesP mk (x.1.length + 1) ks x) s := by
  intro N
  induction N with
  | zero => intro t s _ h; omega
  | succ N ih =>
    intro ks s hs h
    have e0 : (nextP s).2 = s.2 := rfl
    have h3 : (nextP s).1.length ≤ s.1.length := by show s.1.tail.length ≤ _; rw [List.length_tail]; omega
    refine LocAt.congr (f := fun x => if (hdT x.1).Kind = 0 then .ok (ks, x) else if isP (ByteArray.mk #[117, 110, 105, 116]) x = true then bnd (unitP mk (nextP x)) fun u => filesP mk (u.2.1.length + 1) (ks ++ [u.1]) u.2
      else if isP (ByteArray.mk #[109, 111, 100, 101, 108]) x = true then bnd (classP mk 1 (nextP x)) fun u => filesP mk (u.2.1.length + 1) (ks ++ [u.1]) u.2
      else if isP (ByteArray.mk #[99, 111, 110, 110, 101, 99, 116, 111, 114]) x = true then bnd (classP mk 2 (nextP x)) fun u => filesP mk (u.2.1.length + 1) (ks ++ [u.1]) u.2 else .error (failP x)) ?_ fun x hx _ => ?_
    · refine LocAt.kd (fun _ => LocAt.pure1) fun _ => LocAt.is (fun hb => ?_) fun _ => LocAt.is (fun hb => ?_) fun _ => LocAt.is (fun hb => ?_) fun _ => LocAt.fail
      · exact LocAt.next (f := fun y => bnd (unitP mk y) fun u => filesP mk (u.2.1.length + 1) (ks ++ [u.1]) u.2) (is_kind hb) ((unit_l mk (by omega) (by omega)).bndV (unit_go mk _) fun v b g _ => ih _ b (by have := g.opn; omega) (by have := g.len; omega))
      · exact LocAt.next (f := fun y => bnd (classP mk 1 y) fun u => filesP mk (u.2.1.length + 1) (ks ++ [u.1]) u.2) (is_kind hb) ((class_l mk 1 (by omega) (by omega)).bndV (class_go mk 1 _) fun v b g _ => ih _ b (by have := g.opn; omega) (by have := g.len; omega))
      · exact LocAt.next (f := fun y => bnd (classP mk 2 y) fun u => filesP mk (u.2.1.length + 1) (ks ++ [u.1]) u.2) (is_kind hb) ((class_l mk 2 (by omega) (by omega)).bndV (class_go mk 2 _) fun v b g _ => ih _ b (by have := g.opn; omega) (by have := g.len; omega))
    · show filesP mk (x.1.length + 1) ks x = _
      rw [filesP]
      by_cases h0 : (hdT x.1).Kind = 0
      · rw [if_pos h0, if_pos h0]
      rw [if_neg h0, if_neg h0]
      by_cases ha1 : isP (ByteArray.mk #[117, 110, 105, 116]) x = true
      · rw [if_pos ha1, if_pos ha1]
        refine bnd_eq fun r hr => ?_
        have b := Bh.of hx ((is_go ha1).trans (unit_go mk _ r hr))
        have := b.len
        exact files_fuel mk _ _ _ _ b.fin (by omega) (by omega)
      rw [if_neg ha1, if_neg ha1]
      by_cases ha2 : isP (ByteArray.mk #[109, 111, 100, 101, 108]) x = true
      · rw [if_pos ha2, if_pos ha2]
        refine bnd_eq fun r hr => ?_
        have b := Bh.of hx ((is_go ha2).trans (class_go mk 1 _ r hr))
        have := b.len
        exact files_fuel mk _ _ _ _ b.fin (by omega) (by omega)
      rw [if_neg ha2, if_neg ha2]
      by_cases ha3 : isP (ByteArray.mk #[99, 111, 110, 110, 101, 99, 116, 111, 114]) x = true
      · rw [if_pos ha3, if_pos ha3]
        refine bnd_eq fun r hr => ?_
        have b := Bh.of hx ((is_go ha3).trans (class_go mk 2 _ r hr))
        have := b.len
        exact files_fuel mk _ _ _ _ b.fin (by omega) (by omega)
      rw [if_neg ha3, if_neg ha3]
theorem file_l (h : s.2 = 0) : LocAt (fileP mk) s := by
  have hf : LocAt (fun x => filesP mk (x.1.length + 1) [] x) s := files_l mk _ [] s h (Nat.lt_succ_self _)
  exact hf.bnd fun _ _ _ => LocAt.pure1
end
end
end Go.Sim.YtnnfiohdkobkdaaGreatDoor
