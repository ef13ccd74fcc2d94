/- What is proved: the trees that are read may be (their numbers and lengths are in bounds). -/
import Derived.Test.YtnnfiohdkobkdaaGreatDoorZZPLParT

namespace Go.Sim.YtnnfiohdkobkdaaGreatDoor
open Go.RowKit Go.Proofs Go.Proofs.Tryz
/-- A number may be. -/
structure NumOk (a : GRat) : Prop where
  ok : a.ok
  nn : 0 ≤ a.N
  dn : a.right = true → a.D ≠ 0
structure TkOk (t : GToken) : Prop where
  num : NumOk t.Num
  sz : t.S.size ≤ maxLen
structure Us (a : PS) : Prop where
  fin : EndT a.1
  tok : ∀ t ∈ a.1, TkOk t
  len : a.1.length ≤ 1000000
theorem Us.on {a b : PS} {k : Int} {d : Nat} (h : Us a) (w : Onw k d a b) : Us b ∧ b.1.length + d ≤ a.1.length := by
  obtain ⟨w1, ⟨p, w2⟩, _, w4⟩ := w h.fin
  have := h.len
  exact ⟨⟨w1, fun t ht => h.tok t (by rw [w2]; exact List.mem_append_right _ ht), by omega⟩, w4⟩
theorem Us.hd {a : PS} (h : Us a) : TkOk (hdT a.1) := by
  obtain ⟨p, e, h1, _⟩ := h.fin
  have h2 := h.tok
  cases hs : a.1 with
  | nil => rw [hs] at h1; simp at h1
  | cons t r => rw [hs] at h2; exact h2 t (by simp)
theorem OkP.bnd2 {α β : Type} {S : α × PS → Prop} {T : β → Prop} {x : PR α} {f : α × PS → Except PE β} {k : Int} {d : Nat} {a : PS} (ha : Us a) (hg : OkP (Vg k d a) x) (hu : OkP S x) (kk : ∀ r, S r → Us r.2 → r.2.1.length + d ≤ a.1.length → OkP T (f r)) : OkP T (Sim.YtnnfiohdkobkdaaGreatDoor.bnd x f) := by
  intro b hb
  obtain ⟨r, h1, h2⟩ := bnd_ok.1 hb
  exact kk r (hu r h1) (ha.on (hg r h1)).1 (ha.on (hg r h1)).2 b h2
theorem OkP.bndU {β : Type} {T : β → Prop} {x : Except PE PS} {f : PS → Except PE β} {k : Int} {d : Nat} {a : PS} (ha : Us a) (hg : OkP (Onw k d a) x) (kk : ∀ b, Us b → b.1.length + d ≤ a.1.length → OkP T (f b)) : OkP T (Sim.YtnnfiohdkobkdaaGreatDoor.bnd x f) := by
  intro b hb
  obtain ⟨r, h1, h2⟩ := bnd_ok.1 hb
  exact kk r (ha.on (hg r h1)).1 (ha.on (hg r h1)).2 b h2
theorem oki {k : Int} (h1 : -9223372036854775808 ≤ k) (h2 : k ≤ 9223372036854775807) : okInt .i64 k := by
  have e1 : IntKind.i64.min = -9223372036854775808 := rfl
  have e2 : IntKind.i64.max = 9223372036854775807 := rfl
  exact ⟨by rw [e1]; exact h1, by rw [e2]; exact h2⟩
theorem okN {k n m : Int} {nm al : ByteArray} {fl : Bool} {num : GRat} {ks : List GTree} (hks : ∀ z ∈ ks, z.ok) (hl : ks.length ≤ 3000000) (hk : -100 ≤ k ∧ k ≤ 100 := by decide) (hnm : nm.size ≤ maxLen := by first | assumption | decide) (hal : al.size ≤ maxLen := by first | assumption | decide)
    (hn : okInt .i64 n := by first | assumption | exact oki (by decide) (by decide)) (hm : okInt .i64 m := by first | assumption | exact oki (by decide) (by decide)) (hnum : num.ok := by first | assumption | exact ⟨oki (by decide) (by decide), oki (by decide) (by decide)⟩) :
    GTree.ok ⟨k, nm, al, n, m, fl, num, ks⟩ := (GTree.ok_iff _).2 ⟨oki (k := k) (by have := hk.1; omega) (by have := hk.2; omega), hnm, hal, hn, hm, hnum, by show ks.length ≤ maxLen; unfold maxLen; omega, hks⟩
theorem all0 : ∀ z ∈ ([] : List GTree), z.ok := by simp
theorem all1 {x : GTree} (h : x.ok) : ∀ z ∈ [x], z.ok := by simpa using h
theorem all2 {x y : GTree} (h : x.ok) (g : y.ok) : ∀ z ∈ [x, y], z.ok := by simpa using ⟨h, g⟩
theorem all3 {x y w : GTree} (h : x.ok) (g : y.ok) (i : w.ok) : ∀ z ∈ [x, y, w], z.ok := by simpa using ⟨h, g, i⟩
theorem allA {xs : List GTree} {x : GTree} (h : ∀ z ∈ xs, z.ok) (g : x.ok) : ∀ z ∈ xs ++ [x], z.ok := by
  intro z hz
  rcases List.mem_append.1 hz with hz | hz
  · exact h z hz
  · rw [List.mem_singleton.1 hz]; exact g
theorem name_u {a : PS} (ha : Us a) : OkP (fun r => r.1.size ≤ maxLen) (nameP a) := OkP.ite (fun _ => .pure ha.hd.sz) fun _ => .err
theorem num_u {a : PS} (so : GRat → Bool) (ha : Us a) : OkP (fun r => NumOk r.1 ∧ so r.1 = true) (numP so a) := OkP.ite (fun _ => OkP.ite (fun h => .pure ⟨ha.hd.num, h⟩) fun _ => .err) fun _ => .err
theorem int_u {a : PS} (ha : Us a) : OkP (fun r => okInt .i64 r.1) (intP a) := (num_u intB ha).bnd fun _ h => .pure h.1.ok.1
theorem pow_le {x : GRat} (h : NumOk x ∧ powB1 x = true) : 0 ≤ x.N ∧ x.N ≤ 64 := by
  have := h.2
  unfold powB1 at this
  rw [Bool.and_eq_true, decide_eq_true_iff] at this
  exact ⟨h.1.nn, this.2⟩
theorem power_u {a : PS} (ha : Us a) : OkP (fun r => -64 ≤ r.1 ∧ r.1 ≤ 64) (powerP a) :=
  OkP.ite (fun h => (num_u powB1 (ha.on (is_go h)).1).bnd fun _ h => .pure (by have := pow_le h; dsimp only; omega)) fun _ => (num_u powB1 ha).bnd fun _ h => .pure (by have := pow_le h; dsimp only; omega)
theorem whole_u {n : Int} (h : okInt .i64 n) : (wholeT n).ok := okN all0 (by simp) (hnum := ⟨h, oki (k := 1) (by decide) (by decide)⟩)
abbrev Ok1 : GTree × PS → Prop := fun r => r.1.ok
theorem el_u {a : PS} (ha : Us a) : OkP Ok1 (elP a) :=
  OkP.bnd2 ha (name_go a) (name_u ha) fun r hn h1 _ => OkP.ite (fun hb =>
    have h2 := (h1.on (is_go hb)).1
    OkP.ite (fun _ => OkP.bnd2 h2 (int_go _) (int_u h2) fun i hi h3 _ => OkP.bndU h3 (must_go _ _) fun _ _ _ => .pure (okN (all1 (whole_u hi)) (by simp)))
      fun _ => OkP.bnd2 h2 (name_go _) (name_u h2) fun v hv h3 _ =>
        have he : (tk 2 [partT v.1 []]).ok := okN (all1 (okN all0 (by simp))) (by simp)
        OkP.ite (fun hp => have h4 := (h3.on (is_go hp)).1; OkP.bnd2 h4 (int_go _) (int_u h4) fun i hi h5 _ => OkP.bndU h5 (must_go _ _) fun _ _ _ => .pure (okN (all1 (okN (all2 he (whole_u hi)) (by simp))) (by simp)))
          fun _ => OkP.ite (fun hp => have h4 := (h3.on (is_go hp)).1; OkP.bnd2 h4 (int_go _) (int_u h4) fun i hi h5 _ => OkP.bndU h5 (must_go _ _) fun _ _ _ => .pure (okN (all1 (okN (all2 he (whole_u hi)) (by simp))) (by simp)))
            fun _ => OkP.bndU h3 (must_go _ _) fun _ _ _ => .pure (okN (all1 he) (by simp)))
  fun _ => .pure (okN all0 (by simp))
/-- All of a list may be, and it's no longer than so. -/
abbrev OkL (m : Nat) : List GTree × PS → Prop := fun r => (∀ z ∈ r.1, z.ok) ∧ r.1.length ≤ m
theorem len_app {ks : List GTree} {x : GTree} : (ks ++ [x]).length = ks.length + 1 := by simp
theorem els_u (m : Nat) : ∀ (n : Nat) (ks : List GTree) (a : PS), Us a → (∀ z ∈ ks, z.ok) → ks.length + a.1.length ≤ m → OkP (OkL m) (elsP n ks a)
  | 0, _, _, _, _, _ => .err
  | n + 1, ks, a, ha, hk, hl => OkP.ite (fun h => have g := ha.on (is_go h); OkP.bnd2 g.1 (el_go _) (el_u g.1) fun r hr g1 l1 => els_u m n _ _ g1 (allA hk hr) (by rw [len_app]; omega)) fun _ => .pure ⟨hk, by dsimp only; omega⟩
theorem ref_u {a : PS} (ha : Us a) : OkP Ok1 (refP a) := OkP.bnd2 ha (el_go a) (el_u ha) fun r hr h1 l1 => (els_u 1000001 _ _ _ h1 (all1 hr) (by have := h1.len; simp; omega)).bnd fun q hq => .pure (okN hq.1 (by have := hq.2; omega))
theorem der_u {a : PS} (ha : Us a) : OkP Ok1 (derP a) := OkP.bndU ha (must_go _ a) fun _ h1 _ => OkP.bndU h1 (enter_go _ _) fun _ h2 _ => OkP.bnd2 h2 (ref_go _) (ref_u h2) fun _ ht h3 _ => OkP.bndU h3 (leave_go _ _) fun _ _ _ => .pure (okN (all1 ht) (by simp))
theorem row_u {part : PS → PR GTree} (hg : ∀ a, OkP (Vg 0 1 a) (part a)) (hp : ∀ a, Us a → OkP Ok1 (part a)) (one : ByteArray) {k : Int} (other : ByteArray) {k2 : Int} (hk : -100 ≤ k ∧ k ≤ 100) (hk2 : -100 ≤ k2 ∧ k2 ≤ 100) : ∀ (n : Nat) (x : GTree) (a : PS), Us a → x.ok → OkP Ok1 (rowP part one k other k2 n x a)
  | 0, _, _, _, _ => .err
  | n + 1, x, a, ha, hx => OkP.ite (fun h => have g := ha.on (is_go h); OkP.bnd2 g.1 (hg _) (hp _ g.1) fun r hr h1 _ => row_u hg hp one other hk hk2 n _ _ h1 (okN (all2 hx hr) (by simp) hk))
      fun _ => OkP.ite (fun h => have g := ha.on (is_go h); OkP.bnd2 g.1 (hg _) (hp _ g.1) fun r hr h1 _ => row_u hg hp one other hk hk2 n _ _ h1 (okN (all2 hx hr) (by simp) hk2)) fun _ => .pure hx
theorem rows_u {part : PS → PR GTree} (hg : ∀ a, OkP (Vg 0 1 a) (part a)) (hp : ∀ a, Us a → OkP Ok1 (part a)) (one : ByteArray) {k : Int} (other : ByteArray) {k2 : Int} (hk : -100 ≤ k ∧ k ≤ 100) (hk2 : -100 ≤ k2 ∧ k2 ≤ 100) {a : PS} (ha : Us a) : OkP Ok1 (rowsP part one k other k2 a) :=
  OkP.bnd2 ha (hg a) (hp a ha) fun r hr h1 _ => row_u hg hp one other hk hk2 _ _ _ h1 hr
theorem fnIx_ok (s : ByteArray) : okInt .i64 (fnIx s) := by
  unfold fnIx firstAt
  split
  · rename_i i hi
    have := (List.findIdx?_eq_some_iff_getElem.1 hi).1
    exact oki (by omega) (by simp at this; omega)
  · exact oki (by decide) (by decide)
theorem neg_u : ∀ (n : Nat) (a : PS), Us a → OkP Ok1 (negP n a)
  | 0, _, _ => .err
  | n + 1, a, ha => by
    have ih := neg_u n
    have he : ∀ a, Us a → OkP Ok1 (rowsP (rowsP (negP n) (ByteArray.mk #[42]) 10 (ByteArray.mk #[47]) 11) (ByteArray.mk #[43]) 8 (ByteArray.mk #[45]) 9 a) :=
      fun a h => rows_u (rows_go (neg_go n) _ _ _ _) (fun a h => rows_u (neg_go n) ih _ _ (by decide) (by decide) h) _ _ (by decide) (by decide) h
    have hg : ∀ a, OkP (Vg 0 1 a) (rowsP (rowsP (negP n) (ByteArray.mk #[42]) 10 (ByteArray.mk #[47]) 11) (ByteArray.mk #[43]) 8 (ByteArray.mk #[45]) 9 a) := rows_go (rows_go (neg_go n) _ _ _ _) _ _ _ _
    have key : ∀ x : PR GTree, OkP (Vg 0 0 a) x → OkP Ok1 x → OkP Ok1 (Sim.YtnnfiohdkobkdaaGreatDoor.bnd x fun r => if isP (ByteArray.mk #[94]) r.2 = true then Sim.YtnnfiohdkobkdaaGreatDoor.bnd (powerP (nextP r.2)) fun q => .ok ({ GTree.zero with Kind := 12, N := q.1, Kids := [r.1] }, q.2) else .ok r) := fun x hx hu =>
      OkP.bnd2 ha hx hu fun r hr h1 _ => OkP.ite (fun hb => have g := (h1.on (is_go hb)).1; (power_u g).bnd fun q hq => .pure (okN (all1 hr) (by simp) (hn := oki (by omega) (by omega)))) fun _ => .pure hr
    unfold negP
    refine OkP.ite (fun _ => OkP.bndU ha (enter_go _ _) fun _ h _ => OkP.bnd2 h (neg_go n _) (ih _ h) fun r hr _ _ => .pure (okN (all1 hr) (by simp))) fun _ => key _ ?_ ?_
    · refine OkP.ite (fun _ => (num_go _ _).bnd fun _ h => .pure (h.le (by omega))) fun _ => OkP.ite (fun h => .pure ((is_go h).le (by omega))) fun _ => OkP.ite (fun _ => fun r hr => (der_go a r hr).le (by omega)) fun _ => OkP.ite (fun _ => ?_) fun _ => OkP.ite (fun hk => OkP.ite (fun _ => .err) fun _ => ?_) fun _ => fun r hr => (ref_go a r hr).le (by omega)
      · exact (enter_go _ _).bnd fun _ h => (hg _).bnd fun _ h2 => (leave_go _ _).bnd fun _ h3 => .pure (((h.trans h2).trans h3 |>.cast (by omega)).le (by simp <;> omega))
      · exact (enter_go _ _).bnd fun _ h => (hg _).bnd fun _ h2 => (leave_go _ _).bnd fun _ h3 => .pure (((((next_go (by omega)).trans h).trans h2).trans h3 |>.cast (by omega)).le (by simp <;> omega))
    · refine OkP.ite (fun _ => (num_u decB ha).bnd fun r h => .pure (okN all0 (by simp) (hnum := h.1.ok))) fun _ => OkP.ite (fun h => .pure (okN all0 (by simp))) fun _ => OkP.ite (fun _ => der_u ha) fun _ => OkP.ite (fun _ => ?_) fun _ => OkP.ite (fun hk => OkP.ite (fun _ => .err) fun _ => ?_) fun _ => ref_u ha
      · exact OkP.bndU ha (enter_go _ _) fun _ h _ => OkP.bnd2 h (hg _) (he _ h) fun r hr h2 _ => OkP.bndU h2 (leave_go _ _) fun _ _ _ => .pure hr
      · have g := (ha.on (next_go (a := a) (by omega))).1
        exact OkP.bndU g (enter_go _ _) fun _ h _ => OkP.bnd2 h (hg _) (he _ h) fun r hr h2 _ => OkP.bndU h2 (leave_go _ _) fun _ _ _ => .pure (okN (all1 hr) (by simp) (hn := fnIx_ok _))
theorem expr_u {n : Nat} {a : PS} (ha : Us a) : OkP Ok1 (exprP n a) := rows_u (rows_go (neg_go n) _ _ _ _) (fun _ h => rows_u (neg_go n) (neg_u n) _ _ (by decide) (by decide) h) _ _ (by decide) (by decide) ha
variable {mk : Int → Int → GRat} (hm : ∀ a d : Int, -64 ≤ a → a ≤ 64 → 1 ≤ d → d ≤ 64 → (mk a d).ok)
include hm
theorem up_u : ∀ (n : Nat) (a : PS), Us a → OkP Ok1 (upP mk n a)
  | 0, _, _ => .err
  | n + 1, a, ha => by
    have ih := up_u n
    unfold upP
    refine OkP.bnd2 (k := 0) (d := 0) (S := Ok1) ha ?_ ?_ fun r hr h _ => ?_
    · exact OkP.ite (fun _ => (enter_go _ _).bnd fun _ h => (rows_go (up_go mk n) _ _ _ _ _).bnd fun _ h2 => (leave_go _ _).bnd fun _ h3 => .pure (((h.trans h2).trans h3 |>.cast (by omega)).le (by simp <;> omega)))
        fun _ => OkP.ite (fun _ => (num_go _ _).bnd fun _ h => .pure (h.le (by omega))) fun _ => (name_go _).bnd fun _ h => .pure (h.le (by omega))
    · exact OkP.ite (fun _ => OkP.bndU ha (enter_go _ _) fun _ h _ => OkP.bnd2 h (rows_go (up_go mk n) _ _ _ _ _) (rows_u (up_go mk n) ih _ _ (by decide) (by decide) h) fun r hr h2 _ => OkP.bndU h2 (leave_go _ _) fun _ _ _ => .pure hr)
        fun _ => OkP.ite (fun _ => (num_u oneB1 ha).bnd fun r _ => .pure (okN all0 (by simp))) fun _ => (name_u ha).bnd fun r hr => .pure (okN all0 (by simp))
    · refine OkP.ite (fun hb => have g := (h.on (is_go hb)).1; OkP.ite (fun _ => ?_) fun _ => (power_u g).bnd fun q hq => .pure (okN (all1 hr) (by simp) (hnum := ⟨oki (k := q.1) (by omega) (by omega), oki (k := 1) (by decide) (by decide)⟩))) fun _ => .pure hr
      refine OkP.bndU g (enter_go _ _) fun _ h1 _ => OkP.bnd2 h1 (power_go _) (power_u h1) fun p hp h2 _ => OkP.bndU h2 (must_go _ _) fun _ h3 _ => OkP.bnd2 h3 (num_go _ _) (num_u denB h3) fun d hd h4 _ => OkP.bndU h4 (leave_go _ _) fun _ _ _ => .pure (okN (all1 hr) (by simp) (hnum := ?_))
      have hd2 := hd.2
      unfold denB at hd2
      simp only [Bool.and_eq_true, decide_eq_true_iff] at hd2
      exact hm _ _ hp.1 hp.2 hd2.1.2 hd2.2
theorem dim_u {n : Nat} {a : PS} (ha : Us a) : OkP Ok1 (dimP mk n a) := rows_u (up_go mk n) (up_u hm n) _ _ (by decide) (by decide) ha
theorem kind_u {a : PS} (ha : Us a) : OkP Ok1 (kindP mk a) := OkP.ite (fun h => have g := (ha.on (is_go h)).1; (dim_u hm g).bnd fun r hr => .pure (okN (all1 hr) (by simp))) fun _ => .pure (okN all0 (by simp))
omit hm
theorem array_u {a : PS} (ha : Us a) : OkP (fun r => okInt .i64 r.1) (arrayP a) := OkP.ite (fun h => have g := (ha.on (is_go h)).1; (int_u g).bnd fun r hr => OkP.bnd (S := fun _ => True) (fun _ _ => trivial) fun _ _ => .pure hr) fun _ => .pure (oki (k := 0) (by decide) (by decide))
theorem mods_u (m : Nat) (hm : m ≤ 3000000) : ∀ (n : Nat) (ks : List GTree) (a : PS), Us a → (∀ z ∈ ks, z.ok) → ks.length + a.1.length ≤ m → OkP (OkL m) (modsP n ks a)
  | 0, _, _, _, _, _ => .err
  | n + 1, ks, a, ha, hk, hl => OkP.bnd2 ha (name_go a) (name_u ha) fun v hv h1 l1 => OkP.bndU h1 (must_go _ _) fun _ h2 l2 => OkP.bnd2 h2 (expr_go _ _) (expr_u h2) fun e he h3 l3 =>
      have hks : ∀ z ∈ ks ++ [({ GTree.zero with Kind := 36, Name := v.1, Kids := [e.1] } : GTree)], z.ok := allA hk (okN (all1 he) (by simp))
      OkP.ite (fun hb => have g := h3.on (is_go hb); mods_u m hm n _ _ g.1 hks (by rw [len_app]; omega)) fun _ => .pure ⟨hks, by rw [len_app]; omega⟩
theorem part_u {a : PS} (ha : Us a) : OkP Ok1 (partP a) := OkP.bnd2 ha (name_go a) (name_u ha) fun v hv h1 _ => OkP.bnd2 h1 (array_go _) (array_u h1) fun n hn h2 _ => OkP.bndU h2 (must_go _ _) fun _ h3 _ => OkP.bnd2 h3 (name_go _) (name_u h3) fun al hal h4 _ =>
  OkP.ite (fun _ => OkP.bndU h4 (enter_go _ _) fun b h5 _ => (mods_u 1000001 (by decide) _ _ _ h5 all0 (by have := h5.len; simp; omega)).bnd fun ks hks => OkP.bnd (S := fun _ => True) (fun _ _ => trivial) fun _ _ => .pure (okN (k := 35) (m := 0) (num := GRat.zero) hks.1 (by have := hks.2; omega))) fun _ => .pure (okN (k := 35) (m := 0) (num := GRat.zero) all0 (by simp))
theorem start_u {a : PS} (ha : Us a) : OkP Ok1 (startP a) := OkP.bnd2 (k := 0) (d := 0) (S := Ok1) ha (OkP.ite (fun _ => fun r hr => (der_go a r hr).le (by omega)) fun _ => fun r hr => (ref_go a r hr).le (by omega)) (OkP.ite (fun _ => der_u ha) fun _ => ref_u ha) fun o ho h _ =>
  OkP.ite (fun hb => have g := (h.on (is_go hb)).1; (expr_u g).bnd fun e he => .pure (okN (all3 ho he he) (by simp)))
  fun _ => OkP.bndU h (musts_go _ _) fun _ h1 _ => OkP.bnd2 h1 (expr_go _ _) (expr_u h1) fun x hx h2 _ => OkP.bndU h2 (must_go _ _) fun _ h3 _ => OkP.bnd2 h3 (expr_go _ _) (expr_u h3) fun y hy h4 _ => OkP.bndU h4 (must_go _ _) fun _ _ _ => .pure (okN (all3 ho hx hy) (by simp))
theorem rules_u {rule : PS → PR GTree} (hg : ∀ a, OkP (Vg 0 1 a) (rule a)) (hp : ∀ a, Us a → OkP Ok1 (rule a)) (m : Nat) : ∀ (n : Nat) (ks : List GTree) (a : PS), Us a → (∀ z ∈ ks, z.ok) → ks.length + a.1.length ≤ m → OkP (OkL m) (rulesP rule n ks a)
  | 0, _, _, _, _, _ => .err
  | n + 1, ks, a, ha, hk, hl => OkP.ite (fun _ => .pure ⟨hk, by dsimp only; omega⟩) fun _ => OkP.bnd2 ha (hg a) (hp a ha) fun r hr h1 l1 => rules_u hg hp m n _ _ h1 (allA hk hr) (by rw [len_app]; omega)
theorem rule_u : ∀ (n : Nat) (a : PS), Us a → OkP Ok1 (ruleP n a)
  | 0, _, _ => .err
  | n + 1, a, ha => by
    unfold ruleP
    refine OkP.ite (fun hb => ?_) fun _ => OkP.ite (fun _ => ?_) fun _ => ?_
    · have g := (ha.on (is_go hb)).1
      exact OkP.bndU g (enter_go _ _) fun _ h1 _ => OkP.bnd2 h1 (ref_go _) (ref_u h1) fun x hx h2 _ => OkP.bndU h2 (must_go _ _) fun _ h3 _ => OkP.bnd2 h3 (ref_go _) (ref_u h3) fun y hy h4 _ => OkP.bndU h4 (leave_go _ _) fun _ _ _ => .pure (okN (all2 hx hy) (by simp))
    · exact OkP.bndU ha (enter_go _ _) fun _ h1 _ => OkP.bnd2 h1 (name_go _) (name_u h1) fun v hv h2 _ => OkP.bndU h2 (must_go _ _) fun _ h3 _ => OkP.bnd2 h3 (int_go _) (int_u h3) fun x hx h4 _ => OkP.bndU h4 (must_go _ _) fun _ h5 _ => OkP.bnd2 h5 (int_go _) (int_u h5) fun y hy h6 _ => OkP.bndU h6 (must_go _ _) fun b h7 _ =>
        (rules_u (rule_go n) (rule_u n) 1000001 _ _ _ h7 all0 (by have := h7.len; simp; omega)).bnd fun ks hks => OkP.bnd (S := fun _ => True) (fun _ _ => trivial) fun _ _ => .pure (okN hks.1 (by have := hks.2; omega))
    · exact OkP.bnd2 ha (expr_go _ _) (expr_u ha) fun x hx h1 _ => OkP.bndU h1 (must_go _ _) fun _ h2 _ => OkP.bnd2 h2 (expr_go _ _) (expr_u h2) fun y hy h3 _ => OkP.bndU h3 (must_go _ _) fun _ _ _ => .pure (okN (all2 hx hy) (by simp))
include hm
theorem item_u {a : PS} (ha : Us a) : OkP Ok1 (itemP mk a) := by
  unfold itemP
  refine OkP.ite (fun hb => ?_) fun _ => OkP.ite (fun hb => ?_) fun _ => OkP.ite (fun hb => ?_) fun _ => OkP.ite (fun hb => ?_) fun _ => rule_u _ a ha
  · have g := (ha.on (is_go hb)).1
    exact OkP.bnd2 g (name_go _) (name_u g) fun v hv h1 _ => OkP.bnd2 h1 (kind_go mk _) (kind_u hm h1) fun d hd h2 _ => OkP.bndU h2 (must_go _ _) fun _ h3 _ => OkP.bnd2 h3 (expr_go _ _) (expr_u h3) fun e he h4 _ => OkP.bndU h4 (must_go _ _) fun _ _ _ => .pure (okN (all2 hd he) (by simp))
  · have g := (ha.on (hb.elim is_go is_go : Onw 0 1 a (nextP a))).1
    exact OkP.bnd2 g (name_go _) (name_u g) fun v hv h1 _ => OkP.bnd2 h1 (array_go _) (array_u h1) fun n hn h2 _ => OkP.bnd2 h2 (kind_go mk _) (kind_u hm h2) fun d hd h3 _ => OkP.bndU h3 (must_go _ _) fun _ _ _ => .pure (okN (all1 hd) (by simp))
  · have g := (ha.on (is_go hb)).1
    exact OkP.bnd2 g (part_go _) (part_u g) fun r hr h1 _ => OkP.bndU h1 (must_go _ _) fun _ _ _ => .pure hr
  · have g := (ha.on (is_go hb)).1
    exact OkP.bnd2 g (start_go _) (start_u g) fun r hr h1 _ => OkP.bndU h1 (must_go _ _) fun _ _ _ => .pure hr
theorem items_u (m : Nat) : ∀ (n : Nat) (ks : List GTree) (a : PS), Us a → (∀ z ∈ ks, z.ok) → ks.length + a.1.length ≤ m → OkP (OkL m) (itemsP mk n ks a)
  | 0, _, _, _, _, _ => .err
  | n + 1, ks, a, ha, hk, hl => OkP.ite (fun _ => .pure ⟨hk, by dsimp only; omega⟩) fun _ => OkP.bnd2 ha (item_go mk a) (item_u hm ha) fun r hr h1 l1 => items_u m n _ _ h1 (allA hk hr) (by rw [len_app]; omega)
theorem class_u {k : Int} (hk : okInt .i64 k) {a : PS} (ha : Us a) : OkP Ok1 (classP mk k a) := OkP.bnd2 ha (name_go a) (name_u ha) fun v hv h1 _ => (items_u hm 1000001 _ _ _ h1 all0 (by have := h1.len; simp; omega)).bnd fun ks hks => OkP.bnd (S := fun _ => True) (fun _ _ => trivial) fun _ _ => .pure (okN hks.1 (by have := hks.2; omega))
theorem unit_u {a : PS} (ha : Us a) : OkP Ok1 (unitP mk a) := OkP.bnd2 ha (name_go a) (name_u ha) fun v hv h1 _ => OkP.ite (fun hb => have g := (h1.on (is_go hb)).1; (dim_u hm g).bnd fun d hd => OkP.bnd (S := fun _ => True) (fun _ _ => trivial) fun _ _ => .pure (okN (all1 hd) (by simp)))
  fun _ => OkP.bnd (S := fun _ => True) (fun _ _ => trivial) fun _ _ => .pure (okN all0 (by simp))
theorem files_u (m : Nat) : ∀ (n : Nat) (ks : List GTree) (a : PS), Us a → (∀ z ∈ ks, z.ok) → ks.length + a.1.length ≤ m → OkP (OkL m) (filesP mk n ks a)
  | 0, _, _, _, _, _ => .err
  | n + 1, ks, a, ha, hk, hl => OkP.ite (fun _ => .pure ⟨hk, by dsimp only; omega⟩) fun _ => OkP.ite (fun hb => have g := ha.on (is_go hb); OkP.bnd2 g.1 (unit_go mk _) (unit_u hm g.1) fun r hr h1 l1 => files_u m n _ _ h1 (allA hk hr) (by rw [len_app]; omega))
      fun _ => OkP.ite (fun hb => have g := ha.on (is_go hb); OkP.bnd2 g.1 (class_go mk 1 _) (class_u hm (oki (by decide) (by decide)) g.1) fun r hr h1 l1 => files_u m n _ _ h1 (allA hk hr) (by rw [len_app]; omega))
      fun _ => OkP.ite (fun hb => have g := ha.on (is_go hb); OkP.bnd2 g.1 (class_go mk 2 _) (class_u hm (oki (by decide) (by decide)) g.1) fun r hr h1 l1 => files_u m n _ _ h1 (allA hk hr) (by rw [len_app]; omega)) fun _ => .err
theorem file_u {a : PS} (ha : Us a) : OkP Ok1 (fileP mk a) := (files_u hm 1000001 _ _ _ ha all0 (by have := ha.len; simp; omega)).bnd fun ks hks => .pure (okN hks.1 (by have := hks.2; omega))
end Go.Sim.YtnnfiohdkobkdaaGreatDoor
