/- What is proved: the trees that are read may be (their numbers and lengths are in bounds). -/
import Derived.Test.YtifjflhnfjhijaaGreatDoorZPSParP

namespace Go.Sim.YtifjflhnfjhijaaGreatDoor
open Go.RowKit Go.Proofs Go.Proofs.Tryz
structure qDi (a : GRat) : Prop where
 ok : a.ok
 nn : 0 <= a.N
 dn : a.right = true -> a.D ≠ 0
structure TkOk (t : GToken) : Prop where
 num : qDi t.Num
 sz : t.S.size <= maxLen
structure Us (a : PS) : Prop where
 fin : EndT a.1
 tok : ∀ t ∈ a.1, TkOk t
 len : a.1.length <= 1000000
theorem Us.on {a b : PS} {k : Int} {d : Nat} (h : Us a) (w : Onw k d a b) : Us b /\ b.1.length + d <= a.1.length := by
 obtain ⟨w1, ⟨p, w2⟩, _, w4⟩ := w h.fin
 have := h.len
 exact ⟨⟨w1, fun t ht => h.tok t (by rw [w2]; exact List.mem_append_right _ ht), by omega⟩, w4⟩
theorem Us.hd {a : PS} (h : Us a) : TkOk (hdT a.1) := by
 obtain ⟨p, e, h1, _⟩ := h.fin
 have h2 := h.tok
 cases hs : a.1 with
 | nil => rw [hs] at h1; simp at h1
 | cons t r => rw [hs] at h2; exact h2 t (by simp)
theorem OkP.bnd2 {α β : Type} {S : α × PS -> Prop} {T : β -> Prop} {x : PR α} {f : α × PS -> Except PE β} {k : Int} {d : Nat} {a : PS} (ha : Us a) (hg : OkP (Vg k d a) x) (hu : OkP S x) (kk : ∀ r, S r -> Us r.2 -> r.2.1.length + d <= a.1.length -> OkP T (f r)) : OkP T (Sim.YtifjflhnfjhijaaGreatDoor.bnd x f) := by
 intro b hb
 obtain ⟨r, h1, h2⟩ := qA2.1 hb
 exact kk r (hu r h1) (ha.on (hg r h1)).1 (ha.on (hg r h1)).2 b h2
theorem OkP.bndU {β : Type} {T : β -> Prop} {x : Except PE PS} {f : PS -> Except PE β} {k : Int} {d : Nat} {a : PS} (ha : Us a) (hg : OkP (Onw k d a) x) (kk : ∀ b, Us b -> b.1.length + d <= a.1.length -> OkP T (f b)) : OkP T (Sim.YtifjflhnfjhijaaGreatDoor.bnd x f) := by
 intro b hb
 obtain ⟨r, h1, h2⟩ := qA2.1 hb
 exact kk r (ha.on (hg r h1)).1 (ha.on (hg r h1)).2 b h2
theorem oki {k : Int} (h1 : -9223372036854775808 <= k) (h2 : k <= 9223372036854775807) : qBp .i64 k := by
 have e1 : IntKind.i64.min = -9223372036854775808 := rfl
 have e2 : IntKind.i64.max = 9223372036854775807 := rfl
 exact ⟨by rw [e1]; exact h1, by rw [e2]; exact h2⟩
theorem okN {k n m : Int} {nm al : ByteArray} {fl : Bool} {num : GRat} {ks : List GTree} (hks : ∀ z ∈ ks, z.ok) (hl : ks.length <= 3000000) (hk : -100 <= k /\ k <= 100 := by decide) (hnm : nm.size <= maxLen := by first | assumption | decide) (hal : al.size <= maxLen := by first | assumption | decide)
    (hn : qBp .i64 n := by first | assumption | exact oki (by decide) (by decide)) (hm : qBp .i64 m := by first | assumption | exact oki (by decide) (by decide)) (hnum : num.ok := by first | assumption | exact ⟨oki (by decide) (by decide), oki (by decide) (by decide)⟩) :
    GTree.ok ⟨k, nm, al, n, m, fl, num, ks⟩ := (GTree.ok_iff _).2 ⟨oki (k := k) (by have := hk.1; omega) (by have := hk.2; omega), hnm, hal, hn, hm, hnum, by show ks.length <= maxLen; unfold maxLen; omega, hks⟩
theorem all0 : ∀ z ∈ ([] : List GTree), z.ok := by simp
theorem all1 {x : GTree} (h : x.ok) : ∀ z ∈ [x], z.ok := by simpa using h
theorem all2 {x y : GTree} (h : x.ok) (g : y.ok) : ∀ z ∈ [x, y], z.ok := by simpa using ⟨h, g⟩
theorem all3 {x y w : GTree} (h : x.ok) (g : y.ok) (i : w.ok) : ∀ z ∈ [x, y, w], z.ok := by simpa using ⟨h, g, i⟩
theorem allA {xs : List GTree} {x : GTree} (h : ∀ z ∈ xs, z.ok) (g : x.ok) : ∀ z ∈ xs ++ [x], z.ok := by
 intro z hz
 rcases List.mem_append.1 hz with hz | hz
 ·exact h z hz
 ·rw [List.mem_singleton.1 hz]; exact g
theorem qC5 {a : PS} (ha : Us a) : OkP (fun r => r.1.size <= maxLen) (q7v a) := OkP.ite (fun _ => .pure ha.hd.sz) fun _ => .err
theorem qPn {a : PS} (so : GRat -> Bool) (ha : Us a) : OkP (fun r => qDi r.1 /\ so r.1 = true) (numP so a) := OkP.ite (fun _ => OkP.ite (fun h => .pure ⟨ha.hd.num, h⟩) fun _ => .err) fun _ => .err
theorem qPo {a : PS} (ha : Us a) : OkP (fun r => qBp .i64 r.1) (intP a) := (qPn intB ha).bnd fun _ h => .pure h.1.ok.1
theorem qUf {x : GRat} (h : qDi x /\ qGu x = true) : 0 <= x.N /\ x.N <= 64 := by
 have := h.2
 unfold qGu at this
 rw [Bool.and_eq_true, decide_eq_true_iff] at this
 exact ⟨h.1.nn, this.2⟩
theorem qNk {a : PS} (ha : Us a) : OkP (fun r => -64 <= r.1 /\ r.1 <= 64) (q6m a) :=
 OkP.ite (fun h => (qPn qGu (ha.on (q13 h)).1).bnd fun _ h => .pure (by have := qUf h; dsimp only; omega)) fun _ => (qPn qGu ha).bnd fun _ h => .pure (by have := qUf h; dsimp only; omega)
theorem qNl {n : Int} (h : qBp .i64 n) : (qGi n).ok := okN all0 (by simp) (hnum := ⟨h, oki (k := 1) (by decide) (by decide)⟩)
abbrev Ok1 : GTree × PS -> Prop := fun r => r.1.ok
theorem el_u {a : PS} (ha : Us a) : OkP Ok1 (elP a) :=
 OkP.bnd2 ha (q0q a) (qC5 ha) fun r hn h1 _ => OkP.ite (fun hb =>
  have h2 := (h1.on (q13 hb)).1
  OkP.ite (fun _ => OkP.bnd2 h2 (q6y _) (qPo h2) fun i hi h3 _ => OkP.bndU h3 (q09 _ _) fun _ _ _ => .pure (okN (all1 (qNl hi)) (by simp)))
   fun _ => OkP.bnd2 h2 (q0q _) (qC5 h2) fun v hv h3 _ =>
    have he : (tk 2 [qDg v.1 []]).ok := okN (all1 (okN all0 (by simp))) (by simp)
    OkP.ite (fun hp => have h4 := (h3.on (q13 hp)).1; OkP.bnd2 h4 (q6y _) (qPo h4) fun i hi h5 _ => OkP.bndU h5 (q09 _ _) fun _ _ _ => .pure (okN (all1 (okN (all2 he (qNl hi)) (by simp))) (by simp)))
     fun _ => OkP.ite (fun hp => have h4 := (h3.on (q13 hp)).1; OkP.bnd2 h4 (q6y _) (qPo h4) fun i hi h5 _ => OkP.bndU h5 (q09 _ _) fun _ _ _ => .pure (okN (all1 (okN (all2 he (qNl hi)) (by simp))) (by simp)))
      fun _ => OkP.bndU h3 (q09 _ _) fun _ _ _ => .pure (okN (all1 he) (by simp)))
 fun _ => .pure (okN all0 (by simp))
abbrev OkL (m : Nat) : List GTree × PS -> Prop := fun r => (∀ z ∈ r.1, z.ok) /\ r.1.length <= m
theorem qC6 {ks : List GTree} {x : GTree} : (ks ++ [x]).length = ks.length + 1 := by simp
theorem qXy (m : Nat) : ∀ (n : Nat) (ks : List GTree) (a : PS), Us a -> (∀ z ∈ ks, z.ok) -> ks.length + a.1.length <= m -> OkP (OkL m) (elsP n ks a)
 | 0, _, _, _, _, _ => .err
 | n + 1, ks, a, ha, hk, hl => OkP.ite (fun h => have g := ha.on (q13 h); OkP.bnd2 g.1 (qM7 _) (el_u g.1) fun r hr g1 l1 => qXy m n _ _ g1 (allA hk hr) (by rw [qC6]; omega)) fun _ => .pure ⟨hk, by dsimp only; omega⟩
theorem qRc {a : PS} (ha : Us a) : OkP Ok1 (refP a) := OkP.bnd2 ha (qM7 a) (el_u ha) fun r hr h1 l1 => (qXy 1000001 _ _ _ h1 (all1 hr) (by have := h1.len; simp; omega)).bnd fun q hq => .pure (okN hq.1 (by have := hq.2; omega))
theorem qXz {a : PS} (ha : Us a) : OkP Ok1 (derP a) := OkP.bndU ha (q09 _ a) fun _ h1 _ => OkP.bndU h1 (q0s _ _) fun _ h2 _ => OkP.bnd2 h2 (q6n _) (qRc h2) fun _ ht h3 _ => OkP.bndU h3 (q1k _ _) fun _ _ _ => .pure (okN (all1 ht) (by simp))
theorem qVi {part : PS -> PR GTree} (hg : ∀ a, OkP (Vg 0 1 a) (part a)) (hp : ∀ a, Us a -> OkP Ok1 (part a)) (one : ByteArray) {k : Int} (other : ByteArray) {k2 : Int} (hk : -100 <= k /\ k <= 100) (hk2 : -100 <= k2 /\ k2 <= 100) : ∀ (n : Nat) (x : GTree) (a : PS), Us a -> x.ok -> OkP Ok1 (rowP part one k other k2 n x a)
  | 0, _, _, _, _ => .err
  | n + 1, x, a, ha, hx => OkP.ite (fun h => have g := ha.on (q13 h); OkP.bnd2 g.1 (hg _) (hp _ g.1) fun r hr h1 _ => qVi hg hp one other hk hk2 n _ _ h1 (okN (all2 hx hr) (by simp) hk))
      fun _ => OkP.ite (fun h => have g := ha.on (q13 h); OkP.bnd2 g.1 (hg _) (hp _ g.1) fun r hr h1 _ => qVi hg hp one other hk hk2 n _ _ h1 (okN (all2 hx hr) (by simp) hk2)) fun _ => .pure hx
theorem qKg {part : PS -> PR GTree} (hg : ∀ a, OkP (Vg 0 1 a) (part a)) (hp : ∀ a, Us a -> OkP Ok1 (part a)) (one : ByteArray) {k : Int} (other : ByteArray) {k2 : Int} (hk : -100 <= k /\ k <= 100) (hk2 : -100 <= k2 /\ k2 <= 100) {a : PS} (ha : Us a) : OkP Ok1 (q9q part one k other k2 a) :=
 OkP.bnd2 ha (hg a) (hp a ha) fun r hr h1 _ => qVi hg hp one other hk hk2 _ _ _ h1 hr
theorem qVj (s : ByteArray) : qBp .i64 (fnIx s) := by
 unfold fnIx q3m
 split
 ·rename_i i hi
  have := (List.findIdx?_eq_some_iff_getElem.1 hi).1
  exact oki (by omega) (by simp at this; omega)
 ·exact oki (by decide) (by decide)
theorem qY0 : ∀ (n : Nat) (a : PS), Us a -> OkP Ok1 (negP n a)
 | 0, _, _ => .err
 | n + 1, a, ha => by
  have ih := qY0 n
  have he : ∀ a, Us a -> OkP Ok1 (q9q (q9q (negP n) (ByteArray.mk #[42]) 10 (ByteArray.mk #[47]) 11) (ByteArray.mk #[43]) 8 (ByteArray.mk #[45]) 9 a) :=
   fun a h => qKg (q7e (q9g n) _ _ _ _) (fun a h => qKg (q9g n) ih _ _ (by decide) (by decide) h) _ _ (by decide) (by decide) h
  have hg : ∀ a, OkP (Vg 0 1 a) (q9q (q9q (negP n) (ByteArray.mk #[42]) 10 (ByteArray.mk #[47]) 11) (ByteArray.mk #[43]) 8 (ByteArray.mk #[45]) 9 a) := q7e (q7e (q9g n) _ _ _ _) _ _ _ _
  have key : ∀ x : PR GTree, OkP (Vg 0 0 a) x -> OkP Ok1 x -> OkP Ok1 (Sim.YtifjflhnfjhijaaGreatDoor.bnd x fun r => if isP (ByteArray.mk #[94]) r.2 = true then Sim.YtifjflhnfjhijaaGreatDoor.bnd (q6m (q0i r.2)) fun q => .ok ({ GTree.zero with Kind := 12, N := q.1, Kids := [r.1] }, q.2) else .ok r) := fun x hx hu =>
   OkP.bnd2 ha hx hu fun r hr h1 _ => OkP.ite (fun hb => have g := (h1.on (q13 hb)).1; (qNk g).bnd fun q hq => .pure (okN (all1 hr) (by simp) (hn := oki (by omega) (by omega)))) fun _ => .pure hr
  unfold negP
  refine OkP.ite (fun _ => OkP.bndU ha (q0s _ _) fun _ h _ => OkP.bnd2 h (q9g n _) (ih _ h) fun r hr _ _ => .pure (okN (all1 hr) (by simp))) fun _ => key _ ?_ ?_
  ·refine OkP.ite (fun _ => (q8y _ _).bnd fun _ h => .pure (h.le (by omega))) fun _ => OkP.ite (fun h => .pure ((q13 h).le (by omega))) fun _ => OkP.ite (fun _ => fun r hr => (qId a r hr).le (by omega)) fun _ => OkP.ite (fun _ => ?_) fun _ => OkP.ite (fun hk => OkP.ite (fun _ => .err) fun _ => ?_) fun _ => fun r hr => (q6n a r hr).le (by omega)
   ·exact (q0s _ _).bnd fun _ h => (hg _).bnd fun _ h2 => (q1k _ _).bnd fun _ h3 => .pure (((h.trans h2).trans h3 |>.cast (by omega)).le (by simp <;> omega))
   ·exact (q0s _ _).bnd fun _ h => (hg _).bnd fun _ h2 => (q1k _ _).bnd fun _ h3 => .pure (((((qC3 (by omega)).trans h).trans h2).trans h3 |>.cast (by omega)).le (by simp <;> omega))
  ·refine OkP.ite (fun _ => (qPn decB ha).bnd fun r h => .pure (okN all0 (by simp) (hnum := h.1.ok))) fun _ => OkP.ite (fun h => .pure (okN all0 (by simp))) fun _ => OkP.ite (fun _ => qXz ha) fun _ => OkP.ite (fun _ => ?_) fun _ => OkP.ite (fun hk => OkP.ite (fun _ => .err) fun _ => ?_) fun _ => qRc ha
   ·exact OkP.bndU ha (q0s _ _) fun _ h _ => OkP.bnd2 h (hg _) (he _ h) fun r hr h2 _ => OkP.bndU h2 (q1k _ _) fun _ _ _ => .pure hr
   ·have g := (ha.on (qC3 (a := a) (by omega))).1
    exact OkP.bndU g (q0s _ _) fun _ h _ => OkP.bnd2 h (hg _) (he _ h) fun r hr h2 _ => OkP.bndU h2 (q1k _ _) fun _ _ _ => .pure (okN (all1 hr) (by simp) (hn := qVj _))
theorem qIg {n : Nat} {a : PS} (ha : Us a) : OkP Ok1 (q8i n a) := qKg (q7e (q9g n) _ _ _ _) (fun _ h => qKg (q9g n) (qY0 n) _ _ (by decide) (by decide) h) _ _ (by decide) (by decide) ha
variable {mk : Int -> Int -> GRat} (hm : ∀ a d : Int, -64 <= a -> a <= 64 -> 1 <= d -> d <= 64 -> (mk a d).ok)
include hm
theorem up_u : ∀ (n : Nat) (a : PS), Us a -> OkP Ok1 (upP mk n a)
  | 0, _, _ => .err
  | n + 1, a, ha => by
    have ih := up_u n
    unfold upP
    refine OkP.bnd2 (k := 0) (d := 0) (S := Ok1) ha ?_ ?_ fun r hr h _ => ?_
    · exact OkP.ite (fun _ => (q0s _ _).bnd fun _ h => (q7e (qIe mk n) _ _ _ _ _).bnd fun _ h2 => (q1k _ _).bnd fun _ h3 => .pure (((h.trans h2).trans h3 |>.cast (by omega)).le (by simp <;> omega)))
        fun _ => OkP.ite (fun _ => (q8y _ _).bnd fun _ h => .pure (h.le (by omega))) fun _ => (q0q _).bnd fun _ h => .pure (h.le (by omega))
    · exact OkP.ite (fun _ => OkP.bndU ha (q0s _ _) fun _ h _ => OkP.bnd2 h (q7e (qIe mk n) _ _ _ _ _) (qKg (qIe mk n) ih _ _ (by decide) (by decide) h) fun r hr h2 _ => OkP.bndU h2 (q1k _ _) fun _ _ _ => .pure hr)
        fun _ => OkP.ite (fun _ => (qPn qPm ha).bnd fun r _ => .pure (okN all0 (by simp))) fun _ => (qC5 ha).bnd fun r hr => .pure (okN all0 (by simp))
    · refine OkP.ite (fun hb => have g := (h.on (q13 hb)).1; OkP.ite (fun _ => ?_) fun _ => (qNk g).bnd fun q hq => .pure (okN (all1 hr) (by simp) (hnum := ⟨oki (k := q.1) (by omega) (by omega), oki (k := 1) (by decide) (by decide)⟩))) fun _ => .pure hr
      refine OkP.bndU g (q0s _ _) fun _ h1 _ => OkP.bnd2 h1 (q7j _) (qNk h1) fun p hp h2 _ => OkP.bndU h2 (q09 _ _) fun _ h3 _ => OkP.bnd2 h3 (q8y _ _) (qPn denB h3) fun d hd h4 _ => OkP.bndU h4 (q1k _ _) fun _ _ _ => .pure (okN (all1 hr) (by simp) (hnum := ?_))
      have hd2 := hd.2
      unfold denB at hd2
      simp only [Bool.and_eq_true, decide_eq_true_iff] at hd2
      exact hm _ _ hp.1 hp.2 hd2.1.2 hd2.2
theorem qY1 {n : Nat} {a : PS} (ha : Us a) : OkP Ok1 (dimP mk n a) := qKg (qIe mk n) (up_u hm n) _ _ (by decide) (by decide) ha
theorem qUg {a : PS} (ha : Us a) : OkP Ok1 (qJu mk a) := OkP.ite (fun h => have g := (ha.on (q13 h)).1; (qY1 hm g).bnd fun r hr => .pure (okN (all1 hr) (by simp))) fun _ => .pure (okN all0 (by simp))
omit hm
theorem qRd {a : PS} (ha : Us a) : OkP (fun r => qBp .i64 r.1) (qC1 a) := OkP.ite (fun h => have g := (ha.on (q13 h)).1; (qPo g).bnd fun r hr => OkP.bnd (S := fun _ => True) (fun _ _ => trivial) fun _ _ => .pure hr) fun _ => .pure (oki (k := 0) (by decide) (by decide))
theorem qUh (m : Nat) (hm : m <= 3000000) : ∀ (n : Nat) (ks : List GTree) (a : PS), Us a -> (∀ z ∈ ks, z.ok) -> ks.length + a.1.length <= m -> OkP (OkL m) (qJv n ks a)
  | 0, _, _, _, _, _ => .err
  | n + 1, ks, a, ha, hk, hl => OkP.bnd2 ha (q0q a) (qC5 ha) fun v hv h1 l1 => OkP.bndU h1 (q09 _ _) fun _ h2 l2 => OkP.bnd2 h2 (q15 _ _) (qIg h2) fun e he h3 l3 =>
      have hks : ∀ z ∈ ks ++ [({ GTree.zero with Kind := 36, Name := v.1, Kids := [e.1] } : GTree)], z.ok := allA hk (okN (all1 he) (by simp))
      OkP.ite (fun hb => have g := h3.on (q13 hb); qUh m hm n _ _ g.1 hks (by rw [qC6]; omega)) fun _ => .pure ⟨hks, by rw [qC6]; omega⟩
theorem qY2 {a : PS} (ha : Us a) : OkP Ok1 (qKy a) := OkP.bnd2 ha (q0q a) (qC5 ha) fun v hv h1 _ => OkP.bnd2 h1 (q9h _) (qRd h1) fun n hn h2 _ => OkP.bndU h2 (q09 _ _) fun _ h3 _ => OkP.bnd2 h3 (q0q _) (qC5 h3) fun al hal h4 _ =>
 OkP.ite (fun _ => OkP.bndU h4 (q0s _ _) fun b h5 _ => (qUh 1000001 (by decide) _ _ _ h5 all0 (by have := h5.len; simp; omega)).bnd fun ks hks => OkP.bnd (S := fun _ => True) (fun _ _ => trivial) fun _ _ => .pure (okN (k := 35) (m := 0) (num := GRat.zero) hks.1 (by have := hks.2; omega))) fun _ => .pure (okN (k := 35) (m := 0) (num := GRat.zero) all0 (by simp))
theorem qVk {a : PS} (ha : Us a) : OkP Ok1 (qDp a) := OkP.bnd2 (k := 0) (d := 0) (S := Ok1) ha (OkP.ite (fun _ => fun r hr => (qId a r hr).le (by omega)) fun _ => fun r hr => (q6n a r hr).le (by omega)) (OkP.ite (fun _ => qXz ha) fun _ => qRc ha) fun o ho h _ =>
 OkP.ite (fun hb => have g := (h.on (q13 hb)).1; (qIg g).bnd fun e he => .pure (okN (all3 ho he he) (by simp)))
 fun _ => OkP.bndU h (qD4 _ _) fun _ h1 _ => OkP.bnd2 h1 (q15 _ _) (qIg h1) fun x hx h2 _ => OkP.bndU h2 (q09 _ _) fun _ h3 _ => OkP.bnd2 h3 (q15 _ _) (qIg h3) fun y hy h4 _ => OkP.bndU h4 (q09 _ _) fun _ _ _ => .pure (okN (all3 ho hx hy) (by simp))
theorem qRe {rule : PS -> PR GTree} (hg : ∀ a, OkP (Vg 0 1 a) (rule a)) (hp : ∀ a, Us a -> OkP Ok1 (rule a)) (m : Nat) : ∀ (n : Nat) (ks : List GTree) (a : PS), Us a -> (∀ z ∈ ks, z.ok) -> ks.length + a.1.length <= m -> OkP (OkL m) (q8b rule n ks a)
 | 0, _, _, _, _, _ => .err
 | n + 1, ks, a, ha, hk, hl => OkP.ite (fun _ => .pure ⟨hk, by dsimp only; omega⟩) fun _ => OkP.bnd2 ha (hg a) (hp a ha) fun r hr h1 l1 => qRe hg hp m n _ _ h1 (allA hk hr) (by rw [qC6]; omega)
theorem qUi : ∀ (n : Nat) (a : PS), Us a -> OkP Ok1 (qDh n a)
  | 0, _, _ => .err
  | n + 1, a, ha => by
    unfold qDh
    refine OkP.ite (fun hb => ?_) fun _ => OkP.ite (fun _ => ?_) fun _ => ?_
    · have g := (ha.on (q13 hb)).1
      exact OkP.bndU g (q0s _ _) fun _ h1 _ => OkP.bnd2 h1 (q6n _) (qRc h1) fun x hx h2 _ => OkP.bndU h2 (q09 _ _) fun _ h3 _ => OkP.bnd2 h3 (q6n _) (qRc h3) fun y hy h4 _ => OkP.bndU h4 (q1k _ _) fun _ _ _ => .pure (okN (all2 hx hy) (by simp))
    · exact OkP.bndU ha (q0s _ _) fun _ h1 _ => OkP.bnd2 h1 (q0q _) (qC5 h1) fun v hv h2 _ => OkP.bndU h2 (q09 _ _) fun _ h3 _ => OkP.bnd2 h3 (q6y _) (qPo h3) fun x hx h4 _ => OkP.bndU h4 (q09 _ _) fun _ h5 _ => OkP.bnd2 h5 (q6y _) (qPo h5) fun y hy h6 _ => OkP.bndU h6 (q09 _ _) fun b h7 _ =>
        (qRe (qIf n) (qUi n) 1000001 _ _ _ h7 all0 (by have := h7.len; simp; omega)).bnd fun ks hks => OkP.bnd (S := fun _ => True) (fun _ _ => trivial) fun _ _ => .pure (okN hks.1 (by have := hks.2; omega))
    · exact OkP.bnd2 ha (q15 _ _) (qIg ha) fun x hx h1 _ => OkP.bndU h1 (q09 _ _) fun _ h2 _ => OkP.bnd2 h2 (q15 _ _) (qIg h2) fun y hy h3 _ => OkP.bndU h3 (q09 _ _) fun _ _ _ => .pure (okN (all2 hx hy) (by simp))
include hm
theorem qY3 {a : PS} (ha : Us a) : OkP Ok1 (qFo mk a) := by
 unfold qFo
 refine OkP.ite (fun hb => ?_) fun _ => OkP.ite (fun hb => ?_) fun _ => OkP.ite (fun hb => ?_) fun _ => OkP.ite (fun hb => ?_) fun _ => qUi _ a ha
 ·have g := (ha.on (q13 hb)).1
  exact OkP.bnd2 g (q0q _) (qC5 g) fun v hv h1 _ => OkP.bnd2 h1 (qC4 mk _) (qUg hm h1) fun d hd h2 _ => OkP.bndU h2 (q09 _ _) fun _ h3 _ => OkP.bnd2 h3 (q15 _ _) (qIg h3) fun e he h4 _ => OkP.bndU h4 (q09 _ _) fun _ _ _ => .pure (okN (all2 hd he) (by simp))
 ·have g := (ha.on (hb.elim q13 q13 : Onw 0 1 a (q0i a))).1
  exact OkP.bnd2 g (q0q _) (qC5 g) fun v hv h1 _ => OkP.bnd2 h1 (q9h _) (qRd h1) fun n hn h2 _ => OkP.bnd2 h2 (qC4 mk _) (qUg hm h2) fun d hd h3 _ => OkP.bndU h3 (q09 _ _) fun _ _ _ => .pure (okN (all1 hd) (by simp))
 ·have g := (ha.on (q13 hb)).1
  exact OkP.bnd2 g (qNj _) (qY2 g) fun r hr h1 _ => OkP.bndU h1 (q09 _ _) fun _ _ _ => .pure hr
 ·have g := (ha.on (q13 hb)).1
  exact OkP.bnd2 g (qHg _) (qVk g) fun r hr h1 _ => OkP.bndU h1 (q09 _ _) fun _ _ _ => .pure hr
theorem qRf (m : Nat) : ∀ (n : Nat) (ks : List GTree) (a : PS), Us a -> (∀ z ∈ ks, z.ok) -> ks.length + a.1.length <= m -> OkP (OkL m) (qGj mk n ks a)
 | 0, _, _, _, _, _ => .err
 | n + 1, ks, a, ha, hk, hl => OkP.ite (fun _ => .pure ⟨hk, by dsimp only; omega⟩) fun _ => OkP.bnd2 ha (qKz mk a) (qY3 hm ha) fun r hr h1 l1 => qRf m n _ _ h1 (allA hk hr) (by rw [qC6]; omega)
theorem qRg {k : Int} (hk : qBp .i64 k) {a : PS} (ha : Us a) : OkP Ok1 (qC2 mk k a) := OkP.bnd2 ha (q0q a) (qC5 ha) fun v hv h1 _ => (qRf hm 1000001 _ _ _ h1 all0 (by have := h1.len; simp; omega)).bnd fun ks hks => OkP.bnd (S := fun _ => True) (fun _ _ => trivial) fun _ _ => .pure (okN hks.1 (by have := hks.2; omega))
theorem qY4 {a : PS} (ha : Us a) : OkP Ok1 (qRa mk a) := OkP.bnd2 ha (q0q a) (qC5 ha) fun v hv h1 _ => OkP.ite (fun hb => have g := (h1.on (q13 hb)).1; (qY1 hm g).bnd fun d hd => OkP.bnd (S := fun _ => True) (fun _ _ => trivial) fun _ _ => .pure (okN (all1 hd) (by simp)))
 fun _ => OkP.bnd (S := fun _ => True) (fun _ _ => trivial) fun _ _ => .pure (okN all0 (by simp))
theorem qL0 (m : Nat) : ∀ (n : Nat) (ks : List GTree) (a : PS), Us a -> (∀ z ∈ ks, z.ok) -> ks.length + a.1.length <= m -> OkP (OkL m) (q6x mk n ks a)
  | 0, _, _, _, _, _ => .err
  | n + 1, ks, a, ha, hk, hl => OkP.ite (fun _ => .pure ⟨hk, by dsimp only; omega⟩) fun _ => OkP.ite (fun hb => have g := ha.on (q13 hb); OkP.bnd2 g.1 (qVh mk _) (qY4 hm g.1) fun r hr h1 l1 => qL0 m n _ _ h1 (allA hk hr) (by rw [qC6]; omega))
      fun _ => OkP.ite (fun hb => have g := ha.on (q13 hb); OkP.bnd2 g.1 (qHh mk 1 _) (qRg hm (oki (by decide) (by decide)) g.1) fun r hr h1 l1 => qL0 m n _ _ h1 (allA hk hr) (by rw [qC6]; omega))
      fun _ => OkP.ite (fun hb => have g := ha.on (q13 hb); OkP.bnd2 g.1 (qHh mk 2 _) (qRg hm (oki (by decide) (by decide)) g.1) fun r hr h1 l1 => qL0 m n _ _ h1 (allA hk hr) (by rw [qC6]; omega)) fun _ => .err
theorem qRh {a : PS} (ha : Us a) : OkP Ok1 (qIc mk a) := (qL0 hm 1000001 _ _ _ ha all0 (by have := ha.len; simp; omega)).bnd fun ks hks => .pure (okN hks.1 (by have := hks.2; omega))
end Go.Sim.YtifjflhnfjhijaaGreatDoor
