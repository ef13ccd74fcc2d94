/- What is proved: parse.Parse reads what the plain functions read. -/
import Derived.Test.YtifjflhnfjhijaaGreatDoorZPSPevC
import Derived.Test.YtifjflhnfjhijaaGreatDoorZPSSimS
import Derived.Test.YtifjflhnfjhijaaGreatDoorZPSWL
import Derived.Test.YtifjflhnfjhijaaGreatDoorZPSPureK
import Derived.Test.YtifjflhnfjhijaaGreatDoorZPSWE

namespace Go.Sim.YtifjflhnfjhijaaGreatDoor
open Go.RowKit Go.Proofs Go.Proofs.Tryz
def q7w (mk : Int -> Int -> GRat) (r : List GToken × Int × Int) : GTree × Int × Int :=
 if r.2.1 ≠ 0 then (GTree.zero, r.2.1, r.2.2) else match qIc mk (r.1, 0) with
 | .error e => (GTree.zero, e.1, e.2)
 | .ok t => if 30 < dep t.1 then (GTree.zero, 132, 0) else if 4000 < siz t.1 then (GTree.zero, 2, 0) else (t.1, 0, 0)
theorem qPt (b2 b3 b4 : Nat) (w : World) : CallsD prog 8 ([b2, b3, b4].map fun b => Value.pointer (some ⟨b, 0, none⟩)).toArray .returning w fun e u w' => e = .returned (.tuple #[]) /\ u = .returning /\ w' = w := by
 refine callsD_of_wpS Tryz.func8 rfl fun c₀ cs hu => ?_
 apply wpS_seq
 apply wpS_region
 simp [wpOpsS, go_sem, recoverD, hu, Tryz.ntmps8, Exit.thenS]
 apply wpS_seq
 apply wpS_region
 simp [wpOpsS, go_sem, recoverD, hu, Exit.thenS]
 refine wpS_cond (t := false) (by simp [Act.eval, Array.replicate]) ?_
 simp only [Bool.false_eq_true, if_false]
 refine wpS_of_wp (wp_skip ?_)
 cases c₀
 simp_all [bodyPostS, results, Tryz.results8]
section
variable {mk : Int -> Int -> GRat} (hr : ∀ a : GRat, a.ok -> q43 a a.right) (hm : ∀ a d : Int, -64 <= a -> a <= 64 -> 1 <= d -> d <= 64 -> (mk a d).ok /\ ∃ e, q77 a d (mk a d, e))
include hr hm
theorem qNx {s : ByteArray} {l : List GToken} {e at' : Int} (hlex : qD2 s (l, e, at')) (hl : e = 0 -> Us (l, 0)) : q9k s (q7w mk (l, e, at')) := by
 refine AFn.introD Tryz.func4 rfl rfl (by rw [Tryz.ntmps4]; exact Nat.le_of_ble_eq_true rfl) (by decide +kernel) ?_
 rw [Tryz.ntmps4]
 apply EWp.seq1
 ·refine rN ?_
  refine al0 ?_
  refine al0 ?_
  refine al0 ?_
  exact dn ⟨rfl, rfl⟩
 apply EWp.seq1
 ·refine rW (pG rfl (ca hlex rfl ⟨.inl rfl, trivial⟩ rfl (pU rfl (pS rfl (pI rfl (pI rfl (pS rfl ?_)))))))
  refine st (v := .dat (.v (.int _ _))) ?_
  refine st (v := .dat (.v (.int _ _))) ?_
  exact dn ⟨rfl, rfl⟩
 by_cases he : e ≠ 0
 ·have hy : q7w mk (l, e, at') = (GTree.zero, e, at') := by unfold q7w; rw [if_pos he]
  rw [hy]
  refine EWp.seq q01 (K := fun e' σ => e' = .ret /\ ∃ ds, resL tab σ Tryz.f4.results.toList = some ds /\ fin ds = .tup [GTree.out GTree.zero, .v (.int .i64 e), .v (.int .i64 at')]) ?_ (fun σ' h => by cases h.1) (fun σ' h => h.2) (fun v σ' h => by cases h.1) (fun id σ' h => by cases h.1)
  refine sN (pI rfl (pB rfl (dn ?_)))
  refine AWp.condT (show ev _ _ = _ from ?_) ?_
  ·show AV.dat (.v (.bool (e != 0))) = _
   rw [bne_iff_ne.2 he]
  ·refine AWp.seq (rE [(2, [2]), (3, [3]), (4, [4])] ?_)
   refine pT rfl (pI rfl (pI rfl ?_))
   refine st (v := .dat (.st _ _)) ?_
   refine st (v := .dat (.v (.int _ _))) ?_
   refine st (v := .dat (.v (.int _ _))) ?_
   exact dn (AWp.ret ⟨rfl, _, rfl, rfl⟩)
 ·obtain rfl : e = 0 := Decidable.not_not.1 he
  have U := hl rfl
  apply EWp.seq1
  ·refine sN (pI rfl (pB rfl (dn ?_)))
   exact AWp.condF rfl (AWp.skip ⟨rfl, rfl⟩)
  refine EWp.defer (σ' := mkSt [(2, .pt 1000000 [] 0), (3, .pt 1000001 [] 0), (4, .pt 1000002 [] 0), (5, .dat (.sl 52 5 (List.map GToken.enc l)))] [(1000000, .box 26 te26.size (.dat te26.zero)), (1000001, .box 27 1 (.dat (.v (.int .i64 0)))), (1000002, .box 3 1 (.dat (.v (.int .i64 at'))))])
   [2, 3, 4] rfl rfl rfl rfl rfl rfl rfl (by decide) rfl (by decide) (by decide) (fun i => ?_) (fun i hi => qP0 (by simp; omega)) (fun j hj => qP0 (by simp at hj ⊢; omega)) (fun j c hj => ?_) (qNv rfl) (fun bs hbs => ?_)
  ·rcases qLc (L := [(2, .pt 1000000 [] 0), (3, .pt 1000001 [] 0), (4, .pt 1000002 [] 0), (5, .dat (.sl 52 5 (List.map GToken.enc l)))]) i with h | h
   ·exact .inl h
   ·simp only [List.mem_cons, Prod.mk.injEq, List.not_mem_nil, or_false] at h
    rcases h with ⟨rfl, h⟩ | ⟨rfl, h⟩ | ⟨rfl, h⟩ | ⟨rfl, h⟩
    ·exact .inr (.inr ⟨by decide, 0, 2, h, rfl, rfl⟩)
    ·exact .inr (.inr ⟨by decide, 1, 3, h, rfl, rfl⟩)
    ·exact .inr (.inr ⟨by decide, 2, 4, h, rfl, rfl⟩)
    ·exact .inr (.inl ⟨by decide, _, h, rfl⟩)
  ·match j, hj with
   | 0, hj => cases hj; exact ⟨_, _, _, rfl, rfl⟩
   | 1, hj => cases hj; exact ⟨_, _, _, rfl, rfl⟩
   | 2, hj => cases hj; exact ⟨_, _, _, rfl, rfl⟩
  have hg : Gd l (l, 0) := ⟨⟨[], rfl⟩, U.fin, Int.le_refl 0, show (0 : Int) <= 60 by decide, U.len, U.tok⟩
  have hfile := qTn hr (fun a d h1 h2 h3 h4 => (hm a d h1 h2 h3 h4).2) hg
  have hok := qRh (fun a d h1 h2 h3 h4 => (hm a d h1 h2 h3 h4).1) U
  have hb : boxP l (l, 0) = ⟨l, 0, 0⟩ := by unfold boxP; simp
  have hk : FnOk prog 8 := ⟨_, Tryz.func8, rfl, rfl⟩
  rw [hb] at hfile
  cases hf : qIc mk (l, 0) with
  | error e =>
   rw [hf] at hfile
   have hy : q7w mk (l, 0, at') = (GTree.zero, e.1, e.2) := by unfold q7w; simp [hf]
   rw [hy]
   obtain ⟨b2, b3, b4, rfl⟩ : ∃ b2 b3 b4, bs = [b2, b3, b4] := by
    match bs, hbs with
    | [x, y, z], _ => exact ⟨x, y, z, rfl⟩
   apply EWp.seq1
   ·refine rN (pS rfl (pT rfl ?_))
    refine bx ?_
    exact pP rfl (dn ⟨rfl, rfl⟩)
   refine EWp.panics (cf := fun _ => false) (W := .fn 9) (args := []) (ib := 21) (x := Gparseparser.enc ⟨l, 0, 0⟩) rfl (fun d hd => by cases hd; decide) (pP rfl (dn ⟨rfl, rfl⟩)) rfl ⟨_, _, rfl, rfl⟩ (AFnB.way hfile) rfl (by decide) trivial fun S w0 a w r => ?_
   refine qJa (t1 := 5) (t2 := 3) (σc := mkSt [(0, .pt 1000000 [] 0), (1, .pt 1000001 [] 0), (2, .pt 1000002 [] 0), (3, .dat (.v (stV ⟨e.1, e.2⟩))), (5, .dat (.v (stV ⟨e.1, e.2⟩)))] [(21, .gone), (21, .box 39 3 (.dat (Gparseparser.enc ⟨l, 0, 0⟩))), (1000000, .box 26 te26.size (.dat te26.zero)), (1000001, .box 27 1 (.dat (.v (.int .i64 0)))), (1000002, .box 3 1 (.dat (.v (.int .i64 at'))))])
    (rs := look [(2, .pt 1000000 [] 0), (3, .pt 1000001 [] 0), (4, .pt 1000002 [] 0)])
    (Qc := fun e' σ' => e' = .normal /\ (⟨look [(2, .pt 1000000 [] 0), (3, .pt 1000001 [] 0), (4, .pt 1000002 [] 0)], σ'.obj⟩ : St).Ok /\ (∀ j, j < 3 -> ∃ Ty sz x, σ'.obj (1000000 + j) = some (.box Ty sz x)) /\ ∃ ds, resL tab ⟨look [(2, .pt 1000000 [] 0), (3, .pt 1000001 [] 0), (4, .pt 1000002 [] 0)], σ'.obj⟩ Tryz.f4.results.toList = some ds /\ fin ds = .tup [GTree.out GTree.zero, .v (.int .i64 e.1), .v (.int .i64 e.2)])
    q01 hk Tryz.func8 rfl Tryz.results8 (by rw [Tryz.ntmps8]; decide) (by rw [Tryz.ntmps8]; exact Nat.le_of_ble_eq_true rfl) rfl rfl rfl rfl rfl rfl rfl rfl rfl (by rw [Tryz.ntmps8]; decide) (by rw [Tryz.ntmps8]; decide) rfl (fun i => ?_) (by rfl) (qNv rfl) (fun j hj => ?_) (fun i => ?_) ?_ (fun e' σ' h => ⟨.inl h.1, h.2⟩) r
   ·rcases qLc (L := [(0, .pt 1000000 [] 0), (1, .pt 1000001 [] 0), (2, .pt 1000002 [] 0), (3, .dat (.v (stV ⟨e.1, e.2⟩))), (5, .dat (.v (stV ⟨e.1, e.2⟩)))]) i with h | h
    ·exact .inl h
    ·simp only [List.mem_cons, Prod.mk.injEq, List.not_mem_nil, or_false] at h
     rcases h with ⟨rfl, h⟩ | ⟨rfl, h⟩ | ⟨rfl, h⟩ | ⟨rfl, h⟩ | ⟨rfl, h⟩
     ·exact .inr (.inl ⟨show 0 < 3 by decide, by decide, by decide, h⟩)
     ·exact .inr (.inl ⟨show 1 < 3 by decide, by decide, by decide, h⟩)
     ·exact .inr (.inl ⟨show 2 < 3 by decide, by decide, by decide, h⟩)
     ·exact .inr (.inr ⟨.inr rfl, h⟩)
     ·exact .inr (.inr ⟨.inl rfl, h⟩)
   ·match j, hj with
    | 0, _ => exact ⟨_, _, _, rfl⟩
    | 1, _ => exact ⟨_, _, _, rfl⟩
    | 2, _ => exact ⟨_, _, _, rfl⟩
   ·rcases qLc (L := [(2, .pt 1000000 [] 0), (3, .pt 1000001 [] 0), (4, .pt 1000002 [] 0)]) i with h | h
    ·exact .inl h
    ·simp only [List.mem_cons, Prod.mk.injEq, List.not_mem_nil, or_false] at h
     rcases h with ⟨rfl, h⟩ | ⟨rfl, h⟩ | ⟨rfl, h⟩
     ·exact .inr ⟨0, show 0 < 3 by decide, h, rfl⟩
     ·exact .inr ⟨1, show 1 < 3 by decide, h, rfl⟩
     ·exact .inr ⟨2, show 2 < 3 by decide, h, rfl⟩
   ·rw [Tryz.ntmps8]
    refine AWp.seq (rN (pW rfl (AOps.notnil rfl rfl rfl (by unfold Program.isIface; rw [Tryz.underlying20]) rfl (dn ?_))))
    refine AWp.condT rfl ?_
    refine AWp.seq (rW (pW rfl ?_))
    refine AOps.assert2 rfl rfl rfl Tryz.underlying36 rfl ?_
    refine al0 ?_
    refine st (v := .dat (.st _ _)) (dn ?_)
    refine rE [(0, [1000000]), (1, [1000001]), (2, [1000002]), (4, [4]), (11, [4]), (13, [4])] ?_
    refine pT rfl (pP rfl (pI rfl (pP rfl (pI rfl ?_))))
    refine st (v := .dat (.st _ _)) ?_
    refine st (v := .dat (.v (.int _ _))) ?_
    refine st (v := .dat (.v (.int _ _))) (dn ?_)
    refine ⟨rfl, qNv (L := [(2, .pt 1000000 [] 0), (3, .pt 1000001 [] 0), (4, .pt 1000002 [] 0)]) rfl, fun j hj => ?_, _, rfl, rfl⟩
    match j, hj with
    | 0, _ => exact ⟨_, _, _, rfl⟩
    | 1, _ => exact ⟨_, _, _, rfl⟩
    | 2, _ => exact ⟨_, _, _, rfl⟩
  | ok t =>
   rw [hf] at hfile
   have hto : t.1.ok := hok t hf
   obtain ⟨b2, b3, b4, rfl⟩ : ∃ b2 b3 b4, bs = [b2, b3, b4] := by
    match bs, hbs with
    | [x, y, z], _ => exact ⟨x, y, z, rfl⟩
   refine EWp.done q01 hk ?_ (fun w => qPt b2 b3 b4 w)
   refine sN (pS rfl (pT rfl ?_))
   refine bx ?_
   refine pP rfl (dn ?_)
   refine AWp.seq (AWp.regionN (fun o => q00 [9] o) rfl ?_)
   refine pP rfl ?_
   refine AOps.callB hfile rfl rfl rfl rfl rfl rfl trivial ?_
   refine st (v := .dat (GTree.out t.1)) ?_
   refine dn ?_
   refine AWp.seq (sN (pW rfl (ca (qR8 30 t.1 hto (by decide)) rfl ⟨.inl rfl, .inl rfl, trivial⟩ rfl (dn ?_))))
   by_cases h30 : 30 < dep t.1
   ·have hy : q7w mk (l, 0, at') = (GTree.zero, 132, 0) := by unfold q7w; simp [hf, h30]
    refine AWp.condT (show ev _ _ = _ from ?_) ?_
    ·show AV.dat (.v (.bool (decide (30 < dep t.1)))) = _
     rw [decide_eq_true h30]
    refine AWp.seq ?_
    refine rW ?_
    refine pT rfl ?_
    refine st (v := .dat (.st _ _)) ?_
    refine st (v := .dat (.v (.int _ _))) ?_
    refine st (v := .dat (.v (.int _ _))) ?_
    exact dn (AWp.ret ⟨_, rfl, by rw [hy]; rfl⟩)
   ·refine AWp.condF (show AV.dat (.v (.bool (decide (30 < dep t.1)))) = _ by rw [decide_eq_false h30]) (AWp.skip ?_)
    refine AWp.seq (sN (pW rfl (ca (qOo 4000 t.1 hto (by decide)) rfl ⟨.inl rfl, .inl rfl, trivial⟩ rfl (pB rfl (dn ?_)))))
    by_cases h4 : 4000 < siz t.1
    ·have hy : q7w mk (l, 0, at') = (GTree.zero, 2, 0) := by unfold q7w; simp [hf, h30, h4]
     refine AWp.condT (show ev _ _ = _ from ?_) ?_
     ·show AV.dat (.v (.bool (decide (((min (siz t.1) 4001 : Nat) : Int) > 4000)))) = _
      rw [decide_eq_true (by omega)]
     refine AWp.seq ?_
     refine rW ?_
     refine pT rfl ?_
     refine st (v := .dat (.st _ _)) ?_
     refine st (v := .dat (.v (.int _ _))) ?_
     refine st (v := .dat (.v (.int _ _))) ?_
     exact dn (AWp.ret ⟨_, rfl, by rw [hy]; rfl⟩)
    ·have hy : q7w mk (l, 0, at') = (t.1, 0, 0) := by unfold q7w; simp [hf, h30, h4]
     refine AWp.condF (show ev _ _ = _ from ?_) (AWp.skip ?_)
     ·show AV.dat (.v (.bool (decide (((min (siz t.1) 4001 : Nat) : Int) > 4000)))) = _
      rw [decide_eq_false (by omega)]
     refine AWp.seq ?_
     refine rW ?_
     refine pW rfl ?_
     refine st (v := .dat (GTree.out t.1)) ?_
     refine st (v := .dat (.v (.int _ _))) ?_
     refine st (v := .dat (.v (.int _ _))) ?_
     exact dn (AWp.ret ⟨_, rfl, by rw [hy]; rfl⟩)
end
end Go.Sim.YtifjflhnfjhijaaGreatDoor

/- What is proved: texts as lists of bytes: what stands at places, and how many of the first are so. -/
namespace Go.Sim.YtifjflhnfjhijaaGreatDoor
open Go.RowKit Go.Proofs Go.Proofs.Tryz
def tl (s : ByteArray) (p : Nat) : List UInt8 := s.data.toList.drop p
theorem q90 (s : ByteArray) (p : Nat) : (tl s p).length = s.size - p := by unfold tl; rw [List.length_drop]; rfl
theorem q5n (s : ByteArray) (p n : Nat) : (tl s p).drop n = tl s (p + n) := by unfold tl; rw [List.drop_drop]
theorem qRu (s : ByteArray) (p n : Nat) : (tl s p)[n]? = s.data.toList[p + n]? := by unfold tl; rw [List.getElem?_drop]
theorem qUu {s : ByteArray} {p : Nat} (h : s.size <= p) : tl s p = [] := by
 apply List.eq_nil_of_length_eq_zero; rw [q90]; omega
theorem qNy {s : ByteArray} {p : Nat} (h : p < s.size) : ∃ b, s[p]? = some b /\ tl s p = b :: tl s (p + 1) := by
 have h' : p < s.data.toList.length := h
 refine ⟨s.data.toList[p], ?_, ?_⟩
 ·show (if hh : p < s.size then some s[p] else none) = _
  rw [dif_pos h]; rfl
 ·unfold tl; exact List.drop_eq_getElem_cons h'
theorem AtS.nat {s : ByteArray} {p : Nat} {b : UInt8} {k : Int -> Prop} (h : s[p]? = some b) (hk : k ((b.toNat : Nat) : Int)) : AtS s (p : Int) k := ⟨by omega, b, by rw [Int.toNat_natCast]; exact h, hk⟩
def span (f : Int -> Bool) : List UInt8 -> Nat
 | [] => 0
 | b :: l => if f (b.toNat : Int) = true then span f l + 1 else 0
theorem q1o (f : Int -> Bool) : ∀ l, span f l <= l.length
 | [] => Nat.le_refl _
 | b :: l => by unfold span; have := q1o f l; split <;> simp <;> omega
def peek (l : List UInt8) (n : Nat) : Int := match l[n]? with | some b => (b.toNat : Int) | none => 0
def q05 (c : Int) : Bool := decide (c >= 48) && decide (c <= 57)
def bs (l : List UInt8) : ByteArray := ⟨l.toArray⟩
theorem q0f (l : List UInt8) : (bs l).size = l.length := by show l.toArray.size = _; simp
theorem qPu {s : ByteArray} {p n : Nat} : s.extract p (p + n) = bs ((tl s p).take n) := by
 apply ByteArray.ext
 rw [ByteArray.data_extract]
 unfold bs tl
 apply Array.toList_inj.1
 rw [Array.toList_extract, List.extract_eq_take_drop, show p + n - p = n from Nat.add_sub_cancel_left ..]
theorem SlS.tl {s : ByteArray} {p n : Nat} {k : ByteArray -> Prop} (h : p + n <= s.size) (hk : k (bs ((tl s p).take n))) : SlS s (p : Int) ((p + n : Nat) : Int) k := by
 refine ⟨by omega, by omega, by omega, ?_⟩
 rw [Int.toNat_natCast, Int.toNat_natCast, qPu]
 exact Let.as _ rfl hk
theorem qVu {s : ByteArray} {p n : Nat} (h : peek (tl s p) n ≠ 0) : p + n < s.size := by
 unfold peek at h
 cases hg : (tl s p)[n]? with
 | none => simp [hg] at h
 | some b =>
  have := (List.getElem?_eq_some_iff.1 hg).1
  rw [q90] at this; omega
theorem q91 (l : List UInt8) (a n : Nat) : peek (l.drop a) n = peek l (a + n) := by unfold peek; rw [List.getElem?_drop]
theorem q8k {l : List UInt8} {n : Nat} (h : peek l n ≠ 0) : n < l.length := by
 unfold peek at h
 cases hg : l[n]? with
 | none => simp [hg] at h
 | some b => exact (List.getElem?_eq_some_iff.1 hg).1
end Go.Sim.YtifjflhnfjhijaaGreatDoor
