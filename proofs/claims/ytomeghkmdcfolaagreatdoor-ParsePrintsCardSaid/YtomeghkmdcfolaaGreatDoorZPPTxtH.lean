/- What is proved: what the reference writes of expressions and dimensions. -/
import Derived.Test.YtomeghkmdcfolaaGreatDoorZPPTxtF
import Derived.Test.YtomeghkmdcfolaaGreatDoorZPPSimK

namespace Go.Sim.YtomeghkmdcfolaaGreatDoor
open Go.RowKit Go.Proofs Go.Proofs.Tryz
theorem map_at {ks : List GTree} {i : Nat} {x : GTree} (h : ks[i]? = some x) : (ks.map txt)[i]? = some (txt x) := by rw [List.getElem?_map, h]; rfl
theorem ropt_ev {ks : List GTree} {sep : List UInt8} {s : ByteArray} (hs : s = bs sep) (hl : sep.length <= 4) (h1 : ks.length <= 1) (h : ∀ k ∈ ks, TX k /\ k.Kind ≠ 36) : Ev_ref13_opt ks s (bs (jn [] ((ks.map txt).map fun x => sep ++ x))) := by
 refine walk_ref13_opt ?_
 unfold W_ref13_opt
 match ks, h1, h with
 | [], _, _ => exact Br.eT rfl rfl
 | [a], _, h =>
  obtain ⟨xa, ka⟩ := h a (by simp)
  have la := xa.len
  refine Br.eF (by simp) (At.k0 rfl (Call.mk (xa.rt ka) (Cat.l hs rfl (by omega) ?_)))
  show bs _ = bs _
  simp [jn, jtl]
 | a :: b :: r, h1, _ => simp at h1
theorem rlines_ev {ks : List GTree} (hl : ks.length <= 4000) (hn : sumL (ks.map txt) <= 800000) (h : ∀ k ∈ ks, TX k /\ k.Kind ≠ 36) : Ev_ref13_lines ks (bs (jn [] ((ks.map txt).map fun x => x ++ [10]))) := by
 have hm : maxLen = 9223372036854775807 := rfl
 obtain ⟨L, hL⟩ : ∃ L, L = (ks.map txt).map fun x => x ++ ([10] : List UInt8) := ⟨_, rfl⟩
 have hlen : ∀ i, (jn [] (L.take i)).length <= 800000 := fun i => by
  rw [hL, ← List.map_take]
  have := jn_map_len (f := fun x => x ++ ([10] : List UInt8)) (by intro s; simp) ((ks.map txt).take i)
  have := sumL_take (ks.map txt) i
  omega
 refine walk_ref13_lines ?_
 unfold W_ref13_lines
 rw [← hL]
 refine Loop2.up ks.length (fun i s => s = bs (jn [] (L.take i))) rfl ?_
 rintro i _ k hi rfl hk
 have hli := hlen i
 refine Br.d (fun hlt => At.nat (by omega) fun x hx => ?_) (fun hge => ?_)
 ·obtain ⟨xx, kx⟩ := h x (List.mem_of_getElem? hx)
  have lx := xx.len
  refine Call.mk (xx.rt kx) (Cat.l rfl rfl (by omega) (Cat.l rfl rfl (by simp only [List.length_append, List.length_cons, List.length_nil]; omega) (Let.as _ (wi1 (by omega)) (hk _ (by omega) ?_))))
  have hLi : L[i]? = some (txt x ++ [10]) := by rw [hL, List.getElem?_map, map_at hx]; rfl
  rw [jn_take' hLi, List.append_assoc]
 ·have : L.take i = L := List.take_of_length_le (by rw [hL, List.length_map, List.length_map]; omega)
  show bs _ = bs _
  rw [this]
theorem rlow_ev {t : GTree} (c : TC t) (hlow : lowK t) : Ev_ref13_low t (bs (txt t)) := by
  obtain ⟨ht, ho, hkn, hsum, ih⟩ := c
  have hm : maxLen = 9223372036854775807 := rfl
  have hnm := one_names ho
  have lN : (lst t.Name).length <= 24 := hnm.1
  obtain ⟨_, _, _, kN, kM, kR, _⟩ := (GTree.ok_iff t).1 ht
  have iN := itoa_len (inI_of kN)
  have qN := itoa_len (rat_inI kR).1
  have qD := itoa_len (rat_inI kR).2
  have eN : t.Name = bs (lst t.Name) := (bs_lst _).symm
  have hT := txt_eq t
  have hlow' := hlow
  unfold lowK at hlow'
  refine walk_ref13_low ?_
  unfold W_ref13_low
  refine Br.e (fun hk => ?_) (fun k1 => ?_)
  · refine Call.mk (rdecimal_ev kR (one_dec ho hk).1) ?_
    rw [hT]; simp [nodeT, lowT, hk]
  refine Br.e (fun hk => ?_) (fun k2 => ?_)
  · have h := one_at ho (s := ⟨false, false, false, 0, 0, 0, plusB (isKs [3]), noNum⟩) (by rw [hk]; rfl)
    have hks := (plus_of h.1).2
    have hlen := jn_take_len (sep := [46]) (by decide) (t.Kids.map txt)
    refine Loop2.up t.Kids.length (fun i s => s = bs (jn [46] ((t.Kids.map txt).take i))) rfl ?_
    rintro i _ k hi rfl hkk
    have hli := hlen i
    refine Br.d (fun hlt => ?_) (fun hge => ?_)
    · have hx : t.Kids[i]? = some (t.Kids[i]'(by omega)) := List.getElem?_eq_getElem _
      obtain ⟨x, hxe⟩ : ∃ x, x = t.Kids[i]'(by omega) := ⟨_, rfl⟩
      rw [← hxe] at hx
      have xx := ih x (List.mem_of_getElem? hx)
      have lx := xx.len
      have kx := isK1 (hks x (List.mem_of_getElem? hx))
      refine ⟨fun s => s = bs (jn [46] ((t.Kids.map txt).take i) ++ (if i = 0 then [] else [46])), Br.d (fun h0 => Cat.l rfl rfl (by simp only [List.length_cons, List.length_nil]; omega) ?_) (fun h0 => ?_), ?_⟩
      · rw [if_neg (by omega)]
      · rw [if_pos (by omega), List.append_nil]
      rintro _ rfl
      have hi2 : (if i = 0 then ([] : List UInt8) else [46]).length <= 1 := by split <;> simp
      refine ⟨by omega, x, by rw [Int.toNat_natCast]; exact hx, Call.mk (xx.rl (by unfold lowK; omega)) (Cat.l rfl rfl (by simp only [List.length_append]; omega) (Let.as _ (wi1 (by omega)) (hkk _ (by omega) ?_)))⟩
      by_cases h0 : i = 0
      · subst h0
        rw [jn_take0 (map_at hx)]; simp [jn]
      · rw [jn_take (map_at hx) (by omega), if_neg h0, List.append_assoc]
    · have e1 : (t.Kids.map txt).take i = t.Kids.map txt := List.take_of_length_le (by rw [List.length_map]; omega)
      show bs _ = bs _
      rw [e1, hT]; simp [nodeT, lowT, hk]
  refine Br.e (fun hk => ?_) (fun k3 => ?_)
  · have h := one_at ho (s := ⟨true, false, false, 0, 0, 0, optB ixR, noNum⟩) (by rw [hk]; rfl)
    obtain ⟨hl1, hks⟩ := opt_of h.1
    refine Br.e (fun h0 => ?_) (fun h0 => ?_)
    · have e0 : t.Kids = [] := List.eq_nil_of_length_eq_zero (by omega)
      show _ = _
      rw [hT, e0]; simp [nodeT, lowT, hk, jn]; exact eN
    · have hh : ∃ a, t.Kids = [a] := by
        match hkk : t.Kids with
        | [a] => exact ⟨a, rfl⟩
        | [] => rw [hkk] at h0; simp at h0
        | _ :: _ :: _ => rw [hkk] at hl1; simp at hl1
      obtain ⟨a, hka⟩ := hh
      have xa := ih a (by rw [hka]; simp)
      have la := xa.len
      have pa := isE_low (ixR_E (hks a (by rw [hka]; simp)))
      refine Cat.l eN rfl (by simp only [List.length_cons, List.length_nil]; omega) (At.k0 hka (Call.mk (xa.rt (low_ne pa)) (Cat.l rfl rfl (by simp only [List.length_append, List.length_cons, List.length_nil]; omega) (Cat.l rfl rfl (by simp only [List.length_append, List.length_cons, List.length_nil]; omega) ?_))))
      rw [hT, hka]; simp [nodeT, lowT, hk, jn, jtl]
  refine Br.e (fun hk => ?_) (fun k4 => ?_)
  · have h := one_at ho (s := ⟨false, false, false, 0, 0, 0, eachB [isKs [2]], noNum⟩) (by rw [hk]; rfl)
    obtain ⟨a, hks, pa⟩ := each1 h.1
    have xa := ih a (by rw [hks]; simp)
    have la := xa.len
    refine At.k0 hks (Call.mk (xa.rt (by have := isK1 pa; omega)) (Cat.l rfl rfl (by simp only [List.length_cons, List.length_nil]; omega) (Cat.l rfl rfl (by simp only [List.length_append, List.length_cons, List.length_nil]; omega) ?_)))
    rw [hT]; simp [nodeT, lowT, hk, hks, gt]
  refine Br.e (fun hk => ?_) (fun k5 => ?_)
  · show _ = _
    rw [hT]; simp [nodeT, lowT, hk]; rfl
  refine Br.e (fun hk => ?_) (fun k6 => ?_)
  · have h := one_at ho (s := ⟨false, false, false, 9, 14, 0, eachB [isE], noNum⟩) (by rw [hk]; rfl)
    obtain ⟨a, hks, pa⟩ := each1 h.1
    have xa := ih a (by rw [hks]; simp)
    have la := xa.len
    have h1 := h.2.2.1
    have h2 := h.2.2.2.1
    simp only at h1 h2
    have hw : ∃ x, [(ByteArray.mk #[115, 113, 114, 116]), (ByteArray.mk #[101, 120, 112]), (ByteArray.mk #[108, 111, 103]), (ByteArray.mk #[115, 105, 110]), (ByteArray.mk #[99, 111, 115]), (ByteArray.mk #[97, 116, 97, 110])][(t.N - 9).toNat]? = some x /\ x = bs (fnL t.N) := by
      have : t.N = 9 \/ t.N = 10 \/ t.N = 11 \/ t.N = 12 \/ t.N = 13 \/ t.N = 14 := by omega
      rcases this with e | e | e | e | e | e <;> (rw [e]; exact ⟨_, rfl, rfl⟩)
    obtain ⟨x, hx1, hx2⟩ := hw
    have fl := fnL_len t.N
    refine Let.as (t.N - 9) (by rw [wi (by omega) (by omega)]) ⟨by omega, x, hx1, Cat.l hx2 rfl (by simp only [List.length_cons, List.length_nil]; omega) (At.k0 hks (Call.mk (xa.rt (low_ne (isE_low pa))) (Cat.l rfl rfl (by simp only [List.length_append, List.length_cons, List.length_nil]; omega) (Cat.l rfl rfl (by simp only [List.length_append, List.length_cons, List.length_nil]; omega) ?_))))⟩
    rw [hT]; simp [nodeT, lowT, hk, hks, gt]
  refine Br.e (fun hk => ?_) (fun k7 => ?_)
  · have h := one_at ho (s := ⟨false, false, false, 0, 0, 0, eachB [isE], noNum⟩) (by rw [hk]; rfl)
    obtain ⟨a, hks, pa⟩ := each1 h.1
    have xa := ih a (by rw [hks]; simp)
    have la := xa.len
    have l0 := opL_len a (txt a)
    refine At.k0 hks (Call.mk (within_ev xa (isE_low pa)) (Cat.l rfl rfl (by simp only [List.length_cons, List.length_nil]; omega) ?_))
    rw [hT]; simp [nodeT, lowT, hk, hks, gt, op, gk]
  have h2 : ∀ k : Int, t.Kind = k -> (spec ixR k = some ⟨false, false, false, 0, 0, 0, eachB [isE, isE], noNum⟩ \/ spec ixR k = some ⟨false, false, false, 0, 0, 0, eachB [isD, isD], noNum⟩) -> ∃ a b, t.Kids = [a, b] /\ TX a /\ TX b /\ lowK a /\ lowK b := by
    rintro k rfl (hs | hs)
    · obtain ⟨a, b, hks, pa, pb⟩ := each2 (one_at ho hs).1
      exact ⟨a, b, hks, ih a (by rw [hks]; simp), ih b (by rw [hks]; simp), isE_low pa, isE_low pb⟩
    · obtain ⟨a, b, hks, pa, pb⟩ := each2 (one_at ho hs).1
      exact ⟨a, b, hks, ih a (by rw [hks]; simp), ih b (by rw [hks]; simp), isD_low pa, isD_low pb⟩
  refine ⟨fun b => b = decide (8 <= t.Kind /\ t.Kind <= 11), Br.e (fun hk => ?_) (fun k8 => Br.e (fun hk => ?_) (fun k9 => Br.e (fun hk => ?_) (fun k10 => ?_))), ?_⟩
  · show _ = _; rw [Bool.eq_iff_iff]; simp [hk]
  · show _ = _; rw [Bool.eq_iff_iff]; simp [hk]
  · show _ = _; rw [Bool.eq_iff_iff]; simp [hk]
  · show _ = _; rw [Bool.eq_iff_iff]; simp; omega
  rintro _ rfl
  refine Br.d (fun hk => ?_) (fun k811 => ?_)
  · have hh : ∃ a b, t.Kids = [a, b] /\ TX a /\ TX b /\ lowK a /\ lowK b := by
      have : t.Kind = 8 \/ t.Kind = 9 \/ t.Kind = 10 \/ t.Kind = 11 := by omega
      rcases this with e | e | e | e
      · exact h2 8 e (.inl rfl)
      · exact h2 9 e (.inl rfl)
      · exact h2 10 e (.inl rfl)
      · exact h2 11 e (.inl rfl)
    obtain ⟨a, b, hks, xa, xb, pa, pb⟩ := hh
    have la := xa.len
    have lb := xb.len
    have l0 := opL_len a (txt a)
    have l1 := opL_len b (txt b)
    have hw : ∃ x sg, [(ByteArray.mk #[32, 43, 32]), (ByteArray.mk #[32, 45, 32]), (ByteArray.mk #[32, 42, 32]), (ByteArray.mk #[32, 47, 32])][(t.Kind - 8).toNat]? = some x /\ x = bs sg /\ sg.length <= 3 /\ txt t = opL a (txt a) ++ (sg ++ opL b (txt b)) := by
      have : t.Kind = 8 \/ t.Kind = 9 \/ t.Kind = 10 \/ t.Kind = 11 := by omega
      rcases this with e | e | e | e
      · exact ⟨_, [32, 43, 32], by rw [e]; rfl, rfl, by decide, by rw [hT]; simp [nodeT, lowT, e, hks, gt, op, gk]⟩
      · exact ⟨_, [32, 45, 32], by rw [e]; rfl, rfl, by decide, by rw [hT]; simp [nodeT, lowT, e, hks, gt, op, gk]⟩
      · exact ⟨_, [32, 42, 32], by rw [e]; rfl, rfl, by decide, by rw [hT]; simp [nodeT, lowT, e, hks, gt, op, gk]⟩
      · exact ⟨_, [32, 47, 32], by rw [e]; rfl, rfl, by decide, by rw [hT]; simp [nodeT, lowT, e, hks, gt, op, gk]⟩
    obtain ⟨x, sg, hx1, hx2, hx3, hx4⟩ := hw
    refine At.k0 hks (Call.mk (within_ev xa pa) (Let.as (t.Kind - 8) (by rw [wi (by omega) (by omega)]) ⟨by omega, x, hx1, Cat.l rfl hx2 (by omega) (At.k1 hks (Call.mk (within_ev xb pb) (Cat.l rfl rfl (by simp only [List.length_append]; omega) ?_)))⟩))
    rw [hx4, List.append_assoc]
  refine Br.e (fun hk => ?_) (fun k12 => ?_)
  · have h := one_at ho (s := ⟨false, false, false, -64, 64, 0, eachB [isE], noNum⟩) (by rw [hk]; rfl)
    obtain ⟨a, hks, pa⟩ := each1 h.1
    have xa := ih a (by rw [hks]; simp)
    have la := xa.len
    have l0 := opL_len a (txt a)
    refine At.k0 hks (Call.mk (within_ev xa (isE_low pa)) (Cat.l rfl rfl (by simp only [List.length_cons, List.length_nil]; omega) (Call.mk (num_ev (inI_of kN)) (Cat.l rfl rfl (by simp only [List.length_append, List.length_cons, List.length_nil]; omega) ?_))))
    rw [hT]; simp [nodeT, lowT, hk, hks, gt, op, gk]
  refine Br.e (fun hk => ?_) (fun k20 => ?_)
  · show _ = _
    rw [hT]; simp [nodeT, lowT, hk]; rfl
  refine Br.e (fun hk => ?_) (fun k21 => ?_)
  · show _ = _
    rw [hT]; simp [nodeT, lowT, hk]; exact eN
  refine ⟨fun b => b = decide (t.Kind = 22 \/ t.Kind = 23), Br.e (fun hk => ?_) (fun k22 => ?_), ?_⟩
  · show _ = _; rw [Bool.eq_iff_iff]; simp [hk]
  · show _ = _; rw [Bool.eq_iff_iff]; simp [k22]
  rintro _ rfl
  refine Br.d (fun hk => ?_) (fun k22 => ?_)
  · have hh : ∃ a b, t.Kids = [a, b] /\ TX a /\ TX b /\ lowK a /\ lowK b := hk.elim (fun h => h2 22 h (.inr rfl)) (fun h => h2 23 h (.inr rfl))
    obtain ⟨a, b, hks, xa, xb, pa, pb⟩ := hh
    have la := xa.len
    have lb := xb.len
    have l0 := opL_len a (txt a)
    have l1 := opL_len b (txt b)
    have hw : ∃ x sg, [(ByteArray.mk #[32, 42, 32]), (ByteArray.mk #[32, 47, 32])][(t.Kind - 22).toNat]? = some x /\ x = bs sg /\ sg.length <= 3 /\ txt t = opL a (txt a) ++ (sg ++ opL b (txt b)) := by
      rcases hk with e | e
      · exact ⟨_, [32, 42, 32], by rw [e]; rfl, rfl, by decide, by rw [hT]; simp [nodeT, lowT, e, hks, gt, op, gk]⟩
      · exact ⟨_, [32, 47, 32], by rw [e]; rfl, rfl, by decide, by rw [hT]; simp [nodeT, lowT, e, hks, gt, op, gk]⟩
    obtain ⟨x, sg, hx1, hx2, hx3, hx4⟩ := hw
    refine At.k0 hks (Call.mk (within_ev xa pa) (Let.as (t.Kind - 22) (by rw [wi (by omega) (by omega)]) ⟨by omega, x, hx1, Cat.l rfl hx2 (by omega) (At.k1 hks (Call.mk (within_ev xb pb) (Cat.l rfl rfl (by simp only [List.length_append]; omega) ?_)))⟩))
    rw [hx4, List.append_assoc]
  · have hk : t.Kind = 24 := by omega
    have h := one_at ho (s := ⟨false, false, false, 0, 0, 0, eachB [isD], powB⟩) (by rw [hk]; rfl)
    obtain ⟨a, hks, pa⟩ := each1 h.1
    have xa := ih a (by rw [hks]; simp)
    have la := xa.len
    have l0 := opL_len a (txt a)
    have pl := powL_len (rat_inI kR)
    refine Call.mk (num_ev (rat_inI kR).1) ⟨fun s => s = bs (powL t.Num), ⟨fun hd => ?_, fun hd => ?_⟩, ?_⟩
    · have hd' : t.Num.D ≠ 1 := by simpa using hd
      refine Cat.l rfl rfl (by simp only [List.length_cons, List.length_nil]; omega) (Cat.l rfl rfl (by simp only [List.length_append, List.length_cons, List.length_nil]; omega) (Call.mk (num_ev (rat_inI kR).2) (Cat.l rfl rfl (by simp only [List.length_append, List.length_cons, List.length_nil]; omega) (Cat.l rfl rfl (by simp only [List.length_append, List.length_cons, List.length_nil]; omega) ?_))))
      show bs _ = bs _
      unfold powL
      rw [if_neg hd']; simp
    · have hd' : t.Num.D = 1 := by simpa using hd
      show bs _ = bs _
      unfold powL
      rw [if_pos hd']
    · rintro _ rfl
      refine At.k0 hks (Call.mk (within_ev xa (isD_low pa)) (Cat.l rfl rfl (by simp only [List.length_cons, List.length_nil]; omega) (Cat.l rfl rfl (by simp only [List.length_append, List.length_cons, List.length_nil]; omega) ?_)))
      rw [hT]; simp [nodeT, lowT, hk, hks, gt, op, gk]
end Go.Sim.YtomeghkmdcfolaaGreatDoor

/- What is proved: bytes laid by a literal and turned to their own type (a string's constant as bytes): they are marked, and shared from then on. -/
namespace Go.Sim
open Go.RowKit
section
variable {P : Program} {N : Value -> Prop} {T : Tab} {σ : St}
theorem RelG.spent {B : Nat -> Nat -> Prop} {F : Nat -> Prop} {w0 w w' : World} {n : Nat} {σ : St} {a : Act} {g : Gh} (h : RelG B F w0 n σ a w g) {id : Nat} (hlow : id < 1000000) (hid : g.has id) (hb : BelowB (g.blk id) w w') :
    RelG B F w0 n (σ.set id .gone) a w' { g with S := fun k => g.S k \/ k = g.blk id, has := upd g.has id False } := by
  obtain ⟨k1, k2, k3⟩ := h.own id hid
  have hS : ∀ k, g.S k -> g.S k \/ k = g.blk id := fun _ hk => .inl hk
  have hm : ∀ k, g.S k -> k < w.heap.size -> w'.heap[k]? = w.heap[k]? := fun k hk hlt => hb.old k hlt (fun e => k1 (e ▸ hk))
  refine { os := hb.os.trans h.os, tape := hb.tape.trans h.tape, output := hb.output.trans h.output, size := Nat.le_trans h.size hb.size, old := fun k hk hB => ?_, n := h.n, nlt := h.nlt, glob := h.glob, defers := h.defers, sF := ?_, sB := ?_, own := ?_, dj := ?_, slots := ?_, objs := ?_, ok := Ok_set h.ok (fun _ _ _ e => by cases e), hv := h.hv, sub := ?_ }
  · rw [hb.old k (Nat.lt_of_lt_of_le hk h.size)]
    · exact h.old k hk hB
    · intro e
      have := k2.new hlow
      omega
  · rintro k (hk | rfl)
    · exact h.sF k hk
    · exact .inr (k2.new hlow)
  · rintro k (hk | rfl)
    · exact Nat.lt_of_lt_of_le (h.sB k hk) hb.size
    · exact Nat.lt_of_lt_of_le k3 hb.size
  · intro i hi
    by_cases he : i = id
    · subst he; simp [upd_same] at hi
    · simp only [upd_ne _ _ _ he] at hi
      obtain ⟨m1, m2, m3⟩ := h.own i hi
      exact ⟨fun hs => hs.elim m1 (fun hs => h.dj i id he hi hid hs), m2, Nat.lt_of_lt_of_le m3 hb.size⟩
  · intro i j hij hi hj
    by_cases he : i = id
    · subst he; simp [upd_same] at hi
    · by_cases he' : j = id
      · subst he'; simp [upd_same] at hj
      · simp only [upd_ne _ _ _ he, upd_ne _ _ _ he'] at hi hj; exact h.dj i j hij hi hj
  · exact h.slots' (g' := { g with S := fun k => g.S k \/ k = g.blk id, has := upd g.has id False }) hS hm (fun _ _ => rfl) (fun _ _ => rfl)
  · intro i
    rw [St.obj_set]
    by_cases he : i = id
    · subst he; simp [RepO, upd_same]
    · simp only [if_neg he]
      exact RepO.frame h (g' := { g with S := fun k => g.S k \/ k = g.blk id, has := upd g.has id False }) hS hm (fun _ _ => rfl) (fun _ _ => rfl) i (by simp only [upd_ne _ _ _ he]) (fun hi => hb.old _ (h.own i hi).2.2 (fun e => h.dj i id he hi hid e)) (fun _ _ hb' => hb') (fun j b hb' => hb.old b (h.sub i j b hb').2.2.1 (fun e => (h.sub i j b hb').2.2.2.1 id hid e.symm))
  · intro i j b hb'
    obtain ⟨m1, m2, m3, m4, m5⟩ := h.sub i j b hb'
    refine ⟨fun hs => hs.elim m1 (fun hs => m4 id hid hs.symm), m2, Nat.lt_of_lt_of_le m3 hb.size, fun k hk => ?_, m5⟩
    by_cases he : k = id
    · subst he; simp [upd_same] at hk
    · simp only [upd_ne _ _ _ he] at hk; exact m4 k hk
def markW (w : World) (b : Nat) (m : Nat × Nat) : World := { w with heap := w.heap.modify b fun | .cells c e _ => .cells c e m | o => o }
theorem run_convert_mark {w : World} {t e : TypeId} {b n c : Nat} {C : Array Value} {E : TypeId} (ht : P.underlying t = some (.slice e)) (he : P.underlying e = some (.int .u8)) (hb : w.heap[b]? = some (.cells C E (0, 0))) :
    (convert t t (.slice (some ⟨b, 0, none⟩) n c)).run P w = .ok (.slice (some ⟨b, 0, none⟩) n c) (markW w b (C.size, C.size + 1)) := by
  have hsh : w.shape? b = some (E, C.size) := by unfold World.shape?; rw [hb]
  have hf : w.freeze ⟨b, C.size, none⟩ 1 = markW w b (C.size, C.size + 1) := by
    unfold World.freeze markW
    rw [if_neg (by decide)]
    congr 1
    apply Array.ext
    · simp
    · intro i h1 h2
      simp only [Array.getElem_modify]
      split
      · rename_i hi
        subst hi
        have hg : w.heap[b]? = some (w.heap[b]'(by simpa using h2)) := Array.getElem?_eq_getElem _
        rw [hb] at hg
        rw [← Option.some.inj hg]
        rfl
      · rfl
  simp [convert, run_underlying ht, run_underlying he, markStringish, hsh]
  exact hf
theorem Step.ownbytes (hT : TabOk P T) {o : Oper} {t : TypeId} {x : Operand} {E E' : TypeId} {te : TE} {id sz : Nat} {xs : List DV} (ho : o.op = .convert t t x) (hs : slE T t = some (E, te)) (hd : te.d = .int .u8)
    (hx : ev σ x = .oref id) (hob : σ.obj id = some (.row E' sz xs)) (hne : xs ≠ []) (hlow : id < 1000000) : Step P N true σ o ⟨.dat (.sl E' sz xs), [(id, .gone)]⟩ where
  ok := by
    rintro σ' ⟨g1, g2, g3⟩ B F w0 n a w hdn ⟨g, r⟩ Q _
    have hmem : x ∈ o.op.operands := by simp [ho, Op.operands]
    have hl : looks o = true := by simp [looks, ho]
    have hob' : σ'.obj id = some (.row E' sz xs) := by rw [g3 hl x hmem id (by rw [hx]; simp [AV.refs])]; exact hob
    have hev := ev_rep r x
    rw [g1 x hmem, hx] at hev
    simp only [RepS] at hev
    have hO := r.objs id
    rw [hob'] at hO
    simp only [RepO] at hO
    rcases hO with ⟨_, h2, _⟩ | ⟨m1, c, cur, m2, m3, m4, m5, m6, m7⟩
    · exact absurd h2 hne
    obtain ⟨u1, u2, _⟩ := slE_ok hT hs
    have hu := u8Of u2 hd
    have hlt : g.blk id < w.heap.size := (r.own id m1).2.2
    have hrun := run_convert_mark (n := xs.length) (c := c) u1 hu m3
    have hbel : BelowB (g.blk id) w (markW w (g.blk id) (cur.size, cur.size + 1)) := ⟨rfl, rfl, rfl, by simp [markW], fun k hk hne => by
      unfold markW
      simp only [Array.getElem?_modify, if_neg (Ne.symm hne)]⟩
    have r2 := r.spent hlow m1 hbel
    have m3' : (markW w (g.blk id) (cur.size, cur.size + 1)).heap[g.blk id]? = some (.cells cur E' (cur.size, cur.size + 1)) := by
      unfold markW
      simp only [Array.getElem?_modify, if_true, m3, Option.map_some]
    unfold Oper.wp
    have hrun' : (execOp a.eval o).run P w = .ok (.value (.slice (some ⟨g.blk id, 0, none⟩) xs.length c)) (markW w (g.blk id) (cur.size, cur.size + 1)) := by
      simp [execOp, ho, hev, m2, hrun]
    rw [hrun', Oper.upon_value]
    refine ⟨_, RelG.putO r2 o.dst (x := .dat (.sl E' sz xs)) ?_ (fun k hk => by simp [AV.refs] at hk) hdn⟩
    simp only [RepS, RepV, RepD]
    refine ⟨_, c, _, rfl, m5, RepF.frame (fun k hk => .inl hk) (fun k hk hk2 => hbel.old k hk2 (fun e => (r.own id m1).1 (e ▸ hk))) _ _ _ m7, .inr ⟨g.blk id, 0, rfl, .inr rfl, fun j u hj => ?_⟩⟩
    rw [List.getElem?_take] at hj
    unfold World.cell?
    rw [m3']
    split at hj
    · simpa using hj
    · cases hj
  objs := fun p hp => by
    simp only [List.mem_singleton] at hp
    subst hp
    exact .inr ⟨rfl, by simp [looks, ho], x, by simp [wr, ho, Op.operands], by rw [hx]; simp [AV.refs]⟩
  okk := fun σ' hA ok => by
    have h1 := Ok_set ok (d := id) (o := .gone) (fun _ _ _ e => by cases e)
    refine ⟨fun i k hk => ?_, ok_tail (app_obj _ _ _) h1.2⟩
    rw [app_slot] at hk
    rw [app_obj]
    split at hk
    · simp [AV.refs] at hk
    · exact h1.1 i k hk
  near := fun y h => by rw [ho] at h; simp [carry] at h
variable {ops : Array Oper} {cf : Oper -> Bool} {K : AExit -> St -> Prop} {o : Oper} {rest : List Oper} {L : List (Nat × AV)} {O : List (Nat × Obj)}
theorem AOps.ownbytes (hT : TabOk P T) {d : Nat} {t : TypeId} {x : Operand} {E E' : TypeId} {te : TE} {id sz : Nat} {y : DV} {xs : List DV} (ho : o.op = .convert t t x) (hd : o.dst = some d) (hg : gOn ops L o = true) (hcf : cf o = true) (hs : slE T t = some (E, te)) (hdd : te.d = .int .u8)
    (hx : ev (mkSt L O) x = .oref id) (hob : lookO O id = some (.row E' sz (y :: xs))) (hlow : Nat.ble 1000000 id = false) (k : AOps P ops cf K rest (mkSt ((d, .dat (.sl E' sz (y :: xs))) :: L) ((id, .gone) :: O))) : AOps P ops cf K (o :: rest) (mkSt L O) := by
  refine AOps.eff hg (e := ⟨.dat (.sl E' sz (y :: xs)), [(id, .gone)]⟩) ?_ (by rw [hd]; exact k)
  rw [hcf]
  exact Step.ownbytes hT ho hs hdd hx hob (by simp) (by
    by_cases h : id < 1000000
    · exact h
    · rw [Nat.ble_eq_true_of_le (by omega)] at hlow; cases hlow)
end
def writesC (fs : List Nat) (o : Oper) : Bool :=
 writesB fs o || match o.op with
  | .convert a b _ => Nat.beq a b
  | _ => false
end Go.Sim
