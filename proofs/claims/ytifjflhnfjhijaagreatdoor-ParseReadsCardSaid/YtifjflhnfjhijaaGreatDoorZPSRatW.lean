/- What is proved: orreryref11.Read yields just the number that a text writes; the statement RatReads. -/
import Derived.Test.YtifjflhnfjhijaaGreatDoorZPSRatV
import Derived.Test.YtifjflhnfjhijaaGreatDoorZPSLexS
import Derived.Test.YtifjflhnfjhijaaGreatDoorZPSStrX
import Derived.Test.YtifjflhnfjhijaaGreatDoorZPSRefU
import Derived.Test.YtifjflhnfjhijaaGreatDoorZPSPureK

namespace Go.Sim.YtifjflhnfjhijaaGreatDoor
open Go.RowKit Go.Proofs Go.Proofs.Tryz
theorem qA7 {l : List UInt8} {q : Nat} {b : UInt8} (h : l[q]? = some b) : (bs l)[q]? = some b := by
 obtain ⟨h1, h2⟩ := List.getElem?_eq_some_iff.1 h
 show (if hh : q < (bs l).size then some (bs l)[q] else none) = _
 rw [dif_pos (by rw [q0f]; exact h1), ← h2]
 rfl
theorem qO5 {l : List UInt8} {p q : Nat} {k : ByteArray -> Prop} (h1 : p <= q) (h2 : q <= l.length) (hk : k (bs ((l.drop p).take (q - p)))) : SlS (bs l) (p : Int) (q : Int) k := by
 obtain ⟨n, rfl⟩ : ∃ n, q = p + n := ⟨q - p, by omega⟩
 refine SlS.tl (s := bs l) (by rw [q0f]; exact h2) ?_
 have : tl (bs l) p = l.drop p := by
  have := q5n (bs l) 0 p
  rw [qJg, Nat.zero_add] at this; exact this.symm
 rw [this]
 rw [show p + n - p = n by omega] at hk
 exact hk
theorem qU1 {l : List UInt8} {q : Nat} {b : UInt8} (h : l[q]? = some b) : span q05 (l.drop q) = if q05 (b.toNat : Int) = true then span q05 (l.drop (q + 1)) + 1 else 0 := by
 obtain ⟨h1, h2⟩ := List.getElem?_eq_some_iff.1 h
 rw [List.drop_eq_getElem_cons h1, h2, span]
theorem qLk {l : List UInt8} (hl : l.length <= 9223372036854775807) {p : Nat} (hp : p <= l.length) : q26 (bs l) (p : Int) ((p + span q05 (l.drop p) : Nat) : Int) := by
 refine qJ6 ?_
 unfold qCo
 refine ⟨fun z => ∃ q : Nat, z = (q : Int) /\ q <= l.length /\ q + span q05 (l.drop q) = p + span q05 (l.drop p), fun z => l.length - z.toNat, ⟨p, rfl, hp, rfl⟩, ?_⟩
 rintro _ ⟨q, rfl, hq, he⟩
 rw [q0f]
 refine Br.d (fun hlt => ?_) (fun hge => ?_)
 ·obtain ⟨b, hb⟩ : ∃ b, l[q]? = some b := ⟨_, List.getElem?_eq_getElem (by omega)⟩
  rw [qU1 hb] at he
  have no : ¬ q05 (b.toNat : Int) = true -> (q : Int) = ((p + span q05 (l.drop p) : Nat) : Int) := fun h => by rw [if_neg h] at he; omega
  refine AtS.nat (qA7 hb) (Br.d (fun h1 => AtS.nat (qA7 hb) (Br.d (fun h2 => Let.as _ (wi1 (by omega)) ?_) (fun h2 => no ?_))) (fun h1 => no ?_))
  ·rw [if_pos (by unfold q05; simp only [Bool.and_eq_true, decide_eq_true_eq]; omega)] at he
   refine ⟨⟨q + 1, rfl, by omega, by omega⟩, ?_⟩
   simp only [Int.toNat_natCast]; omega
  ·unfold q05; simp only [Bool.and_eq_true, decide_eq_true_eq]; omega
  ·unfold q05; simp only [Bool.and_eq_true, decide_eq_true_eq]; omega
 ·rw [List.drop_of_length_le (by omega)] at he
  show (q : Int) = _
  simp only [span] at he
  omega
theorem q96 {n k : Nat} (h : n < 10 ^ k) : (dig n).length <= k :=
 q74 (Nat.lt_of_lt_of_le h (Nat.pow_le_pow_left (by decide) k))
theorem qYt {l : List UInt8} : ([] : List Int) = dg (dvB (l.take 0)) := by
 rw [List.take_zero, show dvB [] = 0 from rfl, dg, q4b]; rfl
theorem qU2 {l : List UInt8} (hl : l.length <= 80) (hd : span q05 l = l.length) : q7i (bs l) (dg (dvB l)) := by
 refine qH9 ?_
 unfold qB0
 refine Loop2.up l.length (fun j n => n = dg (dvB (l.take j))) qYt ?_
 rintro i _ k hi rfl hk
 rw [q0f]
 have hdt : span q05 (l.take i) = (l.take i).length := qPy hd
 have hlt := qMw hdt
 rw [List.length_take, Nat.min_eq_left hi] at hlt
 have hlen := q96 hlt
 refine Br.d (fun hlt2 => ?_) (fun hge => ?_)
 ·obtain ⟨b, hb⟩ : ∃ b, l[i]? = some b := ⟨_, List.getElem?_eq_getElem (by omega)⟩
  have hbd := q1l.1 hd b (List.mem_of_getElem? hb)
  unfold q05 at hbd; simp only [Bool.and_eq_true, decide_eq_true_eq] at hbd
  have hstep : dvB (l.take (i + 1)) = dvB (l.take i) * 10 + (b.toNat - 48) := by
   have e : l.take (i + 1) = l.take i ++ [b] := by rw [List.take_add_one, hb]; rfl
   unfold dvB
   rw [e, List.map_append, List.map_cons, List.map_nil, qF5, show ((b.toNat : Int) - 48).toNat = b.toNat - 48 by omega]
  have hd2 : (dig (dvB (l.take i) * 10)).length <= i + 1 := q96 (by rw [Nat.pow_succ]; omega)
  refine Call.mk (qNr 10 (by decide)) (Call.mk (qW9 _ 10 (by omega) (by have := q96 (n := 10) (k := 2) (by decide); omega)) (AtS.nat (qA7 hb) (Let.as ((b.toNat - 48 : Nat) : Int) (by rw [w8 (by omega) (by omega)]; omega) (Let.as ((b.toNat - 48 : Nat) : Int) (wu (by omega) (by omega)) (Call.mk (qNr _ (by omega)) (Call.mk (qSj _ _ (by omega) ?_) (Let.as _ (wi1 (by omega)) (hk _ (by omega) ?_))))))))
  ·have := q96 (n := b.toNat - 48) (k := 1) (by omega); omega
  ·rw [hstep]
 ·show dg (dvB (l.take i)) = _
  rw [List.take_of_length_le (by omega)]
theorem qPa {n : Nat} (hn : n <= 1000) : q39 (dg 10) (n : Int) (dg (10 ^ n)) := by
 refine qHa ?_
 unfold qB1
 refine Call.mk qNs (Loop2.up n (fun j p => p = dg (10 ^ j)) rfl ?_)
 rintro i _ k hi rfl hk
 refine Br.d (fun hlt => ?_) (fun hge => ?_)
 ·have h1 : (dig (10 ^ i)).length <= i + 1 := q96 (Nat.pow_lt_pow_right (by decide) (by omega))
  have h2 := q96 (n := 10) (k := 2) (by decide)
  exact Call.mk (qW9 _ _ (by omega) (by omega)) (Let.as _ (wi1 (by omega)) (hk _ (by omega) (by rw [Nat.pow_succ])))
 ·show dg (10 ^ i) = _
  rw [show i = n by omega]
theorem qSl (h : qF6) {l : List UInt8} (hl : l.length <= 9223372036854775807) {q : Nat} (hq : q <= l.length) {sg : Int} (hsg : sg = 1 \/ sg = -1) {A : Prop} {K : Int -> Prop} (hn : expS (l.drop q) sg = none -> A) (hk : ∀ e, expS (l.drop q) sg = some e -> K e) :
    Call (q26 (bs l) (q : Int)) fun x164 =>
      Br (x164 != (((bs l).size : Nat) : Int)) A (
        Let (IntKind.i64.wrap (x164 - (q : Int))) fun x168 =>
        Br (decide (x168 < (1 : Int))) A (
          Let (IntKind.i64.wrap (x164 - (q : Int))) fun x169 =>
          Br (decide (x169 > (2 : Int))) A (
            SlS (bs l) (q : Int) x164 fun x170 =>
            Call (q0z x170) fun x171 =>
            Let (IntKind.i64.wrap (sg * x171.1)) fun x173 => K x173))) := by
  have hsp := q1o q05 (l.drop q)
  rw [List.length_drop] at hsp
  obtain ⟨n, hn'⟩ : ∃ n, n = span q05 (l.drop q) := ⟨_, rfl⟩
  have hu := qLk hl hq
  rw [← hn'] at hsp hu
  have no : ¬ (n = l.length - q /\ 1 <= l.length - q /\ l.length - q <= 2) -> A := fun hc => hn (by unfold expS; rw [List.length_drop, ← hn', if_neg hc])
  refine Call.mk hu ⟨fun h1 => no ?_, fun h1 => ?_⟩
  · rw [q0f] at h1
    have : ((q + n : Nat) : Int) ≠ (l.length : Int) := by simpa using h1
    omega
  rw [q0f] at h1
  have h1' : ((q + n : Nat) : Int) = (l.length : Int) := by simpa using h1
  have hnl : n = l.length - q := by omega
  have wn : IntKind.i64.wrap (((q + n : Nat) : Int) - (q : Int)) = (n : Int) := by rw [wi (by omega) (by omega)]; omega
  refine Let.as _ wn (Br.d (fun h2 => no (by omega)) (fun h2 => Let.as _ wn (Br.d (fun h3 => no (by omega)) (fun h3 => ?_))))
  have hlen : span q05 (l.drop q) = (l.drop q).length := by rw [← hn', List.length_drop]; exact hnl
  have hat := h.atoi (l.drop q) (by rw [List.length_drop]; omega) (by rw [List.length_drop]; omega) hlen
  have hlt := qMw hlen
  have h2' : 10 ^ (l.drop q).length <= 10 ^ 2 := Nat.pow_le_pow_right (by decide) (by rw [List.length_drop]; omega)
  refine qO5 (by omega) (by omega) ?_
  rw [show q + n - q = n by omega, List.take_of_length_le (by rw [List.length_drop]; omega)]
  refine Call.mk hat (Let.as (sg * (dvB (l.drop q) : Int)) ?_ (hk _ ?_))
  · rcases hsg with rfl | rfl <;> exact wi (by show _ <= _ * (dvB (l.drop q) : Int); omega) (by show _ * (dvB (l.drop q) : Int) < _; omega)
  · unfold expS; rw [List.length_drop, ← hn', if_pos ⟨hnl, by omega, by omega⟩]
theorem qQ2 (h : qF6) {l : List UInt8} (hl : l.length <= 9223372036854775807) {p : Nat} (hp : p <= l.length) {c : Int} (hc : -40 <= c /\ c <= 0) {A : Prop} {K : Int -> Prop} (hn : q97 (l.drop p) = none -> A) (hk : ∀ e, q97 (l.drop p) = some e -> K (c + e)) :
    q16 (fun j115 =>
      Br (decide ((p : Int) < (((bs l).size : Nat) : Int))) (
       q16 (fun j123 =>
        AtS (bs l) (p : Int) fun x125 =>
        Br (x125 != (101 : Int)) (
         AtS (bs l) (p : Int) fun x128 =>
         j123 (x128 != (69 : Int))) (
         j123 false)
       ) (fun (x122 : Bool) =>
        Br x122 A (
         Let (IntKind.i64.wrap ((p : Int) + (1 : Int))) fun x130 =>
         q16 (fun j138 =>
          Br (decide (x130 < (((bs l).size : Nat) : Int))) (
           AtS (bs l) x130 fun x140 =>
           Br (x140 == (43 : Int)) (j138 true) (
            AtS (bs l) x130 fun x143 =>
            j138 (x143 == (45 : Int)))) (
           j138 false)
         ) (fun (x137 : Bool) =>
          q3r (fun j155 =>
           Br x137 (
            AtS (bs l) x130 fun x157 =>
            q16 (fun j160 =>
             Br (x157 == (45 : Int)) (j160 (-1 : Int)) (
              j160 (1 : Int))
            ) (fun (x159 : Int) =>
             Let (IntKind.i64.wrap (x130 + (1 : Int))) fun x161 =>
             j155 x161 x159)) (
            j155 x130 (1 : Int))
          ) (fun (x153 : Int) (x154 : Int) =>
           Call (q26 (bs l) x153) fun x164 =>
           Br (x164 != (((bs l).size : Nat) : Int)) A (
            Let (IntKind.i64.wrap (x164 - x153)) fun x168 =>
            Br (decide (x168 < (1 : Int))) A (
             Let (IntKind.i64.wrap (x164 - x153)) fun x169 =>
             Br (decide (x169 > (2 : Int))) A (
              SlS (bs l) x153 x164 fun x170 =>
              Call (q0z x170) fun x171 =>
              Let (IntKind.i64.wrap (x154 * x171.1)) fun x173 =>
              Let (IntKind.i64.wrap (c + x173)) fun x174 =>
              j115 x174)))))))) (
       j115 c)
     ) K := by
  refine ⟨fun x => ∃ e, q97 (l.drop p) = some e /\ x = c + e, ?_, fun x ⟨e, he, hx⟩ => by rw [hx]; exact hk e he⟩
  rw [q0f]
  refine Br.d (fun hlt => ?_) (fun hge => ⟨0, by rw [List.drop_of_length_le (by omega)]; rfl, by omega⟩)
  obtain ⟨b, hb⟩ : ∃ b, l[p]? = some b := ⟨_, List.getElem?_eq_getElem (by omega)⟩
  obtain ⟨v, hv⟩ : ∃ v, v = l.drop (p + 1) := ⟨_, rfl⟩
  have hd : l.drop p = b :: v := by
    obtain ⟨h1, h2⟩ := List.getElem?_eq_some_iff.1 hb
    rw [List.drop_eq_getElem_cons h1, h2, hv]
  by_cases cc : (b.toNat : Int) = 101 \/ (b.toNat : Int) = 69
  · refine ⟨fun x => x = false, AtS.nat (qA7 hb) ?_, ?_⟩
    · rcases cc with c1 | c1
      · exact Br.f (by rw [c1]; rfl) rfl
      · exact Br.t (by rw [c1]; rfl) (AtS.nat (qA7 hb) (by rw [c1]; rfl))
    rintro _ rfl
    refine Br.f rfl (Let.as _ (wi1 (by omega)) ?_)
    have stage : ∀ {q : Nat} {sg : Int}, q <= l.length -> (sg = 1 \/ sg = -1) -> q97 (l.drop p) = expS (l.drop q) sg ->
        Call (q26 (bs l) (q : Int)) fun x164 =>
          Br (x164 != ((l.length : Nat) : Int)) A (
            Let (IntKind.i64.wrap (x164 - (q : Int))) fun x168 =>
            Br (decide (x168 < (1 : Int))) A (
              Let (IntKind.i64.wrap (x164 - (q : Int))) fun x169 =>
              Br (decide (x169 > (2 : Int))) A (
                SlS (bs l) (q : Int) x164 fun x170 =>
                Call (q0z x170) fun x171 =>
                Let (IntKind.i64.wrap (sg * x171.1)) fun x173 =>
                Let (IntKind.i64.wrap (c + x173)) fun x174 => ∃ e, q97 (l.drop p) = some e /\ x174 = c + e))) := by
      intro q sg hq hsg he
      have := qSl h hl hq hsg (A := A) (K := fun x173 => Let (IntKind.i64.wrap (c + x173)) fun x174 => ∃ e, q97 (l.drop p) = some e /\ x174 = c + e) (fun hh => hn (by rw [he]; exact hh)) (fun e hh => by
        have := qLf hsg hh
        exact Let.as (c + e) (wi (by omega) (by omega)) ⟨e, by rw [he]; exact hh, rfl⟩)
      rw [q0f] at this
      exact this
    by_cases hlt2 : p + 1 < l.length
    · obtain ⟨a, ha⟩ : ∃ a, l[p + 1]? = some a := ⟨_, List.getElem?_eq_getElem hlt2⟩
      have hva : v = a :: l.drop (p + 1 + 1) := by
        obtain ⟨h1, h2⟩ := List.getElem?_eq_some_iff.1 ha
        rw [hv, List.drop_eq_getElem_cons h1, h2]
      have pk : peek v 0 = (a.toNat : Int) := by rw [hva]; rfl
      have vd : v.drop 1 = l.drop (p + 1 + 1) := by rw [hva]; rfl
      by_cases c2 : (a.toNat : Int) = 43 \/ (a.toNat : Int) = 45
      · obtain ⟨sg, hsg, hre, hsj⟩ : ∃ sg : Int, (sg = 1 \/ sg = -1) /\ q97 (l.drop p) = expS (l.drop (p + 1 + 1)) sg /\ ∀ k : Int -> Prop, k sg -> q16 (fun j61 => Br ((a.toNat : Int) == (45 : Int)) (j61 (-1 : Int)) (j61 (1 : Int))) k := by
          by_cases c3 : (a.toNat : Int) = 45
          · exact ⟨-1, .inr rfl, by rw [hd, q2u, if_pos cc, pk, if_pos c3, vd], fun k hk => ⟨fun x => x = -1, Br.t (by rw [c3]; rfl) rfl, fun x hx => by subst hx; exact hk⟩⟩
          · exact ⟨1, .inl rfl, by rw [hd, q2u, if_pos cc, pk, if_neg c3, if_pos (c2.resolve_right c3), vd], fun k hk => ⟨fun x => x = 1, Br.f (beq_false_of_ne c3) rfl, fun x hx => by subst hx; exact hk⟩⟩
        refine ⟨fun x => x = true, Br.dT (by omega) (AtS.nat (qA7 ha) ?_), ?_⟩
        · rcases c2 with c3 | c3
          · exact Br.t (by rw [c3]; rfl) rfl
          · exact Br.f (by rw [c3]; rfl) (AtS.nat (qA7 ha) (by rw [c3]; rfl))
        · rintro _ rfl
          exact ⟨fun x s => x = ((p + 1 + 1 : Nat) : Int) /\ s = sg, Br.t rfl (AtS.nat (qA7 ha) (hsj _ (Let.as _ (wi1 (by omega)) ⟨rfl, rfl⟩))), fun x s hs => by rw [hs.1, hs.2]; exact stage (by omega) hsg hre⟩
      · have hre : q97 (l.drop p) = expS (l.drop (p + 1)) 1 := by rw [hd, q2u, if_pos cc, pk, if_neg fun e => c2 (.inr e), if_neg fun e => c2 (.inl e), hv]
        refine ⟨fun x => x = false, Br.dT (by omega) (AtS.nat (qA7 ha) (Br.f (beq_false_of_ne fun e => c2 (.inl e)) (AtS.nat (qA7 ha) (beq_false_of_ne fun e => c2 (.inr e))))), ?_⟩
        rintro _ rfl
        exact ⟨fun x s => x = ((p + 1 : Nat) : Int) /\ s = 1, Br.f rfl ⟨rfl, rfl⟩, fun x s hs => by rw [hs.1, hs.2]; exact stage (by omega) (.inl rfl) hre⟩
    · have hv0 : v = [] := by rw [hv, List.drop_of_length_le (by omega)]
      have hre : q97 (l.drop p) = expS (l.drop (p + 1)) 1 := by
        rw [hd, q2u, if_pos cc, hv0, ← hv, hv0]; rfl
      refine ⟨fun x => x = false, Br.dF (by omega) rfl, ?_⟩
      rintro _ rfl
      exact ⟨fun x s => x = ((p + 1 : Nat) : Int) /\ s = 1, Br.f rfl ⟨rfl, rfl⟩, fun x s hs => by rw [hs.1, hs.2]; exact stage (by omega) (.inl rfl) hre⟩
  · refine ⟨fun x => x = true, AtS.nat (qA7 hb) (Br.t ?_ (AtS.nat (qA7 hb) ?_)), ?_⟩
    · show ((b.toNat : Int) != 101) = true
      simpa using fun e => cc (.inl e)
    · show ((b.toNat : Int) != 69) = true
      simpa using fun e => cc (.inr e)
    · rintro _ rfl
      exact Br.t rfl (hn (by rw [hd, q2u, if_neg cc]))
theorem qSm {a : List UInt8} (ha : a.length <= 80) (hd : span q05 a = a.length) {m : Nat} (hm : m <= 40) {e : Int} (he : -99 <= e /\ e <= 99) :
    Call (q7i (bs a)) fun x181 =>
      Call (q2f (10 : Int)) fun x183 =>
      Br (decide (-(m : Int) + e >= (0 : Int))) (
       Call (q39 x183 (-(m : Int) + e)) fun x193 =>
       Call (q76 x181 x193) fun x195 =>
       Call (q5r) fun x197 =>
       Call (q5b false x195 x197) fun x199 =>
       (x199.1, x199.2) = toR (q4d false (dvB a * 10 ^ (e - m).toNat) (10 ^ ((m : Int) - e).toNat))) (
       Let (IntKind.i64.wrap ((0 : Int) - (-(m : Int) + e))) fun x201 =>
       Call (q39 x183 x201) fun x202 =>
       Call (q5b false x181 x202) fun x204 =>
       (x204.1, x204.2) = toR (q4d false (dvB a * 10 ^ (e - m).toNat) (10 ^ ((m : Int) - e).toNat))) := by
  have hlt := qMw hd
  have hlt80 : dvB a < 10 ^ 80 := Nat.lt_of_lt_of_le hlt (Nat.pow_le_pow_right (by decide) ha)
  have l80 := q96 hlt80
  refine Call.mk (qU2 ha hd) (Call.mk (qNr 10 (by decide)) (Br.d (fun h => ?_) (fun h => ?_)))
  · obtain ⟨n, hn⟩ : ∃ n : Nat, (-(m : Int) + e) = (n : Int) := ⟨(-(m : Int) + e).toNat, by omega⟩
    rw [hn]
    have hp : (dig (10 ^ n)).length <= n + 1 := q96 (Nat.pow_lt_pow_right (by decide) (by omega))
    have hb : (dig (dvB a * 10 ^ n)).length <= 80 + n := q96 (by rw [Nat.pow_add]; exact Nat.mul_lt_mul_of_pos_right hlt80 (Nat.pow_pos (by decide)))
    have h1 : (dig 1).length <= 1 := q96 (by decide)
    refine Call.mk (qPa (by omega)) (Call.mk (qW9 _ _ (by omega) (by omega)) (Call.mk qNs (Call.mk (qLj false _ 1 (by omega) (by omega) (by decide)) ?_)))
    rw [show (e - m).toNat = n by omega, show ((m : Int) - e).toNat = 0 by omega, Nat.pow_zero]
  · obtain ⟨n, hn⟩ : ∃ n : Nat, (m : Int) - e = (n : Int) := ⟨((m : Int) - e).toNat, by omega⟩
    have hp : (dig (10 ^ n)).length <= n + 1 := q96 (Nat.pow_lt_pow_right (by decide) (by omega))
    refine Let.as (n : Int) (by rw [wi (by omega) (by omega)]; omega) (Call.mk (qPa (by omega)) (Call.mk (qLj false _ _ (by omega) (by omega) (Nat.ne_of_gt (Nat.pow_pos (by decide)))) ?_))
    rw [hn, show (e - m).toNat = 0 by omega, Nat.pow_zero, Nat.mul_one, Int.toNat_natCast]
theorem qQ3 (h : qF6) {l : List UInt8} (hl : l.length <= 9223372036854775807) : q8e (bs l) (qK6 l) := by
  refine qJ5 ?_
  unfold qCn
  have hsp := q1o q05 l
  obtain ⟨n, hn⟩ : ∃ n, n = span q05 l := ⟨_, rfl⟩
  have hu := qLk hl (p := 0) (Nat.zero_le _)
  rw [List.drop_zero, Nat.zero_add, ← hn] at hu
  have none : qBa l = none -> (GRat.zero, (110 : Int)) = qK6 l := fun hh => by unfold qK6; rw [hh]
  rw [← hn] at hsp
  refine Call.mk hu (Br.d (fun c1 => none ?_) (fun c1 => Br.d (fun c2 => none ?_) (fun c2 => ?_)))
  · unfold qBa; rw [← hn, if_pos (by omega)]
  · unfold qBa; rw [← hn, if_pos (by omega)]
  have P : qBa l = if peek l n = 46 then (if span q05 (l.drop (n + 1)) < 1 \/ 40 < span q05 (l.drop (n + 1)) then Option.none else (q97 ((l.drop (n + 1)).drop (span q05 (l.drop (n + 1))))).map fun e => (l.take n ++ (l.drop (n + 1)).take (span q05 (l.drop (n + 1))), span q05 (l.drop (n + 1)), e))
      else (q97 (l.drop n)).map fun e => (l.take n, 0, e) := by
    unfold qBa; rw [← hn, if_neg (by omega)]
  refine qO5 (p := 0) (Nat.zero_le _) hsp ?_
  rw [List.drop_zero, Nat.sub_zero]
  refine ⟨fun b => b = decide (peek l n = 46), ?_, ?_⟩
  · rw [q0f]
    refine Br.d (fun hlt => ?_) (fun hge => ?_)
    · obtain ⟨b, hb⟩ : ∃ b, l[n]? = some b := ⟨_, List.getElem?_eq_getElem (by omega)⟩
      have : peek l n = (b.toNat : Int) := by unfold peek; rw [hb]
      rw [this]
      exact AtS.nat (qA7 hb) rfl
    · have : peek l n = 0 := by unfold peek; rw [List.getElem?_eq_none (by omega)]
      rw [this]; rfl
  rintro _ rfl
  have dn : span q05 (l.take n) = (l.take n).length := by rw [hn]; exact qA5 q05 l
  refine ⟨fun x y z => ∃ (p m : Nat) (a : List UInt8), x = (p : Int) /\ p <= l.length /\ y = bs a /\ z = -(m : Int) /\ m <= 40 /\ a.length <= 80 /\ span q05 a = a.length /\ qBa l = (q97 (l.drop p)).map fun e => (a, m, e), ?_, ?_⟩
  · refine Br.d (fun hdot => ?_) (fun hdot => ⟨n, 0, l.take n, rfl, hsp, rfl, rfl, by omega, by simp; omega, dn, by rw [P, if_neg hdot]⟩)
    have hlt : n < l.length := by
      by_cases hh : n < l.length
      · exact hh
      · have : peek l n = 0 := by unfold peek; rw [List.getElem?_eq_none (by omega)]
        omega
    obtain ⟨m, hm⟩ : ∃ m, m = span q05 (l.drop (n + 1)) := ⟨_, rfl⟩
    have hms := q1o q05 (l.drop (n + 1))
    rw [List.length_drop] at hms
    have hu2 := qLk hl (p := n + 1) (by omega)
    rw [← hm] at hu2 hms
    rw [if_pos hdot, ← hm] at P
    have w1 : IntKind.i64.wrap (((n + 1 + m : Nat) : Int) - (n : Int)) = ((m + 1 : Nat) : Int) := by rw [wi (by omega) (by omega)]; omega
    have w2 : IntKind.i64.wrap (((m + 1 : Nat) : Int) - 1) = (m : Int) := by rw [wi (by omega) (by omega)]; omega
    refine Let.as _ (wi1 (by omega)) (Call.mk hu2 (Let.as _ w1 (Let.as _ w2 (Br.d (fun c3 => none (by rw [P, if_pos (by omega)])) (fun c3 => Let.as _ w1 (Let.as _ w2 (Br.d (fun c4 => none (by rw [P, if_pos (by omega)])) (fun c4 => Let.as _ (wi1 (by omega)) ?_))))))))
    refine qO5 (by omega) (by omega) ?_
    rw [show n + 1 + m - (n + 1) = m by omega]
    refine ⟨by rw [q0f, q0f]; simp; omega, Let.as (bs (l.take n ++ (l.drop (n + 1)).take m)) (qMm _ _) (Let.as _ (wi1 (by omega)) (Let.as (-(m : Int)) (by rw [wi (by omega) (by omega)]; omega) ?_))⟩
    refine ⟨n + 1 + m, m, _, rfl, by omega, rfl, rfl, by omega, by simp; omega, ?_, ?_⟩
    · refine q1l.2 fun b hb => ?_
      rcases List.mem_append.1 hb with hb | hb
      · exact q1l.1 dn b hb
      · rw [hm] at hb; exact q1l.1 (qA5 q05 _) b hb
    · rw [P, if_neg (by omega), List.drop_drop]
  rintro _ _ _ ⟨p, m, a, rfl, hp, rfl, rfl, hm, ha, hda, hP⟩
  refine qQ2 h hl hp (by omega) (fun hh => none (by rw [hP, hh]; rfl)) (fun e hh => ?_)
  have := qSm ha hda hm (qLg hh)
  have hr : qK6 l = toR (q4d false (dvB a * 10 ^ (e - m).toNat) (10 ^ ((m : Int) - e).toNat)) := by
    unfold qK6; rw [hP, hh]; rfl
  rw [hr]
  exact this
end Go.Sim.YtifjflhnfjhijaaGreatDoor

/- What is proved: both Lex yield one thing. -/
namespace Go.Sim.YtifjflhnfjhijaaGreatDoor
open Go.RowKit Go.Proofs Go.Proofs.Tryz
theorem qWa : ∀ b : UInt8, Lib.indexByte signs.data.toList b < 0 ↔ sgL.contains (b.toNat : Int) = false := by
 have h : ∀ n : Fin 256, decide (Lib.indexByte signs.data.toList (UInt8.ofNat n.val) < 0) = decide (sgL.contains ((UInt8.ofNat n.val).toNat : Int) = false) := by decide +kernel
 intro b
 have := h ⟨b.toNat, b.toNat_lt⟩
 simp only [UInt8.ofNat_toNat] at this
 exact decide_eq_decide.1 this
theorem qU3 : qYs lexK where
 rd := fun s hs => by
  have := qQ3 qSb (l := tl s 0) (by rw [q90]; omega)
  rw [qPv] at this
  exact this
 ix := fun b => by
  have := qWa b
  show Lib.indexByte signs.data.toList ((b.toNat : Int).toNat).toUInt8 < 0 ↔ _
  rw [show ((b.toNat : Int).toNat).toUInt8 = b by simp]
  exact this
 wd := fun s hs => by
  have h1 := qPz hs
  have h2 := z0a (tl s 0)
  rw [qPv] at h2
  show q61 s (mget qKi s).isSome
  rw [h2]; exact h1
theorem qU4 (s : ByteArray) : qD2 s (lexS lexK (tl s 0)) /\ q9b s (lexS lexK (tl s 0)) := by
 refine ⟨qUv qSc s, ?_⟩
 have := qSi qU3 (tl s 0)
 rw [qPv] at this
 exact this
end Go.Sim.YtifjflhnfjhijaaGreatDoor

/- What is proved: any text is read as just that tree, or refused at just that place, as the document says: the statement ParseReads. -/
namespace Go.Sim.YtifjflhnfjhijaaGreatDoor
open Go.RowKit Go.Proofs Go.Proofs.Tryz
theorem qSn : ∀ (m : Nat) (l : List UInt8) (p n : Nat), l.length <= m -> (lexL lexK l p n).2.1 = 0 -> WordT (lexL lexK l p n).1 := by
 intro m
 induction m with
 | zero =>
  intro l p n hl h
  rcases qD7 h with ⟨h0, e⟩ | ⟨h0, _⟩
  ·rw [e]; intro t ht hk; rw [List.mem_singleton.1 ht] at hk; cases hk
  ·exact absurd (List.eq_nil_of_length_eq_zero (Nat.le_zero.1 hl)) h0
 | succ m ih =>
  intro l p n hl h
  rcases qD7 h with ⟨h0, e⟩ | ⟨h0, h1, h2, h3, e⟩
  ·rw [e]; intro t ht hk; rw [List.mem_singleton.1 ht] at hk; cases hk
  ·obtain ⟨m1, m2, _⟩ := qP5 (L := lexK) h0 h2
   have k := ih _ _ _ (by rw [List.length_drop]; omega) h3
   rw [e]
   intro t ht hk
   rcases List.mem_cons.1 ht with rfl | ht
   ·have hpos := (qJl (L := lexK) (p := p) h0).2 h2
    unfold tok at hk h2 hpos ⊢
    split at hk
    ·rename_i c
     rw [if_pos c] at h2 hpos ⊢
     split at hk
     ·cases hk
     ·rename_i c2
      rw [if_neg c2] at hpos ⊢
      intro hS
      have hS : (bs (l.take (span q7y l))).size = 0 := by rw [show bs (l.take (span q7y l)) = ByteArray.mk #[] from hS]; rfl
      rw [q0f, List.length_take] at hS
      have hp : 1 <= span q7y l := hpos
      have : 0 < l.length := List.length_pos_iff.2 h0
      omega
    ·split at hk
     ·cases hk
     ·split at hk
      ·cases hk
      ·split at hk <;> cases hk
   ·exact k t ht hk
theorem qSo {l : List UInt8} (h : (lexS lexK l).2.1 = 0) : WordT (lexS lexK l).1 := by
 unfold lexS at h ⊢
 split at h
 ·simp at h
 ·rename_i hl
  rw [if_neg hl]
  exact qSn _ _ _ _ (Nat.le_refl _) h
theorem qO6 {a d : Int} (h1 : -64 <= a) (h2 : a <= 64) (h3 : 1 <= d) (h4 : d <= 64) : q67 a d (mkR a d, (toR (qNf a d)).2) := by
 refine qJ4 ?_
 unfold qCm
 have e : toR (qNf a d) = toR (q4d (decide (a < 0) != decide (d < 0)) a.natAbs d.natAbs) := by
  unfold qNf
  rw [if_neg (by omega)]
 refine Br.eF (by omega) (Call.mk (qLa ⟨by omega, by omega⟩) (Call.mk (qLa ⟨by omega, by omega⟩) (Call.mk (qLj _ a.natAbs d.natAbs ?_ ?_ (by omega)) ?_)))
 ·have := q74 (n := a.natAbs) (k := 1) (by omega); omega
 ·have := q74 (n := d.natAbs) (k := 1) (by omega); omega
 ·show (_, _) = (_, _)
  unfold mkR
  rw [e]
theorem qO7 (s : ByteArray) : q9l s (q7w mkR (lexS lexK (tl s 0))) := by
 refine qH0 ?_
 unfold qAw
 refine Call.mk (qU4 s).2 ?_
 by_cases hz : (lexS lexK (tl s 0)).2.1 = 0
 rotate_left
 ·refine Br.t (bne_iff_ne.2 hz) ?_
  unfold q7w; rw [if_pos hz]
 refine Br.f (by rw [hz]; rfl) ?_
 have hU := qO2 hz
 have hw := qSo hz
 obtain ⟨A, hA⟩ : ∃ A, A = lexS lexK (tl s 0) := ⟨_, rfl⟩
 rw [← hA] at hz hU hw ⊢
 have hg : Gd A.1 (A.1, 0) := ⟨⟨[], rfl⟩, hU.fin, Int.le_refl 0, by show (0 : Int) <= 60; decide, hU.len, hU.tok⟩
 obtain ⟨r, h1, h2⟩ := qYk (x := .ok (A.1, 0)) (p := { Gref13P.zero with L := A.1 }) hw (fun a ha => qNu (qUx ha)) (fun a d h1 h2 h3 h4 => ⟨_, qO6 h1 h2 h3 h4⟩) ⟨hg, by unfold bxR; simp⟩
 refine Call.mk h1 ?_
 have h2 : q3s A.1 (qIc mkR (A.1, 0)) r := h2
 unfold q7w
 rw [if_neg (by simp [hz])]
 cases hf : qIc mkR (A.1, 0) with
 | error e =>
  rw [hf] at h2
  have h3 : St13 A.1 (.error e) r.2 := h2.2
  refine Br.t (bne_iff_ne.2 h3.badE) ?_
  obtain ⟨_, k2, k3, _⟩ := h3
  show (_, _, _) = (_, _, _)
  rw [k2, k3]
 | ok t =>
  rw [hf] at h2
  obtain ⟨t, s'⟩ := t
  have h3 : St13 A.1 (.ok s') r.2 := h2.2
  have h4 : r.1 = t := h2.1 t s' rfl
  have ht : t.ok := qRh (mk := mkR) (fun _ _ h1 h2 h3 h4 => qSe h1 h2 h3 h4) hU _ hf
  refine Br.f (by rw [h3.bad0]; rfl) ?_
  rw [h4]
  refine Call.mk (qKf 31 t ht (by decide)) ?_
  dsimp only
  by_cases h30 : 30 < dep t
  ·rw [if_pos h30]
   exact Br.dT (by omega) rfl
  ·rw [if_neg h30]
   refine Br.dF (by omega) (Call.mk (qI9 4001 t ht (by decide) (by decide)) ?_)
   by_cases h4k : 4000 < siz t
   ·rw [if_pos h4k]
    exact Br.dT (by omega) rfl
   ·rw [if_neg h4k]
    exact Br.dF (by omega) rfl
theorem qLl (s : ByteArray) (_ : s.size <= maxLen) : q8q s true := by
 refine qC9 ?_
 unfold q6p
 refine Call.mk (qSf s) (Call.mk (qO7 s) (Br.eT rfl (Br.eT rfl ?_)))
 exact Call.mk (qF7 _ (qSg qO2)) rfl
end Go.Sim.YtifjflhnfjhijaaGreatDoor
