/- What is proved: orreryref11.Read yields just the number that a text writes; the statement RatReads. -/
import Derived.Test.YtomeghkmdcfolaaGreatDoorZPPRatV
import Derived.Test.YtomeghkmdcfolaaGreatDoorZPPBigZ

namespace Go.Sim.YtomeghkmdcfolaaGreatDoor
open Go.RowKit Go.Proofs Go.Proofs.Tryz
theorem bs_get {l : List UInt8} {q : Nat} {b : UInt8} (h : l[q]? = some b) : (bs l)[q]? = some b := by
 obtain ⟨h1, h2⟩ := List.getElem?_eq_some_iff.1 h
 show (if hh : q < (bs l).size then some (bs l)[q] else none) = _
 rw [dif_pos (by rw [bs_size]; exact h1), ← h2]
 rfl
theorem SlS_mid {l : List UInt8} {p q : Nat} {k : ByteArray -> Prop} (h1 : p <= q) (h2 : q <= l.length) (hk : k (bs ((l.drop p).take (q - p)))) : SlS (bs l) (p : Int) (q : Int) k := by
 obtain ⟨n, rfl⟩ : ∃ n, q = p + n := ⟨q - p, by omega⟩
 refine SlS.tl (s := bs l) (by rw [bs_size]; exact h2) ?_
 have : tl (bs l) p = l.drop p := by
  have := tl_drop (bs l) 0 p
  rw [tl_bs, Nat.zero_add] at this; exact this.symm
 rw [this]
 rw [show p + n - p = n by omega] at hk
 exact hk
theorem span_dig {l : List UInt8} {q : Nat} {b : UInt8} (h : l[q]? = some b) : span digitB (l.drop q) = if digitB (b.toNat : Int) = true then span digitB (l.drop (q + 1)) + 1 else 0 := by
 obtain ⟨h1, h2⟩ := List.getElem?_eq_some_iff.1 h
 rw [List.drop_eq_getElem_cons h1, h2, span]
theorem rupto_ev {l : List UInt8} (hl : l.length <= 9223372036854775807) {p : Nat} (hp : p <= l.length) : Ev_ref11_upto (bs l) (p : Int) ((p + span digitB (l.drop p) : Nat) : Int) := by
 refine walk_ref11_upto ?_
 unfold W_ref11_upto
 refine ⟨fun z => ∃ q : Nat, z = (q : Int) /\ q <= l.length /\ q + span digitB (l.drop q) = p + span digitB (l.drop p), fun z => l.length - z.toNat, ⟨p, rfl, hp, rfl⟩, ?_⟩
 rintro _ ⟨q, rfl, hq, he⟩
 rw [bs_size]
 refine Br.d (fun hlt => ?_) (fun hge => ?_)
 ·obtain ⟨b, hb⟩ : ∃ b, l[q]? = some b := ⟨_, List.getElem?_eq_getElem (by omega)⟩
  rw [span_dig hb] at he
  have no : ¬ digitB (b.toNat : Int) = true -> (q : Int) = ((p + span digitB (l.drop p) : Nat) : Int) := fun h => by rw [if_neg h] at he; omega
  refine AtS.nat (bs_get hb) (Br.d (fun h1 => AtS.nat (bs_get hb) (Br.d (fun h2 => Let.as _ (wi1 (by omega)) ?_) (fun h2 => no ?_))) (fun h1 => no ?_))
  ·rw [if_pos (by unfold digitB; simp only [Bool.and_eq_true, decide_eq_true_eq]; omega)] at he
   refine ⟨⟨q + 1, rfl, by omega, by omega⟩, ?_⟩
   simp only [Int.toNat_natCast]; omega
  ·unfold digitB; simp only [Bool.and_eq_true, decide_eq_true_eq]; omega
  ·unfold digitB; simp only [Bool.and_eq_true, decide_eq_true_eq]; omega
 ·rw [List.drop_of_length_le (by omega)] at he
  show (q : Int) = _
  simp only [span] at he
  omega
theorem dig_ten {n k : Nat} (h : n < 10 ^ k) : (dig n).length <= k :=
 dig_length (Nat.lt_of_lt_of_le h (Nat.pow_le_pow_left (by decide) k))
theorem dg_nil {l : List UInt8} : ([] : List Int) = dg (dvB (l.take 0)) := by
 rw [List.take_zero, show dvB [] = 0 from rfl, dg, dig_zero]; rfl
theorem value_ev {l : List UInt8} (hl : l.length <= 80) (hd : span digitB l = l.length) : Ev_ref11_value (bs l) (dg (dvB l)) := by
 refine walk_ref11_value ?_
 unfold W_ref11_value
 refine Loop2.up l.length (fun j n => n = dg (dvB (l.take j))) dg_nil ?_
 rintro i _ k hi rfl hk
 rw [bs_size]
 have hdt : span digitB (l.take i) = (l.take i).length := span_takeD hd
 have hlt := dvB_lt hdt
 rw [List.length_take, Nat.min_eq_left hi] at hlt
 have hlen := dig_ten hlt
 refine Br.d (fun hlt2 => ?_) (fun hge => ?_)
 ·obtain ⟨b, hb⟩ : ∃ b, l[i]? = some b := ⟨_, List.getElem?_eq_getElem (by omega)⟩
  have hbd := span_all.1 hd b (List.mem_of_getElem? hb)
  unfold digitB at hbd; simp only [Bool.and_eq_true, decide_eq_true_eq] at hbd
  have hstep : dvB (l.take (i + 1)) = dvB (l.take i) * 10 + (b.toNat - 48) := by
   have e : l.take (i + 1) = l.take i ++ [b] := by rw [List.take_add_one, hb]; rfl
   unfold dvB
   rw [e, List.map_append, List.map_cons, List.map_nil, dvA_snoc, show ((b.toNat : Int) - 48).toNat = b.toNat - 48 by omega]
  have hd2 : (dig (dvB (l.take i) * 10)).length <= i + 1 := dig_ten (by rw [Nat.pow_succ]; omega)
  refine Call.mk (of_ev 10 (by decide)) (Call.mk (by_ev _ 10 (by omega) (by have := dig_ten (n := 10) (k := 2) (by decide); omega)) (AtS.nat (bs_get hb) (Let.as ((b.toNat - 48 : Nat) : Int) (by rw [w8 (by omega) (by omega)]; omega) (Let.as ((b.toNat - 48 : Nat) : Int) (wu (by omega) (by omega)) (Call.mk (of_ev _ (by omega)) (Call.mk (plus_ev _ _ (by omega) ?_) (Let.as _ (wi1 (by omega)) (hk _ (by omega) ?_))))))))
  ·have := dig_ten (n := b.toNat - 48) (k := 1) (by omega); omega
  ·rw [hstep]
 ·show dg (dvB (l.take i)) = _
  rw [List.take_of_length_le (by omega)]
theorem power_ev {n : Nat} (hn : n <= 1000) : Ev_ref11_power (dg 10) (n : Int) (dg (10 ^ n)) := by
 refine walk_ref11_power ?_
 unfold W_ref11_power
 refine Call.mk one_ev' (Loop2.up n (fun j p => p = dg (10 ^ j)) rfl ?_)
 rintro i _ k hi rfl hk
 refine Br.d (fun hlt => ?_) (fun hge => ?_)
 ·have h1 : (dig (10 ^ i)).length <= i + 1 := dig_ten (Nat.pow_lt_pow_right (by decide) (by omega))
  have h2 := dig_ten (n := 10) (k := 2) (by decide)
  exact Call.mk (by_ev _ _ (by omega) (by omega)) (Let.as _ (wi1 (by omega)) (hk _ (by omega) (by rw [Nat.pow_succ])))
 ·show dg (10 ^ i) = _
  rw [show i = n by omega]
theorem refexp_ev (h : StrOkX) {l : List UInt8} (hl : l.length <= 9223372036854775807) {q : Nat} (hq : q <= l.length) {sg : Int} (hsg : sg = 1 \/ sg = -1) {A : Prop} {K : Int -> Prop} (hn : expS (l.drop q) sg = none -> A) (hk : ∀ e, expS (l.drop q) sg = some e -> K e) :
    Call (Ev_ref11_upto (bs l) (q : Int)) fun x164 =>
      Br (x164 != (((bs l).size : Nat) : Int)) A (
        Let (IntKind.i64.wrap (x164 - (q : Int))) fun x168 =>
        Br (decide (x168 < (1 : Int))) A (
          Let (IntKind.i64.wrap (x164 - (q : Int))) fun x169 =>
          Br (decide (x169 > (2 : Int))) A (
            SlS (bs l) (q : Int) x164 fun x170 =>
            Call (Ev_strconv_Atoi x170) fun x171 =>
            Let (IntKind.i64.wrap (sg * x171.1)) fun x173 => K x173))) := by
  have hsp := span_le digitB (l.drop q)
  rw [List.length_drop] at hsp
  obtain ⟨n, hn'⟩ : ∃ n, n = span digitB (l.drop q) := ⟨_, rfl⟩
  have hu := rupto_ev hl hq
  rw [← hn'] at hsp hu
  have no : ¬ (n = l.length - q /\ 1 <= l.length - q /\ l.length - q <= 2) -> A := fun hc => hn (by unfold expS; rw [List.length_drop, ← hn', if_neg hc])
  refine Call.mk hu ⟨fun h1 => no ?_, fun h1 => ?_⟩
  · rw [bs_size] at h1
    have : ((q + n : Nat) : Int) ≠ (l.length : Int) := by simpa using h1
    omega
  rw [bs_size] at h1
  have h1' : ((q + n : Nat) : Int) = (l.length : Int) := by simpa using h1
  have hnl : n = l.length - q := by omega
  have wn : IntKind.i64.wrap (((q + n : Nat) : Int) - (q : Int)) = (n : Int) := by rw [wi (by omega) (by omega)]; omega
  refine Let.as _ wn (Br.d (fun h2 => no (by omega)) (fun h2 => Let.as _ wn (Br.d (fun h3 => no (by omega)) (fun h3 => ?_))))
  have hlen : span digitB (l.drop q) = (l.drop q).length := by rw [← hn', List.length_drop]; exact hnl
  have hat := h.atoi (l.drop q) (by rw [List.length_drop]; omega) (by rw [List.length_drop]; omega) hlen
  have hlt := dvB_lt hlen
  have h2' : 10 ^ (l.drop q).length <= 10 ^ 2 := Nat.pow_le_pow_right (by decide) (by rw [List.length_drop]; omega)
  refine SlS_mid (by omega) (by omega) ?_
  rw [show q + n - q = n by omega, List.take_of_length_le (by rw [List.length_drop]; omega)]
  refine Call.mk hat (Let.as (sg * (dvB (l.drop q) : Int)) ?_ (hk _ ?_))
  · rcases hsg with rfl | rfl <;> exact wi (by show _ <= _ * (dvB (l.drop q) : Int); omega) (by show _ * (dvB (l.drop q) : Int) < _; omega)
  · unfold expS; rw [List.length_drop, ← hn', if_pos ⟨hnl, by omega, by omega⟩]
theorem refrest_ev (h : StrOkX) {l : List UInt8} (hl : l.length <= 9223372036854775807) {p : Nat} (hp : p <= l.length) {c : Int} (hc : -40 <= c /\ c <= 0) {A : Prop} {K : Int -> Prop} (hn : restS (l.drop p) = none -> A) (hk : ∀ e, restS (l.drop p) = some e -> K (c + e)) :
    Join1 (fun j115 =>
      Br (decide ((p : Int) < (((bs l).size : Nat) : Int))) (
       Join1 (fun j123 =>
        AtS (bs l) (p : Int) fun x125 =>
        Br (x125 != (101 : Int)) (
         AtS (bs l) (p : Int) fun x128 =>
         j123 (x128 != (69 : Int))) (
         j123 false)
       ) (fun (x122 : Bool) =>
        Br x122 A (
         Let (IntKind.i64.wrap ((p : Int) + (1 : Int))) fun x130 =>
         Join1 (fun j138 =>
          Br (decide (x130 < (((bs l).size : Nat) : Int))) (
           AtS (bs l) x130 fun x140 =>
           Br (x140 == (43 : Int)) (j138 true) (
            AtS (bs l) x130 fun x143 =>
            j138 (x143 == (45 : Int)))) (
           j138 false)
         ) (fun (x137 : Bool) =>
          Join2 (fun j155 =>
           Br x137 (
            AtS (bs l) x130 fun x157 =>
            Join1 (fun j160 =>
             Br (x157 == (45 : Int)) (j160 (-1 : Int)) (
              j160 (1 : Int))
            ) (fun (x159 : Int) =>
             Let (IntKind.i64.wrap (x130 + (1 : Int))) fun x161 =>
             j155 x161 x159)) (
            j155 x130 (1 : Int))
          ) (fun (x153 : Int) (x154 : Int) =>
           Call (Ev_ref11_upto (bs l) x153) fun x164 =>
           Br (x164 != (((bs l).size : Nat) : Int)) A (
            Let (IntKind.i64.wrap (x164 - x153)) fun x168 =>
            Br (decide (x168 < (1 : Int))) A (
             Let (IntKind.i64.wrap (x164 - x153)) fun x169 =>
             Br (decide (x169 > (2 : Int))) A (
              SlS (bs l) x153 x164 fun x170 =>
              Call (Ev_strconv_Atoi x170) fun x171 =>
              Let (IntKind.i64.wrap (x154 * x171.1)) fun x173 =>
              Let (IntKind.i64.wrap (c + x173)) fun x174 =>
              j115 x174)))))))) (
       j115 c)
     ) K := by
  refine ⟨fun x => ∃ e, restS (l.drop p) = some e /\ x = c + e, ?_, fun x ⟨e, he, hx⟩ => by rw [hx]; exact hk e he⟩
  rw [bs_size]
  refine Br.d (fun hlt => ?_) (fun hge => ⟨0, by rw [List.drop_of_length_le (by omega)]; rfl, by omega⟩)
  obtain ⟨b, hb⟩ : ∃ b, l[p]? = some b := ⟨_, List.getElem?_eq_getElem (by omega)⟩
  obtain ⟨v, hv⟩ : ∃ v, v = l.drop (p + 1) := ⟨_, rfl⟩
  have hd : l.drop p = b :: v := by
    obtain ⟨h1, h2⟩ := List.getElem?_eq_some_iff.1 hb
    rw [List.drop_eq_getElem_cons h1, h2, hv]
  by_cases cc : (b.toNat : Int) = 101 \/ (b.toNat : Int) = 69
  · refine ⟨fun x => x = false, AtS.nat (bs_get hb) ?_, ?_⟩
    · rcases cc with c1 | c1
      · exact Br.f (by rw [c1]; rfl) rfl
      · exact Br.t (by rw [c1]; rfl) (AtS.nat (bs_get hb) (by rw [c1]; rfl))
    rintro _ rfl
    refine Br.f rfl (Let.as _ (wi1 (by omega)) ?_)
    have stage : ∀ {q : Nat} {sg : Int}, q <= l.length -> (sg = 1 \/ sg = -1) -> restS (l.drop p) = expS (l.drop q) sg ->
        Call (Ev_ref11_upto (bs l) (q : Int)) fun x164 =>
          Br (x164 != ((l.length : Nat) : Int)) A (
            Let (IntKind.i64.wrap (x164 - (q : Int))) fun x168 =>
            Br (decide (x168 < (1 : Int))) A (
              Let (IntKind.i64.wrap (x164 - (q : Int))) fun x169 =>
              Br (decide (x169 > (2 : Int))) A (
                SlS (bs l) (q : Int) x164 fun x170 =>
                Call (Ev_strconv_Atoi x170) fun x171 =>
                Let (IntKind.i64.wrap (sg * x171.1)) fun x173 =>
                Let (IntKind.i64.wrap (c + x173)) fun x174 => ∃ e, restS (l.drop p) = some e /\ x174 = c + e))) := by
      intro q sg hq hsg he
      have := refexp_ev h hl hq hsg (A := A) (K := fun x173 => Let (IntKind.i64.wrap (c + x173)) fun x174 => ∃ e, restS (l.drop p) = some e /\ x174 = c + e) (fun hh => hn (by rw [he]; exact hh)) (fun e hh => by
        have := expS_lt hsg hh
        exact Let.as (c + e) (wi (by omega) (by omega)) ⟨e, by rw [he]; exact hh, rfl⟩)
      rw [bs_size] at this
      exact this
    by_cases hlt2 : p + 1 < l.length
    · obtain ⟨a, ha⟩ : ∃ a, l[p + 1]? = some a := ⟨_, List.getElem?_eq_getElem hlt2⟩
      have hva : v = a :: l.drop (p + 1 + 1) := by
        obtain ⟨h1, h2⟩ := List.getElem?_eq_some_iff.1 ha
        rw [hv, List.drop_eq_getElem_cons h1, h2]
      have pk : peek v 0 = (a.toNat : Int) := by rw [hva]; rfl
      have vd : v.drop 1 = l.drop (p + 1 + 1) := by rw [hva]; rfl
      by_cases c2 : (a.toNat : Int) = 43 \/ (a.toNat : Int) = 45
      · obtain ⟨sg, hsg, hre, hsj⟩ : ∃ sg : Int, (sg = 1 \/ sg = -1) /\ restS (l.drop p) = expS (l.drop (p + 1 + 1)) sg /\ ∀ k : Int -> Prop, k sg -> Join1 (fun j61 => Br ((a.toNat : Int) == (45 : Int)) (j61 (-1 : Int)) (j61 (1 : Int))) k := by
          by_cases c3 : (a.toNat : Int) = 45
          · exact ⟨-1, .inr rfl, by rw [hd, restS_cons, if_pos cc, pk, if_pos c3, vd], fun k hk => ⟨fun x => x = -1, Br.t (by rw [c3]; rfl) rfl, fun x hx => by subst hx; exact hk⟩⟩
          · exact ⟨1, .inl rfl, by rw [hd, restS_cons, if_pos cc, pk, if_neg c3, if_pos (c2.resolve_right c3), vd], fun k hk => ⟨fun x => x = 1, Br.f (beq_false_of_ne c3) rfl, fun x hx => by subst hx; exact hk⟩⟩
        refine ⟨fun x => x = true, Br.dT (by omega) (AtS.nat (bs_get ha) ?_), ?_⟩
        · rcases c2 with c3 | c3
          · exact Br.t (by rw [c3]; rfl) rfl
          · exact Br.f (by rw [c3]; rfl) (AtS.nat (bs_get ha) (by rw [c3]; rfl))
        · rintro _ rfl
          exact ⟨fun x s => x = ((p + 1 + 1 : Nat) : Int) /\ s = sg, Br.t rfl (AtS.nat (bs_get ha) (hsj _ (Let.as _ (wi1 (by omega)) ⟨rfl, rfl⟩))), fun x s hs => by rw [hs.1, hs.2]; exact stage (by omega) hsg hre⟩
      · have hre : restS (l.drop p) = expS (l.drop (p + 1)) 1 := by rw [hd, restS_cons, if_pos cc, pk, if_neg fun e => c2 (.inr e), if_neg fun e => c2 (.inl e), hv]
        refine ⟨fun x => x = false, Br.dT (by omega) (AtS.nat (bs_get ha) (Br.f (beq_false_of_ne fun e => c2 (.inl e)) (AtS.nat (bs_get ha) (beq_false_of_ne fun e => c2 (.inr e))))), ?_⟩
        rintro _ rfl
        exact ⟨fun x s => x = ((p + 1 : Nat) : Int) /\ s = 1, Br.f rfl ⟨rfl, rfl⟩, fun x s hs => by rw [hs.1, hs.2]; exact stage (by omega) (.inl rfl) hre⟩
    · have hv0 : v = [] := by rw [hv, List.drop_of_length_le (by omega)]
      have hre : restS (l.drop p) = expS (l.drop (p + 1)) 1 := by
        rw [hd, restS_cons, if_pos cc, hv0, ← hv, hv0]; rfl
      refine ⟨fun x => x = false, Br.dF (by omega) rfl, ?_⟩
      rintro _ rfl
      exact ⟨fun x s => x = ((p + 1 : Nat) : Int) /\ s = 1, Br.f rfl ⟨rfl, rfl⟩, fun x s hs => by rw [hs.1, hs.2]; exact stage (by omega) (.inl rfl) hre⟩
  · refine ⟨fun x => x = true, AtS.nat (bs_get hb) (Br.t ?_ (AtS.nat (bs_get hb) ?_)), ?_⟩
    · show ((b.toNat : Int) != 101) = true
      simpa using fun e => cc (.inl e)
    · show ((b.toNat : Int) != 69) = true
      simpa using fun e => cc (.inr e)
    · rintro _ rfl
      exact Br.t rfl (hn (by rw [hd, restS_cons, if_neg cc]))
theorem reffin_ev {a : List UInt8} (ha : a.length <= 80) (hd : span digitB a = a.length) {m : Nat} (hm : m <= 40) {e : Int} (he : -99 <= e /\ e <= 99) :
    Call (Ev_ref11_value (bs a)) fun x181 =>
      Call (Ev_ref01_Of (10 : Int)) fun x183 =>
      Br (decide (-(m : Int) + e >= (0 : Int))) (
       Call (Ev_ref11_power x183 (-(m : Int) + e)) fun x193 =>
       Call (Ev_ref01_By x181 x193) fun x195 =>
       Call (Ev_ref11_one) fun x197 =>
       Call (Ev_ref11_Of false x195 x197) fun x199 =>
       (x199.1, x199.2) = toR (madeS false (dvB a * 10 ^ (e - m).toNat) (10 ^ ((m : Int) - e).toNat))) (
       Let (IntKind.i64.wrap ((0 : Int) - (-(m : Int) + e))) fun x201 =>
       Call (Ev_ref11_power x183 x201) fun x202 =>
       Call (Ev_ref11_Of false x181 x202) fun x204 =>
       (x204.1, x204.2) = toR (madeS false (dvB a * 10 ^ (e - m).toNat) (10 ^ ((m : Int) - e).toNat))) := by
  have hlt := dvB_lt hd
  have hlt80 : dvB a < 10 ^ 80 := Nat.lt_of_lt_of_le hlt (Nat.pow_le_pow_right (by decide) ha)
  have l80 := dig_ten hlt80
  refine Call.mk (value_ev ha hd) (Call.mk (of_ev 10 (by decide)) (Br.d (fun h => ?_) (fun h => ?_)))
  · obtain ⟨n, hn⟩ : ∃ n : Nat, (-(m : Int) + e) = (n : Int) := ⟨(-(m : Int) + e).toNat, by omega⟩
    rw [hn]
    have hp : (dig (10 ^ n)).length <= n + 1 := dig_ten (Nat.pow_lt_pow_right (by decide) (by omega))
    have hb : (dig (dvB a * 10 ^ n)).length <= 80 + n := dig_ten (by rw [Nat.pow_add]; exact Nat.mul_lt_mul_of_pos_right hlt80 (Nat.pow_pos (by decide)))
    have h1 : (dig 1).length <= 1 := dig_ten (by decide)
    refine Call.mk (power_ev (by omega)) (Call.mk (by_ev _ _ (by omega) (by omega)) (Call.mk one_ev' (Call.mk (refOf_ev false _ 1 (by omega) (by omega) (by decide)) ?_)))
    rw [show (e - m).toNat = n by omega, show ((m : Int) - e).toNat = 0 by omega, Nat.pow_zero]
  · obtain ⟨n, hn⟩ : ∃ n : Nat, (m : Int) - e = (n : Int) := ⟨((m : Int) - e).toNat, by omega⟩
    have hp : (dig (10 ^ n)).length <= n + 1 := dig_ten (Nat.pow_lt_pow_right (by decide) (by omega))
    refine Let.as (n : Int) (by rw [wi (by omega) (by omega)]; omega) (Call.mk (power_ev (by omega)) (Call.mk (refOf_ev false _ _ (by omega) (by omega) (Nat.ne_of_gt (Nat.pow_pos (by decide)))) ?_))
    rw [hn, show (e - m).toNat = 0 by omega, Nat.pow_zero, Nat.mul_one, Int.toNat_natCast]
theorem refread_ev (h : StrOkX) {l : List UInt8} (hl : l.length <= 9223372036854775807) : Ev_ref11_Read (bs l) (readS l) := by
  refine walk_ref11_Read ?_
  unfold W_ref11_Read
  have hsp := span_le digitB l
  obtain ⟨n, hn⟩ : ∃ n, n = span digitB l := ⟨_, rfl⟩
  have hu := rupto_ev hl (p := 0) (Nat.zero_le _)
  rw [List.drop_zero, Nat.zero_add, ← hn] at hu
  have none : partsS l = none -> (GRat.zero, (110 : Int)) = readS l := fun hh => by unfold readS; rw [hh]
  rw [← hn] at hsp
  refine Call.mk hu (Br.d (fun c1 => none ?_) (fun c1 => Br.d (fun c2 => none ?_) (fun c2 => ?_)))
  · unfold partsS; rw [← hn, if_pos (by omega)]
  · unfold partsS; rw [← hn, if_pos (by omega)]
  have P : partsS l = if peek l n = 46 then (if span digitB (l.drop (n + 1)) < 1 \/ 40 < span digitB (l.drop (n + 1)) then Option.none else (restS ((l.drop (n + 1)).drop (span digitB (l.drop (n + 1))))).map fun e => (l.take n ++ (l.drop (n + 1)).take (span digitB (l.drop (n + 1))), span digitB (l.drop (n + 1)), e))
      else (restS (l.drop n)).map fun e => (l.take n, 0, e) := by
    unfold partsS; rw [← hn, if_neg (by omega)]
  refine SlS_mid (p := 0) (Nat.zero_le _) hsp ?_
  rw [List.drop_zero, Nat.sub_zero]
  refine ⟨fun b => b = decide (peek l n = 46), ?_, ?_⟩
  · rw [bs_size]
    refine Br.d (fun hlt => ?_) (fun hge => ?_)
    · obtain ⟨b, hb⟩ : ∃ b, l[n]? = some b := ⟨_, List.getElem?_eq_getElem (by omega)⟩
      have : peek l n = (b.toNat : Int) := by unfold peek; rw [hb]
      rw [this]
      exact AtS.nat (bs_get hb) rfl
    · have : peek l n = 0 := by unfold peek; rw [List.getElem?_eq_none (by omega)]
      rw [this]; rfl
  rintro _ rfl
  have dn : span digitB (l.take n) = (l.take n).length := by rw [hn]; exact span_take digitB l
  refine ⟨fun x y z => ∃ (p m : Nat) (a : List UInt8), x = (p : Int) /\ p <= l.length /\ y = bs a /\ z = -(m : Int) /\ m <= 40 /\ a.length <= 80 /\ span digitB a = a.length /\ partsS l = (restS (l.drop p)).map fun e => (a, m, e), ?_, ?_⟩
  · refine Br.d (fun hdot => ?_) (fun hdot => ⟨n, 0, l.take n, rfl, hsp, rfl, rfl, by omega, by simp; omega, dn, by rw [P, if_neg hdot]⟩)
    have hlt : n < l.length := by
      by_cases hh : n < l.length
      · exact hh
      · have : peek l n = 0 := by unfold peek; rw [List.getElem?_eq_none (by omega)]
        omega
    obtain ⟨m, hm⟩ : ∃ m, m = span digitB (l.drop (n + 1)) := ⟨_, rfl⟩
    have hms := span_le digitB (l.drop (n + 1))
    rw [List.length_drop] at hms
    have hu2 := rupto_ev hl (p := n + 1) (by omega)
    rw [← hm] at hu2 hms
    rw [if_pos hdot, ← hm] at P
    have w1 : IntKind.i64.wrap (((n + 1 + m : Nat) : Int) - (n : Int)) = ((m + 1 : Nat) : Int) := by rw [wi (by omega) (by omega)]; omega
    have w2 : IntKind.i64.wrap (((m + 1 : Nat) : Int) - 1) = (m : Int) := by rw [wi (by omega) (by omega)]; omega
    refine Let.as _ (wi1 (by omega)) (Call.mk hu2 (Let.as _ w1 (Let.as _ w2 (Br.d (fun c3 => none (by rw [P, if_pos (by omega)])) (fun c3 => Let.as _ w1 (Let.as _ w2 (Br.d (fun c4 => none (by rw [P, if_pos (by omega)])) (fun c4 => Let.as _ (wi1 (by omega)) ?_))))))))
    refine SlS_mid (by omega) (by omega) ?_
    rw [show n + 1 + m - (n + 1) = m by omega]
    refine ⟨by rw [bs_size, bs_size]; simp; omega, Let.as (bs (l.take n ++ (l.drop (n + 1)).take m)) (bs_append _ _) (Let.as _ (wi1 (by omega)) (Let.as (-(m : Int)) (by rw [wi (by omega) (by omega)]; omega) ?_))⟩
    refine ⟨n + 1 + m, m, _, rfl, by omega, rfl, rfl, by omega, by simp; omega, ?_, ?_⟩
    · refine span_all.2 fun b hb => ?_
      rcases List.mem_append.1 hb with hb | hb
      · exact span_all.1 dn b hb
      · rw [hm] at hb; exact span_all.1 (span_take digitB _) b hb
    · rw [P, if_neg (by omega), List.drop_drop]
  rintro _ _ _ ⟨p, m, a, rfl, hp, rfl, rfl, hm, ha, hda, hP⟩
  refine refrest_ev h hl hp (by omega) (fun hh => none (by rw [hP, hh]; rfl)) (fun e hh => ?_)
  have := reffin_ev ha hda hm (restS_lt hh)
  have hr : readS l = toR (madeS false (dvB a * 10 ^ (e - m).toNat) (10 ^ ((m : Int) - e).toNat)) := by
    unfold readS; rw [hP, hh]; rfl
  rw [hr]
  exact this
end Go.Sim.YtomeghkmdcfolaaGreatDoor
