/- What is proved: sums of numbers as lists of digits. -/
import Derived.Test.YtlkpbnhinnhlfaaGreatZLFWF3

namespace Go.Sim.YtlkpbnhinnhlfaaGreat
open Go.RowKit Go.Proofs Go.Proofs.Tryz
theorem getD_none {l : List Nat} {i : Nat} (h : l.length ≤ i) : l.getD i 0 = 0 := by
  rw [List.getD_eq_getElem?_getD, List.getElem?_eq_none h]; rfl
theorem plus_ev (a b : Nat) (ha : (dig a).length ≤ 1000000) (hb : (dig b).length ≤ 1000000) : Ev_ref01_Plus (dg a) (dg b) (dg (a + b)) := by
  refine walk_ref01_Plus ?_
  unfold W_ref01_Plus
  rw [dl_len, dl_len]
  refine ⟨fun x y z => ∃ (o : List Nat) (c i : Nat), x = dl o ∧ y = (c : Int) ∧ z = (i : Int) ∧ dOk o ∧ o.length = i ∧ i ≤ max (dig a).length (dig b).length ∧ c ≤ 1 ∧ dval ((dig a).take i) + dval ((dig b).take i) = dval o + 4294967296 ^ i * c, fun _ _ z => max (dig a).length (dig b).length - z.toNat, ⟨[], 0, 0, rfl, rfl, rfl, fun _ h => (by cases h), rfl, by omega, by omega, by simp [dval]⟩, ?_⟩
  rintro _ _ _ ⟨o, c, i, rfl, rfl, rfl, k1, k2, k3, k4, k5⟩
  refine ⟨fun x => x = decide (i < (dig a).length ∨ i < (dig b).length), ?_, fun x hx => ?_⟩
  · refine Br.d (fun h => ?_) (fun h => ?_)
    · show _ = _; symm; rw [decide_eq_true_iff]; omega
    · show _ = _; rw [decide_eq_decide]; omega
  subst hx
  refine Br.d (fun h => ?_) (fun h => ?_)
  · have ga := getD_dig a i
    have gb := getD_dig b i
    refine ⟨fun x => x = ((c + (dig a).getD i 0 : Nat) : Int), ?_, fun x hx => ?_⟩
    · refine Br.d (fun h1 => At.dl (by omega) fun d hd => Let.as (d : Int) (wu (by omega) (by have := dOk_dig a d (List.mem_of_getElem? hd); omega)) (Let.as ((c + d : Nat) : Int) (by have := dOk_dig a d (List.mem_of_getElem? hd); rw [wu (by omega) (by omega)]; omega) (by rw [getD_at hd]))) (fun h1 => by rw [getD_none (by omega)]; rfl)
    subst hx
    refine ⟨fun x => x = ((c + (dig a).getD i 0 + (dig b).getD i 0 : Nat) : Int), ?_, fun x hx => ?_⟩
    · refine Br.d (fun h1 => At.dl (by omega) fun d hd => Let.as (d : Int) (wu (by omega) (by have := dOk_dig b d (List.mem_of_getElem? hd); omega)) (Let.as ((c + (dig a).getD i 0 + d : Nat) : Int) (by have := dOk_dig b d (List.mem_of_getElem? hd); rw [wu (by omega) (by omega)]; omega) (by rw [getD_at hd]))) (fun h1 => by rw [getD_none (l := dig b) (by omega)]; rfl)
    subst hx
    have hst := plus_step k2 k5 rfl
    have ht2 : c + (dig a).getD i 0 + (dig b).getD i 0 < 8589934592 := by omega
    generalize c + (dig a).getD i 0 + (dig b).getD i 0 = t at *
    refine Let.as _ (w32N t) ⟨by simp only [List.length_cons, List.length_nil, dl_len]; unfold maxLen; omega, by simp only [List.length_cons, List.length_nil, dl_len]; omega, Let.as (dl (o ++ [t % 4294967296])) (by rw [dl_app]; rfl) (Let.as ((t / 4294967296 : Nat) : Int) (shrC t 32) (Let.as ((i + 1 : Nat) : Int) (by rw [wi (by omega) (by omega)]; omega) ⟨⟨o ++ [t % 4294967296], t / 4294967296, i + 1, rfl, rfl, rfl, dOk_append.2 ⟨k1, fun x hx => by simp at hx; omega⟩, by simp; omega, by omega, by omega, hst⟩, by simp only [Int.toNat_natCast]; omega⟩))⟩
  · rw [List.take_of_length_le (by omega), List.take_of_length_le (by omega), dval_dig, dval_dig] at k5
    have hend : dval (o ++ [c]) = a + b := by
      rw [dval_append, k2]; simp only [dval, Nat.mul_zero, Nat.add_zero]; exact k5.symm
    refine Let.as (c : Int) (by rw [w32N, Nat.mod_eq_of_lt (by omega)]) ⟨by simp only [List.length_cons, List.length_nil, dl_len]; unfold maxLen; omega, by simp only [List.length_cons, List.length_nil, dl_len]; omega, Let.as (dl (o ++ [c])) (by rw [dl_app]; rfl) ?_⟩
    rw [← hend]
    exact Call.mk (trim_ev (o ++ [c]) (dOk_append.2 ⟨k1, fun x hx => by simp at hx; omega⟩) (by simp; omega)) rfl
theorem dl_set (l : List Nat) (i y : Nat) : List.set (dl l) i ((y : Nat) : Int) = dl (l.set i y) := by simp [dl, List.map_set]
theorem by_ev (a b : Nat) (ha : (dig a).length ≤ 100000) (hb : (dig b).length ≤ 100000) : Ev_ref01_By (dg a) (dg b) (dg (a * b)) := by
  refine walk_ref01_By ?_
  unfold W_ref01_By
  rw [dl_len, dl_len]
  generalize hla : (dig a).length = la
  generalize hlb : (dig b).length = lb
  refine Let.as ((la + lb : Nat) : Int) (by rw [wi (by omega) (by omega)]; omega) (Let.as ((la + lb + 1 : Nat) : Int) (by rw [wi (by omega) (by omega)]; omega) ⟨by omega, by omega, by omega, Let.as (dl (List.replicate (la + lb + 1) 0)) (by rw [Int.toNat_natCast]; simp [dl]) ?_⟩)
  refine ⟨fun x z => ∃ (p : List Nat) (i : Nat), x = dl p ∧ z = (i : Int) ∧ dOk p ∧ p.length = la + lb + 1 ∧ i ≤ la ∧ dval p = dval ((dig a).take i) * b, fun _ z => la - z.toNat, ⟨List.replicate (la + lb + 1) 0, 0, rfl, rfl, fun d hd => by (have := (List.mem_replicate.1 hd).2; omega), by simp, by omega, by simp [dval, dval_replicate]⟩, ?_⟩
  rintro _ _ ⟨p, i, rfl, rfl, k1, k2, k3, k4⟩
  refine Br.d (fun h => ?_) (fun h => ?_)
  · obtain ⟨d, hd⟩ : ∃ d, (dig a)[i]? = some d := ⟨_, List.getElem?_eq_getElem (by omega)⟩
    have hd0 := dOk_dig a d (List.mem_of_getElem? hd)
    obtain ⟨f0, hf0⟩ : ∃ f, p[i + lb]? = some f := ⟨_, List.getElem?_eq_getElem (by omega)⟩
    have hz0 : f0 = 0 := high_zero hf0 (by rw [k4]; exact take_mul_lt hlb (by omega))
    subst hz0
    refine ⟨fun x y z => ∃ (q : List Nat) (c j : Nat), x = dl q ∧ y = (c : Int) ∧ z = (j : Int) ∧ dOk q ∧ q.length = la + lb + 1 ∧ j ≤ lb ∧ c < 4294967296 ∧ q[i + lb]? = some 0 ∧ dval q + 4294967296 ^ (i + j) * c = dval ((dig a).take i) * b + 4294967296 ^ i * (d * dval ((dig b).take j)), fun _ _ z => lb - z.toNat,
      ⟨p, 0, 0, rfl, rfl, rfl, k1, k2, by omega, by omega, hf0, by rw [k4]; simp [dval]⟩, ?_⟩
    rintro _ _ _ ⟨q, c, j, rfl, rfl, rfl, m1, m2, m3, m4, m5, m6⟩
    refine Br.d (fun h2 => ?_) (fun h2 => ?_)
    · refine At.dl (by omega) fun d' hd' => ?_
      rw [hd] at hd'; cases hd'
      refine Let.as (d : Int) (wu (by omega) (by omega)) (At.dl (by omega) fun e he => ?_)
      have he0 := dOk_dig b e (List.mem_of_getElem? he)
      have hde : d * e ≤ 4294967295 * 4294967295 := Nat.mul_le_mul (by omega) (by omega)
      refine Let.as (e : Int) (wu (by omega) (by omega)) (Let.as ((d * e : Nat) : Int) (by rw [← Int.natCast_mul, wu (by omega) (by omega)]) (Let.as ((i + j : Nat) : Int) (by rw [wi (by omega) (by omega)]; omega) (At.dl (by omega) fun f hf => ?_)))
      have hf1 := m1 f (List.mem_of_getElem? hf)
      have hst := by_step hf (getD_at he) rfl m6
      refine Let.as (f : Int) (wu (by omega) (by omega)) (Let.as ((d * e + f : Nat) : Int) (by rw [wu (by omega) (by omega)]; omega) (Let.as ((d * e + f + c : Nat) : Int) (by rw [wu (by omega) (by omega)]; omega) (Let.as ((i + j : Nat) : Int) (by rw [wi (by omega) (by omega)]; omega) ?_)))
      have ht2 : d * e + f + c < 18446744073709551616 := by omega
      generalize d * e + f + c = t at *
      refine Let.as _ (w32N t) (At.dl (by omega) fun f' hf' => Let.as ((t / 4294967296 : Nat) : Int) (shrC t 32) (Let.as ((j + 1 : Nat) : Int) (by rw [wi (by omega) (by omega)]; omega) ⟨⟨q.set (i + j) (t % 4294967296), t / 4294967296, j + 1, by rw [Int.toNat_natCast, dl_set], rfl, rfl, dOk_set m1 (by omega), by rw [List.length_set]; exact m2, by omega, by omega, by rw [List.getElem?_set_ne (by omega)]; exact m5, hst⟩, by simp only [Int.toNat_natCast]; omega⟩))
    · have hj : j = lb := by omega
      subst hj
      have hend := by_end hlb m4 m5 (getD_at hd) m6
      refine Let.as ((i + j : Nat) : Int) (by rw [wi (by omega) (by omega)]; omega) (Let.as _ (w32N c) (At.dl (by omega) fun f hf => Let.as ((i + 1 : Nat) : Int) (by rw [wi (by omega) (by omega)]; omega) ⟨⟨q.set (i + j) (c % 4294967296), i + 1, by rw [Int.toNat_natCast, dl_set], rfl, dOk_set m1 (by omega), by rw [List.length_set]; exact m2, by omega, hend⟩, by simp only [Int.toNat_natCast]; omega⟩))
  · rw [List.take_of_length_le (by omega), dval_dig] at k4
    rw [← k4]
    exact Call.mk (trim_ev p k1 (by omega)) rfl
/-- A number of the reference: its sign, its amount and its exponent. -/
def numZ (s : Bool) (m : Nat) (e : Int) : Gref01Num := ⟨s, dg m, e⟩
theorem dg_len0 (m : Nat) : (((dg m).length : Nat) : Int) = 0 ↔ m = 0 := by
  rw [dl_len]
  constructor
  · intro h; exact dig_nil.1 (List.eq_nil_of_length_eq_zero (by omega))
  · intro h; subst h; rw [dig_zero]; rfl
theorem sign_ev (s : Bool) (m : Nat) (e : Int) : Ev_ref01_Sign (numZ s m e) (sgS s m) := by
  refine walk_ref01_Sign ?_
  unfold W_ref01_Sign
  unfold sgS
  refine Br.e (fun h => ?_) (fun h => ?_)
  · rw [if_pos ((dg_len0 m).1 h)]
  · rw [if_neg (fun e => h ((dg_len0 m).2 e))]
    cases s with
    | true => exact Br.t rfl rfl
    | false => exact Br.f rfl rfl
theorem product_ev (s t : Bool) (m n : Nat) (e f : Int) (hm : (dig m).length ≤ 100000) (hn : (dig n).length ≤ 100000) (he : -1000000 ≤ e ∧ e ≤ 1000000) (hf : -1000000 ≤ f ∧ f ≤ 1000000) :
    Ev_ref01_Product (numZ s m e) (numZ t n f) (if m * n = 0 then Gref01Num.zero else numZ (s != t) (m * n) (e + f)) := by
  refine walk_ref01_Product ?_
  unfold W_ref01_Product
  refine Call.mk (by_ev m n hm hn) (Br.e (fun h => ?_) (fun h => ?_))
  · rw [if_pos ((dg_len0 _).1 h)]
  · rw [if_neg (fun e => h ((dg_len0 _).2 e))]
    exact Let.as (e + f) (wi (by show _ ≤ e + f; omega) (by show e + f < _; omega)) rfl
theorem level_ev (s t : Bool) (m n : Nat) (e f : Int) (hm : (dig m).length ≤ 100000) (hn : (dig n).length ≤ 100000) (he : -1000000 ≤ e ∧ e ≤ 1000000) (hf : -1000000 ≤ f ∧ f ≤ 1000000) :
    Ev_ref01_level (numZ s m e) (numZ t n f) (numZ s (m * 2 ^ (e - f).toNat) (min e f), numZ t (n * 2 ^ (f - e).toNat) (min e f)) := by
  refine walk_ref01_level ?_
  unfold W_ref01_level
  refine ⟨fun x => x = numZ s (m * 2 ^ (e - f).toNat) (min e f), ?_, fun x hx => ?_⟩
  · refine Br.d (fun h => ?_) (fun h => ?_)
    · have h' : e > f := h
      have := left_ev m (e - f).toNat hm (by omega)
      rw [show (((e - f).toNat : Nat) : Int) = e - f by omega] at this
      refine Let.as (e - f) (wi (by show _ ≤ e - f; omega) (by show e - f < _; omega)) (Call.mk this ?_)
      show Gref01Num.mk _ _ _ = numZ _ _ _
      unfold numZ
      congr 1
      show f = min e f; omega
    · have h' : ¬ e > f := h
      rw [show (e - f).toNat = 0 by omega, Nat.pow_zero, Nat.mul_one, show min e f = e by omega]
  · subst hx
    refine ⟨fun x => x = numZ t (n * 2 ^ (f - e).toNat) (min e f), ?_, fun x hx => ?_⟩
    · refine Br.d (fun h => ?_) (fun h => ?_)
      · have h' : f > min e f := h
        have := left_ev n (f - e).toNat hn (by omega)
        rw [show (((f - e).toNat : Nat) : Int) = f - min e f by omega] at this
        refine Let.as (f - min e f) (wi (by show _ ≤ f - min e f; omega) (by show f - min e f < _; omega)) (Call.mk this rfl)
      · have h' : ¬ f > min e f := h
        rw [show (f - e).toNat = 0 by omega, Nat.pow_zero, Nat.mul_one, show min e f = f by omega]
    · subst hx; rfl
/-- The reference's sum. -/
def sumZ (s : Bool) (m : Nat) (e : Int) (t : Bool) (n : Nat) (f : Int) : Gref01Num :=
  if m = 0 then numZ t n f else if n = 0 then numZ s m e else
    if s = t then numZ s (m * 2 ^ (e - f).toNat + n * 2 ^ (f - e).toNat) (min e f) else
      if m * 2 ^ (e - f).toNat = n * 2 ^ (f - e).toNat then Gref01Num.zero else
        if n * 2 ^ (f - e).toNat < m * 2 ^ (e - f).toNat then numZ s (m * 2 ^ (e - f).toNat - n * 2 ^ (f - e).toNat) (min e f) else numZ t (n * 2 ^ (f - e).toNat - m * 2 ^ (e - f).toNat) (min e f)
theorem sum_ev01 (s t : Bool) (m n : Nat) (e f : Int) (hm : (dig m).length ≤ 100000) (hn : (dig n).length ≤ 100000) (hm2 : (dig (m * 2 ^ (e - f).toNat)).length ≤ 1000000) (hn2 : (dig (n * 2 ^ (f - e).toNat)).length ≤ 1000000)
    (he : -1000000 ≤ e ∧ e ≤ 1000000) (hf : -1000000 ≤ f ∧ f ≤ 1000000) : Ev_ref01_Sum (numZ s m e) (numZ t n f) (sumZ s m e t n f) := by
  refine walk_ref01_Sum ?_
  unfold W_ref01_Sum
  unfold sumZ
  refine Br.e (fun h => ?_) (fun h => Br.e (fun h2 => ?_) (fun h2 => Call.mk (level_ev s t m n e f hm hn he hf) ?_))
  · rw [if_pos ((dg_len0 _).1 h)]
  · rw [if_neg (fun e => h ((dg_len0 _).2 e)), if_pos ((dg_len0 _).1 h2)]
  · rw [if_neg (fun e => h ((dg_len0 _).2 e)), if_neg (fun e => h2 ((dg_len0 _).2 e))]
    generalize m * 2 ^ (e - f).toNat = M at *
    generalize n * 2 ^ (f - e).toNat = N at *
    by_cases hs : s = t
    · rw [if_pos hs]
      exact Br.t (by show (s == t) = true; simp [hs]) (Call.mk (plus_ev M N hm2 hn2) rfl)
    · rw [if_neg hs]
      refine Br.f (by show (s == t) = false; simp [hs]) (Call.mk (cmp_ev M N hm2) ?_)
      refine Br.e (fun c => ?_) (fun c => ?_)
      · have : M = N := by unfold cmpS at c; split at c <;> (try split at c) <;> omega
        rw [if_pos this]
      · have hne : M ≠ N := by intro e; subst e; exact c (by unfold cmpS; rw [if_neg (by omega), if_neg (by omega)])
        rw [if_neg hne]
        refine Br.d (fun g => ?_) (fun g => ?_)
        · have hlt : N < M := by unfold cmpS at g; split at g <;> (try split at g) <;> omega
          rw [if_pos hlt]
          exact Call.mk (less_ev M N hm2 (by omega)) rfl
        · have hlt : ¬ N < M := by
            intro hl; apply g; unfold cmpS; rw [if_neg (by omega), if_pos hl]; decide
          rw [if_neg hlt]
          exact Call.mk (less_ev N M hn2 (by omega)) rfl
end Go.Sim.YtlkpbnhinnhlfaaGreat
