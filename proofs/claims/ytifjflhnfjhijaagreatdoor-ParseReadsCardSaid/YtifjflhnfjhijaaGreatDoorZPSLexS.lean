/- What is proved: the reference's Lex yields what the program's does: lexS. -/
import Derived.Test.YtifjflhnfjhijaaGreatDoorZPSLexR
import Derived.Test.YtifjflhnfjhijaaGreatDoorZPSBigY
import Derived.Test.YtifjflhnfjhijaaGreatDoorZPSWF4

namespace Go.Sim.YtifjflhnfjhijaaGreatDoor
open Go.RowKit Go.Proofs Go.Proofs.Tryz
structure qYs (L : LexL) : Prop where
 rd : ∀ s, s.size <= 20000 -> q8e s (L.rd s)
 ix : ∀ b : UInt8, L.ix (b.toNat : Int) < 0 ↔ sgL.contains (b.toNat : Int) = false
 wd : ∀ s : ByteArray, s.size <= 24 -> q61 s (mget L.wd s).isSome
theorem qSh {l : List UInt8} {p n : Nat} {k : ByteArray -> Prop} (h : p + n <= l.length) (hk : k (bs ((l.drop p).take n))) : SlS (bs l) (p : Int) ((p + n : Nat) : Int) k := by
 refine SlS.tl (s := bs l) (by rw [q0f]; exact h) ?_
 have e : tl (bs l) p = l.drop p := by
  have := q5n (bs l) 0 p
  rw [qJg, Nat.zero_add] at this; exact this.symm
 rw [e]; exact hk
theorem qSi {L : LexL} (hR : qYs L) (l : List UInt8) : q9b (bs l) (lexS L l) := by
  refine qK7 ?_
  unfold qEg lexS
  rw [q0f]
  refine Br.d (fun h => ?_) (fun h => ?_)
  · rw [if_pos (by omega)]
  rw [if_neg (by omega)]
  have hl : l.length <= 20000 := by omega
  have hb := qGn hl (p := 0) (Nat.zero_le _)
  rw [List.drop_zero, Nat.zero_add] at hb
  have hk := qJk l
  refine Call.mk hb ?_
  obtain ⟨res, hres⟩ : ∃ res, res = lexL L (l.drop (skip l)) (skip l) 0 := ⟨_, rfl⟩
  rw [← hres]
  refine ⟨fun out x => ∃ q : Nat, x = (q : Int) /\ q <= l.length /\ out.length <= 4000 /\ res = (if (lexL L (l.drop q) q out.length).2.1 = 0 then (out ++ (lexL L (l.drop q) q out.length).1, 0, 0) else ([], (lexL L (l.drop q) q out.length).2)),
    fun _ x => l.length - x.toNat, ⟨skip l, rfl, by omega, by simp, ?_⟩, ?_⟩
  · show res = if (lexL L (l.drop (skip l)) (skip l) 0).2.1 = 0 then _ else _
    rw [hres, List.nil_append]
    exact (qMu _ _ _).symm
  rintro out _ ⟨q, rfl, hq, ho, he⟩
  refine Br.d (fun hlt => ?_) (fun hge => ?_)
  rotate_left
  · have hq' : q = l.length := by omega
    rw [qHi (List.drop_of_length_le (by omega)), if_pos rfl] at he
    refine App.le' (by decide) (by simp; omega) ?_
    rw [he, hq']
  have hq1 : q < l.length := by omega
  have hne : l.drop q ≠ [] := fun h => by have := congrArg List.length h; rw [List.length_drop] at this; simp at this; omega
  refine Br.d (fun hn => ?_) (fun hn => ?_)
  · rw [qF3 hne (by omega), if_neg (show ¬ (2 : Int) = 0 by decide)] at he
    rw [he]
  have hn' : ¬ 4000 <= out.length := by omega
  have ht := qJl (L := L) (p := q) hne
  rw [List.length_drop] at ht
  obtain ⟨b, hb1, hpk⟩ := q87 hq1
  have e0 : peek (l.drop q) 0 = (b.toNat : Int) := by rw [q91, Nat.add_zero, hpk]
  have bad : ∀ {e : Int}, (tok L (l.drop q) q).1.2 = e -> e ≠ 0 -> (([] : List GToken), e, (q : Int)) = res := fun {e} h1 h2 => by
    rw [qHj hne hn' (by rw [h1]; exact h2), h1, if_neg h2] at he
    exact he.symm
  refine AtS.nat hb1 (Call.mk (qGm b) ⟨fun x t => (tok L (l.drop q) q).1.2 = 0 /\ x = ((q + (tok L (l.drop q) q).2 : Nat) : Int) /\ t = (tok L (l.drop q) q).1.1, ?_, ?_⟩)
  · refine ⟨fun hc => ?_, fun hc => ?_⟩
    · have hc' : q4z (peek (l.drop q) 0) = true := by rw [e0]; exact hc
      obtain ⟨n, hn2⟩ : ∃ n, n = span q7y (l.drop q) := ⟨_, rfl⟩
      have hnl := q1o q7y (l.drop q)
      rw [← hn2, List.length_drop] at hnl
      refine ⟨fun x => x = ((q + n : Nat) : Int), ?_, ?_⟩
      · refine ⟨fun z => ∃ r : Nat, z = (r : Int) /\ r <= l.length /\ r + span q7y (l.drop r) = q + n, fun z => l.length - z.toNat, ⟨q, rfl, hq, by rw [hn2]⟩, ?_⟩
        rintro _ ⟨r, rfl, hr, hre⟩
        refine Br.d (fun hlt2 => ?_) (fun hge2 => ?_)
        · have hr1 : r < l.length := by omega
          obtain ⟨d, hd1, hdk⟩ := q87 hr1
          rw [qO4 hr1, hdk] at hre
          have go : q7y (d.toNat : Int) = true -> Let (IntKind.i64.wrap ((r : Int) + (1 : Int))) fun x => (∃ r : Nat, x = (r : Int) /\ r <= l.length /\ r + span q7y (l.drop r) = q + n) /\ l.length - x.toNat < l.length - (r : Int).toNat := fun h => by
            rw [if_pos h] at hre
            refine Let.as _ (wi1 (by omega)) ⟨⟨r + 1, rfl, by omega, by omega⟩, ?_⟩
            simp only [Int.toNat_natCast]; omega
          refine AtS.nat hd1 (Call.mk (qGm d) ⟨fun h1 => go (by unfold q7y; rw [h1]; rfl), fun h1 => AtS.nat hd1 (Call.mk (q94 _) ⟨fun h2 => go (by unfold q7y; rw [h2]; simp), fun h2 => AtS.nat hd1 ⟨fun h3 => go (by unfold q7y; rw [h3]; simp), fun h3 => ?_⟩⟩)⟩)
          rw [if_neg (by unfold q7y; rw [h1, h2, h3]; decide)] at hre
          show (r : Int) = _
          omega
        · rw [List.drop_of_length_le (by omega)] at hre
          simp only [span] at hre
          show (r : Int) = _
          omega
      rintro _ rfl
      refine Let.as (n : Int) (by rw [wi (by omega) (by omega)]; omega) (Br.d (fun h24 => ?_) (fun h24 => ?_))
      · exact bad (by unfold tok; rw [if_pos hc', ← hn2, if_pos (by omega)]) (by decide)
      have e : tok L (l.drop q) q = (({ GToken.zero with Kind := if (mget L.wd (bs ((l.drop q).take n))).isSome = true then 2 else 1, S := bs ((l.drop q).take n), At := q }, 0), n) := by
        unfold tok; rw [if_pos hc', ← hn2, if_neg (by omega)]
      refine qSh (by omega) (Call.mk (hR.wd _ (by rw [q0f, List.length_take, List.length_drop]; omega)) ⟨fun hw => ?_, fun hw => ?_⟩)
      · rw [e]; exact ⟨rfl, rfl, by simp [hw]⟩
      · rw [e]; exact ⟨rfl, rfl, by simp [hw]⟩
    · have hc' : ¬ q4z (peek (l.drop q) 0) = true := by rw [e0, hc]; decide
      refine AtS.nat hb1 (Call.mk (q94 _) ⟨fun hd => ?_, fun hd => ?_⟩)
      · have hd' : q05 (peek (l.drop q) 0) = true := by rw [e0]; exact hd
        have e : tok L (l.drop q) q = (({ GToken.zero with Kind := 3, Num := (L.rd (bs ((l.drop q).take (q55 (l.drop q))))).1, At := q }, (L.rd (bs ((l.drop q).take (q55 (l.drop q))))).2), q55 (l.drop q)) := by
          unfold tok; rw [if_neg hc', if_pos hd']
        have hnl := qMt (l.drop q)
        rw [List.length_drop] at hnl
        refine Call.mk (qMy hl hq) (qSh (by omega) (Call.mk (hR.rd _ (by rw [q0f, List.length_take, List.length_drop]; omega)) ⟨fun hr => ?_, fun hr => ?_⟩))
        · exact bad (by rw [e]) (by simpa using hr)
        · have hr' : (L.rd (bs ((l.drop q).take (q55 (l.drop q))))).2 = 0 := by simpa using hr
          rw [e]; exact ⟨hr', rfl, rfl⟩
      · have hd' : ¬ q05 (peek (l.drop q) 0) = true := by rw [e0, hd]; decide
        have hs := qQ0 hl hq1
        have hix := hR.ix b
        rw [← e0] at hix
        by_cases hi : L.ix (peek (l.drop q) 0) < 0
        · have hno := hix.1 hi
          have sg0 : sgN (l.drop q) = 0 := by
            unfold sgN
            rw [if_neg (fun h2 => by rw [h2.1] at hno; revert hno; decide), if_neg (by rw [hno]; decide)]
          rw [sg0, Nat.add_zero] at hs
          exact Call.mk hs (Br.t (by simp) (bad (by unfold tok; rw [if_neg hc', if_neg hd', if_pos hi]) (by decide)))
        · have hyes : sgL.contains (peek (l.drop q) 0) = true := by
            cases hcc : sgL.contains (peek (l.drop q) 0) with
            | true => rfl
            | false => exact absurd (hix.2 hcc) hi
          have key : ∀ n : Nat, sgN (l.drop q) = n -> 0 < n -> q + n <= l.length -> tok L (l.drop q) q = (({ GToken.zero with Kind := 4, S := bs ((l.drop q).take n), At := q }, 0), n) ->
              Br (((q + sgN (l.drop q) : Nat) : Int) == (q : Int)) ((([] : List GToken), (120 : Int), (q : Int)) = res) (SlS (bs l) (q : Int) ((q + sgN (l.drop q) : Nat) : Int) fun x1308 =>
                (tok L (l.drop q) q).1.2 = 0 /\ ((q + sgN (l.drop q) : Nat) : Int) = ((q + (tok L (l.drop q) q).2 : Nat) : Int) /\ ({ GToken.zero with Kind := (4 : Int), S := x1308, At := (q : Int) } : GToken) = (tok L (l.drop q) q).1.1) := by
            intro n h1 h2 h3 h4
            rw [h1]
            refine Br.f (beq_false_of_ne (by omega)) (qSh h3 ?_)
            rw [h4]; exact ⟨rfl, rfl, rfl⟩
          refine Call.mk hs ?_
          by_cases h2 : peek (l.drop q) 0 = 46 /\ peek (l.drop q) 1 = 46
          · have := q8k (l := l.drop q) (n := 1) (by rw [h2.2]; decide)
            rw [List.length_drop] at this
            exact key 2 (by unfold sgN; rw [if_pos h2]) (by decide) (by omega) (by unfold tok; rw [if_neg hc', if_neg hd', if_neg hi, if_pos h2])
          · exact key 1 (by unfold sgN; rw [if_neg h2, if_pos hyes]) (by decide) (by omega) (by unfold tok; rw [if_neg hc', if_neg hd', if_neg hi, if_neg h2])
  rintro _ _ ⟨hb', rfl, rfl⟩
  rw [qF4 hne hn' hb'] at he
  have hsk := qJk ((l.drop q).drop (tok L (l.drop q) q).2)
  rw [List.length_drop, List.length_drop] at hsk
  have hm : more L (l.drop q) q = (tok L (l.drop q) q).2 + skip (l.drop (q + (tok L (l.drop q) q).2)) := by unfold more; rw [List.drop_drop]
  have h1 := ht.2 hb'
  rw [List.drop_drop] at hsk
  refine App.le' (by decide) (by simp; omega) (Call.mk (qGn hl (by omega)) ⟨⟨q + more L (l.drop q) q, ?_, ?_, ?_, ?_⟩, ?_⟩)
  · rw [hm, Nat.add_assoc]
  · rw [hm]; omega
  · rw [List.length_append]; simp; omega
  · rw [he, List.drop_drop, List.length_append]
    rw [show out.length + [(tok L (l.drop q) q).1.1].length = out.length + 1 from rfl]
    generalize lexL L (l.drop (q + more L (l.drop q) q)) (q + more L (l.drop q) q) (out.length + 1) = z
    by_cases hz : z.2.1 = 0
    · simp [hz]
    · simp [hz]
  · show l.length - ((q + (tok L (l.drop q) q).2 + skip (l.drop (q + (tok L (l.drop q) q).2)) : Nat) : Int).toNat < l.length - ((q : Nat) : Int).toNat
    rw [Int.toNat_natCast, Int.toNat_natCast]; omega
end Go.Sim.YtifjflhnfjhijaaGreatDoor

/- What is proved: sums of numbers as lists of digits. -/
namespace Go.Sim.YtifjflhnfjhijaaGreatDoor
open Go.RowKit Go.Proofs Go.Proofs.Tryz
theorem qMz {l : List Nat} {i : Nat} (h : l.length <= i) : l.getD i 0 = 0 := by
 rw [List.getD_eq_getElem?_getD, List.getElem?_eq_none h]; rfl
theorem qSj (a b : Nat) (ha : (dig a).length <= 1000000) (hb : (dig b).length <= 1000000) : q8g (dg a) (dg b) (dg (a + b)) := by
 refine qIz ?_
 unfold qCh
 rw [q2v, q2v]
 refine ⟨fun x y z => ∃ (o : List Nat) (c i : Nat), x = dl o /\ y = (c : Int) /\ z = (i : Int) /\ dOk o /\ o.length = i /\ i <= max (dig a).length (dig b).length /\ c <= 1 /\ dval ((dig a).take i) + dval ((dig b).take i) = dval o + 4294967296 ^ i * c, fun _ _ z => max (dig a).length (dig b).length - z.toNat, ⟨[], 0, 0, rfl, rfl, rfl, fun _ h => (by cases h), rfl, by omega, by omega, by simp [dval]⟩, ?_⟩
 rintro _ _ _ ⟨o, c, i, rfl, rfl, rfl, k1, k2, k3, k4, k5⟩
 refine ⟨fun x => x = decide (i < (dig a).length \/ i < (dig b).length), ?_, fun x hx => ?_⟩
 ·refine Br.d (fun h => ?_) (fun h => ?_)
  ·show _ = _; symm; rw [decide_eq_true_iff]; omega
  ·show _ = _; rw [decide_eq_decide]; omega
 subst hx
 refine Br.d (fun h => ?_) (fun h => ?_)
 ·have ga := qKt a i
  have gb := qKt b i
  refine ⟨fun x => x = ((c + (dig a).getD i 0 : Nat) : Int), ?_, fun x hx => ?_⟩
  ·refine Br.d (fun h1 => At.dl (by omega) fun d hd => Let.as (d : Int) (wu (by omega) (by have := q59 a d (List.mem_of_getElem? hd); omega)) (Let.as ((c + d : Nat) : Int) (by have := q59 a d (List.mem_of_getElem? hd); rw [wu (by omega) (by omega)]; omega) (by rw [qE9 hd]))) (fun h1 => by rw [qMz (by omega)]; rfl)
  subst hx
  refine ⟨fun x => x = ((c + (dig a).getD i 0 + (dig b).getD i 0 : Nat) : Int), ?_, fun x hx => ?_⟩
  ·refine Br.d (fun h1 => At.dl (by omega) fun d hd => Let.as (d : Int) (wu (by omega) (by have := q59 b d (List.mem_of_getElem? hd); omega)) (Let.as ((c + (dig a).getD i 0 + d : Nat) : Int) (by have := q59 b d (List.mem_of_getElem? hd); rw [wu (by omega) (by omega)]; omega) (by rw [qE9 hd]))) (fun h1 => by rw [qMz (l := dig b) (by omega)]; rfl)
  subst hx
  have hst := qQt k2 k5 rfl
  have ht2 : c + (dig a).getD i 0 + (dig b).getD i 0 < 8589934592 := by omega
  generalize c + (dig a).getD i 0 + (dig b).getD i 0 = t at *
  refine Let.as _ (w32N t) ⟨by simp only [List.length_cons, List.length_nil, q2v]; unfold maxLen; omega, by simp only [List.length_cons, List.length_nil, q2v]; omega, Let.as (dl (o ++ [t % 4294967296])) (by rw [qMh]; rfl) (Let.as ((t / 4294967296 : Nat) : Int) (shrC t 32) (Let.as ((i + 1 : Nat) : Int) (by rw [wi (by omega) (by omega)]; omega) ⟨⟨o ++ [t % 4294967296], t / 4294967296, i + 1, rfl, rfl, rfl, q8m.2 ⟨k1, fun x hx => by simp at hx; omega⟩, by simp; omega, by omega, by omega, hst⟩, by simp only [Int.toNat_natCast]; omega⟩))⟩
 ·rw [List.take_of_length_le (by omega), List.take_of_length_le (by omega), q24, q24] at k5
  have hend : dval (o ++ [c]) = a + b := by
   rw [q19, k2]; simp only [dval, Nat.mul_zero, Nat.add_zero]; exact k5.symm
  refine Let.as (c : Int) (by rw [w32N, Nat.mod_eq_of_lt (by omega)]) ⟨by simp only [List.length_cons, List.length_nil, q2v]; unfold maxLen; omega, by simp only [List.length_cons, List.length_nil, q2v]; omega, Let.as (dl (o ++ [c])) (by rw [qMh]; rfl) ?_⟩
  rw [← hend]
  exact Call.mk (qJ7 (o ++ [c]) (q8m.2 ⟨k1, fun x hx => by simp at hx; omega⟩) (by simp; omega)) rfl
theorem qUy (l : List Nat) (i y : Nat) : List.set (dl l) i ((y : Nat) : Int) = dl (l.set i y) := by simp [dl, List.map_set]
theorem qW9 (a b : Nat) (ha : (dig a).length <= 100000) (hb : (dig b).length <= 100000) : q76 (dg a) (dg b) (dg (a * b)) := by
 refine qL8 ?_
 unfold qG3
 rw [q2v, q2v]
 generalize hla : (dig a).length = la
 generalize hlb : (dig b).length = lb
 refine Let.as ((la + lb : Nat) : Int) (by rw [wi (by omega) (by omega)]; omega) (Let.as ((la + lb + 1 : Nat) : Int) (by rw [wi (by omega) (by omega)]; omega) ⟨by omega, by omega, by omega, Let.as (dl (List.replicate (la + lb + 1) 0)) (by rw [Int.toNat_natCast]; simp [dl]) ?_⟩)
 refine ⟨fun x z => ∃ (p : List Nat) (i : Nat), x = dl p /\ z = (i : Int) /\ dOk p /\ p.length = la + lb + 1 /\ i <= la /\ dval p = dval ((dig a).take i) * b, fun _ z => la - z.toNat, ⟨List.replicate (la + lb + 1) 0, 0, rfl, rfl, fun d hd => by (have := (List.mem_replicate.1 hd).2; omega), by simp, by omega, by simp [dval, qDo]⟩, ?_⟩
 rintro _ _ ⟨p, i, rfl, rfl, k1, k2, k3, k4⟩
 refine Br.d (fun h => ?_) (fun h => ?_)
 ·obtain ⟨d, hd⟩ : ∃ d, (dig a)[i]? = some d := ⟨_, List.getElem?_eq_getElem (by omega)⟩
  have hd0 := q59 a d (List.mem_of_getElem? hd)
  obtain ⟨f0, hf0⟩ : ∃ f, p[i + lb]? = some f := ⟨_, List.getElem?_eq_getElem (by omega)⟩
  have hz0 : f0 = 0 := qQx hf0 (by rw [k4]; exact qNc hlb (by omega))
  subst hz0
  refine ⟨fun x y z => ∃ (q : List Nat) (c j : Nat), x = dl q /\ y = (c : Int) /\ z = (j : Int) /\ dOk q /\ q.length = la + lb + 1 /\ j <= lb /\ c < 4294967296 /\ q[i + lb]? = some 0 /\ dval q + 4294967296 ^ (i + j) * c = dval ((dig a).take i) * b + 4294967296 ^ i * (d * dval ((dig b).take j)), fun _ _ z => lb - z.toNat,
   ⟨p, 0, 0, rfl, rfl, rfl, k1, k2, by omega, by omega, hf0, by rw [k4]; simp [dval]⟩, ?_⟩
  rintro _ _ _ ⟨q, c, j, rfl, rfl, rfl, m1, m2, m3, m4, m5, m6⟩
  refine Br.d (fun h2 => ?_) (fun h2 => ?_)
  ·refine At.dl (by omega) fun d' hd' => ?_
   rw [hd] at hd'; cases hd'
   refine Let.as (d : Int) (wu (by omega) (by omega)) (At.dl (by omega) fun e he => ?_)
   have he0 := q59 b e (List.mem_of_getElem? he)
   have hde : d * e <= 4294967295 * 4294967295 := Nat.mul_le_mul (by omega) (by omega)
   refine Let.as (e : Int) (wu (by omega) (by omega)) (Let.as ((d * e : Nat) : Int) (by rw [← Int.natCast_mul, wu (by omega) (by omega)]) (Let.as ((i + j : Nat) : Int) (by rw [wi (by omega) (by omega)]; omega) (At.dl (by omega) fun f hf => ?_)))
   have hf1 := m1 f (List.mem_of_getElem? hf)
   have hst := qV9 hf (qE9 he) rfl m6
   refine Let.as (f : Int) (wu (by omega) (by omega)) (Let.as ((d * e + f : Nat) : Int) (by rw [wu (by omega) (by omega)]; omega) (Let.as ((d * e + f + c : Nat) : Int) (by rw [wu (by omega) (by omega)]; omega) (Let.as ((i + j : Nat) : Int) (by rw [wi (by omega) (by omega)]; omega) ?_)))
   have ht2 : d * e + f + c < 18446744073709551616 := by omega
   generalize d * e + f + c = t at *
   refine Let.as _ (w32N t) (At.dl (by omega) fun f' hf' => Let.as ((t / 4294967296 : Nat) : Int) (shrC t 32) (Let.as ((j + 1 : Nat) : Int) (by rw [wi (by omega) (by omega)]; omega) ⟨⟨q.set (i + j) (t % 4294967296), t / 4294967296, j + 1, by rw [Int.toNat_natCast, qUy], rfl, rfl, qQw m1 (by omega), by rw [List.length_set]; exact m2, by omega, by omega, by rw [List.getElem?_set_ne (by omega)]; exact m5, hst⟩, by simp only [Int.toNat_natCast]; omega⟩))
  ·have hj : j = lb := by omega
   subst hj
   have hend := qWm hlb m4 m5 (qE9 hd) m6
   refine Let.as ((i + j : Nat) : Int) (by rw [wi (by omega) (by omega)]; omega) (Let.as _ (w32N c) (At.dl (by omega) fun f hf => Let.as ((i + 1 : Nat) : Int) (by rw [wi (by omega) (by omega)]; omega) ⟨⟨q.set (i + j) (c % 4294967296), i + 1, by rw [Int.toNat_natCast, qUy], rfl, qQw m1 (by omega), by rw [List.length_set]; exact m2, by omega, hend⟩, by simp only [Int.toNat_natCast]; omega⟩))
 ·rw [List.take_of_length_le (by omega), q24] at k4
  rw [← k4]
  exact Call.mk (qJ7 p k1 (by omega)) rfl
theorem qSk (m : Nat) : (((dg m).length : Nat) : Int) = 0 ↔ m = 0 := by
 rw [q2v]
 constructor
 ·intro h; exact qI2.1 (List.eq_nil_of_length_eq_zero (by omega))
 ·intro h; subst h; rw [q4b]; rfl
end Go.Sim.YtifjflhnfjhijaaGreatDoor

/- What is proved: the reference's quotients of whole numbers: how often, what is made. -/
namespace Go.Sim.YtifjflhnfjhijaaGreatDoor
open Go.RowKit Go.Proofs Go.Proofs.Tryz
theorem qUz (a b : Nat) (ha : (dig a).length <= 10000) (hb : (dig b).length <= 10000) (hb0 : b ≠ 0) : q9e (dg a) (dg b) (dg (a / b)) := by
 have la := q5q ha
 have lb := q5q hb
 refine qK1 ?_
 unfold qE8
 refine Call.mk (qJ8 a (by omega)) (Call.mk (qJ8 b (by omega)) (Let.as ((blen a : Int) - (blen b : Int)) (wi (by omega) (by omega)) ?_))
 refine ⟨fun x y k => ∃ A q : Nat, x = dg A /\ y = dg q /\ a = b * (q * 2 ^ (k + 1).toNat) + A /\ A < b * 2 ^ (k + 1).toNat /\ k <= 320000, fun _ _ k => (k + 1).toNat, ⟨a, 0, rfl, by rw [dg, q4b]; rfl, by rw [Nat.zero_mul, Nat.mul_zero, Nat.zero_add], qOk hb0, by omega⟩, ?_⟩
 rintro _ _ k ⟨A, q, rfl, rfl, k1, k3, k4⟩
 have hAa : A <= a := by rw [k1]; omega
 have lA : (dig A).length <= 10000 := by have := q4c hAa; omega
 refine Br.d (fun c => ?_) (fun c => ?_)
 ·obtain ⟨m, rfl⟩ := Int.eq_ofNat_of_zero_le c
  have hsh : (dig (b * 2 ^ m)).length <= 1000000 := by
   have h1 := qGg (b * 2 ^ m)
   have h2 := qGh b m
   omega
  have e1 : ((m : Int) + 1).toNat = m + 1 := by omega
  rw [e1, Nat.pow_succ] at k1 k3
  have hb1 : 1 <= b := by omega
  have hqa : q <= a := by
   have h1 : q * 1 <= q * (2 ^ m * 2) := Nat.mul_le_mul_left _ (by have := Nat.two_pow_pos m; omega)
   have h2 : 1 * (q * (2 ^ m * 2)) <= b * (q * (2 ^ m * 2)) := Nat.mul_le_mul_right _ hb1
   omega
  have hq2 : q * 2 ^ 1 <= a := by
   have h1 : q * 2 <= q * (2 ^ m * 2) := Nat.mul_le_mul_left _ (by have := Nat.two_pow_pos m; omega)
   have h2 : 1 * (q * (2 ^ m * 2)) <= b * (q * (2 ^ m * 2)) := Nat.mul_le_mul_right _ hb1
   omega
  have lq : (dig q).length <= 10000 := by have := q4c hqa; omega
  have lq2 : (dig (q * 2 ^ 1)).length <= 10000 := by have := q4c hq2; omega
  have l1 : (dig 1).length <= 1000000 := by
   have := q74 (n := 1) (k := 1) (by decide); omega
  have assoc : ∀ x : Nat, b * (x * 2 * 2 ^ m) = b * (x * (2 ^ m * 2)) := fun x => by rw [Nat.mul_assoc x 2, Nat.mul_comm 2]
  refine Call.mk (qNt b m (by omega) (by omega)) (Call.mk (qNt q 1 (by omega) (by omega)) (Call.mk (qRo _ A hsh) ⟨fun x y => ∃ A' q' : Nat, x = dg A' /\ y = dg q' /\ a = b * (q' * 2 ^ m) + A' /\ A' < b * 2 ^ m, ?_, ?_⟩))
  ·refine ⟨fun h => ?_, fun h => ?_⟩
   ·have hle := qQy h
    refine Call.mk (qRp A (b * 2 ^ m) (by omega) hle) (Call.mk (qNr 1 (by decide)) (Call.mk (qSj _ 1 (by omega) l1) ⟨A - b * 2 ^ m, q * 2 ^ 1 + 1, rfl, rfl, ?_, ?_⟩))
    ·rw [Nat.pow_one, Nat.add_mul, Nat.one_mul, Nat.mul_add, assoc]; omega
    ·rw [← Nat.mul_assoc] at k3; omega
   ·refine ⟨A, q * 2 ^ 1, rfl, rfl, ?_, qQz h⟩
    rw [Nat.pow_one, assoc]; exact k1
  ·rintro _ _ ⟨A', q', rfl, rfl, q1, q3⟩
   refine Let.as ((m : Int) - 1) (wi (by omega) (by omega)) ⟨⟨A', q', rfl, rfl, ?_, ?_, by omega⟩, ?_⟩
   ·rw [show ((m : Int) - 1 + 1).toNat = m by omega]; exact q1
   ·rw [show ((m : Int) - 1 + 1).toNat = m by omega]; exact q3
   ·show ((m : Int) - 1 + 1).toNat < ((m : Int) + 1).toNat; omega
 ·have e1 : (k + 1).toNat = 0 := by omega
  rw [e1, Nat.pow_zero, Nat.mul_one] at k1 k3
  show dg q = dg (a / b)
  rw [k1, Nat.mul_add_div (by omega), Nat.div_eq_of_lt k3, Nat.add_zero]
theorem qN0 (a : Nat) (ha : (dig a).length <= 10000) : q9d (dg a) (IntKind.i64.wrap ((a % 18446744073709551616 : Nat) : Int), decide (blen a <= 63)) := by
 have la := q5q ha
 have hl : (dg a).length = (dig a).length := q2v _
 refine qK0 ?_
 unfold qE7
 refine Let.as (((dig a).length : Int) - 1) (by rw [hl]; exact wi (by omega) (by omega)) ?_
 refine ⟨fun n i => ∃ k : Nat, k <= (dig a).length /\ i = (k : Int) - 1 /\ n = ((dval ((dig a).drop k) % 18446744073709551616 : Nat) : Int), fun _ i => (i + 1).toNat, ⟨(dig a).length, Nat.le_refl _, rfl, by rw [List.drop_length]; rfl⟩, ?_⟩
 rintro _ _ ⟨k, hk, rfl, rfl⟩
 refine Br.d (fun c => ?_) (fun c => ?_)
 ·obtain ⟨m, rfl⟩ : ∃ m, k = m + 1 := ⟨k - 1, by omega⟩
  have hm : (((m + 1 : Nat) : Int) - 1) = (m : Int) := by omega
  rw [hm]
  obtain ⟨d, hd⟩ : ∃ d, (dig a)[m]? = some d := ⟨_, List.getElem?_eq_getElem (by omega)⟩
  have hdl := q59 a d (List.mem_of_getElem? hd)
  have hdv := qR0 hd
  refine Let.as ((dval ((dig a).drop (m + 1)) * 4294967296 % 18446744073709551616 : Nat) : Int) (by rw [wuM]; omega) ?_
  refine At.dl (l := dig a) (by omega) fun d' hd' => ?_
  rw [hd] at hd'; cases hd'
  refine Let.as ((d : Nat) : Int) (by rw [wu (by omega) (by omega)]) (Let.as ((dval ((dig a).drop m) % 18446744073709551616 : Nat) : Int) (by rw [qWn (s := 32) (by omega) (by omega) (by omega) (by omega), hdv]; congr 1; omega) (Let.as ((m : Int) - 1) (wi (by omega) (by omega)) ⟨⟨m, by omega, rfl, rfl⟩, ?_⟩))
  show ((m : Int) - 1 + 1).toNat < ((m : Int) + 1).toNat; omega
 ·have hk0 : k = 0 := by omega
  subst hk0
  rw [List.drop_zero, q24]
  refine Let.it (Call.mk (qJ8 a (by omega)) ?_)
  show (_, decide (((blen a : Nat) : Int) <= 63)) = _
  congr 1
  rw [decide_eq_decide]; omega
theorem qN1 {a : Nat} (h : a < 9223372036854775808) : IntKind.i64.wrap ((a % 18446744073709551616 : Nat) : Int) = (a : Int) := by
 rw [Nat.mod_eq_of_lt (by omega), wi (by omega) (by omega)]
theorem qLj (s : Bool) (n d : Nat) (hn : (dig n).length <= 10000) (hd : (dig d).length <= 10000) (hd0 : d ≠ 0) : q5b s (dg n) (dg d) (toR (q4d s n d)) := by
 refine qL9 ?_
 unfold qG4
 by_cases h0 : n = 0
 ·subst h0
  refine Br.t (beq_iff_eq.2 ((qSk 0).2 rfl)) ?_
  rw [qKe hd0]
 have hg : Nat.gcd n d ≠ 0 := by
  intro h
  exact hd0 (Nat.eq_zero_of_gcd_eq_zero_right h)
 have hgl : (dig (Nat.gcd n d)).length <= 10000 := by
  have := q4c (Nat.gcd_le_right n (Nat.pos_of_ne_zero hd0)); omega
 have hxl : (dig (n / Nat.gcd n d)).length <= 10000 := by have := q4c (Nat.div_le_self n (Nat.gcd n d)); omega
 have hyl : (dig (d / Nat.gcd n d)).length <= 10000 := by have := q4c (Nat.div_le_self d (Nat.gcd n d)); omega
 have bl : ∀ x : Nat, decide (blen x <= 63) = decide (x < 9223372036854775808) := fun x => by rw [decide_eq_decide]; exact q2w x 63
 refine Br.f (by
  rw [Bool.eq_false_iff]
  intro h
  exact h0 ((qSk n).1 (by simpa using h))) ?_
 refine Call.mk (qMi n d hn hd) (Call.mk (qUz n _ hn hgl hg) (Call.mk (qN0 _ hxl) (Call.mk (qUz d _ hd hgl hg) (Call.mk (qN0 _ hyl) ?_))))
 rw [bl, bl]
 unfold q4d
 generalize n / Nat.gcd n d = X
 generalize d / Nat.gcd n d = Y
 by_cases h1 : X < 9223372036854775808
 ·refine Br.f (by simp [h1]) ?_
  by_cases h2 : Y < 9223372036854775808
  ·refine Br.f (by simp [h2]) ?_
   rw [if_pos ⟨h1, h2⟩, qN1 h1, qN1 h2]
   refine ⟨fun x => x = if s = true then -(X : Int) else (X : Int), ⟨fun h => Let.as (-(X : Int)) (by rw [wi (by omega) (by omega)]; omega) ?_, fun h => ?_⟩, ?_⟩
   ·show _ = _; rw [if_pos h]
   ·show _ = _; rw [if_neg (by simp [h])]
   ·rintro _ rfl; rfl
  ·refine Br.t (by simp [h2]) ?_
   rw [if_neg (fun h => h2 h.2)]
 ·refine Br.t (by simp [h1]) ?_
  rw [if_neg (fun h => h1 h.1)]
end Go.Sim.YtifjflhnfjhijaaGreatDoor

/- Nothing: the walks of orreryref11.Read stand in WF4. -/
