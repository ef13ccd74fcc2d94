/- What is proved: what Lex yields, as a plain function of the text. -/
import Derived.Test.YtifjflhnfjhijaaGreatDoorZPSStrN

namespace Go.Sim.YtifjflhnfjhijaaGreatDoor
open Go.RowKit Go.Proofs Go.Proofs.Tryz
def tok (L : LexL) (l : List UInt8) (p : Nat) : (GToken × Int) × Nat :=
  if q4z (peek l 0) = true then
    (if 24 < span q7y l then ((GToken.zero, 2), span q7y l)
     else (({ GToken.zero with Kind := if (mget L.wd (bs (l.take (span q7y l)))).isSome = true then 2 else 1, S := bs (l.take (span q7y l)), At := p }, 0), span q7y l))
  else if q05 (peek l 0) = true then (({ GToken.zero with Kind := 3, Num := (L.rd (bs (l.take (q55 l)))).1, At := p }, (L.rd (bs (l.take (q55 l)))).2), q55 l)
  else if L.ix (peek l 0) < 0 then ((GToken.zero, 120), 0)
  else if peek l 0 = 46 /\ peek l 1 = 46 then (({ GToken.zero with Kind := 4, S := bs (l.take 2), At := p }, 0), 2)
  else (({ GToken.zero with Kind := 4, S := bs (l.take 1), At := p }, 0), 1)
variable {L : LexL}
theorem qW2 (hL : L.Ok) {s : ByteArray} {p : Nat} (hs : s.size <= 20000) (hp : p <= s.size) (hc : q4z (peek (tl s p) 0) = true) : q75 (lx s p L.wd) ((tok L (tl s p) p).1, lx s (p + (tok L (tl s p) p).2) L.wd) := by
 refine qEc ?_
 unfold q85 tok
 rw [if_pos hc]
 have h1 := q1o q7y (tl s p)
 have h2 := q90 s p
 refine Call.mk (q93 (by omega) hp fun b => qBt (qTr _)) ?_
 show SlS s (p : Int) ((p + span q7y (tl s p) : Nat) : Int) _
 refine SlS.tl (by omega) (Br.d (fun h => ?_) (fun h => ?_))
 ·rw [q0f, List.length_take] at h
  rw [if_pos (by omega)]
 ·rw [q0f, List.length_take] at h
  rw [if_neg (by omega)]
  refine ⟨fun x => x = if (mget L.wd (bs ((tl s p).take (span q7y (tl s p))))).isSome = true then 2 else 1, ?_, fun x hx => by subst hx; rfl⟩
  show Br ((mget L.wd _).isSome) _ _
  cases hm : (mget L.wd (bs ((tl s p).take (span q7y (tl s p))))).isSome with
  | true => exact Br.t rfl rfl
  | false => exact Br.f rfl rfl
theorem qRy {l : List UInt8} (h : l ≠ []) : ∃ b : UInt8, peek l 0 = (b.toNat : Int) := by
 cases l with
 | nil => exact absurd rfl h
 | cons b l => exact ⟨b, rfl⟩
theorem qTs (hL : L.Ok) {s : ByteArray} {p : Nat} (hs : s.size <= 20000) (hp : p < s.size) : q5y (lx s p L.wd) ((tok L (tl s p) p).1, lx s (p + (tok L (tl s p) p).2) L.wd) := by
  have hs9 : s.size <= 9000000000 := by omega
  refine qDk ?_
  unfold q7f
  have n0 := q8l (w := L.wd) hs9 (Nat.le_of_lt hp) 0 (by decide)
  have n1 := q8l (w := L.wd) hs9 (Nat.le_of_lt hp) 1 (by decide)
  have hlen := q90 s p
  obtain ⟨b, hb⟩ := qRy (l := tl s p) (fun h => by rw [h] at hlen; simp at hlen; omega)
  refine Call.mk n0 (Call.mk (qMo _) ?_)
  cases hc : q4z (peek (tl s p) 0) with
  | true => exact Br.t rfl (Call.mk (qW2 hL hs (Nat.le_of_lt hp) hc) rfl)
  | false =>
    refine Br.f rfl (Call.mk (qF2 _) ?_)
    cases hd : q05 (peek (tl s p) 0) with
    | true =>
      have e : tok L (tl s p) p = (({ GToken.zero with Kind := 3, Num := (L.rd (bs ((tl s p).take (q55 (tl s p))))).1, At := p }, (L.rd (bs ((tl s p).take (q55 (tl s p))))).2), q55 (tl s p)) := by
        unfold tok; rw [if_neg (by simp [hc]), if_pos hd]
      rw [e]
      exact Br.t rfl (Call.mk (qRx hL hs (Nat.le_of_lt hp)) rfl)
    | false =>
      have hi := hL.ix b
      rw [← hb] at hi
      refine Br.f rfl (Call.mk hi (Br.d (fun h => ?_) (fun h => ?_)))
      · have e : tok L (tl s p) p = ((GToken.zero, 120), 0) := by
          unfold tok; rw [if_neg (by simp [hc]), if_neg (by simp [hd]), if_pos h]
        rw [e]; rfl
      · refine ⟨fun x => x = decide (peek (tl s p) 0 = 46 /\ peek (tl s p) 1 = 46), ?_, ?_⟩
        · refine Br.e (fun h1 => Call.mk n1 ?_) (fun h1 => ?_)
          · show (peek (tl s p) 1 == 46) = _
            by_cases h2 : peek (tl s p) 1 = 46
            · rw [decide_eq_true ⟨h1, h2⟩, h2]; rfl
            · rw [decide_eq_false (fun h3 => h2 h3.2)]; exact beq_false_of_ne h2
          · show false = _
            rw [decide_eq_false (fun h3 => h1 h3.1)]
        · rintro _ rfl
          have key : ∀ n : Nat, tok L (tl s p) p = (({ GToken.zero with Kind := 4, S := bs ((tl s p).take n), At := p }, 0), n) -> p + n <= s.size ->
              Let (IntKind.i64.wrap ((lx s p L.wd).at_ + (n : Int))) (fun x32 => SlS (lx s p L.wd).s_ (lx s p L.wd).at_ x32 fun x33 => Let (IntKind.i64.wrap ((lx s p L.wd).at_ + (n : Int))) fun x34 =>
                ((({ GToken.zero with Kind := (4 : Int), S := x33, At := (lx s p L.wd).at_ }), (0 : Int)), ({ lx s p L.wd with at_ := x34 })) = ((tok L (tl s p) p).1, lx s (p + (tok L (tl s p) p).2) L.wd)) := by
            intro n e hn
            have ew : IntKind.i64.wrap (((p : Nat) : Int) + (n : Int)) = ((p + n : Nat) : Int) := by rw [wi (by omega) (by omega)]; omega
            refine Let.as _ ew ?_
            show SlS s (p : Int) ((p + n : Nat) : Int) _
            refine SlS.tl hn (Let.as _ ew ?_)
            rw [e]; rfl
          refine ⟨fun x => x = if peek (tl s p) 0 = 46 /\ peek (tl s p) 1 = 46 then 2 else 1, ?_, ?_⟩
          · refine Br.d (fun h1 => ?_) (fun h1 => ?_)
            · show (2 : Int) = _; rw [if_pos h1]
            · show (1 : Int) = _; rw [if_neg h1]
          · rintro _ rfl
            by_cases h2 : peek (tl s p) 0 = 46 /\ peek (tl s p) 1 = 46
            · rw [if_pos h2]
              have := qVu (s := s) (p := p) (n := 1) (by rw [h2.2]; decide)
              exact key 2 (by unfold tok; rw [if_neg (by simp [hc]), if_neg (by simp [hd]), if_neg h, if_pos h2]) (by omega)
            · rw [if_neg h2]
              exact key 1 (by unfold tok; rw [if_neg (by simp [hc]), if_neg (by simp [hd]), if_neg h, if_neg h2]) (by omega)
def lexL (L : LexL) (l : List UInt8) (p n : Nat) : List GToken × Int × Int :=
 if hl : l = [] then ([{ GToken.zero with At := p }], 0, 0)
 else if 4000 <= n then ([], 2, p)
 else if (tok L l p).1.2 ≠ 0 then ([], (tok L l p).1.2, p)
 else if hr : (tok L l p).2 = 0 then ([], 999, 0)
 else
  let z := lexL L (l.drop ((tok L l p).2 + skip (l.drop (tok L l p).2))) (p + ((tok L l p).2 + skip (l.drop (tok L l p).2))) (n + 1)
  if z.2.1 = 0 then ((tok L l p).1.1 :: z.1, 0, 0) else ([], z.2)
termination_by l.length
decreasing_by
 have : l.length ≠ 0 := fun h => hl (List.eq_nil_of_length_eq_zero h)
 rw [List.length_drop]; omega
theorem qNz {c : Int} (h : q4z c = true) : q7y c = true := by unfold q7y; rw [h]; rfl
theorem qP4 {f : Int -> Bool} {l : List UInt8} (hl : l ≠ []) (h : f (peek l 0) = true) : 0 < span f l := by
 cases l with
 | nil => exact absurd rfl hl
 | cons b l =>
  have : f (b.toNat : Int) = true := h
  unfold span; rw [if_pos this]; omega
theorem qJl {l : List UInt8} {p : Nat} (hl : l ≠ []) : (tok L l p).2 <= l.length /\ ((tok L l p).1.2 = 0 -> 1 <= (tok L l p).2) := by
 have hpos : 0 < l.length := by cases l with
  | nil => exact absurd rfl hl
  | cons => simp
 unfold tok
 split
 ·rename_i h
  have h1 := qP4 hl (qNz h)
  have h2 := q1o q7y l
  split
  ·exact ⟨h2, fun _ => h1⟩
  ·exact ⟨h2, fun _ => h1⟩
 ·split
  ·rename_i h
   have h1 := qP4 hl h
   have h2 := qMt l
   exact ⟨h2.2, fun _ => by show 1 <= q55 l; omega⟩
  ·split
   ·exact ⟨Nat.zero_le _, fun h => by simp at h⟩
   ·split
    ·rename_i h
     have := q8k (l := l) (n := 1) (by rw [h.2]; decide)
     exact ⟨by show 2 <= l.length; omega, fun _ => by show 1 <= 2; omega⟩
    ·exact ⟨hpos, fun _ => Nat.le_refl _⟩
theorem qHi {l : List UInt8} {p n : Nat} (h : l = []) : lexL L l p n = ([{ GToken.zero with At := p }], 0, 0) := by rw [lexL, dif_pos h]
theorem qF3 {l : List UInt8} {p n : Nat} (h : l ≠ []) (hn : 4000 <= n) : lexL L l p n = ([], 2, (p : Int)) := by rw [lexL, dif_neg h, if_pos hn]
theorem qHj {l : List UInt8} {p n : Nat} (h : l ≠ []) (hn : ¬ 4000 <= n) (hb : (tok L l p).1.2 ≠ 0) : lexL L l p n = ([], (tok L l p).1.2, (p : Int)) := by rw [lexL, dif_neg h, if_neg hn, if_pos hb]
def more (L : LexL) (l : List UInt8) (p : Nat) : Nat := (tok L l p).2 + skip (l.drop (tok L l p).2)
theorem qF4 {l : List UInt8} {p n : Nat} (h : l ≠ []) (hn : ¬ 4000 <= n) (hb : (tok L l p).1.2 = 0) :
    lexL L l p n = if (lexL L (l.drop (more L l p)) (p + more L l p) (n + 1)).2.1 = 0 then ((tok L l p).1.1 :: (lexL L (l.drop (more L l p)) (p + more L l p) (n + 1)).1, 0, 0) else ([], (lexL L (l.drop (more L l p)) (p + more L l p) (n + 1)).2) := by
  have h1 := (qJl (L := L) (p := p) h).2 hb
  rw [lexL, dif_neg h, if_neg hn, if_neg (by simp [hb]), dif_neg (by omega)]
  rfl
theorem qMu (l : List UInt8) (p n : Nat) : (if (lexL L l p n).2.1 = 0 then ((lexL L l p n).1, (0 : Int), (0 : Int)) else ([], (lexL L l p n).2)) = lexL L l p n := by
 by_cases h : l = []
 ·rw [qHi h, if_pos rfl]
 by_cases hn : 4000 <= n
 ·rw [qF3 h hn, if_neg (show ¬ (2 : Int) = 0 by decide)]
 by_cases hb : (tok L l p).1.2 = 0
 ·rw [qF4 h hn hb]
  split
  ·rw [if_pos rfl]
  ·rfl
 ·rw [qHj h hn hb, if_neg hb]
def lexS (L : LexL) (l : List UInt8) : List GToken × Int × Int :=
 if 20000 < l.length then ([], 2, 0) else lexL L (l.drop (skip l)) (skip l) 0
theorem App.le' {α : Type} {b : Nat} {xs ys : List α} {k : List α -> Prop} (hb : b <= 100) (h : xs.length + ys.length <= 100000) (hk : k (xs ++ ys)) : App b xs ys k :=
 ⟨by unfold maxLen; omega, by
  have := Nat.mul_le_mul h hb
  omega, Let.it hk⟩
theorem qUv (hL : L.Ok) (s : ByteArray) : qD2 s (lexS L (tl s 0)) := by
 refine qMl ?_
 unfold qJb lexS
 have h0 := q90 s 0
 refine Br.d (fun h => ?_) (fun h => ?_)
 ·rw [if_pos (by omega)]
 rw [if_neg (by omega)]
 have hs : s.size <= 20000 := by omega
 have hb := qMq (s := s) (p := 0) (w := L.wd) (by omega) (Nat.zero_le _)
 rw [Nat.zero_add] at hb
 have hk := qJk (tl s 0)
 refine Call.mk hL.wd (Call.mk hb ?_)
 obtain ⟨res, hres⟩ : ∃ res, res = lexL L ((tl s 0).drop (skip (tl s 0))) (skip (tl s 0)) 0 := ⟨_, rfl⟩
 rw [← hres]
 refine ⟨fun x out => ∃ q, x = lx s q L.wd /\ q <= s.size /\ out.length <= 4000 /\ res = (if (lexL L (tl s q) q out.length).2.1 = 0 then (out ++ (lexL L (tl s q) q out.length).1, 0, 0) else ([], (lexL L (tl s q) q out.length).2)),
  fun x _ => s.size - x.at_.toNat, ⟨skip (tl s 0), rfl, by omega, by simp, ?_⟩, ?_⟩
 ·rw [q5n, Nat.zero_add] at hres
  show res = if (lexL L (tl s (skip (tl s 0))) (skip (tl s 0)) 0).2.1 = 0 then _ else _
  rw [hres, List.nil_append]
  exact (qMu _ _ _).symm
 rintro _ out ⟨q, rfl, hq, ho, he⟩
 have hlen := q90 s q
 show Br (decide ((q : Int) < ((s.size : Nat) : Int))) _ _
 refine Br.d (fun hlt => ?_) (fun hge => ?_)
 ·have hne : tl s q ≠ [] := fun h => by rw [h] at hlen; simp at hlen; omega
  refine Br.d (fun hn => ?_) (fun hn => ?_)
  ·rw [qF3 hne (by omega), if_neg (show ¬ (2 : Int) = 0 by decide)] at he
   rw [he]; rfl
  ·have hn' : ¬ 4000 <= out.length := by omega
   have ht := qJl (L := L) (p := q) hne
   refine Call.mk (qTs hL hs (by omega)) ?_
   by_cases hb' : (tok L (tl s q) q).1.2 = 0
   ·rw [qF4 hne hn' hb'] at he
    have hsk := qJk ((tl s q).drop (tok L (tl s q) q).2)
    rw [List.length_drop] at hsk
    have hm : more L (tl s q) q = (tok L (tl s q) q).2 + skip (tl s (q + (tok L (tl s q) q).2)) := by unfold more; rw [q5n]
    have h1 := ht.2 hb'
    refine Br.f (by show ((tok L (tl s q) q).1.2 != 0) = false; rw [hb']; rfl) (App.le' (by decide) (by simp; omega) (Call.mk (qMq (by omega) (by omega)) ⟨⟨q + more L (tl s q) q, ?_, ?_, ?_, ?_⟩, ?_⟩))
    ·rw [hm, Nat.add_assoc]
    ·unfold more; omega
    ·rw [List.length_append]; simp; omega
    ·rw [he, q5n, List.length_append]
     show (if (if _ then _ else _ : List GToken × Int × Int).2.1 = 0 then _ else _) = _
     rw [show out.length + [(tok L (tl s q) q).1.1].length = out.length + 1 from rfl]
     generalize lexL L (tl s (q + more L (tl s q) q)) (q + more L (tl s q) q) (out.length + 1) = z
     by_cases hz : z.2.1 = 0
     ·simp [hz]
     ·simp [hz]
    ·rw [q5n] at hsk
     show s.size - ((q + (tok L (tl s q) q).2 + skip (tl s (q + (tok L (tl s q) q).2)) : Nat) : Int).toNat < s.size - ((q : Nat) : Int).toNat
     rw [Int.toNat_natCast, Int.toNat_natCast]; omega
   ·rw [qHj hne hn' hb', if_neg hb'] at he
    refine Br.t (by show ((tok L (tl s q) q).1.2 != 0) = true; simpa using hb') ?_
    rw [he]; rfl
 ·have hq' : q = s.size := by omega
  rw [qHi (qUu (by omega)), if_pos rfl] at he
  refine App.le' (by decide) (by simp; omega) ?_
  rw [he, hq']
end Go.Sim.YtifjflhnfjhijaaGreatDoor
