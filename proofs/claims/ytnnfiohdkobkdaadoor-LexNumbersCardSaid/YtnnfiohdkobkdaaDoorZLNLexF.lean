/- What is proved: the statement LexNumbers, given what the lexer's callees yield. -/
import Derived.Test.YtnnfiohdkobkdaaDoorZLNLexE
import Derived.Test.YtnnfiohdkobkdaaDoorZLNRatU
namespace Go.Sim.YtnnfiohdkobkdaaDoor
open Go.RowKit Go.Proofs Go.Proofs.Tryd
theorem alldig_len {w : List UInt8} (h : AllDig w) : span digitB w = w.length := by
  have h1 := span_le digitB w
  have h2 := congrArg List.length h.2
  rw [List.length_drop] at h2
  simp at h2; omega
theorem span_head {f : Int → Bool} {w : List UInt8} (h : 1 ≤ span f w) : f (peek w 0) = true := by
  cases w with
  | nil => simp [span] at h
  | cons b w =>
    unfold span at h
    split at h
    · assumption
    · omega
theorem exp_letter {c : Int} (h : c = 101 ∨ c = 69) : bits .or .u8 c 32 = 101 := by rcases h with rfl | rfl <;> decide +kernel
theorem exp_none : ¬ bits .or .u8 0 32 = 101 := by decide +kernel
theorem expEnd_rest {l : List UInt8} {b : Nat} (h : RestOk (l.drop b)) (hb : b ≤ l.length) : expEnd l b = l.length := by
  have pk : ∀ n, peek (l.drop b) n = peek l (b + n) := fun n => peek_drop l b n
  rcases h with h | ⟨c, v, w, hv, hc, hw, hd⟩
  · have hl := congrArg List.length h
    rw [List.length_drop] at hl
    simp at hl
    have e : peek l b = 0 := by
      have := pk 0
      rw [h] at this
      rw [Nat.add_zero] at this
      rw [← this]; rfl
    unfold expEnd
    rw [if_neg (by rw [e]; exact fun hc => exp_none hc.1)]
    omega
  · have hl := congrArg List.length hv
    rw [List.length_drop] at hl
    have e0 : peek l b = (c.toNat : Int) := by have := pk 0; rw [hv] at this; rw [Nat.add_zero] at this; rw [← this]; rfl
    have hlen := alldig_len hd
    have hhead := span_head hd.1
    have dl : ∀ k, l.drop (b + k) = (c :: v).drop k := fun k => by rw [← hv, List.drop_drop]
    unfold expEnd
    rcases hw with ⟨a, ha, hs⟩ | ⟨ha, hs⟩
    · subst ha
      have e1 : peek l (b + 1) = (a.toNat : Int) := by rw [← pk 1, hv]; rfl
      have esk : expSkip l b = 2 := by unfold expSkip; rw [if_pos (by rw [e1]; exact hs)]
      have e2 : peek l (b + 2) = peek w 0 := by rw [← pk 2, hv]; rfl
      rw [esk, if_pos ⟨by rw [e0]; exact exp_letter hc, by rw [e2]; exact hhead⟩, dl 2]
      show b + 2 + span digitB w = _
      simp at hl; omega
    · subst ha
      have e1 : peek l (b + 1) = peek v 0 := by rw [← pk 1, hv]; rfl
      have esk : expSkip l b = 1 := by unfold expSkip; rw [if_neg (by rw [e1]; exact hs)]
      rw [esk, if_pos ⟨by rw [e0]; exact exp_letter hc, by rw [e1]; exact hhead⟩, dl 1]
      show b + 1 + span digitB v = _
      simp at hl; omega
theorem num_all {l : List UInt8} (h : PartsOk l) : numLen l = l.length := by
  obtain ⟨h1, h2⟩ := h
  have hs := span_le digitB l
  unfold numLen
  rcases h2 with ⟨g1, g2, g3⟩ | ⟨g1, g2⟩
  · have hd := span_head g2
    rw [peek_drop, Nat.add_zero] at hd
    have hf : fracEnd l (span digitB l) = span digitB l + 1 + span digitB (l.drop (span digitB l + 1)) := by
      unfold fracEnd; rw [if_pos ⟨g1, hd⟩]
    have hle := fracEnd_le hs
    rw [hf] at hle ⊢
    rw [List.drop_drop] at g3
    exact expEnd_rest g3 hle.2
  · have hf : fracEnd l (span digitB l) = span digitB l := by unfold fracEnd; rw [if_neg (fun hc => g1 hc.1)]
    rw [hf]
    exact expEnd_rest g2 hs
theorem digit_plain {b : UInt8} (h : digitB (b.toNat : Int) = true) : letterB (b.toNat : Int) = false ∧ blankB (b.toNat : Int) = false ∧ (b.toNat : Int) ≠ 47 := by
  have hall : ∀ n : Fin 256, digitB ((UInt8.ofNat n.val).toNat : Int) = true → (letterB ((UInt8.ofNat n.val).toNat : Int) = false ∧ blankB ((UInt8.ofNat n.val).toNat : Int) = false ∧ ((UInt8.ofNat n.val).toNat : Int) ≠ 47) := by decide +kernel
  have := hall ⟨b.toNat, b.toNat_lt⟩ (by simpa using h)
  simpa using this
/-- A blank, or what begins a comment. -/
def gapB (c : Int) : Bool := blankB c || c == 47
theorem blank_law_ev {s : ByteArray} (hs : s.size ≤ 9000000) : Ev_law12_blank s ((tl s 0).any fun b => gapB (b.toNat : Int)) := by
  refine walk_law12_blank ?_
  unfold W_law12_blank
  refine ⟨fun x => ∃ j : Nat, x = (j : Int) ∧ j ≤ s.size ∧ ((tl s 0).any fun b => gapB (b.toNat : Int)) = ((tl s j).any fun b => gapB (b.toNat : Int)), fun x => s.size - x.toNat, ⟨0, rfl, Nat.zero_le _, rfl⟩, ?_⟩
  rintro _ ⟨j, rfl, hj, he⟩
  refine Br.d (fun h => ?_) (fun h => ?_)
  · obtain ⟨b, hb, ht⟩ := tl_cons (s := s) (p := j) (by omega)
    rw [ht, List.any_cons] at he
    have fin : gapB (b.toNat : Int) = true → true = ((tl s 0).any fun b => gapB (b.toNat : Int)) := fun h => by rw [he, h]; rfl
    refine AtS.nat hb (Br.e (fun c => fin (by unfold gapB blankB; rw [c]; rfl)) (fun c1 => ?_))
    refine AtS.nat hb (Br.e (fun c => fin (by unfold gapB blankB; rw [c]; rfl)) (fun c2 => ?_))
    refine AtS.nat hb (Br.e (fun c => fin (by unfold gapB blankB; rw [c]; rfl)) (fun c3 => ?_))
    refine AtS.nat hb (Br.e (fun c => fin (by unfold gapB blankB; rw [c]; rfl)) (fun c4 => ?_))
    refine AtS.nat hb (Br.e (fun c => fin (by unfold gapB blankB; rw [c]; rfl)) (fun c5 => ?_))
    refine Let.as ((j + 1 : Nat) : Int) (wi1 (by omega)) ⟨⟨j + 1, rfl, by omega, ?_⟩, ?_⟩
    · rw [he]
      have : gapB (b.toNat : Int) = false := by
        unfold gapB blankB
        simp only [Bool.or_eq_false_iff]
        exact ⟨⟨⟨⟨beq_false_of_ne c1, beq_false_of_ne c2⟩, beq_false_of_ne c3⟩, beq_false_of_ne c4⟩, beq_false_of_ne c5⟩
      rw [this, Bool.false_or]
    · show s.size - ((j + 1 : Nat) : Int).toNat < s.size - ((j : Nat) : Int).toNat
      rw [Int.toNat_natCast, Int.toNat_natCast]; omega
  · show false = _
    rw [he, tl_nil (by omega)]; rfl
theorem skip_gap {l : List UInt8} (h : skip l ≠ 0) : ∃ b t, l = b :: t ∧ gapB (b.toNat : Int) = true := by
  cases l with
  | nil => exact absurd (by simp [skip, span, cm, peek]) h
  | cons b t =>
    refine ⟨b, t, rfl, ?_⟩
    by_cases hb : blankB (b.toNat : Int) = true
    · unfold gapB; rw [hb]; rfl
    · have h0 : span blankB (b :: t) = 0 := by rw [span, if_neg hb]
      by_cases hc : comment (b :: t)
      · have : (b.toNat : Int) = 47 := hc.1
        unfold gapB; rw [this]; simp
      · exact absurd (skip_zero h0 hc) h
variable {L : LexL}
theorem lexNumbers_of (hL : L.Ok) (hN : ∀ s : ByteArray, s.size ≤ 20000 → (L.rd s).2 = 0 → PartsOk (tl s 0)) (s : ByteArray) : Ev_law12_LexNumbers s true := by
  refine walk_law12_LexNumbers ?_
  unfold W_law12_LexNumbers
  refine Br.d (fun _ => rfl) (fun hs => ?_)
  have hs' : s.size ≤ 200 := by omega
  have h0 := tl_len s 0
  obtain ⟨T, hT⟩ : ∃ T, T = tl s 0 := ⟨_, rfl⟩
  have hsT : s = bs T := by rw [hT, bs_tl]
  rw [← hT] at h0
  have hev := lex_ev hL s
  rw [← hT] at hev
  have eS : lexS L T = lexL L (T.drop (skip T)) (skip T) 0 := by unfold lexS; rw [if_neg (by omega)]
  refine Call.mk (hL.rd s (by omega)) (Call.mk hev ?_)
  by_cases hr : (L.rd s).2 = 0
  · refine Br.f (by simp [hr]) ?_
    have hp := hN s (by omega) hr
    rw [← hT] at hp
    have hn := num_all hp
    have hd := span_head hp.1
    obtain ⟨b, t, hbt⟩ : ∃ b t, T = b :: t := by
      cases hc : T with
      | nil => rw [hc] at hd; simp [peek, digitB] at hd
      | cons b t => exact ⟨b, t, rfl⟩
    have hne : T ≠ [] := by rw [hbt]; simp
    have hdb : digitB (b.toNat : Int) = true := by rw [hbt] at hd; exact hd
    obtain ⟨q1, q2, q3⟩ := digit_plain hdb
    have hsk : skip T = 0 := by
      rw [hbt]
      exact skip_zero (by rw [span, if_neg (by simp [q2])]) (fun hc => q3 hc.1)
    have hpk : peek T 0 = (b.toNat : Int) := by rw [hbt]; rfl
    have ht : tok L T 0 = (({ GToken.zero with Kind := 3, Num := (L.rd s).1, At := ((0 : Nat) : Int) }, 0), T.length) := by
      unfold tok
      rw [hpk, if_neg (by simp [q1]), if_pos hdb, hn, List.take_length, ← hsT, hr]
    have hm : more L T 0 = T.length := by
      unfold more
      rw [ht, List.drop_length]
      simp [skip, span, cm, peek]
    have e1 : lexS L T = ([{ GToken.zero with Kind := 3, Num := (L.rd s).1, At := ((0 : Nat) : Int) }, { GToken.zero with At := ((0 + T.length : Nat) : Int) }], 0, 0) := by
      rw [eS, hsk, List.drop_zero, lexL_more hne (by decide) (by rw [ht]), hm, List.drop_length, lexL_nil rfl, if_pos rfl, ht]
    rw [e1]
    refine Br.t rfl (Br.t rfl (Br.t rfl (At.is (i := 0) rfl (Br.t ?_ (At.is (i := 1) rfl ?_)))))
    · exact (GToken.beq_iff _ _).2 rfl
    · show GToken.beq _ _ = true
      rw [show (0 + T.length) = s.size by omega]
      exact (GToken.beq_iff _ _).2 rfl
  · refine Br.t (by simpa using hr) (Br.e (fun g1 => Br.e (fun g2 => ?_) (fun _ => rfl)) (fun _ => rfl))
    have g1' : (lexL L (T.drop (skip T)) (skip T) 0).2.1 = 0 := by rw [← eS]; exact g1
    obtain ⟨t0, t1, ht⟩ : ∃ t0 t1, (lexS L T).1 = [t0, t1] := by
      have : (lexS L T).1.length = 2 := by omega
      match hh : (lexS L T).1, this with
      | [a, b], _ => exact ⟨a, b, rfl⟩
    rw [ht]
    refine At.is (i := 0) rfl (Br.e (fun g3 => At.is (i := 1) rfl (Br.e (fun g4 => At.is (i := 0) rfl (Br.e (fun g5 => ?_) (fun _ => rfl))) (fun _ => rfl))) (fun _ => rfl))
    have hbl := blank_law_ev (s := s) (by omega)
    rw [← hT] at hbl
    suffices hany : (T.any fun b => gapB (b.toNat : Int)) = true by
      rw [hany] at hbl
      exact Call.mk hbl rfl
    rw [eS] at ht
    rcases lexL_cases g1' with ⟨k0, e⟩ | ⟨k0, k1, k2, k3, e⟩
    · rw [e] at ht; simp at ht
    rw [e] at ht
    simp only [List.cons.injEq] at ht
    obtain ⟨a1, a2⟩ := ht
    have hat := tok_at k2
    rw [a1, g5] at hat
    have hsk : skip T = 0 := by omega
    rw [hsk, List.drop_zero] at k0 k2 k3 a1 a2
    rw [Nat.zero_add] at k3 a2
    obtain ⟨l1, _⟩ := lexL_last k3 a2
    -- the token is a number
    have hdig : tok L T 0 = (({ GToken.zero with Kind := 3, Num := (L.rd (bs (T.take (numLen T)))).1, At := ((0 : Nat) : Int) }, (L.rd (bs (T.take (numLen T)))).2), numLen T) := by
      rw [← a1] at g3
      have key : letterB (peek T 0) = true ∨ digitB (peek T 0) = true ∨ (letterB (peek T 0) = false ∧ digitB (peek T 0) = false) := by
        cases letterB (peek T 0) <;> cases digitB (peek T 0) <;> simp
      rcases key with h | h | ⟨h, h'⟩
      · exfalso
        unfold tok at g3
        rw [if_pos h] at g3
        split at g3
        · simp at g3
        · split at g3 <;> simp at g3
      · obtain ⟨b, hb⟩ := peek_byte k0
        rw [hb] at h
        unfold tok
        rw [hb, if_neg (by rw [(digit_plain h).1]; decide), if_pos h]
      · exfalso
        unfold tok at g3
        rw [if_neg (by simp [h]), if_neg (by simp [h'])] at g3
        split at g3
        · simp at g3
        · split at g3 <;> simp at g3
    have hnl := numLen_le T
    rw [hdig] at k2
    by_cases hfull : numLen T = T.length
    · rw [hfull, List.take_length, ← hsT] at k2
      exact absurd k2 hr
    · have hmore : more L T 0 = numLen T + skip (T.drop (numLen T)) := by unfold more; rw [hdig]
      have hl := congrArg List.length l1
      rw [hmore, List.length_drop] at hl
      simp at hl
      obtain ⟨b, t, e1, e2⟩ := skip_gap (l := T.drop (numLen T)) (by omega)
      rw [List.any_eq_true]
      exact ⟨b, List.mem_of_mem_drop (by rw [e1]; exact List.mem_cons_self ..), e2⟩
end Go.Sim.YtnnfiohdkobkdaaDoor
