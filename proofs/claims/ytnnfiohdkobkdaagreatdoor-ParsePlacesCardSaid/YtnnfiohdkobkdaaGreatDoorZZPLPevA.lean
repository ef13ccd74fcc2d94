/- What is proved: the parser's small methods read what the plain functions read. -/
import Derived.Test.YtnnfiohdkobkdaaGreatDoorZZPLWPq
import Derived.Test.YtnnfiohdkobkdaaGreatDoorZZPLWPv
import Derived.Test.YtnnfiohdkobkdaaGreatDoorZZPLParU
import Derived.Test.YtnnfiohdkobkdaaGreatDoorZZPLPureK

namespace Go.Sim.YtnnfiohdkobkdaaGreatDoor
open Go.RowKit Go.Proofs Go.Proofs.Tryz
/-- The parser's box in a state: 'L' are all tokens. -/
def boxP (L : List GToken) (s : PS) : Gparseparser := ⟨L, (L.length : Int) - (s.1.length : Int), s.2⟩
def cwP {α β : Type} (g : α → β) : Except PE α → Except Gparsestop β
  | .ok a => .ok (g a)
  | .error e => .error ⟨e.1, e.2⟩
abbrev cvP {α : Type} (L : List GToken) : PR α → Except Gparsestop (α × Gparseparser) := cwP (fun r : α × PS => (r.1, boxP L r.2))
abbrev cuP (L : List GToken) : Except PE PS → Except Gparsestop Gparseparser := cwP (boxP L)
structure Gd (L : List GToken) (s : PS) : Prop where
  suf : ∃ pre, L = pre ++ s.1
  fin : EndT s.1
  lo : 0 ≤ s.2
  hi : s.2 ≤ 60
  len : L.length ≤ 1000000
  tok : ∀ t ∈ L, TkOk t
structure Gn (L : List GToken) (d : Nat) (a b : PS) : Prop where
  g : Gd L b
  o : b.2 = a.2
  l : b.1.length + d ≤ a.1.length
variable {L : List GToken} {s : PS}
theorem Gd.ne (h : Gd L s) : ∃ t r, s.1 = t :: r := by
  obtain ⟨p, e, h1, _⟩ := h.fin
  cases hs : s.1 with
  | nil => rw [hs] at h1; simp at h1
  | cons t r => exact ⟨t, r, rfl⟩
theorem Gd.on {k : Int} {d : Nat} {b : PS} (h : Gd L s) (w : Onw k d s b) (h0 : 0 ≤ s.2 + k) (h1 : s.2 + k ≤ 60) : Gd L b := by
  obtain ⟨w1, ⟨p, w2⟩, w3, w4⟩ := w h.fin
  obtain ⟨q, hq⟩ := h.suf
  exact ⟨⟨q ++ p, by rw [hq, w2, List.append_assoc]⟩, w1, by omega, by omega, h.len, h.tok⟩
theorem Gd.gn {d : Nat} {b : PS} (h : Gd L s) (w : Onw 0 d s b) : Gn L d s b :=
  ⟨h.on w (by have := h.lo; omega) (by have := h.hi; omega), by have := (w h.fin).2.2.1; omega, (w h.fin).2.2.2⟩
theorem Gd.hd (h : Gd L s) : TkOk (hdT s.1) := by
  obtain ⟨t, r, hs⟩ := h.ne
  obtain ⟨p, hp⟩ := h.suf
  refine h.tok _ ?_
  rw [hp, hs]
  simp [hdT]
theorem Gd.le (h : Gd L s) : s.1.length ≤ L.length := by
  obtain ⟨p, hp⟩ := h.suf
  have := congrArg List.length hp
  rw [List.length_append] at this; omega
theorem Gd.wr (h : Gd L s) : IntKind.i64.wrap ((boxP L s).i_ + (1 : Int)) = (boxP L (nextP s)).i_ := by
  obtain ⟨t, r, hs⟩ := h.ne
  have hl := h.le
  have := h.len
  show IntKind.i64.wrap ((L.length : Int) - (s.1.length : Int) + 1) = (L.length : Int) - (s.1.tail.length : Int)
  rw [hs] at hl ⊢
  simp only [List.length_cons, List.tail_cons] at hl ⊢
  rw [wi (by omega) (by omega)]; omega
theorem Gd.next (h : Gd L s) (hk : (hdT s.1).Kind ≠ 0) : Gn L 1 s (nextP s) := h.gn (next_go hk)
/-- The rule for a call that may be refused. -/
theorem cqX {α α' β γ : Type} {h : α → α'} {g : β → γ} {x : Except PE α} {f : α → Except PE β} {T : Except Gparsestop γ} {R : Except Gparsestop α' → Prop} {K : α' → Prop}
    (hT : cwP g (bnd x f) = T) (hR : R (cwP h x)) (hk : ∀ r, x = .ok r → cwP g (f r) = T → K (h r)) : CallX R (fun e => .error e = T) K := by
  cases x with
  | ok a => exact ⟨_, hR, hk a rfl hT⟩
  | error e => exact ⟨_, hR, hT⟩
/-- .. that yields a value. -/
theorem cqV {α β γ : Type} {d : Nat} {g : β → γ} {x : PR α} {f : α × PS → Except PE β} {T : Except Gparsestop γ} {R : Except Gparsestop (α × Gparseparser) → Prop} {K : α × Gparseparser → Prop}
    (ga : Gd L s) (hT : cwP g (bnd x f) = T) (hR : R (cvP L x)) (ho : OkP (Vg 0 d s) x) (hk : ∀ (a : α) (b : PS), Gn L d s b → cwP g (f (a, b)) = T → K (a, boxP L b)) : CallX R (fun e => .error e = T) K :=
  cqX hT hR fun r hr ht => hk r.1 r.2 (ga.gn (ho r hr)) ht
/-- .. and that yields the state alone. -/
theorem cqU {β γ : Type} {d : Nat} {g : β → γ} {x : Except PE PS} {f : PS → Except PE β} {T : Except Gparsestop γ} {R : Except Gparsestop Gparseparser → Prop} {K : Gparseparser → Prop}
    (ga : Gd L s) (hT : cwP g (bnd x f) = T) (hR : R (cuP L x)) (ho : OkP (Onw 0 d s) x) (hk : ∀ b, Gn L d s b → cwP g (f b) = T → K (boxP L b)) : CallX R (fun e => .error e = T) K :=
  cqX hT hR fun r hr ht => hk r (ga.gn (ho r hr)) ht
theorem now_ev (h : Gd L s) : Ev_parse_parser_now (boxP L s) (hdT s.1) := by
  refine walk_parse_parser_now ?_
  unfold W_parse_parser_now
  obtain ⟨t, r, hs⟩ := h.ne
  obtain ⟨p, hp⟩ := h.suf
  show At L ((L.length : Int) - (s.1.length : Int)) _
  have e : (L.length : Int) - (s.1.length : Int) = (p.length : Int) := by
    have := congrArg List.length hp
    rw [List.length_append] at this; omega
  rw [e]
  refine ⟨by omega, t, ?_, ?_⟩
  · rw [Int.toNat_natCast, hp, hs, List.getElem?_append_right (Nat.le_refl _), Nat.sub_self]; rfl
  · rw [hs]; rfl
theorem is_ev (h : Gd L s) (w : ByteArray) : Ev_parse_parser_is (boxP L s) w (isP w s) := by
  refine walk_parse_parser_is ?_
  unfold W_parse_parser_is
  refine Call.mk (now_ev h) ?_
  have key : ((hdT s.1).S.toList == w.toList) = decide ((hdT s.1).S = w) := by rw [Bool.eq_iff_iff, beq_str, decide_eq_true_iff]
  rw [key]
  unfold isP isT
  refine Br.e (fun e => ?_) fun e => Br.e (fun e2 => ?_) fun e2 => ?_
  · rw [e]; simp
  · rw [e2]; simp
  · rw [beq_eq_false_iff_ne.2 e, beq_eq_false_iff_ne.2 e2]; simp
theorem take_evT {w : ByteArray} (h : Gd L s) (hw : isP w s = true) : Ev_parse_parser_take (boxP L s) w (true, boxP L (nextP s)) := by
  refine walk_parse_parser_take ?_
  unfold W_parse_parser_take
  exact Call.mk (is_ev h w) (Br.t hw (Let.as _ h.wr rfl))
theorem take_evF {w : ByteArray} (h : Gd L s) (hw : isP w s = false) : Ev_parse_parser_take (boxP L s) w (false, boxP L s) := by
  refine walk_parse_parser_take ?_
  unfold W_parse_parser_take
  exact Call.mk (is_ev h w) (Br.f hw rfl)
/-- The rules for a token that may stand there. -/
theorem takeB {γ β : Type} {g : β → γ} {w : ByteArray} {y z : Except PE β} {T : Except Gparsestop γ} {A B : Bool × Gparseparser → Prop} (h : Gd L s) (hT : cwP g (if isP w s = true then y else z) = T)
    (ht : Gn L 1 s (nextP s) → isP w s = true → cwP g y = T → A (true, boxP L (nextP s))) (hf : isP w s = false → cwP g z = T → B (false, boxP L s)) : Call (Ev_parse_parser_take (boxP L s) w) fun x => Br x.1 (A x) (B x) := by
  cases hw : isP w s with
  | true => rw [if_pos hw] at hT; exact Call.mk (take_evT h hw) (Br.t rfl (ht (h.gn (is_go hw)) hw hT))
  | false => rw [if_neg (by rw [hw]; decide)] at hT; exact Call.mk (take_evF h hw) (Br.f rfl (hf hw hT))
theorem takeN {γ β : Type} {g : β → γ} {w : ByteArray} {y z : Except PE β} {T : Except Gparsestop γ} {A B : Bool × Gparseparser → Prop} (h : Gd L s) (hT : cwP g (if isP w s = true then y else z) = T)
    (ht : Gn L 1 s (nextP s) → isP w s = true → cwP g y = T → A (true, boxP L (nextP s))) (hf : isP w s = false → cwP g z = T → B (false, boxP L s)) : Call (Ev_parse_parser_take (boxP L s) w) fun x => Br (!x.1) (B x) (A x) := by
  cases hw : isP w s with
  | true => rw [if_pos hw] at hT; exact Call.mk (take_evT h hw) (Br.f rfl (ht (h.gn (is_go hw)) hw hT))
  | false => rw [if_neg (by rw [hw]; decide)] at hT; exact Call.mk (take_evF h hw) (Br.t rfl (hf hw hT))
theorem isB {γ β : Type} {g : β → γ} {w : ByteArray} {y z : Except PE β} {T : Except Gparsestop γ} {A B : Prop} (h : Gd L s) (hT : cwP g (if isP w s = true then y else z) = T)
    (ht : Gn L 1 s (nextP s) → isP w s = true → cwP g y = T → A) (hf : isP w s = false → cwP g z = T → B) : Call (Ev_parse_parser_is (boxP L s) w) fun x => Br x A B := by
  refine Call.mk (is_ev h w) ?_
  cases hw : isP w s with
  | true => rw [if_pos hw] at hT; exact Br.t rfl (ht (h.gn (is_go hw)) hw hT)
  | false => rw [if_neg (by rw [hw]; decide)] at hT; exact Br.f rfl (hf hw hT)
theorem isNP {γ β : Type} {g : β → γ} {w : ByteArray} {y z : Except PE β} {T : Except Gparsestop γ} {A B : Prop} (h : Gd L s) (hT : cwP g (if isP w s = true then y else z) = T)
    (ht : Gn L 1 s (nextP s) → isP w s = true → cwP g y = T → A) (hf : isP w s = false → cwP g z = T → B) : Call (Ev_parse_parser_is (boxP L s) w) fun x => Br (!x) B A := by
  refine Call.mk (is_ev h w) ?_
  cases hw : isP w s with
  | true => rw [if_pos hw] at hT; exact Br.f rfl (ht (h.gn (is_go hw)) hw hT)
  | false => rw [if_neg (by rw [hw]; decide)] at hT; exact Br.t rfl (hf hw hT)
/-- What kind of token stands there. -/
theorem kindB {γ β : Type} {g : β → γ} {k : Int} {y z : Except PE β} {T : Except Gparsestop γ} {A B : GToken → Prop} (h : Gd L s) (hT : cwP g (if (hdT s.1).Kind = k then y else z) = T)
    (ht : (hdT s.1).Kind = k → cwP g y = T → A (hdT s.1)) (hf : (hdT s.1).Kind ≠ k → cwP g z = T → B (hdT s.1)) : Call (Ev_parse_parser_now (boxP L s)) fun x => Br (x.Kind == k) (A x) (B x) := by
  refine Call.mk (now_ev h) (Br.e (fun e => ?_) fun e => ?_)
  · rw [if_pos e] at hT; exact ht e hT
  · rw [if_neg e] at hT; exact hf e hT
theorem fail_ev (h : Gd L s) : Ev_parse_parser_fail (boxP L s) (cuP L (.error (failP s))) := by
  refine walk_parse_parser_fail ?_
  unfold W_parse_parser_fail
  refine Call.mk (now_ev h) (Br.e (fun e => Call.mk (now_ev h) ?_) fun e => Call.mk (now_ev h) ?_)
  · show _ = Except.error _
    unfold failP; rw [if_pos e]
  · show _ = Except.error _
    unfold failP; rw [if_neg e]
theorem nameP_ev (h : Gd L s) : Ev_parse_parser_name (boxP L s) (cvP L (nameP s)) := by
  refine walk_parse_parser_name ?_
  unfold W_parse_parser_name
  refine Call.mk (now_ev h) ?_
  by_cases e : (hdT s.1).Kind = 1
  · refine ⟨fun p => p = boxP L s, Br.f (by rw [e]; rfl) rfl, ?_⟩
    rintro _ rfl
    refine Let.as _ h.wr ?_
    show _ = cvP L (nameP s)
    unfold nameP; rw [if_pos e]; rfl
  · refine ⟨fun _ => False, Br.t (bne_iff_ne.2 e) (CallX.er (fail_ev h) ?_), fun _ h => h.elim⟩
    show _ = cvP L (nameP s)
    unfold nameP; rw [if_neg e]; rfl
theorem must_ev {l : List ByteArray} (h : Gd L s) (hl : l.length ≤ 1000) : Ev_parse_parser_must (boxP L s) l (cuP L (mustsP l s)) := by
  refine walk_parse_parser_must ?_
  unfold W_parse_parser_must
  generalize hT : cuP L (mustsP l s) = T
  refine Loop2.up (s0 := boxP L s) l.length (fun j p => ∃ s', p = boxP L s' ∧ Gd L s' ∧ cuP L (mustsP (l.drop j) s') = T) ⟨s, rfl, h, by rw [List.drop_zero]; exact hT⟩ ?_
  rintro i _ k hi ⟨s', rfl, g, hT⟩ hk
  refine Br.d (fun hlt => ?_) fun hn => ?_
  · have hlt : i < l.length := by omega
    refine At.nat hlt fun w hw => ?_
    have hd : l.drop i = w :: l.drop (i + 1) := by
      obtain ⟨h1, h2⟩ := List.getElem?_eq_some_iff.1 hw
      rw [List.drop_eq_getElem_cons h1, h2]
    rw [hd] at hT
    have hT : cuP L (bnd (mustP w s') (mustsP (l.drop (i + 1)))) = T := hT
    cases hb : isP w s' with
    | true =>
      have hm : mustP w s' = .ok (nextP s') := by unfold mustP; rw [if_pos hb]
      rw [hm] at hT
      exact Call.mk (take_evT g hb) (Br.f rfl (Let.as _ (wi1 (by omega)) (hk _ (by omega) ⟨_, rfl, (g.gn (is_go hb)).g, hT⟩)))
    | false =>
      have hm : mustP w s' = .error (failP s') := by unfold mustP; rw [if_neg (by rw [hb]; decide)]
      rw [hm] at hT
      exact Call.mk (take_evF g hb) (Br.t rfl (CallX.er (fail_ev g) hT))
  · rw [show i = l.length by omega, List.drop_length] at hT
    exact hT
theorem must1 (w : ByteArray) (s : PS) : mustsP [w] s = mustP w s := by
  show bnd (mustP w s) (mustsP []) = _
  cases mustP w s <;> rfl
theorem must1_ev {w : ByteArray} (h : Gd L s) : Ev_parse_parser_must (boxP L s) [w] (cuP L (mustP w s)) := by
  rw [← must1]; exact must_ev h (by simp)
theorem enter_ok (h : Gd L s) (w : ByteArray) : OkP (fun b => Gd L b ∧ b.2 = s.2 + 1 ∧ b.1.length + 1 ≤ s.1.length) (enterP w s) := by
  intro b hb
  have go := enter_go w s b hb
  have hlo := h.lo
  have hlt : s.2 < 60 := by
    unfold enterP at hb
    split at hb
    · cases hb
    · rename_i hc
      have hi : isP w s = true := by
        obtain ⟨a, h1, _⟩ := bnd_ok.1 hb
        unfold mustP at h1
        split at h1
        · assumption
        · cases h1
      have : ¬ 60 ≤ s.2 := fun hx => hc ⟨hi, hx⟩
      omega
  exact ⟨h.on go (by omega) (by omega), (go h.fin).2.2.1, (go h.fin).2.2.2⟩
theorem enter_ev (h : Gd L s) (w : ByteArray) : Ev_parse_parser_enter (boxP L s) w (cuP L (enterP w s)) := by
  refine walk_parse_parser_enter ?_
  unfold W_parse_parser_enter
  generalize hT : cuP L (enterP w s) = T
  unfold enterP at hT
  refine ⟨fun x => x = (isP w s && decide (60 ≤ s.2)), Call.mk (is_ev h w) ?_, ?_⟩
  · cases hw : isP w s with
    | true => exact Br.t rfl rfl
    | false => exact Br.f rfl rfl
  · rintro _ rfl
    by_cases hc : isP w s = true ∧ 60 ≤ s.2
    · rw [if_pos hc] at hT
      exact Br.t (by rw [hc.1]; simpa using hc.2) (Call.mk (now_ev h) hT)
    · rw [if_neg hc] at hT
      refine Br.f (by rw [Bool.and_eq_false_iff, decide_eq_false_iff_not]; cases hw : isP w s with | true => exact .inr fun hx => hc ⟨hw, hx⟩ | false => exact .inl rfl) ?_
      refine cqU h hT (must1_ev h) (must_go w s) fun b g hT => ?_
      have h1 := g.g.hi
      have h2 := g.g.lo
      exact Let.as (b.2 + 1) (show IntKind.i64.wrap (b.2 + 1) = _ from wi (by omega) (by omega)) hT
theorem leave_ev {l : List ByteArray} (h : Gd L s) (hl : l.length ≤ 1000) : Ev_parse_parser_leave (boxP L s) l (cuP L (leaveP l s)) := by
  refine walk_parse_parser_leave ?_
  unfold W_parse_parser_leave
  generalize hT : cuP L (leaveP l s) = T
  unfold leaveP at hT
  refine cqU h hT (must_ev h hl) (musts_go l s) fun b g hT => ?_
  have h1 := g.g.hi
  have h2 := g.g.lo
  exact Let.as (b.2 - 1) (show IntKind.i64.wrap (b.2 - 1) = _ from wi (by omega) (by omega)) hT
/-- The rules for what opens and closes. -/
theorem cqE {β γ : Type} {g : β → γ} {w : ByteArray} {f : PS → Except PE β} {T : Except Gparsestop γ} {K : Gparseparser → Prop}
    (ga : Gd L s) (hT : cwP g (bnd (enterP w s) f) = T) (hk : ∀ b, Gd L b → b.2 = s.2 + 1 → b.1.length + 1 ≤ s.1.length → cwP g (f b) = T → K (boxP L b)) : CallX (Ev_parse_parser_enter (boxP L s) w) (fun e => .error e = T) K :=
  cqX hT (enter_ev ga w) fun r hr ht => hk r (enter_ok ga w r hr).1 (enter_ok ga w r hr).2.1 (enter_ok ga w r hr).2.2 ht
theorem cqL {β γ : Type} {g : β → γ} {l : List ByteArray} {f : PS → Except PE β} {T : Except Gparsestop γ} {K : Gparseparser → Prop}
    (ga : Gd L s) (h1 : 1 ≤ s.2) (hl : l.length ≤ 1000) (hT : cwP g (bnd (leaveP l s) f) = T) (hk : ∀ b, Gd L b → b.2 = s.2 - 1 → b.1.length + l.length ≤ s.1.length → cwP g (f b) = T → K (boxP L b)) : CallX (Ev_parse_parser_leave (boxP L s) l) (fun e => .error e = T) K :=
  cqX hT (leave_ev ga hl) fun r hr ht => by
    have go := leave_go l s r hr
    have h2 := ga.hi
    exact hk r (ga.on go (by omega) (by omega)) (go ga.fin).2.2.1 (go ga.fin).2.2.2 ht
theorem cqM {β γ : Type} {g : β → γ} {w : ByteArray} {f : PS → Except PE β} {T : Except Gparsestop γ} {K : Gparseparser → Prop}
    (ga : Gd L s) (hT : cwP g (bnd (mustP w s) f) = T) (hk : ∀ b, Gn L 1 s b → cwP g (f b) = T → K (boxP L b)) : CallX (Ev_parse_parser_must (boxP L s) [w]) (fun e => .error e = T) K :=
  cqU ga hT (must1_ev ga) (must_go w s) hk
theorem numP_ev {f : DV} {so : GRat → Bool} (h : Gd L s) (hf : ∀ a : GRat, NumOk a → FVal prog f [GRat.enc a] (.v (.bool (so a)))) : Ev_parse_parser_number (boxP L s) f (cvP L (numP so s)) := by
  refine walk_parse_parser_number ?_
  unfold W_parse_parser_number
  refine Call.mk (now_ev h) ?_
  have hn : NumOk (hdT s.1).Num := h.hd.num
  generalize hT : cvP L (numP so s) = T
  unfold numP at hT
  by_cases e : (hdT s.1).Kind = 3
  · rw [if_pos e] at hT
    refine ⟨fun p => p = boxP L s, Br.f (by rw [e]; rfl) rfl, ?_⟩
    rintro _ rfl
    refine Call.mk (hf _ hn) ?_
    cases hs : so (hdT s.1).Num with
    | true => rw [if_pos hs] at hT; exact Br.f rfl (Let.as _ h.wr hT)
    | false => rw [if_neg (by rw [hs]; decide)] at hT; exact Br.t rfl hT
  · rw [if_neg e] at hT
    exact ⟨fun _ => False, Br.t (bne_iff_ne.2 e) (CallX.er (fail_ev h) hT), fun _ h => h.elim⟩
theorem int1_ev (a : GRat) : Ev_parse_parser_int_1 a (intB a) := by
  refine walk_parse_parser_int_1 ?_
  unfold W_parse_parser_int_1 intB
  cases h : (a.D == (1 : Int)) with
  | true => exact Br.t rfl (Bool.true_and _).symm
  | false => exact Br.f rfl (Bool.false_and _).symm
theorem power1_ev (a : GRat) : Ev_parse_parser_power_1 a (powB1 a) := by
  refine walk_parse_parser_power_1 ?_
  unfold W_parse_parser_power_1 powB1
  cases h : (a.D == (1 : Int)) with
  | true => exact Br.t rfl (Bool.true_and _).symm
  | false => exact Br.f rfl (Bool.false_and _).symm
theorem up1_ev (a : GRat) : Ev_parse_parser_up_1 a (oneB1 a) := walk_parse_parser_up_1 rfl
theorem up2_ev (a : GRat) : Ev_parse_parser_up_2 a (denB a) := by
  refine walk_parse_parser_up_2 ?_
  unfold W_parse_parser_up_2 denB
  cases h : (a.D == (1 : Int)) with
  | true =>
    refine Br.t rfl ?_
    by_cases h2 : a.N ≥ 1
    · exact Br.dT h2 (by rw [decide_eq_true h2]; rfl)
    · exact Br.dF h2 (by rw [decide_eq_false h2]; rfl)
  | false => exact Br.f rfl rfl
theorem int_ev (h : Gd L s) : Ev_parse_parser_int (boxP L s) (cvP L (intP s)) := by
  refine walk_parse_parser_int ?_
  unfold W_parse_parser_int
  generalize hT : cvP L (intP s) = T
  unfold intP at hT
  exact cqV h hT (numP_ev h fun a _ => call_parse_parser_int_1 (int1_ev a)) (num_go _ s) fun a b g hT => hT
theorem num_hd {so : GRat → Bool} {a : GRat} {b : PS} (h : Gd L s) (hn : numP so s = .ok (a, b)) : NumOk a ∧ so a = true := by
  unfold numP at hn
  split at hn
  · split at hn
    · cases hn; exact ⟨h.hd.num, by assumption⟩
    · cases hn
  · cases hn
theorem powB1_le {a : GRat} (h : powB1 a = true) : a.N ≤ 64 := by
  unfold powB1 at h
  rw [Bool.and_eq_true, decide_eq_true_iff] at h
  exact h.2
/-- A power is small. -/
theorem power_le (h : Gd L s) : OkP (fun r => -64 ≤ r.1 ∧ r.1 ≤ 64) (powerP s) := by
  unfold powerP
  refine OkP.ite (fun hi => ?_) fun hi => ?_
  · intro r hr
    obtain ⟨q, h1, h2⟩ := bnd_ok.1 hr
    obtain ⟨h3, h4⟩ := num_hd (h.gn (is_go hi)).g h1
    cases h2
    have := powB1_le h4
    have := h3.nn
    dsimp only at *; omega
  · intro r hr
    obtain ⟨q, h1, h2⟩ := bnd_ok.1 hr
    obtain ⟨h3, h4⟩ := num_hd h h1
    cases h2
    have := powB1_le h4
    have := h3.nn
    dsimp only at *; omega
theorem powerP_ev (h : Gd L s) : Ev_parse_parser_power (boxP L s) (cvP L (powerP s)) := by
  refine walk_parse_parser_power ?_
  unfold W_parse_parser_power
  generalize hT : cvP L (powerP s) = T
  unfold powerP at hT
  cases hw : isP (ByteArray.mk #[45]) s with
  | true =>
    rw [if_pos hw] at hT
    have g := (h.gn (is_go hw)).g
    refine Call.mk (take_evT h hw) (cqX hT (numP_ev g fun a _ => call_parse_parser_power_1 (power1_ev a)) fun r hr hT => ?_)
    obtain ⟨h3, h4⟩ := num_hd (a := r.1) (b := r.2) g hr
    have h5 := powB1_le h4
    have h6 : 0 ≤ r.1.N := h3.nn
    exact Br.t rfl (Let.as (-r.1.N) (show IntKind.i64.wrap (0 - r.1.N) = _ by rw [wi (by omega) (by omega)]; omega) hT)
  | false =>
    rw [if_neg (by rw [hw]; decide)] at hT
    exact Call.mk (take_evF h hw) (cqX hT (numP_ev h fun a _ => call_parse_parser_power_1 (power1_ev a)) fun r hr hT => Br.f rfl hT)
theorem functions_ev : Ev_parse_functions [(ByteArray.mk #[]), (ByteArray.mk #[]), (ByteArray.mk #[]), (ByteArray.mk #[]), (ByteArray.mk #[]), (ByteArray.mk #[]), (ByteArray.mk #[]), (ByteArray.mk #[]), (ByteArray.mk #[]), (ByteArray.mk #[115, 113, 114, 116]), (ByteArray.mk #[101, 120, 112]), (ByteArray.mk #[108, 111, 103]), (ByteArray.mk #[115, 105, 110]), (ByteArray.mk #[99, 111, 115]), (ByteArray.mk #[97, 116, 97, 110])] := walk_parse_functions rfl
theorem indexStr_evP {l : List ByteArray} {v : ByteArray} (hs : l.length ≤ 1000) : Ev_slices_Index_string l v (firstAt (fun x => decide (v = x)) l) := by
  refine walk_slices_Index_string ?_
  unfold W_slices_Index_string
  refine Loop1.first l (fun x => decide (v = x)) fun i k hi hP hk => ?_
  refine Br.d (fun hlt => ?_) fun hn => ?_
  · refine At.nat (by omega) fun x hx => ?_
    have key : (v.toList == x.toList) = decide (v = x) := by rw [Bool.eq_iff_iff, beq_str, decide_eq_true_iff]
    rw [key]
    exact Br.d (fun e => (firstAt_is hx (decide_eq_true e) hP).symm) fun e => Let.as _ (wi1 (by omega)) (hk x hx (decide_eq_false e))
  · exact (firstAt_no fun j y hj hy => hP j y (by omega) hy).symm
end Go.Sim.YtnnfiohdkobkdaaGreatDoor
