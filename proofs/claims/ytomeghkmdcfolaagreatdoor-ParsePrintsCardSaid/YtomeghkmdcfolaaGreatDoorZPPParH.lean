/- What is proved: which trees may be, as the program and the reference tell: one answer. -/
import Derived.Test.YtomeghkmdcfolaaGreatDoorZPPParG
import Derived.Test.YtomeghkmdcfolaaGreatDoorZPPParN

namespace Go.Sim.YtomeghkmdcfolaaGreatDoor
open Go.RowKit Go.Proofs Go.Proofs.Tryz
mutual
def everyB (nm : ByteArray -> Bool) : GTree -> Bool
 | ⟨k, n, a, N, M, f, q, ks⟩ => oneB nm ixR ⟨k, n, a, N, M, f, q, ks⟩ && everyL nm ks
def everyL (nm : ByteArray -> Bool) : List GTree -> Bool
 | [] => true
 | t :: ts => everyB nm t && everyL nm ts
end
theorem everyL_all (nm : ByteArray -> Bool) : ∀ ks : List GTree, everyL nm ks = ks.all (everyB nm)
 | [] => by simp [everyL]
 | k :: ks => by simp [everyL, everyL_all nm ks]
theorem everyB_eq (nm : ByteArray -> Bool) (t : GTree) : everyB nm t = (oneB nm ixR t && t.Kids.all (everyB nm)) := by
 cases t; simp only [everyB, everyL_all]
theorem one_num {nm : ByteArray -> Bool} {ix : GTree -> Bool} {t : GTree} (h : oneB nm ix t = true) (hk : t.Kind = 1) : 0 <= t.Num.N := by
 unfold oneB spec at h
 simp [hk] at h
 have := h.2
 unfold decB at this
 simp at this
 exact this.1.2
theorem every_num {nm : ByteArray -> Bool} {t : GTree} (h : everyB nm t = true) (hk : t.Kind = 1) : 0 <= t.Num.N := by
 rw [everyB_eq, Bool.and_eq_true] at h
 exact one_num h.1 hk
theorem num_same {t : GTree} (h : t.Kind = 1 -> 0 <= t.Num.N) : numB t = numR t := by
 unfold numB numR
 by_cases hk : t.Kind = 1
 ·rw [decide_eq_true (h hk)]; simp
 ·rw [beq_false_of_ne hk]; rfl
theorem index_same {nm : ByteArray -> Bool} {k : GTree} (h : everyB nm k = true) : indexB k = ixR k := by
 unfold indexB ixR
 have hk : k.Kids.all (everyB nm) = true := by rw [everyB_eq, Bool.and_eq_true] at h; exact h.2
 split
 ·match hks : k.Kids with
  | [] => rfl
  | [_] => rfl
  | [a, b] =>
   rw [hks] at hk
   simp at hk
   show (refB a && numB b) = (refB a && numR b)
   rw [num_same (every_num hk.2)]
  | _ :: _ :: _ :: _ => rfl
 ·rw [num_same (every_num h)]
theorem oneB_ix {nm : ByteArray -> Bool} {t : GTree} (h : ∀ k ∈ t.Kids, indexB k = ixR k) : oneB nm indexB t = oneB nm ixR t := by
  have e : optB indexB t.Kids = optB ixR t.Kids := by
    unfold optB
    have : t.Kids.all indexB = t.Kids.all ixR := by
      rw [Bool.eq_iff_iff, List.all_eq_true, List.all_eq_true]
      exact ⟨fun h1 k hk => by rw [← h k hk]; exact h1 k hk, fun h1 k hk => by rw [h k hk]; exact h1 k hk⟩
    rw [this]
  unfold oneB
  by_cases k3 : t.Kind = 3
  · simp only [spec, k3]
    simp [e]
  · have : spec indexB t.Kind = spec ixR t.Kind := by
      unfold spec
      simp only [k3, if_false]
    rw [this]
def rightI (nm : ByteArray -> Bool) (t : GTree) : Int := if 30 < dep t then 132 else if 4000 < siz t \/ t.Kind ≠ 30 \/ everyB nm t = false then 133 else 0
section
variable {nm : ByteArray -> Bool} (hnm : ∀ s : ByteArray, s.size <= maxLen -> Ev_parse_named s (nm s)) (hnr : ∀ s : ByteArray, s.size <= maxLen -> Ev_ref12_Name s (nm s)) (h0 : nm noText = false)
 (hr : ∀ a : GRat, a.ok -> Ev_rat_Right a a.right) (hrr : ∀ a : GRat, a.ok -> Ev_ref11_Right a a.right) (hd : ∀ a : GRat, a.right = true -> a.D ≠ 0)
include hnm hnr h0 hr hrr hd
theorem every_both (t : GTree) (ht : t.ok) (hs : siz t <= 100000) : Ev_parse_shaped t (everyB nm t) /\ Ev_ref13_every t (everyB nm t) := by
 have hml : maxLen = 9223372036854775807 := rfl
 have hkl := sizL_len t.Kids
 have hse := siz_eq t
 have ih : ∀ k ∈ t.Kids, Ev_parse_shaped k (everyB nm k) /\ Ev_ref13_every k (everyB nm k) := fun k hk =>
  every_both k (kids_ok ht k hk) (by have := siz_mem hk; omega)
 constructor
 ·refine walk_parse_shaped ?_
  unfold W_parse_shaped
  have hall := all_ev (lo := 0) (hi := -1) (f := Fn_parse_shaped) (p := everyB nm) (kids_le ht) isFn_v (fun k hk => call_parse_shaped (ih k hk).1)
  have eK : t.Kids.all (everyB nm) = true -> oneB nm indexB t = oneB nm ixR t := fun h => oneB_ix fun k hk => index_same (List.all_eq_true.1 h k hk)
  refine Call.mk (shape_ev hnm h0 hr hd ht) ⟨fun h => Call.mk hall ?_, fun h => ?_⟩
  ·show _ = everyB nm t
   rw [everyB_eq]
   cases hK : t.Kids.all (everyB nm) with
   | true => rw [← eK hK, h]; simp
   | false => simp
  ·show false = everyB nm t
   rw [everyB_eq]
   cases hK : t.Kids.all (everyB nm) with
   | true => rw [← eK hK, h]; simp
   | false => simp
 ·refine walk_ref13_every ?_
  unfold W_ref13_every
  refine Call.mk (one_ev hnr hrr hd ht (by omega)) ⟨fun h => ?_, fun h => Loop1.first t.Kids (fun k => !everyB nm k) ?_⟩
  ·show false = everyB nm t
   have : oneB nm ixR t = false := by simpa using h
   rw [everyB_eq, this]; rfl
  intro i k hi hP hk
  have h1 : oneB nm ixR t = true := by simpa using h
  refine Br.d (fun hlt => At.nat (by omega) fun x hx => Call.mk (ih x (List.mem_of_getElem? hx)).2 ⟨fun hp => ?_, fun hp => Let.as _ (wi1 (by omega)) (hk x hx hp)⟩) (fun hge => ?_)
  ·show false = everyB nm t
   rw [everyB_eq]
   have : t.Kids.all (everyB nm) = false := by
    rw [← Bool.not_eq_true, List.all_eq_true]
    intro h2
    rw [h2 x (List.mem_of_getElem? hx)] at hp; cases hp
   rw [this]; simp
  ·show true = everyB nm t
   rw [everyB_eq, h1]
   have : t.Kids.all (everyB nm) = true := by
    rw [List.all_eq_true]
    intro x hx
    obtain ⟨j, hj⟩ := List.mem_iff_getElem?.1 hx
    have := hP j x (by have := (List.getElem?_eq_some_iff.1 hj).1; omega) hj
    simpa using this
   rw [this]; rfl
termination_by SizeOf.sizeOf t
decreasing_by
 have := List.sizeOf_lt_of_mem hk
 cases t; simp at this ⊢; omega
theorem rights_both (t : GTree) (ht : t.ok) : Ev_parse_Right t (rightI nm t) /\ Ev_ref13_Right t (rightI nm t) := by
 have hdeep := deep_ev 30 t ht (by decide)
 have hnodes := nodes_ev 4000 t ht (by decide)
 have hDeep := refDeep_ev 31 t ht (by decide)
 have hNodes := refNodes_ev 4001 t ht (by decide) (by decide)
 constructor
 ·refine walk_parse_Right ?_
  unfold W_parse_Right rightI
  refine Call.mk hdeep (Br.d (fun h => by rw [if_pos h]) (fun h => ?_))
  rw [if_neg h]
  refine Call.mk hnodes (Br.d (fun h2 => ?_) (fun h2 => ⟨fun h3 => ?_, fun h3 => ?_⟩))
  ·refine Br.dT h2 ?_
   show _ = _; rw [if_pos (.inl (by omega))]
  ·refine Br.t h3 ?_
   show _ = _; rw [if_pos (.inr (.inl (by simpa using h3)))]
  ·have hsz : siz t <= 4000 := by omega
   have hk : t.Kind = 30 := by simpa using h3
   refine Call.mk (every_both hnm hnr h0 hr hrr hd t ht (by omega)).1 ⟨fun h4 => ?_, fun h4 => ?_⟩
   ·show _ = _; rw [if_pos (.inr (.inr (by simpa using h4)))]
   ·show _ = _
    rw [if_neg]
    rintro (h5 | h5 | h5)
    ·omega
    ·exact h5 hk
    ·rw [h5] at h4; cases h4
 ·refine walk_ref13_Right ?_
  unfold W_ref13_Right rightI
  refine Call.mk hDeep (Br.d (fun h => ?_) (fun h => ?_))
  ·show _ = _; rw [if_pos (by omega)]
  rw [if_neg (by omega)]
  refine Call.mk hNodes (Br.d (fun h2 => ?_) (fun h2 => ⟨fun h3 => ?_, fun h3 => ?_⟩))
  ·show _ = _; rw [if_pos (.inl (by omega))]
  ·show _ = _; rw [if_pos (.inr (.inl (by simpa using h3)))]
  ·have hsz : siz t <= 4000 := by omega
   have hk : t.Kind = 30 := by simpa using h3
   refine Call.mk (every_both hnm hnr h0 hr hrr hd t ht (by omega)).2 ⟨fun h4 => ?_, fun h4 => ?_⟩
   ·show _ = _; rw [if_pos (.inr (.inr (by simpa using h4)))]
   ·show _ = _
    rw [if_neg]
    rintro (h5 | h5 | h5)
    ·omega
    ·exact h5 hk
    ·rw [h5] at h4; cases h4
end
end Go.Sim.YtomeghkmdcfolaaGreatDoor

/- What is proved: the statement ParseRights. -/
namespace Go.Sim.YtomeghkmdcfolaaGreatDoor
open Go.RowKit Go.Proofs Go.Proofs.Tryz
theorem name_ev12 (s : ByteArray) : Ev_ref12_Name s (nmB s) := by
  obtain ⟨l, hl⟩ : ∃ l, l = tl s 0 := ⟨_, rfl⟩
  have hbs : s = bs l := by rw [hl, bs_tl]
  have hlen : l.length = s.size := by rw [hl, tl_len]; omega
  have hB : nmB s = nmL l := by unfold nmB; rw [hl]
  have hget : ∀ i, i < s.size -> ∃ b, s[i]? = some b /\ l[i]? = some b := fun i h => by
    obtain ⟨b, h1, h2⟩ := tl_cons h
    refine ⟨b, h1, ?_⟩
    have := tl_get s i 0
    rw [h2] at this
    have h3 := tl_get s 0 i
    rw [← hl] at h3
    rw [h3]
    simpa using this.symm
  rw [hB]
  refine walk_ref12_Name ?_
  unfold W_ref12_Name
  refine ⟨fun he => ?_, fun he => Br.d (fun h24 => ?_) (fun h24 => ?_)⟩
  · show false = _
    rw [hbs, bs_nil] at he
    have : l = [] := by simpa using he
    rw [this]; rfl
  · show false = _
    unfold nmL
    rw [decide_eq_false (show ¬ l.length <= 24 by omega)]; simp
  · have hne : 0 < s.size := by
      by_cases h : 0 < s.size
      · exact h
      · have : l = [] := List.eq_nil_of_length_eq_zero (by omega)
        rw [hbs, bs_nil, this] at he; simp at he
    obtain ⟨b, hb1, hb2⟩ := hget 0 hne
    have hp : peek l 0 = (b.toNat : Int) := by unfold peek; rw [hb2]
    refine AtS.nat (p := 0) hb1 (Call.mk (refLetter_ev b) ⟨fun hn => ?_, fun hn => Call.mk (refWord_ev (by omega)) ⟨fun hw => ?_, fun hw => ?_⟩⟩)
    · show false = _
      have : letterB (b.toNat : Int) = false := by simpa using hn
      unfold nmL; rw [hp, this]; rfl
    · show false = _
      rw [← hl] at hw
      unfold nmL; rw [hw]; simp
    · rw [← hl] at hw
      have h1 : letterB (b.toNat : Int) = true := by simpa using hn
      have sp : ∀ (l : List UInt8), (∀ j y, j < l.length -> l[j]? = some y -> nameB (y.toNat : Int) = true) -> span nameB l = l.length := by
        intro l
        induction l with
        | nil => intro _; rfl
        | cons b l ih =>
          intro h
          rw [span, if_pos (h 0 b (by simp) rfl), ih fun j y hj hy => h (j + 1) y (by simp; omega) (by simpa using hy)]; rfl
      have sp2 : ∀ (l : List UInt8) (j : Nat) (y : UInt8), l[j]? = some y -> nameB (y.toNat : Int) = false -> span nameB l ≠ l.length := by
        intro l
        induction l with
        | nil => intro j y h; simp at h
        | cons b l ih =>
          intro j y hj hy
          rw [span]
          split
          · rename_i hb
            cases j with
            | zero => simp at hj; subst hj; rw [hy] at hb; cases hb
            | succ j => have := ih j y (by simpa using hj) hy; simp only [List.length_cons]; omega
          · simp
      refine Loop1.first l (fun y => !nameB (y.toNat : Int)) ?_
      intro i k hi hP hk
      refine Br.d (fun hlt => ?_) (fun hge => ?_)
      · obtain ⟨y, hy1, hy2⟩ := hget i (by omega)
        have step : nameB (y.toNat : Int) = true -> Let (IntKind.i64.wrap ((i : Int) + 1)) fun x => k x := fun hy => Let.as _ (wi1 (by omega)) (hk y hy2 (by simp [hy]))
        refine ⟨nameB (y.toNat : Int) = true, AtS.nat hy1 (Call.mk (refLetter_ev y) ⟨fun ha => AtS.nat hy1 (Call.mk (refDigit_ev _) ⟨fun hb => AtS.nat hy1 ⟨fun hc => ?_, fun hc => ?_⟩, fun hb => ?_⟩), fun ha => ?_⟩), step⟩
        · show false = _
          have : nameB (y.toNat : Int) = false := by
            unfold nameB
            have e1 : letterB (y.toNat : Int) = false := by simpa using ha
            have e2 : digitB (y.toNat : Int) = false := by simpa using hb
            have e3 : ((y.toNat : Int) == 95) = false := by simpa using hc
            rw [e1, e2, e3]; rfl
          unfold nmL
          rw [decide_eq_false (sp2 l i y hy2 this)]; simp
        · unfold nameB
          have : ((y.toNat : Int) == 95) = true := by simpa using hc
          rw [this]; simp
        · unfold nameB
          have : digitB (y.toNat : Int) = true := by simpa using hb
          rw [this]; simp
        · unfold nameB
          have : letterB (y.toNat : Int) = true := by simpa using ha
          rw [this]; rfl
      · show true = _
        have hall : span nameB l = l.length := sp l fun j y hj hy => by
          have := hP j y (by omega) hy
          simpa using this
        unfold nmL
        rw [hp, h1, hall, decide_eq_true (show l.length <= 24 by omega), hw]
        simp
theorem inI_of {n : Int} (h : okInt .i64 n) : Sim.inI n := by
 have e1 : IntKind.i64.min = -9223372036854775808 := rfl
 have e2 : IntKind.i64.max = 9223372036854775807 := rfl
 unfold okInt at h
 unfold Sim.inI
 omega
theorem rat_inI {a : GRat} (h : a.ok) : a.inI := ⟨inI_of h.1, inI_of h.2⟩
theorem rightI_ev {t : GTree} (ht : t.ok) : Ev_parse_Right t (rightI nmB t) /\ Ev_ref13_Right t (rightI nmB t) := by
 obtain ⟨L, hL, hw, _⟩ := lex_ok2
 exact rights_both (nm := nmB) (fun s _ => named_ev hL hw s) (fun s _ => name_ev12 s) (by decide +kernel) (fun a ha => right_ev (rat_inI ha)) (fun a ha => refright_ev (rat_inI ha))
  (fun a h => by have := (GRat.right_spec.1 h).1; omega) t ht
end Go.Sim.YtomeghkmdcfolaaGreatDoor
