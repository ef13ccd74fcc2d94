/- What is proved: the statement ParseRights. -/
import Derived.Test.YtnnfiohdkobkdaaGreatDoorZPRParN
import Derived.Test.YtnnfiohdkobkdaaGreatDoorZPRParH

namespace Go.Sim.YtnnfiohdkobkdaaGreatDoor
open Go.RowKit Go.Proofs Go.Proofs.Tryz
theorem name_ev12 (s : ByteArray) : Ev_ref12_Name s (nmB s) := by
  obtain ⟨l, hl⟩ : ∃ l, l = tl s 0 := ⟨_, rfl⟩
  have hbs : s = bs l := by rw [hl, bs_tl]
  have hlen : l.length = s.size := by rw [hl, tl_len]; omega
  have hB : nmB s = nmL l := by unfold nmB; rw [hl]
  have hget : ∀ i, i < s.size → ∃ b, s[i]? = some b ∧ l[i]? = some b := fun i h => by
    obtain ⟨b, h1, h2⟩ := tl_cons h
    refine ⟨b, h1, ?_⟩
    have := tl_get s i 0
    rw [h2] at this
    have h3 := tl_get s 0 i
    rw [← hl] at h3
    rw [h3]
    simpa using this.symm
  rw [hB]
  refine walk_ref12_Name ?_
  unfold W_ref12_Name
  refine ⟨fun he => ?_, fun he => Br.d (fun h24 => ?_) (fun h24 => ?_)⟩
  · show false = _
    rw [hbs, bs_nil] at he
    have : l = [] := by simpa using he
    rw [this]; rfl
  · show false = _
    unfold nmL
    rw [decide_eq_false (show ¬ l.length ≤ 24 by omega)]; simp
  · have hne : 0 < s.size := by
      by_cases h : 0 < s.size
      · exact h
      · have : l = [] := List.eq_nil_of_length_eq_zero (by omega)
        rw [hbs, bs_nil, this] at he; simp at he
    obtain ⟨b, hb1, hb2⟩ := hget 0 hne
    have hp : peek l 0 = (b.toNat : Int) := by unfold peek; rw [hb2]
    refine AtS.nat (p := 0) hb1 (Call.mk (refLetter_ev b) ⟨fun hn => ?_, fun hn => Call.mk (refWord_ev (by omega)) ⟨fun hw => ?_, fun hw => ?_⟩⟩)
    · show false = _
      have : letterB (b.toNat : Int) = false := by simpa using hn
      unfold nmL; rw [hp, this]; rfl
    · show false = _
      rw [← hl] at hw
      unfold nmL; rw [hw]; simp
    · rw [← hl] at hw
      have h1 : letterB (b.toNat : Int) = true := by simpa using hn
      have sp : ∀ (l : List UInt8), (∀ j y, j < l.length → l[j]? = some y → nameB (y.toNat : Int) = true) → span nameB l = l.length := by
        intro l
        induction l with
        | nil => intro _; rfl
        | cons b l ih =>
          intro h
          rw [span, if_pos (h 0 b (by simp) rfl), ih fun j y hj hy => h (j + 1) y (by simp; omega) (by simpa using hy)]; rfl
      have sp2 : ∀ (l : List UInt8) (j : Nat) (y : UInt8), l[j]? = some y → nameB (y.toNat : Int) = false → span nameB l ≠ l.length := by
        intro l
        induction l with
        | nil => intro j y h; simp at h
        | cons b l ih =>
          intro j y hj hy
          rw [span]
          split
          · rename_i hb
            cases j with
            | zero => simp at hj; subst hj; rw [hy] at hb; cases hb
            | succ j => have := ih j y (by simpa using hj) hy; simp only [List.length_cons]; omega
          · simp
      refine Loop1.first l (fun y => !nameB (y.toNat : Int)) ?_
      intro i k hi hP hk
      refine Br.d (fun hlt => ?_) (fun hge => ?_)
      · obtain ⟨y, hy1, hy2⟩ := hget i (by omega)
        have step : nameB (y.toNat : Int) = true → Let (IntKind.i64.wrap ((i : Int) + 1)) fun x => k x := fun hy => Let.as _ (wi1 (by omega)) (hk y hy2 (by simp [hy]))
        refine ⟨nameB (y.toNat : Int) = true, AtS.nat hy1 (Call.mk (refLetter_ev y) ⟨fun ha => AtS.nat hy1 (Call.mk (refDigit_ev _) ⟨fun hb => AtS.nat hy1 ⟨fun hc => ?_, fun hc => ?_⟩, fun hb => ?_⟩), fun ha => ?_⟩), step⟩
        · show false = _
          have : nameB (y.toNat : Int) = false := by
            unfold nameB
            have e1 : letterB (y.toNat : Int) = false := by simpa using ha
            have e2 : digitB (y.toNat : Int) = false := by simpa using hb
            have e3 : ((y.toNat : Int) == 95) = false := by simpa using hc
            rw [e1, e2, e3]; rfl
          unfold nmL
          rw [decide_eq_false (sp2 l i y hy2 this)]; simp
        · unfold nameB
          have : ((y.toNat : Int) == 95) = true := by simpa using hc
          rw [this]; simp
        · unfold nameB
          have : digitB (y.toNat : Int) = true := by simpa using hb
          rw [this]; simp
        · unfold nameB
          have : letterB (y.toNat : Int) = true := by simpa using ha
          rw [this]; rfl
      · show true = _
        have hall : span nameB l = l.length := sp l fun j y hj hy => by
          have := hP j y (by omega) hy
          simpa using this
        unfold nmL
        rw [hp, h1, hall, decide_eq_true (show l.length ≤ 24 by omega), hw]
        simp
theorem inI_of {n : Int} (h : okInt .i64 n) : Sim.inI n := by
  have e1 : IntKind.i64.min = -9223372036854775808 := rfl
  have e2 : IntKind.i64.max = 9223372036854775807 := rfl
  unfold okInt at h
  unfold Sim.inI
  omega
theorem rat_inI {a : GRat} (h : a.ok) : a.inI := ⟨inI_of h.1, inI_of h.2⟩
theorem parseRights_ev (t : GTree) (ht : t.ok) : Ev_law13_ParseRights t true := by
  obtain ⟨L, hL, hw, _⟩ := lex_ok2
  exact parseRights_of (nm := nmB) (fun s _ => named_ev hL hw s) (fun s _ => name_ev12 s) (by decide +kernel) (fun a ha => right_ev (rat_inI ha)) (fun a ha => refright_ev (rat_inI ha))
    (fun a h => by have := (GRat.right_spec.1 h).1; omega) t ht
end Go.Sim.YtnnfiohdkobkdaaGreatDoor
