/- What is proved: the statements UnitTimes and UnitBack as plain ones. -/
import Derived.Test.YtnhflokfcnfegaaUnitM
namespace Go.Sim.Ytnhflokfcnfegaa
open Go.RowKit Go.Proofs Go.Proofs.Try

theorem unitTimes_ev (a b : GDim) (p : GRat) (ha : a.ok) (hb : b.ok) (hp : p.ok) : Ev_law14_UnitTimes a b p true := by
  refine walk_law14_UnitTimes ?_
  unfold W_law14_UnitTimes
  refine Call.mk (times_ev ha hb hp) (Call.mk (reftimes_ev ha hb hp) (Br.t (GDim.beq_self _) (Br.t (by simp) ?_)))
  exact Call.mk (dright_ev ha) (Call.mk (refdright_ev ha) (Br.t (by simp) (Call.mk plain_ev (Call.mk refplain_ev (GDim.beq_self _)))))

theorem GRat.ok_of {a : GRat} (h : a.inI) : a.ok := by
  have e1 : IntKind.i64.min = -9223372036854775808 := rfl
  have e2 : IntKind.i64.max = 9223372036854775807 := rfl
  obtain ⟨h1, h2⟩ := h
  unfold Sim.inI at h1 h2
  refine ⟨⟨?_, ?_⟩, ⟨?_, ?_⟩⟩ <;> omega

theorem GRat.zero_inI : GRat.zero.inI := by constructor <;> (unfold Sim.inI; decide)

theorem add_inI (a b : GRat) : (toR (addS a.p b.p)).1.inI := by
  by_cases h : (toR (addS a.p b.p)).2 = 0
  · exact (add_v h).2.2.2.2
  · have : (addS a.p b.p).1 = (0, 0) := by
      have h' : (addS a.p b.p).2 ≠ 0 := h
      unfold addS at h' ⊢
      split
      · rename_i hr
        rw [if_pos hr] at h'
        unfold madeS at h' ⊢
        split
        · rename_i hb; rw [if_pos hb] at h'; exact absurd rfl h'
        · rfl
      · rfl
    show Sim.inI (addS a.p b.p).1.1 ∧ Sim.inI (addS a.p b.p).1.2
    rw [this]
    exact GRat.zero_inI

/-- What a product that has room is. -/
theorem times_ok {a b : GDim} {p : GRat} (h : (timesS a b p).2 = 0) : a.right = true ∧ b.right = true ∧ p.right = true ∧
    ∀ (j : Nat) (x y : GRat), a.E.toList[j]? = some x → b.E.toList[j]? = some y → ∃ z : GRat, (timesS a b p).1.E.toList[j]? = some z ∧ z.right = true ∧ z.v = x.v + y.v * p.v ∧ z.inI := by
  unfold timesS at h ⊢
  split at h
  · rename_i hr
    rw [if_pos hr]
    simp only [Bool.and_eq_true] at hr
    refine ⟨hr.1, hr.2.1, hr.2.2, ?_⟩
    split at h
    · rename_i r hf
      have := List.find?_some hf
      simp only [bne_iff_ne, ne_eq] at this
      exact absurd h this
    · rename_i hf
      intro j x y hx hy
      have he := entV_at (p := p) hx hy
      have h0 : (entS p x y).2 = 0 := by
        have := List.find?_eq_none.1 hf _ (List.mem_of_getElem? he)
        simpa using this
      refine ⟨(entS p x y).1, by rw [map_at, he]; rfl, ?_⟩
      unfold entS at h0 ⊢
      split at h0
      · rename_i hm
        rw [if_pos hm]
        obtain ⟨m1, m2, m3, m4, m5⟩ := mul_v hm
        obtain ⟨s1, s2, s3, s4, s5⟩ := add_v (a := x) (b := (toR (mulS y.p p.p)).1) h0
        exact ⟨s3, by rw [s4, m4], s5⟩
      · rename_i hm; exact absurd h0 hm
  · exact absurd h (by decide)

theorem times_err {a b : GDim} {p : GRat} (ha : a.right = true) (hb : b.right = true) (hp : p.right = true) : (timesS a b p).2 = 0 ∨ (timesS a b p).2 = 3 := by
  unfold timesS
  rw [if_pos (by simp [ha, hb, hp])]
  split
  · rename_i r hf
    right
    have h1 := List.find?_some hf
    simp only [bne_iff_ne, ne_eq] at h1
    obtain ⟨j, hj⟩ := List.mem_iff_getElem?.1 (List.mem_of_find?_eq_some hf)
    have hl : j < 7 := by have := (List.getElem?_eq_some_iff.1 hj).1; simpa using this
    have hx : a.E.toList[j]? = some (a.E.toList[j]'(by simp; omega)) := List.getElem?_eq_getElem _
    have hy : b.E.toList[j]? = some (b.E.toList[j]'(by simp; omega)) := List.getElem?_eq_getElem _
    have he := entV_at (p := p) hx hy
    rw [hj] at he
    have he := Option.some.inj he
    have rx := GDim.right_iff.1 ha _ (List.mem_of_getElem? hx)
    have ry := GDim.right_iff.1 hb _ (List.mem_of_getElem? hy)
    generalize a.E.toList[j]'(by simp; omega) = x at *
    generalize b.E.toList[j]'(by simp; omega) = y at *
    show r.2 = 3
    rw [he] at h1 ⊢
    unfold entS at h1 ⊢
    split at h1
    · rename_i hm
      rw [if_pos hm]
      exact (add_err rx (mul_v hm).2.2.1).resolve_left h1
    · rename_i hm
      rw [if_neg hm]
      exact (mul_err ry hp).resolve_left hm
  · exact .inl rfl

theorem times_zero {a b : GDim} {p : GRat} (h : (timesS a b p).2 ≠ 0) : (timesS a b p).1 = GDim.zero := by
  unfold timesS at h ⊢
  split
  · rename_i hr
    rw [if_pos hr] at h
    split
    · rfl
    · rename_i hf; rw [hf] at h; exact absurd rfl h
  · rfl

theorem GDim.zero_ok : GDim.zero.ok := by
  intro z hz
  have : z = GRat.zero := by
    have h : z ∈ [GRat.zero, GRat.zero, GRat.zero, GRat.zero, GRat.zero, GRat.zero, GRat.zero] := hz
    simpa using h
  rw [this]
  exact GRat.ok_of GRat.zero_inI

theorem GDim.get (d : GDim) {j : Nat} (h : j < 7) : ∃ x, d.E.toList[j]? = some x := ⟨_, List.getElem?_eq_getElem (by simp; omega)⟩

theorem times_isok (a b : GDim) (p : GRat) : (timesS a b p).1.ok := by
  by_cases h : (timesS a b p).2 = 0
  · refine GDim.all_of fun j z hj hz => ?_
    obtain ⟨x, hx⟩ := a.get hj
    obtain ⟨y, hy⟩ := b.get hj
    obtain ⟨z', hz', _, _, hi⟩ := (times_ok h).2.2.2 j x y hx hy
    rw [hz] at hz'
    cases hz'
    exact GRat.ok_of hi
  · rw [times_zero h]; exact GDim.zero_ok

theorem times_right {a b : GDim} {p : GRat} (h : (timesS a b p).2 = 0) : (timesS a b p).1.right = true := by
  refine GDim.right_iff.2 (GDim.all_of fun j z hj hz => ?_)
  obtain ⟨x, hx⟩ := a.get hj
  obtain ⟨y, hy⟩ := b.get hj
  obtain ⟨z', hz', hr, _⟩ := (times_ok h).2.2.2 j x y hx hy
  rw [hz] at hz'
  cases hz'
  exact hr

theorem unitBack_ev (a b : GDim) (p q : GRat) (ha : a.ok) (hb : b.ok) (hp : p.ok) (hq : q.ok) : Ev_law14_UnitBack a b p q true := by
  refine walk_law14_UnitBack ?_
  unfold W_law14_UnitBack
  refine Call.mk (times_ev ha hb hp) ⟨fun he => ?_, fun he => ?_⟩
  · have he : (timesS a b p).2 ≠ 0 := by simpa using he
    rw [times_zero he]
    exact GDim.beq_self _
  have he : (timesS a b p).2 = 0 := by simpa using he
  obtain ⟨ra, rb, rp, hv⟩ := times_ok he
  obtain ⟨p1, p2, p3⟩ := GRat.right_spec.1 rp
  have hpI := GRat.ok.inI hp
  have hpN := hpI.1
  unfold Sim.inI at hpN
  refine Let.as (-p.N) (by rw [wi (by omega) (by omega)]; omega) ?_
  obtain ⟨m, hm⟩ : ∃ m : GRat, m = ⟨-p.N, p.D⟩ := ⟨_, rfl⟩
  rw [← hm]
  have mI : m.inI := by rw [hm]; exact ⟨by simp only [Sim.inI]; omega, hpI.2⟩
  have mr : m.right = true := by
    rw [hm]
    exact GRat.right_spec.2 ⟨p1, by simp only; omega, by simp only [Int.natAbs_neg]; exact p3⟩
  have mv : m.v = -p.v := by rw [hm]; simp only [GRat.v, Rat.intCast_neg]; grind
  have xo := times_isok a b p
  have xr := times_right he
  refine Call.mk (times_ev xo hb (GRat.ok_of mI)) ⟨fun h2 => ?_, fun h2 => ?_⟩
  · have h2 : (timesS (timesS a b p).1 b m).2 ≠ 0 := by simpa using h2
    simp only [beq_iff_eq]
    exact (times_err xr rb mr).resolve_left h2
  have h2 : (timesS (timesS a b p).1 b m).2 = 0 := by simpa using h2
  have hy : (timesS (timesS a b p).1 b m).1 = a := by
    refine GDim.ext_at fun j hj => ?_
    obtain ⟨x, hx⟩ := a.get hj
    obtain ⟨y, hy⟩ := b.get hj
    obtain ⟨u, hu, ur, uv, _⟩ := hv j x y hx hy
    obtain ⟨z, hz, zr, zv, _⟩ := (times_ok h2).2.2.2 j u y hu hy
    rw [hz, hx]
    have := GRat.v_inj zr (GDim.right_iff.1 ra _ (List.mem_of_getElem? hx)) (by rw [zv, uv, mv]; grind)
    rw [this]
  rw [hy]
  refine Br.f (by rw [GDim.beq_self]; rfl) ?_
  refine Call.mk (refadd_ev hpI (GRat.ok.inI hq)) (Call.mk (times_ev xo hb hq) (Call.mk (times_ev ha hb (GRat.ok_of (add_inI p q))) ?_))
  refine ⟨fun _ => rfl, fun e1 => ⟨fun _ => rfl, fun e2 => ⟨fun _ => rfl, fun e3 => ?_⟩⟩⟩
  have e1 : (toR (addS p.p q.p)).2 = 0 := by simpa using e1
  have e2 : (timesS (timesS a b p).1 b q).2 = 0 := by simpa using e2
  have e3 : (timesS a b (toR (addS p.p q.p)).1).2 = 0 := by simpa using e3
  obtain ⟨_, _, _, sv, _⟩ := add_v e1
  refine (GDim.beq_iff _ _).2 ?_
  refine GDim.ext_at fun j hj => ?_
  obtain ⟨x, hx⟩ := a.get hj
  obtain ⟨y, hy⟩ := b.get hj
  obtain ⟨u, hu, ur, uv, _⟩ := hv j x y hx hy
  obtain ⟨z, hz, zr, zv, _⟩ := (times_ok e2).2.2.2 j u y hu hy
  obtain ⟨w, hw, wr, wv, _⟩ := (times_ok e3).2.2.2 j x y hx hy
  rw [hz, hw]
  rw [GRat.v_inj zr wr (by rw [zv, uv, wv, sv]; grind)]

end Go.Sim.Ytnhflokfcnfegaa
