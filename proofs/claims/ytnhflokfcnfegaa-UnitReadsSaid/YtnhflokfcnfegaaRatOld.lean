/- What is proved: what the functions on digits of 32 bits compute. -/
import Derived.Test.YtnhflokfcnfegaaTab

namespace Go.Sim.Ytnhflokfcnfegaa
open Go.RowKit Go.Proofs Go.Proofs.Try

theorem trim_fn (l0 : List Nat) (h0 : dOk l0) (hb : l0.length ≤ 1000000) : AFn prog 74 [.sl 83 1 (bl l0)] (.sl 83 1 (bl (dig (dval l0)))) false := by
  refine AFn.intro' (L := [(0, .dat (.sl 83 1 (bl l0)))]) tabOk Try.func74 rfl rfl Try.ntmps74 rfl rfl rfl ?_
  refine AWp.seq ?_
  refine AWp.regionN (fun _ => false) rfl ?_
  refine pS rfl rfl rfl ?_
  refine AOps.done ?_
  refine AWp.seq ?_
  refine AWp.block ?_
  refine AWp.loop (I := fun (l : List Nat) => mkSt [(0, .dat (.sl 83 1 (bl l)))] []) (Inv := fun l => dOk l ∧ dval l = dval l0 ∧ l.length ≤ l0.length) (μ := fun l => l.length) (x0 := l0) ⟨h0, rfl, Nat.le_refl _⟩ (Sub.list (fun i => i) rfl rfl ⟨rfl, trivial⟩ trivial) (fun l hx => ?_)
  obtain ⟨k1, k2, k3⟩ := hx
  refine AWp.seq ?_
  refine AWp.seq ?_
  refine AWp.regionN (fun _ => false) rfl ?_
  refine pS rfl rfl rfl ?_
  refine pI rfl rfl rfl ?_
  refine AOps.b tabOk rfl rfl rfl (fun c5 h5 => ?_)
  refine pB rfl rfl rfl ?_
  cases c5
  · -- c5 = false
    refine AOps.off rfl rfl ?_
    refine AOps.off rfl rfl ?_
    refine AOps.off rfl rfl ?_
    refine AOps.off rfl rfl ?_
    refine AOps.off rfl rfl ?_
    refine AOps.off rfl rfl ?_
    refine AOps.off rfl rfl ?_
    refine pB rfl rfl rfl ?_
    refine AOps.done ?_
    refine AWp.condF rfl ?_
    refine AWp.exit ?_
    refine AWp.seq ?_
    refine AWp.regionN (fun _ => false) rfl ?_
    refine pS rfl rfl rfl ?_
    refine pS rfl rfl rfl ?_
    refine AOps.done ?_
    refine AWp.ret ?_
    have : l = [] := by simpa [bl] using h5
    subst this
    refine ⟨_, rfl, ?_⟩
    simp only [fin]
    rw [← k2]; simp [dval, dig_zero]
  · -- c5 = true
    have hne : l ≠ [] := by rintro rfl; simp [bl] at h5
    obtain ⟨m, d, rfl⟩ : ∃ m d, l = m ++ [d] := by
      rcases List.eq_nil_or_concat l with h | ⟨m, d, h⟩
      · exact absurd h hne
      · exact ⟨m, d, by simpa using h⟩
    have hlen : (((bl (m ++ [d])).length : Nat) : Int) - 1 = (m.length : Nat) := by simp [bl]
    have hw : IntKind.i64.wrap ((((bl (m ++ [d])).length : Nat) : Int) - 1) = (m.length : Nat) := by
      rw [hlen]; simp at k3; exact wi (by omega) (by omega)
    refine pS rfl rfl rfl ?_
    refine pS rfl rfl rfl ?_
    refine pI rfl rfl rfl ?_
    refine AOps.i tabOk rfl rfl rfl hw ?_
    refine AOps.idx tabOk (z := .v (.int .u32 d)) rfl rfl rfl rfl rfl rfl rfl rfl (by omega) (by simp [bl]) ?_
    refine pI rfl rfl rfl ?_
    refine AOps.b tabOk rfl rfl rfl (fun c13 h13 => ?_)
    refine pB rfl rfl rfl ?_
    refine AOps.done ?_
    refine AWp.cond rfl (fun e => ?_) (fun e => ?_)
    · subst e
      refine AWp.skip ?_
      refine AWp.block ?_
      refine AWp.regionN (fun _ => false) rfl ?_
      refine pS rfl rfl rfl ?_
      refine pS rfl rfl rfl ?_
      refine pI rfl rfl rfl ?_
      refine AOps.i tabOk rfl rfl rfl hw ?_
      refine AOps.cut tabOk rfl rfl rfl rfl rfl rfl rfl ⟨_, rfl⟩ (Nat.zero_le _) (by simp [bl]) (by simp [bl] : _ = bl m) ?_
      refine pS rfl rfl rfl ?_
      refine AOps.done ?_
      have hd : d = 0 := by simpa using h13
      subst hd
      exact ⟨m, ⟨(dOk_append.1 k1).1, k2 ▸ dval_strip.symm, by simp at k3 ⊢; omega⟩, by simp, (Sub.list (fun i => i) rfl rfl ⟨rfl, trivial⟩ trivial)⟩
    · subst e
      refine AWp.exit ?_
      refine AWp.seq ?_
      refine AWp.regionN (fun _ => false) rfl ?_
      refine pS rfl rfl rfl ?_
      refine pS rfl rfl rfl ?_
      refine AOps.done ?_
      refine AWp.ret ?_
      have hd : d ≠ 0 := by simpa using h13
      refine ⟨_, rfl, ?_⟩
      simp only [fin]
      rw [← k2, dig_dval k1 (fun m' d' e => by
        have := List.append_inj' e rfl
        simp only [List.cons.injEq, and_true] at this
        rw [← this.2]; exact hd)]

theorem of_fn (n : Nat) (h : n < 18446744073709551616) : AFn prog 66 [.v (.int .u64 n)] (.sl 83 1 (bl (dig n))) false := by
  refine AFn.intro' (L := [(0, .dat (.v (.int .u64 n)))]) tabOk Try.func66 rfl rfl Try.ntmps66 rfl rfl rfl ?_
  refine AWp.seq ?_
  refine AWp.regionN (fun _ => false) rfl ?_
  refine pS rfl rfl rfl ?_
  refine AOps.done ?_
  refine AWp.seq ?_
  refine AWp.regionN (fun _ => false) rfl ?_
  refine pI rfl rfl rfl ?_
  refine AOps.i tabOk rfl rfl rfl (w32N n) ?_
  refine pI rfl rfl rfl ?_
  refine AOps.i tabOk rfl rfl rfl (j := ((n / 4294967296 : Nat) : Int)) (by simp [IntKind.bits]; rw [Int.fdiv_eq_ediv_of_nonneg _ (by omega)]) ?_
  refine AOps.i tabOk rfl rfl rfl (w32N _) ?_
  refine AOps.lit tabOk (ys := bl [n % 4294967296, n / 4294967296 % 4294967296]) rfl rfl rfl rfl rfl rfl ?_
  refine AOps.call (trim_fn [n % 4294967296, n / 4294967296 % 4294967296] (by intro d hd; simp at hd; omega) (by simp)) rfl rfl rfl ⟨.inl rfl, trivial⟩ ?_
  refine pS rfl rfl rfl ?_
  refine AOps.done ?_
  refine AWp.ret ?_
  refine ⟨_, rfl, ?_⟩
  simp only [fin, dval]
  rw [show n % 4294967296 + 4294967296 * (n / 4294967296 % 4294967296 + 4294967296 * 0) = n by omega]

theorem cmp_fn (a b : Nat) (ha : (dig a).length ≤ 1000000) (_hb : (dig b).length ≤ 1000000) : AFn prog 45 [.sl 83 1 (bl (dig a)), .sl 83 1 (bl (dig b))] (.v (.int .i64 (cmpS a b))) false := by
  refine AFn.intro' (L := [(0, .dat (.sl 83 1 (bl (dig a)))), (1, .dat (.sl 83 1 (bl (dig b))))]) tabOk Try.func45 rfl rfl Try.ntmps45 rfl rfl rfl ?_
  refine AWp.seq ?_
  refine AWp.regionN (fun _ => false) rfl ?_
  refine pI rfl rfl rfl ?_
  refine AOps.done ?_
  refine AWp.seq ?_
  refine AWp.seq ?_
  refine AWp.regionN (fun _ => false) rfl ?_
  refine pS rfl rfl rfl ?_
  refine pI rfl rfl rfl ?_
  refine pS rfl rfl rfl ?_
  refine pI rfl rfl rfl ?_
  refine AOps.b tabOk rfl rfl rfl (fun c10 h10 => ?_)
  refine AOps.done ?_
  refine AWp.cond rfl (fun e => ?_) (fun e => ?_)
  · subst e
    have hne : (dig a).length ≠ (dig b).length := by have := h10; simp [bl] at this; omega
    refine AWp.seq ?_
    refine AWp.seq ?_
    refine AWp.regionN (fun _ => false) rfl ?_
    refine pS rfl rfl rfl ?_
    refine pI rfl rfl rfl ?_
    refine pS rfl rfl rfl ?_
    refine pI rfl rfl rfl ?_
    refine AOps.b tabOk rfl rfl rfl (fun c15 h15 => ?_)
    refine AOps.done ?_
    refine AWp.cond rfl (fun e => ?_) (fun e => ?_)
    · subst e
      have hlt := dig_len_lt (show (dig a).length < (dig b).length by simpa [bl] using h15)
      refine AWp.seq ?_
      refine AWp.regionN (fun _ => false) rfl ?_
      refine pI rfl rfl rfl ?_
      refine AOps.done ?_
      refine AWp.ret ?_
      exact ⟨_, rfl, by simp [fin, cmpS, hlt]⟩
    · subst e
      have hle : (dig b).length ≤ (dig a).length := by have := h15; simp [bl] at this; omega
      have hge := dig_len_lt (show (dig b).length < (dig a).length by omega)
      refine AWp.skip ?_
      refine AWp.seq ?_
      refine AWp.regionN (fun _ => false) rfl ?_
      refine pI rfl rfl rfl ?_
      refine AOps.done ?_
      refine AWp.ret ?_
      exact ⟨_, rfl, by simp [fin, cmpS, hge, Nat.lt_asymm hge]⟩
  · subst e
    have hlen : (dig a).length = (dig b).length := by have := h10; simp [bl] at this; omega
    refine AWp.skip ?_
    refine AWp.seq ?_
    refine AWp.seq ?_
    refine AWp.regionN (fun _ => false) rfl ?_
    refine pS rfl rfl rfl ?_
    refine pI rfl rfl rfl ?_
    refine AOps.i tabOk rfl rfl rfl (j := (((dig a).length : Nat) : Int) - 1) (by simp only [bl_length]; exact wi (by omega) (by omega)) ?_
    refine pI rfl rfl rfl ?_
    refine AOps.done ?_
    refine AWp.block ?_
    refine AWp.loop (I := fun (k : Nat) => mkSt [(0, .dat (.sl 83 1 (bl (dig a)))), (1, .dat (.sl 83 1 (bl (dig b)))), (5, .dat (.v (.int .i64 ((k : Int) - 1))))] []) (Inv := fun k => k ≤ (dig a).length ∧ (dig a).drop k = (dig b).drop k) (μ := fun k => k) (x0 := (dig a).length) ⟨Nat.le_refl _, by rw [List.drop_length, hlen, List.drop_length]⟩ (Sub.list (fun i => i) rfl rfl ⟨rfl, rfl, rfl, trivial⟩ trivial) (fun k hx => ?_)
    obtain ⟨k1, k2⟩ := hx
    refine AWp.seq ?_
    refine AWp.seq ?_
    refine AWp.regionN (fun _ => false) rfl ?_
    refine pI rfl rfl rfl ?_
    refine AOps.b tabOk rfl rfl rfl (fun c20 h20 => ?_)
    refine AOps.done ?_
    refine AWp.cond rfl (fun e => ?_) (fun e => ?_)
    · subst e
      obtain ⟨m, rfl⟩ : ∃ m, k = m + 1 := ⟨k - 1, by have := h20; simp at this; omega⟩
      obtain ⟨d, hd⟩ : ∃ d, (dig a)[m]? = some d := ⟨_, List.getElem?_eq_getElem (by omega)⟩
      obtain ⟨e, he⟩ : ∃ e, (dig b)[m]? = some e := ⟨_, List.getElem?_eq_getElem (by omega)⟩
      have hm : (((m + 1 : Nat) : Int) - 1).toNat = m := by omega
      refine AWp.skip ?_
      refine AWp.seq ?_
      refine AWp.block ?_
      refine AWp.seq ?_
      refine AWp.seq ?_
      refine AWp.regionD (fun _ => false) mixed (by decide +kernel) rfl ?_
      refine pS rfl rfl rfl ?_
      refine pI rfl rfl rfl ?_
      refine AOps.idx tabOk (z := .v (.int .u32 (d : Nat))) rfl rfl rfl rfl rfl rfl rfl rfl (by omega) (by rw [hm]; exact bl_get hd) ?_
      refine pI rfl rfl rfl ?_
      refine pS rfl rfl rfl ?_
      refine pI rfl rfl rfl ?_
      refine AOps.idx tabOk (z := .v (.int .u32 (e : Nat))) rfl rfl rfl rfl rfl rfl rfl rfl (by omega) (by rw [hm]; exact bl_get he) ?_
      refine pI rfl rfl rfl ?_
      refine AOps.b tabOk rfl rfl rfl (fun c31 h31 => ?_)
      refine AOps.done ?_
      refine AWp.cond rfl (fun e => ?_) (fun e => ?_)
      · subst e
        have hlt := dig_lt_at hlen hd he k2 (by simpa using h31)
        refine AWp.seq ?_
        refine AWp.regionN (fun _ => false) rfl ?_
        refine pI rfl rfl rfl ?_
        refine AOps.done ?_
        refine AWp.ret ?_
        exact ⟨_, rfl, by simp [fin, cmpS, hlt]⟩
      · subst e
        have hge : e ≤ d := by simpa using h31
        refine AWp.skip ?_
        refine AWp.seq ?_
        refine AWp.regionD (fun _ => false) mixed (by decide +kernel) rfl ?_
        refine pS rfl rfl rfl ?_
        refine pI rfl rfl rfl ?_
        refine AOps.idx tabOk (z := .v (.int .u32 (d : Nat))) rfl rfl rfl rfl rfl rfl rfl rfl (by omega) (by rw [hm]; exact bl_get hd) ?_
        refine pI rfl rfl rfl ?_
        refine pS rfl rfl rfl ?_
        refine pI rfl rfl rfl ?_
        refine AOps.idx tabOk (z := .v (.int .u32 (e : Nat))) rfl rfl rfl rfl rfl rfl rfl rfl (by omega) (by rw [hm]; exact bl_get he) ?_
        refine pI rfl rfl rfl ?_
        refine AOps.b tabOk rfl rfl rfl (fun c40 h40 => ?_)
        refine AOps.done ?_
        refine AWp.cond rfl (fun e => ?_) (fun e => ?_)
        · subst e
          have hlt := dig_lt_at hlen.symm he hd k2.symm (by simpa using h40)
          refine AWp.seq ?_
          refine AWp.regionN (fun _ => false) rfl ?_
          refine pI rfl rfl rfl ?_
          refine AOps.done ?_
          refine AWp.ret ?_
          exact ⟨_, rfl, by simp [fin, cmpS, hlt, Nat.lt_asymm hlt]⟩
        · subst e
          have hle : d ≤ e := by simpa using h40
          refine AWp.skip ?_
          refine AWp.regionN (fun _ => false) rfl ?_
          refine pI rfl rfl rfl ?_
          refine AOps.i tabOk rfl rfl rfl (j := ((m : Nat) : Int) - 1) (by rw [wi (by omega) (by omega)]; omega) ?_
          refine pI rfl rfl rfl ?_
          refine AOps.done ?_
          have hde : d = e := by omega
          subst hde
          exact ⟨m, ⟨by omega, by rw [List.drop_eq_getElem_cons (show m < (dig a).length by omega), List.drop_eq_getElem_cons (show m < (dig b).length by omega), k2, (List.getElem?_eq_some_iff.1 hd).2, (List.getElem?_eq_some_iff.1 he).2]⟩, by omega, (Sub.list (fun i => i) rfl rfl ⟨rfl, rfl, rfl, trivial⟩ trivial)⟩
    · subst e
      have hk : k = 0 := by have := h20; simp at this; omega
      subst hk
      have hab : a = b := dig_inj (by simpa using k2)
      refine AWp.exit ?_
      refine AWp.seq ?_
      refine AWp.regionN (fun _ => false) rfl ?_
      refine pI rfl rfl rfl ?_
      refine AOps.done ?_
      refine AWp.ret ?_
      exact ⟨_, rfl, by simp [fin, cmpS, hab]⟩

theorem bits_fn (a : Nat) (ha : (dig a).length ≤ 1000000) : AFn prog 69 [.sl 83 1 (bl (dig a))] (.v (.int .i64 ((blen a : Nat) : Int))) false := by
  refine AFn.intro' (L := [(0, .dat (.sl 83 1 (bl (dig a))))]) tabOk Try.func69 rfl rfl Try.ntmps69 rfl rfl rfl ?_
  refine AWp.seq ?_
  refine AWp.regionN (fun _ => false) rfl ?_
  refine pI rfl rfl rfl ?_
  refine AOps.done ?_
  refine AWp.seq ?_
  refine AWp.seq ?_
  refine AWp.regionN (fun _ => false) rfl ?_
  refine pS rfl rfl rfl ?_
  refine pI rfl rfl rfl ?_
  refine AOps.b tabOk rfl rfl rfl (fun c7 h7 => ?_)
  refine AOps.done ?_
  refine AWp.cond rfl (fun e => ?_) (fun e => ?_)
  · subst e
    have h0 : a = 0 := by have := h7; simp [bl] at this; exact dig_nil.1 this
    refine AWp.seq ?_
    refine AWp.regionN (fun _ => false) rfl ?_
    refine pI rfl rfl rfl ?_
    refine AOps.done ?_
    refine AWp.ret ?_
    exact ⟨_, rfl, by simp [fin, h0, blen_zero]⟩
  · subst e
    have h0 : a ≠ 0 := by rintro rfl; simp [bl, dig_zero] at h7
    obtain ⟨m, d0, e1, e2, e3, e4, e5⟩ := dig_split h0
    have hl : (dig a).length = m.length + 1 := by rw [e1]; simp
    have hmi : ((m.length : Nat) : Int).toNat = m.length := by omega
    refine AWp.skip ?_
    refine AWp.seq ?_
    refine AWp.regionN (fun _ => false) rfl ?_
    refine pS rfl rfl rfl ?_
    refine pI rfl rfl rfl ?_
    refine AOps.i tabOk rfl rfl rfl (j := ((m.length : Nat) : Int)) (by simp only [bl_length]; rw [wi (by omega) (by omega)]; omega) ?_
    refine AOps.i tabOk rfl rfl rfl (j := ((32 * m.length : Nat) : Int)) (by rw [wi (by omega) (by omega)]; omega) ?_
    refine pI rfl rfl rfl ?_
    refine AOps.done ?_
    refine AWp.seq ?_
    refine AWp.seq ?_
    refine AWp.regionN (fun _ => false) rfl ?_
    refine pS rfl rfl rfl ?_
    refine pS rfl rfl rfl ?_
    refine pI rfl rfl rfl ?_
    refine AOps.i tabOk rfl rfl rfl (j := ((m.length : Nat) : Int)) (by simp only [bl_length]; rw [wi (by omega) (by omega)]; omega) ?_
    refine AOps.idx tabOk (z := .v (.int .u32 (d0 : Nat))) rfl rfl rfl rfl rfl rfl rfl rfl (by omega) (by rw [hmi]; exact bl_get (by rw [e1]; simp)) ?_
    refine pI rfl rfl rfl ?_
    refine pI rfl rfl rfl ?_
    refine AOps.done ?_
    refine AWp.block ?_
    refine AWp.loop (I := fun (x : Nat × Nat) => mkSt [(3, .dat (.v (.int .i64 (x.2 : Nat)))), (4, .dat (.v (.int .u32 (x.1 : Nat))))] []) (Inv := fun x => x.2 + blen x.1 = blen a ∧ x.1 < 4294967296) (μ := fun x => x.1) (x0 := (d0, 32 * m.length)) ⟨e5.symm, e4⟩ (Sub.list (fun i => i) rfl rfl ⟨rfl, rfl, trivial⟩ trivial) (fun ⟨d, n⟩ hx => ?_)
    obtain ⟨k1, k2⟩ := hx
    simp only at k1 k2
    have hbl : blen a ≤ 32 * 1000001 := by have := (blen_le d0 32).2 e4; omega
    refine AWp.seq ?_
    refine AWp.seq ?_
    refine AWp.regionN (fun _ => false) rfl ?_
    refine pI rfl rfl rfl ?_
    refine AOps.b tabOk rfl rfl rfl (fun c19 h19 => ?_)
    refine AOps.done ?_
    refine AWp.cond rfl (fun e => ?_) (fun e => ?_)
    · subst e
      have hd : d ≠ 0 := by have := h19; simp at this; omega
      refine AWp.skip ?_
      refine AWp.seq ?_
      refine AWp.block ?_
      refine AWp.regionN (fun _ => false) rfl ?_
      refine pI rfl rfl rfl ?_
      refine AOps.i tabOk rfl rfl rfl (j := ((n + 1 : Nat) : Int)) (by rw [wi (by omega) (by omega)]; omega) ?_
      refine pI rfl rfl rfl ?_
      refine AOps.done ?_
      refine AWp.regionN (fun _ => false) rfl ?_
      refine pI rfl rfl rfl ?_
      refine AOps.i tabOk rfl rfl rfl (j := ((d / 2 : Nat) : Int)) (by simp [IntKind.bits]; rw [Int.fdiv_eq_ediv_of_nonneg _ (by omega)]) ?_
      refine pI rfl rfl rfl ?_
      refine AOps.done ?_
      exact ⟨(d / 2, n + 1), ⟨by rw [blen_pos hd] at k1; simp only; omega, by simp only; omega⟩, by simp only; omega, (Sub.list (fun i => i) rfl rfl ⟨rfl, rfl, trivial⟩ trivial)⟩
    · subst e
      have hd : d = 0 := by simpa using h19
      subst hd
      refine AWp.exit ?_
      refine AWp.seq ?_
      refine AWp.regionN (fun _ => false) rfl ?_
      refine pI rfl rfl rfl ?_
      refine pI rfl rfl rfl ?_
      refine AOps.done ?_
      refine AWp.ret ?_
      exact ⟨_, rfl, by simp only [fin]; rw [← k1, blen_zero]; rfl⟩

theorem plus_fn (a b : Nat) (ha : (dig a).length ≤ 100000) (hb : (dig b).length ≤ 100000) : AFn prog 72 [.sl 83 1 (bl (dig a)), .sl 83 1 (bl (dig b))] (.sl 83 1 (bl (dig (a + b)))) false := by
  refine AFn.intro' (L := [(0, .dat (.sl 83 1 (bl (dig a)))), (1, .dat (.sl 83 1 (bl (dig b))))]) tabOk Try.func72 rfl rfl Try.ntmps72 rfl rfl rfl ?_
  refine AWp.seq ?_
  refine AWp.regionN (fun _ => false) rfl ?_
  refine pS rfl rfl rfl ?_
  refine AOps.done ?_
  refine AWp.seq ?_
  refine AWp.regionN (fun _ => false) rfl ?_
  refine AOps.litown tabOk (ys := bl []) rfl rfl rfl rfl rfl rfl rfl rfl ?_
  refine pO rfl rfl rfl ?_
  refine AOps.done ?_
  refine AWp.seq ?_
  refine AWp.regionN (fun _ => false) rfl ?_
  refine pI rfl rfl rfl ?_
  refine AOps.done ?_
  refine AWp.seq ?_
  refine AWp.seq ?_
  refine AWp.regionN (fun _ => false) rfl ?_
  refine pI rfl rfl rfl ?_
  refine AOps.done ?_
  refine AWp.block ?_
  refine AWp.loop (I := fun (x : List Nat × Nat × Nat) => mkSt [(0, .dat (.sl 83 1 (bl (dig a)))), (1, .dat (.sl 83 1 (bl (dig b)))), (5, .oref 0), (6, .dat (.v (.int .u64 (x.2.1 : Nat)))), (7, .dat (.v (.int .i64 (x.2.2 : Nat))))] [(0, .row 83 1 (bl x.1))]) (Inv := fun x => dOk x.1 ∧ x.1.length = x.2.2 ∧ x.2.1 ≤ 1 ∧ dval ((dig a).take x.2.2) + dval ((dig b).take x.2.2) = dval x.1 + 4294967296 ^ x.2.2 * x.2.1 ∧ (x.2.2 ≤ (dig a).length ∨ x.2.2 ≤ (dig b).length)) (μ := fun x => 200000 - x.2.2) (x0 := ([], 0, 0)) ⟨by simp [dOk], rfl, by simp, by simp [dval], .inl (Nat.zero_le _)⟩ (Sub.list (fun _ => 8) rfl rfl ⟨rfl, rfl, rfl, rfl, rfl, trivial⟩ ⟨rfl, trivial⟩) (fun ⟨o, c, i⟩ hx => ?_)
  obtain ⟨k1, k2, k3, k4, k5⟩ := hx
  simp only at k1 k2 k3 k4 k5
  refine AWp.cutseq (I := fun (_u : Unit) => mkSt [(0, .dat (.sl 83 1 (bl (dig a)))), (1, .dat (.sl 83 1 (bl (dig b)))), (5, .oref 0), (6, .dat (.v (.int .u64 (c : Nat)))), (7, .dat (.v (.int .i64 (i : Nat))))] [(0, .row 83 1 (bl o))]) (Inv := fun _u => i < (dig a).length ∨ i < (dig b).length) ?_ (fun _u hi => ?_)
  · -- ahead of the cut
    refine AWp.seq ?_
    refine AWp.regionN (fun _ => false) rfl ?_
    refine pI rfl rfl rfl ?_
    refine pS rfl rfl rfl ?_
    refine pI rfl rfl rfl ?_
    refine AOps.b tabOk rfl rfl rfl (fun c12 h12 => ?_)
    refine pB rfl rfl rfl ?_
    cases c12
    · -- c12 = false
      refine pI rfl rfl rfl ?_
      refine pS rfl rfl rfl ?_
      refine pI rfl rfl rfl ?_
      refine AOps.b tabOk rfl rfl rfl (fun c17 h17 => ?_)
      refine pB rfl rfl rfl ?_
      refine AOps.done ?_
      refine AWp.cond rfl (fun e => ?_) (fun e => ?_)
      · subst e
        refine AWp.skip ?_
        exact ⟨(), .inr (by simpa [bl] using h17), (Sub.list (fun i => i) rfl rfl ⟨rfl, rfl, rfl, rfl, rfl, trivial⟩ ⟨rfl, trivial⟩)⟩
      · subst e
        have hA : (dig a).length ≤ i := by simpa [bl] using h12
        have hB : (dig b).length ≤ i := by simpa [bl] using h17
        rw [List.take_of_length_le hA, List.take_of_length_le hB, dval_dig, dval_dig] at k4
        have hc : c % 4294967296 = c := by omega
        refine AWp.exit ?_
        refine AWp.seq ?_
        refine AWp.regionN (fun o => writes o) rfl ?_
        refine pO rfl rfl rfl ?_
        refine pI rfl rfl rfl ?_
        refine AOps.i tabOk rfl rfl rfl (w32N c) ?_
        refine AOps.lit tabOk (ys := bl [c % 4294967296]) rfl rfl rfl rfl rfl rfl ?_
        refine AOps.append tabOk rfl rfl rfl rfl rfl rfl rfl rfl rfl rfl rfl (.inl ⟨_, rfl⟩) (by simp [bl_length, maxLen]; omega) (by simp [bl_length, te83]; omega) (bl_append o [c % 4294967296]).symm ?_
        refine pO rfl rfl rfl ?_
        refine AOps.done ?_
        refine AWp.seq ?_
        refine AWp.freeze 5 54 rfl rfl ?_
        refine AWp.regionN (fun _ => false) rfl ?_
        refine pS rfl rfl rfl ?_
        refine AOps.call (trim_fn (o ++ [c % 4294967296]) (dOk_append.2 ⟨k1, by intro d hd; simp at hd; omega⟩) (by simp; omega)) rfl rfl rfl ⟨.inl rfl, trivial⟩ ?_
        refine pS rfl rfl rfl ?_
        refine AOps.done ?_
        refine AWp.ret ?_
        exact ⟨_, rfl, by simp only [fin]; rw [dval_append, k2, hc]; simp only [dval]; rw [k4]; simp⟩
    · -- c12 = true
      refine AOps.off rfl rfl ?_
      refine AOps.off rfl rfl ?_
      refine AOps.off rfl rfl ?_
      refine AOps.off rfl rfl ?_
      refine pB rfl rfl rfl ?_
      refine AOps.done ?_
      refine AWp.condT rfl ?_
      refine AWp.skip ?_
      exact ⟨(), .inl (by simpa [bl] using h12), (Sub.list (fun i => i) rfl rfl ⟨rfl, rfl, rfl, rfl, rfl, trivial⟩ ⟨rfl, trivial⟩)⟩
  · -- behind the cut
    refine AWp.seq ?_
    refine AWp.block ?_
    refine AWp.cutseq (I := fun (s : Nat) => mkSt [(0, .dat (.sl 83 1 (bl (dig a)))), (1, .dat (.sl 83 1 (bl (dig b)))), (5, .oref 0), (6, .dat (.v (.int .u64 (s : Nat)))), (7, .dat (.v (.int .i64 (i : Nat))))] [(0, .row 83 1 (bl o))]) (Inv := fun s => s = c + (dig a).getD i 0) ?_ (fun s hs => ?_)
    · -- ahead of the cut
      refine AWp.seq ?_
      refine AWp.regionN (fun _ => false) rfl ?_
      refine pI rfl rfl rfl ?_
      refine pS rfl rfl rfl ?_
      refine pI rfl rfl rfl ?_
      refine AOps.b tabOk rfl rfl rfl (fun c24 h24 => ?_)
      refine AOps.done ?_
      refine AWp.cond rfl (fun e => ?_) (fun e => ?_)
      · subst e
        have h24 : i < (dig a).length := by simpa [bl] using h24
        obtain ⟨d, hd⟩ : ∃ d, (dig a)[i]? = some d := ⟨_, List.getElem?_eq_getElem h24⟩
        have hdl := dOk_dig a d (List.mem_of_getElem? hd)
        refine AWp.regionN (fun _ => false) rfl ?_
        refine pI rfl rfl rfl ?_
        refine pS rfl rfl rfl ?_
        refine pI rfl rfl rfl ?_
        refine AOps.idx tabOk (z := .v (.int .u32 (d : Nat))) rfl rfl rfl rfl rfl rfl rfl rfl (by omega) (by simp only [Int.toNat_natCast]; exact bl_get hd) ?_
        refine pI rfl rfl rfl ?_
        refine AOps.i tabOk rfl rfl rfl (j := ((d : Nat) : Int)) (wu (by omega) (by omega)) ?_
        refine AOps.i tabOk rfl rfl rfl (j := ((c + d : Nat) : Int)) (by rw [wu (by omega) (by omega)]; omega) ?_
        refine pI rfl rfl rfl ?_
        refine AOps.done ?_
        exact ⟨c + d, by simp [List.getD_eq_getElem?_getD, hd], (Sub.list (fun i => i) rfl rfl ⟨rfl, rfl, rfl, rfl, rfl, trivial⟩ ⟨rfl, trivial⟩)⟩
      · subst e
        have h24 : (dig a).length ≤ i := by simpa [bl] using h24
        refine AWp.skip ?_
        exact ⟨c, by simp [List.getD_eq_getElem?_getD, List.getElem?_eq_none h24], (Sub.list (fun i => i) rfl rfl ⟨rfl, rfl, rfl, rfl, rfl, trivial⟩ ⟨rfl, trivial⟩)⟩
    · -- behind the cut
      refine AWp.cutseq (I := fun (t : Nat) => mkSt [(0, .dat (.sl 83 1 (bl (dig a)))), (1, .dat (.sl 83 1 (bl (dig b)))), (5, .oref 0), (6, .dat (.v (.int .u64 (t : Nat)))), (7, .dat (.v (.int .i64 (i : Nat))))] [(0, .row 83 1 (bl o))]) (Inv := fun t => t = s + (dig b).getD i 0) ?_ (fun t ht => ?_)
      · -- ahead of the cut
        refine AWp.seq ?_
        refine AWp.regionN (fun _ => false) rfl ?_
        refine pI rfl rfl rfl ?_
        refine pS rfl rfl rfl ?_
        refine pI rfl rfl rfl ?_
        refine AOps.b tabOk rfl rfl rfl (fun c35 h35 => ?_)
        refine AOps.done ?_
        refine AWp.cond rfl (fun e => ?_) (fun e => ?_)
        · subst e
          have h35 : i < (dig b).length := by simpa [bl] using h35
          obtain ⟨d, hd⟩ : ∃ d, (dig b)[i]? = some d := ⟨_, List.getElem?_eq_getElem h35⟩
          have hdl := dOk_dig b d (List.mem_of_getElem? hd)
          have ha1 := getD_dig a i
          refine AWp.regionN (fun _ => false) rfl ?_
          refine pI rfl rfl rfl ?_
          refine pS rfl rfl rfl ?_
          refine pI rfl rfl rfl ?_
          refine AOps.idx tabOk (z := .v (.int .u32 (d : Nat))) rfl rfl rfl rfl rfl rfl rfl rfl (by omega) (by simp only [Int.toNat_natCast]; exact bl_get hd) ?_
          refine pI rfl rfl rfl ?_
          refine AOps.i tabOk rfl rfl rfl (j := ((d : Nat) : Int)) (wu (by omega) (by omega)) ?_
          refine AOps.i tabOk rfl rfl rfl (j := ((s + d : Nat) : Int)) (by rw [wu (by omega) (by omega)]; omega) ?_
          refine pI rfl rfl rfl ?_
          refine AOps.done ?_
          exact ⟨s + d, by simp [List.getD_eq_getElem?_getD, hd], (Sub.list (fun i => i) rfl rfl ⟨rfl, rfl, rfl, rfl, rfl, trivial⟩ ⟨rfl, trivial⟩)⟩
        · subst e
          have h35 : (dig b).length ≤ i := by simpa [bl] using h35
          refine AWp.skip ?_
          exact ⟨s, by simp [List.getD_eq_getElem?_getD, List.getElem?_eq_none h35], (Sub.list (fun i => i) rfl rfl ⟨rfl, rfl, rfl, rfl, rfl, trivial⟩ ⟨rfl, trivial⟩)⟩
      · -- behind the cut
        have ha1 := getD_dig a i
        have hb1 := getD_dig b i
        refine AWp.seq ?_
        refine AWp.regionN (fun o => writes o) rfl ?_
        refine pO rfl rfl rfl ?_
        refine pI rfl rfl rfl ?_
        refine AOps.i tabOk rfl rfl rfl (w32N t) ?_
        refine AOps.lit tabOk (ys := bl [t % 4294967296]) rfl rfl rfl rfl rfl rfl ?_
        refine AOps.append tabOk rfl rfl rfl rfl rfl rfl rfl rfl rfl rfl rfl (.inl ⟨_, rfl⟩) (by simp [bl_length, maxLen]; omega) (by simp [bl_length, te83]; omega) (bl_append o [t % 4294967296]).symm ?_
        refine pO rfl rfl rfl ?_
        refine AOps.done ?_
        refine AWp.regionN (fun _ => false) rfl ?_
        refine pI rfl rfl rfl ?_
        refine AOps.i tabOk rfl rfl rfl (j := ((t / 4294967296 : Nat) : Int)) (by simp [IntKind.bits]; rw [Int.fdiv_eq_ediv_of_nonneg _ (by omega)]) ?_
        refine pI rfl rfl rfl ?_
        refine AOps.done ?_
        refine AWp.regionN (fun _ => false) rfl ?_
        refine pI rfl rfl rfl ?_
        refine AOps.i tabOk rfl rfl rfl (j := ((i + 1 : Nat) : Int)) (by rw [wi (by omega) (by omega)]; omega) ?_
        refine pI rfl rfl rfl ?_
        refine AOps.done ?_
        exact ⟨(o ++ [t % 4294967296], t / 4294967296, i + 1), ⟨dOk_append.2 ⟨k1, by intro d hd; simp at hd; omega⟩, by simp [k2], by simp only; omega, plus_step k2 k4 (by omega), by simp only; omega⟩, by simp only; omega, (Sub.list (fun _ => 47) rfl rfl ⟨rfl, rfl, rfl, rfl, rfl, trivial⟩ ⟨rfl, trivial⟩)⟩

theorem less_fn (a b : Nat) (ha : (dig a).length ≤ 100000) (hab : b ≤ a) : AFn prog 73 [.sl 83 1 (bl (dig a)), .sl 83 1 (bl (dig b))] (.sl 83 1 (bl (dig (a - b)))) false := by
  refine AFn.intro' (L := [(0, .dat (.sl 83 1 (bl (dig a)))), (1, .dat (.sl 83 1 (bl (dig b))))]) tabOk Try.func73 rfl rfl Try.ntmps73 rfl rfl rfl ?_
  refine AWp.seq ?_
  refine AWp.regionN (fun _ => false) rfl ?_
  refine pS rfl rfl rfl ?_
  refine AOps.done ?_
  refine AWp.seq ?_
  refine AWp.regionN (fun _ => false) rfl ?_
  refine AOps.litown tabOk (ys := bl []) rfl rfl rfl rfl rfl rfl rfl rfl ?_
  refine pO rfl rfl rfl ?_
  refine AOps.done ?_
  refine AWp.seq ?_
  refine AWp.regionN (fun _ => false) rfl ?_
  refine pI rfl rfl rfl ?_
  refine AOps.done ?_
  refine AWp.seq ?_
  refine AWp.seq ?_
  refine AWp.regionN (fun _ => false) rfl ?_
  refine pI rfl rfl rfl ?_
  refine AOps.done ?_
  refine AWp.block ?_
  refine AWp.loop (I := fun (x : List Nat × Nat × Nat) => mkSt [(0, .dat (.sl 83 1 (bl (dig a)))), (1, .dat (.sl 83 1 (bl (dig b)))), (5, .oref 0), (6, .dat (.v (.int .i64 (x.2.1 : Nat)))), (7, .dat (.v (.int .i64 (x.2.2 : Nat))))] [(0, .row 83 1 (bl x.1))]) (Inv := fun x => dOk x.1 ∧ x.1.length = x.2.2 ∧ x.2.1 ≤ 1 ∧ dval ((dig a).take x.2.2) + 4294967296 ^ x.2.2 * x.2.1 = dval x.1 + dval ((dig b).take x.2.2) ∧ x.2.2 ≤ (dig a).length) (μ := fun x => 200000 - x.2.2) (x0 := ([], 0, 0)) ⟨by simp [dOk], rfl, by simp, by simp [dval], Nat.zero_le _⟩ (Sub.list (fun _ => 9) rfl rfl ⟨rfl, rfl, rfl, rfl, rfl, trivial⟩ ⟨rfl, trivial⟩) (fun ⟨o, r, i⟩ hx => ?_)
  obtain ⟨k1, k2, k3, k4, k5⟩ := hx
  simp only at k1 k2 k3 k4 k5
  refine AWp.seq ?_
  refine AWp.seq ?_
  refine AWp.regionN (fun _ => false) rfl ?_
  refine pI rfl rfl rfl ?_
  refine pS rfl rfl rfl ?_
  refine pI rfl rfl rfl ?_
  refine AOps.b tabOk rfl rfl rfl (fun c13 h13 => ?_)
  refine AOps.done ?_
  refine AWp.cond rfl (fun e => ?_) (fun e => ?_)
  · subst e
    have h13 : i < (dig a).length := by simpa [bl] using h13
    obtain ⟨d, hd⟩ : ∃ d, (dig a)[i]? = some d := ⟨_, List.getElem?_eq_getElem h13⟩
    have hdl := dOk_dig a d (List.mem_of_getElem? hd)
    have hd1 : (dig a).getD i 0 = d := by simp [List.getD_eq_getElem?_getD, hd]
    refine AWp.skip ?_
    refine AWp.seq ?_
    refine AWp.block ?_
    refine AWp.seq ?_
    refine AWp.regionN (fun _ => false) rfl ?_
    refine pS rfl rfl rfl ?_
    refine pI rfl rfl rfl ?_
    refine AOps.idx tabOk (z := .v (.int .u32 (d : Nat))) rfl rfl rfl rfl rfl rfl rfl rfl (by omega) (by simp only [Int.toNat_natCast]; exact bl_get hd) ?_
    refine pI rfl rfl rfl ?_
    refine AOps.i tabOk rfl rfl rfl (j := ((d : Nat) : Int)) (wi (by omega) (by omega)) ?_
    refine pI rfl rfl rfl ?_
    refine AOps.i tabOk rfl rfl rfl (j := (d : Int) - (r : Nat)) (wi (n := (d : Int) - (r : Nat)) (by omega) (by omega)) ?_
    refine pI rfl rfl rfl ?_
    refine AOps.done ?_
    refine AWp.cutseq (I := fun (n : Int) => mkSt [(0, .dat (.sl 83 1 (bl (dig a)))), (1, .dat (.sl 83 1 (bl (dig b)))), (5, .oref 0), (7, .dat (.v (.int .i64 (i : Nat)))), (8, .dat (.v (.int .i64 n)))] [(0, .row 83 1 (bl o))]) (Inv := fun n => n = (d : Int) - (r : Nat) - (((dig b).getD i 0 : Nat) : Int)) ?_ (fun n hn => ?_)
    · -- ahead of the cut
      refine AWp.seq ?_
      refine AWp.regionN (fun _ => false) rfl ?_
      refine pI rfl rfl rfl ?_
      refine pS rfl rfl rfl ?_
      refine pI rfl rfl rfl ?_
      refine AOps.b tabOk rfl rfl rfl (fun c26 h26 => ?_)
      refine AOps.done ?_
      refine AWp.cond rfl (fun e => ?_) (fun e => ?_)
      · subst e
        have h26 : i < (dig b).length := by simpa [bl] using h26
        obtain ⟨e, he⟩ : ∃ e, (dig b)[i]? = some e := ⟨_, List.getElem?_eq_getElem h26⟩
        have hel := dOk_dig b e (List.mem_of_getElem? he)
        refine AWp.regionN (fun _ => false) rfl ?_
        refine pI rfl rfl rfl ?_
        refine pS rfl rfl rfl ?_
        refine pI rfl rfl rfl ?_
        refine AOps.idx tabOk (z := .v (.int .u32 (e : Nat))) rfl rfl rfl rfl rfl rfl rfl rfl (by omega) (by simp only [Int.toNat_natCast]; exact bl_get he) ?_
        refine pI rfl rfl rfl ?_
        refine AOps.i tabOk rfl rfl rfl (j := ((e : Nat) : Int)) (wi (by omega) (by omega)) ?_
        refine AOps.i tabOk rfl rfl rfl (j := (d : Int) - (r : Nat) - (e : Nat)) (wi (by omega) (by omega)) ?_
        refine pI rfl rfl rfl ?_
        refine AOps.done ?_
        exact ⟨(d : Int) - (r : Nat) - (e : Nat), by simp [List.getD_eq_getElem?_getD, he], (Sub.list (fun i => i) rfl rfl ⟨rfl, rfl, rfl, rfl, rfl, trivial⟩ ⟨rfl, trivial⟩)⟩
      · subst e
        have h26 : (dig b).length ≤ i := by simpa [bl] using h26
        refine AWp.skip ?_
        exact ⟨(d : Int) - (r : Nat), by simp [List.getD_eq_getElem?_getD, List.getElem?_eq_none h26], (Sub.list (fun i => i) rfl rfl ⟨rfl, rfl, rfl, rfl, rfl, trivial⟩ ⟨rfl, trivial⟩)⟩
    · -- behind the cut
      have hb1 := getD_dig b i
      refine AWp.seq ?_
      refine AWp.regionN (fun _ => false) rfl ?_
      refine pI rfl rfl rfl ?_
      refine AOps.done ?_
      refine AWp.cutseq (I := fun (y : Nat × Nat) => mkSt [(0, .dat (.sl 83 1 (bl (dig a)))), (1, .dat (.sl 83 1 (bl (dig b)))), (5, .oref 0), (6, .dat (.v (.int .i64 (y.2 : Nat)))), (7, .dat (.v (.int .i64 (i : Nat)))), (8, .dat (.v (.int .i64 (y.1 : Nat))))] [(0, .row 83 1 (bl o))]) (Inv := fun y => (y.1 : Int) = n + 4294967296 * (y.2 : Nat) ∧ y.1 < 4294967296 ∧ y.2 ≤ 1) ?_ (fun ⟨y, r1⟩ hy => ?_)
      · -- ahead of the cut
        refine AWp.seq ?_
        refine AWp.regionN (fun _ => false) rfl ?_
        refine pI rfl rfl rfl ?_
        refine AOps.b tabOk rfl rfl rfl (fun c35 h35 => ?_)
        refine AOps.done ?_
        refine AWp.cond rfl (fun e => ?_) (fun e => ?_)
        · subst e
          have h35 : n < 0 := by simpa using h35
          refine AWp.seq ?_
          refine AWp.regionN (fun _ => false) rfl ?_
          refine pI rfl rfl rfl ?_
          refine AOps.i tabOk rfl rfl rfl (j := (((n + 4294967296).toNat : Nat) : Int)) (by rw [wi (by omega) (by omega)]; omega) ?_
          refine pI rfl rfl rfl ?_
          refine AOps.done ?_
          refine AWp.regionN (fun _ => false) rfl ?_
          refine pI rfl rfl rfl ?_
          refine AOps.done ?_
          exact ⟨((n + 4294967296).toNat, 1), ⟨by simp only; omega, by simp only; omega, by simp⟩, (Sub.list (fun i => i) rfl rfl ⟨rfl, rfl, rfl, rfl, rfl, rfl, trivial⟩ ⟨rfl, trivial⟩)⟩
        · subst e
          obtain ⟨m, rfl⟩ := Int.eq_ofNat_of_zero_le (show 0 ≤ n by simpa using h35)
          refine AWp.skip ?_
          exact ⟨(m, 0), ⟨by simp, by simp only; omega, by simp⟩, (Sub.list (fun i => i) rfl rfl ⟨rfl, rfl, rfl, rfl, rfl, rfl, trivial⟩ ⟨rfl, trivial⟩)⟩
      · -- behind the cut
        obtain ⟨hy1, hy2, hy3⟩ := hy
        simp only at hy1 hy2 hy3
        refine AWp.regionN (fun o => writes o) rfl ?_
        refine pO rfl rfl rfl ?_
        refine pI rfl rfl rfl ?_
        refine AOps.i tabOk rfl rfl rfl (j := ((y : Nat) : Int)) (by rw [w32N]; omega) ?_
        refine AOps.lit tabOk (ys := bl [y]) rfl rfl rfl rfl rfl rfl ?_
        refine AOps.append tabOk rfl rfl rfl rfl rfl rfl rfl rfl rfl rfl rfl (.inl ⟨_, rfl⟩) (by simp [bl_length, maxLen]; omega) (by simp [bl_length, te83]; omega) (bl_append o [y]).symm ?_
        refine pO rfl rfl rfl ?_
        refine AOps.done ?_
        refine AWp.regionN (fun _ => false) rfl ?_
        refine pI rfl rfl rfl ?_
        refine AOps.i tabOk rfl rfl rfl (j := ((i + 1 : Nat) : Int)) (by rw [wi (by omega) (by omega)]; omega) ?_
        refine pI rfl rfl rfl ?_
        refine AOps.done ?_
        exact ⟨(o ++ [y], r1, i + 1), ⟨dOk_append.2 ⟨k1, by intro z hz; simp at hz; omega⟩, by simp [k2], by simp only; omega, less_step k2 k4 (by rw [hd1]; simp only; omega), by simp only; omega⟩, by simp only; omega, (Sub.list (fun _ => 42) rfl rfl ⟨rfl, rfl, rfl, rfl, rfl, trivial⟩ ⟨rfl, trivial⟩)⟩
  · subst e
    have h13 : (dig a).length ≤ i := by simpa [bl] using h13
    have hf := less_end (by omega) hab k1 k2 k4
    refine AWp.exit ?_
    refine AWp.seq ?_
    refine AWp.freeze 5 0 rfl rfl ?_
    refine AWp.regionN (fun _ => false) rfl ?_
    refine pS rfl rfl rfl ?_
    refine AOps.call (trim_fn o k1 (by omega)) rfl rfl rfl ⟨.inl rfl, trivial⟩ ?_
    refine pS rfl rfl rfl ?_
    refine AOps.done ?_
    refine AWp.ret ?_
    exact ⟨_, rfl, by simp only [fin]; rw [hf]⟩

theorem left_fn (a n : Nat) (ha : (dig a).length ≤ 100000) (hn : n ≤ 3200000) : AFn prog 78 [.sl 83 1 (bl (dig a)), .v (.int .i64 ((n : Nat) : Int))] (.sl 83 1 (bl (dig (a * 2 ^ n)))) false := by
  have hs2 : 2 ^ (n % 32) ≤ 2 ^ 31 := Nat.pow_le_pow_right (by omega) (by omega)
  refine AFn.intro' (L := [(0, .dat (.sl 83 1 (bl (dig a)))), (1, .dat (.v (.int .i64 ((n : Nat) : Int))))]) tabOk Try.func78 rfl rfl Try.ntmps78 rfl rfl rfl ?_
  refine AWp.seq ?_
  refine AWp.regionN (fun _ => false) rfl ?_
  refine pS rfl rfl rfl ?_
  refine AOps.done ?_
  refine AWp.seq ?_
  refine AWp.seq ?_
  refine AWp.regionN (fun _ => false) rfl ?_
  refine pS rfl rfl rfl ?_
  refine pI rfl rfl rfl ?_
  refine AOps.b tabOk rfl rfl rfl (fun c11 h11 => ?_)
  refine AOps.done ?_
  refine AWp.cond rfl (fun e => ?_) (fun e => ?_)
  · subst e
    have h0 : a = 0 := by have := h11; simp [bl] at this; exact dig_nil.1 this
    refine AWp.seq ?_
    refine AWp.regionN (fun _ => false) rfl ?_
    refine pS rfl rfl rfl ?_
    refine pS rfl rfl rfl ?_
    refine AOps.done ?_
    refine AWp.ret ?_
    exact ⟨_, rfl, by simp only [fin, h0, Nat.zero_mul]⟩
  · subst e
    refine AWp.skip ?_
    refine AWp.seq ?_
    refine AWp.regionN (fun _ => false) rfl ?_
    refine pI rfl rfl rfl ?_
    refine AOps.i tabOk rfl rfl rfl (j := ((n / 32 : Nat) : Int)) (by rw [wi (by rw [Int.tdiv_eq_ediv_of_nonneg (by omega)]; omega) (by rw [Int.tdiv_eq_ediv_of_nonneg (by omega)]; omega), Int.tdiv_eq_ediv_of_nonneg (by omega)]; omega) ?_
    refine AOps.makeown tabOk rfl rfl rfl rfl rfl rfl rfl (by omega) (by simp only [te83]; omega) (by omega) (zs := bl (List.replicate (n / 32) 0)) (by simp [bl, te83]; omega) ?_
    refine pO rfl rfl rfl ?_
    refine AOps.done ?_
    refine AWp.seq ?_
    refine AWp.regionN (fun _ => false) rfl ?_
    refine pI rfl rfl rfl ?_
    refine AOps.done ?_
    refine AWp.seq ?_
    refine AWp.seq ?_
    refine AWp.regionN (fun _ => false) rfl ?_
    refine pS rfl rfl rfl ?_
    refine AOps.i tabOk rfl rfl rfl (j := (((dig a).length : Nat) : Int)) (by simp only [bl_length]) ?_
    refine pI rfl rfl rfl ?_
    refine AOps.done ?_
    refine AWp.block ?_
    refine AWp.loop (I := fun (x : List Nat × Nat × Nat) => mkSt [(1, .dat (.v (.int .i64 ((n : Nat) : Int)))), (5, .oref 0), (6, .dat (.v (.int .u64 (x.2.1 : Nat)))), (16, .dat (.sl 83 1 (bl (dig a)))), (17, .dat (.v (.int .i64 (((dig a).length : Nat) : Int)))), (18, .dat (.v (.int .i64 (x.2.2 : Nat))))] [(0, .row 83 1 (bl x.1))]) (Inv := fun x => dOk x.1 ∧ x.1.length = n / 32 + x.2.2 ∧ x.2.1 < 2 ^ (n % 32) ∧ dval x.1 + 4294967296 ^ (n / 32 + x.2.2) * x.2.1 = 4294967296 ^ (n / 32) * (dval ((dig a).take x.2.2) * 2 ^ (n % 32)) ∧ x.2.2 ≤ (dig a).length) (μ := fun x => 200000 - x.2.2) (x0 := (List.replicate (n / 32) 0, 0, 0)) ⟨by intro d hd; simp at hd; omega, by simp, by simp [Nat.two_pow_pos], by simp [dval, dval_replicate], Nat.zero_le _⟩ (Sub.list (fun _ => 15) rfl rfl ⟨rfl, rfl, rfl, rfl, rfl, rfl, trivial⟩ ⟨rfl, trivial⟩) (fun ⟨o, c, i⟩ hx => ?_)
    obtain ⟨k1, k2, k3, k4, k5⟩ := hx
    simp only at k1 k2 k3 k4 k5
    refine AWp.seq ?_
    refine AWp.regionN (fun _ => false) rfl ?_
    refine AOps.b tabOk rfl rfl rfl (fun c19 h19 => ?_)
    refine AOps.done ?_
    refine AWp.seq ?_
    refine AWp.cond rfl (fun e => ?_) (fun e => ?_)
    · subst e
      have h13 : i < (dig a).length := by simpa using h19
      obtain ⟨d, hd⟩ : ∃ d, (dig a)[i]? = some d := ⟨_, List.getElem?_eq_getElem h13⟩
      have hdl := dOk_dig a d (List.mem_of_getElem? hd)
      have hd1 : (dig a).getD i 0 = d := by simp [List.getD_eq_getElem?_getD, hd]
      obtain ⟨t, ht⟩ : ∃ t, t = c + d * 2 ^ (n % 32) := ⟨_, rfl⟩
      have hdm : d * 2 ^ (n % 32) ≤ 4294967295 * 2 ^ 31 := Nat.mul_le_mul (by omega) hs2
      refine AWp.skip ?_
      refine AWp.seq ?_
      refine AWp.block ?_
      refine AWp.seq ?_
      refine AWp.regionN (fun _ => false) rfl ?_
      refine AOps.idx tabOk (z := .v (.int .u32 (d : Nat))) rfl rfl rfl rfl rfl rfl rfl rfl (by omega) (by simp only [Int.toNat_natCast]; exact bl_get hd) ?_
      refine pI rfl rfl rfl ?_
      refine pI rfl rfl rfl ?_
      refine AOps.done ?_
      refine AWp.seq ?_
      refine AWp.regionN (fun _ => false) rfl ?_
      refine pI rfl rfl rfl ?_
      refine pI rfl rfl rfl ?_
      refine AOps.i tabOk rfl rfl rfl (j := ((d : Nat) : Int)) (wu (by omega) (by omega)) ?_
      refine pI rfl rfl rfl ?_
      refine AOps.i tabOk rfl rfl rfl (j := ((n % 32 : Nat) : Int)) (by rw [Int.tmod_eq_emod_of_nonneg (by omega)]; omega) ?_
      refine AOps.i tabOk rfl rfl rfl (j := ((n % 32 : Nat) : Int)) (wu (by omega) (by omega)) ?_
      refine AOps.q rfl rfl rfl rfl rfl (rbin_shl (by omega)) (shl_ok hdl (by omega)) ?_
      refine AOps.i tabOk rfl rfl rfl (j := ((t : Nat) : Int)) (ht ▸ or_ok k3 (by simp) (by omega) (by omega)) ?_
      refine pI rfl rfl rfl ?_
      refine AOps.done ?_
      refine AWp.seq ?_
      refine AWp.regionN (fun o => writes o) rfl ?_
      refine pO rfl rfl rfl ?_
      refine pI rfl rfl rfl ?_
      refine AOps.i tabOk rfl rfl rfl (w32N t) ?_
      refine AOps.lit tabOk (ys := bl [t % 4294967296]) rfl rfl rfl rfl rfl rfl ?_
      refine AOps.append tabOk rfl rfl rfl rfl rfl rfl rfl rfl rfl rfl rfl (.inl ⟨_, rfl⟩) (by simp [bl_length, maxLen]; omega) (by simp [bl_length, te83]; omega) (bl_append o [t % 4294967296]).symm ?_
      refine pO rfl rfl rfl ?_
      refine AOps.done ?_
      refine AWp.regionN (fun _ => false) rfl ?_
      refine pI rfl rfl rfl ?_
      refine AOps.i tabOk rfl rfl rfl (j := ((t / 4294967296 : Nat) : Int)) (by simp [IntKind.bits]; rw [Int.fdiv_eq_ediv_of_nonneg _ (by omega)]) ?_
      refine pI rfl rfl rfl ?_
      refine AOps.done ?_
      refine AWp.regionN (fun _ => false) rfl ?_
      refine AOps.i tabOk rfl rfl rfl (j := ((i + 1 : Nat) : Int)) (by show IntKind.i64.wrap ((i : Int) + 1) = _; rw [wi (by omega) (by omega)]; omega) ?_
      refine pI rfl rfl rfl ?_
      refine AOps.done ?_
      exact ⟨(o ++ [t % 4294967296], t / 4294967296, i + 1), ⟨dOk_append.2 ⟨k1, by intro z hz; simp at hz; omega⟩, by simp [k2]; omega, ht ▸ carry_lt k3 hdl, ht ▸ left_step k2 k4 hd1, by simp only; omega⟩, by simp only; omega, (Sub.list (fun _ => 34) rfl rfl ⟨rfl, rfl, rfl, rfl, rfl, rfl, trivial⟩ ⟨rfl, trivial⟩)⟩
    · subst e
      have h13 : (dig a).length ≤ i := by simpa using h19
      have hc : c % 4294967296 = c := by omega
      refine AWp.exit ?_
      refine AWp.seq ?_
      refine AWp.regionN (fun o => writes o) rfl ?_
      refine pO rfl rfl rfl ?_
      refine pI rfl rfl rfl ?_
      refine AOps.i tabOk rfl rfl rfl (w32N c) ?_
      refine AOps.lit tabOk (ys := bl [c % 4294967296]) rfl rfl rfl rfl rfl rfl ?_
      refine AOps.append tabOk rfl rfl rfl rfl rfl rfl rfl rfl rfl rfl rfl (.inl ⟨_, rfl⟩) (by simp [bl_length, maxLen]; omega) (by simp [bl_length, te83]; omega) (bl_append o [c % 4294967296]).symm ?_
      refine pO rfl rfl rfl ?_
      refine AOps.done ?_
      refine AWp.seq ?_
      refine AWp.freeze 5 42 rfl rfl ?_
      refine AWp.regionN (fun _ => false) rfl ?_
      refine pS rfl rfl rfl ?_
      refine AOps.call (trim_fn (o ++ [c % 4294967296]) (dOk_append.2 ⟨k1, by intro d hd; simp at hd; omega⟩) (by simp; omega)) rfl rfl rfl ⟨.inl rfl, trivial⟩ ?_
      refine pS rfl rfl rfl ?_
      refine AOps.done ?_
      refine AWp.ret ?_
      exact ⟨_, rfl, by simp only [fin]; rw [hc, left_end h13 k2 k4]⟩

theorem by_fn (a b : Nat) (ha : (dig a).length ≤ 100000) (hb : (dig b).length ≤ 100000) : AFn prog 58 [.sl 83 1 (bl (dig a)), .sl 83 1 (bl (dig b))] (.sl 83 1 (bl (dig (a * b)))) false := by
  refine AFn.intro' (L := [(0, .dat (.sl 83 1 (bl (dig a)))), (1, .dat (.sl 83 1 (bl (dig b))))]) tabOk Try.func58 rfl rfl Try.ntmps58 rfl rfl rfl ?_
  refine AWp.seq ?_
  refine AWp.regionN (fun _ => false) rfl ?_
  refine pS rfl rfl rfl ?_
  refine AOps.done ?_
  refine AWp.seq ?_
  refine AWp.regionN (fun _ => false) rfl ?_
  refine pS rfl rfl rfl ?_
  refine pI rfl rfl rfl ?_
  refine pS rfl rfl rfl ?_
  refine pI rfl rfl rfl ?_
  refine AOps.i tabOk rfl rfl rfl (j := (((dig a).length + (dig b).length : Nat) : Int)) (by simp only [bl_length]; rw [wi (by omega) (by omega)]; omega) ?_
  refine AOps.i tabOk rfl rfl rfl (j := (((dig a).length + (dig b).length + 1 : Nat) : Int)) (by rw [wi (by omega) (by omega)]; omega) ?_
  refine AOps.makeown tabOk rfl rfl rfl rfl rfl rfl rfl (by omega) (by simp only [te83]; omega) (by omega) (zs := bl (List.replicate ((dig a).length + (dig b).length + 1) 0)) (by simp [bl, te83]; omega) ?_
  refine pO rfl rfl rfl ?_
  refine AOps.done ?_
  refine AWp.seq ?_
  refine AWp.seq ?_
  refine AWp.regionN (fun _ => false) rfl ?_
  refine pI rfl rfl rfl ?_
  refine AOps.done ?_
  refine AWp.block ?_
  refine AWp.loop (I := fun (x : List Nat × Nat) => mkSt [(0, .dat (.sl 83 1 (bl (dig a)))), (1, .dat (.sl 83 1 (bl (dig b)))), (5, .oref 0), (6, .dat (.v (.int .i64 (x.2 : Nat))))] [(0, .row 83 1 (bl x.1))]) (Inv := fun x => dOk x.1 ∧ x.1.length = (dig a).length + (dig b).length + 1 ∧ dval x.1 = dval ((dig a).take x.2) * b ∧ x.2 ≤ (dig a).length) (μ := fun x => 200000 - x.2) (x0 := (List.replicate ((dig a).length + (dig b).length + 1) 0, 0)) ⟨by intro d hd; simp at hd; omega, by simp, by simp [dval, dval_replicate], Nat.zero_le _⟩ (Sub.list (fun _ => 16) rfl rfl ⟨rfl, rfl, rfl, rfl, trivial⟩ ⟨rfl, trivial⟩) (fun ⟨o, i⟩ hx => ?_)
  obtain ⟨k1, k2, k3, k4⟩ := hx
  simp only at k1 k2 k3 k4
  refine AWp.seq ?_
  refine AWp.seq ?_
  refine AWp.regionN (fun _ => false) rfl ?_
  refine pI rfl rfl rfl ?_
  refine pS rfl rfl rfl ?_
  refine pI rfl rfl rfl ?_
  refine AOps.b tabOk rfl rfl rfl (fun c20 h20 => ?_)
  refine AOps.done ?_
  refine AWp.cond rfl (fun e => ?_) (fun e => ?_)
  · subst e
    have h13 : i < (dig a).length := by simpa [bl] using h20
    obtain ⟨d, hd⟩ : ∃ d, (dig a)[i]? = some d := ⟨_, List.getElem?_eq_getElem h13⟩
    have hdl := dOk_dig a d (List.mem_of_getElem? hd)
    have hd1 : (dig a).getD i 0 = d := by simp [List.getD_eq_getElem?_getD, hd]
    obtain ⟨z, hz0⟩ : ∃ z, o[i + (dig b).length]? = some z := ⟨_, List.getElem?_eq_getElem (by omega)⟩
    have hz1 := high_zero hz0 (by rw [k3]; exact take_mul_lt rfl k4)
    subst hz1
    refine AWp.skip ?_
    refine AWp.seq ?_
    refine AWp.block ?_
    refine AWp.seq ?_
    refine AWp.regionN (fun _ => false) rfl ?_
    refine pI rfl rfl rfl ?_
    refine AOps.done ?_
    refine AWp.seq ?_
    refine AWp.seq ?_
    refine AWp.regionN (fun _ => false) rfl ?_
    refine pI rfl rfl rfl ?_
    refine AOps.done ?_
    refine AWp.block ?_
    refine AWp.loop (I := fun (x : List Nat × Nat × Nat) => mkSt [(0, .dat (.sl 83 1 (bl (dig a)))), (1, .dat (.sl 83 1 (bl (dig b)))), (5, .oref 0), (6, .dat (.v (.int .i64 (i : Nat)))), (7, .dat (.v (.int .u64 (x.2.1 : Nat)))), (8, .dat (.v (.int .i64 (x.2.2 : Nat))))] [(0, .row 83 1 (bl x.1))]) (Inv := fun x => dOk x.1 ∧ x.1.length = (dig a).length + (dig b).length + 1 ∧ x.2.1 < 4294967296 ∧ dval x.1 + 4294967296 ^ (i + x.2.2) * x.2.1 = dval ((dig a).take i) * b + 4294967296 ^ i * (d * dval ((dig b).take x.2.2)) ∧ x.1[i + (dig b).length]? = some 0 ∧ x.2.2 ≤ (dig b).length) (μ := fun x => 200000 - x.2.2) (x0 := (o, 0, 0)) ⟨k1, k2, by simp, by simp [dval, k3], hz0, Nat.zero_le _⟩ (Sub.list (fun i => i) rfl rfl ⟨rfl, rfl, rfl, rfl, rfl, rfl, trivial⟩ ⟨rfl, trivial⟩) (fun ⟨p, c, j⟩ hx => ?_)
    obtain ⟨m1, m2, m3, m4, hz, m5⟩ := hx
    simp only at m1 m2 m3 m4 hz m5
    refine AWp.seq ?_
    refine AWp.seq ?_
    refine AWp.regionN (fun _ => false) rfl ?_
    refine pI rfl rfl rfl ?_
    refine pS rfl rfl rfl ?_
    refine pI rfl rfl rfl ?_
    refine AOps.b tabOk rfl rfl rfl (fun c26 h26 => ?_)
    refine AOps.done ?_
    refine AWp.cond rfl (fun e => ?_) (fun e => ?_)
    · subst e
      have h26 : j < (dig b).length := by simpa [bl] using h26
      obtain ⟨e, he⟩ : ∃ e, (dig b)[j]? = some e := ⟨_, List.getElem?_eq_getElem h26⟩
      have hel := dOk_dig b e (List.mem_of_getElem? he)
      have he1 : (dig b).getD j 0 = e := by simp [List.getD_eq_getElem?_getD, he]
      obtain ⟨f, hf⟩ : ∃ f, p[i + j]? = some f := ⟨_, List.getElem?_eq_getElem (by omega)⟩
      have hfl := m1 f (List.mem_of_getElem? hf)
      have hm : d * e ≤ 4294967295 * 4294967295 := Nat.mul_le_mul (by omega) (by omega)
      obtain ⟨t, ht⟩ : ∃ t, t = d * e + f + c := ⟨_, rfl⟩
      refine AWp.skip ?_
      refine AWp.seq ?_
      refine AWp.block ?_
      refine AWp.seq ?_
      refine AWp.regionD (fun _ => false) mixed (by decide +kernel) rfl ?_
      refine pS rfl rfl rfl ?_
      refine pI rfl rfl rfl ?_
      refine AOps.idx tabOk (z := .v (.int .u32 (d : Nat))) rfl rfl rfl rfl rfl rfl rfl rfl (by omega) (by simp only [Int.toNat_natCast]; exact bl_get hd) ?_
      refine pI rfl rfl rfl ?_
      refine AOps.i tabOk rfl rfl rfl (j := ((d : Nat) : Int)) (wu (by omega) (by omega)) ?_
      refine pS rfl rfl rfl ?_
      refine pI rfl rfl rfl ?_
      refine AOps.idx tabOk (z := .v (.int .u32 (e : Nat))) rfl rfl rfl rfl rfl rfl rfl rfl (by omega) (by simp only [Int.toNat_natCast]; exact bl_get he) ?_
      refine pI rfl rfl rfl ?_
      refine AOps.i tabOk rfl rfl rfl (j := ((e : Nat) : Int)) (wu (by omega) (by omega)) ?_
      refine AOps.i tabOk rfl rfl rfl (j := ((d * e : Nat) : Int)) (by rw [← Int.natCast_mul, wu (by omega) (by omega)]) ?_
      refine pO rfl rfl rfl ?_
      refine pI rfl rfl rfl ?_
      refine pI rfl rfl rfl ?_
      refine AOps.i tabOk rfl rfl rfl (j := ((i + j : Nat) : Int)) (by show IntKind.i64.wrap ((i : Int) + j) = _; rw [wi (by omega) (by omega)]; omega) ?_
      refine AOps.idxown tabOk rfl rfl rfl rfl rfl rfl rfl rfl (by omega) (by simp only [bl_length]; omega) (m := i + j) (by omega) ?_
      refine AOps.loadrow tabOk rfl rfl rfl rfl rfl rfl rfl (bl_get hf) rfl ?_
      refine AOps.i tabOk rfl rfl rfl (j := ((f : Nat) : Int)) (wu (by omega) (by omega)) ?_
      refine AOps.i tabOk rfl rfl rfl (j := ((d * e + f : Nat) : Int)) (by rw [wu (by omega) (by omega)]; omega) ?_
      refine pI rfl rfl rfl ?_
      refine AOps.i tabOk rfl rfl rfl (j := ((t : Nat) : Int)) (by show IntKind.u64.wrap (((d * e + f : Nat) : Int) + c) = _; rw [wu (by omega) (by omega)]; omega) ?_
      refine pI rfl rfl rfl ?_
      refine AOps.done ?_
      refine AWp.seq ?_
      refine AWp.regionN (fun o => writes o) rfl ?_
      refine pO rfl rfl rfl ?_
      refine pI rfl rfl rfl ?_
      refine pI rfl rfl rfl ?_
      refine AOps.i tabOk rfl rfl rfl (j := ((i + j : Nat) : Int)) (by show IntKind.i64.wrap ((i : Int) + j) = _; rw [wi (by omega) (by omega)]; omega) ?_
      refine pI rfl rfl rfl ?_
      refine AOps.i tabOk rfl rfl rfl (w32N t) ?_
      refine AOps.idxown tabOk rfl rfl rfl rfl rfl rfl rfl rfl (by omega) (by simp only [bl_length]; omega) (m := i + j) (by omega) ?_
      refine AOps.storerow tabOk rfl rfl rfl rfl rfl rfl rfl rfl (by simp only [bl_length]; omega) rfl rfl rfl (zs := bl (p.set (i + j) (t % 4294967296))) (bl_set ..) ?_
      refine AOps.done ?_
      refine AWp.regionN (fun _ => false) rfl ?_
      refine pI rfl rfl rfl ?_
      refine AOps.i tabOk rfl rfl rfl (j := ((t / 4294967296 : Nat) : Int)) (by simp [IntKind.bits]; rw [Int.fdiv_eq_ediv_of_nonneg _ (by omega)]) ?_
      refine pI rfl rfl rfl ?_
      refine AOps.done ?_
      refine AWp.regionN (fun _ => false) rfl ?_
      refine pI rfl rfl rfl ?_
      refine AOps.i tabOk rfl rfl rfl (j := ((j + 1 : Nat) : Int)) (by show IntKind.i64.wrap ((j : Int) + 1) = _; rw [wi (by omega) (by omega)]; omega) ?_
      refine pI rfl rfl rfl ?_
      refine AOps.done ?_
      exact ⟨(p.set (i + j) (t % 4294967296), t / 4294967296, j + 1), ⟨dOk_set m1 (by omega), by simp [m2], by simp only; omega, by_step hf he1 ht m4, by simp only; rw [List.getElem?_set_ne (by omega)]; exact hz, by simp only; omega⟩, by simp only; omega, (Sub.list (fun i => i) rfl rfl ⟨rfl, rfl, rfl, rfl, rfl, rfl, trivial⟩ ⟨rfl, trivial⟩)⟩
    · subst e
      have h26 : (dig b).length ≤ j := by simpa [bl] using h26
      have hj : j = (dig b).length := by omega
      subst hj
      refine AWp.exit ?_
      refine AWp.regionN (fun o => writes o) rfl ?_
      refine pO rfl rfl rfl ?_
      refine pI rfl rfl rfl ?_
      refine pS rfl rfl rfl ?_
      refine AOps.i tabOk rfl rfl rfl (j := (((dig b).length : Nat) : Int)) (by simp only [bl_length]) ?_
      refine AOps.i tabOk rfl rfl rfl (j := ((i + (dig b).length : Nat) : Int)) (by rw [wi (by omega) (by omega)]; omega) ?_
      refine pI rfl rfl rfl ?_
      refine AOps.i tabOk rfl rfl rfl (w32N c) ?_
      refine AOps.idxown tabOk rfl rfl rfl rfl rfl rfl rfl rfl (by omega) (by simp only [bl_length]; omega) (m := i + (dig b).length) (by omega) ?_
      refine AOps.storerow tabOk rfl rfl rfl rfl rfl rfl rfl rfl (by simp only [bl_length]; omega) rfl rfl rfl (zs := bl (p.set (i + (dig b).length) (c % 4294967296))) (bl_set ..) ?_
      refine AOps.done ?_
      refine AWp.regionN (fun _ => false) rfl ?_
      refine pI rfl rfl rfl ?_
      refine AOps.i tabOk rfl rfl rfl (j := ((i + 1 : Nat) : Int)) (by show IntKind.i64.wrap ((i : Int) + 1) = _; rw [wi (by omega) (by omega)]; omega) ?_
      refine pI rfl rfl rfl ?_
      refine AOps.done ?_
      exact ⟨(p.set (i + (dig b).length) (c % 4294967296), i + 1), ⟨dOk_set m1 (by omega), by simp [m2], by_end rfl m3 hz (hd1 ▸ rfl) (hd1 ▸ m4), by simp only; omega⟩, by simp only; omega, (Sub.list (fun i => i) rfl rfl ⟨rfl, rfl, rfl, rfl, trivial⟩ ⟨rfl, trivial⟩)⟩
  · subst e
    have h13 : (dig a).length ≤ i := by simpa [bl] using h20
    refine AWp.exit ?_
    refine AWp.seq ?_
    refine AWp.freeze 5 0 rfl rfl ?_
    refine AWp.regionN (fun _ => false) rfl ?_
    refine pS rfl rfl rfl ?_
    refine AOps.call (trim_fn o k1 (by omega)) rfl rfl rfl ⟨.inl rfl, trivial⟩ ?_
    refine pS rfl rfl rfl ?_
    refine AOps.done ?_
    refine AWp.ret ?_
    exact ⟨_, rfl, by simp only [fin]; rw [k3, List.take_of_length_le h13, dval_dig]⟩

end Go.Sim.Ytnhflokfcnfegaa

/- What is proved: what division by digits, and the quotients of two numbers, compute. -/
namespace Go.Sim.Ytnhflokfcnfegaa
open Go.RowKit Go.Proofs Go.Proofs.Try

theorem rest_fn (a b : Nat) (ha : (dig a).length ≤ 10000) (hb : (dig b).length ≤ 10000) (hb0 : b ≠ 0) : AFn prog 67 [.sl 83 1 (bl (dig a)), .sl 83 1 (bl (dig b))] (.sl 83 1 (bl (dig (a % b)))) false := by
  have hA := blen_dig_len ha
  have hB := blen_dig_len hb
  refine AFn.intro' (L := [(0, .dat (.sl 83 1 (bl (dig a)))), (1, .dat (.sl 83 1 (bl (dig b))))]) tabOk Try.func67 rfl rfl Try.ntmps67 rfl rfl rfl ?_
  refine AWp.seq ?_
  refine AWp.regionN (fun _ => false) rfl ?_
  refine pS rfl rfl rfl ?_
  refine AOps.done ?_
  refine AWp.seq ?_
  refine AWp.regionN (fun _ => false) rfl ?_
  refine pS rfl rfl rfl ?_
  refine AOps.call (bits_fn a (by omega)) rfl rfl rfl ⟨.inl rfl, trivial⟩ ?_
  refine pS rfl rfl rfl ?_
  refine AOps.call (bits_fn b (by omega)) rfl rfl rfl ⟨.inl rfl, trivial⟩ ?_
  refine AOps.i tabOk rfl rfl rfl (j := (blen a : Int) - blen b) (wi (by omega) (by omega)) ?_
  refine pI rfl rfl rfl ?_
  refine AOps.done ?_
  refine AWp.seq ?_
  refine AWp.block ?_
  refine AWp.loop (I := fun (x : Nat × Int) => mkSt [(0, .dat (.sl 83 1 (bl (dig x.1)))), (1, .dat (.sl 83 1 (bl (dig b)))), (5, .dat (.v (.int .i64 x.2)))] []) (Inv := fun x => x.1 % b = a % b ∧ x.1 < b * 2 ^ (x.2 + 1).toNat ∧ x.1 ≤ a ∧ x.2 ≤ (blen a : Int) - blen b ∧ -1000000 ≤ x.2) (μ := fun x => (x.2 + 1).toNat) (x0 := (a, (blen a : Int) - blen b)) ⟨rfl, div_init hb0, Nat.le_refl _, Int.le_refl _, by simp only; omega⟩ (Sub.list (fun i => i) rfl rfl ⟨rfl, rfl, rfl, trivial⟩ trivial) (fun ⟨A, k⟩ hx => ?_)
  obtain ⟨k1, k2, k3, k4, k5⟩ := hx
  simp only at k1 k2 k3 k4 k5
  refine AWp.seq ?_
  refine AWp.seq ?_
  refine AWp.regionN (fun _ => false) rfl ?_
  refine pI rfl rfl rfl ?_
  refine AOps.b tabOk rfl rfl rfl (fun c13 h13 => ?_)
  refine AOps.done ?_
  refine AWp.cond rfl (fun e => ?_) (fun e => ?_)
  · subst e
    obtain ⟨m, rfl⟩ := Int.eq_ofNat_of_zero_le (show 0 ≤ k by simpa using h13)
    have hm1 : (((m : Nat) : Int) + 1).toNat = m + 1 := by omega
    rw [hm1] at k2
    have hd := dig_len_blen (b * 2 ^ m)
    have hbm := blen_mul_pow b m
    have hdA := dig_len_le k3
    refine AWp.skip ?_
    refine AWp.block ?_
    refine AWp.seq ?_
    refine AWp.regionN (fun _ => false) rfl ?_
    refine pS rfl rfl rfl ?_
    refine pI rfl rfl rfl ?_
    refine AOps.call (left_fn b m (by omega) (by omega)) rfl rfl rfl ⟨.inl rfl, .inl rfl, trivial⟩ ?_
    refine pS rfl rfl rfl ?_
    refine AOps.done ?_
    refine AWp.cutseq (I := fun (s : Nat) => mkSt [(0, .dat (.sl 83 1 (bl (dig s)))), (1, .dat (.sl 83 1 (bl (dig b)))), (5, .dat (.v (.int .i64 ((m : Nat) : Int))))] []) (Inv := fun s => s % b = A % b ∧ s < b * 2 ^ m ∧ s ≤ A) ?_ (fun s hs => ?_)
    · -- ahead of the cut
      refine AWp.seq ?_
      refine AWp.regionN (fun _ => false) rfl ?_
      refine pS rfl rfl rfl ?_
      refine pS rfl rfl rfl ?_
      refine AOps.call (cmp_fn (b * 2 ^ m) A (by omega) (by omega)) rfl rfl rfl ⟨.inl rfl, .inl rfl, trivial⟩ ?_
      refine AOps.b tabOk rfl rfl rfl (fun c20 h20 => ?_)
      refine AOps.done ?_
      refine AWp.cond rfl (fun e => ?_) (fun e => ?_)
      · subst e
        have hle := cmpS_le h20
        have hlt2 := (div_sub_lt k2).resolve_right (Nat.mul_ne_zero hb0 (Nat.pos_iff_ne_zero.1 (Nat.two_pow_pos m)))
        refine AWp.regionN (fun _ => false) rfl ?_
        refine pS rfl rfl rfl ?_
        refine pS rfl rfl rfl ?_
        refine AOps.call (less_fn A (b * 2 ^ m) (by omega) hle) rfl rfl rfl ⟨.inl rfl, .inl rfl, trivial⟩ ?_
        refine pS rfl rfl rfl ?_
        refine AOps.done ?_
        exact ⟨A - b * 2 ^ m, ⟨div_sub_mod hle, hlt2, Nat.sub_le _ _⟩, (Sub.list (fun i => i) rfl rfl ⟨rfl, rfl, rfl, trivial⟩ trivial)⟩
      · subst e
        have hlt := cmpS_gt h20
        refine AWp.skip ?_
        exact ⟨A, ⟨rfl, hlt, Nat.le_refl _⟩, (Sub.list (fun i => i) rfl rfl ⟨rfl, rfl, rfl, trivial⟩ trivial)⟩
    · -- behind the cut
      refine AWp.regionN (fun _ => false) rfl ?_
      refine pI rfl rfl rfl ?_
      refine AOps.i tabOk rfl rfl rfl (j := ((m : Nat) : Int) - 1) (wi (by omega) (by omega)) ?_
      refine pI rfl rfl rfl ?_
      refine AOps.done ?_
      exact ⟨(s, (m : Int) - 1), ⟨by rw [← k1]; exact hs.1, by simp only; rw [show ((m : Int) - 1 + 1).toNat = m by omega]; exact hs.2.1, Nat.le_trans hs.2.2 k3, by simp only; omega, by simp only; omega⟩, by simp only; omega, (Sub.list (fun i => i) rfl rfl ⟨rfl, rfl, rfl, trivial⟩ trivial)⟩
  · subst e
    have hk : (k + 1).toNat = 0 := by have := h13; simp at this; omega
    rw [hk] at k2
    refine AWp.exit ?_
    refine AWp.seq ?_
    refine AWp.regionN (fun _ => false) rfl ?_
    refine pS rfl rfl rfl ?_
    refine pS rfl rfl rfl ?_
    refine AOps.done ?_
    refine AWp.ret ?_
    exact ⟨_, rfl, by rw [← k1, Nat.mod_eq_of_lt (by simpa using k2)]; rfl⟩

theorem quo_fn (a b : Nat) (ha : (dig a).length ≤ 10000) (hb : (dig b).length ≤ 10000) (hb0 : b ≠ 0) : AFn prog 65 [.sl 83 1 (bl (dig a)), .sl 83 1 (bl (dig b))] (.sl 83 1 (bl (dig (a / b)))) false := by
  have hA := blen_dig_len ha
  have hB := blen_dig_len hb
  refine AFn.intro' (L := [(0, .dat (.sl 83 1 (bl (dig a)))), (1, .dat (.sl 83 1 (bl (dig b))))]) tabOk Try.func65 rfl rfl Try.ntmps65 rfl rfl rfl ?_
  refine AWp.seq ?_
  refine AWp.regionN (fun _ => false) rfl ?_
  refine pS rfl rfl rfl ?_
  refine AOps.done ?_
  refine AWp.seq ?_
  refine AWp.regionN (fun _ => false) rfl ?_
  refine AOps.lit tabOk (ys := bl []) rfl rfl rfl rfl rfl rfl ?_
  refine pS rfl rfl rfl ?_
  refine AOps.done ?_
  refine AWp.seq ?_
  refine AWp.regionN (fun _ => false) rfl ?_
  refine pS rfl rfl rfl ?_
  refine AOps.call (bits_fn a (by omega)) rfl rfl rfl ⟨.inl rfl, trivial⟩ ?_
  refine pS rfl rfl rfl ?_
  refine AOps.call (bits_fn b (by omega)) rfl rfl rfl ⟨.inl rfl, trivial⟩ ?_
  refine AOps.i tabOk rfl rfl rfl (j := (blen a : Int) - blen b) (wi (by omega) (by omega)) ?_
  refine pI rfl rfl rfl ?_
  refine AOps.done ?_
  refine AWp.seq ?_
  refine AWp.block ?_
  refine AWp.loop (I := fun (x : Nat × Nat × Int) => mkSt [(0, .dat (.sl 83 1 (bl (dig x.1)))), (1, .dat (.sl 83 1 (bl (dig b)))), (5, .dat (.sl 83 1 (bl (dig x.2.1)))), (6, .dat (.v (.int .i64 x.2.2)))] []) (Inv := fun x => x.1 + b * (x.2.1 * 2 ^ (x.2.2 + 1).toNat) = a ∧ x.1 < b * 2 ^ (x.2.2 + 1).toNat ∧ x.2.2 ≤ (blen a : Int) - blen b ∧ -1000000 ≤ x.2.2) (μ := fun x => (x.2.2 + 1).toNat) (x0 := (a, 0, (blen a : Int) - blen b)) ⟨by simp, div_init hb0, Int.le_refl _, by simp only; omega⟩ (Sub.list (fun i => i) rfl rfl ⟨rfl, rfl, (by rw [dig_zero]; rfl), rfl, trivial⟩ trivial) (fun ⟨A, q, k⟩ hx => ?_)
  obtain ⟨k1, k2, k4, k5⟩ := hx
  simp only at k1 k2 k4 k5
  refine AWp.seq ?_
  refine AWp.seq ?_
  refine AWp.regionN (fun _ => false) rfl ?_
  refine pI rfl rfl rfl ?_
  refine AOps.b tabOk rfl rfl rfl (fun c15 h15 => ?_)
  refine AOps.done ?_
  refine AWp.cond rfl (fun e => ?_) (fun e => ?_)
  · subst e
    obtain ⟨m, rfl⟩ := Int.eq_ofNat_of_zero_le (show 0 ≤ k by simpa using h15)
    have hm1 : (((m : Nat) : Int) + 1).toNat = m + 1 := by omega
    rw [hm1] at k1 k2
    have hd := dig_len_blen (b * 2 ^ m)
    have hbm := blen_mul_pow b m
    have k3 : A ≤ a := by omega
    have hdA := dig_len_le k3
    have hq : q * 2 ^ 1 ≤ a := by have h1 : q * 2 ^ 1 ≤ q * 2 ^ (m + 1) := Nat.mul_le_mul_left _ (Nat.pow_le_pow_right (by omega) (by omega)); have h2 : 1 * (q * 2 ^ (m + 1)) ≤ b * (q * 2 ^ (m + 1)) := Nat.mul_le_mul_right _ (by omega); omega
    have hdq := dig_len_le hq
    have hdq1 := dig_len_le (show q ≤ a by omega)
    refine AWp.skip ?_
    refine AWp.block ?_
    refine AWp.seq ?_
    refine AWp.regionN (fun _ => false) rfl ?_
    refine pS rfl rfl rfl ?_
    refine pI rfl rfl rfl ?_
    refine AOps.call (left_fn b m (by omega) (by omega)) rfl rfl rfl ⟨.inl rfl, .inl rfl, trivial⟩ ?_
    refine pS rfl rfl rfl ?_
    refine AOps.done ?_
    refine AWp.seq ?_
    refine AWp.regionN (fun _ => false) rfl ?_
    refine pS rfl rfl rfl ?_
    refine AOps.call (left_fn q 1 (by omega) (by omega)) rfl rfl rfl ⟨.inl rfl, .inl rfl, trivial⟩ ?_
    refine pS rfl rfl rfl ?_
    refine AOps.done ?_
    refine AWp.cutseq (I := fun (s : Nat × Nat) => mkSt [(0, .dat (.sl 83 1 (bl (dig s.1)))), (1, .dat (.sl 83 1 (bl (dig b)))), (5, .dat (.sl 83 1 (bl (dig s.2)))), (6, .dat (.v (.int .i64 ((m : Nat) : Int))))] []) (Inv := fun s => s.1 + b * (s.2 * 2 ^ m) = a ∧ s.1 < b * 2 ^ m) ?_ (fun s hs => ?_)
    · -- ahead of the cut
      refine AWp.seq ?_
      refine AWp.regionN (fun _ => false) rfl ?_
      refine pS rfl rfl rfl ?_
      refine pS rfl rfl rfl ?_
      refine AOps.call (cmp_fn (b * 2 ^ m) A (by omega) (by omega)) rfl rfl rfl ⟨.inl rfl, .inl rfl, trivial⟩ ?_
      refine AOps.b tabOk rfl rfl rfl (fun c24 h24 => ?_)
      refine AOps.done ?_
      refine AWp.cond rfl (fun e => ?_) (fun e => ?_)
      · subst e
        have hle := cmpS_le h24
        have hlt2 := (div_sub_lt k2).resolve_right (Nat.mul_ne_zero hb0 (Nat.pos_iff_ne_zero.1 (Nat.two_pow_pos m)))
        refine AWp.seq ?_
        refine AWp.regionN (fun _ => false) rfl ?_
        refine pS rfl rfl rfl ?_
        refine pS rfl rfl rfl ?_
        refine AOps.call (less_fn A (b * 2 ^ m) (by omega) hle) rfl rfl rfl ⟨.inl rfl, .inl rfl, trivial⟩ ?_
        refine pS rfl rfl rfl ?_
        refine AOps.done ?_
        refine AWp.regionN (fun _ => false) rfl ?_
        refine pS rfl rfl rfl ?_
        refine AOps.call (of_fn 1 (by omega)) rfl rfl rfl ⟨.inl rfl, trivial⟩ ?_
        refine AOps.call (plus_fn (q * 2 ^ 1) 1 (by omega) (Nat.le_trans (dig_len_blen 1) (by simp [blen_pos, blen_zero]))) rfl rfl rfl ⟨.inl rfl, .inl rfl, trivial⟩ ?_
        refine pS rfl rfl rfl ?_
        refine AOps.done ?_
        exact ⟨(A - b * 2 ^ m, q * 2 ^ 1 + 1), ⟨quo_up k1 hle, hlt2⟩, (Sub.list (fun i => i) rfl rfl ⟨rfl, rfl, rfl, rfl, trivial⟩ trivial)⟩
      · subst e
        have hlt := cmpS_gt h24
        refine AWp.skip ?_
        exact ⟨(A, q * 2 ^ 1), ⟨quo_same k1, hlt⟩, (Sub.list (fun i => i) rfl rfl ⟨rfl, rfl, rfl, rfl, trivial⟩ trivial)⟩
    · -- behind the cut
      refine AWp.regionN (fun _ => false) rfl ?_
      refine pI rfl rfl rfl ?_
      refine AOps.i tabOk rfl rfl rfl (j := ((m : Nat) : Int) - 1) (wi (by omega) (by omega)) ?_
      refine pI rfl rfl rfl ?_
      refine AOps.done ?_
      exact ⟨(s.1, s.2, (m : Int) - 1), ⟨by simp only; rw [show ((m : Int) - 1 + 1).toNat = m by omega]; exact hs.1, by simp only; rw [show ((m : Int) - 1 + 1).toNat = m by omega]; exact hs.2, by simp only; omega, by simp only; omega⟩, by simp only; omega, (Sub.list (fun i => i) rfl rfl ⟨rfl, rfl, rfl, rfl, trivial⟩ trivial)⟩
  · subst e
    have hk : (k + 1).toNat = 0 := by have := h15; simp at this; omega
    rw [hk] at k1 k2
    refine AWp.exit ?_
    refine AWp.seq ?_
    refine AWp.regionN (fun _ => false) rfl ?_
    refine pS rfl rfl rfl ?_
    refine pS rfl rfl rfl ?_
    refine AOps.done ?_
    refine AWp.ret ?_
    exact ⟨_, rfl, by rw [quo_done k1 k2]; rfl⟩

theorem common_fn (a b : Nat) (ha : (dig a).length ≤ 10000) (hb : (dig b).length ≤ 10000) : AFn prog 46 [.sl 83 1 (bl (dig a)), .sl 83 1 (bl (dig b))] (.sl 83 1 (bl (dig (Nat.gcd a b)))) false := by
  refine AFn.intro' (L := [(0, .dat (.sl 83 1 (bl (dig a)))), (1, .dat (.sl 83 1 (bl (dig b))))]) tabOk Try.func46 rfl rfl Try.ntmps46 rfl rfl rfl ?_
  refine AWp.seq ?_
  refine AWp.regionN (fun _ => false) rfl ?_
  refine pS rfl rfl rfl ?_
  refine AOps.done ?_
  refine AWp.seq ?_
  refine AWp.block ?_
  refine AWp.loop (I := fun (x : Nat × Nat) => mkSt [(0, .dat (.sl 83 1 (bl (dig x.1)))), (1, .dat (.sl 83 1 (bl (dig x.2))))] []) (Inv := fun x => Nat.gcd x.1 x.2 = Nat.gcd a b ∧ (dig x.1).length ≤ 10000 ∧ (dig x.2).length ≤ 10000) (μ := fun x => x.2) (x0 := (a, b)) ⟨rfl, ha, hb⟩ (Sub.list (fun i => i) rfl rfl ⟨rfl, rfl, trivial⟩ trivial) (fun ⟨u, v⟩ hx => ?_)
  obtain ⟨k1, k2, k3⟩ := hx
  simp only at k1 k2 k3
  refine AWp.seq ?_
  refine AWp.seq ?_
  refine AWp.regionN (fun _ => false) rfl ?_
  refine pS rfl rfl rfl ?_
  refine pI rfl rfl rfl ?_
  refine AOps.b tabOk rfl rfl rfl (fun c7 h7 => ?_)
  refine AOps.done ?_
  refine AWp.cond rfl (fun e => ?_) (fun e => ?_)
  · subst e
    have hv : v ≠ 0 := by rintro rfl; simp [bl, dig_zero] at h7
    refine AWp.skip ?_
    refine AWp.block ?_
    refine AWp.regionN (fun _ => false) rfl ?_
    refine pS rfl rfl rfl ?_
    refine pS rfl rfl rfl ?_
    refine pS rfl rfl rfl ?_
    refine AOps.call (rest_fn u v k2 k3 hv) rfl rfl rfl ⟨.inl rfl, .inl rfl, trivial⟩ ?_
    refine pS rfl rfl rfl ?_
    refine pS rfl rfl rfl ?_
    refine AOps.done ?_
    exact ⟨(v, u % v), ⟨by rw [← k1, Nat.gcd_comm v, Nat.gcd_comm u, ← Nat.gcd_rec], k3, Nat.le_trans (dig_len_le (Nat.mod_le u v)) k2⟩, Nat.mod_lt _ (by omega), (Sub.list (fun i => i) rfl rfl ⟨rfl, rfl, trivial⟩ trivial)⟩
  · subst e
    have hv : v = 0 := by have := h7; simp [bl] at this; exact dig_nil.1 this
    subst hv
    refine AWp.exit ?_
    refine AWp.seq ?_
    refine AWp.regionN (fun _ => false) rfl ?_
    refine pS rfl rfl rfl ?_
    refine pS rfl rfl rfl ?_
    refine AOps.done ?_
    refine AWp.ret ?_
    exact ⟨_, rfl, by rw [← k1, Nat.gcd_zero_right]; rfl⟩

theorem size_fn (n : Int) (h : inI n) : AFn prog 43 [.v (.int .i64 n)] (.sl 83 1 (bl (dig n.natAbs))) false := by
  unfold inI at h
  refine AFn.intro' (L := [(0, .dat (.v (.int .i64 n)))]) tabOk Try.func43 rfl rfl Try.ntmps43 rfl rfl rfl ?_
  refine AWp.seq ?_
  refine AWp.regionN (fun _ => false) rfl ?_
  refine pS rfl rfl rfl ?_
  refine AOps.done ?_
  refine AWp.seq ?_
  refine AWp.seq ?_
  refine AWp.regionN (fun _ => false) rfl ?_
  refine pI rfl rfl rfl ?_
  refine AOps.b tabOk rfl rfl rfl (fun c4 h4 => ?_)
  refine AOps.done ?_
  refine AWp.cond rfl (fun e => ?_) (fun e => ?_)
  · subst e
    have h4 : n < 0 := by simpa using h4
    refine AWp.seq ?_
    refine AWp.regionN (fun _ => false) rfl ?_
    refine pI rfl rfl rfl ?_
    refine AOps.i tabOk rfl rfl rfl (j := n + 18446744073709551616) (by simp only [IntKind.wrap, IntKind.bits, IntKind.signed, Bool.false_and, Bool.false_eq_true, if_false]; omega) ?_
    refine AOps.i tabOk rfl rfl rfl (j := ((n.natAbs : Nat) : Int)) (by simp only [IntKind.wrap, IntKind.bits, IntKind.signed, Bool.false_and, Bool.false_eq_true, if_false]; omega) ?_
    refine AOps.call (of_fn n.natAbs (by omega)) rfl rfl rfl ⟨.inl rfl, trivial⟩ ?_
    refine pS rfl rfl rfl ?_
    refine AOps.done ?_
    refine AWp.ret ?_
    exact ⟨_, rfl, rfl⟩
  · subst e
    have h4 : 0 ≤ n := by simpa using h4
    refine AWp.skip ?_
    refine AWp.seq ?_
    refine AWp.regionN (fun _ => false) rfl ?_
    refine pI rfl rfl rfl ?_
    refine AOps.i tabOk rfl rfl rfl (j := ((n.natAbs : Nat) : Int)) (by rw [wu (by omega) (by omega)]; omega) ?_
    refine AOps.call (of_fn n.natAbs (by omega)) rfl rfl rfl ⟨.inl rfl, trivial⟩ ?_
    refine pS rfl rfl rfl ?_
    refine AOps.done ?_
    refine AWp.ret ?_
    exact ⟨_, rfl, rfl⟩

theorem one_fn  : AFn prog 47 [] (.sl 83 1 (bl (dig 1))) false := by
  refine AFn.intro' (L := []) tabOk Try.func47 rfl rfl Try.ntmps47 rfl rfl rfl ?_
  refine AWp.seq ?_
  refine AWp.regionN (fun _ => false) rfl ?_
  refine pS rfl rfl rfl ?_
  refine AOps.done ?_
  refine AWp.seq ?_
  refine AWp.regionN (fun _ => false) rfl ?_
  refine AOps.call (of_fn 1 (by omega)) rfl rfl rfl ⟨.inl rfl, trivial⟩ ?_
  refine pS rfl rfl rfl ?_
  refine AOps.done ?_
  refine AWp.ret ?_
  exact ⟨_, rfl, rfl⟩

theorem low_fn (a : Nat) (ha : (dig a).length ≤ 10000) : AFn prog 64 [.sl 83 1 (bl (dig a))] (.tup [.v (.int .i64 (IntKind.i64.wrap ((a % 18446744073709551616 : Nat) : Int))), .v (.bool (decide (blen a ≤ 63)))]) false := by
  refine AFn.intro' (L := [(0, .dat (.sl 83 1 (bl (dig a))))]) tabOk Try.func64 rfl rfl Try.ntmps64 rfl rfl rfl ?_
  refine AWp.seq ?_
  refine AWp.regionN (fun _ => false) rfl ?_
  refine pI rfl rfl rfl ?_
  refine pB rfl rfl rfl ?_
  refine AOps.done ?_
  refine AWp.seq ?_
  refine AWp.regionN (fun _ => false) rfl ?_
  refine pI rfl rfl rfl ?_
  refine AOps.done ?_
  refine AWp.seq ?_
  refine AWp.seq ?_
  refine AWp.regionN (fun _ => false) rfl ?_
  refine pS rfl rfl rfl ?_
  refine pI rfl rfl rfl ?_
  refine AOps.i tabOk rfl rfl rfl (j := (((dig a).length : Nat) : Int) - 1) (by simp only [bl_length]; exact wi (by omega) (by omega)) ?_
  refine pI rfl rfl rfl ?_
  refine AOps.done ?_
  refine AWp.block ?_
  refine AWp.loop (I := fun (k : Nat) => mkSt [(0, .dat (.sl 83 1 (bl (dig a)))), (4, .dat (.v (.int .u64 ((dval ((dig a).drop k) % 18446744073709551616 : Nat) : Int)))), (5, .dat (.v (.int .i64 ((k : Int) - 1))))] []) (Inv := fun k => k ≤ (dig a).length) (μ := fun k => k) (x0 := (dig a).length) (Nat.le_refl _) (Sub.list (fun i => i) rfl rfl ⟨rfl, (by rw [List.drop_length]; rfl), rfl, trivial⟩ trivial) (fun k hx => ?_)
  refine AWp.seq ?_
  refine AWp.seq ?_
  refine AWp.regionN (fun _ => false) rfl ?_
  refine pI rfl rfl rfl ?_
  refine AOps.b tabOk rfl rfl rfl (fun c10 h10 => ?_)
  refine AOps.done ?_
  refine AWp.cond rfl (fun e => ?_) (fun e => ?_)
  · subst e
    obtain ⟨m, rfl⟩ : ∃ m, k = m + 1 := ⟨k - 1, by have := h10; simp at this; omega⟩
    obtain ⟨d, hd⟩ : ∃ d, (dig a)[m]? = some d := ⟨_, List.getElem?_eq_getElem (by omega)⟩
    have hdl := dOk_dig a d (List.mem_of_getElem? hd)
    have hm : (((m + 1 : Nat) : Int) - 1).toNat = m := by omega
    have hdv := dval_drop hd
    refine AWp.skip ?_
    refine AWp.seq ?_
    refine AWp.block ?_
    refine AWp.regionN (fun _ => false) rfl ?_
    refine pI rfl rfl rfl ?_
    refine AOps.i tabOk rfl rfl rfl (j := ((dval ((dig a).drop (m + 1)) * 4294967296 % 18446744073709551616 : Nat) : Int)) (by simp [IntKind.bits]; rw [show ∀ n : Int, IntKind.u64.wrap n = n % 18446744073709551616 from fun n => by simp only [IntKind.wrap, IntKind.bits, IntKind.signed, Bool.false_and, Bool.false_eq_true, if_false]; rfl]; omega) ?_
    refine pS rfl rfl rfl ?_
    refine pI rfl rfl rfl ?_
    refine AOps.idx tabOk (z := .v (.int .u32 (d : Nat))) rfl rfl rfl rfl rfl rfl rfl rfl (by omega) (by rw [hm]; exact bl_get hd) ?_
    refine pI rfl rfl rfl ?_
    refine AOps.i tabOk rfl rfl rfl (j := ((d : Nat) : Int)) (wu (by omega) (by omega)) ?_
    refine AOps.i tabOk rfl rfl rfl (j := ((dval ((dig a).drop m) % 18446744073709551616 : Nat) : Int)) (by rw [or_ok' (s := 32) (by omega) (by omega) (by omega) (by omega), hdv]; congr 1; omega) ?_
    refine pI rfl rfl rfl ?_
    refine AOps.done ?_
    refine AWp.regionN (fun _ => false) rfl ?_
    refine pI rfl rfl rfl ?_
    refine AOps.i tabOk rfl rfl rfl (j := ((m : Nat) : Int) - 1) (by rw [wi (by omega) (by omega)]; omega) ?_
    refine pI rfl rfl rfl ?_
    refine AOps.done ?_
    exact ⟨m, by omega, by omega, (Sub.list (fun i => i) rfl rfl ⟨rfl, rfl, rfl, trivial⟩ trivial)⟩
  · subst e
    have hk : k = 0 := by have := h10; simp at this; omega
    subst hk
    refine AWp.exit ?_
    refine AWp.seq ?_
    refine AWp.regionN (fun _ => false) rfl ?_
    refine pI rfl rfl rfl ?_
    refine pI rfl rfl rfl ?_
    refine pS rfl rfl rfl ?_
    refine AOps.call (bits_fn a (by omega)) rfl rfl rfl ⟨.inl rfl, trivial⟩ ?_
    refine AOps.b tabOk rfl rfl rfl (fun c25 h25 => ?_)
    refine pI rfl rfl rfl ?_
    refine pB rfl rfl rfl ?_
    refine AOps.done ?_
    refine AWp.ret ?_
    refine ⟨_, rfl, ?_⟩
    simp only [fin, List.drop_zero, dval_dig]
    rw [← h25, show decide (((blen a : Nat) : Int) ≤ 63) = decide (blen a ≤ 63) from decide_eq_decide.2 (by omega)]

theorem ratof_fn (neg : Bool) (n d : Nat) (hn : (dig n).length ≤ 10000) (hd : (dig d).length ≤ 10000) (hd0 : d ≠ 0) : AFn prog 42 [.v (.bool neg), .sl 83 1 (bl (dig n)), .sl 83 1 (bl (dig d))] (ansD (madeS neg n d)) false := by
  have p1 : (0 : Int) ≤ ((n / Nat.gcd n d : Nat) : Int) := Int.natCast_nonneg _
  have p2 : (0 : Int) ≤ ((d / Nat.gcd n d : Nat) : Int) := Int.natCast_nonneg _
  have hg : Nat.gcd n d ≠ 0 := by intro h; exact hd0 (Nat.eq_zero_of_gcd_eq_zero_right h)
  have hgl : (dig (Nat.gcd n d)).length ≤ 10000 := Nat.le_trans (dig_len_le (Nat.gcd_le_right n (Nat.pos_of_ne_zero hd0))) hd
  have hxl : (dig (n / Nat.gcd n d)).length ≤ 10000 := Nat.le_trans (dig_len_le (Nat.div_le_self _ _)) hn
  have hyl : (dig (d / Nat.gcd n d)).length ≤ 10000 := Nat.le_trans (dig_len_le (Nat.div_le_self _ _)) hd
  refine AFn.intro' (L := [(0, .dat (.v (.bool neg))), (1, .dat (.sl 83 1 (bl (dig n)))), (2, .dat (.sl 83 1 (bl (dig d))))]) tabOk Try.func42 rfl rfl Try.ntmps42 rfl rfl rfl ?_
  refine AWp.seq ?_
  refine AWp.regionN (fun _ => false) rfl ?_
  refine AOps.alloc tabOk rfl rfl rfl rfl rfl ?_
  refine pI rfl rfl rfl ?_
  refine AOps.done ?_
  refine AWp.seq ?_
  refine AWp.seq ?_
  refine AWp.regionN (fun _ => false) rfl ?_
  refine pS rfl rfl rfl ?_
  refine pI rfl rfl rfl ?_
  refine AOps.b tabOk rfl rfl rfl (fun c15 h15 => ?_)
  refine AOps.done ?_
  refine AWp.cond rfl (fun e => ?_) (fun e => ?_)
  · subst e
    have h0 : n = 0 := by have := h15; simp [bl] at this; exact dig_nil.1 this
    refine AWp.seq ?_
    refine AWp.regionN (fun o => writes o) rfl ?_
    refine pT rfl rfl rfl ?_
    refine AOps.store tabOk (v := .dat (.st _ _)) rfl rfl rfl rfl rfl rfl rfl rfl rfl rfl rfl rfl rfl ?_
    refine pI rfl rfl rfl ?_
    refine AOps.done ?_
    refine AWp.ret ?_
    exact ⟨_, rfl, by rw [h0, madeS_zero hd0]; rfl⟩
  · subst e
    refine AWp.skip ?_
    refine AWp.seq ?_
    refine AWp.regionN (fun _ => false) rfl ?_
    refine pS rfl rfl rfl ?_
    refine pS rfl rfl rfl ?_
    refine AOps.call (common_fn n d hn hd) rfl rfl rfl ⟨.inl rfl, .inl rfl, trivial⟩ ?_
    refine pS rfl rfl rfl ?_
    refine AOps.done ?_
    refine AWp.seq ?_
    refine AWp.regionN (fun _ => false) rfl ?_
    refine pS rfl rfl rfl ?_
    refine pS rfl rfl rfl ?_
    refine AOps.call (quo_fn n (Nat.gcd n d) hn hgl hg) rfl rfl rfl ⟨.inl rfl, .inl rfl, trivial⟩ ?_
    refine AOps.call (low_fn _ hxl) rfl rfl rfl ⟨.inl rfl, trivial⟩ ?_
    refine pU rfl rfl rfl ?_
    refine pI rfl rfl rfl ?_
    refine pB rfl rfl rfl ?_
    refine pI rfl rfl rfl ?_
    refine pB rfl rfl rfl ?_
    refine AOps.done ?_
    refine AWp.seq ?_
    refine AWp.regionN (fun _ => false) rfl ?_
    refine pS rfl rfl rfl ?_
    refine pS rfl rfl rfl ?_
    refine AOps.call (quo_fn d (Nat.gcd n d) hd hgl hg) rfl rfl rfl ⟨.inl rfl, .inl rfl, trivial⟩ ?_
    refine AOps.call (low_fn _ hyl) rfl rfl rfl ⟨.inl rfl, trivial⟩ ?_
    refine pU rfl rfl rfl ?_
    refine pI rfl rfl rfl ?_
    refine pB rfl rfl rfl ?_
    refine pI rfl rfl rfl ?_
    refine pB rfl rfl rfl ?_
    refine AOps.done ?_
    refine AWp.seq ?_
    refine AWp.seq ?_
    refine AWp.regionN (fun _ => false) rfl ?_
    refine pB rfl rfl rfl ?_
    refine AOps.b tabOk rfl rfl rfl (fun c35 h35 => ?_)
    refine pB rfl rfl rfl ?_
    cases c35
    · -- c35 = false
      have f1 : n / Nat.gcd n d < 9223372036854775808 := by have := h35; simp at this; exact (blen_le _ 63).1 this
      refine pB rfl rfl rfl ?_
      refine AOps.b tabOk rfl rfl rfl (fun c38 h38 => ?_)
      refine pB rfl rfl rfl ?_
      refine AOps.done ?_
      refine AWp.cond rfl (fun e => ?_) (fun e => ?_)
      · subst e
        have f2 : ¬ (d / Nat.gcd n d < 9223372036854775808) := by have := h38; simp at this; intro h; have := (blen_le _ 63).2 h; omega
        refine AWp.seq ?_
        refine AWp.regionN (fun o => writes o) rfl ?_
        refine pT rfl rfl rfl ?_
        refine AOps.store tabOk (v := .dat (.st _ _)) rfl rfl rfl rfl rfl rfl rfl rfl rfl rfl rfl rfl rfl ?_
        refine pI rfl rfl rfl ?_
        refine AOps.done ?_
        refine AWp.ret ?_
        exact ⟨_, rfl, by rw [madeS_over (fun h => f2 h.2)]; rfl⟩
      · subst e
        have f2 : d / Nat.gcd n d < 9223372036854775808 := by have := h38; simp at this; exact (blen_le _ 63).1 this
        refine AWp.skip ?_
        refine AWp.seq ?_
        refine AWp.seq ?_
        refine AWp.regionN (fun _ => false) rfl ?_
        refine pB rfl rfl rfl ?_
        refine AOps.done ?_
        refine AWp.cond rfl (fun e => ?_) (fun e => ?_)
        · subst e
          refine AWp.regionN (fun _ => false) rfl ?_
          refine pI rfl rfl rfl ?_
          refine pI rfl rfl rfl ?_
          refine pI rfl rfl rfl ?_
          refine AOps.done ?_
          refine AWp.seq ?_
          refine AWp.regionN (fun o => writes o) rfl ?_
          refine pI rfl rfl rfl ?_
          refine pI rfl rfl rfl ?_
          refine pT rfl rfl rfl ?_
          refine AOps.store tabOk (v := .dat (.st _ _)) rfl rfl rfl rfl rfl rfl rfl rfl rfl rfl rfl rfl rfl ?_
          refine pI rfl rfl rfl ?_
          refine AOps.done ?_
          refine AWp.ret ?_
          refine ⟨_, rfl, ?_⟩
          rw [madeS_ok f1 f2]
          simp only [fin, ansD, ratD]
          rw [wlow f1, wlow f2, wi (by omega) (by omega)]
          simp
        · subst e
          refine AWp.skip ?_
          refine AWp.seq ?_
          refine AWp.regionN (fun o => writes o) rfl ?_
          refine pI rfl rfl rfl ?_
          refine pI rfl rfl rfl ?_
          refine pT rfl rfl rfl ?_
          refine AOps.store tabOk (v := .dat (.st _ _)) rfl rfl rfl rfl rfl rfl rfl rfl rfl rfl rfl rfl rfl ?_
          refine pI rfl rfl rfl ?_
          refine AOps.done ?_
          refine AWp.ret ?_
          refine ⟨_, rfl, ?_⟩
          rw [madeS_ok f1 f2]
          simp only [fin, ansD, ratD]
          rw [wlow f1, wlow f2]
          simp
    · -- c35 = true
      have f1 : ¬ (n / Nat.gcd n d < 9223372036854775808) := by have := h35; simp at this; intro h; have := (blen_le _ 63).2 h; omega
      refine AOps.off rfl rfl ?_
      refine AOps.off rfl rfl ?_
      refine pB rfl rfl rfl ?_
      refine AOps.done ?_
      refine AWp.condT rfl ?_
      refine AWp.seq ?_
      refine AWp.regionN (fun o => writes o) rfl ?_
      refine pT rfl rfl rfl ?_
      refine AOps.store tabOk (v := .dat (.st _ _)) rfl rfl rfl rfl rfl rfl rfl rfl rfl rfl rfl rfl rfl ?_
      refine pI rfl rfl rfl ?_
      refine AOps.done ?_
      refine AWp.ret ?_
      exact ⟨_, rfl, by rw [madeS_over (fun h => f1 h.1)]; rfl⟩

theorem refmake_fn (n d : Int) (hn : inI n) (hd : inI d) : AFn prog 15 [.v (.int .i64 n), .v (.int .i64 d)] (ansD (makeS n d)) false := by
  have hn1 := len64 (abs_lt hn)
  have hd1 := len64 (abs_lt hd)
  refine AFn.intro' (L := [(0, .dat (.v (.int .i64 n))), (1, .dat (.v (.int .i64 d)))]) tabOk Try.func15 rfl rfl Try.ntmps15 rfl rfl rfl ?_
  refine AWp.seq ?_
  refine AWp.regionN (fun _ => false) rfl ?_
  refine AOps.alloc tabOk rfl rfl rfl rfl rfl ?_
  refine pI rfl rfl rfl ?_
  refine AOps.done ?_
  refine AWp.seq ?_
  refine AWp.seq ?_
  refine AWp.regionN (fun _ => false) rfl ?_
  refine pI rfl rfl rfl ?_
  refine AOps.b tabOk rfl rfl rfl (fun c7 h7 => ?_)
  refine AOps.done ?_
  refine AWp.cond rfl (fun e => ?_) (fun e => ?_)
  · subst e
    have h0 : d = 0 := by simpa using h7
    refine AWp.seq ?_
    refine AWp.regionN (fun o => writes o) rfl ?_
    refine pT rfl rfl rfl ?_
    refine AOps.store tabOk (v := .dat (.st _ _)) rfl rfl rfl rfl rfl rfl rfl rfl rfl rfl rfl rfl rfl ?_
    refine pI rfl rfl rfl ?_
    refine AOps.done ?_
    refine AWp.ret ?_
    exact ⟨_, rfl, by rw [makeS, if_pos h0]; rfl⟩
  · subst e
    have h0 : d ≠ 0 := by simpa using h7
    refine AWp.skip ?_
    refine AWp.seq ?_
    refine AWp.regionN (fun o => writes o) rfl ?_
    refine pI rfl rfl rfl ?_
    refine AOps.b tabOk rfl rfl rfl (fun c10 h10 => ?_)
    refine pI rfl rfl rfl ?_
    refine AOps.b tabOk rfl rfl rfl (fun c12 h12 => ?_)
    refine AOps.b tabOk rfl rfl rfl (fun c13 h13 => ?_)
    refine pI rfl rfl rfl ?_
    refine AOps.call (size_fn n hn) rfl rfl rfl ⟨.inl rfl, trivial⟩ ?_
    refine pI rfl rfl rfl ?_
    refine AOps.call (size_fn d hd) rfl rfl rfl ⟨.inl rfl, trivial⟩ ?_
    refine AOps.call (ratof_fn _ n.natAbs d.natAbs (by omega) (by omega) (by omega)) rfl rfl rfl ⟨.inl rfl, .inl rfl, .inl rfl, trivial⟩ ?_
    refine pT rfl rfl rfl ?_
    refine pI rfl rfl rfl ?_
    refine AOps.store tabOk (v := .dat (.st _ _)) rfl rfl rfl rfl rfl rfl rfl rfl rfl rfl rfl rfl rfl ?_
    refine pI rfl rfl rfl ?_
    refine AOps.done ?_
    refine AWp.ret ?_
    exact ⟨_, rfl, by rw [makeS, if_neg h0, ← h13, ← h10, ← h12]; rfl⟩

theorem refright_fn (n d : Int) (hn : inI n) (hd : inI d) : AFn prog 17 [.st [1, 1] [.v (.int .i64 n), .v (.int .i64 d)]] (.v (.bool (rightS n d))) false := by
  have hn1 := len64 (abs_lt hn)
  have hd1 := len64 (abs_lt hd)
  have hg1 : (dig (Nat.gcd n.natAbs d.natAbs)).length ≤ 10000 := by
    rcases Nat.eq_zero_or_pos n.natAbs with h | h
    · rw [h, Nat.gcd_zero_left]; omega
    · exact Nat.le_trans (dig_len_le (Nat.gcd_le_left _ h)) (by omega)
  refine AFn.intro' (L := [(0, .dat (.st [1, 1] [.v (.int .i64 n), .v (.int .i64 d)]))]) tabOk Try.func17 rfl rfl Try.ntmps17 rfl rfl rfl ?_
  refine AWp.seq ?_
  refine AWp.regionN (fun _ => false) rfl ?_
  refine AOps.box (v := .dat (.st _ _)) rfl rfl rfl rfl rfl rfl ?_
  refine pB rfl rfl rfl ?_
  refine AOps.done ?_
  refine AWp.seq ?_
  refine AWp.regionD (fun _ => false) mixed (by decide +kernel) rfl ?_
  refine pP rfl rfl rfl ?_
  refine pI rfl rfl rfl ?_
  refine AOps.b tabOk rfl rfl rfl (fun c5 h5 => ?_)
  refine pB rfl rfl rfl ?_
  cases c5
  · -- c5 = false
    have h5' : ¬ (1 ≤ d) := by simpa using h5
    refine AOps.off rfl rfl ?_
    refine AOps.off rfl rfl ?_
    refine AOps.off rfl rfl ?_
    refine pB rfl rfl rfl ?_
    refine pB rfl rfl rfl ?_
    refine AOps.off rfl rfl ?_
    refine AOps.off rfl rfl ?_
    refine AOps.off rfl rfl ?_
    refine AOps.off rfl rfl ?_
    refine AOps.off rfl rfl ?_
    refine AOps.off rfl rfl ?_
    refine AOps.off rfl rfl ?_
    refine AOps.off rfl rfl ?_
    refine AOps.off rfl rfl ?_
    refine AOps.off rfl rfl ?_
    refine pB rfl rfl rfl ?_
    refine pB rfl rfl rfl ?_
    refine AOps.done ?_
    refine AWp.ret ?_
    exact ⟨_, rfl, by simp [fin, rightS, h5']⟩
  · -- c5 = true
    have h5' : 1 ≤ d := by simpa using h5
    refine pP rfl rfl rfl ?_
    refine pI rfl rfl rfl ?_
    refine AOps.b tabOk rfl rfl rfl (fun c9 h9 => ?_)
    refine pB rfl rfl rfl ?_
    refine pB rfl rfl rfl ?_
    cases c9
    · -- c9 = false
      have h9' : n = -9223372036854775808 := by simpa using h9
      refine AOps.off rfl rfl ?_
      refine AOps.off rfl rfl ?_
      refine AOps.off rfl rfl ?_
      refine AOps.off rfl rfl ?_
      refine AOps.off rfl rfl ?_
      refine AOps.off rfl rfl ?_
      refine AOps.off rfl rfl ?_
      refine AOps.off rfl rfl ?_
      refine AOps.off rfl rfl ?_
      refine AOps.off rfl rfl ?_
      refine pB rfl rfl rfl ?_
      refine pB rfl rfl rfl ?_
      refine AOps.done ?_
      refine AWp.ret ?_
      exact ⟨_, rfl, by simp [fin, rightS, h9']⟩
    · -- c9 = true
      have h9' : n ≠ -9223372036854775808 := by simpa using h9
      refine pP rfl rfl rfl ?_
      refine pI rfl rfl rfl ?_
      refine AOps.call (size_fn n hn) rfl rfl rfl ⟨.inl rfl, trivial⟩ ?_
      refine pP rfl rfl rfl ?_
      refine pI rfl rfl rfl ?_
      refine AOps.call (size_fn d hd) rfl rfl rfl ⟨.inl rfl, trivial⟩ ?_
      refine AOps.call (common_fn n.natAbs d.natAbs (by omega) (by omega)) rfl rfl rfl ⟨.inl rfl, .inl rfl, trivial⟩ ?_
      refine AOps.call (one_fn) rfl rfl rfl trivial ?_
      refine AOps.call (cmp_fn (Nat.gcd n.natAbs d.natAbs) 1 (by omega) (Nat.le_trans (dig_len_blen 1) (by simp [blen_pos, blen_zero]))) rfl rfl rfl ⟨.inl rfl, .inl rfl, trivial⟩ ?_
      refine AOps.b tabOk rfl rfl rfl (fun c21 h21 => ?_)
      refine pB rfl rfl rfl ?_
      refine pB rfl rfl rfl ?_
      refine AOps.done ?_
      refine AWp.ret ?_
      exact ⟨_, rfl, by rw [← h21]; simp [fin, rightS, h5', h9', cmpS_one]⟩

theorem rsize_fn (n : Int) (h : inI n) : AFn prog 41 [.v (.int .i64 n)] (.v (.int .u64 ((n.natAbs : Nat) : Int))) false := by
  unfold inI at h
  refine AFn.intro' (L := [(0, .dat (.v (.int .i64 n)))]) tabOk Try.func41 rfl rfl Try.ntmps41 rfl rfl rfl ?_
  refine AWp.seq ?_
  refine AWp.regionN (fun _ => false) rfl ?_
  refine pI rfl rfl rfl ?_
  refine AOps.done ?_
  refine AWp.seq ?_
  refine AWp.seq ?_
  refine AWp.regionN (fun _ => false) rfl ?_
  refine pI rfl rfl rfl ?_
  refine AOps.b tabOk rfl rfl rfl (fun c4 h4 => ?_)
  refine AOps.done ?_
  refine AWp.cond rfl (fun e => ?_) (fun e => ?_)
  · subst e
    have h4 : n < 0 := by simpa using h4
    refine AWp.seq ?_
    refine AWp.regionN (fun _ => false) rfl ?_
    refine pI rfl rfl rfl ?_
    refine AOps.i tabOk rfl rfl rfl (j := n + 18446744073709551616) (by simp only [IntKind.wrap, IntKind.bits, IntKind.signed, Bool.false_and, Bool.false_eq_true, if_false]; omega) ?_
    refine AOps.i tabOk rfl rfl rfl (j := ((n.natAbs : Nat) : Int)) (by simp only [IntKind.wrap, IntKind.bits, IntKind.signed, Bool.false_and, Bool.false_eq_true, if_false]; omega) ?_
    refine pI rfl rfl rfl ?_
    refine AOps.done ?_
    refine AWp.ret ?_
    exact ⟨_, rfl, rfl⟩
  · subst e
    have h4 : 0 ≤ n := by simpa using h4
    refine AWp.skip ?_
    refine AWp.seq ?_
    refine AWp.regionN (fun _ => false) rfl ?_
    refine pI rfl rfl rfl ?_
    refine AOps.i tabOk rfl rfl rfl (j := ((n.natAbs : Nat) : Int)) (by rw [wu (by omega) (by omega)]; omega) ?_
    refine pI rfl rfl rfl ?_
    refine AOps.done ?_
    refine AWp.ret ?_
    exact ⟨_, rfl, rfl⟩

theorem gcd_fn (a b : Nat) : AFn prog 44 [.v (.int .u64 (a : Nat)), .v (.int .u64 (b : Nat))] (.v (.int .u64 (Nat.gcd a b : Nat))) false := by
  refine AFn.intro' (L := [(0, .dat (.v (.int .u64 (a : Nat)))), (1, .dat (.v (.int .u64 (b : Nat))))]) tabOk Try.func44 rfl rfl Try.ntmps44 rfl rfl rfl ?_
  refine AWp.seq ?_
  refine AWp.regionN (fun _ => false) rfl ?_
  refine pI rfl rfl rfl ?_
  refine AOps.done ?_
  refine AWp.seq ?_
  refine AWp.block ?_
  refine AWp.loop (I := fun (x : Nat × Nat) => mkSt [(0, .dat (.v (.int .u64 (x.1 : Nat)))), (1, .dat (.v (.int .u64 (x.2 : Nat))))] []) (Inv := fun x => Nat.gcd x.1 x.2 = Nat.gcd a b) (μ := fun x => x.2) (x0 := (a, b)) rfl (Sub.list (fun i => i) rfl rfl ⟨rfl, rfl, trivial⟩ trivial) (fun ⟨u, v⟩ hx => ?_)
  simp only at hx
  refine AWp.seq ?_
  refine AWp.seq ?_
  refine AWp.regionN (fun _ => false) rfl ?_
  refine pI rfl rfl rfl ?_
  refine AOps.b tabOk rfl rfl rfl (fun c6 h6 => ?_)
  refine AOps.done ?_
  refine AWp.cond rfl (fun e => ?_) (fun e => ?_)
  · subst e
    have hv : v ≠ 0 := by have := h6; simp at this; omega
    refine AWp.skip ?_
    refine AWp.block ?_
    refine AWp.regionD (fun _ => false) mixed (by decide +kernel) rfl ?_
    refine pI rfl rfl rfl ?_
    refine pI rfl rfl rfl ?_
    refine pI rfl rfl rfl ?_
    refine AOps.q rfl rfl rfl rfl rfl (rbin_rem (by simp only [ne_eq, Int.natCast_eq_zero]; exact hv)) (j := ((u % v : Nat) : Int)) (by simp [Int.tmod]) ?_
    refine pI rfl rfl rfl ?_
    refine pI rfl rfl rfl ?_
    refine AOps.done ?_
    exact ⟨(v, u % v), by rw [← hx, Nat.gcd_comm v, Nat.gcd_comm u, ← Nat.gcd_rec], Nat.mod_lt _ (by omega), (Sub.list (fun i => i) rfl rfl ⟨rfl, rfl, trivial⟩ trivial)⟩
  · subst e
    have hv : v = 0 := by simpa using h6
    subst hv
    refine AWp.exit ?_
    refine AWp.seq ?_
    refine AWp.regionN (fun _ => false) rfl ?_
    refine pI rfl rfl rfl ?_
    refine pI rfl rfl rfl ?_
    refine AOps.done ?_
    refine AWp.ret ?_
    exact ⟨_, rfl, by rw [← hx, Nat.gcd_zero_right]; rfl⟩

theorem made_fn (neg : Bool) (n d : Nat) (hn : n < 18446744073709551616) (hd : d < 18446744073709551616) (hd0 : d ≠ 0) : AFn prog 40 [.v (.bool neg), .v (.int .u64 (n : Nat)), .v (.int .u64 (d : Nat))] (ansD (madeS neg n d)) false := by
  have p1 : (0 : Int) ≤ ((n / Nat.gcd n d : Nat) : Int) := Int.natCast_nonneg _
  have p2 : (0 : Int) ≤ ((d / Nat.gcd n d : Nat) : Int) := Int.natCast_nonneg _
  have hg : Nat.gcd n d ≠ 0 := by intro h; exact hd0 (Nat.eq_zero_of_gcd_eq_zero_right h)
  have b1 := Nat.div_le_self n (Nat.gcd n d)
  have b2 := Nat.div_le_self d (Nat.gcd n d)
  refine AFn.intro' (L := [(0, .dat (.v (.bool neg))), (1, .dat (.v (.int .u64 (n : Nat)))), (2, .dat (.v (.int .u64 (d : Nat))))]) tabOk Try.func40 rfl rfl Try.ntmps40 rfl rfl rfl ?_
  refine AWp.seq ?_
  refine AWp.regionN (fun _ => false) rfl ?_
  refine AOps.alloc tabOk rfl rfl rfl rfl rfl ?_
  refine pI rfl rfl rfl ?_
  refine AOps.done ?_
  refine AWp.seq ?_
  refine AWp.regionN (fun _ => false) rfl ?_
  refine pI rfl rfl rfl ?_
  refine pI rfl rfl rfl ?_
  refine AOps.call (gcd_fn ..) rfl rfl rfl ⟨.inl rfl, .inl rfl, trivial⟩ ?_
  refine pI rfl rfl rfl ?_
  refine AOps.done ?_
  refine AWp.seq ?_
  refine AWp.regionD (fun _ => false) mixed (by decide +kernel) rfl ?_
  refine pI rfl rfl rfl ?_
  refine pI rfl rfl rfl ?_
  refine AOps.q rfl rfl rfl rfl rfl (rbin_quo (by simp only [ne_eq, Int.natCast_eq_zero]; exact hg)) (j := ((n / Nat.gcd n d : Nat) : Int)) (by rw [← Int.ofNat_tdiv, wu (by omega) (by omega)]) ?_
  refine pI rfl rfl rfl ?_
  refine pI rfl rfl rfl ?_
  refine AOps.q rfl rfl rfl rfl rfl (rbin_quo (by simp only [ne_eq, Int.natCast_eq_zero]; exact hg)) (j := ((d / Nat.gcd n d : Nat) : Int)) (by rw [← Int.ofNat_tdiv, wu (by omega) (by omega)]) ?_
  refine pI rfl rfl rfl ?_
  refine pI rfl rfl rfl ?_
  refine AOps.done ?_
  refine AWp.seq ?_
  refine AWp.seq ?_
  refine AWp.regionN (fun _ => false) rfl ?_
  refine pI rfl rfl rfl ?_
  refine AOps.b tabOk rfl rfl rfl (fun c19 h19 => ?_)
  refine pB rfl rfl rfl ?_
  cases c19
  · -- c19 = false
    have f1 : n / Nat.gcd n d < 9223372036854775808 := by have := h19; simp only [decide_eq_false_iff_not] at this; omega
    refine pI rfl rfl rfl ?_
    refine AOps.b tabOk rfl rfl rfl (fun c22 h22 => ?_)
    refine pB rfl rfl rfl ?_
    refine AOps.done ?_
    refine AWp.cond rfl (fun e => ?_) (fun e => ?_)
    · subst e
      have f2 : ¬ (d / Nat.gcd n d < 9223372036854775808) := by have := h22; simp only [decide_eq_true_eq] at this; omega
      refine AWp.seq ?_
      refine AWp.regionN (fun o => writes o) rfl ?_
      refine pT rfl rfl rfl ?_
      refine AOps.store tabOk (v := .dat (.st _ _)) rfl rfl rfl rfl rfl rfl rfl rfl rfl rfl rfl rfl rfl ?_
      refine pI rfl rfl rfl ?_
      refine AOps.done ?_
      refine AWp.ret ?_
      exact ⟨_, rfl, by rw [madeS_over (fun h => f2 h.2)]; rfl⟩
    · subst e
      have f2 : d / Nat.gcd n d < 9223372036854775808 := by have := h22; simp only [decide_eq_false_iff_not] at this; omega
      refine AWp.skip ?_
      refine AWp.seq ?_
      refine AWp.seq ?_
      refine AWp.regionN (fun _ => false) rfl ?_
      refine pB rfl rfl rfl ?_
      refine AOps.done ?_
      refine AWp.cond rfl (fun e => ?_) (fun e => ?_)
      · subst e
        refine AWp.seq ?_
        refine AWp.regionN (fun o => writes o) rfl ?_
        refine pI rfl rfl rfl ?_
        refine AOps.i tabOk rfl rfl rfl (j := ((n / Nat.gcd n d : Nat) : Int)) (wi (by omega) (by omega)) ?_
        refine AOps.i tabOk rfl rfl rfl (j := -((n / Nat.gcd n d : Nat) : Int)) (by rw [wi (by omega) (by omega)]; omega) ?_
        refine pI rfl rfl rfl ?_
        refine AOps.i tabOk rfl rfl rfl (j := ((d / Nat.gcd n d : Nat) : Int)) (wi (by omega) (by omega)) ?_
        refine pT rfl rfl rfl ?_
        refine AOps.store tabOk (v := .dat (.st _ _)) rfl rfl rfl rfl rfl rfl rfl rfl rfl rfl rfl rfl rfl ?_
        refine pI rfl rfl rfl ?_
        refine AOps.done ?_
        refine AWp.ret ?_
        exact ⟨_, rfl, by rw [madeS_ok f1 f2]; simp [fin, ansD, ratD]⟩
      · subst e
        refine AWp.skip ?_
        refine AWp.seq ?_
        refine AWp.regionN (fun o => writes o) rfl ?_
        refine pI rfl rfl rfl ?_
        refine AOps.i tabOk rfl rfl rfl (j := ((n / Nat.gcd n d : Nat) : Int)) (wi (by omega) (by omega)) ?_
        refine pI rfl rfl rfl ?_
        refine AOps.i tabOk rfl rfl rfl (j := ((d / Nat.gcd n d : Nat) : Int)) (wi (by omega) (by omega)) ?_
        refine pT rfl rfl rfl ?_
        refine AOps.store tabOk (v := .dat (.st _ _)) rfl rfl rfl rfl rfl rfl rfl rfl rfl rfl rfl rfl rfl ?_
        refine pI rfl rfl rfl ?_
        refine AOps.done ?_
        refine AWp.ret ?_
        exact ⟨_, rfl, by rw [madeS_ok f1 f2]; simp [fin, ansD, ratD]⟩
  · -- c19 = true
    have f1 : ¬ (n / Nat.gcd n d < 9223372036854775808) := by have := h19; simp only [decide_eq_true_eq] at this; omega
    refine AOps.off rfl rfl ?_
    refine AOps.off rfl rfl ?_
    refine pB rfl rfl rfl ?_
    refine AOps.done ?_
    refine AWp.condT rfl ?_
    refine AWp.seq ?_
    refine AWp.regionN (fun o => writes o) rfl ?_
    refine pT rfl rfl rfl ?_
    refine AOps.store tabOk (v := .dat (.st _ _)) rfl rfl rfl rfl rfl rfl rfl rfl rfl rfl rfl rfl rfl ?_
    refine pI rfl rfl rfl ?_
    refine AOps.done ?_
    refine AWp.ret ?_
    exact ⟨_, rfl, by rw [madeS_over (fun h => f1 h.1)]; rfl⟩

theorem make_fn (n d : Int) (hn : inI n) (hd : inI d) : AFn prog 14 [.v (.int .i64 n), .v (.int .i64 d)] (ansD (makeS n d)) false := by
  refine AFn.intro' (L := [(0, .dat (.v (.int .i64 n))), (1, .dat (.v (.int .i64 d)))]) tabOk Try.func14 rfl rfl Try.ntmps14 rfl rfl rfl ?_
  refine AWp.seq ?_
  refine AWp.regionN (fun _ => false) rfl ?_
  refine AOps.alloc tabOk rfl rfl rfl rfl rfl ?_
  refine pI rfl rfl rfl ?_
  refine AOps.done ?_
  refine AWp.seq ?_
  refine AWp.seq ?_
  refine AWp.regionN (fun _ => false) rfl ?_
  refine pI rfl rfl rfl ?_
  refine AOps.b tabOk rfl rfl rfl (fun c7 h7 => ?_)
  refine AOps.done ?_
  refine AWp.cond rfl (fun e => ?_) (fun e => ?_)
  · subst e
    have h0 : d = 0 := by simpa using h7
    refine AWp.seq ?_
    refine AWp.regionN (fun o => writes o) rfl ?_
    refine pT rfl rfl rfl ?_
    refine AOps.store tabOk (v := .dat (.st _ _)) rfl rfl rfl rfl rfl rfl rfl rfl rfl rfl rfl rfl rfl ?_
    refine pI rfl rfl rfl ?_
    refine AOps.done ?_
    refine AWp.ret ?_
    exact ⟨_, rfl, by rw [makeS, if_pos h0]; rfl⟩
  · subst e
    have h0 : d ≠ 0 := by simpa using h7
    refine AWp.skip ?_
    refine AWp.seq ?_
    refine AWp.regionN (fun o => writes o) rfl ?_
    refine pI rfl rfl rfl ?_
    refine AOps.b tabOk rfl rfl rfl (fun c10 h10 => ?_)
    refine pI rfl rfl rfl ?_
    refine AOps.b tabOk rfl rfl rfl (fun c12 h12 => ?_)
    refine AOps.b tabOk rfl rfl rfl (fun c13 h13 => ?_)
    refine pI rfl rfl rfl ?_
    refine AOps.call (rsize_fn n hn) rfl rfl rfl ⟨.inl rfl, trivial⟩ ?_
    refine pI rfl rfl rfl ?_
    refine AOps.call (rsize_fn d hd) rfl rfl rfl ⟨.inl rfl, trivial⟩ ?_
    refine AOps.call (made_fn _ n.natAbs d.natAbs (abs_lt hn) (abs_lt hd) (by omega)) rfl rfl rfl ⟨.inl rfl, .inl rfl, .inl rfl, trivial⟩ ?_
    refine pT rfl rfl rfl ?_
    refine pI rfl rfl rfl ?_
    refine AOps.store tabOk (v := .dat (.st _ _)) rfl rfl rfl rfl rfl rfl rfl rfl rfl rfl rfl rfl rfl ?_
    refine pI rfl rfl rfl ?_
    refine AOps.done ?_
    refine AWp.ret ?_
    exact ⟨_, rfl, by rw [makeS, if_neg h0, ← h13, ← h10, ← h12]; rfl⟩

theorem right_fn (n d : Int) (hn : inI n) (hd : inI d) : AFn prog 16 [.st [1, 1] [.v (.int .i64 n), .v (.int .i64 d)]] (.v (.bool (rightS n d))) false := by
  refine AFn.intro' (L := [(0, .dat (.st [1, 1] [.v (.int .i64 n), .v (.int .i64 d)]))]) tabOk Try.func16 rfl rfl Try.ntmps16 rfl rfl rfl ?_
  refine AWp.seq ?_
  refine AWp.regionN (fun _ => false) rfl ?_
  refine AOps.box (v := .dat (.st _ _)) rfl rfl rfl rfl rfl rfl ?_
  refine pB rfl rfl rfl ?_
  refine AOps.done ?_
  refine AWp.seq ?_
  refine AWp.regionD (fun _ => false) mixed (by decide +kernel) rfl ?_
  refine pP rfl rfl rfl ?_
  refine pI rfl rfl rfl ?_
  refine AOps.b tabOk rfl rfl rfl (fun c5 h5 => ?_)
  refine pB rfl rfl rfl ?_
  cases c5
  · -- c5 = false
    have h5' : ¬ (1 ≤ d) := by simpa using h5
    refine AOps.off rfl rfl ?_
    refine AOps.off rfl rfl ?_
    refine AOps.off rfl rfl ?_
    refine pB rfl rfl rfl ?_
    refine pB rfl rfl rfl ?_
    refine AOps.off rfl rfl ?_
    refine AOps.off rfl rfl ?_
    refine AOps.off rfl rfl ?_
    refine AOps.off rfl rfl ?_
    refine AOps.off rfl rfl ?_
    refine AOps.off rfl rfl ?_
    refine AOps.off rfl rfl ?_
    refine AOps.off rfl rfl ?_
    refine pB rfl rfl rfl ?_
    refine pB rfl rfl rfl ?_
    refine AOps.done ?_
    refine AWp.ret ?_
    exact ⟨_, rfl, by simp [fin, rightS, h5']⟩
  · -- c5 = true
    have h5' : 1 ≤ d := by simpa using h5
    refine pP rfl rfl rfl ?_
    refine pI rfl rfl rfl ?_
    refine AOps.b tabOk rfl rfl rfl (fun c9 h9 => ?_)
    refine pB rfl rfl rfl ?_
    refine pB rfl rfl rfl ?_
    cases c9
    · -- c9 = false
      have h9' : n = -9223372036854775808 := by have := h9; simp at this; unfold inI at hn; omega
      refine AOps.off rfl rfl ?_
      refine AOps.off rfl rfl ?_
      refine AOps.off rfl rfl ?_
      refine AOps.off rfl rfl ?_
      refine AOps.off rfl rfl ?_
      refine AOps.off rfl rfl ?_
      refine AOps.off rfl rfl ?_
      refine AOps.off rfl rfl ?_
      refine pB rfl rfl rfl ?_
      refine pB rfl rfl rfl ?_
      refine AOps.done ?_
      refine AWp.ret ?_
      exact ⟨_, rfl, by simp [fin, rightS, h9']⟩
    · -- c9 = true
      have h9' : n ≠ -9223372036854775808 := by have := h9; simp at this; omega
      refine pP rfl rfl rfl ?_
      refine pI rfl rfl rfl ?_
      refine AOps.call (rsize_fn n hn) rfl rfl rfl ⟨.inl rfl, trivial⟩ ?_
      refine pP rfl rfl rfl ?_
      refine pI rfl rfl rfl ?_
      refine AOps.call (rsize_fn d hd) rfl rfl rfl ⟨.inl rfl, trivial⟩ ?_
      refine AOps.call (gcd_fn n.natAbs d.natAbs) rfl rfl rfl ⟨.inl rfl, .inl rfl, trivial⟩ ?_
      refine AOps.b tabOk rfl rfl rfl (fun c19 h19 => ?_)
      refine pB rfl rfl rfl ?_
      refine pB rfl rfl rfl ?_
      refine AOps.done ?_
      refine AWp.ret ?_
      refine ⟨_, rfl, ?_⟩
      rw [← h19]
      have : (((Nat.gcd n.natAbs d.natAbs : Nat) : Int) == 1) = (Nat.gcd n.natAbs d.natAbs == 1) := by rw [Bool.eq_iff_iff]; simp only [beq_iff_eq]; omega
      rw [this]
      simp [fin, rightS, h5', h9']

end Go.Sim.Ytnhflokfcnfegaa
