/- What is proved: what the functions on digits of 32 bits compute. -/
import Derived.Test.YtnhflokfcnfegaaTab
namespace Go.Sim.Ytnhflokfcnfegaa
open Go.RowKit Go.Proofs Go.Proofs.Try

theorem trim_fn (l0 : List Nat) (h0 : dOk l0) (hb : l0.length ≤ 1000000) : AFn prog 74 [.sl 83 1 (bl l0)] (.sl 83 1 (bl (dig (dval l0)))) false := by
  refine AFn.intro' (L := [(0, .dat (.sl 83 1 (bl l0)))]) tabOk Try.func74 rfl rfl Try.ntmps74 rfl rfl rfl ?_
  refine AWp.seq ?_
  refine AWp.regionN (fun _ => false) rfl ?_
  refine pS rfl rfl rfl ?_
  refine AOps.done ?_
  refine AWp.seq ?_
  refine AWp.block ?_
  refine AWp.loop (I := fun (l : List Nat) => mkSt [(0, .dat (.sl 83 1 (bl l)))] []) (Inv := fun l => dOk l ∧ dval l = dval l0 ∧ l.length ≤ l0.length) (μ := fun l => l.length) (x0 := l0) ⟨h0, rfl, Nat.le_refl _⟩ (Sub.list (fun i => i) rfl rfl ⟨rfl, trivial⟩ trivial) (fun l hx => ?_)
  obtain ⟨k1, k2, k3⟩ := hx
  refine AWp.seq ?_
  refine AWp.seq ?_
  refine AWp.regionN (fun _ => false) rfl ?_
  refine pS rfl rfl rfl ?_
  refine pI rfl rfl rfl ?_
  refine AOps.b tabOk rfl rfl rfl (fun c5 h5 => ?_)
  refine pB rfl rfl rfl ?_
  cases c5
  · -- c5 = false
    refine AOps.off rfl rfl ?_
    refine AOps.off rfl rfl ?_
    refine AOps.off rfl rfl ?_
    refine AOps.off rfl rfl ?_
    refine AOps.off rfl rfl ?_
    refine AOps.off rfl rfl ?_
    refine AOps.off rfl rfl ?_
    refine pB rfl rfl rfl ?_
    refine AOps.done ?_
    refine AWp.condF rfl ?_
    refine AWp.exit ?_
    refine AWp.seq ?_
    refine AWp.regionN (fun _ => false) rfl ?_
    refine pS rfl rfl rfl ?_
    refine pS rfl rfl rfl ?_
    refine AOps.done ?_
    refine AWp.ret ?_
    have : l = [] := by simpa [bl] using h5
    subst this
    refine ⟨_, rfl, ?_⟩
    simp only [fin]
    rw [← k2]; simp [dval, dig_zero]
  · -- c5 = true
    have hne : l ≠ [] := by rintro rfl; simp [bl] at h5
    obtain ⟨m, d, rfl⟩ : ∃ m d, l = m ++ [d] := by
      rcases List.eq_nil_or_concat l with h | ⟨m, d, h⟩
      · exact absurd h hne
      · exact ⟨m, d, by simpa using h⟩
    have hlen : (((bl (m ++ [d])).length : Nat) : Int) - 1 = (m.length : Nat) := by simp [bl]
    have hw : IntKind.i64.wrap ((((bl (m ++ [d])).length : Nat) : Int) - 1) = (m.length : Nat) := by
      rw [hlen]; simp at k3; exact wi (by omega) (by omega)
    refine pS rfl rfl rfl ?_
    refine pS rfl rfl rfl ?_
    refine pI rfl rfl rfl ?_
    refine AOps.i tabOk rfl rfl rfl hw ?_
    refine AOps.idx tabOk (z := .v (.int .u32 d)) rfl rfl rfl rfl rfl rfl rfl rfl (by omega) (by simp [bl]) ?_
    refine pI rfl rfl rfl ?_
    refine AOps.b tabOk rfl rfl rfl (fun c13 h13 => ?_)
    refine pB rfl rfl rfl ?_
    refine AOps.done ?_
    refine AWp.cond rfl (fun e => ?_) (fun e => ?_)
    · subst e
      refine AWp.skip ?_
      refine AWp.block ?_
      refine AWp.regionN (fun _ => false) rfl ?_
      refine pS rfl rfl rfl ?_
      refine pS rfl rfl rfl ?_
      refine pI rfl rfl rfl ?_
      refine AOps.i tabOk rfl rfl rfl hw ?_
      refine AOps.cut tabOk rfl rfl rfl rfl rfl rfl rfl ⟨_, rfl⟩ (Nat.zero_le _) (by simp [bl]) (by simp [bl] : _ = bl m) ?_
      refine pS rfl rfl rfl ?_
      refine AOps.done ?_
      have hd : d = 0 := by simpa using h13
      subst hd
      exact ⟨m, ⟨(dOk_append.1 k1).1, k2 ▸ dval_strip.symm, by simp at k3 ⊢; omega⟩, by simp, (Sub.list (fun i => i) rfl rfl ⟨rfl, trivial⟩ trivial)⟩
    · subst e
      refine AWp.exit ?_
      refine AWp.seq ?_
      refine AWp.regionN (fun _ => false) rfl ?_
      refine pS rfl rfl rfl ?_
      refine pS rfl rfl rfl ?_
      refine AOps.done ?_
      refine AWp.ret ?_
      have hd : d ≠ 0 := by simpa using h13
      refine ⟨_, rfl, ?_⟩
      simp only [fin]
      rw [← k2, dig_dval k1 (fun m' d' e => by
        have := List.append_inj' e rfl
        simp only [List.cons.injEq, and_true] at this
        rw [← this.2]; exact hd)]

theorem of_fn (n : Nat) (h : n < 18446744073709551616) : AFn prog 66 [.v (.int .u64 n)] (.sl 83 1 (bl (dig n))) false := by
  refine AFn.intro' (L := [(0, .dat (.v (.int .u64 n)))]) tabOk Try.func66 rfl rfl Try.ntmps66 rfl rfl rfl ?_
  refine AWp.seq ?_
  refine AWp.regionN (fun _ => false) rfl ?_
  refine pS rfl rfl rfl ?_
  refine AOps.done ?_
  refine AWp.seq ?_
  refine AWp.regionN (fun _ => false) rfl ?_
  refine pI rfl rfl rfl ?_
  refine AOps.i tabOk rfl rfl rfl (w32N n) ?_
  refine pI rfl rfl rfl ?_
  refine AOps.i tabOk rfl rfl rfl (j := ((n / 4294967296 : Nat) : Int)) (by simp [IntKind.bits]; rw [Int.fdiv_eq_ediv_of_nonneg _ (by omega)]) ?_
  refine AOps.i tabOk rfl rfl rfl (w32N _) ?_
  refine AOps.lit tabOk (ys := bl [n % 4294967296, n / 4294967296 % 4294967296]) rfl rfl rfl rfl rfl rfl ?_
  refine AOps.call (trim_fn [n % 4294967296, n / 4294967296 % 4294967296] (by intro d hd; simp at hd; omega) (by simp)) rfl rfl rfl ⟨.inl rfl, trivial⟩ ?_
  refine pS rfl rfl rfl ?_
  refine AOps.done ?_
  refine AWp.ret ?_
  refine ⟨_, rfl, ?_⟩
  simp only [fin, dval]
  rw [show n % 4294967296 + 4294967296 * (n / 4294967296 % 4294967296 + 4294967296 * 0) = n by omega]

theorem cmp_fn (a b : Nat) (ha : (dig a).length ≤ 1000000) (_hb : (dig b).length ≤ 1000000) : AFn prog 45 [.sl 83 1 (bl (dig a)), .sl 83 1 (bl (dig b))] (.v (.int .i64 (cmpS a b))) false := by
  refine AFn.intro' (L := [(0, .dat (.sl 83 1 (bl (dig a)))), (1, .dat (.sl 83 1 (bl (dig b))))]) tabOk Try.func45 rfl rfl Try.ntmps45 rfl rfl rfl ?_
  refine AWp.seq ?_
  refine AWp.regionN (fun _ => false) rfl ?_
  refine pI rfl rfl rfl ?_
  refine AOps.done ?_
  refine AWp.seq ?_
  refine AWp.seq ?_
  refine AWp.regionN (fun _ => false) rfl ?_
  refine pS rfl rfl rfl ?_
  refine pI rfl rfl rfl ?_
  refine pS rfl rfl rfl ?_
  refine pI rfl rfl rfl ?_
  refine AOps.b tabOk rfl rfl rfl (fun c10 h10 => ?_)
  refine AOps.done ?_
  refine AWp.cond rfl (fun e => ?_) (fun e => ?_)
  · subst e
    have hne : (dig a).length ≠ (dig b).length := by have := h10; simp [bl] at this; omega
    refine AWp.seq ?_
    refine AWp.seq ?_
    refine AWp.regionN (fun _ => false) rfl ?_
    refine pS rfl rfl rfl ?_
    refine pI rfl rfl rfl ?_
    refine pS rfl rfl rfl ?_
    refine pI rfl rfl rfl ?_
    refine AOps.b tabOk rfl rfl rfl (fun c15 h15 => ?_)
    refine AOps.done ?_
    refine AWp.cond rfl (fun e => ?_) (fun e => ?_)
    · subst e
      have hlt := dig_len_lt (show (dig a).length < (dig b).length by simpa [bl] using h15)
      refine AWp.seq ?_
      refine AWp.regionN (fun _ => false) rfl ?_
      refine pI rfl rfl rfl ?_
      refine AOps.done ?_
      refine AWp.ret ?_
      exact ⟨_, rfl, by simp [fin, cmpS, hlt]⟩
    · subst e
      have hle : (dig b).length ≤ (dig a).length := by have := h15; simp [bl] at this; omega
      have hge := dig_len_lt (show (dig b).length < (dig a).length by omega)
      refine AWp.skip ?_
      refine AWp.seq ?_
      refine AWp.regionN (fun _ => false) rfl ?_
      refine pI rfl rfl rfl ?_
      refine AOps.done ?_
      refine AWp.ret ?_
      exact ⟨_, rfl, by simp [fin, cmpS, hge, Nat.lt_asymm hge]⟩
  · subst e
    have hlen : (dig a).length = (dig b).length := by have := h10; simp [bl] at this; omega
    refine AWp.skip ?_
    refine AWp.seq ?_
    refine AWp.seq ?_
    refine AWp.regionN (fun _ => false) rfl ?_
    refine pS rfl rfl rfl ?_
    refine pI rfl rfl rfl ?_
    refine AOps.i tabOk rfl rfl rfl (j := (((dig a).length : Nat) : Int) - 1) (by simp only [bl_length]; exact wi (by omega) (by omega)) ?_
    refine pI rfl rfl rfl ?_
    refine AOps.done ?_
    refine AWp.block ?_
    refine AWp.loop (I := fun (k : Nat) => mkSt [(0, .dat (.sl 83 1 (bl (dig a)))), (1, .dat (.sl 83 1 (bl (dig b)))), (5, .dat (.v (.int .i64 ((k : Int) - 1))))] []) (Inv := fun k => k ≤ (dig a).length ∧ (dig a).drop k = (dig b).drop k) (μ := fun k => k) (x0 := (dig a).length) ⟨Nat.le_refl _, by rw [List.drop_length, hlen, List.drop_length]⟩ (Sub.list (fun i => i) rfl rfl ⟨rfl, rfl, rfl, trivial⟩ trivial) (fun k hx => ?_)
    obtain ⟨k1, k2⟩ := hx
    refine AWp.seq ?_
    refine AWp.seq ?_
    refine AWp.regionN (fun _ => false) rfl ?_
    refine pI rfl rfl rfl ?_
    refine AOps.b tabOk rfl rfl rfl (fun c20 h20 => ?_)
    refine AOps.done ?_
    refine AWp.cond rfl (fun e => ?_) (fun e => ?_)
    · subst e
      obtain ⟨m, rfl⟩ : ∃ m, k = m + 1 := ⟨k - 1, by have := h20; simp at this; omega⟩
      obtain ⟨d, hd⟩ : ∃ d, (dig a)[m]? = some d := ⟨_, List.getElem?_eq_getElem (by omega)⟩
      obtain ⟨e, he⟩ : ∃ e, (dig b)[m]? = some e := ⟨_, List.getElem?_eq_getElem (by omega)⟩
      have hm : (((m + 1 : Nat) : Int) - 1).toNat = m := by omega
      refine AWp.skip ?_
      refine AWp.seq ?_
      refine AWp.block ?_
      refine AWp.seq ?_
      refine AWp.seq ?_
      refine AWp.regionD (fun _ => false) mixed (by decide +kernel) rfl ?_
      refine pS rfl rfl rfl ?_
      refine pI rfl rfl rfl ?_
      refine AOps.idx tabOk (z := .v (.int .u32 (d : Nat))) rfl rfl rfl rfl rfl rfl rfl rfl (by omega) (by rw [hm]; exact bl_get hd) ?_
      refine pI rfl rfl rfl ?_
      refine pS rfl rfl rfl ?_
      refine pI rfl rfl rfl ?_
      refine AOps.idx tabOk (z := .v (.int .u32 (e : Nat))) rfl rfl rfl rfl rfl rfl rfl rfl (by omega) (by rw [hm]; exact bl_get he) ?_
      refine pI rfl rfl rfl ?_
      refine AOps.b tabOk rfl rfl rfl (fun c31 h31 => ?_)
      refine AOps.done ?_
      refine AWp.cond rfl (fun e => ?_) (fun e => ?_)
      · subst e
        have hlt := dig_lt_at hlen hd he k2 (by simpa using h31)
        refine AWp.seq ?_
        refine AWp.regionN (fun _ => false) rfl ?_
        refine pI rfl rfl rfl ?_
        refine AOps.done ?_
        refine AWp.ret ?_
        exact ⟨_, rfl, by simp [fin, cmpS, hlt]⟩
      · subst e
        have hge : e ≤ d := by simpa using h31
        refine AWp.skip ?_
        refine AWp.seq ?_
        refine AWp.regionD (fun _ => false) mixed (by decide +kernel) rfl ?_
        refine pS rfl rfl rfl ?_
        refine pI rfl rfl rfl ?_
        refine AOps.idx tabOk (z := .v (.int .u32 (d : Nat))) rfl rfl rfl rfl rfl rfl rfl rfl (by omega) (by rw [hm]; exact bl_get hd) ?_
        refine pI rfl rfl rfl ?_
        refine pS rfl rfl rfl ?_
        refine pI rfl rfl rfl ?_
        refine AOps.idx tabOk (z := .v (.int .u32 (e : Nat))) rfl rfl rfl rfl rfl rfl rfl rfl (by omega) (by rw [hm]; exact bl_get he) ?_
        refine pI rfl rfl rfl ?_
        refine AOps.b tabOk rfl rfl rfl (fun c40 h40 => ?_)
        refine AOps.done ?_
        refine AWp.cond rfl (fun e => ?_) (fun e => ?_)
        · subst e
          have hlt := dig_lt_at hlen.symm he hd k2.symm (by simpa using h40)
          refine AWp.seq ?_
          refine AWp.regionN (fun _ => false) rfl ?_
          refine pI rfl rfl rfl ?_
          refine AOps.done ?_
          refine AWp.ret ?_
          exact ⟨_, rfl, by simp [fin, cmpS, hlt, Nat.lt_asymm hlt]⟩
        · subst e
          have hle : d ≤ e := by simpa using h40
          refine AWp.skip ?_
          refine AWp.regionN (fun _ => false) rfl ?_
          refine pI rfl rfl rfl ?_
          refine AOps.i tabOk rfl rfl rfl (j := ((m : Nat) : Int) - 1) (by rw [wi (by omega) (by omega)]; omega) ?_
          refine pI rfl rfl rfl ?_
          refine AOps.done ?_
          have hde : d = e := by omega
          subst hde
          exact ⟨m, ⟨by omega, by rw [List.drop_eq_getElem_cons (show m < (dig a).length by omega), List.drop_eq_getElem_cons (show m < (dig b).length by omega), k2, (List.getElem?_eq_some_iff.1 hd).2, (List.getElem?_eq_some_iff.1 he).2]⟩, by omega, (Sub.list (fun i => i) rfl rfl ⟨rfl, rfl, rfl, trivial⟩ trivial)⟩
    · subst e
      have hk : k = 0 := by have := h20; simp at this; omega
      subst hk
      have hab : a = b := dig_inj (by simpa using k2)
      refine AWp.exit ?_
      refine AWp.seq ?_
      refine AWp.regionN (fun _ => false) rfl ?_
      refine pI rfl rfl rfl ?_
      refine AOps.done ?_
      refine AWp.ret ?_
      exact ⟨_, rfl, by simp [fin, cmpS, hab]⟩

theorem bits_fn (a : Nat) (ha : (dig a).length ≤ 1000000) : AFn prog 69 [.sl 83 1 (bl (dig a))] (.v (.int .i64 ((blen a : Nat) : Int))) false := by
  refine AFn.intro' (L := [(0, .dat (.sl 83 1 (bl (dig a))))]) tabOk Try.func69 rfl rfl Try.ntmps69 rfl rfl rfl ?_
  refine AWp.seq ?_
  refine AWp.regionN (fun _ => false) rfl ?_
  refine pI rfl rfl rfl ?_
  refine AOps.done ?_
  refine AWp.seq ?_
  refine AWp.seq ?_
  refine AWp.regionN (fun _ => false) rfl ?_
  refine pS rfl rfl rfl ?_
  refine pI rfl rfl rfl ?_
  refine AOps.b tabOk rfl rfl rfl (fun c7 h7 => ?_)
  refine AOps.done ?_
  refine AWp.cond rfl (fun e => ?_) (fun e => ?_)
  · subst e
    have h0 : a = 0 := by have := h7; simp [bl] at this; exact dig_nil.1 this
    refine AWp.seq ?_
    refine AWp.regionN (fun _ => false) rfl ?_
    refine pI rfl rfl rfl ?_
    refine AOps.done ?_
    refine AWp.ret ?_
    exact ⟨_, rfl, by simp [fin, h0, blen_zero]⟩
  · subst e
    have h0 : a ≠ 0 := by rintro rfl; simp [bl, dig_zero] at h7
    obtain ⟨m, d0, e1, e2, e3, e4, e5⟩ := dig_split h0
    have hl : (dig a).length = m.length + 1 := by rw [e1]; simp
    have hmi : ((m.length : Nat) : Int).toNat = m.length := by omega
    refine AWp.skip ?_
    refine AWp.seq ?_
    refine AWp.regionN (fun _ => false) rfl ?_
    refine pS rfl rfl rfl ?_
    refine pI rfl rfl rfl ?_
    refine AOps.i tabOk rfl rfl rfl (j := ((m.length : Nat) : Int)) (by simp only [bl_length]; rw [wi (by omega) (by omega)]; omega) ?_
    refine AOps.i tabOk rfl rfl rfl (j := ((32 * m.length : Nat) : Int)) (by rw [wi (by omega) (by omega)]; omega) ?_
    refine pI rfl rfl rfl ?_
    refine AOps.done ?_
    refine AWp.seq ?_
    refine AWp.seq ?_
    refine AWp.regionN (fun _ => false) rfl ?_
    refine pS rfl rfl rfl ?_
    refine pS rfl rfl rfl ?_
    refine pI rfl rfl rfl ?_
    refine AOps.i tabOk rfl rfl rfl (j := ((m.length : Nat) : Int)) (by simp only [bl_length]; rw [wi (by omega) (by omega)]; omega) ?_
    refine AOps.idx tabOk (z := .v (.int .u32 (d0 : Nat))) rfl rfl rfl rfl rfl rfl rfl rfl (by omega) (by rw [hmi]; exact bl_get (by rw [e1]; simp)) ?_
    refine pI rfl rfl rfl ?_
    refine pI rfl rfl rfl ?_
    refine AOps.done ?_
    refine AWp.block ?_
    refine AWp.loop (I := fun (x : Nat × Nat) => mkSt [(3, .dat (.v (.int .i64 (x.2 : Nat)))), (4, .dat (.v (.int .u32 (x.1 : Nat))))] []) (Inv := fun x => x.2 + blen x.1 = blen a ∧ x.1 < 4294967296) (μ := fun x => x.1) (x0 := (d0, 32 * m.length)) ⟨e5.symm, e4⟩ (Sub.list (fun i => i) rfl rfl ⟨rfl, rfl, trivial⟩ trivial) (fun ⟨d, n⟩ hx => ?_)
    obtain ⟨k1, k2⟩ := hx
    simp only at k1 k2
    have hbl : blen a ≤ 32 * 1000001 := by have := (blen_le d0 32).2 e4; omega
    refine AWp.seq ?_
    refine AWp.seq ?_
    refine AWp.regionN (fun _ => false) rfl ?_
    refine pI rfl rfl rfl ?_
    refine AOps.b tabOk rfl rfl rfl (fun c19 h19 => ?_)
    refine AOps.done ?_
    refine AWp.cond rfl (fun e => ?_) (fun e => ?_)
    · subst e
      have hd : d ≠ 0 := by have := h19; simp at this; omega
      refine AWp.skip ?_
      refine AWp.seq ?_
      refine AWp.block ?_
      refine AWp.regionN (fun _ => false) rfl ?_
      refine pI rfl rfl rfl ?_
      refine AOps.i tabOk rfl rfl rfl (j := ((n + 1 : Nat) : Int)) (by rw [wi (by omega) (by omega)]; omega) ?_
      refine pI rfl rfl rfl ?_
      refine AOps.done ?_
      refine AWp.regionN (fun _ => false) rfl ?_
      refine pI rfl rfl rfl ?_
      refine AOps.i tabOk rfl rfl rfl (j := ((d / 2 : Nat) : Int)) (by simp [IntKind.bits]; rw [Int.fdiv_eq_ediv_of_nonneg _ (by omega)]) ?_
      refine pI rfl rfl rfl ?_
      refine AOps.done ?_
      exact ⟨(d / 2, n + 1), ⟨by rw [blen_pos hd] at k1; simp only; omega, by simp only; omega⟩, by simp only; omega, (Sub.list (fun i => i) rfl rfl ⟨rfl, rfl, trivial⟩ trivial)⟩
    · subst e
      have hd : d = 0 := by simpa using h19
      subst hd
      refine AWp.exit ?_
      refine AWp.seq ?_
      refine AWp.regionN (fun _ => false) rfl ?_
      refine pI rfl rfl rfl ?_
      refine pI rfl rfl rfl ?_
      refine AOps.done ?_
      refine AWp.ret ?_
      exact ⟨_, rfl, by simp only [fin]; rw [← k1, blen_zero]; rfl⟩

theorem plus_fn (a b : Nat) (ha : (dig a).length ≤ 100000) (hb : (dig b).length ≤ 100000) : AFn prog 72 [.sl 83 1 (bl (dig a)), .sl 83 1 (bl (dig b))] (.sl 83 1 (bl (dig (a + b)))) false := by
  refine AFn.intro' (L := [(0, .dat (.sl 83 1 (bl (dig a)))), (1, .dat (.sl 83 1 (bl (dig b))))]) tabOk Try.func72 rfl rfl Try.ntmps72 rfl rfl rfl ?_
  refine AWp.seq ?_
  refine AWp.regionN (fun _ => false) rfl ?_
  refine pS rfl rfl rfl ?_
  refine AOps.done ?_
  refine AWp.seq ?_
  refine AWp.regionN (fun _ => false) rfl ?_
  refine AOps.litown tabOk (ys := bl []) rfl rfl rfl rfl rfl rfl rfl rfl ?_
  refine pO rfl rfl rfl ?_
  refine AOps.done ?_
  refine AWp.seq ?_
  refine AWp.regionN (fun _ => false) rfl ?_
  refine pI rfl rfl rfl ?_
  refine AOps.done ?_
  refine AWp.seq ?_
  refine AWp.seq ?_
  refine AWp.regionN (fun _ => false) rfl ?_
  refine pI rfl rfl rfl ?_
  refine AOps.done ?_
  refine AWp.block ?_
  refine AWp.loop (I := fun (x : List Nat × Nat × Nat) => mkSt [(0, .dat (.sl 83 1 (bl (dig a)))), (1, .dat (.sl 83 1 (bl (dig b)))), (5, .oref 0), (6, .dat (.v (.int .u64 (x.2.1 : Nat)))), (7, .dat (.v (.int .i64 (x.2.2 : Nat))))] [(0, .row 83 1 (bl x.1))]) (Inv := fun x => dOk x.1 ∧ x.1.length = x.2.2 ∧ x.2.1 ≤ 1 ∧ dval ((dig a).take x.2.2) + dval ((dig b).take x.2.2) = dval x.1 + 4294967296 ^ x.2.2 * x.2.1 ∧ (x.2.2 ≤ (dig a).length ∨ x.2.2 ≤ (dig b).length)) (μ := fun x => 200000 - x.2.2) (x0 := ([], 0, 0)) ⟨by simp [dOk], rfl, by simp, by simp [dval], .inl (Nat.zero_le _)⟩ (Sub.list (fun _ => 8) rfl rfl ⟨rfl, rfl, rfl, rfl, rfl, trivial⟩ ⟨rfl, trivial⟩) (fun ⟨o, c, i⟩ hx => ?_)
  obtain ⟨k1, k2, k3, k4, k5⟩ := hx
  simp only at k1 k2 k3 k4 k5
  refine AWp.cutseq (I := fun (_u : Unit) => mkSt [(0, .dat (.sl 83 1 (bl (dig a)))), (1, .dat (.sl 83 1 (bl (dig b)))), (5, .oref 0), (6, .dat (.v (.int .u64 (c : Nat)))), (7, .dat (.v (.int .i64 (i : Nat))))] [(0, .row 83 1 (bl o))]) (Inv := fun _u => i < (dig a).length ∨ i < (dig b).length) ?_ (fun _u hi => ?_)
  · -- ahead of the cut
    refine AWp.seq ?_
    refine AWp.regionN (fun _ => false) rfl ?_
    refine pI rfl rfl rfl ?_
    refine pS rfl rfl rfl ?_
    refine pI rfl rfl rfl ?_
    refine AOps.b tabOk rfl rfl rfl (fun c12 h12 => ?_)
    refine pB rfl rfl rfl ?_
    cases c12
    · -- c12 = false
      refine pI rfl rfl rfl ?_
      refine pS rfl rfl rfl ?_
      refine pI rfl rfl rfl ?_
      refine AOps.b tabOk rfl rfl rfl (fun c17 h17 => ?_)
      refine pB rfl rfl rfl ?_
      refine AOps.done ?_
      refine AWp.cond rfl (fun e => ?_) (fun e => ?_)
      · subst e
        refine AWp.skip ?_
        exact ⟨(), .inr (by simpa [bl] using h17), (Sub.list (fun i => i) rfl rfl ⟨rfl, rfl, rfl, rfl, rfl, trivial⟩ ⟨rfl, trivial⟩)⟩
      · subst e
        have hA : (dig a).length ≤ i := by simpa [bl] using h12
        have hB : (dig b).length ≤ i := by simpa [bl] using h17
        rw [List.take_of_length_le hA, List.take_of_length_le hB, dval_dig, dval_dig] at k4
        have hc : c % 4294967296 = c := by omega
        refine AWp.exit ?_
        refine AWp.seq ?_
        refine AWp.regionN (fun o => writes o) rfl ?_
        refine pO rfl rfl rfl ?_
        refine pI rfl rfl rfl ?_
        refine AOps.i tabOk rfl rfl rfl (w32N c) ?_
        refine AOps.lit tabOk (ys := bl [c % 4294967296]) rfl rfl rfl rfl rfl rfl ?_
        refine AOps.append tabOk rfl rfl rfl rfl rfl rfl rfl rfl rfl rfl rfl (.inl ⟨_, rfl⟩) (by simp [bl_length, maxLen]; omega) (by simp [bl_length, te83]; omega) (bl_append o [c % 4294967296]).symm ?_
        refine pO rfl rfl rfl ?_
        refine AOps.done ?_
        refine AWp.seq ?_
        refine AWp.freeze 5 54 rfl rfl ?_
        refine AWp.regionN (fun _ => false) rfl ?_
        refine pS rfl rfl rfl ?_
        refine AOps.call (trim_fn (o ++ [c % 4294967296]) (dOk_append.2 ⟨k1, by intro d hd; simp at hd; omega⟩) (by simp; omega)) rfl rfl rfl ⟨.inl rfl, trivial⟩ ?_
        refine pS rfl rfl rfl ?_
        refine AOps.done ?_
        refine AWp.ret ?_
        exact ⟨_, rfl, by simp only [fin]; rw [dval_append, k2, hc]; simp only [dval]; rw [k4]; simp⟩
    · -- c12 = true
      refine AOps.off rfl rfl ?_
      refine AOps.off rfl rfl ?_
      refine AOps.off rfl rfl ?_
      refine AOps.off rfl rfl ?_
      refine pB rfl rfl rfl ?_
      refine AOps.done ?_
      refine AWp.condT rfl ?_
      refine AWp.skip ?_
      exact ⟨(), .inl (by simpa [bl] using h12), (Sub.list (fun i => i) rfl rfl ⟨rfl, rfl, rfl, rfl, rfl, trivial⟩ ⟨rfl, trivial⟩)⟩
  · -- behind the cut
    refine AWp.seq ?_
    refine AWp.block ?_
    refine AWp.cutseq (I := fun (s : Nat) => mkSt [(0, .dat (.sl 83 1 (bl (dig a)))), (1, .dat (.sl 83 1 (bl (dig b)))), (5, .oref 0), (6, .dat (.v (.int .u64 (s : Nat)))), (7, .dat (.v (.int .i64 (i : Nat))))] [(0, .row 83 1 (bl o))]) (Inv := fun s => s = c + (dig a).getD i 0) ?_ (fun s hs => ?_)
    · -- ahead of the cut
      refine AWp.seq ?_
      refine AWp.regionN (fun _ => false) rfl ?_
      refine pI rfl rfl rfl ?_
      refine pS rfl rfl rfl ?_
      refine pI rfl rfl rfl ?_
      refine AOps.b tabOk rfl rfl rfl (fun c24 h24 => ?_)
      refine AOps.done ?_
      refine AWp.cond rfl (fun e => ?_) (fun e => ?_)
      · subst e
        have h24 : i < (dig a).length := by simpa [bl] using h24
        obtain ⟨d, hd⟩ : ∃ d, (dig a)[i]? = some d := ⟨_, List.getElem?_eq_getElem h24⟩
        have hdl := dOk_dig a d (List.mem_of_getElem? hd)
        refine AWp.regionN (fun _ => false) rfl ?_
        refine pI rfl rfl rfl ?_
        refine pS rfl rfl rfl ?_
        refine pI rfl rfl rfl ?_
        refine AOps.idx tabOk (z := .v (.int .u32 (d : Nat))) rfl rfl rfl rfl rfl rfl rfl rfl (by omega) (by simp only [Int.toNat_natCast]; exact bl_get hd) ?_
        refine pI rfl rfl rfl ?_
        refine AOps.i tabOk rfl rfl rfl (j := ((d : Nat) : Int)) (wu (by omega) (by omega)) ?_
        refine AOps.i tabOk rfl rfl rfl (j := ((c + d : Nat) : Int)) (by rw [wu (by omega) (by omega)]; omega) ?_
        refine pI rfl rfl rfl ?_
        refine AOps.done ?_
        exact ⟨c + d, by simp [List.getD_eq_getElem?_getD, hd], (Sub.list (fun i => i) rfl rfl ⟨rfl, rfl, rfl, rfl, rfl, trivial⟩ ⟨rfl, trivial⟩)⟩
      · subst e
        have h24 : (dig a).length ≤ i := by simpa [bl] using h24
        refine AWp.skip ?_
        exact ⟨c, by simp [List.getD_eq_getElem?_getD, List.getElem?_eq_none h24], (Sub.list (fun i => i) rfl rfl ⟨rfl, rfl, rfl, rfl, rfl, trivial⟩ ⟨rfl, trivial⟩)⟩
    · -- behind the cut
      refine AWp.cutseq (I := fun (t : Nat) => mkSt [(0, .dat (.sl 83 1 (bl (dig a)))), (1, .dat (.sl 83 1 (bl (dig b)))), (5, .oref 0), (6, .dat (.v (.int .u64 (t : Nat)))), (7, .dat (.v (.int .i64 (i : Nat))))] [(0, .row 83 1 (bl o))]) (Inv := fun t => t = s + (dig b).getD i 0) ?_ (fun t ht => ?_)
      · -- ahead of the cut
        refine AWp.seq ?_
        refine AWp.regionN (fun _ => false) rfl ?_
        refine pI rfl rfl rfl ?_
        refine pS rfl rfl rfl ?_
        refine pI rfl rfl rfl ?_
        refine AOps.b tabOk rfl rfl rfl (fun c35 h35 => ?_)
        refine AOps.done ?_
        refine AWp.cond rfl (fun e => ?_) (fun e => ?_)
        · subst e
          have h35 : i < (dig b).length := by simpa [bl] using h35
          obtain ⟨d, hd⟩ : ∃ d, (dig b)[i]? = some d := ⟨_, List.getElem?_eq_getElem h35⟩
          have hdl := dOk_dig b d (List.mem_of_getElem? hd)
          have ha1 := getD_dig a i
          refine AWp.regionN (fun _ => false) rfl ?_
          refine pI rfl rfl rfl ?_
          refine pS rfl rfl rfl ?_
          refine pI rfl rfl rfl ?_
          refine AOps.idx tabOk (z := .v (.int .u32 (d : Nat))) rfl rfl rfl rfl rfl rfl rfl rfl (by omega) (by simp only [Int.toNat_natCast]; exact bl_get hd) ?_
          refine pI rfl rfl rfl ?_
          refine AOps.i tabOk rfl rfl rfl (j := ((d : Nat) : Int)) (wu (by omega) (by omega)) ?_
          refine AOps.i tabOk rfl rfl rfl (j := ((s + d : Nat) : Int)) (by rw [wu (by omega) (by omega)]; omega) ?_
          refine pI rfl rfl rfl ?_
          refine AOps.done ?_
          exact ⟨s + d, by simp [List.getD_eq_getElem?_getD, hd], (Sub.list (fun i => i) rfl rfl ⟨rfl, rfl, rfl, rfl, rfl, trivial⟩ ⟨rfl, trivial⟩)⟩
        · subst e
          have h35 : (dig b).length ≤ i := by simpa [bl] using h35
          refine AWp.skip ?_
          exact ⟨s, by simp [List.getD_eq_getElem?_getD, List.getElem?_eq_none h35], (Sub.list (fun i => i) rfl rfl ⟨rfl, rfl, rfl, rfl, rfl, trivial⟩ ⟨rfl, trivial⟩)⟩
      · -- behind the cut
        have ha1 := getD_dig a i
        have hb1 := getD_dig b i
        refine AWp.seq ?_
        refine AWp.regionN (fun o => writes o) rfl ?_
        refine pO rfl rfl rfl ?_
        refine pI rfl rfl rfl ?_
        refine AOps.i tabOk rfl rfl rfl (w32N t) ?_
        refine AOps.lit tabOk (ys := bl [t % 4294967296]) rfl rfl rfl rfl rfl rfl ?_
        refine AOps.append tabOk rfl rfl rfl rfl rfl rfl rfl rfl rfl rfl rfl (.inl ⟨_, rfl⟩) (by simp [bl_length, maxLen]; omega) (by simp [bl_length, te83]; omega) (bl_append o [t % 4294967296]).symm ?_
        refine pO rfl rfl rfl ?_
        refine AOps.done ?_
        refine AWp.regionN (fun _ => false) rfl ?_
        refine pI rfl rfl rfl ?_
        refine AOps.i tabOk rfl rfl rfl (j := ((t / 4294967296 : Nat) : Int)) (by simp [IntKind.bits]; rw [Int.fdiv_eq_ediv_of_nonneg _ (by omega)]) ?_
        refine pI rfl rfl rfl ?_
        refine AOps.done ?_
        refine AWp.regionN (fun _ => false) rfl ?_
        refine pI rfl rfl rfl ?_
        refine AOps.i tabOk rfl rfl rfl (j := ((i + 1 : Nat) : Int)) (by rw [wi (by omega) (by omega)]; omega) ?_
        refine pI rfl rfl rfl ?_
        refine AOps.done ?_
        exact ⟨(o ++ [t % 4294967296], t / 4294967296, i + 1), ⟨dOk_append.2 ⟨k1, by intro d hd; simp at hd; omega⟩, by simp [k2], by simp only; omega, plus_step k2 k4 (by omega), by simp only; omega⟩, by simp only; omega, (Sub.list (fun _ => 47) rfl rfl ⟨rfl, rfl, rfl, rfl, rfl, trivial⟩ ⟨rfl, trivial⟩)⟩

theorem less_fn (a b : Nat) (ha : (dig a).length ≤ 100000) (hab : b ≤ a) : AFn prog 73 [.sl 83 1 (bl (dig a)), .sl 83 1 (bl (dig b))] (.sl 83 1 (bl (dig (a - b)))) false := by
  refine AFn.intro' (L := [(0, .dat (.sl 83 1 (bl (dig a)))), (1, .dat (.sl 83 1 (bl (dig b))))]) tabOk Try.func73 rfl rfl Try.ntmps73 rfl rfl rfl ?_
  refine AWp.seq ?_
  refine AWp.regionN (fun _ => false) rfl ?_
  refine pS rfl rfl rfl ?_
  refine AOps.done ?_
  refine AWp.seq ?_
  refine AWp.regionN (fun _ => false) rfl ?_
  refine AOps.litown tabOk (ys := bl []) rfl rfl rfl rfl rfl rfl rfl rfl ?_
  refine pO rfl rfl rfl ?_
  refine AOps.done ?_
  refine AWp.seq ?_
  refine AWp.regionN (fun _ => false) rfl ?_
  refine pI rfl rfl rfl ?_
  refine AOps.done ?_
  refine AWp.seq ?_
  refine AWp.seq ?_
  refine AWp.regionN (fun _ => false) rfl ?_
  refine pI rfl rfl rfl ?_
  refine AOps.done ?_
  refine AWp.block ?_
  refine AWp.loop (I := fun (x : List Nat × Nat × Nat) => mkSt [(0, .dat (.sl 83 1 (bl (dig a)))), (1, .dat (.sl 83 1 (bl (dig b)))), (5, .oref 0), (6, .dat (.v (.int .i64 (x.2.1 : Nat)))), (7, .dat (.v (.int .i64 (x.2.2 : Nat))))] [(0, .row 83 1 (bl x.1))]) (Inv := fun x => dOk x.1 ∧ x.1.length = x.2.2 ∧ x.2.1 ≤ 1 ∧ dval ((dig a).take x.2.2) + 4294967296 ^ x.2.2 * x.2.1 = dval x.1 + dval ((dig b).take x.2.2) ∧ x.2.2 ≤ (dig a).length) (μ := fun x => 200000 - x.2.2) (x0 := ([], 0, 0)) ⟨by simp [dOk], rfl, by simp, by simp [dval], Nat.zero_le _⟩ (Sub.list (fun _ => 9) rfl rfl ⟨rfl, rfl, rfl, rfl, rfl, trivial⟩ ⟨rfl, trivial⟩) (fun ⟨o, r, i⟩ hx => ?_)
  obtain ⟨k1, k2, k3, k4, k5⟩ := hx
  simp only at k1 k2 k3 k4 k5
  refine AWp.seq ?_
  refine AWp.seq ?_
  refine AWp.regionN (fun _ => false) rfl ?_
  refine pI rfl rfl rfl ?_
  refine pS rfl rfl rfl ?_
  refine pI rfl rfl rfl ?_
  refine AOps.b tabOk rfl rfl rfl (fun c13 h13 => ?_)
  refine AOps.done ?_
  refine AWp.cond rfl (fun e => ?_) (fun e => ?_)
  · subst e
    have h13 : i < (dig a).length := by simpa [bl] using h13
    obtain ⟨d, hd⟩ : ∃ d, (dig a)[i]? = some d := ⟨_, List.getElem?_eq_getElem h13⟩
    have hdl := dOk_dig a d (List.mem_of_getElem? hd)
    have hd1 : (dig a).getD i 0 = d := by simp [List.getD_eq_getElem?_getD, hd]
    refine AWp.skip ?_
    refine AWp.seq ?_
    refine AWp.block ?_
    refine AWp.seq ?_
    refine AWp.regionN (fun _ => false) rfl ?_
    refine pS rfl rfl rfl ?_
    refine pI rfl rfl rfl ?_
    refine AOps.idx tabOk (z := .v (.int .u32 (d : Nat))) rfl rfl rfl rfl rfl rfl rfl rfl (by omega) (by simp only [Int.toNat_natCast]; exact bl_get hd) ?_
    refine pI rfl rfl rfl ?_
    refine AOps.i tabOk rfl rfl rfl (j := ((d : Nat) : Int)) (wi (by omega) (by omega)) ?_
    refine pI rfl rfl rfl ?_
    refine AOps.i tabOk rfl rfl rfl (j := (d : Int) - (r : Nat)) (wi (n := (d : Int) - (r : Nat)) (by omega) (by omega)) ?_
    refine pI rfl rfl rfl ?_
    refine AOps.done ?_
    refine AWp.cutseq (I := fun (n : Int) => mkSt [(0, .dat (.sl 83 1 (bl (dig a)))), (1, .dat (.sl 83 1 (bl (dig b)))), (5, .oref 0), (7, .dat (.v (.int .i64 (i : Nat)))), (8, .dat (.v (.int .i64 n)))] [(0, .row 83 1 (bl o))]) (Inv := fun n => n = (d : Int) - (r : Nat) - (((dig b).getD i 0 : Nat) : Int)) ?_ (fun n hn => ?_)
    · -- ahead of the cut
      refine AWp.seq ?_
      refine AWp.regionN (fun _ => false) rfl ?_
      refine pI rfl rfl rfl ?_
      refine pS rfl rfl rfl ?_
      refine pI rfl rfl rfl ?_
      refine AOps.b tabOk rfl rfl rfl (fun c26 h26 => ?_)
      refine AOps.done ?_
      refine AWp.cond rfl (fun e => ?_) (fun e => ?_)
      · subst e
        have h26 : i < (dig b).length := by simpa [bl] using h26
        obtain ⟨e, he⟩ : ∃ e, (dig b)[i]? = some e := ⟨_, List.getElem?_eq_getElem h26⟩
        have hel := dOk_dig b e (List.mem_of_getElem? he)
        refine AWp.regionN (fun _ => false) rfl ?_
        refine pI rfl rfl rfl ?_
        refine pS rfl rfl rfl ?_
        refine pI rfl rfl rfl ?_
        refine AOps.idx tabOk (z := .v (.int .u32 (e : Nat))) rfl rfl rfl rfl rfl rfl rfl rfl (by omega) (by simp only [Int.toNat_natCast]; exact bl_get he) ?_
        refine pI rfl rfl rfl ?_
        refine AOps.i tabOk rfl rfl rfl (j := ((e : Nat) : Int)) (wi (by omega) (by omega)) ?_
        refine AOps.i tabOk rfl rfl rfl (j := (d : Int) - (r : Nat) - (e : Nat)) (wi (by omega) (by omega)) ?_
        refine pI rfl rfl rfl ?_
        refine AOps.done ?_
        exact ⟨(d : Int) - (r : Nat) - (e : Nat), by simp [List.getD_eq_getElem?_getD, he], (Sub.list (fun i => i) rfl rfl ⟨rfl, rfl, rfl, rfl, rfl, trivial⟩ ⟨rfl, trivial⟩)⟩
      · subst e
        have h26 : (dig b).length ≤ i := by simpa [bl] using h26
        refine AWp.skip ?_
        exact ⟨(d : Int) - (r : Nat), by simp [List.getD_eq_getElem?_getD, List.getElem?_eq_none h26], (Sub.list (fun i => i) rfl rfl ⟨rfl, rfl, rfl, rfl, rfl, trivial⟩ ⟨rfl, trivial⟩)⟩
    · -- behind the cut
      have hb1 := getD_dig b i
      refine AWp.seq ?_
      refine AWp.regionN (fun _ => false) rfl ?_
      refine pI rfl rfl rfl ?_
      refine AOps.done ?_
      refine AWp.cutseq (I := fun (y : Nat × Nat) => mkSt [(0, .dat (.sl 83 1 (bl (dig a)))), (1, .dat (.sl 83 1 (bl (dig b)))), (5, .oref 0), (6, .dat (.v (.int .i64 (y.2 : Nat)))), (7, .dat (.v (.int .i64 (i : Nat)))), (8, .dat (.v (.int .i64 (y.1 : Nat))))] [(0, .row 83 1 (bl o))]) (Inv := fun y => (y.1 : Int) = n + 4294967296 * (y.2 : Nat) ∧ y.1 < 4294967296 ∧ y.2 ≤ 1) ?_ (fun ⟨y, r1⟩ hy => ?_)
      · -- ahead of the cut
        refine AWp.seq ?_
        refine AWp.regionN (fun _ => false) rfl ?_
        refine pI rfl rfl rfl ?_
        refine AOps.b tabOk rfl rfl rfl (fun c35 h35 => ?_)
        refine AOps.done ?_
        refine AWp.cond rfl (fun e => ?_) (fun e => ?_)
        · subst e
          have h35 : n < 0 := by simpa using h35
          refine AWp.seq ?_
          refine AWp.regionN (fun _ => false) rfl ?_
          refine pI rfl rfl rfl ?_
          refine AOps.i tabOk rfl rfl rfl (j := (((n + 4294967296).toNat : Nat) : Int)) (by rw [wi (by omega) (by omega)]; omega) ?_
          refine pI rfl rfl rfl ?_
          refine AOps.done ?_
          refine AWp.regionN (fun _ => false) rfl ?_
          refine pI rfl rfl rfl ?_
          refine AOps.done ?_
          exact ⟨((n + 4294967296).toNat, 1), ⟨by simp only; omega, by simp only; omega, by simp⟩, (Sub.list (fun i => i) rfl rfl ⟨rfl, rfl, rfl, rfl, rfl, rfl, trivial⟩ ⟨rfl, trivial⟩)⟩
        · subst e
          obtain ⟨m, rfl⟩ := Int.eq_ofNat_of_zero_le (show 0 ≤ n by simpa using h35)
          refine AWp.skip ?_
          exact ⟨(m, 0), ⟨by simp, by simp only; omega, by simp⟩, (Sub.list (fun i => i) rfl rfl ⟨rfl, rfl, rfl, rfl, rfl, rfl, trivial⟩ ⟨rfl, trivial⟩)⟩
      · -- behind the cut
        obtain ⟨hy1, hy2, hy3⟩ := hy
        simp only at hy1 hy2 hy3
        refine AWp.regionN (fun o => writes o) rfl ?_
        refine pO rfl rfl rfl ?_
        refine pI rfl rfl rfl ?_
        refine AOps.i tabOk rfl rfl rfl (j := ((y : Nat) : Int)) (by rw [w32N]; omega) ?_
        refine AOps.lit tabOk (ys := bl [y]) rfl rfl rfl rfl rfl rfl ?_
        refine AOps.append tabOk rfl rfl rfl rfl rfl rfl rfl rfl rfl rfl rfl (.inl ⟨_, rfl⟩) (by simp [bl_length, maxLen]; omega) (by simp [bl_length, te83]; omega) (bl_append o [y]).symm ?_
        refine pO rfl rfl rfl ?_
        refine AOps.done ?_
        refine AWp.regionN (fun _ => false) rfl ?_
        refine pI rfl rfl rfl ?_
        refine AOps.i tabOk rfl rfl rfl (j := ((i + 1 : Nat) : Int)) (by rw [wi (by omega) (by omega)]; omega) ?_
        refine pI rfl rfl rfl ?_
        refine AOps.done ?_
        exact ⟨(o ++ [y], r1, i + 1), ⟨dOk_append.2 ⟨k1, by intro z hz; simp at hz; omega⟩, by simp [k2], by simp only; omega, less_step k2 k4 (by rw [hd1]; simp only; omega), by simp only; omega⟩, by simp only; omega, (Sub.list (fun _ => 42) rfl rfl ⟨rfl, rfl, rfl, rfl, rfl, trivial⟩ ⟨rfl, trivial⟩)⟩
  · subst e
    have h13 : (dig a).length ≤ i := by simpa [bl] using h13
    have hf := less_end (by omega) hab k1 k2 k4
    refine AWp.exit ?_
    refine AWp.seq ?_
    refine AWp.freeze 5 0 rfl rfl ?_
    refine AWp.regionN (fun _ => false) rfl ?_
    refine pS rfl rfl rfl ?_
    refine AOps.call (trim_fn o k1 (by omega)) rfl rfl rfl ⟨.inl rfl, trivial⟩ ?_
    refine pS rfl rfl rfl ?_
    refine AOps.done ?_
    refine AWp.ret ?_
    exact ⟨_, rfl, by simp only [fin]; rw [hf]⟩

theorem left_fn (a n : Nat) (ha : (dig a).length ≤ 100000) (hn : n ≤ 3200000) : AFn prog 78 [.sl 83 1 (bl (dig a)), .v (.int .i64 ((n : Nat) : Int))] (.sl 83 1 (bl (dig (a * 2 ^ n)))) false := by
  have hs2 : 2 ^ (n % 32) ≤ 2 ^ 31 := Nat.pow_le_pow_right (by omega) (by omega)
  refine AFn.intro' (L := [(0, .dat (.sl 83 1 (bl (dig a)))), (1, .dat (.v (.int .i64 ((n : Nat) : Int))))]) tabOk Try.func78 rfl rfl Try.ntmps78 rfl rfl rfl ?_
  refine AWp.seq ?_
  refine AWp.regionN (fun _ => false) rfl ?_
  refine pS rfl rfl rfl ?_
  refine AOps.done ?_
  refine AWp.seq ?_
  refine AWp.seq ?_
  refine AWp.regionN (fun _ => false) rfl ?_
  refine pS rfl rfl rfl ?_
  refine pI rfl rfl rfl ?_
  refine AOps.b tabOk rfl rfl rfl (fun c11 h11 => ?_)
  refine AOps.done ?_
  refine AWp.cond rfl (fun e => ?_) (fun e => ?_)
  · subst e
    have h0 : a = 0 := by have := h11; simp [bl] at this; exact dig_nil.1 this
    refine AWp.seq ?_
    refine AWp.regionN (fun _ => false) rfl ?_
    refine pS rfl rfl rfl ?_
    refine pS rfl rfl rfl ?_
    refine AOps.done ?_
    refine AWp.ret ?_
    exact ⟨_, rfl, by simp only [fin, h0, Nat.zero_mul]⟩
  · subst e
    refine AWp.skip ?_
    refine AWp.seq ?_
    refine AWp.regionN (fun _ => false) rfl ?_
    refine pI rfl rfl rfl ?_
    refine AOps.i tabOk rfl rfl rfl (j := ((n / 32 : Nat) : Int)) (by rw [wi (by rw [Int.tdiv_eq_ediv_of_nonneg (by omega)]; omega) (by rw [Int.tdiv_eq_ediv_of_nonneg (by omega)]; omega), Int.tdiv_eq_ediv_of_nonneg (by omega)]; omega) ?_
    refine AOps.makeown tabOk rfl rfl rfl rfl rfl rfl rfl (by omega) (by simp only [te83]; omega) (by omega) (zs := bl (List.replicate (n / 32) 0)) (by simp [bl, te83]; omega) ?_
    refine pO rfl rfl rfl ?_
    refine AOps.done ?_
    refine AWp.seq ?_
    refine AWp.regionN (fun _ => false) rfl ?_
    refine pI rfl rfl rfl ?_
    refine AOps.done ?_
    refine AWp.seq ?_
    refine AWp.seq ?_
    refine AWp.regionN (fun _ => false) rfl ?_
    refine pS rfl rfl rfl ?_
    refine AOps.i tabOk rfl rfl rfl (j := (((dig a).length : Nat) : Int)) (by simp only [bl_length]) ?_
    refine pI rfl rfl rfl ?_
    refine AOps.done ?_
    refine AWp.block ?_
    refine AWp.loop (I := fun (x : List Nat × Nat × Nat) => mkSt [(1, .dat (.v (.int .i64 ((n : Nat) : Int)))), (5, .oref 0), (6, .dat (.v (.int .u64 (x.2.1 : Nat)))), (16, .dat (.sl 83 1 (bl (dig a)))), (17, .dat (.v (.int .i64 (((dig a).length : Nat) : Int)))), (18, .dat (.v (.int .i64 (x.2.2 : Nat))))] [(0, .row 83 1 (bl x.1))]) (Inv := fun x => dOk x.1 ∧ x.1.length = n / 32 + x.2.2 ∧ x.2.1 < 2 ^ (n % 32) ∧ dval x.1 + 4294967296 ^ (n / 32 + x.2.2) * x.2.1 = 4294967296 ^ (n / 32) * (dval ((dig a).take x.2.2) * 2 ^ (n % 32)) ∧ x.2.2 ≤ (dig a).length) (μ := fun x => 200000 - x.2.2) (x0 := (List.replicate (n / 32) 0, 0, 0)) ⟨by intro d hd; simp at hd; omega, by simp, by simp [Nat.two_pow_pos], by simp [dval, dval_replicate], Nat.zero_le _⟩ (Sub.list (fun _ => 15) rfl rfl ⟨rfl, rfl, rfl, rfl, rfl, rfl, trivial⟩ ⟨rfl, trivial⟩) (fun ⟨o, c, i⟩ hx => ?_)
    obtain ⟨k1, k2, k3, k4, k5⟩ := hx
    simp only at k1 k2 k3 k4 k5
    refine AWp.seq ?_
    refine AWp.regionN (fun _ => false) rfl ?_
    refine AOps.b tabOk rfl rfl rfl (fun c19 h19 => ?_)
    refine AOps.done ?_
    refine AWp.seq ?_
    refine AWp.cond rfl (fun e => ?_) (fun e => ?_)
    · subst e
      have h13 : i < (dig a).length := by simpa using h19
      obtain ⟨d, hd⟩ : ∃ d, (dig a)[i]? = some d := ⟨_, List.getElem?_eq_getElem h13⟩
      have hdl := dOk_dig a d (List.mem_of_getElem? hd)
      have hd1 : (dig a).getD i 0 = d := by simp [List.getD_eq_getElem?_getD, hd]
      obtain ⟨t, ht⟩ : ∃ t, t = c + d * 2 ^ (n % 32) := ⟨_, rfl⟩
      have hdm : d * 2 ^ (n % 32) ≤ 4294967295 * 2 ^ 31 := Nat.mul_le_mul (by omega) hs2
      refine AWp.skip ?_
      refine AWp.seq ?_
      refine AWp.block ?_
      refine AWp.seq ?_
      refine AWp.regionN (fun _ => false) rfl ?_
      refine AOps.idx tabOk (z := .v (.int .u32 (d : Nat))) rfl rfl rfl rfl rfl rfl rfl rfl (by omega) (by simp only [Int.toNat_natCast]; exact bl_get hd) ?_
      refine pI rfl rfl rfl ?_
      refine pI rfl rfl rfl ?_
      refine AOps.done ?_
      refine AWp.seq ?_
      refine AWp.regionN (fun _ => false) rfl ?_
      refine pI rfl rfl rfl ?_
      refine pI rfl rfl rfl ?_
      refine AOps.i tabOk rfl rfl rfl (j := ((d : Nat) : Int)) (wu (by omega) (by omega)) ?_
      refine pI rfl rfl rfl ?_
      refine AOps.i tabOk rfl rfl rfl (j := ((n % 32 : Nat) : Int)) (by rw [Int.tmod_eq_emod_of_nonneg (by omega)]; omega) ?_
      refine AOps.i tabOk rfl rfl rfl (j := ((n % 32 : Nat) : Int)) (wu (by omega) (by omega)) ?_
      refine AOps.q rfl rfl rfl rfl rfl (rbin_shl (by omega)) (shl_ok hdl (by omega)) ?_
      refine AOps.i tabOk rfl rfl rfl (j := ((t : Nat) : Int)) (ht ▸ or_ok k3 (by simp) (by omega) (by omega)) ?_
      refine pI rfl rfl rfl ?_
      refine AOps.done ?_
      refine AWp.seq ?_
      refine AWp.regionN (fun o => writes o) rfl ?_
      refine pO rfl rfl rfl ?_
      refine pI rfl rfl rfl ?_
      refine AOps.i tabOk rfl rfl rfl (w32N t) ?_
      refine AOps.lit tabOk (ys := bl [t % 4294967296]) rfl rfl rfl rfl rfl rfl ?_
      refine AOps.append tabOk rfl rfl rfl rfl rfl rfl rfl rfl rfl rfl rfl (.inl ⟨_, rfl⟩) (by simp [bl_length, maxLen]; omega) (by simp [bl_length, te83]; omega) (bl_append o [t % 4294967296]).symm ?_
      refine pO rfl rfl rfl ?_
      refine AOps.done ?_
      refine AWp.regionN (fun _ => false) rfl ?_
      refine pI rfl rfl rfl ?_
      refine AOps.i tabOk rfl rfl rfl (j := ((t / 4294967296 : Nat) : Int)) (by simp [IntKind.bits]; rw [Int.fdiv_eq_ediv_of_nonneg _ (by omega)]) ?_
      refine pI rfl rfl rfl ?_
      refine AOps.done ?_
      refine AWp.regionN (fun _ => false) rfl ?_
      refine AOps.i tabOk rfl rfl rfl (j := ((i + 1 : Nat) : Int)) (by show IntKind.i64.wrap ((i : Int) + 1) = _; rw [wi (by omega) (by omega)]; omega) ?_
      refine pI rfl rfl rfl ?_
      refine AOps.done ?_
      exact ⟨(o ++ [t % 4294967296], t / 4294967296, i + 1), ⟨dOk_append.2 ⟨k1, by intro z hz; simp at hz; omega⟩, by simp [k2]; omega, ht ▸ carry_lt k3 hdl, ht ▸ left_step k2 k4 hd1, by simp only; omega⟩, by simp only; omega, (Sub.list (fun _ => 34) rfl rfl ⟨rfl, rfl, rfl, rfl, rfl, rfl, trivial⟩ ⟨rfl, trivial⟩)⟩
    · subst e
      have h13 : (dig a).length ≤ i := by simpa using h19
      have hc : c % 4294967296 = c := by omega
      refine AWp.exit ?_
      refine AWp.seq ?_
      refine AWp.regionN (fun o => writes o) rfl ?_
      refine pO rfl rfl rfl ?_
      refine pI rfl rfl rfl ?_
      refine AOps.i tabOk rfl rfl rfl (w32N c) ?_
      refine AOps.lit tabOk (ys := bl [c % 4294967296]) rfl rfl rfl rfl rfl rfl ?_
      refine AOps.append tabOk rfl rfl rfl rfl rfl rfl rfl rfl rfl rfl rfl (.inl ⟨_, rfl⟩) (by simp [bl_length, maxLen]; omega) (by simp [bl_length, te83]; omega) (bl_append o [c % 4294967296]).symm ?_
      refine pO rfl rfl rfl ?_
      refine AOps.done ?_
      refine AWp.seq ?_
      refine AWp.freeze 5 42 rfl rfl ?_
      refine AWp.regionN (fun _ => false) rfl ?_
      refine pS rfl rfl rfl ?_
      refine AOps.call (trim_fn (o ++ [c % 4294967296]) (dOk_append.2 ⟨k1, by intro d hd; simp at hd; omega⟩) (by simp; omega)) rfl rfl rfl ⟨.inl rfl, trivial⟩ ?_
      refine pS rfl rfl rfl ?_
      refine AOps.done ?_
      refine AWp.ret ?_
      exact ⟨_, rfl, by simp only [fin]; rw [hc, left_end h13 k2 k4]⟩

theorem by_fn (a b : Nat) (ha : (dig a).length ≤ 100000) (hb : (dig b).length ≤ 100000) : AFn prog 58 [.sl 83 1 (bl (dig a)), .sl 83 1 (bl (dig b))] (.sl 83 1 (bl (dig (a * b)))) false := by
  refine AFn.intro' (L := [(0, .dat (.sl 83 1 (bl (dig a)))), (1, .dat (.sl 83 1 (bl (dig b))))]) tabOk Try.func58 rfl rfl Try.ntmps58 rfl rfl rfl ?_
  refine AWp.seq ?_
  refine AWp.regionN (fun _ => false) rfl ?_
  refine pS rfl rfl rfl ?_
  refine AOps.done ?_
  refine AWp.seq ?_
  refine AWp.regionN (fun _ => false) rfl ?_
  refine pS rfl rfl rfl ?_
  refine pI rfl rfl rfl ?_
  refine pS rfl rfl rfl ?_
  refine pI rfl rfl rfl ?_
  refine AOps.i tabOk rfl rfl rfl (j := (((dig a).length + (dig b).length : Nat) : Int)) (by simp only [bl_length]; rw [wi (by omega) (by omega)]; omega) ?_
  refine AOps.i tabOk rfl rfl rfl (j := (((dig a).length + (dig b).length + 1 : Nat) : Int)) (by rw [wi (by omega) (by omega)]; omega) ?_
  refine AOps.makeown tabOk rfl rfl rfl rfl rfl rfl rfl (by omega) (by simp only [te83]; omega) (by omega) (zs := bl (List.replicate ((dig a).length + (dig b).length + 1) 0)) (by simp [bl, te83]; omega) ?_
  refine pO rfl rfl rfl ?_
  refine AOps.done ?_
  refine AWp.seq ?_
  refine AWp.seq ?_
  refine AWp.regionN (fun _ => false) rfl ?_
  refine pI rfl rfl rfl ?_
  refine AOps.done ?_
  refine AWp.block ?_
  refine AWp.loop (I := fun (x : List Nat × Nat) => mkSt [(0, .dat (.sl 83 1 (bl (dig a)))), (1, .dat (.sl 83 1 (bl (dig b)))), (5, .oref 0), (6, .dat (.v (.int .i64 (x.2 : Nat))))] [(0, .row 83 1 (bl x.1))]) (Inv := fun x => dOk x.1 ∧ x.1.length = (dig a).length + (dig b).length + 1 ∧ dval x.1 = dval ((dig a).take x.2) * b ∧ x.2 ≤ (dig a).length) (μ := fun x => 200000 - x.2) (x0 := (List.replicate ((dig a).length + (dig b).length + 1) 0, 0)) ⟨by intro d hd; simp at hd; omega, by simp, by simp [dval, dval_replicate], Nat.zero_le _⟩ (Sub.list (fun _ => 16) rfl rfl ⟨rfl, rfl, rfl, rfl, trivial⟩ ⟨rfl, trivial⟩) (fun ⟨o, i⟩ hx => ?_)
  obtain ⟨k1, k2, k3, k4⟩ := hx
  simp only at k1 k2 k3 k4
  refine AWp.seq ?_
  refine AWp.seq ?_
  refine AWp.regionN (fun _ => false) rfl ?_
  refine pI rfl rfl rfl ?_
  refine pS rfl rfl rfl ?_
  refine pI rfl rfl rfl ?_
  refine AOps.b tabOk rfl rfl rfl (fun c20 h20 => ?_)
  refine AOps.done ?_
  refine AWp.cond rfl (fun e => ?_) (fun e => ?_)
  · subst e
    have h13 : i < (dig a).length := by simpa [bl] using h20
    obtain ⟨d, hd⟩ : ∃ d, (dig a)[i]? = some d := ⟨_, List.getElem?_eq_getElem h13⟩
    have hdl := dOk_dig a d (List.mem_of_getElem? hd)
    have hd1 : (dig a).getD i 0 = d := by simp [List.getD_eq_getElem?_getD, hd]
    obtain ⟨z, hz0⟩ : ∃ z, o[i + (dig b).length]? = some z := ⟨_, List.getElem?_eq_getElem (by omega)⟩
    have hz1 := high_zero hz0 (by rw [k3]; exact take_mul_lt rfl k4)
    subst hz1
    refine AWp.skip ?_
    refine AWp.seq ?_
    refine AWp.block ?_
    refine AWp.seq ?_
    refine AWp.regionN (fun _ => false) rfl ?_
    refine pI rfl rfl rfl ?_
    refine AOps.done ?_
    refine AWp.seq ?_
    refine AWp.seq ?_
    refine AWp.regionN (fun _ => false) rfl ?_
    refine pI rfl rfl rfl ?_
    refine AOps.done ?_
    refine AWp.block ?_
    refine AWp.loop (I := fun (x : List Nat × Nat × Nat) => mkSt [(0, .dat (.sl 83 1 (bl (dig a)))), (1, .dat (.sl 83 1 (bl (dig b)))), (5, .oref 0), (6, .dat (.v (.int .i64 (i : Nat)))), (7, .dat (.v (.int .u64 (x.2.1 : Nat)))), (8, .dat (.v (.int .i64 (x.2.2 : Nat))))] [(0, .row 83 1 (bl x.1))]) (Inv := fun x => dOk x.1 ∧ x.1.length = (dig a).length + (dig b).length + 1 ∧ x.2.1 < 4294967296 ∧ dval x.1 + 4294967296 ^ (i + x.2.2) * x.2.1 = dval ((dig a).take i) * b + 4294967296 ^ i * (d * dval ((dig b).take x.2.2)) ∧ x.1[i + (dig b).length]? = some 0 ∧ x.2.2 ≤ (dig b).length) (μ := fun x => 200000 - x.2.2) (x0 := (o, 0, 0)) ⟨k1, k2, by simp, by simp [dval, k3], hz0, Nat.zero_le _⟩ (Sub.list (fun i => i) rfl rfl ⟨rfl, rfl, rfl, rfl, rfl, rfl, trivial⟩ ⟨rfl, trivial⟩) (fun ⟨p, c, j⟩ hx => ?_)
    obtain ⟨m1, m2, m3, m4, hz, m5⟩ := hx
    simp only at m1 m2 m3 m4 hz m5
    refine AWp.seq ?_
    refine AWp.seq ?_
    refine AWp.regionN (fun _ => false) rfl ?_
    refine pI rfl rfl rfl ?_
    refine pS rfl rfl rfl ?_
    refine pI rfl rfl rfl ?_
    refine AOps.b tabOk rfl rfl rfl (fun c26 h26 => ?_)
    refine AOps.done ?_
    refine AWp.cond rfl (fun e => ?_) (fun e => ?_)
    · subst e
      have h26 : j < (dig b).length := by simpa [bl] using h26
      obtain ⟨e, he⟩ : ∃ e, (dig b)[j]? = some e := ⟨_, List.getElem?_eq_getElem h26⟩
      have hel := dOk_dig b e (List.mem_of_getElem? he)
      have he1 : (dig b).getD j 0 = e := by simp [List.getD_eq_getElem?_getD, he]
      obtain ⟨f, hf⟩ : ∃ f, p[i + j]? = some f := ⟨_, List.getElem?_eq_getElem (by omega)⟩
      have hfl := m1 f (List.mem_of_getElem? hf)
      have hm : d * e ≤ 4294967295 * 4294967295 := Nat.mul_le_mul (by omega) (by omega)
      obtain ⟨t, ht⟩ : ∃ t, t = d * e + f + c := ⟨_, rfl⟩
      refine AWp.skip ?_
      refine AWp.seq ?_
      refine AWp.block ?_
      refine AWp.seq ?_
      refine AWp.regionD (fun _ => false) mixed (by decide +kernel) rfl ?_
      refine pS rfl rfl rfl ?_
      refine pI rfl rfl rfl ?_
      refine AOps.idx tabOk (z := .v (.int .u32 (d : Nat))) rfl rfl rfl rfl rfl rfl rfl rfl (by omega) (by simp only [Int.toNat_natCast]; exact bl_get hd) ?_
      refine pI rfl rfl rfl ?_
      refine AOps.i tabOk rfl rfl rfl (j := ((d : Nat) : Int)) (wu (by omega) (by omega)) ?_
      refine pS rfl rfl rfl ?_
      refine pI rfl rfl rfl ?_
      refine AOps.idx tabOk (z := .v (.int .u32 (e : Nat))) rfl rfl rfl rfl rfl rfl rfl rfl (by omega) (by simp only [Int.toNat_natCast]; exact bl_get he) ?_
      refine pI rfl rfl rfl ?_
      refine AOps.i tabOk rfl rfl rfl (j := ((e : Nat) : Int)) (wu (by omega) (by omega)) ?_
      refine AOps.i tabOk rfl rfl rfl (j := ((d * e : Nat) : Int)) (by rw [← Int.natCast_mul, wu (by omega) (by omega)]) ?_
      refine pO rfl rfl rfl ?_
      refine pI rfl rfl rfl ?_
      refine pI rfl rfl rfl ?_
      refine AOps.i tabOk rfl rfl rfl (j := ((i + j : Nat) : Int)) (by show IntKind.i64.wrap ((i : Int) + j) = _; rw [wi (by omega) (by omega)]; omega) ?_
      refine AOps.idxown tabOk rfl rfl rfl rfl rfl rfl rfl rfl (by omega) (by simp only [bl_length]; omega) (m := i + j) (by omega) ?_
      refine AOps.loadrow tabOk rfl rfl rfl rfl rfl rfl rfl (bl_get hf) rfl ?_
      refine AOps.i tabOk rfl rfl rfl (j := ((f : Nat) : Int)) (wu (by omega) (by omega)) ?_
      refine AOps.i tabOk rfl rfl rfl (j := ((d * e + f : Nat) : Int)) (by rw [wu (by omega) (by omega)]; omega) ?_
      refine pI rfl rfl rfl ?_
      refine AOps.i tabOk rfl rfl rfl (j := ((t : Nat) : Int)) (by show IntKind.u64.wrap (((d * e + f : Nat) : Int) + c) = _; rw [wu (by omega) (by omega)]; omega) ?_
      refine pI rfl rfl rfl ?_
      refine AOps.done ?_
      refine AWp.seq ?_
      refine AWp.regionN (fun o => writes o) rfl ?_
      refine pO rfl rfl rfl ?_
      refine pI rfl rfl rfl ?_
      refine pI rfl rfl rfl ?_
      refine AOps.i tabOk rfl rfl rfl (j := ((i + j : Nat) : Int)) (by show IntKind.i64.wrap ((i : Int) + j) = _; rw [wi (by omega) (by omega)]; omega) ?_
      refine pI rfl rfl rfl ?_
      refine AOps.i tabOk rfl rfl rfl (w32N t) ?_
      refine AOps.idxown tabOk rfl rfl rfl rfl rfl rfl rfl rfl (by omega) (by simp only [bl_length]; omega) (m := i + j) (by omega) ?_
      refine AOps.storerow tabOk rfl rfl rfl rfl rfl rfl rfl rfl (by simp only [bl_length]; omega) rfl rfl rfl (zs := bl (p.set (i + j) (t % 4294967296))) (bl_set ..) ?_
      refine AOps.done ?_
      refine AWp.regionN (fun _ => false) rfl ?_
      refine pI rfl rfl rfl ?_
      refine AOps.i tabOk rfl rfl rfl (j := ((t / 4294967296 : Nat) : Int)) (by simp [IntKind.bits]; rw [Int.fdiv_eq_ediv_of_nonneg _ (by omega)]) ?_
      refine pI rfl rfl rfl ?_
      refine AOps.done ?_
      refine AWp.regionN (fun _ => false) rfl ?_
      refine pI rfl rfl rfl ?_
      refine AOps.i tabOk rfl rfl rfl (j := ((j + 1 : Nat) : Int)) (by show IntKind.i64.wrap ((j : Int) + 1) = _; rw [wi (by omega) (by omega)]; omega) ?_
      refine pI rfl rfl rfl ?_
      refine AOps.done ?_
      exact ⟨(p.set (i + j) (t % 4294967296), t / 4294967296, j + 1), ⟨dOk_set m1 (by omega), by simp [m2], by simp only; omega, by_step hf he1 ht m4, by simp only; rw [List.getElem?_set_ne (by omega)]; exact hz, by simp only; omega⟩, by simp only; omega, (Sub.list (fun i => i) rfl rfl ⟨rfl, rfl, rfl, rfl, rfl, rfl, trivial⟩ ⟨rfl, trivial⟩)⟩
    · subst e
      have h26 : (dig b).length ≤ j := by simpa [bl] using h26
      have hj : j = (dig b).length := by omega
      subst hj
      refine AWp.exit ?_
      refine AWp.regionN (fun o => writes o) rfl ?_
      refine pO rfl rfl rfl ?_
      refine pI rfl rfl rfl ?_
      refine pS rfl rfl rfl ?_
      refine AOps.i tabOk rfl rfl rfl (j := (((dig b).length : Nat) : Int)) (by simp only [bl_length]) ?_
      refine AOps.i tabOk rfl rfl rfl (j := ((i + (dig b).length : Nat) : Int)) (by rw [wi (by omega) (by omega)]; omega) ?_
      refine pI rfl rfl rfl ?_
      refine AOps.i tabOk rfl rfl rfl (w32N c) ?_
      refine AOps.idxown tabOk rfl rfl rfl rfl rfl rfl rfl rfl (by omega) (by simp only [bl_length]; omega) (m := i + (dig b).length) (by omega) ?_
      refine AOps.storerow tabOk rfl rfl rfl rfl rfl rfl rfl rfl (by simp only [bl_length]; omega) rfl rfl rfl (zs := bl (p.set (i + (dig b).length) (c % 4294967296))) (bl_set ..) ?_
      refine AOps.done ?_
      refine AWp.regionN (fun _ => false) rfl ?_
      refine pI rfl rfl rfl ?_
      refine AOps.i tabOk rfl rfl rfl (j := ((i + 1 : Nat) : Int)) (by show IntKind.i64.wrap ((i : Int) + 1) = _; rw [wi (by omega) (by omega)]; omega) ?_
      refine pI rfl rfl rfl ?_
      refine AOps.done ?_
      exact ⟨(p.set (i + (dig b).length) (c % 4294967296), i + 1), ⟨dOk_set m1 (by omega), by simp [m2], by_end rfl m3 hz (hd1 ▸ rfl) (hd1 ▸ m4), by simp only; omega⟩, by simp only; omega, (Sub.list (fun i => i) rfl rfl ⟨rfl, rfl, rfl, rfl, trivial⟩ ⟨rfl, trivial⟩)⟩
  · subst e
    have h13 : (dig a).length ≤ i := by simpa [bl] using h20
    refine AWp.exit ?_
    refine AWp.seq ?_
    refine AWp.freeze 5 0 rfl rfl ?_
    refine AWp.regionN (fun _ => false) rfl ?_
    refine pS rfl rfl rfl ?_
    refine AOps.call (trim_fn o k1 (by omega)) rfl rfl rfl ⟨.inl rfl, trivial⟩ ?_
    refine pS rfl rfl rfl ?_
    refine AOps.done ?_
    refine AWp.ret ?_
    exact ⟨_, rfl, by simp only [fin]; rw [k3, List.take_of_length_le h13, dval_dig]⟩

end Go.Sim.Ytnhflokfcnfegaa
