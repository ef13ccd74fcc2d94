/- What is proved: places inside abstract values; the state's relation when a slot is written, memory is made, or a cell of an own object is written. -/
import Derived.Test.YtnhflokfcnfegaaSim3
namespace Go.Sim
open Go.RowKit

theorem locA_dat (x : DV) (p : List Pa) (off : Nat) : locA (.dat x) p off = match locD x p off with | some (o, y) => some (o, .dat y) | none => none := by
  cases p with
  | nil => simp [locA, locD]
  | cons s p => rfl

theorem refs_setF (ns : List Nat) (xs : List DV) (i : Nat) (z : AV) (k : Nat) (h : (setF ns xs i z).refs k) : z.refs k := by
  cases z <;> simp only [setF, AV.refs] at h ⊢
  all_goals
    revert i
    induction xs with
    | nil => intro i h; simp [AV.refs.refsL] at h
    | cons x xs ih =>
      intro i h
      cases i with
      | zero =>
        simp only [List.map_cons, List.set_cons_zero, AV.refs.refsL] at h
        rcases h with h | h
        · first | exact h | (simp only [AV.refs] at h; exact h)
        · exfalso
          clear ih
          induction xs with
          | nil => simp [AV.refs.refsL] at h
          | cons y ys ih => simp only [List.map_cons, AV.refs.refsL, AV.refs, false_or] at h; exact ih h
      | succ i =>
        simp only [List.map_cons, List.set_cons_succ, AV.refs.refsL, AV.refs, false_or] at h
        exact ih i h

theorem refsL_mem : ∀ {xs : List AV} {z : AV} {k : Nat}, z ∈ xs → z.refs k → AV.refs.refsL xs k
  | x :: xs, z, k, hz, h => by
    simp only [AV.refs.refsL]
    rcases List.mem_cons.1 hz with rfl | hz
    · exact .inl h
    · exact .inr (refsL_mem hz h)

theorem refsL_set : ∀ {xs : List AV} {i : Nat} {y : AV} {k : Nat}, AV.refs.refsL (xs.set i y) k → AV.refs.refsL xs k ∨ y.refs k
  | [], _, _, _, h => by simp [AV.refs.refsL] at h
  | x :: xs, 0, y, k, h => by
    simp only [List.set_cons_zero, AV.refs.refsL] at h ⊢
    rcases h with h | h
    · exact .inr h
    · exact .inl (.inr h)
  | x :: xs, i + 1, y, k, h => by
    simp only [List.set_cons_succ, AV.refs.refsL] at h ⊢
    rcases h with h | h
    · exact .inl (.inl h)
    · rcases refsL_set h with h | h
      · exact .inl (.inr h)
      · exact .inr h

theorem RepA.setF {w : World} {g : Gh} {ns : List Nat} {xs : List DV} {i : Nat} {z : AV} {cs : List Value} (h : RepAF w g ((xs.map .dat).set i z) ns cs) : RepA w g (setF ns xs i z) cs := by
  cases z with
  | dat d =>
    simp only [Sim.setF, RepA, RepD]
    have : (xs.map AV.dat).set i (.dat d) = (xs.set i d).map .dat := by rw [List.map_set]
    rw [this] at h
    clear this
    generalize xs.set i d = ys at h
    clear xs i d
    induction ys generalizing ns cs with
    | nil => simpa only [RepF, RepAF, List.map_nil] using h
    | cons y ys ih =>
      simp only [List.map_cons, RepAF, RepF, RepA] at h ⊢
      obtain ⟨n, ns', c1, c2, e1, e2, e3, h1, h2⟩ := h
      exact ⟨n, ns', c1, c2, e1, e2, e3, h1, ih h2⟩
  | _ => simpa only [Sim.setF, RepA] using h

theorem RepA.loc {w : World} {g : Gh} : ∀ (p : List Pa) (x : AV) (cs : List Value) (off off' : Nat) (y : AV), RepA w g x cs → locA x p off = some (off', y) →
    ∃ c1 c2 c3, cs = c1 ++ c2 ++ c3 ∧ off' = off + c1.length ∧ RepA w g y c2 ∧ (∀ k, y.refs k → x.refs k) ∧
      ∀ w' g' y' c2' x', (∀ z c, (∀ k, z.refs k → x.refs k) → RepA w g z c → RepA w' g' z c) → c2'.length = c2.length → RepA w' g' y' c2' → putA x p y' = some x' →
        RepA w' g' x' (c1 ++ c2' ++ c3) ∧ ∀ k, x'.refs k → x.refs k ∨ y'.refs k
  | [], x, cs, off, off', y, h, hl => by
    simp only [locA, Option.some.injEq, Prod.mk.injEq] at hl
    obtain ⟨rfl, rfl⟩ := hl
    refine ⟨[], cs, [], by simp, by simp, h, fun _ h => h, ?_⟩
    intro w' g' y' c2' x' _ _ hy hp
    simp only [putA, Option.some.injEq] at hp
    subst hp
    exact ⟨by simpa using hy, fun _ h => .inr h⟩
  | .fld i :: p, .dat (.st ns xs), cs, off, off', y, h, hl => by
    rw [locA_dat] at hl
    simp only [locD] at hl
    cases hz : xs[i]? with
    | none => simp [hz] at hl
    | some z =>
      simp only [hz] at hl
      rw [← locA_dat] at hl
      have hF := RepAF.of_F (w := w) (g := g) h
      have hz' : (xs.map AV.dat)[i]? = some (.dat z) := by simp [hz]
      obtain ⟨c1, c2, c3, n, hn, e, hl1, hl2, hd, hput⟩ := RepAF.at hF hz'
      obtain ⟨d1, d2, d3, e2, ho, hd2, hrf, hput2⟩ := RepA.loc p (.dat z) c2 _ off' y hd hl
      refine ⟨c1 ++ d1, d2, d3 ++ c3, by simp [e, e2], by simp [ho, hl1]; omega, hd2, fun k hk => by have := hrf k hk; simp [AV.refs] at this, ?_⟩
      intro w' g' y' c2' x' hfr hlen hy hp
      simp only [putA, hz] at hp
      split at hp
      · rename_i z' hz2
        simp only [Option.some.injEq] at hp
        subst hp
        obtain ⟨k1, k2⟩ := hput2 w' g' y' c2' z' (fun z c hz hr => hfr z c (fun k hk => by have := hz k hk; simp [AV.refs] at this) hr) hlen hy hz2
        have := hput (fun z => ∀ k, ¬ z.refs k) w' g' z' (d1 ++ c2' ++ d3) (fun z hz k => by simp at hz; obtain ⟨a, _, rfl⟩ := hz; simp [AV.refs]) (fun z c hz hr => hfr z c (fun k hk => absurd hk (hz k)) hr) (by rw [← hl2, e2]; simp [hlen]) k1
        refine ⟨?_, fun k hk => ?_⟩
        · have := RepA.setF this
          simpa using this
        · have := refs_setF _ _ _ _ _ hk
          rcases k2 k this with h | h
          · simp [AV.refs] at h
          · exact .inr h
      · cases hp
  | .idx i :: p, .dat (.ar sz xs), cs, off, off', y, h, hl => by
    rw [locA_dat] at hl
    cases hh : locD (.ar sz xs) (.idx i :: p) off with
    | none => simp [hh] at hl
    | some r =>
      obtain ⟨o, y0⟩ := r
      simp only [hh, Option.some.injEq, Prod.mk.injEq] at hl
      obtain ⟨rfl, rfl⟩ := hl
      obtain ⟨c1, c2, c3, e, ho, hd, hput⟩ := RepD.loc (S := g.S) (.idx i :: p) (.ar sz xs) cs off o y0 h hh
      refine ⟨c1, c2, c3, e, ho, hd, fun k hk => by simp [AV.refs] at hk, ?_⟩
      intro w' g' y' c2' x' hfr hlen hy hp
      cases y' with
      | dat d =>
        simp only [putA] at hp
        split at hp
        · rename_i z hz
          simp only [Option.some.injEq] at hp
          subst hp
          exact ⟨hput w' g'.S d c2' z (fun z c hr => hfr (.dat z) c (fun k hk => by simp [AV.refs] at hk) hr) hlen hy hz, fun k hk => by simp [AV.refs] at hk⟩
        · cases hp
      | _ => simp [putA] at hp
  | .fld i :: p, .st ns xs, cs, off, off', y, h, hl => by
    simp only [locA] at hl
    cases hz : xs[i]? with
    | none => simp [hz] at hl
    | some z =>
      simp only [hz] at hl
      simp only [RepA] at h
      have hmem : z ∈ xs := List.mem_of_getElem? hz
      obtain ⟨c1, c2, c3, n, hn, e, hl1, hl2, hd, hput⟩ := RepAF.at h hz
      obtain ⟨d1, d2, d3, e2, ho, hd2, hrf, hput2⟩ := RepA.loc p z c2 _ off' y hd hl
      refine ⟨c1 ++ d1, d2, d3 ++ c3, by simp [e, e2], by simp [ho, hl1]; omega, hd2, fun k hk => by simp only [AV.refs]; exact refsL_mem hmem (hrf k hk), ?_⟩
      intro w' g' y' c2' x' hfr hlen hy hp
      simp only [putA, hz] at hp
      split at hp
      · rename_i z' hz2
        simp only [Option.some.injEq] at hp
        subst hp
        obtain ⟨k1, k2⟩ := hput2 w' g' y' c2' z' (fun v c hv hr => hfr v c (fun k hk => by simp only [AV.refs]; exact refsL_mem hmem (hv k hk)) hr) hlen hy hz2
        have := hput (fun v => v ∈ xs) w' g' z' (d1 ++ c2' ++ d3) (fun z hz => hz) (fun v c hv hr => hfr v c (fun k hk => by simp only [AV.refs]; exact refsL_mem hv hk) hr) (by rw [← hl2, e2]; simp [hlen]) k1
        refine ⟨by simp only [RepA]; simpa using this, fun k hk => ?_⟩
        simp only [AV.refs] at hk ⊢
        rcases refsL_set hk with h | h
        · exact .inl h
        · rcases k2 k h with h | h
          · exact .inl (refsL_mem hmem h)
          · exact .inr h
      · cases hp
  | .fld _ :: _, .dat (.v _), _, _, _, _, _, hl => by simp [locA, locD] at hl
  | .fld _ :: _, .dat (.ar ..), _, _, _, _, _, hl => by simp [locA, locD] at hl
  | .fld _ :: _, .dat (.sl ..), _, _, _, _, _, hl => by simp [locA, locD] at hl
  | .fld _ :: _, .dat (.tup _), _, _, _, _, _, hl => by simp [locA, locD] at hl
  | .idx _ :: _, .dat (.v _), _, _, _, _, _, hl => by simp [locA, locD] at hl
  | .idx _ :: _, .dat (.st ..), _, _, _, _, _, hl => by simp [locA, locD] at hl
  | .idx _ :: _, .dat (.sl ..), _, _, _, _, _, hl => by simp [locA, locD] at hl
  | .idx _ :: _, .dat (.tup _), _, _, _, _, _, hl => by simp [locA, locD] at hl
  | .idx _ :: _, .st .., _, _, _, _, _, hl => by simp [locA] at hl
  | .fld _ :: _, .oref _, _, _, _, _, _, hl => by simp [locA] at hl
  | .idx _ :: _, .oref _, _, _, _, _, _, hl => by simp [locA] at hl
  | .fld _ :: _, .pt .., _, _, _, _, _, hl => by simp [locA] at hl
  | .idx _ :: _, .pt .., _, _, _, _, _, hl => by simp [locA] at hl
  | .fld _ :: _, .sp _, _, _, _, _, _, hl => by simp [locA] at hl
  | .idx _ :: _, .sp _, _, _, _, _, _, hl => by simp [locA] at hl
  | .fld _ :: _, .dead, _, _, _, _, _, hl => by simp [locA] at hl
  | .idx _ :: _, .dead, _, _, _, _, _, hl => by simp [locA] at hl

end Go.Sim
