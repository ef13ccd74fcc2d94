/- What is proved: loads and stores through an address of the reader's own, and through one of shared memory. -/
import Derived.Test.YtnhflokfcnfegaaSim7
namespace Go.Sim
open Go.RowKit

def AV.agg : AV → Bool
  | .dat x => x.agg
  | .st .. => true
  | _ => false

/-- May it lie in memory, and in a slot? -/
def AV.lies : AV → Bool
  | .dat (.tup _) => false
  | .dead => false
  | _ => true

theorem RepS.cells {w : World} {g : Gh} (hv : ∀ i, (g.hdr i).oneCell' = true) {x : AV} {u : Value} (h : RepS w g x u) (hl : x.lies = true) : RepA w g x u.cells.toList ∧ (x.agg = true → ∃ cs, u = .agg cs) ∧ (x.agg = false → u.cells = #[u]) := by
  cases x with
  | dat x =>
    have ht : ∀ xs, x ≠ .tup xs := fun xs e => by subst e; simp [AV.lies] at hl
    have hu := RepV.u h ht
    refine ⟨RepU.cells hu, ?_, ?_⟩
    · intro ha
      rcases hu with ⟨_, cs, rfl, _⟩ | ⟨hb, _⟩
      · exact ⟨_, rfl⟩
      · simp only [AV.agg] at ha; rw [ha] at hb; cases hb
    · intro ha
      rcases hu with ⟨hb, _⟩ | ⟨_, hd⟩
      · simp only [AV.agg] at ha; rw [ha] at hb; cases hb
      · have := RepD.one _ _ hd u (by simp)
        cases u <;> simp_all [Value.oneCell', Value.cells]
  | st ns xs => obtain ⟨cs, rfl, hd⟩ := h; exact ⟨by simpa [Value.cells] using hd, fun _ => ⟨_, rfl⟩, fun ha => by simp [AV.agg] at ha⟩
  | oref id =>
    simp only [RepS] at h; subst h
    have h1 := hv id
    have : (g.hdr id).cells = #[g.hdr id] := by cases hh : g.hdr id <;> simp_all [Value.oneCell', Value.cells]
    simp [this, RepA, AV.agg]
  | pt id p off => simp only [RepS] at h; subst h; simp [Value.cells, RepA, AV.agg]
  | sp x => simp only [RepS] at h; have h' := h; simp only [RepA] at h; obtain ⟨b, o, ds, e, _⟩ := h; simp at e; subst e; exact ⟨by simpa [Value.cells] using h', fun ha => by simp [AV.agg] at ha, fun _ => rfl⟩
  | dead => simp [AV.lies] at hl

theorem RepA.toS {w : World} {g : Gh} {x : AV} {cs : List Value} (h : RepA w g x cs) : x.agg = true ∧ RepS w g x (.agg cs.toArray) ∨ x.agg = false ∧ ∃ u, cs = [u] ∧ RepS w g x u := by
  cases x with
  | dat x =>
    cases x with
    | v x => simp only [RepA, RepD] at h; obtain ⟨rfl, h⟩ := h; exact .inr ⟨rfl, x, rfl, by simp [RepS, RepV, RepD, h]⟩
    | st ns xs => exact .inl ⟨rfl, ⟨cs, rfl, h⟩⟩
    | ar ns xs => exact .inl ⟨rfl, ⟨cs, rfl, h⟩⟩
    | sl E sz xs => have h' := h; simp only [RepA, RepD] at h; obtain ⟨a, c, row, rfl, _⟩ := h; exact .inr ⟨rfl, _, rfl, h'⟩
    | tup xs => simp only [RepA, RepD] at h
    | pd x => have h' := h; simp only [RepA, RepD] at h; obtain ⟨b, o, ds, rfl, _⟩ := h; exact .inr ⟨rfl, _, rfl, h'⟩
    | fn f xs => have h' := h; simp only [RepA, RepD] at h; obtain ⟨vs, rfl, _⟩ := h; exact .inr ⟨rfl, _, rfl, h'⟩
  | st ns xs => exact .inl ⟨rfl, ⟨cs, rfl, h⟩⟩
  | oref id => exact .inr ⟨rfl, _, h, rfl⟩
  | pt id p off => exact .inr ⟨rfl, _, h, rfl⟩
  | sp x => have h' := h; simp only [RepA] at h; obtain ⟨b, o, ds, rfl, _⟩ := h; exact .inr ⟨rfl, _, rfl, h'⟩
  | dead => simp only [RepA] at h; obtain ⟨u, rfl, _⟩ := h; exact .inr ⟨rfl, u, rfl, trivial⟩

theorem run_isAgg {P : Program} {t : TypeId} {te : TE} (h : EntryOk P t te) (w : World) : (isAgg t).run P w = .ok te.d.agg w := by
  obtain ⟨i, d, z, h1, h2, h3, _⟩ := h
  unfold isAgg
  rw [Sem.run_bind, run_underlying h2]
  generalize te.d = td at *
  cases td <;> cases d <;> simp only [TyD.ok] at h3 <;> first | exact h3.elim | rfl

theorem run_sizeOf {P : Program} {t : TypeId} {te : TE} (h : EntryOk P t te) (w : World) : (sizeOf t).run P w = .ok te.size w := by
  obtain ⟨i, d, z, h1, h2, h3, h4, _⟩ := h
  simp [sizeOf, typeInfo, h1, h4]

theorem run_zero {P : Program} {t : TypeId} {te : TE} (h : EntryOk P t te) (w : World) (S : Nat → Prop) : ∃ z, (zeroValue t).run P w = .ok z w ∧ RepU w S te.zero z ∧ z.cells.size = te.size ∧ te.zero.len = te.size := by
  obtain ⟨i, d, z, h1, h2, h3, h4, h5, h6, h7, h8, h9, h10⟩ := h
  refine ⟨z, by simp [zeroValue, typeInfo, h1, h6], RepU.of_flat h7 h8 h9, ?_, h10⟩
  have := RepD.len (RepD.of_flat (w := w) (S := S) _ _ h7)
  simpa [h10] using this

theorem addr_add (b o j : Nat) : (⟨b, o, none⟩ : Addr).add j = ⟨b, o + j, none⟩ := by unfold Addr.add; split <;> simp_all

/-- A load of what lies at an address. -/
theorem run_load_at {P : Program} {t : TypeId} {te : TE} (h : EntryOk P t te) {w : World} {g : Gh} {y : AV} {cs : List Value} {b o : Nat} (hy : RepA w g y cs)
    (hc : ∀ j u, cs[j]? = some u → w.cell? ⟨b, o + j, none⟩ = some u) (ha : te.d.agg = y.agg) (hs : y.agg = true → te.size = y.len) :
    ∃ u, (Instr.loadAt t (.pointer (some ⟨b, o, none⟩))).run P w = .ok u w ∧ RepS w g y u := by
  have hag := run_isAgg h w
  have hsz := run_sizeOf h w
  rcases RepA.toS hy with ⟨h1, h2⟩ | ⟨h1, u, rfl, h2⟩
  · refine ⟨_, ?_, h2⟩
    have hl : cs.length = te.size := by rw [hs h1]; exact RepA.len hy
    have hld := run_loadCells_list (P := P) w ⟨b, o, none⟩ cs (fun j v hv => by rw [addr_add]; exact hc j v hv)
    rw [hl] at hld
    simp [Instr.loadAt, Instr.sureAddr, loadVar, hag, ha, h1, hsz, hld]
  · refine ⟨u, ?_, h2⟩
    have := hc 0 u rfl
    simp only [Nat.add_zero] at this
    simp [Instr.loadAt, Instr.sureAddr, loadVar, hag, ha, h1, this]

/-- A store into an own block. -/
theorem run_store_at {P : Program} {t : TypeId} {te : TE} (h : EntryOk P t te) {w : World} {b o : Nat} {T : TypeId} {cur : Array Value} {u : Value} {cs : List Value}
    (hcur : w.heap[b]? = some (.cells cur T (0, 0))) (hu : u.cells.toList = cs) (hl : cs.length = te.size) (ho : o + cs.length ≤ cur.size) (h1 : ∀ v ∈ cs, v.oneCell' = true) :
    (Instr.storeAt t (.pointer (some ⟨b, o, none⟩)) u).run P w = .ok () (w.setRow b (cur.toList.take o ++ cs ++ cur.toList.drop (o + cs.length)).toArray) := by
  have hsz := run_sizeOf h w
  have hst := run_storeCells_at P b o T cs 0 cur w hcur (by simpa using ho) h1
  have hlen : u.cells.size = te.size := by rw [← hl, ← hu]; simp
  simp only [Nat.add_zero] at hst
  simp [Instr.storeAt, Instr.sureAddr, storeVar, hsz, hlen, hu, hst]

end Go.Sim
