/- What is proved: the step rules for slices: literals, make, append, places in them, parts of them. -/
import Derived.Test.YtnhflokfcnfegaaSim18
namespace Go.Sim
open Go.RowKit

section
variable {P : Program} {T : Tab} {σ : St}

/-! ### Literals and make -/

theorem zeros_rep {w : World} {S : Nat → Prop} {z : DV} {cs : List Value} (h : RepD w S z cs) : ∀ n : Nat, RepF w S (List.replicate n z) (List.replicate n cs.length) (List.replicate n cs).flatten
  | 0 => by simp [RepF]
  | n + 1 => by
    simp only [List.replicate_succ, List.flatten_cons, RepF]
    exact ⟨_, _, _, _, rfl, rfl, rfl, h, zeros_rep h n⟩

theorem madeCells_flat (z : Array Value) (n : Nat) : (madeCells z (n * z.size)).toList = (List.replicate n z.toList).flatten := by
  unfold madeCells
  apply List.ext_getElem?
  intro i
  simp only [Array.toList_map, Array.toList_range, List.getElem?_map]
  by_cases hi : i < n * z.size
  · have hz : 0 < z.size := by
      rcases Nat.eq_zero_or_pos z.size with h | h
      · rw [h] at hi; simp at hi
      · exact h
    rw [List.getElem?_range hi]
    have hm : i % z.size < z.size := Nat.mod_lt _ hz
    have key : ∀ (n i : Nat), i < n * z.size → (List.replicate n z.toList).flatten[i]? = some (z[i % z.size]'(Nat.mod_lt _ hz)) := by
      intro n
      induction n with
      | zero => intro i hi; simp at hi
      | succ n ih =>
        intro i hi
        rw [List.replicate_succ, List.flatten_cons]
        by_cases h1 : i < z.size
        · rw [List.getElem?_append_left (by simpa using h1)]
          simp [Nat.mod_eq_of_lt h1, h1]
        · rw [List.getElem?_append_right (by simpa using h1)]
          rw [Nat.add_mul, Nat.one_mul] at hi
          rw [ih _ (by simp; omega)]
          simp only [Array.length_toList]
          congr 2
          exact (Nat.mod_eq_sub_mod (by omega)).symm
    rw [key n i hi]
    simp [hm]
  · have hlen : (List.replicate n z.toList).flatten.length = n * z.size := by simp
    rw [List.getElem?_eq_none (by simp; omega), List.getElem?_eq_none (by omega)]
    rfl

def buildS (T : Tab) (E : TypeId) (sz : Nat) (σ : St) : List (Nat × Operand) → List DV → Option (List DV)
  | [], xs => some xs
  | (i, x) :: ps, xs =>
    match nilT T E (ev σ x), xs[i]? with
    | .dat d, some _ => if (AV.dat d).lies && Nat.beq d.len sz then buildS T E sz σ ps (xs.set i d) else none
    | _, _ => none

theorem buildS_congr {E : TypeId} {sz : Nat} {σ σ' : St} : ∀ (ps : List (Nat × Operand)) (xs : List DV), (∀ p ∈ ps, ev σ' p.2 = ev σ p.2) → buildS T E sz σ' ps xs = buildS T E sz σ ps xs
  | [], _, _ => rfl
  | (i, x) :: ps, xs, h => by
    have h1 := h (i, x) (by simp)
    simp only at h1
    simp only [buildS, h1]
    split
    · split
      · exact buildS_congr ps _ (fun p hp => h p (by simp [hp]))
      · rfl
    · rfl

theorem buildS_run {B F : Nat → Prop} {w0 w : World} {n : Nat} {a : Act} {g : Gh} (r : RelG B F w0 n σ a w g) {E : TypeId} {sz : Nat} :
    ∀ (ps : List (Nat × Operand)) (xs ys : List DV) (cells : Array Value), RepF w g.S xs (List.replicate xs.length sz) cells.toList → buildS T E sz σ ps xs = some ys →
      ∃ cells', Instr.fill (fun i => some (i * sz, sz)) cells (ps.map fun p => (p.1, a.eval p.2)) = some cells' ∧ ys.length = xs.length ∧ RepF w g.S ys (List.replicate ys.length sz) cells'.toList ∧ cells'.size = cells.size
  | [], xs, ys, cells, h, hb => by simp only [buildS, Option.some.injEq] at hb; subst hb; exact ⟨cells, rfl, rfl, h, rfl⟩
  | (i, x) :: ps, xs, ys, cells, h, hb => by
    simp only [buildS] at hb
    split at hb
    · rename_i d z hd hz
      split at hb
      · rename_i hc
        simp only [Bool.and_eq_true] at hc
        obtain ⟨c1, c2⟩ := hc
        have c2 := Nat.eq_of_beq_eq_true c2
        have hS := nilT_rep (T := T) (t := E) (ev_rep r x)
        rw [hd] at hS
        obtain ⟨hcells, _, _⟩ := RepS.cells r.hv hS c1
        have hlen : (a.eval x).cells.size = sz := by have := RepA.len hcells; simp only [AV.len, Array.length_toList] at this; omega
        have hi : i < xs.length := (List.getElem?_eq_some_iff.1 hz).1
        obtain ⟨d1, d2, d3, m, hm, e, hl1, hl2, hdd, hput⟩ := RepF.at h hz
        rw [take_replicate_sum _ _ _ (Nat.le_of_lt hi)] at hl1
        have hm' : m = sz := by simp only [List.getElem?_replicate, hi, if_true, Option.some.injEq] at hm; exact hm.symm
        have hfit : i * sz + (a.eval x).cells.size ≤ cells.size := by
          have := congrArg List.length e
          simp only [List.length_append, Array.length_toList] at this
          omega
        have hset := foldl_set (a.eval x).cells.toList (i * sz) 0 cells (by simpa using hfit)
        simp only [Nat.add_zero, Array.length_toList] at hset
        have hnew : RepF w g.S (xs.set i d) (List.replicate (xs.set i d).length sz) (((a.eval x).cells.toList.zipIdx 0).foldl (fun cs (p : Value × Nat) => cs.setIfInBounds (i * sz + p.2) p.1) cells).toList := by
          rw [hset]
          have := hput w g.S d (a.eval x).cells.toList (fun _ _ h => h) (by simp only [Array.length_toList]; omega) hcells
          rw [e]
          rw [show (d1 ++ d2 ++ d3).take (i * sz) = d1 by rw [← hl1, List.append_assoc]; simp]
          rw [show (d1 ++ d2 ++ d3).drop (i * sz + (a.eval x).cells.size) = d3 by rw [← hl1, show (a.eval x).cells.size = d2.length by omega, ← List.length_append]; simp]
          simpa using this
        obtain ⟨cells', h1, h2, h3, h4⟩ := buildS_run r ps _ ys _ hnew hb
        have hsz : (((a.eval x).cells.toList.zipIdx 0).foldl (fun cs (p : Value × Nat) => cs.setIfInBounds (i * sz + p.2) p.1) cells).size = cells.size := by
          rw [← Array.length_toList, hset]
          simp only [List.length_append, List.length_take, List.length_drop, Array.length_toList]
          omega
        refine ⟨cells', ?_, by simpa using h2, h3, h4.trans hsz⟩
        simp only [List.map_cons, Instr.fill]
        rw [if_neg (by simp only [Bool.or_eq_true, decide_eq_true_eq, not_or]; exact ⟨by simpa using hlen, by omega⟩)]
        have hz : (a.eval x).cells.zipIdx.foldl (fun cs (x : Value × Nat) => match x with | (c, j) => cs.setIfInBounds (i * sz + j) c) cells = ((a.eval x).cells.toList.zipIdx 0).foldl (fun cs (p : Value × Nat) => cs.setIfInBounds (i * sz + p.2) p.1) cells := by
          rw [← Array.foldl_toList, Array.toList_zipIdx]
        rw [hz]
        exact h1
      · cases hb
    · cases hb

theorem madeCells_eq (z : Array Value) (n : Nat) : (Array.range n).map (z[· % z.size]!) = madeCells z n := rfl

theorem run_buildSlice (hT : TabOk P T) {B F : Nat → Prop} {w0 w : World} {n : Nat} {a : Act} {g : Gh} (r : RelG B F w0 n σ a w g) {t : TypeId} {m : Nat} {ps : Array (Nat × Operand)} {E : TypeId} {te : TE} {ys : List DV}
    (hs : slE T t = some (E, te)) (hm : m * te.size ≤ 16777216) (hb : buildS T E te.size σ ps.toList (List.replicate m te.zero) = some ys) :
    ∃ cs : Array Value, (Instr.buildSlice t m (ps.map fun (i, x) => (i, a.eval x))).run P w = .ok (.slice (some ⟨w.heap.size, 0, none⟩) m m) (w.alloc (.cells cs E)) ∧
      ys.length = m ∧ RepF w g.S ys (List.replicate ys.length te.size) cs.toList ∧ cs.size = m * te.size := by
  obtain ⟨hu, hE, _⟩ := slE_ok hT hs
  obtain ⟨z, hz, hzU, hzs, hzl⟩ := run_zero hE w g.S
  have hsz := run_sizeOf hE w
  have hz0 := zeros_rep (hzU.cells) m
  have hcl : z.cells.toList.length = te.size := by simpa using hzs
  rw [hcl] at hz0
  have hinit : RepF w g.S (List.replicate m te.zero) (List.replicate (List.replicate m te.zero).length te.size) (madeCells z.cells (m * te.size)).toList := by
    rw [← hzs, madeCells_flat, List.length_replicate, hzs]; exact hz0
  obtain ⟨cells', h1, h2, h3, h4⟩ := buildS_run r ps.toList _ ys _ hinit hb
  refine ⟨cells', ?_, by simpa using h2, h3, by rw [h4, size_madeCells]⟩
  have e2 : (ps.map fun (x : Nat × Operand) => (x.1, a.eval x.2)).toList = ps.toList.map fun p => (p.1, a.eval p.2) := by simp
  have h24 : ¬ (m * te.size > 2 ^ 24) := by omega
  unfold Instr.buildSlice
  simp only [Sem.run_bind, run_underlying hu, Result.andThen_ok, hsz]
  rw [if_neg h24]
  by_cases h0 : m * te.size = 0
  · have hmz : madeCells z.cells 0 = #[] := by simp [madeCells, Array.range_zero']
    rw [h0, hmz] at h1
    simp only [h0, if_true, Array.range_zero', e2]
    simp [h1, newRow]
  · simp only [h0, if_false]
    simp only [Sem.run_bind, Sem.run_pure, hz, Result.andThen_ok, madeCells_eq, e2, h1]
    simp [newRow]

end
end Go.Sim
