/- What is proved: what a statement's arguments are, read from memory, as closed data of their types. -/
import Derived.Test.YtlkpbnhinnhlfaaGreatZLFBig
import Derived.OpenShut
import Derived.Carry
import Derived.WalkKit
import Derived.ProofKit
import Derived.Test.YtlkpbnhinnhlfaaGreatZLFSimD

namespace Go.Sim
open Go.RowKit
mutual
/-- A datum that fits a type. -/
def Conf (T : Tab) : DV → TypeId → Prop
  | .v x, t => ∃ te, tget T t = some te ∧ match te.d, x with
    | .int k, .int k' n => k' = k ∧ k.min ≤ n ∧ n ≤ k.max
    | .bool, .bool _ => True
    | .str, .string s => s.size ≤ maxLen
    | .flt k, .float k' b => k' = k ∧ (Lit.float k b).wf = true
    | _, _ => False
  | .st ns xs, t => ∃ te fs, tget T t = some te ∧ te.d = .struct fs ∧ ConfF T xs ns fs
  | .ar sz xs, t => ∃ te n e ee, tget T t = some te ∧ te.d = .arr n e ∧ tget T e = some ee ∧ sz = ee.size ∧ xs.length = n ∧ ConfL T xs e
  | .sl E sz xs, t => ∃ te ee, tget T t = some te ∧ te.d = .slice E ∧ tget T E = some ee ∧ sz = ee.size ∧ xs.length ≤ maxLen ∧ ConfL T xs E
  | .tup _, _ => False
  | .pd _, _ => False
  | .fn .., _ => False
  | .mp .., _ => False
  | .any _, _ => False
def ConfF (T : Tab) : List DV → List Nat → List (Nat × TypeId) → Prop
  | [], [], [] => True
  | x :: xs, n :: ns, f :: fs => (∃ te, tget T f.2 = some te ∧ te.size = n) ∧ Conf T x f.2 ∧ ConfF T xs ns fs
  | _, _, _ => False
def ConfL (T : Tab) : List DV → TypeId → Prop
  | [], _ => True
  | x :: xs, t => Conf T x t ∧ ConfL T xs t
end
/-- Fields lie one behind the other, and fill what there is. -/
def contig (T : Tab) (good : List TypeId) : List (Nat × TypeId) → Nat → Nat → Bool
  | [], off, sz => Nat.beq off sz
  | f :: fs, off, sz => Nat.beq f.1 off && good.contains f.2 && (match tget T f.2 with | some te => contig T good fs (off + te.size) sz | none => false)
/-- Types that are served, with all that they hold. -/
def goodB (T : Tab) (good : List TypeId) : Bool := good.all fun t => match tget T t with
  | some te => match te.d with
    | .int _ | .bool | .str | .flt _ => Nat.beq te.size 1
    | .slice e => Nat.beq te.size 1 && good.contains e
    | .arr n e => good.contains e && (match tget T e with | some ee => Nat.beq te.size (n * ee.size) | none => false)
    | .struct fs => contig T good fs 0 te.size
    | _ => false
  | none => false
section
variable {P : Program} {N : Value → Prop} {T : Tab} {H : Type} {enc : TypeId × Value → H} {w : World}
theorem addr_assoc (a : Addr) (i j : Nat) : (a.add i).add j = a.add (i + j) := by
  unfold Addr.add
  by_cases hi : i = 0
  · subst hi; simp
  · by_cases hj : j = 0
    · subst hj; simp [hi]
    · simp [hi, hj, Nat.add_assoc]
theorem cellsOf_ok {t : TypeId} {te : TE} (h : EntryOk P t te) : P.cellsOf t = te.size := by
  obtain ⟨i, d, z, h1, _, _, h4, _⟩ := h
  simp [Program.cellsOf, h1, h4]
theorem goodB_spec {good : List TypeId} (hg : goodB T good = true) {t : TypeId} (ht : t ∈ good) : ∃ te, tget T t = some te ∧ match te.d with
    | .int _ | .bool | .str | .flt _ => te.size = 1
    | .slice e => te.size = 1 ∧ e ∈ good
    | .arr n e => e ∈ good ∧ ∃ ee, tget T e = some ee ∧ te.size = n * ee.size
    | .struct fs => contig T good fs 0 te.size = true
    | _ => False := by
  have := List.all_eq_true.1 hg t ht
  split at this
  · rename_i te hte
    refine ⟨te, hte, ?_⟩
    cases hd : te.d <;> rw [hd] at this <;> simp only [] at this ⊢ <;> first
      | (exact Nat.eq_of_beq_eq_true this)
      | (simp only [Bool.and_eq_true] at this; exact ⟨Nat.eq_of_beq_eq_true this.1, by simpa using this.2⟩)
      | (simp only [Bool.and_eq_true] at this
         obtain ⟨h1, h2⟩ := this
         split at h2
         · rename_i ee hee; exact ⟨by simpa using h1, ee, hee, Nat.eq_of_beq_eq_true h2⟩
         · cases h2)
      | exact this
      | (cases this)
  · cases this
theorem cells_row {e : TypeId} {sz : Nat} {f : List Value → Option (DataW H × List MemPlace)} {a : Addr} (hr : ∀ cs y, f cs = some y → ∃ d, RepD w (fun _ => True) d cs ∧ Conf T d e) :
    ∀ (len : Nat) (ys : List (DataW H × List MemPlace)), ys.length = len → (∀ i, i < len → (w.cells? 0 (a.add (i * sz)) sz).bind f = ys[i]?) →
      ∃ (xs : List DV) (row : List Value), xs.length = len ∧ ConfL T xs e ∧ RepF w (fun _ => True) xs (List.replicate len sz) row ∧ ∀ j u, row[j]? = some u → w.cell? (a.add j) = some u := by
  intro len
  induction len with
  | zero => intro ys _ _; exact ⟨[], [], rfl, by simp [ConfL], by simp [RepF], by simp⟩
  | succ len ih =>
    intro ys hl h
    have hlast := h len (by omega)
    obtain ⟨xs, row, h1, h2, h3, h4⟩ := ih (ys.take len) (by simp; omega) (fun i hi => by rw [h i (by omega), List.getElem?_take, if_pos hi])
    rw [List.getElem?_eq_getElem (show len < ys.length by omega)] at hlast
    obtain ⟨cs, hcs, hf⟩ := Option.bind_eq_some_iff.1 hlast
    obtain ⟨d, hd, hc⟩ := hr cs _ hf
    obtain ⟨_, hlen, hcell⟩ := World.cells?_some hcs
    have hrow : row.length = len * sz := by have := (RepF.length h3).1; simpa using this
    refine ⟨xs ++ [d], row ++ cs, by simp [h1], ?_, ?_, ?_⟩
    · have key : ∀ (xs : List DV), ConfL T xs e → ConfL T (xs ++ [d]) e := by
        intro xs
        induction xs with
        | nil => intro _; exact ⟨hc, trivial⟩
        | cons x xs ih => intro hx; exact ⟨hx.1, ih hx.2⟩
      exact key xs h2
    · rw [List.replicate_succ']
      exact RepF.append h3 (by simp only [RepF]; exact ⟨sz, [], cs, [], rfl, by simp, hlen, hd, rfl, rfl⟩)
    · intro j u hj
      rcases Nat.lt_or_ge j row.length with h' | h'
      · exact h4 j u (by rwa [List.getElem?_append_left h'] at hj)
      · rw [List.getElem?_append_right h'] at hj
        have hlt := (List.getElem?_eq_some_iff.1 hj).1
        have := hcell (j - row.length) (by omega)
        rw [hj, show (a.add (len * sz)).add (j - row.length) = a.add j from by rw [addr_assoc, show len * sz + (j - row.length) = j by omega]] at this
        exact this
theorem contig_rep {good : List TypeId} {f : TypeId → List Value → Option (DataW H × List MemPlace)} (hT : TabOk P T) (hr : ∀ t, t ∈ good → ∀ cs y, f t cs = some y → ∃ d, RepD w (fun _ => True) d cs ∧ Conf T d t) :
    ∀ (fs : List (Nat × TypeId)) (gs : List Field) (off : Nat) (pre cs : List Value), gs.map (fun f => (f.offset, f.type)) = fs → contig T good fs off (pre ++ cs).length = true → pre.length = off →
      (∀ g ∈ gs, ∃ y, f g.type (((pre ++ cs).drop g.offset).take (P.cellsOf g.type)) = some y) → ∃ ns xs, RepF w (fun _ => True) xs ns cs ∧ ConfF T xs ns fs
  | [], gs, off, pre, cs, hgs, hc, hp, _ => by
    simp only [contig] at hc
    have := Nat.eq_of_beq_eq_true hc
    have : cs = [] := List.eq_nil_of_length_eq_zero (by simp at this; omega)
    subst this
    exact ⟨[], [], by simp [RepF], by simp [ConfF]⟩
  | f0 :: fs, [], _, _, _, hgs, _, _, _ => by simp at hgs
  | f0 :: fs, g :: gs, off, pre, cs, hgs, hc, hp, hall => by
    simp only [List.map_cons, List.cons.injEq] at hgs
    obtain ⟨rfl, hgs⟩ := hgs
    simp only [contig, Bool.and_eq_true] at hc
    obtain ⟨⟨hc1, hc2⟩, hc3⟩ := hc
    have ho := Nat.eq_of_beq_eq_true hc1
    split at hc3
    · rename_i te hte
      obtain ⟨y, hy⟩ := hall g (by simp)
      rw [cellsOf_ok (hT _ _ hte), ho, ← hp, List.drop_left] at hy
      obtain ⟨d, hd, hcf⟩ := hr g.type (by simpa using hc2) _ _ hy
      have key : ∀ (fs : List (Nat × TypeId)) (off sz : Nat), contig T good fs off sz = true → off ≤ sz := by
        intro fs
        induction fs with
        | nil => intro off sz h; simp only [contig] at h; have := Nat.eq_of_beq_eq_true h; omega
        | cons f fs ih =>
          intro off sz h
          simp only [contig, Bool.and_eq_true] at h
          obtain ⟨_, h3⟩ := h
          split at h3
          · have := ih _ _ h3; omega
          · cases h3
      have hle := key _ _ _ hc3
      have hlen : te.size ≤ cs.length := by simp at hle; omega
      have hsplit : pre ++ cs = (pre ++ cs.take te.size) ++ cs.drop te.size := by rw [List.append_assoc, List.take_append_drop]
      rw [hsplit] at hc3
      obtain ⟨ns, xs, h1, h2⟩ := contig_rep hT hr fs gs (off + te.size) (pre ++ cs.take te.size) (cs.drop te.size) hgs hc3 (by simp [hp, hlen]) (fun g' hg' => by rw [← hsplit]; exact hall g' (by simp [hg']))
      refine ⟨te.size :: ns, d :: xs, ?_, ?_⟩
      · simp only [RepF]
        exact ⟨te.size, ns, cs.take te.size, cs.drop te.size, rfl, (List.take_append_drop _ _).symm, by simp [hlen], hd, h1⟩
      · simp only [ConfF]; exact ⟨⟨te, hte, rfl⟩, hcf, h2⟩
    · cases hc3
theorem arr_rep {e : TypeId} {sz : Nat} {f : List Value → Option (DataW H × List MemPlace)} (hr : ∀ cs y, f cs = some y → ∃ d, RepD w (fun _ => True) d cs ∧ Conf T d e) :
    ∀ (n : Nat) (pre cs : List Value), cs.length = n * sz → (∀ i, i < n → ∃ y, f (((pre ++ cs).drop (pre.length + i * sz)).take sz) = some y) →
      ∃ xs, xs.length = n ∧ RepF w (fun _ => True) xs (List.replicate n sz) cs ∧ ConfL T xs e
  | 0, pre, cs, hl, _ => by
    have : cs = [] := List.eq_nil_of_length_eq_zero (by simpa using hl)
    subst this
    exact ⟨[], rfl, by simp [RepF], by simp [ConfL]⟩
  | n + 1, pre, cs, hl, h => by
    obtain ⟨y, hy⟩ := h 0 (by omega)
    rw [Nat.zero_mul, Nat.add_zero, List.drop_left] at hy
    obtain ⟨d, hd, hc⟩ := hr _ _ hy
    have hlen : sz ≤ cs.length := by rw [hl, Nat.add_mul]; omega
    have hsplit : pre ++ cs = (pre ++ cs.take sz) ++ cs.drop sz := by rw [List.append_assoc, List.take_append_drop]
    obtain ⟨xs, h1, h2, h3⟩ := arr_rep (sz := sz) hr n (pre ++ cs.take sz) (cs.drop sz) (by rw [List.length_drop, hl, Nat.add_mul]; omega) (fun i hi => by
      have := h (i + 1) (by omega)
      rw [hsplit] at this
      rwa [show pre.length + (i + 1) * sz = (pre ++ cs.take sz).length + i * sz by simp [hlen, Nat.add_mul]; omega] at this)
    refine ⟨d :: xs, by simp [h1], ?_, ⟨hc, h3⟩⟩
    rw [List.replicate_succ]
    simp only [RepF]
    exact ⟨sz, _, cs.take sz, cs.drop sz, rfl, (List.take_append_drop _ _).symm, by simp [hlen], hd, h2⟩
theorem trod_float {base : Nat} {spare : Nat → Bool} {held : Bool} {fuel : Nat} {t : TypeId} {cs : List Value} {x : DataW H × List MemPlace} {k : FloatKind} (ht : P.underlying t = some (.float k)) (h : DataW.trod enc P w base spare held fuel t cs = some x) :
    ∃ b, cs = [.float k b] ∧ (Lit.float k b).wf = true := by
  cases fuel with
  | zero => simp [DataW.trod] at h
  | succ n =>
    unfold DataW.trod at h
    rw [ht] at h
    split at h <;> simp_all
/-- What is read of memory is a datum of its type. -/
theorem trod_rep (hT : TabOk P T) {good : List TypeId} (hg : goodB T good = true) {base : Nat} {spare : Nat → Bool} {held : Bool} (hb : base = 0) : ∀ (fuel : Nat) (t : TypeId) (cs : List Value) (x : DataW H × List MemPlace), t ∈ good →
    DataW.trod enc P w base spare held fuel t cs = some x → ∃ d, RepD w (fun _ => True) d cs ∧ Conf T d t := by
  subst hb
  intro fuel
  induction fuel with
  | zero => intro t cs x _ h; simp [DataW.trod] at h
  | succ fuel ih =>
    intro t cs x ht h
    obtain ⟨te, hte, hs⟩ := goodB_spec hg ht
    have hE := hT t te hte
    obtain ⟨i, d0, z, q1, q2, q3, q4, _⟩ := hE
    cases hd : te.d <;> rw [hd] at q3 hs <;> simp only [] at hs
    · rename_i k
      cases d0 <;> simp only [TyD.ok] at q3
      subst q3
      obtain ⟨n, rfl, rfl, hw⟩ := DataW.trod_int q2 h
      refine ⟨.v (.int k n), by simp [RepD, Value.oneCell'], ?_⟩
      simp only [Lit.wf, Bool.and_eq_true, decide_eq_true_eq] at hw
      simp only [Conf]
      exact ⟨te, hte, by rw [hd]; exact ⟨rfl, hw⟩⟩
    · cases d0 <;> simp only [TyD.ok] at q3
      obtain ⟨b, rfl, rfl⟩ := DataW.trod_bool q2 h
      refine ⟨.v (.bool b), by simp [RepD, Value.oneCell'], ?_⟩
      simp only [Conf]
      exact ⟨te, hte, by rw [hd]; trivial⟩
    · cases d0 <;> simp only [TyD.ok] at q3
      obtain ⟨s, rfl, rfl, hl⟩ := DataW.trod_string q2 h
      refine ⟨.v (.string s), by simp [RepD, Value.oneCell'], ?_⟩
      simp only [Conf]
      exact ⟨te, hte, by rw [hd]; exact hl⟩
    · rename_i k
      cases d0 <;> simp only [TyD.ok] at q3
      subst q3
      obtain ⟨b, rfl, hw⟩ := trod_float q2 h
      refine ⟨.v (.float k b), by simp [RepD, Value.oneCell'], ?_⟩
      simp only [Conf]
      exact ⟨te, hte, by rw [hd]; exact ⟨rfl, hw⟩⟩
    · rename_i e
      cases d0 <;> simp only [TyD.ok] at q3
      subst q3
      obtain ⟨ee, hee, _⟩ := goodB_spec hg hs.2
      rcases DataW.trod_slice q2 h with ⟨rfl, rfl⟩ | ⟨a, len, cap, elems, rest, n, hn, rfl, rfl, _, hlc, hcap, hlen, hel, _⟩
      · refine ⟨.sl e ee.size [], ?_, ?_⟩
        · simp only [RepD]; exact ⟨none, 0, [], rfl, by simp, by simp [RepF], .inl rfl⟩
        · simp only [Conf]; exact ⟨te, ee, hte, hd, hee, rfl, by simp, by simp [ConfL]⟩
      · have hn' : n = fuel := by omega
        subst hn'
        rw [cellsOf_ok (hT _ _ hee)] at hel
        obtain ⟨xs, row, h1, h2, h3, h4⟩ := cells_row (a := a) (fun cs y hy => ih _ cs y hs.2 hy) len elems hlen hel
        refine ⟨.sl e ee.size xs, ?_, ?_⟩
        · simp only [RepD]
          refine ⟨some a, cap, row, by rw [h1], by omega, by rw [h1]; exact h3, ?_⟩
          rcases List.eq_nil_or_concat row with h5 | ⟨row', u, h5⟩
          · exact .inl h5
          · refine .inr ?_
            obtain ⟨v, hv⟩ : ∃ v, row[0]? = some v := ⟨_, List.getElem?_eq_getElem (by rw [h5]; simp)⟩
            have h0 := h4 0 v hv
            have hsp : a.spot = none := by
              have e0 : a.add 0 = a := by simp [Addr.add]
              rw [e0] at h0
              unfold World.cell? at h0
              split at h0
              · split at h0
                · cases h0
                · rename_i hh; simpa using hh
              · cases h0
            obtain ⟨b, o, s⟩ := a
            simp only at hsp
            subst hsp
            exact ⟨b, o, rfl, trivial, fun j u hj => by rw [← addr_add]; exact h4 j u hj⟩
        · simp only [Conf]; exact ⟨te, ee, hte, hd, hee, rfl, by omega, h2⟩
    · rename_i n e
      cases d0 <;> simp only [TyD.ok] at q3
      obtain ⟨rfl, rfl⟩ := q3
      obtain ⟨he, ee, hee, hsz⟩ := hs
      obtain ⟨xs, m, hm, rfl, hl, hxl, hel⟩ := DataW.trod_array q2 h
      have hm' : m = fuel := by omega
      subst hm'
      rw [cellsOf_ok (hT _ _ hte), hsz] at hl
      obtain ⟨ys, h1, h2, h3⟩ := arr_rep (w := w) (T := T) (fun cs y hy => ih _ cs y he hy) n [] cs hl (fun i hi => by
        have := hel i hi
        rw [cellsOf_ok (hT _ _ hee), List.getElem?_eq_getElem (by omega)] at this
        exact ⟨_, by simpa using this⟩)
      refine ⟨.ar ee.size ys, ?_, ?_⟩
      · simp only [RepD]; rw [h1]; exact h2
      · simp only [Conf]; exact ⟨te, n, e, ee, hte, hd, hee, rfl, h1, h3⟩
    · rename_i fs
      cases d0 <;> simp only [TyD.ok] at q3
      rename_i gs
      obtain ⟨xs, m, hm, rfl, hl, hxl, hel⟩ := DataW.trod_struct q2 h
      have hm' : m = fuel := by omega
      subst hm'
      rw [cellsOf_ok (hT _ _ hte)] at hl
      obtain ⟨ns, ys, h1, h2⟩ := contig_rep (w := w) (f := DataW.trod enc P w 0 spare held m) hT (fun t ht cs y hy => ih t cs y ht hy) fs gs.toList 0 [] cs q3 (by simpa [hl] using hs) rfl (fun g hg => by
        obtain ⟨i, hi⟩ := List.getElem?_of_mem hg
        have := hel i g (by simpa using hi)
        rw [List.getElem?_eq_getElem (by have := (List.getElem?_eq_some_iff.1 hi).1; simp at this; omega)] at this
        exact ⟨_, by simpa using this⟩)
      refine ⟨.st ns ys, ?_, ?_⟩
      · simp only [RepD]; exact h1
      · simp only [Conf]; exact ⟨te, fs, hte, hd, h2⟩
end
end Go.Sim
/- What is proved: from a statement's reading of its arguments to closed data, and back behind the call. -/
namespace Go.Sim
open Go.RowKit Go.ChangeShapes Go.WideShapes
/-- Data that fit the types of a list. -/
def ConfAll (T : Tab) : List DV → List TypeId → Prop
  | [], [] => True
  | x :: xs, t :: ts => Conf T x t ∧ ConfAll T xs ts
  | _, _ => False
section
variable {P : Program} {N : Value → Prop} {T : Tab} {H : Type} {enc : TypeId × Value → H} {w : World}
theorem cells_one {v u : Value} (h : v.oneCell' = true) (e : v.cells.toList = [u]) : v = u := by
  cases v <;> simp_all [Value.cells, Value.oneCell']
theorem val_rep (hT : TabOk P T) {good : List TypeId} (hg : goodB T good = true) {r : Reach} {b : Nat} {t : TypeId} {v : Value} {d : DataW H} {ps : List MemPlace} (ht : t ∈ good) (hv : Value.okWide P w r b t v)
    (h : DataW.Trod enc P w 0 (fun _ => true) true t v d ps) : ∃ x, RepV w (fun _ => True) x v ∧ Conf T x t := by
  obtain ⟨fuel, h⟩ := h
  obtain ⟨x, hx, hc⟩ := trod_rep hT hg rfl fuel t _ _ ht h
  refine ⟨x, ?_, hc⟩
  obtain ⟨te, hte, hs⟩ := goodB_spec hg ht
  obtain ⟨i, d0, z, q1, q2, q3, q4, _⟩ := hT t te hte
  cases x with
  | tup xs => simp [RepD] at hx
  | pd x => simp [Conf] at hc
  | fn f xs => simp [Conf] at hc
  | mp ks xs => simp [Conf] at hc
  | any p => simp [Conf] at hc
  | st ns xs =>
    simp only [Conf] at hc
    obtain ⟨te', fs, h1, h2, _⟩ := hc
    rw [hte] at h1; cases h1
    rw [h2] at q3
    cases d0 <;> simp only [TyD.ok] at q3
    obtain ⟨cs, rfl, _⟩ := okWide_struct q2 hv
    exact ⟨cs.toList, by simp, by simpa [Value.cells] using hx⟩
  | ar sz xs =>
    simp only [Conf] at hc
    obtain ⟨te', n, e, ee, h1, h2, _⟩ := hc
    rw [hte] at h1; cases h1
    rw [h2] at q3
    cases d0 <;> simp only [TyD.ok] at q3
    simp only [Value.okWide, q2] at hv
    obtain ⟨cs, rfl, _⟩ := hv
    exact ⟨cs.toList, by simp, by simpa [Value.cells] using hx⟩
  | v y =>
    simp only [RepD] at hx
    simp only [RepV, RepD]
    refine ⟨?_, hx.2⟩
    simp only [Conf] at hc
    obtain ⟨te', h1, h2⟩ := hc
    rw [hte] at h1; cases h1
    cases hd : te.d <;> rw [hd] at h2 q3 <;> cases y <;> simp only [] at h2 <;> cases d0 <;> simp only [TyD.ok] at q3
    · obtain ⟨n, rfl⟩ := okWide_int q2 hv; rw [cells_one rfl hx.1]
    · obtain ⟨n, rfl⟩ := okWide_bool q2 hv; rw [cells_one rfl hx.1]
    · obtain ⟨n, rfl⟩ := okWide_string q2 hv; rw [cells_one rfl hx.1]
    · have : v.oneCell' = true := by
        simp only [Value.okWide, q2, Cell.okWide, Cell.ok] at hv
        cases v <;> simp_all [Value.oneCell']
      rw [cells_one this hx.1]
  | sl E sz xs =>
    have hx' := hx
    simp only [RepD] at hx
    obtain ⟨a, c, row, e, _⟩ := hx
    simp only [Conf] at hc
    obtain ⟨te', ee, h1, h2, _⟩ := hc
    rw [hte] at h1; cases h1
    rw [h2] at q3
    cases d0 <;> simp only [TyD.ok] at q3
    obtain ⟨a', l', c', rfl⟩ := okWide_slice q2 hv
    simp only [RepV]
    simpa [Value.cells] using hx'
theorem args_rep (hT : TabOk P T) {good : List TypeId} (hg : goodB T good = true) {r : Reach} {b : Nat} : ∀ (ts : List TypeId) (vs : List Value) (ds : List (DataW H)) (ps : List MemPlace), (∀ t ∈ ts, t ∈ good) →
    (∀ (j : Nat) t v, ts[j]? = some t → vs[j]? = some v → Value.okWide P w r b t v) → DataW.TrodAll enc P w 0 (fun _ => true) true ts vs ds ps → ∃ xs, All2 (RepV w (fun _ => True)) xs vs ∧ ConfAll T xs ts
  | [], vs, ds, ps, _, _, h => by
    obtain ⟨rfl, _, _⟩ := trodAll_nil h
    exact ⟨[], .nil, trivial⟩
  | t :: ts, vs, ds, ps, hts, hval, h => by
    obtain ⟨v, vs', d, ds', p, q, rfl, rfl, rfl, h1, h2⟩ := trodAll_cons h
    obtain ⟨x, hx, hc⟩ := val_rep hT hg (hts t (by simp)) (hval 0 t v rfl rfl) h1
    obtain ⟨xs, hxs, hcs⟩ := args_rep hT hg ts vs' ds' q (fun t' ht' => hts t' (by simp [ht'])) (fun j t' v' h3 h4 => hval (j + 1) t' v' (by simpa using h3) (by simpa using h4)) h2
    exact ⟨x :: xs, .cons hx hxs, hc, hcs⟩
theorem args_stay (hl : laidOutB P = true) {W W' : World} (hb : Below W.heap.size W W') : ∀ (ts : List TypeId) (vs : List Value) (ds : List (DataW H)) (ps : List MemPlace), (ts.all fun t => P.readableRec t && decide (t < P.types.size)) = true →
    DataW.TrodAll enc P W 0 (fun _ => true) true ts vs ds ps → (∀ x ∈ ps, x.block < W.heap.size) → ∀ sp : Nat → Bool, (∀ x ∈ ps, sp x.block = true) → DataW.TrodAll enc P W' 0 sp true ts vs ds ps
  | [], vs, ds, ps, _, h, _, sp, _ => by
    obtain ⟨rfl, rfl, rfl⟩ := trodAll_nil h
    exact h
  | t :: ts, vs, ds, ps, ht, h, hlt, sp, hsp => by
    obtain ⟨v, vs', d, ds', p, q, rfl, rfl, rfl, h1, h2⟩ := trodAll_cons h
    simp only [List.all_cons, Bool.and_eq_true, decide_eq_true_eq] at ht
    exact ⟨p, q, WideElems.Trod_stays hl ht.1.1 ht.1.2 h1 (fun x hx => hb.same (hlt x (by simp [hx]))) (fun x hx => hsp x (by simp [hx])),
      args_stay hl hb ts vs' ds' q ht.2 h2 (fun x hx => hlt x (by simp [hx])) sp (fun x hx => hsp x (by simp [hx])), rfl⟩
theorem trodAll_len {W : World} {sp : Nat → Bool} : ∀ (ts : List TypeId) (vs : List Value) (ds : List (DataW H)) (ps : List MemPlace), DataW.TrodAll enc P W 0 sp true ts vs ds ps → ds.length = ts.length
  | [], vs, ds, ps, h => by obtain ⟨_, rfl, _⟩ := trodAll_nil h; rfl
  | t :: ts, vs, ds, ps, h => by
    obtain ⟨v, vs', d, ds', p, q, rfl, rfl, rfl, h1, h2⟩ := trodAll_cons h
    simp [trodAll_len ts vs' ds' q h2]
/-- What a statement without a record says of the call, out of what 'Below' says. -/
theorem post_below {f : Func} {s : ChangeSpec} {apart : Bool} {W W' : World} {args : Array Value} {v : Value} {ds gs : List (DataW H)} {before pa pv : List MemPlace}
    (hW : DataW.Whole enc P f.params.toList s.vars apart W args.toList ds gs before)
    (hres : DataW.TrodAll enc P W' W.heap.size (fun _ => false) false f.resultTypes.toList (v.resultList f.resultTypes.size) (s.fn H (ds ++ gs)).results [])
    (hargs : DataW.TrodAll enc P W' 0 (fun b => decide (b < W.heap.size)) true f.params.toList args.toList (s.fn H (ds ++ gs)).args pa)
    (hvars : DataW.TrodVars enc P W' (fun b => decide (b < W.heap.size)) s.vars (s.fn H (ds ++ gs)).vars pv) (hb : Below W.heap.size W W') : s.post enc P f apart true false false W args v W' :=
  ⟨ds, gs, before, [], pa, pv, hW, hres, hargs, hvars, hb.frame _, fun h => by cases h⟩
theorem len_eq1 {α : Type} {l : List α} (h : l.length = 1) : ∃ a, l = [a] := by
  match l, h with
  | [a], _ => exact ⟨a, rfl⟩
/-! ### Data of a type, opened -/
theorem conf_sl' {t e : TypeId} {te ee : TE} {x : DV} (ht : tget T t = some te) (hd : te.d = .slice e) (he : tget T e = some ee) (h : Conf T x t) : ∃ xs, x = .sl e ee.size xs ∧ xs.length ≤ maxLen ∧ ConfL T xs e := by
  cases x with
  | v y =>
    simp only [Conf] at h
    obtain ⟨te', h1, h2⟩ := h
    rw [ht] at h1; cases h1
    rw [hd] at h2
    cases y <;> simp only [] at h2
  | st ns xs => simp only [Conf] at h; obtain ⟨te', fs', h1, h2, h3⟩ := h; rw [ht] at h1; cases h1; rw [hd] at h2; cases h2
  | ar sz xs => simp only [Conf] at h; obtain ⟨te', n, e, ee, h1, h2, _⟩ := h; rw [ht] at h1; cases h1; rw [hd] at h2; cases h2
  | sl E sz xs =>
    simp only [Conf] at h
    obtain ⟨te', ee', h1, h2, h3, h4, h5, h6⟩ := h
    rw [ht] at h1; cases h1; rw [hd] at h2; cases h2; rw [he] at h3; cases h3; subst h4; exact ⟨xs, rfl, h5, h6⟩
  | tup xs => simp [Conf] at h
  | pd x => simp [Conf] at h
  | fn f xs => simp [Conf] at h
  | mp ks xs => simp [Conf] at h
  | any p => simp [Conf] at h
theorem conf_flt' {t : TypeId} {te : TE} {x : DV} (ht : tget T t = some te) (hd : te.d = .flt .f64) (h : Conf T x t) : ∃ n, x = .v (.float .f64 n) ∧ okFlt n := by
  cases x with
  | v y =>
    simp only [Conf] at h
    obtain ⟨te', h1, h2⟩ := h
    rw [ht] at h1; cases h1
    rw [hd] at h2
    cases y <;> simp only [] at h2
    obtain ⟨rfl, h3⟩ := h2
    exact ⟨_, rfl, h3⟩
  | st ns xs => simp only [Conf] at h; obtain ⟨te', fs, h1, h2, _⟩ := h; rw [ht] at h1; cases h1; rw [hd] at h2; cases h2
  | ar sz xs => simp only [Conf] at h; obtain ⟨te', n, e, ee, h1, h2, _⟩ := h; rw [ht] at h1; cases h1; rw [hd] at h2; cases h2
  | sl E sz xs => simp only [Conf] at h; obtain ⟨te', ee, h1, h2, _⟩ := h; rw [ht] at h1; cases h1; rw [hd] at h2; cases h2
  | tup xs => simp [Conf] at h
  | pd x => simp [Conf] at h
  | fn f xs => simp [Conf] at h
  | mp ks xs => simp [Conf] at h
  | any p => simp [Conf] at h
theorem conf_list {α : Type} {enc : α → DV} {ok : α → Prop} {t : TypeId} (hc : ∀ x, Conf T x t → ∃ a, x = enc a ∧ ok a) : ∀ {xs : List DV}, ConfL T xs t → ∃ ys : List α, xs = ys.map enc ∧ ∀ a ∈ ys, ok a
  | [], _ => ⟨[], rfl, by simp⟩
  | x :: xs, h => by
    simp only [ConfL] at h
    obtain ⟨a, rfl, ka⟩ := hc x h.1
    obtain ⟨ys, rfl, kas⟩ := conf_list hc h.2
    exact ⟨a :: ys, rfl, by simpa using ⟨ka, kas⟩⟩
end
end Go.Sim
