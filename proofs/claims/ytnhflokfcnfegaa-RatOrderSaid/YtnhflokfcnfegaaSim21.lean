/- What is proved: the step rules for places in slices, arrays and strings, for cuts, and for operators that ask something of their operands. -/
import Derived.Test.YtnhflokfcnfegaaSim20
namespace Go.Sim
open Go.RowKit

section
variable {P : Program} {T : Tab} {σ : St}

/-- An operator on plain values, whatever it asks being shown. -/
theorem Step.bin {c : Bool} {o : Oper} {op : BinOp} {t t' : TypeId} {x y : Operand} {u v r : Value} (ho : o.op = .binOp op t x y t') (hx : (ev σ x).raw = some u) (hy : (ev σ y).raw = some v) (h : rbin op u v = some r) :
    Step P c σ o ⟨.dat (.v r), []⟩ := by
  refine Step.value (fun σ' hA B F w0 n a w g rr => ?_) (fun _ _ _ k hk => by simp [AV.refs] at hk)
  have e1 := raw_eval (ev_rep rr x) (by rw [hA.1 x (by simp [ho, Op.operands])]; exact hx)
  have e2 := raw_eval (ev_rep rr y) (by rw [hA.1 y (by simp [ho, Op.operands])]; exact hy)
  have h1 : r.oneCell' = true := by
    cases u <;> cases v <;> first
      | (simp [rbin] at h; done)
      | (cases op <;> simp only [rbin] at h <;> (repeat' split at h) <;> first | (cases h; done) | (simp only [Option.some.injEq] at h; subst h; rfl))
  exact ⟨r, by simp [execOp, ho, e1, e2, eqGuard_raw h, run_rbin h w], rep_raw h1⟩

/-- Strings, one behind the other. -/
theorem Step.cat {c : Bool} {o : Oper} {t t' : TypeId} {x y : Operand} {u v : ByteArray} (ho : o.op = .binOp .add t x y t') (hx : ev σ x = .dat (.v (.string u))) (hy : ev σ y = .dat (.v (.string v))) (h : u.size + v.size ≤ 9223372036854775807) :
    Step P c σ o ⟨.dat (.v (.string (u ++ v))), []⟩ := by
  refine Step.value (fun σ' hA B F w0 n a w g rr => ?_) (fun _ _ _ k hk => by simp [AV.refs] at hk)
  have e1 := raw_eval (ev_rep rr x) (by rw [hA.1 x (by simp [ho, Op.operands]), hx]; rfl)
  have e2 := raw_eval (ev_rep rr y) (by rw [hA.1 y (by simp [ho, Op.operands]), hy]; rfl)
  have hn : ¬ (((u.size + v.size : Nat) : Int) > IntKind.i64.max) := by rw [IntKind.max_i64]; omega
  refine ⟨.string (u ++ v), ?_, rep_raw rfl⟩
  simp only [execOp, ho, e1, e2, Sem.run_bind, eqGuard_add, Sem.run_pure, Result.andThen_ok, binOp, Op.stringOp]
  rw [if_neg hn]
  rfl

def farith (op : BinOp) (k : FloatKind) (a b : Nat) : Option Nat :=
  match op with
  | .add => k.format.add a b
  | .sub => k.format.sub a b
  | .mul => k.format.mul a b
  | .quo => k.format.div a b
  | _ => none

/-- Arithmetic of floats, where it yields a number. -/
theorem Step.flt {c : Bool} {o : Oper} {op : BinOp} {t t' : TypeId} {x y : Operand} {k : FloatKind} {u v r : Nat} (ho : o.op = .binOp op t x y t') (hx : ev σ x = .dat (.v (.float k u))) (hy : ev σ y = .dat (.v (.float k v)))
    (h : farith op k u v = some r) : Step P c σ o ⟨.dat (.v (.float k r)), []⟩ := by
  refine Step.value (fun σ' hA B F w0 n a w g rr => ?_) (fun _ _ _ k hk => by simp [AV.refs] at hk)
  have e1 := raw_eval (ev_rep rr x) (by rw [hA.1 x (by simp [ho, Op.operands]), hx]; rfl)
  have e2 := raw_eval (ev_rep rr y) (by rw [hA.1 y (by simp [ho, Op.operands]), hy]; rfl)
  refine ⟨.float k r, ?_, rep_raw rfl⟩
  cases op <;> simp only [farith] at h <;> first | (cases h; done) | skip
  all_goals simp [execOp, ho, e1, e2, eqGuard_at_float, binOp, Op.floatArith, h]

theorem asIntOf_int (k : IntKind) (i : Int) : asIntOf (.int k i) = pure (k, i) := rfl

/-- A place in a shared slice. -/
theorem Step.idx (hT : TabOk P T) {c : Bool} {o : Oper} {t E E' : TypeId} {te : TE} {x y : Operand} {k : IntKind} {i : Int} {xs : List DV} {z : DV} (ho : o.op = .indexAddr t x y) (hs : slE T t = some (E, te))
    (hx : ev σ x = .dat (.sl E' te.size xs)) (hy : ev σ y = .dat (.v (.int k i))) (hp : 0 < te.size) (h0 : 0 ≤ i) (hz : xs[i.toNat]? = some z) : Step P c σ o ⟨.sp z, []⟩ := by
  refine Step.value (fun σ' hA B F w0 n a w g rr => ?_) (fun _ _ _ k hk => by simp [AV.refs] at hk)
  have e2 := raw_eval (ev_rep rr y) (by rw [hA.1 y (by simp [ho, Op.operands]), hy]; rfl)
  have hev := ev_rep rr x
  rw [hA.1 x (by simp [ho, Op.operands]), hx] at hev
  simp only [RepS, RepV, RepD] at hev
  obtain ⟨ad, cc, row, e1, hl, hF, hm⟩ := hev
  simp only [List.cons.injEq, and_true] at e1
  obtain ⟨hu, hE, _⟩ := slE_ok hT hs
  have hsz := run_sizeOf hE w
  obtain ⟨c1, c2, c3, m, hmm, e, hl1, hl2, hd, _⟩ := RepF.at hF hz
  have hi : i.toNat < xs.length := (List.getElem?_eq_some_iff.1 hz).1
  have h1 : i < xs.length := by omega
  rw [take_replicate_sum _ _ _ (Nat.le_of_lt hi)] at hl1
  rcases hm with rfl | ⟨b, off, rfl, hS, hc⟩
  · have hms : m = te.size := (List.mem_replicate.1 (List.mem_of_getElem? hmm)).2
    have := congrArg List.length e
    simp at this
    omega
  · refine ⟨.pointer (some ⟨b, off + i.toNat * te.size, none⟩), ?_, ?_⟩
    · simp [execOp, ho, e1, e2, Instr.indexAt, asIntOf_int, run_underlying hu, hsz, h0, h1, addr_add]
    · simp only [RepS, RepA]
      refine ⟨b, off + i.toNat * te.size, c2, rfl, hd, .inr ⟨hS, fun j u hj => ?_⟩⟩
      have := hc (i.toNat * te.size + j) u (by
        rw [e, ← hl1, List.append_assoc, List.getElem?_append_right (by omega), Nat.add_sub_cancel_left, List.getElem?_append_left (List.getElem?_eq_some_iff.1 hj).1]
        exact hj)
      rwa [← Nat.add_assoc] at this

/-- A place in one's own slice. -/
theorem Step.idxown (hT : TabOk P T) {c : Bool} {o : Oper} {t E E' : TypeId} {te : TE} {x y : Operand} {k : IntKind} {i : Int} {id : Nat} {xs : List DV} (ho : o.op = .indexAddr t x y) (hs : slE T t = some (E, te))
    (hx : ev σ x = .oref id) (hob : σ.obj id = some (.row E' te.size xs)) (hy : ev σ y = .dat (.v (.int k i))) (h0 : 0 ≤ i) (h1 : i < xs.length) : Step P c σ o ⟨.pt id [.idx i.toNat] (i.toNat * te.size), []⟩ := by
  have hmx : x ∈ o.op.operands := by simp [ho, Op.operands]
  have hlk : looks o = true := by simp [looks, ho]
  refine Step.value (fun σ' hA B F w0 n a w g rr => ?_) (fun σ' hA ok k' hk => ?_)
  · have e2 := raw_eval (ev_rep rr y) (by rw [hA.1 y (by simp [ho, Op.operands]), hy]; rfl)
    have hev := ev_rep rr x
    rw [hA.1 x hmx, hx] at hev
    simp only [RepS] at hev
    have hob' : σ'.obj id = some (.row E' te.size xs) := by rw [hA.2.2 hlk x hmx id (by rw [hx]; simp [AV.refs])]; exact hob
    have hO := rr.objs id
    rw [hob'] at hO
    simp only [RepO] at hO
    obtain ⟨hu, hE, _⟩ := slE_ok hT hs
    have hsz := run_sizeOf hE w
    rcases hO with ⟨m1, rfl, m3⟩ | ⟨m1, cc, cur, m2, m3, m4, m5, m6, m7⟩
    · simp at h1; omega
    · refine ⟨.pointer (some ⟨g.blk id, 0 + i.toNat * te.size, none⟩), ?_, by simp [RepS]⟩
      simp [execOp, ho, hev, m2, e2, Instr.indexAt, asIntOf_int, run_underlying hu, hsz, h0, h1, addr_add]
  · simp only [AV.refs] at hk
    subst hk
    rw [hA.2.2 hlk x hmx _ (by rw [hx]; simp [AV.refs]), hob]
    simp

/-- A store into one's own slice. -/
theorem Step.storerow (hT : TabOk P T) {o : Oper} {t : TypeId} {te : TE} {x y : Operand} {id i : Nat} {E : TypeId} {xs : List DV} {v : DV} (ho : o.op = .store t x y) (hd : o.dst = none)
    (ht : tget T t = some te) (hx : ev σ x = .pt id [.idx i] (i * te.size)) (hob : σ.obj id = some (.row E te.size xs)) (hi : i < xs.length)
    (hy : nilT T t (ev σ y) = .dat v) (hy1 : (AV.dat v).lies = true) (hy2 : v.len = te.size) :
    Step P true σ o ⟨.dead, [(id, .row E te.size (xs.set i v))]⟩ where
  ok := by
    rintro σ' hA B F w0 n a w hdn ⟨g, r⟩ Q
    have hmx : x ∈ o.op.operands := by simp [ho, Op.operands]
    have hmy : y ∈ o.op.operands := by simp [ho, Op.operands]
    have hlk : looks o = true := by simp [looks, ho]
    have hob' : σ'.obj id = some (.row E te.size xs) := by rw [hA.2.2 hlk x hmx id (by rw [hx]; simp [AV.refs])]; exact hob
    have hevx := ev_rep r x
    rw [hA.1 x hmx, hx] at hevx
    simp only [RepS] at hevx
    have hevy := nilT_rep (T := T) (t := t) (ev_rep r y)
    rw [hA.1 y hmy, hy] at hevy
    obtain ⟨hc1, _, _⟩ := RepS.cells r.hv hevy hy1
    have hO := r.objs id
    rw [hob'] at hO
    simp only [RepO] at hO
    rcases hO with ⟨m1, rfl, m3⟩ | ⟨m1, cc, cur, m2, m3, m4, m5, m6, m7⟩
    · simp at hi
    obtain ⟨d1, d2, d3, m, hmm, e, hl1, hl2, hdd, hput⟩ := RepF.at m7 (List.getElem?_eq_getElem hi)
    have hms : m = te.size := (List.mem_replicate.1 (List.mem_of_getElem? hmm)).2
    rw [take_replicate_sum _ _ _ (Nat.le_of_lt hi)] at hl1
    have hcl : (a.eval y).cells.toList.length = te.size := by rw [RepA.len hc1, ← hy2]; rfl
    have hle : xs.length * te.size ≤ cur.size := by rw [m4]; exact Nat.mul_le_mul_right _ m5
    have htl : (cur.toList.take (xs.length * te.size)).length = xs.length * te.size := by simp [hle]
    have hlen := congrArg List.length e
    simp only [List.length_append, htl] at hlen
    have hfit : i * te.size + (a.eval y).cells.toList.length ≤ cur.size := by omega
    have hrun := run_store_at (hT t te ht) m3 rfl hcl hfit (RepA.one r.hv _ _ hc1)
    have hcur : cur.toList = d1 ++ d2 ++ d3 ++ cur.toList.drop (xs.length * te.size) := by rw [← e, List.take_append_drop]
    have hcells : cur.toList.take (i * te.size) ++ (a.eval y).cells.toList ++ cur.toList.drop (i * te.size + (a.eval y).cells.toList.length) = d1 ++ (a.eval y).cells.toList ++ d3 ++ cur.toList.drop (xs.length * te.size) := by
      have q1 : cur.toList.take (i * te.size) = d1 := by
        rw [hcur, List.append_assoc, List.append_assoc, ← hl1, List.take_left]
      have q2 : cur.toList.drop (i * te.size + (a.eval y).cells.toList.length) = d3 ++ cur.toList.drop (xs.length * te.size) := by
        conv => lhs; rw [hcur]
        rw [List.append_assoc, show i * te.size + (a.eval y).cells.toList.length = (d1 ++ d2).length by simp only [List.length_append]; omega, List.drop_left]
      rw [q1, q2, ← List.append_assoc]
    rw [hcells] at hrun
    unfold Oper.wp
    have hrun' : (execOp a.eval o).run P w = .ok .skip (w.setRow (g.blk id) (d1 ++ (a.eval y).cells.toList ++ d3 ++ cur.toList.drop (xs.length * te.size)).toArray) := by
      simp only [execOp, ho, hevx, Sem.run_bind, hrun, Result.andThen_ok, Sem.run_pure]
    rw [hrun', Oper.upon_skip, hd]
    have hid : σ'.obj id ≠ none := by rw [hob']; simp
    have hS := (r.own id m1).1
    have hother : ∀ (c : List Value) k, g.S k → k < w.heap.size → (w.setRow (g.blk id) c.toArray).heap[k]? = w.heap[k]? := fun c k hk _ => setRow_other w (g.blk id) k _ (fun e => hS (by rw [← e]; exact hk))
    have hnew := hput (w.setRow (g.blk id) (d1 ++ (a.eval y).cells.toList ++ d3 ++ cur.toList.drop (xs.length * te.size)).toArray) g.S v (a.eval y).cells.toList
      (fun z c hr => RepD.frame (fun _ h => h) (hother _) _ _ hr) (by omega) (RepD.frame (fun _ h => h) (hother _) _ _ (by simpa only [RepA] using hc1))
    refine ⟨g, r.rewrite m1 hid _ (.row E te.size (xs.set i v)) ?_ ?_⟩
    · simp only [RepO]
      refine .inr ⟨m1, cc, _, by rw [m2, List.length_set], setRow_heap w _ cur _ E (0, 0) m3, ?_, by rw [List.length_set]; exact m5, m6, ?_⟩
      · have := congrArg List.length hcur
        simp only [List.length_append, Array.length_toList] at this
        simp only [List.size_toArray, List.length_append]
        omega
      · rw [List.length_set]
        have : (d1 ++ (a.eval y).cells.toList ++ d3 ++ cur.toList.drop (xs.length * te.size)).take (xs.length * te.size) = d1 ++ (a.eval y).cells.toList ++ d3 := by
          rw [show xs.length * te.size = (d1 ++ (a.eval y).cells.toList ++ d3).length by simp only [List.length_append]; omega, List.take_left]
        show RepF _ _ _ _ ((d1 ++ (a.eval y).cells.toList ++ d3 ++ cur.toList.drop (xs.length * te.size)).take (xs.length * te.size))
        rw [this]
        exact hnew
    · intro T sz x hx; cases hx
  objs := fun p hp => by
    simp only [List.mem_singleton] at hp
    subst hp
    exact .inr ⟨rfl, by simp [looks, ho], x, by simp [wr, ho], by rw [hx]; simp [AV.refs]⟩
  okk := fun σ' hA ok => by
    have hmx : x ∈ o.op.operands := by simp [ho, Op.operands]
    have hob' : σ'.obj id = some (.row E te.size xs) := by rw [hA.2.2 (by simp [looks, ho]) x hmx id (by rw [hx]; simp [AV.refs])]; exact hob
    rw [hd]
    exact Ok_old ok (by rw [hob']; simp) (fun T2 sz2 x2 e2 k hk => by cases e2)

end
end Go.Sim
