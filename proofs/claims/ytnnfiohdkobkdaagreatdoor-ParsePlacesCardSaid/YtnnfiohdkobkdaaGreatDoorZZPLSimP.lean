/- What is proved: calls with a box of one's own that may panic; what follows a panic in a region is never reached; a region that ends in a panic. -/
import Derived.Test.YtnnfiohdkobkdaaGreatDoorZZPLWT

namespace Go.Sim
open Go.RowKit
theorem bot_refs (k : Nat) : ¬ bot.refs k := by simp [bot, AV.refs, AV.refs.refsL]
/-- A state that no memory is as. -/
def NoRel (σ : St) : Prop := ∃ id Ty sz, σ.obj id = some (.box Ty sz bot)
theorem NoRel.elim {B : Nat → Nat → Prop} {F : Cx} {w0 w : World} {n : Nat} {σ : St} {a : Act} (h : NoRel σ) (r : Rel B F w0 n σ a w) : False := by
  obtain ⟨id, Ty, sz, h⟩ := h
  obtain ⟨g, r⟩ := r
  have hO := r.objs id
  rw [h] at hO
  simp [RepO, bot, RepA, RepAF] at hO
/-- As 'Q', or never reached. -/
@[reducible] def orBot (Q : AExit → St → Prop) : AExit → St → Prop
  | .panic v, σ => Q (.panic v) σ
  | e, σ => Q e σ ∨ NoRel σ

theorem AWp.bots {P : Program} {B : Nat → Nat → Prop} {n : Nat} {c : Code} {σ : St} {Q : AExit → St → Prop} (h : AWp P B n c σ (orBot Q)) : AWp P B n c σ Q := by
  intro F w0 a w r
  refine wp_mono (h F w0 a w r) fun e a w hp => ?_
  cases e with
  | normal =>
    simp only [post] at hp ⊢
    obtain ⟨σ', h1, h2⟩ := hp
    rcases h1 with h1 | h1
    · exact ⟨σ', h1, h2⟩
    · exact (h1.elim h2).elim
  | ret =>
    simp only [post] at hp ⊢
    obtain ⟨σ', h1, h2⟩ := hp
    rcases h1 with h1 | h1
    · exact ⟨σ', h1, h2⟩
    · exact (h1.elim h2).elim
  | exit i =>
    simp only [post] at hp ⊢
    obtain ⟨σ', h1, h2⟩ := hp
    rcases h1 with h1 | h1
    · exact ⟨σ', h1, h2⟩
    · exact (h1.elim h2).elim
  | panic ch => exact hp
  | goto l => exact hp.elim
  | outgrown => exact hp.elim
section
variable {P : Program} {N : Value → Prop} {T : Tab} {σ : St}
/-- An operation one of whose operands no value is as. -/
theorem Step.deadV {c : Bool} {o : Oper} {x : Operand} (hx : x ∈ o.op.operands) (h : ev σ x = bot) : Step P N c σ o ⟨bot, []⟩ where
  ok := by
    rintro σ' ⟨g1, _, _⟩ B F w0 n a w _ ⟨g, r⟩
    have := ev_rep r x
    rw [g1 x hx, h] at this
    exact (bot_rep this).elim
  objs := fun p hp => by cases hp
  okk := fun σ' _ ok => Ok_bot ok o.dst
  near := fun y h k hk => (bot_refs k hk).elim
  made := fun _ k hk => (bot_refs k hk).elim
/-- An operation that looks at a box that no memory is as. -/
theorem Step.deadO {c : Bool} {o : Oper} {x : Operand} {id off : Nat} {p : List Pa} {Ty : TypeId} {sz : Nat} (hx : x ∈ o.op.operands) (hl : looks o = true) (h : ev σ x = .pt id p off) (hob : σ.obj id = some (.box Ty sz bot)) : Step P N c σ o ⟨bot, []⟩ where
  ok := by
    rintro σ' ⟨_, _, g3⟩ B F w0 n a w _ r
    have : NoRel σ' := ⟨id, Ty, sz, by rw [g3 hl x hx id (by rw [h]; simp [AV.refs])]; exact hob⟩
    exact (this.elim r).elim
  objs := fun p hp => by cases hp
  okk := fun σ' _ ok => Ok_bot ok o.dst
  near := fun y h k hk => (bot_refs k hk).elim
  made := fun _ k hk => (bot_refs k hk).elim
end
/-! ### What follows in a region -/
def isBot : AV → Bool
  | .st [1] [] => true
  | _ => false
theorem isBot_ok {x : AV} (h : isBot x = true) : x = bot := by
  unfold isBot at h; split at h
  · rfl
  · cases h
/-- Is an operand none, or does it name a box that is none? -/
def deadX (L : List (Nat × AV)) (O : List (Nat × Obj)) (lk : Bool) (x : Operand) : Bool := match ev (mkSt L O) x with
  | .pt id _ _ => lk && (match lookO O id with | some (.box _ _ y) => isBot y | _ => false)
  | y => isBot y
/-- A new slice of data. -/
def litD (T : Tab) (ops : Array Oper) (L : List (Nat × AV)) (O : List (Nat × Obj)) (o : Oper) : Option (Nat × AV) := match dstG ops L o, o.op with
  | some d, .buildSlice t m ps => match slE T t with
    | some (E, te) => match Nat.ble (m * te.size) 16777216 with
      | true => match buildS T E te.size (mkSt L O) ps.toList (List.replicate m te.zero) with
        | some ys => some (d, .dat (.sl E te.size ys))
        | none => none
      | false => none
    | none => none
  | _, _ => none
theorem AOps.litD {P : Program} {T : Tab} {ops : Array Oper} {cf : Oper → Bool} {K : AExit → St → Prop} {o : Oper} {rest : List Oper} {L : List (Nat × AV)} {O : List (Nat × Obj)} {d : Nat} {x : AV} (hT : TabOk P T) (h : Sim.litD T ops L O o = some (d, x)) (k : AOps P ops cf K rest (mkSt ((d, x) :: L) O)) :
    AOps P ops cf K (o :: rest) (mkSt L O) := by
  unfold Sim.litD at h
  split at h
  · rename_i d' t m ps hd ho
    split at h
    · rename_i E te hs
      split at h
      · rename_i hm
        split at h
        · rename_i ys hb
          simp only [Option.some.injEq, Prod.mk.injEq] at h
          obtain ⟨rfl, rfl⟩ := h
          exact AOps.lit hT ho (dstG_ok hd).1 (dstG_ok hd).2 hs hm hb k
        · cases h
      · cases h
    · cases h
  · cases h
/-- A new variable. -/
def allocD (T : Tab) (ops : Array Oper) (L : List (Nat × AV)) (O : List (Nat × Obj)) (o : Oper) : Option (Nat × Obj) := match dstG ops L o, o.op with
  | some d, .alloc E => match tget T E, lookO O d with
    | some te, none => some (d, .box E te.size (.dat te.zero))
    | _, _ => none
  | some d, .box E x => match (ev (mkSt L O) x).lies, lookO O d with
    | true, none => some (d, .box E (ev (mkSt L O) x).len (ev (mkSt L O) x))
    | _, _ => none
  | _, _ => none
theorem AOps.allocD {P : Program} {T : Tab} {ops : Array Oper} {cf : Oper → Bool} {K : AExit → St → Prop} {o : Oper} {rest : List Oper} {L : List (Nat × AV)} {O : List (Nat × Obj)} {d : Nat} {x : Obj} (hT : TabOk P T) (h : Sim.allocD T ops L O o = some (d, x)) :
    lookO O d = none ∧ (AOps P ops cf K rest (mkSt ((d, .pt d [] 0) :: L) ((d, x) :: O)) → AOps P ops cf K (o :: rest) (mkSt L O)) := by
  unfold Sim.allocD at h
  split at h
  · rename_i d' E hd ho
    split at h
    · rename_i te ht hn
      simp only [Option.some.injEq, Prod.mk.injEq] at h
      obtain ⟨rfl, rfl⟩ := h
      exact ⟨hn, fun k => AOps.alloc hT ho (dstG_ok hd).1 (dstG_ok hd).2 ht hn k⟩
    · cases h
  · rename_i d' E y hd ho
    split at h
    · rename_i hl hn
      simp only [Option.some.injEq, Prod.mk.injEq] at h
      obtain ⟨rfl, rfl⟩ := h
      exact ⟨hn, fun k => AOps.box ho (dstG_ok hd).1 (dstG_ok hd).2 rfl hl hn k⟩
    · cases h
  · cases h
def deadRest (T : Tab) (ops : Array Oper) : List (Nat × Obj) → List Oper → List (Nat × AV) → Bool
  | _, [], _ => true
  | O, o :: rest, L => match gOff ops L o with
    | true => match o.dst with
      | some d => deadRest T ops O rest ((d, .dat (.tup [])) :: L)
      | none => deadRest T ops O rest L
    | false => match gOn ops L o && o.op.operands.toList.any (deadX L O (looks o)) with
      | true => match o.dst with
        | some d => deadRest T ops O rest ((d, bot) :: L)
        | none => deadRest T ops O rest L
      | false => match opD T ops L O o with
        | some (d, x) => deadRest T ops O rest ((d, x) :: L)
        | none => match litD T ops L O o with
          | some (d, x) => deadRest T ops O rest ((d, x) :: L)
          | none => match allocD T ops L O o with
            | some (d, x) => deadRest T ops ((d, x) :: O) rest ((d, .pt d [] 0) :: L)
            | none => false
section
variable {P : Program} {T : Tab} {ops : Array Oper} {cf : Oper → Bool} {K : AExit → St → Prop} {O : List (Nat × Obj)}
theorem Step.dead {N : Value → Prop} {c : Bool} {o : Oper} {L : List (Nat × AV)} (h : o.op.operands.toList.any (deadX L O (looks o)) = true) : Step P N c (mkSt L O) o ⟨bot, []⟩ := by
  obtain ⟨x, hm', hx⟩ := List.any_eq_true.1 h
  have hm : x ∈ o.op.operands := by simpa using hm'
  unfold deadX at hx
  split at hx
  · rename_i id p off he
    simp only [Bool.and_eq_true] at hx
    obtain ⟨hl, hx⟩ := hx
    split at hx
    · rename_i Ty sz y ho
      exact Step.deadO hm hl he (ho.trans (by rw [isBot_ok hx]))
    · cases hx
  · exact Step.deadV hm (isBot_ok hx)
theorem AOps.deadRest (hT : TabOk P T) (hK : ∀ σ, NoRel σ → K .normal σ) : ∀ (O : List (Nat × Obj)) (rest : List Oper) (L : List (Nat × AV)), NoRel ⟨fun _ => .dead, lookO O⟩ → Sim.deadRest T ops O rest L = true → AOps P ops cf K rest (mkSt L O)
  | O, [], L, hO, _ => hK _ hO
  | O, o :: rest, L, hO, h => by
    unfold Sim.deadRest at h
    split at h
    · rename_i hg
      split at h
      · rename_i d hd; exact AOps.off hd hg (AOps.deadRest hT hK O rest _ hO h)
      · rename_i hd; exact AOps.off0 hd hg (AOps.deadRest hT hK O rest _ hO h)
    · split at h
      · rename_i hb
        simp only [Bool.and_eq_true] at hb
        split at h
        · rename_i d hd; exact AOps.v hd hb.1 (Step.dead hb.2) (AOps.deadRest hT hK O rest _ hO h)
        · rename_i hd
          refine AOps.eff hb.1 (Step.dead hb.2) ?_
          rw [hd]; exact AOps.deadRest hT hK O rest _ hO h
      · split at h
        · rename_i d x hx; exact AOps.pD hT hx (AOps.deadRest hT hK O rest _ hO h)
        · split at h
          · rename_i d x hx; exact AOps.litD hT hx (AOps.deadRest hT hK O rest _ hO h)
          · split at h
            · rename_i d x hx
              obtain ⟨h1, h2⟩ := AOps.allocD (cf := cf) (K := K) (rest := rest) hT hx
              refine h2 (AOps.deadRest hT hK _ rest _ ?_ h)
              obtain ⟨id, Ty, sz, hb⟩ := hO
              refine ⟨id, Ty, sz, ?_⟩
              have hne : Nat.beq id d = false := by
                cases he : Nat.beq id d with
                | false => rfl
                | true =>
                  have e := Nat.eq_of_beq_eq_true he
                  subst e
                  have hb' : lookO O id = some (.box Ty sz bot) := hb
                  rw [h1] at hb'; cases hb'
              show lookO ((d, x) :: O) id = _
              simp only [lookO, hne]
              exact hb
            · cases h
end
/-! ### A region that ends in a panic -/
/-- The last operation panics. -/
@[reducible] def panK (o : Oper) (Q : AExit → St → Prop) : AExit → St → Prop
  | .panic v, σ => Q (.panic v) σ
  | _, σ => o.guard = none ∧ ∃ x t u, o.op = .panic x ∧ ev σ x = .dat (.v (.iface t u)) ∧ panOf Q (.iface t u)

theorem AOps.wpP {P : Program} {B : Nat → Nat → Prop} {n : Nat} {F : Cx} {w0 : World} {ops : Array Oper} {cf : Oper → Bool} {K : AExit → St → Prop} {o : Oper} (hd : dstOk n ops.toList = true) {R : Exit → Act → World → Prop}
    (hN : ∀ v a' w', panOf K v → WOk B w0 w' → a'.defers = F.D → R (.panic (pan v)) a' w') : ∀ (l : List Oper) (k : Nat) (σ : St) (a : Act) (w : World), (∀ j, (l ++ [o])[j]? = ops[k + j]?) → Rel B F w0 n σ a w → AOps P ops cf (panK o K) l σ →
      wpOps P ops R (List.range' k (l.length + 1)) a w
  | [], k, σ, a, w, hl, ⟨g, r⟩, h => by
    have h0 : ops[k]? = some o := by simpa using (hl 0).symm
    obtain ⟨hg, x, t, u, ho, hx, hv⟩ := h
    rw [List.length_nil, List.range'_succ, wpOps_cons]
    unfold wpOp
    simp only [h0]
    have hw : Region.wanted o (yielded ops a.tmps) = true := by simp [Region.wanted, hg]
    rw [if_pos hw]
    refine .inl ?_
    have e := raw_eval (ev_rep r x) (by rw [hx]; rfl)
    unfold Oper.wp
    have hp : (Instr.panic (.iface t u)).run P w = .halt (.panic (.iface t u)) w := rfl
    have hrun : (execOp a.eval o).run P w = .halt (.panic (.iface t u)) w := by
      simp [execOp, ho, e, hp]
    rw [hrun, Oper.upon_panic]
    exact hN _ a w hv r.wok r.defers
  | o' :: l, k, σ, a, w, hl, r, h => by
    have h0 : ops[k]? = some o' := by simpa using (hl 0).symm
    obtain ⟨e, he, hrest⟩ := h
    rw [List.length_cons, List.range'_succ, wpOps_cons]
    refine gstep_wp (N := panOf (panK o K)) h0 (fun d hd' => dstOk_spec hd (Array.mem_toList_iff.2 (Array.mem_of_getElem? h0)) d hd') r he hN (fun a' w' r' => ?_)
    exact AOps.wpP hd hN l (k + 1) _ a' w' (fun j => by have := hl (j + 1); simpa [Nat.add_assoc, Nat.add_comm 1 j] using this) r' hrest
theorem AWp.regionP {P : Program} {B : Nat → Nat → Prop} {n : Nat} {σ : St} {Q : AExit → St → Prop} {id : Nat} {ops : Array Oper} (o : Oper) (cf : Oper → Bool) (hd : dstOk n ops.toList = true) (hl : ops.toList.getLast? = some o) (h : AOps P ops cf (panK o Q) ops.toList.dropLast σ) :
    AWp P B n (.region id ops false) σ Q := by
  intro F w0 a w r
  refine wp_region ?_
  have e : ops.toList.dropLast ++ [o] = ops.toList := by
    obtain ⟨l, hl'⟩ := List.getLast?_eq_some_iff.1 hl
    rw [hl', List.dropLast_concat]
  have := AOps.wpP (P := P) (B := B) (K := Q) (R := post B F w0 n Q) hd (fun v a' w' ⟨σ', hv⟩ h1 h2 => ⟨v, σ', rfl, hv, h1, h2⟩) ops.toList.dropLast 0 σ a w (fun j => by rw [e]; simp) r h
  have hlen : ops.toList.dropLast.length + 1 = ops.size := by
    have h1 : (ops.toList.dropLast ++ [o]).length = ops.toList.length := by rw [e]
    simpa using h1
  rw [hlen] at this
  simpa [List.range_eq_range'] using this
end Go.Sim
