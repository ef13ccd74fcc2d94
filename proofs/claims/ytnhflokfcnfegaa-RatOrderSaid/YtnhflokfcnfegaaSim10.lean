/- What is proved: two operations that are apart may change places; so one order serves all. -/
import Derived.Test.YtnhflokfcnfegaaSim9
namespace Go.Sim
open Go.RowKit

theorem Agree.trans {o : Oper} {σ1 σ2 σ3 : St} (h : Agree o σ1 σ2) (k : Agree o σ2 σ3) : Agree o σ1 σ3 :=
  ⟨fun x hx => (k.1 x hx).trans (h.1 x hx), fun d hd h0 => k.2.1 d hd (h.2.1 d hd h0),
    fun hl x hx id hr => (k.2.2 hl x hx id (by rw [h.1 x hx]; exact hr)).trans (h.2.2 hl x hx id hr)⟩

theorem Step.congr {P : Program} {c : Bool} {o : Oper} {e : Eff} {σ1 σ2 : St} (h : Step P c σ1 o e) (k : Agree o σ1 σ2) : Step P c σ2 o e where
  ok := fun σ' ha => h.ok σ' (k.trans ha)
  objs := fun p hp => by
    rcases h.objs p hp with ⟨h1, h2⟩ | ⟨h1, h2, x, hx, h3⟩
    · exact .inl ⟨h1, k.2.1 _ h1 h2⟩
    · exact .inr ⟨h1, h2, x, hx, by rw [k.1 x (wr_mem hx)]; exact h3⟩
  okk := fun σ' ha => h.okk σ' (k.trans ha)

/-- An operation's effect, or that of one that is passed by. -/
def SD (P : Program) (c : Bool) (σ : St) (o : Oper) (e : Eff) : Prop := Step P c σ o e ∨ e = skipE

theorem SD.congr {P : Program} {c : Bool} {o : Oper} {e : Eff} {σ1 σ2 : St} (h : SD P c σ1 o e) (k : Agree o σ1 σ2) : SD P c σ2 o e := h.imp (fun h => h.congr k) id
theorem SD.objs {P : Program} {c : Bool} {o : Oper} {e : Eff} {σ : St} (h : SD P c σ o e) : ∀ p ∈ e.objs, (o.dst = some p.1 ∧ σ.obj p.1 = none) ∨ (c = true ∧ looks o = true ∧ ∃ x ∈ wr o, (ev σ x).refs p.1) := by
  rcases h with h | rfl
  · exact h.objs
  · intro p hp; simp [skipE] at hp

section
variable {P : Program} {ops : Array Oper}

/-- Slots that hold what names one object, or none, whatever the region has done. -/
def Fix (own : List (Nat × Nat)) (σ : St) : Prop := ∀ p ∈ own, ∀ k, (σ.slot p.1).refs k → k = p.2

/-- The objects that an operand may name. -/
def onm (own : List (Nat × Nat)) : Operand → Option (List Nat)
  | .tmp t => (own.find? (fun p => Nat.beq p.1 t)).map (fun p => [p.2])
  | _ => some []

theorem onm_spec {own : List (Nat × Nat)} {σ : St} (hf : Fix own σ) {z : Operand} {l : List Nat} (h : onm own z = some l) {k : Nat} (hk : (ev σ z).refs k) : k ∈ l := by
  cases z with
  | tmp t =>
    simp only [onm, Option.map_eq_some_iff] at h
    obtain ⟨p, hp, rfl⟩ := h
    have h1 : p.1 = t := by have := List.find?_some hp; exact Nat.eq_of_beq_eq_true this
    have := hf p (List.mem_of_find?_eq_some hp) k (by rw [h1]; exact hk)
    simp [this]
  | const v => simp only [ev] at hk; split at hk <;> simp [AV.refs] at hk
  | global v => simp [ev, AV.refs] at hk
  | func v => simp [ev, AV.refs] at hk

/-- What the one may write, the other does not name. -/
def sep (own : List (Nat × Nat)) (x y : Oper) : Bool :=
  (wr x).all fun z => match onm own z with
    | some l => y.op.operands.toList.all fun z' => match onm own z' with | some l' => l.all (fun a => !l'.contains a) | none => false
    | none => false

theorem sep_spec {own : List (Nat × Nat)} {σ : St} (hf : Fix own σ) {x y : Oper} (h : sep own x y = true) {z z' : Operand} (hz : z ∈ wr x) (hz' : z' ∈ y.op.operands) {k : Nat} (hk : (ev σ z).refs k) : ¬ (ev σ z').refs k := by
  intro hk'
  have h1 := List.all_eq_true.1 h z hz
  split at h1
  · rename_i l hl
    have h2 := List.all_eq_true.1 h1 z' (by simpa using hz')
    split at h2
    · rename_i l' hl'
      have := List.all_eq_true.1 h2 k (onm_spec hf hl hk)
      have h3 := onm_spec hf hl' hk'
      simp [h3] at this
    · cases h2
  · cases h1

/-- May two operations, neither of which waits for the other one, change places? -/
def indep (ops : Array Oper) (own : List (Nat × Nat)) (cf : Oper → Bool) (x y : Oper) : Bool :=
  x.apart ops y && (!(cf x && (looks y || cf y)) || sep own x y) && (!(cf y && (looks x || cf x)) || sep own y x)

theorem mem_looks {o : Oper} {t : Tmp} (h : Operand.tmp t ∈ o.op.operands) : t ∈ o.looksAt ops :=
  List.mem_append_left _ (List.mem_filterMap.2 ⟨.tmp t, by simpa using h, rfl⟩)

/-- Behind 'x' an operation that is apart from it sees what it saw. -/
theorem agree_back {cx : Bool} {x y : Oper} {e : Eff} {σ : St} (ok : σ.Ok) (hx : SD P cx σ x e) (hd : ∀ d, x.dst = some d → d ∉ y.looksAt ops)
    {own : List (Nat × Nat)} (hf : Fix own σ) (hc : ¬ (cx = true ∧ looks y = true) ∨ sep own x y = true) : Agree y (e.app x.dst σ) σ ∧ Agree y σ (e.app x.dst σ) ∨ (∃ d, x.dst = some d ∧ y.dst = some d) := by
  by_cases hdd : ∃ d, x.dst = some d ∧ y.dst = some d
  · exact .inr hdd
  have hev : ∀ z ∈ y.op.operands, ev (e.app x.dst σ) z = ev σ z := fun z hz => ev_app e x.dst σ z (fun t ht hzt => hd t ht (mem_looks (hzt ▸ hz)))
  have hobj : looks y = true → ∀ z ∈ y.op.operands, ∀ k, (ev σ z).refs k → (e.app x.dst σ).obj k = σ.obj k := by
    intro hl z hz k hr
    rw [app_obj]
    refine setAll_obj _ _ _ (fun p hp hpk => ?_)
    rcases hx.objs p hp with ⟨h1, h2⟩ | ⟨h1, _, v, hv, h3⟩
    · have : σ.obj k ≠ none := by
        cases z with
        | tmp t => exact ok.1 t k hr
        | const v => simp only [ev] at hr; split at hr <;> simp [AV.refs] at hr
        | global v => simp [ev, AV.refs] at hr
        | func v => simp [ev, AV.refs] at hr
      exact this (hpk ▸ h2)
    · rcases hc with hc | hc
      · exact hc ⟨h1, hl⟩
      · exact sep_spec hf hc hv hz (hpk ▸ h3) hr
  refine .inl ⟨⟨fun z hz => (hev z hz).symm, fun d hd' h0 => ?_, fun hl z hz k hr => (hobj hl z hz k (by rw [← hev z hz]; exact hr)).symm⟩, ⟨hev, fun d hd' h0 => ?_, hobj⟩⟩
  · rw [app_obj] at h0
    cases h : σ.obj d with
    | none => rfl
    | some o => exact absurd h0 (setAll_some _ _ _ (by simp [h]))
  · rw [app_obj, setAll_obj]
    · exact h0
    · intro p hp hpk
      rcases hx.objs p hp with ⟨h1, _⟩ | ⟨h1, h2, z, hz, h3⟩
      · exact hdd ⟨d, by rw [h1, hpk], hd'⟩
      · have : σ.obj p.1 ≠ none := by
          cases z with
          | tmp t => exact ok.1 t _ h3
          | const v => simp only [ev] at h3; split at h3 <;> simp [AV.refs] at h3
          | global v => simp [ev, AV.refs] at h3
          | func v => simp [ev, AV.refs] at h3
        exact this (hpk ▸ h0)

theorem indep_spec {own : List (Nat × Nat)} {cf : Oper → Bool} {x y : Oper} (h : indep ops own cf x y = true) :
    (∀ d, x.dst = some d → d ∉ y.looksAt ops) ∧ (∀ d, x.dst = some d → y.dst ≠ some d) ∧ (∀ d, y.dst = some d → d ∉ x.looksAt ops) ∧
      (¬ (cf x = true ∧ looks y = true) ∨ sep own x y = true) ∧ (¬ (cf y = true ∧ looks x = true) ∨ sep own y x = true) ∧ (¬ (cf x = true ∧ cf y = true) ∨ sep own x y = true) := by
  simp only [indep, Bool.and_eq_true, Bool.or_eq_true, Bool.not_eq_true', Bool.and_eq_false_iff, Bool.or_eq_false_iff] at h
  obtain ⟨⟨h1, h2⟩, h3⟩ := h
  obtain ⟨a1, a2, a3⟩ := Oper.apart_spec h1
  refine ⟨a1, a2, a3, ?_, ?_, ?_⟩
  · rcases h2 with h | h
    · left; rintro ⟨k1, k2⟩; rcases h with h | h <;> simp_all
    · exact .inr h
  · rcases h3 with h | h
    · left; rintro ⟨k1, k2⟩; rcases h with h | h <;> simp_all
    · exact .inr h
  · rcases h2 with h | h
    · left; rintro ⟨k1, k2⟩; rcases h with h | h <;> simp_all
    · exact .inr h

theorem setAll_swap : ∀ (ps qs : List (Nat × Obj)) (σ : St), (∀ p ∈ ps, ∀ q ∈ qs, p.1 ≠ q.1) → ∀ k, (setAll (setAll σ ps) qs).obj k = (setAll (setAll σ qs) ps).obj k := by
  intro ps qs σ h k
  by_cases hp : ∃ p ∈ ps, p.1 = k
  · obtain ⟨p, hp, rfl⟩ := hp
    rw [setAll_obj qs _ _ (fun q hq e => h p hp q hq e.symm)]
    exact setAll_congr ps _ _ _ (setAll_obj qs _ _ (fun q hq e => h p hp q hq e.symm)).symm
  · rw [setAll_obj ps (setAll σ qs) k (fun p hp' e => hp ⟨p, hp', e⟩)]
    exact setAll_congr qs _ _ _ (setAll_obj ps _ _ (fun p hp' e => hp ⟨p, hp', e⟩))

theorem app_swap {x y : Oper} {ex ey : Eff} {σ : St} (hd : ∀ d, x.dst = some d → y.dst ≠ some d) (ho : ∀ p ∈ ex.objs, ∀ q ∈ ey.objs, p.1 ≠ q.1) :
    ey.app y.dst (ex.app x.dst σ) = ex.app x.dst (ey.app y.dst σ) := by
  apply St.ext
  · intro i
    simp only [app_slot]
    by_cases h1 : x.dst = some i
    · simp only [if_pos h1, if_neg (hd i h1)]
    · simp only [if_neg h1]
  · intro i
    simp only [app_obj]
    have e1 : ∀ (τ : St) (d : Option Nat) (sv : AV) (qs : List (Nat × Obj)), (setAll (putO τ d sv) qs).obj i = (setAll τ qs).obj i := fun τ d sv qs => setAll_congr qs _ _ i (by rw [putO_obj])
    unfold Eff.app
    rw [e1, e1]
    exact setAll_swap ex.objs ey.objs σ ho i

/-- Two operations that are apart, each of which has its effect here, change places. -/
theorem SD.swap {own : List (Nat × Nat)} {cf : Oper → Bool} {x y : Oper} {ex ey : Eff} {σ : St} (ok : σ.Ok) (hf : Fix own σ) (hi : indep ops own cf x y = true) (hx : SD P (cf x) σ x ex) (hy : SD P (cf y) (ex.app x.dst σ) y ey) :
    Agree y (ex.app x.dst σ) σ ∧ Agree x σ (ey.app y.dst σ) ∧ ey.app y.dst (ex.app x.dst σ) = ex.app x.dst (ey.app y.dst σ) := by
  obtain ⟨a1, a2, a3, a4, a5, a6⟩ := indep_spec hi
  rcases agree_back ok hx a1 hf a4 with ⟨g1, g2⟩ | ⟨d, h1, h2⟩
  · have hy' := hy.congr g1
    rcases agree_back ok hy' a3 hf a5 with ⟨g3, g4⟩ | ⟨d, h1, h2⟩
    · refine ⟨g1, g4, app_swap a2 ?_⟩
      intro p hp q hq e
      have named : ∀ (z : Oper) (id : Nat), (∃ x ∈ wr z, (ev σ x).refs id) → σ.obj id ≠ none := by
        rintro z id ⟨v, _, hv⟩
        cases v with
        | tmp t => exact ok.1 t _ hv
        | const v => simp only [ev] at hv; split at hv <;> simp [AV.refs] at hv
        | global v => simp [ev, AV.refs] at hv
        | func v => simp [ev, AV.refs] at hv
      rcases hx.objs p hp with ⟨h1, h2⟩ | ⟨h1, h2, h3⟩ <;> rcases hy'.objs q hq with ⟨k1, k2⟩ | ⟨k1, k2, k3⟩
      · exact a2 _ h1 (by rw [k1, e])
      · exact named _ _ k3 (by rw [← e]; exact h2)
      · exact named _ _ h3 (by rw [e]; exact k2)
      · rcases a6 with a6 | a6
        · exact a6 ⟨h1, k1⟩
        · obtain ⟨v, hv, h4⟩ := h3
          obtain ⟨v', hv', h5⟩ := k3
          exact sep_spec hf a6 hv (wr_mem hv') (e ▸ h4) h5
    · exact absurd h1 (a2 d h2)
  · exact absurd h2 (a2 d h1)

theorem wantSlot {x y : Oper} {e : Eff} {σ : St} {j : Nat} {want : Bool} {t : Nat} (hg : y.guard = some (j, want)) (ht : (ops[j]?).bind (·.dst) = some t) (hd : ∀ d, x.dst = some d → d ∉ y.looksAt ops) :
    (e.app x.dst σ).slot t = σ.slot t := by
  rw [app_slot, if_neg]
  intro h
  refine hd t h (List.mem_append_right _ ?_)
  simp [hg, ht]

theorem GStep.sd {c : Bool} {σ : St} {o : Oper} {e : Eff} (h : GStep P ops c σ o e) : SD P c σ o e := by
  unfold GStep at h
  split at h
  · exact .inl h
  · obtain ⟨t, _, ⟨b, _, h⟩ | ⟨_, h⟩⟩ := h
    · split at h
      · exact .inl h
      · exact .inr h
    · exact .inr h

theorem GStep.congr {c : Bool} {σ σ' : St} {o : Oper} {e : Eff} (h : GStep P ops c σ o e) (k : Agree o σ σ')
    (hs : ∀ j want t, o.guard = some (j, want) → (ops[j]?).bind (·.dst) = some t → σ'.slot t = σ.slot t) : GStep P ops c σ' o e := by
  unfold GStep at *
  split
  · rename_i hg; rw [hg] at h; exact h.congr k
  · rename_i j want hg
    rw [hg] at h
    obtain ⟨t, h1, ⟨b, h2, h3⟩ | ⟨h2, h3⟩⟩ := h
    · refine ⟨t, h1, .inl ⟨b, by rw [hs j want t hg h1]; exact h2, ?_⟩⟩
      split at h3
      · rename_i hb; rw [if_pos hb]; exact h3.congr k
      · rename_i hb; rw [if_neg hb]; exact h3
    · exact ⟨t, h1, .inr ⟨by rw [hs j want t hg h1]; exact h2, h3⟩⟩

theorem GStep.swap {own : List (Nat × Nat)} {cf : Oper → Bool} {x y : Oper} {ex ey : Eff} {σ : St} (ok : σ.Ok) (hf : Fix own σ) (hi : indep ops own cf x y = true) (hx : GStep P ops (cf x) σ x ex) (hy : GStep P ops (cf y) (ex.app x.dst σ) y ey) :
    GStep P ops (cf y) σ y ey ∧ GStep P ops (cf x) (ey.app y.dst σ) x ex ∧ ey.app y.dst (ex.app x.dst σ) = ex.app x.dst (ey.app y.dst σ) := by
  obtain ⟨a1, a2, a3, a4, a5, a6⟩ := indep_spec hi
  obtain ⟨g1, g2, g3⟩ := SD.swap ok hf hi hx.sd hy.sd
  exact ⟨hy.congr g1 (fun j want t hg ht => (wantSlot hg ht a1).symm), hx.congr g2 (fun j want t hg ht => wantSlot hg ht a3), g3⟩

theorem GStep.ok {c : Bool} {σ : St} {o : Oper} {e : Eff} (h : GStep P ops c σ o e) (ok : σ.Ok) : (e.app o.dst σ).Ok := by
  rcases h.sd with h | rfl
  · exact h.okk σ ⟨fun _ _ => rfl, fun _ _ h => h, fun _ _ _ _ _ => rfl⟩ ok
  · refine ⟨fun i k hk => ?_, ?_⟩
    · rw [app_slot] at hk
      rw [app_obj]
      split at hk
      · simp [skipE, AV.refs] at hk
      · exact ok.1 i k hk
    · rw [app_obj]; exact ok.2

/-! ### Which operations wait for one -/

/-- Those among the first 'n' operations that wait for operation 'i', at once or through others. -/
def descs (ops : Array Oper) (i : Nat) : Nat → List Nat
  | 0 => []
  | j + 1 => match ops[j]? with
    | some o => if o.after.any (fun e => Region.binds .any e && (e.on == i || (descs ops i j).contains e.on)) then j :: descs ops i j else descs ops i j
    | none => descs ops i j

/-- What is listed has all listed that it waited for. -/
def Closed (ops : Array Oper) (listed : Array Bool) : Prop := ∀ j o, ops[j]? = some o → listed.getD j false = true → ∀ e ∈ o.after, Region.binds .any e = true → listed.getD e.on false = true

theorem descs_spec {listed : Array Bool} (hc : Closed ops listed) (i : Nat) : ∀ (n j : Nat), j ∈ descs ops i n → (j ∈ Region.ready .any ops listed ∨ listed.getD j false = true) → listed.getD i false = true
  | 0, j, h, _ => by simp [descs] at h
  | m + 1, j, h, hj => by
    simp only [descs] at h
    split at h
    · rename_i o ho
      split at h
      · rename_i hany
        rcases List.mem_cons.1 h with rfl | h
        · obtain ⟨e, he, hb⟩ := Array.any_eq_true'.1 hany
          simp only [Bool.and_eq_true, Bool.or_eq_true, beq_iff_eq, List.contains_iff_mem] at hb
          have hon : listed.getD e.on false = true := by
            rcases hj with hj | hj
            · obtain ⟨_, o', ho', hall⟩ := mem_ready.1 hj
              rw [ho] at ho'; cases ho'
              exact hall e he hb.1
            · exact hc _ o ho hj e he hb.1
          rcases hb.2 with rfl | hb2
          · exact hon
          · exact descs_spec hc i _ e.on hb2 (.inr hon)
        · exact descs_spec hc i m j h hj
      · exact descs_spec hc i m j h hj
    · exact descs_spec hc i m j h hj

theorem Closed.set {listed : Array Bool} (hc : Closed ops listed) {i : Nat} (hi : i ∈ Region.ready .any ops listed) : Closed ops (listed.setIfInBounds i true) := by
  intro j o ho hj e he hb
  by_cases hij : i = j
  · subst hij
    obtain ⟨_, o', ho', hall⟩ := mem_ready.1 hi
    rw [ho] at ho'; cases ho'
    exact getD_set_true (hall e he hb)
  · rw [getD_set_ne false hij] at hj
    exact getD_set_true (hc j o ho hj e he hb)

theorem not_ready_of_desc {listed : Array Bool} (hc : Closed ops listed) {i j n : Nat} (hi : i ∈ Region.ready .any ops listed) (hj : j ∈ Region.ready .any ops listed) (hd : j ∈ descs ops i n) : False := by
  have h1 := descs_spec hc i _ j hd (.inl hj)
  have h0 := (mem_ready.1 hi).1
  rcases Nat.lt_or_ge i listed.size with h' | h'
  · simp [h'] at h0 h1; rw [h0] at h1; cases h1
  · simp [Array.getElem?_eq_none h'] at h1

/-- An operation that may come up now may be taken first. -/
theorem Fix.app {own : List (Nat × Nat)} {σ : St} (hf : Fix own σ) {o : Oper} (e : Eff) (h : ∀ p ∈ own, o.dst ≠ some p.1) : Fix own (e.app o.dst σ) := by
  intro p hp k hk
  rw [app_slot, if_neg (h p hp)] at hk
  exact hf p hp k hk

theorem AAny_first {own : List (Nat × Nat)} (hw : ∀ (j : Nat) oj, ops[j]? = some oj → ∀ p ∈ own, oj.dst ≠ some p.1) {cf : Oper → Bool} {K : St → Prop} {i : Nat} {oi : Oper} (hi : ops[i]? = some oi) :
    ∀ (fuel : Nat) (listed : Array Bool) (σ : St) (e : Eff), σ.Ok → Fix own σ → Closed ops listed →
      (∀ j oj, ops[j]? = some oj → j ≠ i → listed.getD j true = false → j ∈ descs ops i ops.size ∨ indep ops own cf oi oj = true) →
      i ∈ Region.ready .any ops listed → GStep P ops (cf oi) σ oi e →
      AAny P ops cf K fuel (listed.setIfInBounds i true) (e.app oi.dst σ) → AAny P ops cf K (fuel + 1) listed σ := by
  intro fuel
  induction fuel with
  | zero =>
    intro listed σ e ok hf hc hfree hr hy H
    refine ⟨fun h => (by rw [h] at hr; cases hr), fun j hj o ho => ?_⟩
    by_cases hji : j = i
    · subst hji; rw [hi] at ho; cases ho; exact ⟨e, hy, H⟩
    · have := ready_mono hj hji
      rw [H.1] at this
      cases this
  | succ fuel ih =>
    intro listed σ e ok hf hc hfree hr hy H
    refine ⟨fun h => (by rw [h] at hr; cases hr), fun j hj oj hoj => ?_⟩
    by_cases hji : j = i
    · subst hji; rw [hi] at hoj; cases hoj; exact ⟨e, hy, H⟩
    · obtain ⟨ej, h1, h2⟩ := H.2 j (ready_mono hj hji) oj hoj
      have hjun := (mem_ready.1 hj).1
      have hind := (hfree j oj hoj hji hjun).resolve_left (fun hd => not_ready_of_desc hc hr hj hd)
      obtain ⟨s1, s2, s3⟩ := GStep.swap ok hf hind hy h1
      refine ⟨ej, s1, ih (listed.setIfInBounds j true) (ej.app oj.dst σ) e (s1.ok ok) (hf.app ej (hw j oj hoj)) (hc.set hj) ?_ (ready_mono hr (Ne.symm hji)) s2 ?_⟩
      · intro k ok' hk hki hun
        refine hfree k ok' hk hki ?_
        by_cases hjk : j = k
        · subst hjk; exact hjun
        · rw [getD_set_ne true hjk] at hun; exact hun
      · rw [Array.setIfInBounds_comm _ _ hji, ← s3]
        exact h2

/-- The test: the text's order is one that may be drawn, and each operation may change places with all that do not wait for it. -/
def lexE (own : List (Nat × Nat)) (cf : Oper → Bool) (ops : Array Oper) : Bool :=
  (ops.toList.all fun o => match o.dst with | some d => own.all (fun p => !Nat.beq p.1 d) | none => true) && (List.range ops.size).all fun i => match ops[i]? with
    | none => true
    | some oi => oi.after.all (fun e => !Region.binds .any e || decide (e.on < i)) &&
      let ds := descs ops i ops.size
      (List.range ops.size).all fun j => j ≤ i || ds.contains j || match ops[j]? with
        | some oj => indep ops own cf oi oj
        | none => true

def lexA (cf : Oper → Bool) (ops : Array Oper) : Bool := lexE [] cf ops

def doneTo (n k : Nat) : Array Bool := (List.ofFn fun i : Fin n => decide (i.val < k)).toArray

theorem lexE_own {own : List (Nat × Nat)} {cf : Oper → Bool} (hB : lexE own cf ops = true) : ∀ (j : Nat) oj, ops[j]? = some oj → ∀ p ∈ own, oj.dst ≠ some p.1 := by
  intro j oj hoj p hp hd
  simp only [lexE, Bool.and_eq_true] at hB
  have h1 := List.all_eq_true.1 hB.1 oj (by simpa using Array.mem_of_getElem? hoj)
  rw [hd] at h1
  have h2 := List.all_eq_true.1 h1 p hp
  simp [Nat.beq_refl] at h2

theorem AAny_lex {own : List (Nat × Nat)} {cf : Oper → Bool} {K : St → Prop} (hB : lexE own cf ops = true) : ∀ (l : List Oper) (k : Nat) (listed : Array Bool) (σ : St), (∀ j, l[j]? = ops[k + j]?) → k + l.length = ops.size →
    listed.size = ops.size → (∀ j, j < ops.size → listed.getD j false = decide (j < k)) → σ.Ok → Fix own σ → AOps P ops cf K l σ → AAny P ops cf K l.length listed σ
  | [], k, listed, σ, hl, hk, hls, hd, ok, hf, h => by
    refine ⟨?_, h⟩
    rw [List.eq_nil_iff_forall_not_mem]
    intro j hj
    obtain ⟨h0, o, ho, _⟩ := mem_ready.1 hj
    have hlt : j < ops.size := (Array.getElem?_eq_some_iff.1 ho).1
    have := hd j hlt
    have hlt2 : j < listed.size := by omega
    simp only [List.length_nil, Nat.add_zero] at hk
    have h1 : decide (j < k) = true := by simp; omega
    rw [h1] at this
    simp [hlt2] at h0 this
    rw [this] at h0
    cases h0
  | o :: l, k, listed, σ, hl, hk, hls, hd, ok, hf, h => by
    have hown := lexE_own hB
    have hB0 := hB
    simp only [lexE, Bool.and_eq_true] at hB0
    have hB' := hB0.2
    have h0 : ops[k]? = some o := by simpa using (hl 0).symm
    have hklt : k < ops.size := (Array.getElem?_eq_some_iff.1 h0).1
    obtain ⟨e, he, hrest⟩ := h
    have hBk := List.all_eq_true.1 hB' k (by simpa using hklt)
    simp only [h0, Bool.and_eq_true] at hBk
    obtain ⟨hB1, hB2⟩ := hBk
    have hready : k ∈ Region.ready .any ops listed := by
      refine mem_ready.2 ⟨?_, o, h0, fun e' he' hb => ?_⟩
      · have := hd k hklt
        have hlt2 : k < listed.size := by omega
        simp [hlt2] at this ⊢
        exact this
      · have := Array.all_eq_true'.1 hB1 e' he'
        simp only [hb, Bool.not_true, Bool.false_or, decide_eq_true_eq] at this
        rw [hd _ (by omega)]
        simpa using this
    have hclosed : Closed ops listed := by
      intro j oj hoj hj e' he' hb
      have hjlt : j < ops.size := (Array.getElem?_eq_some_iff.1 hoj).1
      rw [hd j hjlt] at hj
      have hBj := List.all_eq_true.1 hB' j (by simpa using hjlt)
      simp only [hoj, Bool.and_eq_true] at hBj
      have := Array.all_eq_true'.1 hBj.1 e' he'
      simp only [hb, Bool.not_true, Bool.false_or, decide_eq_true_eq] at this hj
      rw [hd _ (by omega)]
      simp; omega
    refine AAny_first hown h0 l.length listed σ e ok hf hclosed ?_ hready he ?_
    · intro j oj hoj hjk hun
      have hjlt : j < ops.size := (Array.getElem?_eq_some_iff.1 hoj).1
      have hjk' : k < j := by
        have := hd j hjlt
        have hlt2 : j < listed.size := by omega
        simp [hlt2] at hun this
        rw [hun] at this
        simp at this
        omega
      have := List.all_eq_true.1 hB2 j (by simpa using hjlt)
      simp only [hoj, Bool.or_eq_true, decide_eq_true_eq, List.contains_iff_mem] at this
      rcases this with (h | h) | h
      · omega
      · exact .inl h
      · exact .inr h
    · refine AAny_lex hB l (k + 1) _ _ (fun j => by have := hl (j + 1); simpa [Nat.add_assoc, Nat.add_comm 1 j] using this) (by simp at hk; omega) (by simpa using hls) ?_ (he.ok ok) (hf.app e (hown k o h0)) hrest
      intro j hj
      by_cases hkj : k = j
      · subst hkj; simp [hls, hj]
      · rw [getD_set_ne false hkj, hd j hj]
        congr 1
        simp; omega

end
end Go.Sim
