/- What is proved: rules for the code of a function over abstract states: sequences, tests, blocks, loops, regions. -/
import Derived.Test.YtnhflokfcnfegaaSim10
namespace Go.Sim
open Go.RowKit

inductive AExit where
  | normal
  | exit (id : Nat)
  | ret

def post (B F : Nat → Prop) (w0 : World) (n : Nat) (Q : AExit → St → Prop) : Exit → Act → World → Prop
  | .normal, a, w => ∃ σ, Q .normal σ ∧ Rel B F w0 n σ a w
  | .exit id, a, w => ∃ σ, Q (.exit id) σ ∧ Rel B F w0 n σ a w
  | .ret, a, w => ∃ σ, Q .ret σ ∧ Rel B F w0 n σ a w
  | _, _, _ => False

def AWp (P : Program) (B : Nat → Prop) (n : Nat) (c : Code) (σ : St) (Q : AExit → St → Prop) : Prop :=
  ∀ (F : Nat → Prop) (w0 : World) (a : Act) (w : World), Rel B F w0 n σ a w → c.wp P (post B F w0 n Q) a w

/-- What is known less of a state. -/
def Sub (σ' σ : St) : Prop := ∀ (B F : Nat → Prop) (w0 : World) (n : Nat) (a : Act) (w : World), Rel B F w0 n σ a w → Rel B F w0 n σ' a w

theorem Sub.refl (σ : St) : Sub σ σ := fun _ _ _ _ _ _ h => h
theorem Sub.trans {σ1 σ2 σ3 : St} (h : Sub σ1 σ2) (k : Sub σ2 σ3) : Sub σ1 σ3 := fun B F w0 n a w r => h B F w0 n a w (k B F w0 n a w r)

@[reducible] def thenQ (K : St → Prop) (Q : AExit → St → Prop) : AExit → St → Prop
  | .normal, σ => K σ
  | e, σ => Q e σ

@[reducible] def blockQ (id : Nat) (Q : AExit → St → Prop) : AExit → St → Prop
  | .exit i, σ => if i = id then Q .normal σ else Q (.exit i) σ
  | e, σ => Q e σ

theorem ev_rep {B F : Nat → Prop} {w0 w : World} {n : Nat} {σ : St} {a : Act} {g : Gh} (h : RelG B F w0 n σ a w g) (x : Operand) : RepS w g (ev σ x) (a.eval x) := by
  cases x with
  | tmp t => exact h.slots t
  | const v =>
    simp only [ev]
    split
    · rename_i hv; simp [RepS, RepV, RepD, Act.eval, hv]
    · trivial
  | global k => simp [RepS, RepV, RepD, Act.eval, ev, Value.oneCell']
  | func f => simp [RepS, RepV, RepD, Act.eval, ev, Value.oneCell']

section
variable {P : Program} {B : Nat → Prop} {n : Nat} {σ : St} {Q : AExit → St → Prop}

theorem AWp.mono {c : Code} {Q' : AExit → St → Prop} (h : AWp P B n c σ Q) (hq : ∀ e σ, Q e σ → Q' e σ) : AWp P B n c σ Q' := by
  intro F w0 a w r
  refine wp_mono (h F w0 a w r) fun e a w hp => ?_
  cases e <;> simp only [post] at hp ⊢ <;> first | exact hp.elim | (obtain ⟨σ', h1, h2⟩ := hp; exact ⟨σ', hq _ _ h1, h2⟩)

theorem AWp.sub {c : Code} {σ' : St} (hs : Sub σ' σ) (h : AWp P B n c σ' Q) : AWp P B n c σ Q := fun F w0 a w r => h F w0 a w (hs _ _ _ _ _ _ r)

theorem AWp.seq {x y : Code} (h : AWp P B n x σ (thenQ (fun σ' => AWp P B n y σ' Q) Q)) : AWp P B n (.seq x y) σ Q := by
  intro F w0 a w r
  refine wp_seq (wp_mono (h F w0 a w r) fun e a' w' hp => ?_)
  cases e <;> simp only [post, thenQ, Exit.then] at hp ⊢ <;> first | exact hp.elim | exact hp | (obtain ⟨σ', h1, h2⟩ := hp; exact h1 F w0 a' w' h2)

theorem AWp.skip (h : Q .normal σ) : AWp P B n .skip σ Q := fun _ _ _ _ r => wp_skip ⟨σ, h, r⟩
theorem AWp.exit {id : Nat} (h : Q (.exit id) σ) : AWp P B n (.exit id) σ Q := fun _ _ _ _ r => wp_exit ⟨σ, h, r⟩
theorem AWp.ret (h : Q .ret σ) : AWp P B n .ret σ Q := fun _ _ _ _ r => wp_ret ⟨σ, h, r⟩

theorem AWp.block {id : Nat} {c : Code} (h : AWp P B n c σ (blockQ id Q)) : AWp P B n (.block id c) σ Q := by
  intro F w0 a w r
  refine wp_block (wp_mono (h F w0 a w r) fun e a' w' hp => ?_)
  cases e <;> simp only [post, blockQ, Exit.inBlock] at hp ⊢ <;> first | exact hp.elim | exact hp | skip
  rename_i i
  obtain ⟨σ', h1, h2⟩ := hp
  split at h1
  · rename_i hi; rw [if_pos hi]; exact ⟨σ', h1, h2⟩
  · rename_i hi; rw [if_neg hi]; exact ⟨σ', h1, h2⟩

theorem AWp.cond {c : Operand} {x y : Code} {b : Bool} (hc : ev σ c = .dat (.v (.bool b))) (ht : b = true → AWp P B n x σ Q) (hf : b = false → AWp P B n y σ Q) : AWp P B n (.cond c x y) σ Q := by
  intro F w0 a w r
  obtain ⟨g, r'⟩ := r
  have := raw_eval (ev_rep r' c) (by rw [hc]; rfl)
  exact wp_cond_split this (fun e => ht e F w0 a w ⟨g, r'⟩) (fun e => hf e F w0 a w ⟨g, r'⟩)

theorem AWp.condT {c : Operand} {x y : Code} (hc : ev σ c = .dat (.v (.bool true))) (h : AWp P B n x σ Q) : AWp P B n (.cond c x y) σ Q := AWp.cond hc (fun _ => h) (fun e => by cases e)
theorem AWp.condF {c : Operand} {x y : Code} (hc : ev σ c = .dat (.v (.bool false))) (h : AWp P B n y σ Q) : AWp P B n (.cond c x y) σ Q := AWp.cond hc (fun e => by cases e) (fun _ => h)

theorem wp_loop_ix {ι : Type} {c : Code} {R : Exit → Act → World → Prop} (J : ι → Act → World → Prop) (μ : ι → Nat)
    (round : ∀ x a w, J x a w → c.wp P (Exit.then (fun a' w' => ∃ y, J y a' w' ∧ μ y < μ x) R) a w) : ∀ (x : ι) (a : Act) (w : World), J x a w → (Code.loop c).wp P R a w := by
  intro x a w h₀ b k cs
  have key : ∀ m x a w, μ x = m → J x a w →
      ∃ e a' w', R e a' w' ∧ Arrives P (lone (b.at a (.code c :: .inLoop c :: k)) cs w) b k cs e a' w' := by
    intro m
    induction m using Nat.strongRecOn with
    | _ m ih =>
      intro x a w hn hI
      obtain ⟨e, a₁, w₁, hq, harr⟩ := round x a w hI b (.inLoop c :: k) cs
      cases e with
      | normal =>
        obtain ⟨y, hI₁, hlt⟩ := hq
        obtain ⟨e₂, a₂, w₂, hq₂, harr₂⟩ := ih (μ y) (hn ▸ hlt) y a₁ w₁ rfl hI₁
        exact ⟨e₂, a₂, w₂, hq₂, .of_steps (Steps.trans harr (.one step_inLoop)) harr₂⟩
      | exit id => exact ⟨_, a₁, w₁, hq, .pass (x := .inLoop c) rfl (fun _ _ => .inl (by simp)) harr⟩
      | goto l => exact ⟨_, a₁, w₁, hq, .pass (x := .inLoop c) rfl (fun _ _ => .inl (by simp)) harr⟩
      | ret => exact ⟨_, a₁, w₁, hq, .pass (x := .inLoop c) rfl (fun _ _ => .inl (by simp)) harr⟩
      | panic ch => exact ⟨_, a₁, w₁, hq, .pass (x := .inLoop c) rfl (fun _ _ => .inl (by simp)) harr⟩
      | outgrown => exact ⟨_, a₁, w₁, hq, .pass (x := .inLoop c) rfl (fun _ _ => .inl (by simp)) harr⟩
  obtain ⟨e, a', w', hq, harr⟩ := key _ x a w rfl h₀
  exact ⟨e, a', w', hq, .of_steps (.one step_loop) harr⟩

/-- A loop: 'I x' what is known at its head, 'x' going down in 'μ'. -/
theorem AWp.loop {ι : Type} {c : Code} (I : ι → St) (Inv : ι → Prop) (μ : ι → Nat) (x0 : ι) (h0 : Inv x0) (hs : Sub (I x0) σ)
    (round : ∀ x, Inv x → AWp P B n c (I x) (thenQ (fun σ' => ∃ y, Inv y ∧ μ y < μ x ∧ Sub (I y) σ') Q)) : AWp P B n (.loop c) σ Q := by
  intro F w0 a w r
  refine wp_loop_ix (fun x a w => Inv x ∧ Rel B F w0 n (I x) a w) μ ?_ x0 a w ⟨h0, hs _ _ _ _ _ _ r⟩
  rintro x a w ⟨hx, hr⟩
  refine wp_mono (round x hx F w0 a w hr) fun e a' w' hp => ?_
  cases e <;> simp only [post, thenQ, Exit.then] at hp ⊢ <;> first | exact hp.elim | exact hp | skip
  obtain ⟨σ', ⟨y, h1, h2, h3⟩, h4⟩ := hp
  exact ⟨y, ⟨h1, h3 _ _ _ _ _ _ h4⟩, h2⟩

/-! ### Regions -/

def dstOk (n : Nat) (ops : List Oper) : Bool := ops.all fun o => match o.dst with | some d => decide (d < n) | none => true

theorem dstOk_spec {n : Nat} {ops : List Oper} (h : dstOk n ops = true) {o : Oper} (ho : o ∈ ops) (d : Nat) (hd : o.dst = some d) : d < n := by
  have := List.all_eq_true.1 h o ho
  simpa [hd] using this

theorem wanted_eq {B F : Nat → Prop} {w0 w : World} {a : Act} {g : Gh} {ops : Array Oper} (h : RelG B F w0 n σ a w g) {o : Oper} {j : Nat} {want : Bool} {t : Nat} {b : Bool} (hg : o.guard = some (j, want)) (ht : (ops[j]?).bind (·.dst) = some t)
    (hs : σ.slot t = .dat (.v (.bool b))) : Region.wanted o (yielded ops a.tmps) = (b == want) := by
  have hu := h.slots t
  rw [hs] at hu
  have hu := raw_eval hu rfl
  simp only [Region.wanted, hg, yielded, ht]
  simp only [Array.getD_eq_getD_getElem?] at hu
  cases hh : a.tmps[t]? with
  | none => rw [hh] at hu; simp [undef] at hu
  | some v => rw [hh] at hu; simp at hu; subst hu; simp [hh]

theorem wanted_skip {B F : Nat → Prop} {w0 w : World} {a : Act} {g : Gh} {ops : Array Oper} (h : RelG B F w0 n σ a w g) {o : Oper} {j : Nat} {want : Bool} {t : Nat} (hg : o.guard = some (j, want)) (ht : (ops[j]?).bind (·.dst) = some t)
    (hs : σ.slot t = .dat (.tup [])) : Region.wanted o (yielded ops a.tmps) = false := by
  have hu := h.slots t
  rw [hs] at hu
  obtain ⟨us, e, hf⟩ := hu
  cases hf
  simp only [Region.wanted, hg, yielded, ht]
  simp only [Array.getD_eq_getD_getElem?] at e
  cases hh : a.tmps[t]? with
  | none => simp [hh]
  | some v => rw [hh] at e; simp at e; subst e; simp [hh]

theorem gstep_wp {F : Nat → Prop} {w0 w : World} {a : Act} {ops : Array Oper} {c : Bool} {i : Nat} {o : Oper} {e : Eff} (ho : ops[i]? = some o) (hd : ∀ d, o.dst = some d → d < n)
    (r : Rel B F w0 n σ a w) (h : GStep P ops c σ o e) {R : Exit → Act → World → Prop} {K : Act → World → Prop} (hK : ∀ a w, Rel B F w0 n (e.app o.dst σ) a w → K a w) : wpOp P ops R i K a w := by
  unfold wpOp
  simp only [ho]
  unfold GStep at h
  obtain ⟨g, rg⟩ := r
  have dead : e = skipE → K (a.put o.dst undef) w := by
    rintro rfl
    refine hK _ _ ⟨g, ?_⟩
    cases hdd : o.dst with
    | none => simpa [Eff.app, setAll, putO, Act.put, skipE] using rg
    | some d => exact RelG.put rg (x := .dat (.tup [])) ⟨[], rfl, .nil⟩ (fun k hk => by simp [AV.refs] at hk) (hd d hdd)
  split at h
  · rename_i hg
    have : Region.wanted o (yielded ops a.tmps) = true := by simp [Region.wanted, hg]
    rw [if_pos this]
    exact .inl (Oper.wp_mono hK (h.ok σ ⟨fun _ _ => rfl, fun _ _ h => h, fun _ _ _ _ _ => rfl⟩ B F w0 n a w hd ⟨g, rg⟩ R))
  · rename_i j want hg
    obtain ⟨t, h1, ⟨b, h2, h3⟩ | ⟨h2, h3⟩⟩ := h
    · rw [wanted_eq rg hg h1 h2]
      split at h3
      · rename_i hb
        rw [if_pos (by simpa using hb)]
        exact .inl (Oper.wp_mono hK (h3.ok σ ⟨fun _ _ => rfl, fun _ _ h => h, fun _ _ _ _ _ => rfl⟩ B F w0 n a w hd ⟨g, rg⟩ R))
      · rename_i hb
        rw [if_neg (by simpa using hb)]
        exact dead h3
    · rw [wanted_skip rg hg h1 h2]
      exact dead h3

theorem AAny.wp {F : Nat → Prop} {w0 : World} {ops : Array Oper} {cf : Oper → Bool} {K : St → Prop} (hd : dstOk n ops.toList = true) {R : Exit → Act → World → Prop}
    (hK : ∀ σ a w, K σ → Rel B F w0 n σ a w → R .normal a w) : ∀ (fuel : Nat) (listed : Array Bool) (σ : St) (a : Act) (w : World), Rel B F w0 n σ a w → AAny P ops cf K fuel listed σ → wpAny P .any ops R fuel listed a w
  | 0, _, _, _, _, r, h => ⟨h.1, hK _ _ _ h.2 r⟩
  | fuel + 1, listed, σ, a, w, r, h => by
    refine ⟨fun h0 => hK _ _ _ (h.1 h0) r, fun i hi => ?_⟩
    obtain ⟨_, o, ho, _⟩ := mem_ready.1 hi
    obtain ⟨e, h1, h2⟩ := h.2 i hi o ho
    exact gstep_wp ho (fun d hd' => dstOk_spec hd (Array.mem_toList_iff.2 (Array.mem_of_getElem? ho)) d hd') r h1 (fun a' w' r' => AAny.wp hd hK fuel _ _ a' w' r' h2)

theorem Rel.drawn {F : Nat → Prop} {w0 w : World} {a : Act} (r : Rel B F w0 n σ a w) : Rel B F w0 n σ a { w with drawn := w.drawn + 1 } := let ⟨g, h⟩ := r; ⟨g, h.drew⟩

theorem Fix.nil {σ : St} : Fix [] σ := fun p hp => by cases hp
theorem Fix.cons {σ : St} {own : List (Nat × Nat)} {s id : Nat} (h : ∀ k, (σ.slot s).refs k → k = id) (k : Fix own σ) : Fix ((s, id) :: own) σ := fun p hp => by
  rcases List.mem_cons.1 hp with rfl | hp
  · exact h
  · exact k p hp

/-- A region that draws its order; 'own': slots that name one object each, none of which it writes. -/
theorem AWp.regionE {id : Nat} {ops : Array Oper} (own : List (Nat × Nat)) (cf : Oper → Bool) (hm : P.follows .mixedOrders = true) (hB : lexE own cf ops = true) (hd : dstOk n ops.toList = true) (hf : Fix own σ)
    (h : AOps P ops cf (Q .normal) ops.toList σ) : AWp P B n (.region id ops true) σ Q := by
  intro F w0 a w r
  refine wp_region_any hm (AAny.wp (cf := cf) (K := Q .normal) hd (fun σ a w hq r => ⟨σ, hq, r⟩) _ _ σ a _ r.drawn ?_)
  obtain ⟨g, rg⟩ := r
  have := AAny_lex (P := P) (K := Q .normal) hB ops.toList 0 (Array.replicate ops.size false) σ (by simp) (by simp) (by simp) (fun j hj => by simp [hj]) rg.ok hf h
  simpa using this

/-- A region that draws its order. -/
theorem AWp.regionD {id : Nat} {ops : Array Oper} (cf : Oper → Bool) (hm : P.follows .mixedOrders = true) (hB : lexA cf ops = true) (hd : dstOk n ops.toList = true)
    (h : AOps P ops cf (Q .normal) ops.toList σ) : AWp P B n (.region id ops true) σ Q := AWp.regionE [] cf hm hB hd (fun p hp => by cases hp) h

theorem AOps.wp {F : Nat → Prop} {w0 : World} {ops : Array Oper} {cf : Oper → Bool} {K : St → Prop} (hd : dstOk n ops.toList = true) {R : Exit → Act → World → Prop}
    (hK : ∀ σ a w, K σ → Rel B F w0 n σ a w → R .normal a w) : ∀ (l : List Oper) (k : Nat) (σ : St) (a : Act) (w : World), (∀ j, l[j]? = ops[k + j]?) → Rel B F w0 n σ a w → AOps P ops cf K l σ → wpOps P ops R (List.range' k l.length) a w
  | [], _, σ, a, w, _, r, h => by simpa [wpOps] using hK _ _ _ h r
  | o :: l, k, σ, a, w, hl, r, h => by
    have h0 : ops[k]? = some o := by simpa using (hl 0).symm
    obtain ⟨e, he, hrest⟩ := h
    rw [List.length_cons, List.range'_succ, wpOps_cons]
    refine gstep_wp h0 (fun d hd' => dstOk_spec hd (Array.mem_toList_iff.2 (Array.mem_of_getElem? h0)) d hd') r he (fun a' w' r' => ?_)
    exact AOps.wp hd hK l (k + 1) _ a' w' (fun j => by have := hl (j + 1); simpa [Nat.add_assoc, Nat.add_comm 1 j] using this) r' hrest

/-- A region that does not. -/
theorem AWp.regionN {id : Nat} {ops : Array Oper} (cf : Oper → Bool) (hd : dstOk n ops.toList = true) (h : AOps P ops cf (Q .normal) ops.toList σ) : AWp P B n (.region id ops false) σ Q := by
  intro F w0 a w r
  refine wp_region ?_
  have := AOps.wp (P := P) (B := B) (K := Q .normal) (R := post B F w0 n Q) hd (fun σ a w hq r => ⟨σ, hq, r⟩) ops.toList 0 σ a w (by simp) r h
  simpa [List.range_eq_range'] using this

end
end Go.Sim
