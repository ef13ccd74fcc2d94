/- What is proved: the step rules of the last text for states that are written as lists; one's own slices shared; a cut between two parts of a code. -/
import Derived.Test.YtnhflokfcnfegaaSim23
namespace Go.Sim
open Go.RowKit

section
variable {P : Program} {T : Tab} {ops : Array Oper} {cf : Oper → Bool} {K : St → Prop} {o : Oper} {rest : List Oper} {L : List (Nat × AV)} {O : List (Nat × Obj)}

theorem AOps.cut (hT : TabOk P T) {d : Nat} {t E E' : TypeId} {te : TE} {x : Operand} {lo hi : Option Operand} {l h sz : Nat} {xs : List DV} (ho : o.op = .slice t x lo hi none) (hd : o.dst = some d) (hg : gOn ops L o = true) (hs : slE T t = some (E, te))
    (hx : ev (mkSt L O) x = .dat (.sl E' sz xs)) (hsz : Nat.beq sz te.size = true) (hlo : loOk (mkSt L O) lo l) (hhi : hiOk (mkSt L O) xs.length hi h) (h1 : l ≤ h) (h2 : h ≤ xs.length) {zs : List DV} (ez : (xs.drop l).take (h - l) = zs)
    (k : AOps P ops cf K rest (mkSt ((d, .dat (.sl E' sz zs)) :: L) O)) : AOps P ops cf K (o :: rest) (mkSt L O) := by
  have e := Nat.eq_of_beq_eq_true hsz
  subst e ez
  exact AOps.v hd hg (Step.cut hT ho hs hx hlo hhi h1 h2) k

theorem AOps.eqst {d : Nat} {op : BinOp} {t t' : TypeId} {x y : Operand} {u v : DV} {b : Bool} (hop : op = .eql ∨ op = .neq) (ho : o.op = .binOp op t x y t') (hd : o.dst = some d) (hg : gOn ops L o = true) (hx : ev (mkSt L O) x = .dat u) (hy : ev (mkSt L O) y = .dat v)
    (hu : u.agg = true) (hv : v.agg = true) (hgu : P.eqGuardType P.depth t = false) (h : EqOk P 10000 t u v b) (k : ∀ c, (if op = .neq then !b else b) = c → AOps P ops cf K rest (mkSt ((d, .dat (.v (.bool c))) :: L) O)) : AOps P ops cf K (o :: rest) (mkSt L O) :=
  AOps.v hd hg (Step.eqst hop ho hx hy hu hv hgu h) (k _ rfl)

theorem AOps.cat {d : Nat} {t t' : TypeId} {x y : Operand} {u v : ByteArray} (ho : o.op = .binOp .add t x y t') (hd : o.dst = some d) (hg : gOn ops L o = true) (hx : ev (mkSt L O) x = .dat (.v (.string u))) (hy : ev (mkSt L O) y = .dat (.v (.string v)))
    (h : u.size + v.size ≤ 9223372036854775807) (k : AOps P ops cf K rest (mkSt ((d, .dat (.v (.string (u ++ v)))) :: L) O)) : AOps P ops cf K (o :: rest) (mkSt L O) :=
  AOps.v hd hg (Step.cat ho hx hy h) k

/-- What is read at a place of one's own slice. -/
theorem AOps.loadrow (hT : TabOk P T) {d : Nat} {t : TypeId} {te : TE} {x : Operand} {id m off sz : Nat} {E : TypeId} {xs : List DV} {z : DV} (ho : o.op = .load t x) (hd : o.dst = some d) (hg : gOn ops L o = true) (ht : tget T t = some te) (hx : ev (mkSt L O) x = .pt id [.idx m] off)
    (hob : lookO O id = some (.row E sz xs)) (hoff : off = m * sz) (hz : xs[m]? = some z) (hm : aggMatch te (.dat z) = true) (k : AOps P ops cf K rest (mkSt ((d, .dat z) :: L) O)) : AOps P ops cf K (o :: rest) (mkSt L O) := by
  refine AOps.p hT hd hg ?_ k
  have hob' : (mkSt L O).obj id = some (.row E sz xs) := hob
  simp [opV, ho, opLoad, ht, hx, hob', contentOf, locA, locD, hz, hoff, hm]

theorem AWp.freeze {n : Nat} {c : Code} {Q : AExit → St → Prop} (i id : Nat) {E : TypeId} {sz : Nat} {xs : List DV} (hi : look L i = .oref id) (ho : lookO O id = some (.row E sz xs))
    (h : AWp P NoB n c (mkSt ((i, .dat (.sl E sz xs)) :: L) ((id, .gone) :: O)) Q) : AWp P NoB n c (mkSt L O) Q := by
  rintro F w0 a w ⟨g, r⟩
  obtain ⟨r', hrep⟩ := r.freeze (fun k hk => hk) ho
  refine h F w0 a w ⟨_, { os := r'.os, tape := r'.tape, output := r'.output, size := r'.size, old := r'.old, n := r'.n, defers := r'.defers, sF := r'.sF, sB := r'.sB, own := r'.own, dj := r'.dj, slots := fun j => ?_, objs := r'.objs, ok := ⟨fun j k hk => ?_, r'.ok.2⟩, hv := r'.hv }⟩
  · have hs := r'.slots j
    simp only [mkSt, look] at hs ⊢
    split
    · rename_i hj
      have := Nat.eq_of_beq_eq_true hj
      subst this
      have hs' : RepS w _ (look L j) (a.tmps.getD j undef) := hs
      rw [hi] at hs'
      simp only [RepS] at hs' ⊢
      simp only [RepV]
      rw [hs']
      exact hrep
    · exact hs
  · simp only [mkSt, look] at hk
    split at hk
    · simp [AV.refs] at hk
    · exact r'.ok.1 j k hk

/-- Two parts, with what is known between them told in full. -/
theorem AWp.cutseq {B : Nat → Prop} {n : Nat} {x y : Code} {σ : St} {Q : AExit → St → Prop} {ι : Type} (I : ι → St) (Inv : ι → Prop) (h1 : AWp P B n x σ (thenQ (fun σ' => ∃ i, Inv i ∧ Sub (I i) σ') Q)) (h2 : ∀ i, Inv i → AWp P B n y (I i) Q) : AWp P B n (.seq x y) σ Q :=
  AWp.seq (AWp.mono h1 fun e σ' hq => by
    cases e with
    | normal => obtain ⟨i, hi, hs⟩ := hq; exact AWp.sub hs (h2 i hi)
    | exit k => exact hq
    | ret => exact hq)

/-- A block, with what is known behind it told in full. -/
theorem AWp.cutblock {B : Nat → Prop} {n id : Nat} {x y : Code} {σ : St} {Q : AExit → St → Prop} {ι : Type} (I : ι → St) (Inv : ι → Prop) (h1 : AWp P B n (.block id x) σ (thenQ (fun σ' => ∃ i, Inv i ∧ Sub (I i) σ') Q)) (h2 : ∀ i, Inv i → AWp P B n y (I i) Q) :
    AWp P B n (.seq (.block id x) y) σ Q := AWp.cutseq I Inv h1 h2

end

/-- Does the operation write what was there? -/
def writes (o : Oper) : Bool :=
  match o.op with
  | .store .. => true
  | .call c => match c.callee with | .builtin .append => true | _ => false
  | _ => false

end Go.Sim
