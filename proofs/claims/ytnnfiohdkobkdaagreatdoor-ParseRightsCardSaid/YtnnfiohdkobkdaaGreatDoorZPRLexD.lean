/- What is proved: of the tokens of a text: their places, the text from a token's place on, and where no blanks stand. -/
import Derived.Test.YtnnfiohdkobkdaaGreatDoorZPRLexC
import Derived.Test.YtnnfiohdkobkdaaGreatDoorZPRWE
import Derived.Test.YtnnfiohdkobkdaaGreatDoorZPRRatU

namespace Go.Sim.YtnnfiohdkobkdaaGreatDoor
open Go.RowKit Go.Proofs Go.Proofs.Tryz
variable {L : LexL}
/-- The same tokens, but for their places. -/
def Alike (a b : List GToken) : Prop := a.length = b.length ∧ ∀ (i : Nat) (x y : GToken), a[i]? = some x → b[i]? = some y → x.Kind = y.Kind ∧ x.S = y.S ∧ x.Num = y.Num
theorem Alike.cons {x y : GToken} {a b : List GToken} (h : x.Kind = y.Kind ∧ x.S = y.S ∧ x.Num = y.Num) (k : Alike a b) : Alike (x :: a) (y :: b) := by
  refine ⟨by simp [k.1], fun i u v hu hv => ?_⟩
  cases i with
  | zero => simp at hu hv; subst hu hv; exact h
  | succ i => exact k.2 i u v (by simpa using hu) (by simpa using hv)
/-- What a well-formed result looks like. -/
theorem lexL_cases {l : List UInt8} {p n : Nat} (h : (lexL L l p n).2.1 = 0) :
    (l = [] ∧ lexL L l p n = ([{ GToken.zero with At := p }], 0, 0)) ∨
    (l ≠ [] ∧ ¬ 4000 ≤ n ∧ (tok L l p).1.2 = 0 ∧ (lexL L (l.drop (more L l p)) (p + more L l p) (n + 1)).2.1 = 0 ∧ lexL L l p n = ((tok L l p).1.1 :: (lexL L (l.drop (more L l p)) (p + more L l p) (n + 1)).1, 0, 0)) := by
  by_cases h0 : l = []
  · exact .inl ⟨h0, lexL_nil h0⟩
  by_cases hn : 4000 ≤ n
  · rw [lexL_many h0 hn] at h; simp at h
  by_cases hb : (tok L l p).1.2 = 0
  · have hm := lexL_more h0 hn hb
    by_cases hz : (lexL L (l.drop (more L l p)) (p + more L l p) (n + 1)).2.1 = 0
    · rw [if_pos hz] at hm
      exact .inr ⟨h0, hn, hb, hz, hm⟩
    · rw [if_neg hz] at hm
      rw [hm] at h
      exact absurd h hz
  · rw [lexL_bad h0 hn hb] at h; exact absurd h hb
end Go.Sim.YtnnfiohdkobkdaaGreatDoor

/- What is proved: functions of the program compute what plain statements tell. -/
namespace Go.Sim.YtnnfiohdkobkdaaGreatDoor
open Go.RowKit Go.Proofs Go.Proofs.Tryz
set_option maxRecDepth 100000
end Go.Sim.YtnnfiohdkobkdaaGreatDoor

/- What is proved: the statement LexPlaces, given what the lexer's callees yield. -/
namespace Go.Sim.YtnnfiohdkobkdaaGreatDoor
open Go.RowKit Go.Proofs Go.Proofs.Tryz
theorem At.is {α : Type} {xs : List α} {i : Nat} {k : α → Prop} {x : α} (hx : xs[i]? = some x) (hk : k x) : At xs (i : Int) k := ⟨by omega, x, by rw [Int.toNat_natCast]; exact hx, hk⟩
variable {L : LexL}
end Go.Sim.YtnnfiohdkobkdaaGreatDoor

/- What is proved: the statement LexNumbers, given what the lexer's callees yield. -/
namespace Go.Sim.YtnnfiohdkobkdaaGreatDoor
open Go.RowKit Go.Proofs Go.Proofs.Tryz
variable {L : LexL}
end Go.Sim.YtnnfiohdkobkdaaGreatDoor
