/- What is proved: a walk's plain statement follows one way: where it is proved for a property of what is yielded, there is something with that property that is yielded. -/
import Derived.Test.YtifjflhnfjhijaaGreatDoorZPSSimF
import Derived.Test.YtifjflhnfjhijaaGreatDoorZPSSimJ
import Derived.Test.YtifjflhnfjhijaaGreatDoorZPSSimQ
import Derived.Test.YtifjflhnfjhijaaGreatDoorZPSWPd
import Derived.Test.YtifjflhnfjhijaaGreatDoorZPSWPe

namespace Go.Sim
def Det {ρ : Type} (P : (ρ -> Prop) -> Prop) : Prop := ∀ Q, P Q -> ∃ r, Q r /\ ∀ Q' : ρ -> Prop, Q' r -> P Q'
section
variable {ρ α β ε : Type}
theorem Det.leaf (r : ρ) : Det (fun Q : ρ -> Prop => Q r) := fun _ h => ⟨r, h, fun _ h => h⟩
theorem Det.br {c : Bool} {A B : (ρ -> Prop) -> Prop} (hA : Det A) (hB : Det B) : Det (fun Q => Br c (A Q) (B Q)) := by
 intro Q h
 cases c with
 | true => obtain ⟨r, h1, h2⟩ := hA Q (h.1 rfl); exact ⟨r, h1, fun Q' h' => Br.t rfl (h2 Q' h')⟩
 | false => obtain ⟨r, h1, h2⟩ := hB Q (h.2 rfl); exact ⟨r, h1, fun Q' h' => Br.f rfl (h2 Q' h')⟩
theorem Det.let' {e : α} {K : α -> (ρ -> Prop) -> Prop} (hK : ∀ x, Det (K x)) : Det (fun Q => Let e (fun x => K x Q)) := by
 intro Q h
 obtain ⟨r, h1, h2⟩ := hK e Q (h e rfl)
 exact ⟨r, h1, fun Q' h' => Let.it (h2 Q' h')⟩
theorem Det.call {R : α -> Prop} {K : α -> (ρ -> Prop) -> Prop} (hK : ∀ x, Det (K x)) : Det (fun Q => Call R (fun x => K x Q)) := by
 rintro Q ⟨x, hx, h⟩
 obtain ⟨r, h1, h2⟩ := hK x Q h
 exact ⟨r, h1, fun Q' h' => ⟨x, hx, h2 Q' h'⟩⟩
theorem Det.and {p : Prop} {A : (ρ -> Prop) -> Prop} (hA : Det A) : Det (fun Q => p /\ A Q) := by
 rintro Q ⟨hp, h⟩
 obtain ⟨r, h1, h2⟩ := hA Q h
 exact ⟨r, h1, fun Q' h' => ⟨hp, h2 Q' h'⟩⟩
theorem Det.at' {xs : List α} {i : Int} {K : α -> (ρ -> Prop) -> Prop} (hK : ∀ x, Det (K x)) : Det (fun Q => At xs i (fun x => K x Q)) := by
 rintro Q ⟨h0, x, hx, h⟩
 obtain ⟨r, h1, h2⟩ := hK x Q h
 exact ⟨r, h1, fun Q' h' => ⟨h0, x, hx, h2 Q' h'⟩⟩
theorem Det.app {b : Nat} {xs ys : List α} {K : List α -> (ρ -> Prop) -> Prop} (hK : ∀ x, Det (K x)) : Det (fun Q => App b xs ys (fun x => K x Q)) := Det.and (Det.and (Det.let' hK))
theorem Det.join1 {b : (α -> Prop) -> (ρ -> Prop) -> Prop} {k : α -> (ρ -> Prop) -> Prop} (hb : Det (fun C : Sum ρ α -> Prop => b (fun x => C (.inr x)) (fun r => C (.inl r)))) (hk : ∀ x, Det (k x)) : Det (fun Q => q16 (fun I => b I Q) (fun x => k x Q)) := by
 rintro Q ⟨I, h1, h2⟩
 obtain ⟨o, g1, g2⟩ := hb (Sum.elim Q I) h1
 cases o with
 | inl r => exact ⟨r, g1, fun Q' h' => ⟨fun x => k x Q', g2 (Sum.elim Q' fun x => k x Q') h', fun _ h => h⟩⟩
 | inr x =>
  obtain ⟨r, k1, k2⟩ := hk x Q (h2 x g1)
  exact ⟨r, k1, fun Q' h' => ⟨fun x => k x Q', g2 (Sum.elim Q' fun x => k x Q') (k2 Q' h'), fun _ h => h⟩⟩
theorem Det.loop1 {x0 : α} {b : α -> (α -> Prop) -> (ρ -> Prop) -> Prop} (hb : ∀ y, Det (fun C : Sum ρ α -> Prop => b y (fun z => C (.inr z)) (fun r => C (.inl r)))) : Det (fun Q => Loop1 x0 (fun y K => b y K Q)) := by
 rintro Q ⟨I, μ, h0, st⟩
 have key : ∀ n y, μ y < n -> I y -> ∃ r, Q r /\ ∀ Q' : ρ -> Prop, Q' r -> Loop1 y (fun y K => b y K Q') := by
  intro n
  induction n with
  | zero => intro y h; omega
  | succ n ih =>
   intro y hn hy
   obtain ⟨o, h1, h2⟩ := hb y (Sum.elim Q fun z => I z /\ μ z < μ y) (st y hy)
   cases o with
   | inl r =>
    refine ⟨r, h1, fun Q' h' => ⟨fun z => z = y, fun _ => 0, rfl, ?_⟩⟩
    rintro _ rfl
    exact h2 (Sum.elim Q' fun z => z = _ /\ 0 < 0) h'
   | inr z =>
    have h1 : I z /\ μ z < μ y := h1
    obtain ⟨r, h3, h4⟩ := ih z (by omega) h1.1
    refine ⟨r, h3, fun Q' h' => ?_⟩
    obtain ⟨I', μ', g0, gs⟩ := h4 Q' h'
    by_cases hy' : I' y
    ·exact ⟨I', μ', hy', gs⟩
    ·classical
     refine ⟨fun w => I' w \/ w = y, fun w => if w = y then μ' z + 1 else μ' w, .inr rfl, fun w hw => ?_⟩
     by_cases hwy : w = y
     ·have hz : z ≠ y := fun e => hy' (e ▸ g0)
      rw [hwy]
      refine h2 (Sum.elim Q' fun u => (I' u \/ u = y) /\ (if u = y then μ' z + 1 else μ' u) < (if y = y then μ' z + 1 else μ' y)) ?_
      show (I' z \/ z = y) /\ (if z = y then μ' z + 1 else μ' z) < (if y = y then μ' z + 1 else μ' y)
      rw [if_neg hz, if_pos rfl]
      exact ⟨.inl g0, Nat.lt_succ_self _⟩
     ·have hw' : I' w := hw.resolve_right hwy
      obtain ⟨o, k1, k2⟩ := hb w (Sum.elim Q' fun u => I' u /\ μ' u < μ' w) (gs w hw')
      refine k2 (Sum.elim Q' fun u => (I' u \/ u = y) /\ (if u = y then μ' z + 1 else μ' u) < (if w = y then μ' z + 1 else μ' w)) ?_
      cases o with
      | inl r => exact k1
      | inr u =>
       have k1 : I' u /\ μ' u < μ' w := k1
       have hu : u ≠ y := fun e => hy' (e ▸ k1.1)
       show (I' u \/ u = y) /\ (if u = y then μ' z + 1 else μ' u) < (if w = y then μ' z + 1 else μ' w)
       rw [if_neg hu, if_neg hwy]
       exact ⟨.inl k1.1, k1.2⟩
 obtain ⟨r, h1, h2⟩ := key (μ x0 + 1) x0 (Nat.lt_succ_self _) h0
 exact ⟨r, h1, h2⟩
theorem Det.iff {P P' : (ρ -> Prop) -> Prop} (h : Det P) (e : ∀ Q, P' Q ↔ P Q) : Det P' := fun Q hq => by
 obtain ⟨r, h1, h2⟩ := h Q ((e Q).1 hq)
 exact ⟨r, h1, fun Q' h' => (e Q').2 (h2 Q' h')⟩
theorem Det.get {P : (ρ -> Prop) -> Prop} (h : Det P) {Q : ρ -> Prop} (hq : P Q) : ∃ r, Q r /\ P (fun r' => r' = r) := by
 obtain ⟨r, h1, h2⟩ := h Q hq
 exact ⟨r, h1, h2 _ rfl⟩
end
theorem Det.join2 {ρ α0 α1 : Type} {b : (α0 -> α1 -> Prop) -> (ρ -> Prop) -> Prop} {k : α0 -> α1 -> (ρ -> Prop) -> Prop} (hb : Det (fun C : Sum ρ (α0 × α1) -> Prop => b (fun z0 z1 => C (.inr (z0, z1))) (fun r => C (.inl r)))) (hk : ∀ x0 x1, Det (k x0 x1)) : Det (fun Q => q3r (fun I => b I Q) (fun x0 x1 => k x0 x1 Q)) := by
 refine Det.iff (Det.join1 (α := α0 × α1) (b := fun I Q => b (fun z0 z1 => I (z0, z1)) Q) (k := fun p Q => k p.1 p.2 Q) hb fun p => hk _ _) fun Q => ⟨?_, ?_⟩
 ·rintro ⟨I, h1, h2⟩
  exact ⟨fun p => I p.1 p.2, h1, fun p h => h2 _ _ h⟩
 ·rintro ⟨I, h1, h2⟩
  exact ⟨fun z0 z1 => I (z0, z1), h1, fun z0 z1 h => h2 (z0, z1) h⟩
theorem Det.loop2 {ρ α0 α1 : Type} {x0 : α0} {x1 : α1} {b : α0 -> α1 -> (α0 -> α1 -> Prop) -> (ρ -> Prop) -> Prop} (hb : ∀ y0 y1, Det (fun C : Sum ρ (α0 × α1) -> Prop => b y0 y1 (fun z0 z1 => C (.inr (z0, z1))) (fun r => C (.inl r)))) : Det (fun Q => Loop2 x0 x1 (fun y0 y1 K => b y0 y1 K Q)) := by
 refine Det.iff (Det.loop1 (x0 := (x0, x1)) (b := fun p K Q => b p.1 p.2 (fun z0 z1 => K (z0, z1)) Q) fun p => hb _ _) fun Q => ⟨?_, ?_⟩
 ·rintro ⟨I, μ, h1, h2⟩
  exact ⟨fun p => I p.1 p.2, fun p => μ p.1 p.2, h1, fun p h => h2 _ _ h⟩
 ·rintro ⟨I, μ, h1, h2⟩
  exact ⟨fun z0 z1 => I (z0, z1), fun z0 z1 => μ (z0, z1), h1, fun y0 y1 h => h2 (y0, y1) h⟩
theorem Det.loop3 {ρ α0 α1 α2 : Type} {x0 : α0} {x1 : α1} {x2 : α2} {b : α0 -> α1 -> α2 -> (α0 -> α1 -> α2 -> Prop) -> (ρ -> Prop) -> Prop} (hb : ∀ y0 y1 y2, Det (fun C : Sum ρ (α0 × α1 × α2) -> Prop => b y0 y1 y2 (fun z0 z1 z2 => C (.inr (z0, z1, z2))) (fun r => C (.inl r)))) : Det (fun Q => qKr x0 x1 x2 (fun y0 y1 y2 K => b y0 y1 y2 K Q)) := by
 refine Det.iff (Det.loop1 (x0 := (x0, x1, x2)) (b := fun p K Q => b p.1 p.2.1 p.2.2 (fun z0 z1 z2 => K (z0, z1, z2)) Q) fun p => hb _ _ _) fun Q => ⟨?_, ?_⟩
 ·rintro ⟨I, μ, h1, h2⟩
  exact ⟨fun p => I p.1 p.2.1 p.2.2, fun p => μ p.1 p.2.1 p.2.2, h1, fun p h => h2 _ _ _ h⟩
 ·rintro ⟨I, μ, h1, h2⟩
  exact ⟨fun z0 z1 z2 => I (z0, z1, z2), fun z0 z1 z2 => μ (z0, z1, z2), h1, fun y0 y1 y2 h => h2 (y0, y1, y2) h⟩
inductive Dt : {ρ : Type} -> ((ρ -> Prop) -> Prop) -> Prop
 | leaf {ρ : Type}  (r : ρ) : Dt (fun Q : ρ -> Prop => Q r)
 | br {ρ : Type} {c : Bool} {A B : (ρ -> Prop) -> Prop}  : (Dt A) -> (Dt B) -> Dt (fun Q => Br c (A Q) (B Q))
 | let' {ρ : Type} {α : Type} {e : α} {K : α -> (ρ -> Prop) -> Prop}  : (∀ x, Dt (K x)) -> Dt (fun Q => Let e (fun x => K x Q))
 | call {ρ : Type} {α : Type} {R : α -> Prop} {K : α -> (ρ -> Prop) -> Prop}  : (∀ x, Dt (K x)) -> Dt (fun Q => Call R (fun x => K x Q))
 | at' {ρ : Type} {α : Type} {xs : List α} {i : Int} {K : α -> (ρ -> Prop) -> Prop}  : (∀ x, Dt (K x)) -> Dt (fun Q => At xs i (fun x => K x Q))
 | app {ρ : Type} {α : Type} {b : Nat} {xs ys : List α} {K : List α -> (ρ -> Prop) -> Prop}  : (∀ x, Dt (K x)) -> Dt (fun Q => App b xs ys (fun x => K x Q))
 | join1 {ρ : Type} {α0 : Type} {b : (α0 -> Prop) -> (ρ -> Prop) -> Prop} {k : α0 -> (ρ -> Prop) -> Prop}  : (Dt (fun C : Sum ρ (α0) -> Prop => b (fun z0 => C (.inr (z0))) (fun r => C (.inl r)))) -> (∀ x0, Dt (k x0)) -> Dt (fun Q => q16 (fun I => b I Q) (fun x0 => k x0 Q))
 | loop1 {ρ : Type} {α0 : Type} {x0 : α0} {b : α0 -> (α0 -> Prop) -> (ρ -> Prop) -> Prop}  : (∀ y0, Dt (fun C : Sum ρ (α0) -> Prop => b y0 (fun z0 => C (.inr (z0))) (fun r => C (.inl r)))) -> Dt (fun Q => Loop1 x0 (fun y0 K => b y0 K Q))
 | join2 {ρ : Type} {α0 α1 : Type} {b : (α0 -> α1 -> Prop) -> (ρ -> Prop) -> Prop} {k : α0 -> α1 -> (ρ -> Prop) -> Prop}  : (Dt (fun C : Sum ρ (α0 × α1) -> Prop => b (fun z0 z1 => C (.inr (z0, z1))) (fun r => C (.inl r)))) -> (∀ x0 x1, Dt (k x0 x1)) -> Dt (fun Q => q3r (fun I => b I Q) (fun x0 x1 => k x0 x1 Q))
 | loop2 {ρ : Type} {α0 α1 : Type} {x0 : α0} {x1 : α1} {b : α0 -> α1 -> (α0 -> α1 -> Prop) -> (ρ -> Prop) -> Prop}  : (∀ y0 y1, Dt (fun C : Sum ρ (α0 × α1) -> Prop => b y0 y1 (fun z0 z1 => C (.inr (z0, z1))) (fun r => C (.inl r)))) -> Dt (fun Q => Loop2 x0 x1 (fun y0 y1 K => b y0 y1 K Q))
 | loop3 {ρ : Type} {α0 α1 α2 : Type} {x0 : α0} {x1 : α1} {x2 : α2} {b : α0 -> α1 -> α2 -> (α0 -> α1 -> α2 -> Prop) -> (ρ -> Prop) -> Prop}  : (∀ y0 y1 y2, Dt (fun C : Sum ρ (α0 × α1 × α2) -> Prop => b y0 y1 y2 (fun z0 z1 z2 => C (.inr (z0, z1, z2))) (fun r => C (.inl r)))) -> Dt (fun Q => qKr x0 x1 x2 (fun y0 y1 y2 K => b y0 y1 y2 K Q))
theorem Dt.det {ρ : Type} {P : (ρ -> Prop) -> Prop} (h : Dt P) : Det P := by
 induction h with
 | leaf r => exact Det.leaf r
 | br _ _ h k => exact Det.br h k
 | let' _ h => exact Det.let' h
 | call _ h => exact Det.call h
 | at' _ h => exact Det.at' h
 | app _ h => exact Det.app h
 | join1 _ _ h k => exact Det.join1 h k
 | loop1 _ h => exact Det.loop1 h
 | join2 _ _ h k => exact Det.join2 h k
 | loop2 _ h => exact Det.loop2 h
 | loop3 _ h => exact Det.loop3 h
theorem Dt.get {ρ : Type} {P : (ρ -> Prop) -> Prop} {E Q : ρ -> Prop} (d : Dt P) (h : P Q) (w : ∀ r, P (fun r' => r' = r) -> E r) : ∃ r, E r /\ Q r := by
 obtain ⟨r, h1, h2⟩ := d.det.get h
 exact ⟨r, w r h2, h1⟩
end Go.Sim

/- What is proved: the plain statements of functions pick one thing that is yielded. -/
namespace Go.Sim.YtifjflhnfjhijaaGreatDoor
open Go.RowKit Go.Proofs Go.Proofs.Tryz
set_option maxRecDepth 100000
theorem qIm {p1 : Gref13P} {Q : ByteArray × Gref13P -> Prop} (h : q3c p1 Q) : ∃ r, q0l p1 r /\ Q r := Dt.get (P := q3c p1) (by unfold q3c; repeat' first | with_reducible constructor | intro _) h fun _ => qFq
theorem qDq {p1 : Gref13P} {Q : GTree × Gref13P -> Prop} (h : q33 p1 Q) : ∃ r, q2d p1 r /\ Q r := Dt.get (P := q33 p1) (by unfold q33; repeat' first | with_reducible constructor | intro _) h fun _ => qGv
theorem qIn {p1 : Gref13P} {s2 : ByteArray} {Q : Gref13P -> Prop} (h : q3d p1 s2 Q) : ∃ r, q03 p1 s2 r /\ Q r := Dt.get (P := q3d p1 s2) (by unfold q3d; repeat' first | with_reducible constructor | intro _) h fun _ => qFr
theorem qIo {p1 : Gref13P} {Q : Gref13P -> Prop} (h : q3e p1 Q) : ∃ r, q1t p1 r /\ Q r := Dt.get (P := q3e p1) (by unfold q3e; repeat' first | with_reducible constructor | intro _) h fun _ => qFs
theorem qEy {x1 : Gref13P} {Q : GTree × Gref13P -> Prop} (h : q49 x1 Q) : ∃ r, q63 x1 r /\ Q r := Dt.get (P := q49 x1) (by unfold q49; repeat' first | with_reducible constructor | intro _) h fun _ => qIk
theorem qCa {p1 : Gref13P} {Q : GTree × Gref13P -> Prop} (h : q2i p1 Q) : ∃ r, q0m p1 r /\ Q r := Dt.get (P := q2i p1) (by unfold q2i; repeat' first | with_reducible constructor | intro _) h fun _ => qFu
theorem qIp {p1 : Gref13P} {Q : Int × Gref13P -> Prop} (h : q3f p1 Q) : ∃ r, q41 p1 r /\ Q r := Dt.get (P := q3f p1) (by unfold q3f; repeat' first | with_reducible constructor | intro _) h fun _ => qFv
theorem qH2 {p1 : Gref13P} {Q : GTree × Gref13P -> Prop} (h : q2o p1 Q) : ∃ r, q56 p1 r /\ Q r := Dt.get (P := q2o p1) (by unfold q2o; repeat' first | with_reducible constructor | intro _) h fun _ => qEs
theorem qH3 {p1 : Gref13P} {s2 : ByteArray} {Q : Gref13P -> Prop} (h : q2p p1 s2 Q) : ∃ r, q0o p1 s2 r /\ Q r := Dt.get (P := q2p p1 s2) (by unfold q2p; repeat' first | with_reducible constructor | intro _) h fun _ => qEt
theorem qH4 {p1 : Gref13P} {least2 : Int} {most3 : Int} {Q : Int × Gref13P -> Prop} (h : q2q p1 least2 most3 Q) : ∃ r, q0p p1 least2 most3 r /\ Q r := Dt.get (P := q2q p1 least2 most3) (by unfold q2q; repeat' first | with_reducible constructor | intro _) h fun _ => qEu
theorem qH5 {p1 : Gref13P} {Q : Int × Gref13P -> Prop} (h : q2r p1 Q) : ∃ r, q22 p1 r /\ Q r := Dt.get (P := q2r p1) (by unfold q2r; repeat' first | with_reducible constructor | intro _) h fun _ => qEv
theorem qDr {p1 : Gref13P} {Q : GTree × Gref13P -> Prop} (h : q34 p1 Q) : ∃ r, q3a p1 r /\ Q r := Dt.get (P := q34 p1) (by unfold q34; repeat' first | with_reducible constructor | intro _) h fun _ => qGx
theorem qH6 {p1 : Gref13P} {Q : GTree × Gref13P -> Prop} (h : q2s p1 Q) : ∃ r, q37 p1 r /\ Q r := Dt.get (P := q2s p1) (by unfold q2s; repeat' first | with_reducible constructor | intro _) h fun _ => qEw
theorem qDs {p1 : Gref13P} {Q : GTree × Gref13P -> Prop} (h : q35 p1 Q) : ∃ r, q3b p1 r /\ Q r := Dt.get (P := q35 p1) (by unfold q35; repeat' first | with_reducible constructor | intro _) h fun _ => qGy
theorem qL4 {x1 : Gref13P} {Q : GTree × Gref13P -> Prop} (h : q5s x1 Q) : ∃ r, q6a x1 r /\ Q r := Dt.get (P := q5s x1) (by unfold q5s; repeat' first | with_reducible constructor | intro _) h fun _ => qIl
theorem qH7 {x1 : Gref13P} {Q : GTree × Gref13P -> Prop} (h : q2t x1 Q) : ∃ r, q57 x1 r /\ Q r := Dt.get (P := q2t x1) (by unfold q2t; repeat' first | with_reducible constructor | intro _) h fun _ => qEx
theorem qJw {p1 : Gref13P} {Q : GTree × Gref13P -> Prop} (h : q4g p1 Q) : ∃ r, q2h p1 r /\ Q r := Dt.get (P := q4g p1) (by unfold q4g; repeat' first | with_reducible constructor | intro _) h fun _ => qGz
theorem qIq {x1 : Gref13P} {Q : GTree × Gref13P -> Prop} (h : q3g x1 Q) : ∃ r, q5x x1 r /\ Q r := Dt.get (P := q3g x1) (by unfold q3g; repeat' first | with_reducible constructor | intro _) h fun _ => qFw
theorem qIr {x1 : Gref13P} {Q : GTree × Gref13P -> Prop} (h : q3h x1 Q) : ∃ r, q3v x1 r /\ Q r := Dt.get (P := q3h x1) (by unfold q3h; repeat' first | with_reducible constructor | intro _) h fun _ => qFx
theorem qIs {p1 : Gref13P} {Q : GTree × Gref13P -> Prop} (h : q3i p1 Q) : ∃ r, q40 p1 r /\ Q r := Dt.get (P := q3i p1) (by unfold q3i; repeat' first | with_reducible constructor | intro _) h fun _ => qFy
theorem qIt {p1 : Gref13P} {Q : (List GTree) × Gref13P -> Prop} (h : q3j p1 Q) : ∃ r, q64 p1 r /\ Q r := Dt.get (P := q3j p1) (by unfold q3j; repeat' first | with_reducible constructor | intro _) h fun _ => qFz
theorem qCb {x1 : Gref13P} {Q : GTree × Gref13P -> Prop} (h : q2j x1 Q) : ∃ r, q42 x1 r /\ Q r := Dt.get (P := q2j x1) (by unfold q2j; repeat' first | with_reducible constructor | intro _) h fun _ => qG0
theorem qJx {p1 : Gref13P} {Q : GTree × Gref13P -> Prop} (h : q4h p1 Q) : ∃ r, q2g p1 r /\ Q r := Dt.get (P := q4h p1) (by unfold q4h; repeat' first | with_reducible constructor | intro _) h fun _ => qH1
end Go.Sim.YtifjflhnfjhijaaGreatDoor
