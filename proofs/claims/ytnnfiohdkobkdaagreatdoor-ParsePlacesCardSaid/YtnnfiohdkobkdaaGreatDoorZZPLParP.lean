/- What is proved: how trees are read from tokens, as plain functions; they read a text on, and close what they open. -/
import Derived.Test.YtnnfiohdkobkdaaGreatDoorZZPLWE
import Derived.Test.YtnnfiohdkobkdaaGreatDoorZZPLExtB

namespace Go.Sim.YtnnfiohdkobkdaaGreatDoor
open Go.RowKit Go.Proofs Go.Proofs.Tryz
/-- An error and its place. -/
abbrev PE := Int × Int
/-- The tokens that are left, and how much is open. -/
abbrev PS := List GToken × Int
abbrev PR (α : Type) := Except PE (α × PS)
def bnd {α β : Type} (x : Except PE α) (f : α → Except PE β) : Except PE β := match x with
  | .ok a => f a
  | .error e => .error e
theorem bnd_ok {α β : Type} {x : Except PE α} {f : α → Except PE β} {b : β} : bnd x f = .ok b ↔ ∃ a, x = .ok a ∧ f a = .ok b := by
  cases x with
  | ok a => simp [bnd]
  | error e => simp [bnd]
def hdT (ts : List GToken) : GToken := ts.headD GToken.zero
def isT (t : GToken) (s : ByteArray) : Bool := (t.Kind == 2 || t.Kind == 4) && decide (t.S = s)
def isP (s : ByteArray) (st : PS) : Bool := isT (hdT st.1) s
def nextP (st : PS) : PS := (st.1.tail, st.2)
def failP (st : PS) : PE := (if (hdT st.1).Kind = 0 then 131 else 130, (hdT st.1).At)
def mustP (s : ByteArray) (st : PS) : Except PE PS := if isP s st = true then .ok (nextP st) else .error (failP st)
def mustsP : List ByteArray → PS → Except PE PS
  | [], st => .ok st
  | s :: l, st => bnd (mustP s st) (mustsP l)
def enterP (s : ByteArray) (st : PS) : Except PE PS := if isP s st = true ∧ 60 ≤ st.2 then .error (132, (hdT st.1).At) else bnd (mustP s st) fun st => .ok (st.1, st.2 + 1)
def leaveP (l : List ByteArray) (st : PS) : Except PE PS := bnd (mustsP l st) fun st => .ok (st.1, st.2 - 1)
def nameP (st : PS) : PR ByteArray := if (hdT st.1).Kind = 1 then .ok ((hdT st.1).S, nextP st) else .error (failP st)
def numP (so : GRat → Bool) (st : PS) : PR GRat := if (hdT st.1).Kind = 3 then (if so (hdT st.1).Num = true then .ok ((hdT st.1).Num, nextP st) else .error (110, (hdT st.1).At)) else .error (failP st)
def intB (a : GRat) : Bool := a.D == 1 && decide (a.N ≤ 1000000)
def powB1 (a : GRat) : Bool := a.D == 1 && decide (a.N ≤ 64)
def oneB1 (a : GRat) : Bool := GRat.beq a ⟨1, 1⟩
def denB (a : GRat) : Bool := a.D == 1 && decide (a.N ≥ 1) && decide (a.N ≤ 64)
def intP (st : PS) : PR Int := bnd (numP intB st) fun r => .ok (r.1.N, r.2)
def powerP (st : PS) : PR Int := if isP (ByteArray.mk #[45]) st = true then bnd (numP powB1 (nextP st)) fun r => .ok (-r.1.N, r.2) else bnd (numP powB1 st) fun r => .ok (r.1.N, r.2)
def tk (k : Int) (ks : List GTree) : GTree := { GTree.zero with Kind := k, Kids := ks }
def wholeT (n : Int) : GTree := { GTree.zero with Kind := 1, Num := ⟨n, 1⟩ }
def partT (s : ByteArray) (ks : List GTree) : GTree := { GTree.zero with Kind := 3, Name := s, Kids := ks }
def elP (st : PS) : PR GTree := bnd (nameP st) fun r =>
  if isP (ByteArray.mk #[91]) r.2 = true then
    (let s1 := nextP r.2
     if (hdT s1.1).Kind = 3 then bnd (intP s1) fun i => bnd (mustP (ByteArray.mk #[93]) i.2) fun s2 => .ok (partT r.1 [wholeT i.1], s2)
     else bnd (nameP s1) fun v =>
       (let e := tk 2 [partT v.1 []]
        if isP (ByteArray.mk #[43]) v.2 = true then bnd (intP (nextP v.2)) fun i => bnd (mustP (ByteArray.mk #[93]) i.2) fun s2 => .ok (partT r.1 [tk 8 [e, wholeT i.1]], s2)
        else if isP (ByteArray.mk #[45]) v.2 = true then bnd (intP (nextP v.2)) fun i => bnd (mustP (ByteArray.mk #[93]) i.2) fun s2 => .ok (partT r.1 [tk 9 [e, wholeT i.1]], s2)
        else bnd (mustP (ByteArray.mk #[93]) v.2) fun s2 => .ok (partT r.1 [e], s2)))
  else .ok (partT r.1 [], r.2)
/-- More parts, as long as there are points. -/
def elsP : Nat → List GTree → PS → PR (List GTree)
  | 0, _, _ => .error (0, 0)
  | n + 1, ks, st => if isP (ByteArray.mk #[46]) st = true then bnd (elP (nextP st)) fun r => elsP n (ks ++ [r.1]) r.2 else .ok (ks, st)
def refP (st : PS) : PR GTree := bnd (elP st) fun r => bnd (elsP (r.2.1.length + 1) [r.1] r.2) fun q => .ok (tk 2 q.1, q.2)
def derP (st : PS) : PR GTree := bnd (mustP (ByteArray.mk #[100, 101, 114]) st) fun s1 => bnd (enterP (ByteArray.mk #[40]) s1) fun s2 => bnd (refP s2) fun r => bnd (leaveP [(ByteArray.mk #[41])] r.2) fun s3 => .ok (tk 4 [r.1], s3)
/-- A row of operators of two, behind its first part. -/
def rowP (part : PS → PR GTree) (one : ByteArray) (k : Int) (other : ByteArray) (k2 : Int) : Nat → GTree → PS → PR GTree
  | 0, _, _ => .error (0, 0)
  | n + 1, t, st =>
    if isP one st = true then bnd (part (nextP st)) fun r => rowP part one k other k2 n (tk k [t, r.1]) r.2
    else if isP other st = true then bnd (part (nextP st)) fun r => rowP part one k other k2 n (tk k2 [t, r.1]) r.2
    else .ok (t, st)
def rowsP (part : PS → PR GTree) (one : ByteArray) (k : Int) (other : ByteArray) (k2 : Int) (st : PS) : PR GTree := bnd (part st) fun r => rowP part one k other k2 (r.2.1.length + 1) r.1 r.2
def fnIx (s : ByteArray) : Int := firstAt (fun x : ByteArray => decide (s = x)) ([(ByteArray.mk #[]), (ByteArray.mk #[]), (ByteArray.mk #[]), (ByteArray.mk #[]), (ByteArray.mk #[]), (ByteArray.mk #[]), (ByteArray.mk #[]), (ByteArray.mk #[]), (ByteArray.mk #[]), (ByteArray.mk #[115, 113, 114, 116]), (ByteArray.mk #[101, 120, 112]), (ByteArray.mk #[108, 111, 103]), (ByteArray.mk #[115, 105, 110]), (ByteArray.mk #[99, 111, 115]), (ByteArray.mk #[97, 116, 97, 110])])
/-- A factor with its sign and its power; 'n': how deep at most. -/
def negP : Nat → PS → PR GTree
  | 0, _ => .error (0, 0)
  | n + 1, st =>
    let exprP := rowsP (rowsP (negP n) (ByteArray.mk #[42]) 10 (ByteArray.mk #[47]) 11) (ByteArray.mk #[43]) 8 (ByteArray.mk #[45]) 9
    if isP (ByteArray.mk #[45]) st = true then bnd (enterP (ByteArray.mk #[45]) st) fun s1 => bnd (negP n s1) fun r => .ok (tk 7 [r.1], (r.2.1, r.2.2 - 1))
    else
      let primeP : PR GTree :=
        if (hdT st.1).Kind = 3 then bnd (numP decB st) fun r => .ok ({ GTree.zero with Kind := 1, Num := r.1 }, r.2)
        else if isP (ByteArray.mk #[116, 105, 109, 101]) st = true then .ok (tk 5 [], nextP st)
        else if isP (ByteArray.mk #[100, 101, 114]) st = true then derP st
        else if isP (ByteArray.mk #[40]) st = true then bnd (enterP (ByteArray.mk #[40]) st) fun s1 => bnd (exprP s1) fun r => bnd (leaveP [(ByteArray.mk #[41])] r.2) fun s2 => .ok (r.1, s2)
        else if (hdT st.1).Kind = 2 then
          (if fnIx (hdT st.1).S < 0 then .error (failP st)
           else bnd (enterP (ByteArray.mk #[40]) (nextP st)) fun s1 => bnd (exprP s1) fun r => bnd (leaveP [(ByteArray.mk #[41])] r.2) fun s2 => .ok ({ GTree.zero with Kind := 6, N := fnIx (hdT st.1).S, Kids := [r.1] }, s2))
        else refP st
      bnd primeP fun r =>
        if isP (ByteArray.mk #[94]) r.2 = true then bnd (powerP (nextP r.2)) fun q => .ok ({ GTree.zero with Kind := 12, N := q.1, Kids := [r.1] }, q.2) else .ok r
def exprP (n : Nat) : PS → PR GTree := rowsP (rowsP (negP n) (ByteArray.mk #[42]) 10 (ByteArray.mk #[47]) 11) (ByteArray.mk #[43]) 8 (ByteArray.mk #[45]) 9
def mulP (n : Nat) : PS → PR GTree := rowsP (negP n) (ByteArray.mk #[42]) 10 (ByteArray.mk #[47]) 11
/-- A dimension's factor. 'mk': what the library's numbers make of two whole ones. -/
def upP (mk : Int → Int → GRat) : Nat → PS → PR GTree
  | 0, _ => .error (0, 0)
  | n + 1, st =>
    let first : PR GTree :=
      if isP (ByteArray.mk #[40]) st = true then bnd (enterP (ByteArray.mk #[40]) st) fun s1 => bnd (rowsP (upP mk n) (ByteArray.mk #[42]) 22 (ByteArray.mk #[47]) 23 s1) fun r => bnd (leaveP [(ByteArray.mk #[41])] r.2) fun s2 => .ok (r.1, s2)
      else if (hdT st.1).Kind = 3 then bnd (numP oneB1 st) fun r => .ok (tk 20 [], r.2)
      else bnd (nameP st) fun r => .ok ({ GTree.zero with Kind := 21, Name := r.1 }, r.2)
    bnd first fun r =>
      if isP (ByteArray.mk #[94]) r.2 = true then
        (let s1 := nextP r.2
         if isP (ByteArray.mk #[40]) s1 = true then bnd (enterP (ByteArray.mk #[40]) s1) fun s2 => bnd (powerP s2) fun a => bnd (mustP (ByteArray.mk #[47]) a.2) fun s3 => bnd (numP denB s3) fun d => bnd (leaveP [(ByteArray.mk #[41])] d.2) fun s4 => .ok ({ GTree.zero with Kind := 24, Num := mk a.1 d.1.N, Kids := [r.1] }, s4)
         else bnd (powerP s1) fun a => .ok ({ GTree.zero with Kind := 24, Num := ⟨a.1, 1⟩, Kids := [r.1] }, a.2))
      else .ok r
def dimP (mk : Int → Int → GRat) (n : Nat) : PS → PR GTree := rowsP (upP mk n) (ByteArray.mk #[42]) 22 (ByteArray.mk #[47]) 23
section
variable (mk : Int → Int → GRat)
def kindP (st : PS) : PR GTree := if isP (ByteArray.mk #[58]) st = true then bnd (dimP mk 62 (nextP st)) fun r => .ok (tk 41 [r.1], r.2) else .ok (tk 41 [], st)
def arrayP (st : PS) : PR Int := if isP (ByteArray.mk #[91]) st = true then bnd (intP (nextP st)) fun r => bnd (mustP (ByteArray.mk #[93]) r.2) fun s1 => .ok (r.1, s1) else .ok (0, st)
def modsP : Nat → List GTree → PS → PR (List GTree)
  | 0, _, _ => .error (0, 0)
  | n + 1, ks, st => bnd (nameP st) fun v => bnd (mustP (ByteArray.mk #[61]) v.2) fun s1 => bnd (exprP 62 s1) fun e =>
    (let ks' := ks ++ [{ GTree.zero with Kind := 36, Name := v.1, Kids := [e.1] }]
     if isP (ByteArray.mk #[44]) e.2 = true then modsP n ks' (nextP e.2) else .ok (ks', e.2))
def partP (st : PS) : PR GTree := bnd (nameP st) fun v => bnd (arrayP v.2) fun n => bnd (mustP (ByteArray.mk #[58]) n.2) fun s1 => bnd (nameP s1) fun a =>
  (let t : GTree := { GTree.zero with Kind := 35, Name := v.1, N := n.1, Alias := a.1 }
   if isP (ByteArray.mk #[40]) a.2 = true then bnd (enterP (ByteArray.mk #[40]) a.2) fun s2 => bnd (modsP (s2.1.length + 1) [] s2) fun ks => bnd (leaveP [(ByteArray.mk #[41])] ks.2) fun s3 => .ok ({ t with Kids := ks.1 }, s3)
   else .ok (t, a.2))
def startP (st : PS) : PR GTree := bnd (if isP (ByteArray.mk #[100, 101, 114]) st = true then derP st else refP st) fun o =>
  if isP (ByteArray.mk #[61]) o.2 = true then bnd (exprP 62 (nextP o.2)) fun e => .ok (tk 37 [o.1, e.1, e.1], e.2)
  else bnd (mustsP [(ByteArray.mk #[105, 110]), (ByteArray.mk #[91])] o.2) fun s1 => bnd (exprP 62 s1) fun a => bnd (mustP (ByteArray.mk #[44]) a.2) fun s2 => bnd (exprP 62 s2) fun b => bnd (mustP (ByteArray.mk #[93]) b.2) fun s3 => .ok (tk 37 [o.1, a.1, b.1], s3)
def rulesP (rule : PS → PR GTree) : Nat → List GTree → PS → PR (List GTree)
  | 0, _, _ => .error (0, 0)
  | n + 1, ks, st => if isP (ByteArray.mk #[101, 110, 100]) st = true then .ok (ks, st) else bnd (rule st) fun r => rulesP rule n (ks ++ [r.1]) r.2
def ruleP : Nat → PS → PR GTree
  | 0, _ => .error (0, 0)
  | n + 1, st =>
    if isP (ByteArray.mk #[99, 111, 110, 110, 101, 99, 116]) st = true then bnd (enterP (ByteArray.mk #[40]) (nextP st)) fun s1 => bnd (refP s1) fun a => bnd (mustP (ByteArray.mk #[44]) a.2) fun s2 => bnd (refP s2) fun b => bnd (leaveP [(ByteArray.mk #[41]), (ByteArray.mk #[59])] b.2) fun s3 => .ok (tk 38 [a.1, b.1], s3)
    else if isP (ByteArray.mk #[102, 111, 114]) st = true then bnd (enterP (ByteArray.mk #[102, 111, 114]) st) fun s1 => bnd (nameP s1) fun v => bnd (mustP (ByteArray.mk #[105, 110]) v.2) fun s2 => bnd (intP s2) fun a => bnd (mustP (ByteArray.mk #[46, 46]) a.2) fun s3 => bnd (intP s3) fun b => bnd (mustP (ByteArray.mk #[100, 111]) b.2) fun s4 =>
      bnd (rulesP (ruleP n) (s4.1.length + 1) [] s4) fun ks => bnd (leaveP [(ByteArray.mk #[101, 110, 100]), (ByteArray.mk #[59])] ks.2) fun s5 => .ok ({ GTree.zero with Kind := 40, Name := v.1, N := a.1, M := b.1, Kids := ks.1 }, s5)
    else bnd (exprP 62 st) fun a => bnd (mustP (ByteArray.mk #[61]) a.2) fun s1 => bnd (exprP 62 s1) fun b => bnd (mustP (ByteArray.mk #[59]) b.2) fun s2 => .ok (tk 39 [a.1, b.1], s2)
def itemP (st : PS) : PR GTree :=
  if isP (ByteArray.mk #[112, 97, 114, 97, 109]) st = true then bnd (nameP (nextP st)) fun v => bnd (kindP mk v.2) fun d => bnd (mustP (ByteArray.mk #[61]) d.2) fun s1 => bnd (exprP 62 s1) fun e => bnd (mustP (ByteArray.mk #[59]) e.2) fun s2 => .ok ({ GTree.zero with Kind := 33, Name := v.1, Kids := [d.1, e.1] }, s2)
  else if isP (ByteArray.mk #[118, 97, 114]) st = true ∨ isP (ByteArray.mk #[102, 108, 111, 119]) st = true then bnd (nameP (nextP st)) fun v => bnd (arrayP v.2) fun n => bnd (kindP mk n.2) fun d => bnd (mustP (ByteArray.mk #[59]) d.2) fun s1 => .ok ({ GTree.zero with Kind := 34, Flag := isP (ByteArray.mk #[102, 108, 111, 119]) st, Name := v.1, N := n.1, Kids := [d.1] }, s1)
  else if isP (ByteArray.mk #[112, 97, 114, 116]) st = true then bnd (partP (nextP st)) fun t => bnd (mustP (ByteArray.mk #[59]) t.2) fun s1 => .ok (t.1, s1)
  else if isP (ByteArray.mk #[115, 116, 97, 114, 116]) st = true then bnd (startP (nextP st)) fun t => bnd (mustP (ByteArray.mk #[59]) t.2) fun s1 => .ok (t.1, s1)
  else ruleP 62 st
def itemsP : Nat → List GTree → PS → PR (List GTree)
  | 0, _, _ => .error (0, 0)
  | n + 1, ks, st => if isP (ByteArray.mk #[101, 110, 100]) st = true then .ok (ks, nextP st) else bnd (itemP mk st) fun r => itemsP n (ks ++ [r.1]) r.2
def classP (k : Int) (st : PS) : PR GTree := bnd (nameP st) fun v => bnd (itemsP mk (v.2.1.length + 1) [] v.2) fun ks => bnd (mustP (ByteArray.mk #[59]) ks.2) fun s1 => .ok ({ GTree.zero with Kind := 32, N := k, Name := v.1, Kids := ks.1 }, s1)
def unitP (st : PS) : PR GTree := bnd (nameP st) fun v =>
  if isP (ByteArray.mk #[61]) v.2 = true then bnd (dimP mk 62 (nextP v.2)) fun d => bnd (mustP (ByteArray.mk #[59]) d.2) fun s1 => .ok ({ GTree.zero with Kind := 31, Name := v.1, Kids := [d.1] }, s1)
  else bnd (mustP (ByteArray.mk #[59]) v.2) fun s1 => .ok ({ GTree.zero with Kind := 31, Name := v.1 }, s1)
def filesP : Nat → List GTree → PS → PR (List GTree)
  | 0, _, _ => .error (0, 0)
  | n + 1, ks, st =>
    if (hdT st.1).Kind = 0 then .ok (ks, st)
    else if isP (ByteArray.mk #[117, 110, 105, 116]) st = true then bnd (unitP mk (nextP st)) fun u => filesP n (ks ++ [u.1]) u.2
    else if isP (ByteArray.mk #[109, 111, 100, 101, 108]) st = true then bnd (classP mk 1 (nextP st)) fun c => filesP n (ks ++ [c.1]) c.2
    else if isP (ByteArray.mk #[99, 111, 110, 110, 101, 99, 116, 111, 114]) st = true then bnd (classP mk 2 (nextP st)) fun c => filesP n (ks ++ [c.1]) c.2
    else .error (failP st)
def fileP (st : PS) : PR GTree := bnd (filesP mk (st.1.length + 1) [] st) fun ks => .ok (tk 30 ks.1, ks.2)
end
end Go.Sim.YtnnfiohdkobkdaaGreatDoor
