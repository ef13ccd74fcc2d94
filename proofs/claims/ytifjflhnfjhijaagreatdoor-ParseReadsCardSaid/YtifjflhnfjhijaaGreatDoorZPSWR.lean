/- What is proved: functions of the program compute what plain statements tell. -/
import Derived.Test.YtifjflhnfjhijaaGreatDoorZPSWE

namespace Go.Sim.YtifjflhnfjhijaaGreatDoor
open Go.RowKit Go.Proofs Go.Proofs.Tryz
set_option maxRecDepth 100000
def qD5 (s1 : ByteArray) (Q : GRat × Int -> Prop) : Prop :=
 Call (qBr s1) fun x2 =>
 Br (!x2.2.2.2) (Q (GRat.zero, (110 : Int))) (
 Let (IntKind.i64.wrap (x2.2.2.1 - x2.2.1)) fun x4 =>
 Call (q17 x2.1 (ByteArray.mk #[48])) fun x5 =>
 q3r (fun j41 =>
 Loop2 x5 x4 (fun (all56 : ByteArray) (e57 : Int) next58 =>
 Br (decide (((all56.size : Nat) : Int) > (0 : Int))) (
 Let (IntKind.i64.wrap (((all56.size : Nat) : Int) - (1 : Int))) fun x63 =>
 AtS all56 x63 fun x65 =>
 Br (x65 == (48 : Int)) (
 Let (IntKind.i64.wrap (((all56.size : Nat) : Int) - (1 : Int))) fun x67 =>
 SlS all56 (0 : Int) x67 fun x68 =>
 Let (IntKind.i64.wrap (e57 + (1 : Int))) fun x69 =>
 next58 x68 x69) (
 j41 all56 e57)) (
 j41 all56 e57))
 ) (fun (all39 : ByteArray) (e40 : Int) =>
 Br (all39.toList == (ByteArray.mk #[]).toList) (Q (({ GRat.zero with D := (1 : Int) }), (0 : Int))) (
 Call (q68 all39 e40) fun x74 =>
 Q (x74.1, x74.2))))
theorem qF0 {s1 : ByteArray} {r : GRat × Int} (h : qD5 s1 (fun r' => r' = r)) : q8s s1 r := by
 unfold qD5 at h
 refine intr (L := [(0, .dat (.v (.string s1)))]) Tryz.func78 Tryz.ntmps78 ?_
 refine sN (al0 ?_)
 refine pI rfl (dn (AWp.seq (rN (pG rfl (kC h rfl ⟨.inl rfl, trivial⟩ rfl fun x2 h => ?_)))))
 refine pU rfl (pG rfl (pI rfl (pI rfl (pB rfl (pG rfl (pI rfl (pI rfl (pB rfl (dn (AWp.seq (AWp.seq (rN (pB rfl (pB rfl (dn (cB h (fun h => ?_) (fun h => ?_)))))))))))))))))
 ·refine sW (pT rfl (st (v := .dat (.st _ _)) ?_))
  refine pI rfl (dn (AWp.ret ?_))
  subst h
  exact ⟨_, rfl, rfl⟩
 refine AWp.skip (AWp.seq (rN (pI rfl (pI rfl ?_))))
 obtain ⟨x4, ex4, h⟩ := h.get
 refine ai ex4 rfl (pI rfl (dn (AWp.seq (rN (pG rfl (kC h rfl ⟨.inl rfl, .inl rfl, trivial⟩ rfl fun x5 h => ?_))))))
 refine pG rfl (dn (AWp.seq ?_))
 obtain ⟨J76, h, hk77⟩ := h
 refine AWp.cutK (I := fun p : ByteArray × Int => mkSt [(2, .pt 2 [] 0), (4, .dat (.v (.string p.1))), (6, .dat (.v (.int .i64 p.2)))] [(2, .box 23 2 (.dat (GRat.enc GRat.zero)))]) (Inv := fun p : ByteArray × Int => J76 p.1 p.2) ?_ (fun p hp => ?_)
 ·refine AWp.block ?_
  obtain ⟨I70, x71, hz72, hr73⟩ := h
  refine AWp.loop (I := fun p : ByteArray × Int => mkSt [(2, .pt 2 [] 0), (4, .dat (.v (.string p.1))), (6, .dat (.v (.int .i64 p.2)))] [(2, .box 23 2 (.dat (GRat.enc GRat.zero)))]) (Inv := fun p => I70 p.1 p.2) (μ := fun p => x71 p.1 p.2) (x0 := ⟨x5, x4⟩) hz72 sl (fun p hp => ?_)
  obtain ⟨all56, e57⟩ := p
  have h := hr73 all56 e57 hp
  refine AWp.seq (AWp.seq (rN (pG rfl (pI rfl (pB rfl (pB rfl (sB 26 h (fun h => ?_) (fun h => ?_))))))))
  ·refine pG rfl (pG rfl (pI rfl ?_))
   obtain ⟨x63, ex63, h⟩ := h.get
   refine ai ex63 rfl ?_
   obtain ⟨hi64, x65, hx66, h⟩ := AtS.get h
   refine AOps.sidxE q01 rfl rfl rfl rfl rfl rfl rfl hi64 hx66 ?_
   refine pB rfl (pB rfl (dn (cB h (fun h => ?_) (fun h => ?_))))
   ·refine AWp.skip (AWp.block (AWp.seq (rN (pG rfl (pG rfl (pI rfl ?_))))))
    obtain ⟨x67, ex67, h⟩ := h.get
    refine ai ex67 rfl ?_
    obtain ⟨h1, h2, h3, x68, ex68, h⟩ := h.get
    refine AOps.slsh q01 rfl rfl rfl rfl rfl rfl rfl h2 h3 ex68 ?_
    refine pG rfl (dn (rN (pI rfl ?_)))
    obtain ⟨x69, ex69, h⟩ := h.get
    refine ai ex69 rfl (pI rfl (dn ?_))
    exact ⟨⟨x68, x69⟩, h.1, h.2, sl⟩
   refine AWp.exit ?_
   exact ⟨⟨all56, e57⟩, h, sl⟩
  refine fo 6 rfl (pB rfl (dn ?_))
  refine AWp.condF rfl ?_
  refine AWp.exit ?_
  exact ⟨⟨all56, e57⟩, h, sl⟩
 obtain ⟨all39, e40⟩ := p
 replace h := hk77 all39 e40 hp
 refine AWp.seq (AWp.seq (rN (pG rfl (pB rfl (dn (cB h (fun h => ?_) (fun h => ?_)))))))
 ·refine sW (pT rfl (st (v := .dat (.st _ _)) ?_))
  refine pI rfl (dn (AWp.ret ?_))
  subst h
  exact ⟨_, rfl, rfl⟩
 refine AWp.skip (AWp.seq (rW (pG rfl (pI rfl (kC h rfl ⟨.inl rfl, .inl rfl, trivial⟩ rfl fun x74 h => ?_)))))
 refine pT rfl (pI rfl (st (v := .dat (.st _ _)) ?_))
 refine pI rfl (dn (AWp.ret ?_))
 subst h
 exact ⟨_, rfl, rfl⟩
def qEe (x1 : ByteArray) (Q : ByteArray × Int × Int × Bool -> Prop) : Prop :=
 Call (q4f x1) fun x2 =>
 Br (decide (((x2.1.size : Nat) : Int) < (1 : Int))) (Q ((ByteArray.mk #[]), (0 : Int), (0 : Int), false)) (
 Br (decide (((x2.1.size : Nat) : Int) > (40 : Int))) (Q ((ByteArray.mk #[]), (0 : Int), (0 : Int), false)) (
 Call (q4o x2.2 (ByteArray.mk #[46])) fun x4 =>
 qWg (fun j12 =>
 Br x4.2 (
 Call (q4f x4.1) fun x13 =>
 Br (decide (((x13.1.size : Nat) : Int) < (1 : Int))) (Q ((ByteArray.mk #[]), (0 : Int), (0 : Int), false)) (
 Br (decide (((x13.1.size : Nat) : Int) > (40 : Int))) (Q ((ByteArray.mk #[]), (0 : Int), (0 : Int), false)) (
 Cat x2.1 x13.1 fun x15 =>
 j12 x13.2 x15 ((x13.1.size : Nat) : Int)))) (
 j12 x2.2 x2.1 (0 : Int))
 ) (fun (x9 : ByteArray) (x10 : ByteArray) (x11 : Int) =>
 Br (x9.toList == (ByteArray.mk #[]).toList) (Q (x10, x11, (0 : Int), true)) (
 q16 (fun j23 =>
 AtS x9 (0 : Int) fun x25 =>
 Br (x25 != (101 : Int)) (
 AtS x9 (0 : Int) fun x28 =>
 j23 (x28 != (69 : Int))) (
 j23 false)
 ) (fun (x22 : Bool) =>
 Br x22 (Q ((ByteArray.mk #[]), (0 : Int), (0 : Int), false)) (
 SlS x9 (1 : Int) ((x9.size : Nat) : Int) fun x30 =>
 q16 (fun j38 =>
 Br (!(x30.toList == (ByteArray.mk #[]).toList)) (
 AtS x30 (0 : Int) fun x40 =>
 Br (x40 == (43 : Int)) (j38 true) (
 AtS x30 (0 : Int) fun x43 =>
 j38 (x43 == (45 : Int)))) (
 j38 false)
 ) (fun (x37 : Bool) =>
 q3r (fun j55 =>
 Br x37 (
 AtS x30 (0 : Int) fun x57 =>
 q16 (fun j60 =>
 Br (x57 == (45 : Int)) (j60 (-1 : Int)) (
 j60 (1 : Int))
 ) (fun (x59 : Int) =>
 SlS x30 (1 : Int) ((x30.size : Nat) : Int) fun x61 =>
 j55 x61 x59)) (
 j55 x30 (1 : Int))
 ) (fun (x53 : ByteArray) (x54 : Int) =>
 Call (q4f x53) fun x64 =>
 Br (decide (((x64.1.size : Nat) : Int) < (1 : Int))) (Q ((ByteArray.mk #[]), (0 : Int), (0 : Int), false)) (
 Br (decide (((x64.1.size : Nat) : Int) > (2 : Int))) (Q ((ByteArray.mk #[]), (0 : Int), (0 : Int), false)) (
 Br (!(x64.2.toList == (ByteArray.mk #[]).toList)) (Q ((ByteArray.mk #[]), (0 : Int), (0 : Int), false)) (
 Call (q0z x64.1) fun x66 =>
 Let (IntKind.i64.wrap (x54 * x66.1)) fun x68 =>
 Q (x10, x11, x68, true))))))))))))
theorem qK4 {x1 : ByteArray} {r : ByteArray × Int × Int × Bool} (h : qEe x1 (fun r' => r' = r)) : qBr x1 r := by
 unfold qEe at h
 refine intr (L := [(0, .dat (.v (.string x1)))]) Tryz.func109 Tryz.ntmps109 ?_
 refine sN (pG rfl (pI rfl (pI rfl (pB rfl (dn (AWp.seq (rN (pG rfl (kC h rfl ⟨.inl rfl, trivial⟩ rfl fun x2 h => ?_)))))))))
 refine pU rfl (pG rfl (pG rfl (pG rfl (pG rfl (dn (AWp.seq (AWp.seq (rN (pG rfl (pI rfl (pB rfl (pB rfl (sB 20 h (fun h => ?_) (fun h => ?_))))))))))))))
 ·refine fo 3 rfl (pB rfl (dn ?_))
  refine AWp.condT rfl ?_
  refine sN (pG rfl (pI rfl (pI rfl (pB rfl (dn (AWp.ret ?_))))))
  subst h
  exact ⟨_, rfl, rfl⟩
 refine pG rfl (pI rfl (pB rfl (pB rfl (dn (cB h (fun h => ?_) (fun h => ?_))))))
 ·refine sN (pG rfl (pI rfl (pI rfl (pB rfl (dn (AWp.ret ?_))))))
  subst h
  exact ⟨_, rfl, rfl⟩
 refine AWp.skip (AWp.seq (AWp.seq (rN (pG rfl (kC h rfl ⟨.inl rfl, .inl rfl, trivial⟩ rfl fun x4 h => ?_)))))
 refine pU rfl (pG rfl (pB rfl (pG rfl (pB rfl (dn (AWp.seq (rN (pB rfl (dn ?_)))))))))
 obtain ⟨J75, h, hk76⟩ := h
 refine AWp.cutK (I := fun p : ByteArray × ByteArray × Int => mkSt [(0, .dat (.v (.string p.1))), (2, .dat (.v (.string p.2.1))), (3, .dat (.v (.int .i64 p.2.2)))] []) (Inv := fun p : ByteArray × ByteArray × Int => J75 p.1 p.2.1 p.2.2) ?_ (fun p hp => ?_)
 ·refine cB h (fun h => ?_) (fun h => ?_)
  ·refine sN (pG rfl (dn (AWp.seq (rN (pG rfl (kC h rfl ⟨.inl rfl, trivial⟩ rfl fun x13 h => ?_))))))
   refine pU rfl (pG rfl (pG rfl (pG rfl (pG rfl (dn (AWp.seq (AWp.seq (rN (pG rfl (pI rfl (pB rfl (pB rfl (sB 39 h (fun h => ?_) (fun h => ?_))))))))))))))
   ·refine fo 3 rfl (pB rfl (dn ?_))
    refine AWp.condT rfl ?_
    refine sN (pG rfl (pI rfl (pI rfl (pB rfl (dn (AWp.ret ?_))))))
    subst h
    exact ⟨_, rfl, rfl⟩
   refine pG rfl (pI rfl (pB rfl (pB rfl (dn (cB h (fun h => ?_) (fun h => ?_))))))
   ·refine sN (pG rfl (pI rfl (pI rfl (pB rfl (dn (AWp.ret ?_))))))
    subst h
    exact ⟨_, rfl, rfl⟩
   refine AWp.skip (rN (pG rfl (pG rfl (kc h rfl rfl rfl rfl fun x15 h => ?_))))
   refine pG rfl (pI rfl (pG rfl (pI rfl (dn ?_))))
   exact ⟨⟨x13.2, x15, ((x13.1.size : Nat) : Int)⟩, h, sl⟩
  refine AWp.skip ?_
  exact ⟨⟨x2.2, x2.1, (0 : Int)⟩, h, sl⟩
 obtain ⟨x9, x10, x11⟩ := p
 replace h := hk76 x9 x10 x11 hp
 refine AWp.seq (AWp.seq (rN (pG rfl (pB rfl (dn (cB h (fun h => ?_) (fun h => ?_)))))))
 ·refine sN (pG rfl (pI rfl (pG rfl (pI rfl (pI rfl (pB rfl (dn (AWp.ret ?_))))))))
  subst h
  exact ⟨_, rfl, rfl⟩
 refine AWp.skip (AWp.seq (AWp.seq ?_))
 obtain ⟨J73, h, hk74⟩ := h
 refine AWp.cutK (I := fun p : Bool => mkSt [(0, .dat (.v (.string x9))), (2, .dat (.v (.string x10))), (3, .dat (.v (.int .i64 x11))), (60, .dat (.v (.bool p)))] []) (Inv := fun p : Bool => J73 p) ?_ (fun p hp => ?_)
 ·refine rN (pG rfl ?_)
  obtain ⟨hi24, x25, hx26, h⟩ := AtS.get h
  refine AOps.sidxE q01 rfl rfl rfl rfl rfl rfl rfl hi24 hx26 ?_
  refine pB rfl (pB rfl (sB 56 h (fun h => ?_) (fun h => ?_)))
  ·refine pG rfl ?_
   obtain ⟨hi27, x28, hx29, h⟩ := AtS.get h
   refine AOps.sidxE q01 rfl rfl rfl rfl rfl rfl rfl hi27 hx29 ?_
   refine pB rfl (pB rfl (dn ?_))
   exact ⟨(x28 != (69 : Int)), h, sl⟩
  refine fo 3 rfl (pB rfl (dn ?_))
  exact ⟨false, h, sl⟩
 replace h := hk74 p hp
 revert h; clear hp; generalize p = x22; intro h
 refine cB h (fun h => ?_) (fun h => ?_)
 ·refine sN (pG rfl (pI rfl (pI rfl (pB rfl (dn (AWp.ret ?_))))))
  subst h
  exact ⟨_, rfl, rfl⟩
 refine AWp.skip (AWp.seq (rN (pG rfl ?_)))
 obtain ⟨h1, h2, h3, x30, ex30, h⟩ := h.get
 refine AOps.slsl q01 rfl rfl rfl rfl rfl rfl rfl rfl h1 h2 ex30 ?_
 refine pG rfl (dn (AWp.seq (rN (pI rfl (dn (AWp.seq (AWp.seq ?_)))))))
 obtain ⟨J71, h, hk72⟩ := h
 refine AWp.cutK (I := fun p : Bool => mkSt [(0, .dat (.v (.string x30))), (2, .dat (.v (.string x10))), (3, .dat (.v (.int .i64 x11))), (9, .dat (.v (.int .i64 (1 : Int)))), (74, .dat (.v (.bool p)))] []) (Inv := fun p : Bool => J71 p) ?_ (fun p hp => ?_)
 ·refine rN (pG rfl (pB rfl (pB rfl (sB 65 h (fun h => ?_) (fun h => ?_)))))
  ·refine pG rfl ?_
   obtain ⟨hi39, x40, hx41, h⟩ := AtS.get h
   refine AOps.sidxE q01 rfl rfl rfl rfl rfl rfl rfl hi39 hx41 ?_
   refine pB rfl (pB rfl (sB 69 h (fun h => ?_) (fun h => ?_)))
   ·refine fo 3 rfl (pB rfl (pB rfl (dn ?_)))
    exact ⟨true, h, sl⟩
   refine pG rfl ?_
   obtain ⟨hi42, x43, hx44, h⟩ := AtS.get h
   refine AOps.sidxE q01 rfl rfl rfl rfl rfl rfl rfl hi42 hx44 ?_
   refine pB rfl (pB rfl (pB rfl (dn ?_)))
   exact ⟨(x43 == (45 : Int)), h, sl⟩
  refine fo 8 rfl (pB rfl (dn ?_))
  exact ⟨false, h, sl⟩
 replace h := hk72 p hp
 revert h; clear hp; generalize p = x37; intro h
 obtain ⟨J69, h, hk70⟩ := h
 refine AWp.cutK (I := fun p : ByteArray × Int => mkSt [(0, .dat (.v (.string p.1))), (2, .dat (.v (.string x10))), (3, .dat (.v (.int .i64 x11))), (9, .dat (.v (.int .i64 p.2)))] []) (Inv := fun p : ByteArray × Int => J69 p.1 p.2) ?_ (fun p hp => ?_)
 ·refine cB h (fun h => ?_) (fun h => ?_)
  ·refine AWp.seq (AWp.seq (rN (pG rfl ?_)))
   obtain ⟨hi56, x57, hx58, h⟩ := AtS.get h
   refine AOps.sidxE q01 rfl rfl rfl rfl rfl rfl rfl hi56 hx58 ?_
   refine pB rfl (dn ?_)
   obtain ⟨J62, h, hk63⟩ := h
   refine AWp.cutK (I := fun p : Int => mkSt [(0, .dat (.v (.string x30))), (2, .dat (.v (.string x10))), (3, .dat (.v (.int .i64 x11))), (9, .dat (.v (.int .i64 p)))] []) (Inv := fun p : Int => J62 p) ?_ (fun p hp => ?_)
   ·refine cB h (fun h => ?_) (fun h => ?_)
    ·refine rN (pI rfl (dn ?_))
     exact ⟨(-1 : Int), h, sl⟩
    refine AWp.skip ?_
    exact ⟨(1 : Int), h, sl⟩
   replace h := hk63 p hp
   revert h; clear hp; generalize p = x59; intro h
   refine rN (pG rfl ?_)
   obtain ⟨h1, h2, h3, x61, ex61, h⟩ := h.get
   refine AOps.slsl q01 rfl rfl rfl rfl rfl rfl rfl rfl h1 h2 ex61 ?_
   refine pG rfl (dn ?_)
   exact ⟨⟨x61, x59⟩, h, sl⟩
  refine AWp.skip ?_
  exact ⟨⟨x30, (1 : Int)⟩, h, sl⟩
 obtain ⟨x53, x54⟩ := p
 replace h := hk70 x53 x54 hp
 refine sN (pG rfl (kC h rfl ⟨.inl rfl, trivial⟩ rfl fun x64 h => ?_))
 refine pU rfl (pG rfl (pG rfl (pG rfl (pG rfl (dn (AWp.seq (AWp.seq (rN (pG rfl (pI rfl (pB rfl (pB rfl (sB 88 h (fun h => ?_) (fun h => ?_))))))))))))))
 ·refine fo 3 rfl (pB rfl (pB rfl (ff rfl (ff rfl (pB rfl (dn ?_))))))
  refine AWp.condT rfl ?_
  refine sN (pG rfl (pI rfl (pI rfl (pB rfl (dn (AWp.ret ?_))))))
  subst h
  exact ⟨_, rfl, rfl⟩
 refine pG rfl (pI rfl (pB rfl (pB rfl (pB rfl (sB 93 h (fun h => ?_) (fun h => ?_))))))
 ·refine ff rfl (ff rfl (pB rfl (dn ?_)))
  refine AWp.condT rfl ?_
  refine sN (pG rfl (pI rfl (pI rfl (pB rfl (dn (AWp.ret ?_))))))
  subst h
  exact ⟨_, rfl, rfl⟩
 refine pG rfl (pB rfl (pB rfl (dn (cB h (fun h => ?_) (fun h => ?_)))))
 ·refine sN (pG rfl (pI rfl (pI rfl (pB rfl (dn (AWp.ret ?_))))))
  subst h
  exact ⟨_, rfl, rfl⟩
 refine AWp.skip (AWp.seq (rN (pG rfl (kC h rfl ⟨.inl rfl, trivial⟩ rfl fun x66 h => ?_))))
 refine pU rfl (pI rfl (pW rfl (pI rfl (dn (AWp.seq (rN (pG rfl (pI rfl (pI rfl (pI rfl ?_))))))))))
 obtain ⟨x68, ex68, h⟩ := h.get
 refine ai ex68 rfl (pG rfl (pI rfl (pI rfl (pB rfl (dn (AWp.ret ?_))))))
 subst h
 exact ⟨_, rfl, rfl⟩
def qCu (x1 : ByteArray) (x2 : Int) (Q : GRat × Int -> Prop) : Prop :=
 Let (IntKind.i64.wrap (0 - x2)) fun x3 =>
 Let (qOh x3 (0 : Int)) fun x4 =>
 Let (IntKind.i64.wrap (0 - x2)) fun x5 =>
 Let (qOh x5 (0 : Int)) fun x6 =>
 Let (q9a x1) fun x7 =>
 q3r (fun j54 =>
 Loop2 x4 x7 (fun (x75 : Int) (x76 : List Int) next77 =>
 Br (decide (x75 > (0 : Int))) (
 Let (IntKind.i64.wrap (((x76.length : Nat) : Int) - (1 : Int))) fun x86 =>
 At x76 x86 fun x88 =>
 Let (IntKind.u8.wrap (x88 - (48 : Int))) fun x90 =>
 Let (Int.tmod x90 (2 : Int)) fun x91 =>
 Br (x91 == (0 : Int)) (
 Call (q7p x76 (2 : Int)) fun x92 =>
 Let (IntKind.i64.wrap (x75 - (1 : Int))) fun x94 =>
 next77 x94 x92) (
 j54 x75 x76)) (
 j54 x75 x76))
 ) (fun (x52 : Int) (x53 : List Int) =>
 q3r (fun j145 =>
 Loop2 x6 x53 (fun (x166 : Int) (x167 : List Int) next168 =>
 Br (decide (x166 > (0 : Int))) (
 Let (IntKind.i64.wrap (((x167.length : Nat) : Int) - (1 : Int))) fun x177 =>
 At x167 x177 fun x179 =>
 Let (IntKind.u8.wrap (x179 - (48 : Int))) fun x181 =>
 Let (Int.tmod x181 (5 : Int)) fun x182 =>
 Br (x182 == (0 : Int)) (
 Call (q7p x167 (5 : Int)) fun x183 =>
 Let (IntKind.i64.wrap (x166 - (1 : Int))) fun x185 =>
 next168 x185 x183) (
 j145 x166 x167)) (
 j145 x166 x167))
 ) (fun (x143 : Int) (x144 : List Int) =>
 Let (strOfNums x144) fun x190 =>
 Call (q17 x190 (ByteArray.mk #[48])) fun x191 =>
 Call (q1c x191 (10 : Int) (64 : Int)) fun x193 =>
 Br x193.2 (Q (GRat.zero, (3 : Int))) (
 Br (decide (x52 > (62 : Int))) (Q (GRat.zero, (3 : Int))) (
 Br (decide (x143 > (27 : Int))) (Q (GRat.zero, (3 : Int))) (
 Loop2 x2 x193.1 (fun (x223 : Int) (x224 : Int) next225 =>
 Br (decide (x223 > (0 : Int))) (
 Call (q6b x224 (10 : Int)) fun x228 =>
 Br (decide (x228.1 > (0 : Int))) (Q (GRat.zero, (3 : Int))) (
 Let (IntKind.i64.wrap (x223 - (1 : Int))) fun x230 =>
 next225 x230 x228.2)) (
 Loop2 x143 (1 : Int) (fun (x253 : Int) (x254 : Int) next255 =>
 Br (decide (x253 > (0 : Int))) (
 Let (IntKind.u64.wrap (x254 * (5 : Int))) fun x257 =>
 Let (IntKind.i64.wrap (x253 - (1 : Int))) fun x258 =>
 next255 x258 x257) (
 Call (q1w x254) fun x259 =>
 Br (decide (x52 > x259)) (Q (GRat.zero, (3 : Int))) (
 Nn x52 <|
 Let (IntKind.u64.wrap (x254 * 2 ^ (min (Int.toNat x52) 64))) fun x261 =>
 Call (qAj false x224 x261) fun x262 =>
 Q (x262.1, x262.2)))))))))))
theorem qJd {x1 : ByteArray} {x2 : Int} {r : GRat × Int} (h : qCu x1 x2 (fun r' => r' = r)) : q68 x1 x2 r := by
 unfold qCu at h
 refine intr (L := [(0, .dat (.v (.string x1))), (1, .dat (.v (.int .i64 x2)))]) Tryz.func111 Tryz.ntmps111 ?_
 refine sN (al0 ?_)
 refine pI rfl (dn (AWp.seq (rN (pI rfl ?_))))
 obtain ⟨x3, ex3, h⟩ := h.get
 refine ai ex3 rfl ?_
 obtain ⟨x4, ex4, h⟩ := h.get
 refine ai ex4 rfl (pI rfl ?_)
 obtain ⟨x5, ex5, h⟩ := h.get
 refine ai ex5 rfl ?_
 obtain ⟨x6, ex6, h⟩ := h.get
 refine ai ex6 rfl (pI rfl (pI rfl (dn (AWp.seq (rN (pG rfl ?_))))))
 obtain ⟨x7, ex7, h⟩ := h.get
 refine AOps.bytesE q01 rfl rfl rfl rfl rfl rfl rfl rfl ex7 ?_
 refine pS rfl (dn (AWp.seq ?_))
 obtain ⟨J274, h, hk275⟩ := h
 refine AWp.cutK (I := fun p : Int × (List Int) => mkSt [(1, .dat (.v (.int .i64 x2))), (4, .pt 4 [] 0), (6, .dat (.v (.int .i64 p.1))), (7, .dat (.v (.int .i64 x6))), (8, .dat (.sl 5 1 (List.map (eInt .u8) p.2)))] [(4, .box 23 2 (.dat (GRat.enc GRat.zero)))]) (Inv := fun p : Int × (List Int) => J274 p.1 p.2) ?_ (fun p hp => ?_)
 ·refine AWp.block ?_
  obtain ⟨I95, x96, hz97, hr98⟩ := h
  refine AWp.loop (I := fun p : Int × (List Int) => mkSt [(1, .dat (.v (.int .i64 x2))), (4, .pt 4 [] 0), (6, .dat (.v (.int .i64 p.1))), (7, .dat (.v (.int .i64 x6))), (8, .dat (.sl 5 1 (List.map (eInt .u8) p.2)))] [(4, .box 23 2 (.dat (GRat.enc GRat.zero)))]) (Inv := fun p => I95 p.1 p.2) (μ := fun p => x96 p.1 p.2) (x0 := ⟨x4, x7⟩) hz97 sl (fun p hp => ?_)
  obtain ⟨x75, x76⟩ := p
  have h := hr98 x75 x76 hp
  refine AWp.seq (AWp.seq (rN (pI rfl (pB rfl (pB rfl (sB 24 h (fun h => ?_) (fun h => ?_)))))))
  ·refine pS rfl (pS rfl (al (((x76.length : Nat) : Int)) rfl ?_))
   obtain ⟨x86, ex86, h⟩ := h.get
   refine ai ex86 rfl (kI h q1g rfl rfl rfl rfl rfl rfl rfl fun x88 h => ?_)
   refine pI rfl ?_
   obtain ⟨x90, ex90, h⟩ := h.get
   refine ai ex90 rfl ?_
   obtain ⟨x91, ex91, h⟩ := h.get
   refine AOps.q rfl rfl rfl rfl rfl (qAe (by decide)) ex91 ?_
   refine pB rfl (pB rfl (dn (cB h (fun h => ?_) (fun h => ?_))))
   ·refine AWp.skip (AWp.block (rN (pS rfl (kC h rfl ⟨.inl rfl, .inl rfl, trivial⟩ rfl fun x92 h => ?_))))
    refine pI rfl ?_
    obtain ⟨x94, ex94, h⟩ := h.get
    refine ai ex94 rfl (pS rfl (pI rfl (dn ?_)))
    exact ⟨⟨x94, x92⟩, h.1, h.2, sl⟩
   refine AWp.exit ?_
   exact ⟨⟨x75, x76⟩, h, sl⟩
  refine fo 9 rfl (pB rfl (dn ?_))
  refine AWp.condF rfl ?_
  refine AWp.exit ?_
  exact ⟨⟨x75, x76⟩, h, sl⟩
 obtain ⟨x52, x53⟩ := p
 replace h := hk275 x52 x53 hp
 refine AWp.seq ?_
 obtain ⟨J272, h, hk273⟩ := h
 refine AWp.cutK (I := fun p : Int × (List Int) => mkSt [(1, .dat (.v (.int .i64 x2))), (4, .pt 4 [] 0), (6, .dat (.v (.int .i64 x52))), (7, .dat (.v (.int .i64 p.1))), (8, .dat (.sl 5 1 (List.map (eInt .u8) p.2)))] [(4, .box 23 2 (.dat (GRat.enc GRat.zero)))]) (Inv := fun p : Int × (List Int) => J272 p.1 p.2) ?_ (fun p hp => ?_)
 ·refine AWp.block ?_
  obtain ⟨I186, x187, hz188, hr189⟩ := h
  refine AWp.loop (I := fun p : Int × (List Int) => mkSt [(1, .dat (.v (.int .i64 x2))), (4, .pt 4 [] 0), (6, .dat (.v (.int .i64 x52))), (7, .dat (.v (.int .i64 p.1))), (8, .dat (.sl 5 1 (List.map (eInt .u8) p.2)))] [(4, .box 23 2 (.dat (GRat.enc GRat.zero)))]) (Inv := fun p => I186 p.1 p.2) (μ := fun p => x187 p.1 p.2) (x0 := ⟨x6, x53⟩) hz188 sl (fun p hp => ?_)
  obtain ⟨x166, x167⟩ := p
  have h := hr189 x166 x167 hp
  refine AWp.seq (AWp.seq (rN (pI rfl (pB rfl (pB rfl (sB 41 h (fun h => ?_) (fun h => ?_)))))))
  ·refine pS rfl (pS rfl (al (((x167.length : Nat) : Int)) rfl ?_))
   obtain ⟨x177, ex177, h⟩ := h.get
   refine ai ex177 rfl (kI h q1g rfl rfl rfl rfl rfl rfl rfl fun x179 h => ?_)
   refine pI rfl ?_
   obtain ⟨x181, ex181, h⟩ := h.get
   refine ai ex181 rfl ?_
   obtain ⟨x182, ex182, h⟩ := h.get
   refine AOps.q rfl rfl rfl rfl rfl (qAe (by decide)) ex182 ?_
   refine pB rfl (pB rfl (dn (cB h (fun h => ?_) (fun h => ?_))))
   ·refine AWp.skip (AWp.block (rN (pS rfl (kC h rfl ⟨.inl rfl, .inl rfl, trivial⟩ rfl fun x183 h => ?_))))
    refine pI rfl ?_
    obtain ⟨x185, ex185, h⟩ := h.get
    refine ai ex185 rfl (pS rfl (pI rfl (dn ?_)))
    exact ⟨⟨x185, x183⟩, h.1, h.2, sl⟩
   refine AWp.exit ?_
   exact ⟨⟨x166, x167⟩, h, sl⟩
  refine fo 9 rfl (pB rfl (dn ?_))
  refine AWp.condF rfl ?_
  refine AWp.exit ?_
  exact ⟨⟨x166, x167⟩, h, sl⟩
 obtain ⟨x143, x144⟩ := p
 replace h := hk273 x143 x144 hp
 refine sN (pS rfl ?_)
 obtain ⟨x190, ex190, h⟩ := h.get
 refine AOps.ofbytesE q01 rfl rfl rfl rfl rfl rfl rfl rfl ex190 ?_
 refine kC h rfl ⟨.inl rfl, .inl rfl, trivial⟩ rfl fun x191 h => kC h rfl ⟨.inl rfl, .inl rfl, .inl rfl, trivial⟩ rfl fun x193 h => pU rfl ?_
 refine pI rfl (pW rfl (pI rfl ?_))
 refine AOps.mv rfl rfl (.inr rfl) rfl ?_
 refine dn (AWp.seq (AWp.seq (rN ?_)))
 refine AOps.mv rfl rfl (.inl rfl) rfl ?_
 refine AOps.isnil (b := x193.2) rfl rfl rfl (by unfold Program.isIface; rw [Tryz.underlying75]) rfl (.inl ⟨rfl, rfl⟩) ?_
 refine pB rfl (sB 65 h (fun h => ?_) (fun h => ?_))
 ·refine ff rfl (ff rfl (pB rfl (pB rfl (ff rfl (ff rfl (pB rfl (dn ?_)))))))
  refine AWp.condT rfl ?_
  refine sW (pT rfl (st (v := .dat (.st _ _)) ?_))
  refine pI rfl (dn (AWp.ret ?_))
  subst h
  exact ⟨_, rfl, rfl⟩
 refine pI rfl (pB rfl (pB rfl (pB rfl (sB 69 h (fun h => ?_) (fun h => ?_)))))
 ·refine ff rfl (ff rfl (pB rfl (dn ?_)))
  refine AWp.condT rfl ?_
  refine sW (pT rfl (st (v := .dat (.st _ _)) ?_))
  refine pI rfl (dn (AWp.ret ?_))
  subst h
  exact ⟨_, rfl, rfl⟩
 refine pI rfl (pB rfl (pB rfl (dn (cB h (fun h => ?_) (fun h => ?_)))))
 ·refine sW (pT rfl (st (v := .dat (.st _ _)) ?_))
  refine pI rfl (dn (AWp.ret ?_))
  subst h
  exact ⟨_, rfl, rfl⟩
 refine AWp.skip (AWp.seq (AWp.block ?_))
 obtain ⟨I268, x269, hz270, hr271⟩ := h
 refine AWp.loop (I := fun p : Int × Int => mkSt [(1, .dat (.v (.int .i64 p.1))), (4, .pt 4 [] 0), (6, .dat (.v (.int .i64 x52))), (7, .dat (.v (.int .i64 x143))), (9, .dat (.v (.int .u64 p.2)))] [(4, .box 23 2 (.dat (GRat.enc GRat.zero)))]) (Inv := fun p => I268 p.1 p.2) (μ := fun p => x269 p.1 p.2) (x0 := ⟨x2, x193.1⟩) hz270 sl (fun p hp => ?_)
 obtain ⟨x223, x224⟩ := p
 have h := hr271 x223 x224 hp
 refine AWp.seq (AWp.seq (rN (pI rfl (pB rfl (dn (cB h (fun h => ?_) (fun h => ?_)))))))
 ·refine AWp.skip (AWp.seq (AWp.block (AWp.seq (rN (pI rfl (kC h rfl ⟨.inl rfl, .inl rfl, trivial⟩ rfl fun x228 h => ?_))))))
  refine pU rfl (pI rfl (pI rfl (pI rfl (pI rfl (dn (AWp.seq (AWp.seq (rN (pI rfl (pB rfl (dn (cB h (fun h => ?_) (fun h => ?_)))))))))))))
  ·refine sW (pT rfl (st (v := .dat (.st _ _)) ?_))
   refine pI rfl (dn (AWp.ret ?_))
   subst h
   exact ⟨_, rfl, rfl⟩
  refine AWp.skip (rN (pI rfl (pI rfl (dn (rN (pI rfl ?_))))))
  obtain ⟨x230, ex230, h⟩ := h.get
  refine ai ex230 rfl (pI rfl (dn ?_))
  exact ⟨⟨x230, x228.2⟩, h.1, h.2, sl⟩
 refine AWp.exit ?_
 refine sN (pI rfl (dn (AWp.seq (AWp.block ?_))))
 obtain ⟨I264, x265, hz266, hr267⟩ := h
 refine AWp.loop (I := fun p : Int × Int => mkSt [(4, .pt 4 [] 0), (6, .dat (.v (.int .i64 x52))), (7, .dat (.v (.int .i64 p.1))), (9, .dat (.v (.int .u64 x224))), (13, .dat (.v (.int .u64 p.2)))] [(4, .box 23 2 (.dat (GRat.enc GRat.zero)))]) (Inv := fun p => I264 p.1 p.2) (μ := fun p => x265 p.1 p.2) (x0 := ⟨x143, (1 : Int)⟩) hz266 sl (fun p hp => ?_)
 obtain ⟨x253, x254⟩ := p
 have h := hr267 x253 x254 hp
 refine AWp.seq (AWp.seq (rN (pI rfl (pB rfl (dn (cB h (fun h => ?_) (fun h => ?_)))))))
 ·refine AWp.skip (AWp.seq (AWp.block (rN (pI rfl ?_))))
  obtain ⟨x257, ex257, h⟩ := h.get
  refine ai ex257 rfl (pI rfl (dn (rN (pI rfl ?_))))
  obtain ⟨x258, ex258, h⟩ := h.get
  refine ai ex258 rfl (pI rfl (dn ?_))
  exact ⟨⟨x258, x257⟩, h.1, h.2, sl⟩
 refine AWp.exit ?_
 refine AWp.seq (AWp.seq (rN (pI rfl (pI rfl (kC h rfl ⟨.inl rfl, trivial⟩ rfl fun x259 h => ?_)))))
 refine pB rfl (dn (cB h (fun h => ?_) (fun h => ?_)))
 ·refine sW (pT rfl (st (v := .dat (.st _ _)) ?_))
  refine pI rfl (dn (AWp.ret ?_))
  subst h
  exact ⟨_, rfl, rfl⟩
 refine AWp.skip (AWp.seq (rW (pI rfl (pI rfl (pI rfl ?_)))))
 obtain ⟨hq, h⟩ := h
 obtain ⟨x261, ex261, h⟩ := h.get
 refine AOps.q rfl rfl rfl rfl rfl (qKq hq) ex261 ?_
 refine kC h rfl ⟨.inl rfl, .inl rfl, .inl rfl, trivial⟩ rfl fun x262 h => pT rfl ?_
 refine pI rfl (st (v := .dat (.st _ _)) ?_)
 refine pI rfl (dn (AWp.ret ?_))
 subst h
 exact ⟨_, rfl, rfl⟩
def qCv (s1 : ByteArray) (Q : ByteArray × ByteArray -> Prop) : Prop :=
 Call (q17 s1 (ByteArray.mk #[48, 49, 50, 51, 52, 53, 54, 55, 56, 57])) fun x2 =>
 Let (IntKind.i64.wrap (((s1.size : Nat) : Int) - ((x2.size : Nat) : Int))) fun x4 =>
 SlS s1 (0 : Int) x4 fun x5 =>
 Q (x5, x2)
theorem qJe {s1 : ByteArray} {r : ByteArray × ByteArray} (h : qCv s1 (fun r' => r' = r)) : q4f s1 r := by
 unfold qCv at h
 refine intr (L := [(0, .dat (.v (.string s1)))]) Tryz.func135 Tryz.ntmps135 ?_
 refine sN (pG rfl (pG rfl (dn (AWp.seq (rN (pG rfl (kC h rfl ⟨.inl rfl, .inl rfl, trivial⟩ rfl fun x2 h => ?_)))))))
 refine pG rfl (dn (AWp.seq (rN (pG rfl (pG rfl (pI rfl (pG rfl (pI rfl ?_))))))))
 obtain ⟨x4, ex4, h⟩ := h.get
 refine ai ex4 rfl ?_
 obtain ⟨h1, h2, h3, x5, ex5, h⟩ := h.get
 refine AOps.slsh q01 rfl rfl rfl rfl rfl rfl rfl h2 h3 ex5 ?_
 refine pG rfl (pG rfl (pG rfl (dn (AWp.ret ?_))))
 subst h
 exact ⟨_, rfl, rfl⟩
def q36 (s1 : ByteArray) (prefix2 : ByteArray) (Q : ByteArray × Bool -> Prop) : Prop :=
 Call (q28 s1 prefix2) fun x3 =>
 Q (x3.1, x3.2)
theorem q6z {s1 : ByteArray} {prefix2 : ByteArray} {r : ByteArray × Bool} (h : q36 s1 prefix2 (fun r' => r' = r)) : q4o s1 prefix2 r := by
 unfold q36 at h
 refine intr (L := [(0, .dat (.v (.string s1))), (1, .dat (.v (.string prefix2)))]) Tryz.func136 Tryz.ntmps136 ?_
 refine sN (pG rfl (pB rfl (dn (AWp.seq (rN (pG rfl (pG rfl (kC h rfl ⟨.inl rfl, .inl rfl, trivial⟩ rfl fun x3 h => ?_))))))))
 refine pG rfl (pB rfl (pG rfl (pB rfl (dn (AWp.ret ?_)))))
 subst h
 exact ⟨_, rfl, rfl⟩
def qEf (l1 : List Int) (by2 : Int) (Q : List Int -> Prop) : Prop :=
 Mk 1 ((l1.length : Nat) : Int) (0 : Int) fun x4 =>
 qKr x4 (0 : Int) (0 : Int) (fun (out95 : List Int) (rest96 : Int) (x97 : Int) next98 =>
 Br (decide (x97 < ((l1.length : Nat) : Int))) (
 At l1 x97 fun x112 =>
 Let (IntKind.u8.wrap (rest96 * (10 : Int))) fun x114 =>
 Let (IntKind.u8.wrap (x114 + x112)) fun x115 =>
 Let (IntKind.u8.wrap (x115 - (48 : Int))) fun x116 =>
 Nz by2 <|
 Let (IntKind.u8.wrap (Int.tdiv x116 by2)) fun x117 =>
 Let (IntKind.u8.wrap ((48 : Int) + x117)) fun x118 =>
 Nz by2 <|
 Let (Int.tmod x116 by2) fun x119 =>
 At out95 x97 fun x121 =>
 Let (IntKind.i64.wrap (x97 + (1 : Int))) fun x123 =>
 next98 (List.set out95 (Int.toNat x97) x118) x119 x123) (
 Q out95))
theorem qK5 {l1 : List Int} {by2 : Int} {r : List Int} (h : qEf l1 by2 (fun r' => r' = r)) : q7p l1 by2 r := by
 unfold qEf at h
 refine intr (L := [(0, .dat (.sl 5 1 (List.map (eInt .u8) l1))), (1, .dat (.v (.int .u8 by2)))]) Tryz.func141 Tryz.ntmps141 ?_
 refine sN (pS rfl (dn (AWp.seq (rN (pS rfl (al (((l1.length : Nat) : Int)) rfl ?_))))))
 obtain ⟨h1, h2, h3, x4, ex4, h⟩ := h.get
 refine AOps.makeownE q01 (e := (eInt .u8)) rfl rfl rfl rfl rfl rfl rfl h1 h2 h3 rfl ex4 ?_
 refine pO rfl (dn (AWp.seq (rN (pI rfl (dn (AWp.seq (AWp.seq (rN (pS rfl (al (((l1.length : Nat) : Int)) rfl (pI rfl (dn (AWp.block ?_)))))))))))))
 obtain ⟨I124, x125, hz126, hr127⟩ := h
 refine AWp.loop (I := fun p : (List Int) × Int × Int => mkSt [(1, .dat (.v (.int .u8 by2))), (5, .oref 1005), (6, .dat (.v (.int .u8 p.2.1))), (13, .dat (.sl 5 1 (List.map (eInt .u8) l1))), (14, .dat (.v (.int .i64 ((l1.length : Nat) : Int)))), (15, .dat (.v (.int .i64 p.2.2)))] [(1005, .row 5 1 (List.map (eInt .u8) p.1))]) (Inv := fun p => I124 p.1 p.2.1 p.2.2) (μ := fun p => x125 p.1 p.2.1 p.2.2) (x0 := ⟨x4, (0 : Int), (0 : Int)⟩) hz126 (slf (fun i => (if Nat.beq i 1005 then 12 else i))) (fun p hp => ?_)
 obtain ⟨out95, rest96, x97⟩ := p
 have h := hr127 out95 rest96 x97 hp
 refine sN (pW rfl (dn (AWp.seq (cB h (fun h => ?_) (fun h => ?_)))))
 ·refine AWp.skip (AWp.seq (AWp.block (AWp.seq (rN (pI rfl (kI h q1g rfl rfl rfl rfl rfl rfl rfl fun x112 h => ?_))))))
  refine pI rfl (pI rfl (pI rfl (dn (AWp.seq (rN (pI rfl ?_))))))
  obtain ⟨x114, ex114, h⟩ := h.get
  refine ai ex114 rfl (pI rfl ?_)
  obtain ⟨x115, ex115, h⟩ := h.get
  refine ai ex115 rfl ?_
  obtain ⟨x116, ex116, h⟩ := h.get
  refine ai ex116 rfl (pI rfl (dn (rE [(5, [1005]), (7, []), (25, [1005]), (26, [])] (pO rfl (pI rfl (pI rfl (pI rfl ?_)))))))
  obtain ⟨hq, h⟩ := h
  obtain ⟨x117, ex117, h⟩ := h.get
  refine AOps.q rfl rfl rfl rfl rfl (qHe hq) ex117 ?_
  obtain ⟨x118, ex118, h⟩ := h.get
  refine ai ex118 rfl (pI rfl (pI rfl ?_))
  obtain ⟨hq, h⟩ := h
  obtain ⟨x119, ex119, h⟩ := h.get
  refine AOps.q rfl rfl rfl rfl rfl (qAe hq) ex119 ?_
  obtain ⟨hi120, x121, hx122, h⟩ := h
  refine AOps.idxown q01 rfl rfl rfl rfl rfl rfl rfl rfl hi120 (qOg hi120 hx122) rfl ?_
  refine AOps.storerow q01 rfl rfl rfl rfl rfl rfl rfl rfl (qN9 hx122) rfl rfl rfl (qKs (e := (eInt .u8)) (x := x118)) ?_
  refine pI rfl (dn (rN ?_))
  obtain ⟨x123, ex123, h⟩ := h.get
  refine ai ex123 rfl (pI rfl (dn ?_))
  exact ⟨⟨(List.set out95 (Int.toNat x97) x118), x119, x123⟩, h.1, h.2, sl⟩
 refine AWp.exit ?_
 refine sN (pO rfl (pO rfl (dn (AWp.ret ?_))))
 subst h
 exact ⟨_, rfl, rfl⟩
def q0y (s1 : ByteArray) (prefix2 : ByteArray) (Q : ByteArray × Bool -> Prop) : Prop :=
 Call (q1a s1 prefix2) fun x3 =>
 Br (!x3) (Q (s1, false)) (
 SlS s1 ((prefix2.size : Nat) : Int) ((s1.size : Nat) : Int) fun x5 =>
 Q (x5, true))
theorem q1y {s1 : ByteArray} {prefix2 : ByteArray} {r : ByteArray × Bool} (h : q0y s1 prefix2 (fun r' => r' = r)) : q28 s1 prefix2 r := by
 unfold q0y at h
 refine intr (L := [(0, .dat (.v (.string s1))), (1, .dat (.v (.string prefix2)))]) Tryz.func155 Tryz.ntmps155 ?_
 refine sN (pG rfl (pB rfl (dn (AWp.seq (AWp.seq (rN (pG rfl (pG rfl (kC h rfl ⟨.inl rfl, .inl rfl, trivial⟩ rfl fun x3 h => ?_)))))))))
 refine pB rfl (dn (cB h (fun h => ?_) (fun h => ?_)))
 ·refine sN (pG rfl (pG rfl (pB rfl (dn (AWp.ret ?_)))))
  subst h
  exact ⟨_, rfl, rfl⟩
 refine AWp.skip (AWp.seq (rN (pG rfl (pG rfl (pI rfl ?_)))))
 obtain ⟨h1, h2, h3, x5, ex5, h⟩ := h.get
 refine AOps.slsl q01 rfl rfl rfl rfl rfl rfl rfl rfl h1 h2 ex5 ?_
 refine pG rfl (pB rfl (dn (AWp.ret ?_)))
 subst h
 exact ⟨_, rfl, rfl⟩
def q1d (s1 : ByteArray) (prefix2 : ByteArray) (Q : Bool -> Prop) : Prop :=
 Br (decide (((s1.size : Nat) : Int) >= ((prefix2.size : Nat) : Int))) (
 SlS s1 (0 : Int) ((prefix2.size : Nat) : Int) fun x4 =>
 Q (x4.toList == prefix2.toList)) (
 Q false)
theorem q5o {s1 : ByteArray} {prefix2 : ByteArray} {r : Bool} (h : q1d s1 prefix2 (fun r' => r' = r)) : q1a s1 prefix2 r := by
 unfold q1d at h
 refine intr (L := [(0, .dat (.v (.string s1))), (1, .dat (.v (.string prefix2)))]) Tryz.func167 Tryz.ntmps167 ?_
 refine sN (pB rfl (dn (AWp.seq (rN (pG rfl (pI rfl (pG rfl (pI rfl (pB rfl (pB rfl (sB 10 h (fun h => ?_) (fun h => ?_))))))))))))
 ·refine pG rfl (pG rfl (pI rfl ?_))
  obtain ⟨h1, h2, h3, x4, ex4, h⟩ := h.get
  refine AOps.slsh q01 rfl rfl rfl rfl rfl rfl rfl h2 h3 ex4 ?_
  refine pG rfl (pB rfl (pB rfl (pB rfl (dn (AWp.ret ?_)))))
  subst h
  exact ⟨_, rfl, rfl⟩
 refine fo 6 rfl (pB rfl (pB rfl (dn (AWp.ret ?_))))
 subst h
 exact ⟨_, rfl, rfl⟩
end Go.Sim.YtifjflhnfjhijaaGreatDoor
